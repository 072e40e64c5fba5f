/- ScriptShows: the closed facts of its row. No condition. -/
import Derived.Test.YthhfkhhhclmimaaGreatDoorRows
import Derived.JoinedOf
import Derived.KernelRfl
import Derived.SevenTiedAt
set_option linter.unusedVariables false
set_option linter.unusedSimpArgs false
namespace Go.Proofs.YthhfkhhhclmimaaGreatDoor.lawScriptShows
open Go
set_option maxRecDepth 100000
set_option maxHeartbeats 40000000
theorem a1 : (Rows.scriptShowsRow.inPlace == Tryz.prog.inPlace 3) = true := by kernel_rfl
theorem a2 : (Rows.scriptShowsRow.unfollowed == Tryz.prog.unfollowed 3) = true := by kernel_rfl
theorem a3 : (Rows.scriptShowsRow.recurses == Tryz.prog.recurses 3) = true := by kernel_rfl
theorem a4 : (Rows.scriptShowsRow.named == Tryz.prog.varsNamed 3) = true := by kernel_rfl
theorem a5 : Rows.scriptShowsRow.wf (OpenSpec.ofChange Rows.scriptShowsSpec) = true := by kernel_rfl
theorem a6 : laidOutB Tryz.prog = true := by kernel_rfl
theorem a7 : mapsRowed Tryz.prog = true := by kernel_rfl
theorem closed : joinedFacts Tryz.prog 3 Tryz.f3 Rows.scriptShowsSpec Rows.scriptShowsRow = true := by
  unfold joinedFacts
  simp only [Bool.and_eq_true]
  repeat' apply And.intro
  all_goals first | (with_reducible exact a1) | (with_reducible exact a2) | (with_reducible exact a3) | (with_reducible exact a4) | (with_reducible exact a5) | (with_reducible exact a6) | (with_reducible exact a7) | (as_aux_lemma => kernel_rfl)
theorem a8 : Rows.scriptShowsRow.wfByText (OpenSpec.ofChange Rows.scriptShowsSpec) = true := by kernel_rfl
theorem a9 : true = Rows.scriptShowsRow.goesBy Tryz.pinned.checked.prog := by kernel_rfl
end Go.Proofs.YthhfkhhhclmimaaGreatDoor.lawScriptShows
