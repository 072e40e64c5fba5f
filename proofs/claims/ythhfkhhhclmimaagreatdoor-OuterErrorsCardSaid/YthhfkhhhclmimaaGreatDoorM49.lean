/- Of ErrG: FactErrG. No condition. -/
import Derived.Test.YthhfkhhhclmimaaGreatDoorRows
import Derived.JoinedOf
import Derived.KernelRfl
import Derived.SevenTiedAt
set_option linter.unusedVariables false
set_option linter.unusedSimpArgs false
namespace Go.Proofs.YthhfkhhhclmimaaGreatDoor.lawOuterErrors
open Go
set_option maxRecDepth 100000
set_option maxHeartbeats 40000000
theorem a1 : (Rows.outerErrorsRow.inPlace == Tryz.prog.inPlace 4) = true := by kernel_rfl
theorem a2 : (Rows.outerErrorsRow.unfollowed == Tryz.prog.unfollowed 4) = true := by kernel_rfl
theorem a3 : (Rows.outerErrorsRow.recurses == Tryz.prog.recurses 4) = true := by kernel_rfl
theorem a4 : (Rows.outerErrorsRow.named == Tryz.prog.varsNamed 4) = true := by kernel_rfl
theorem a5 : Rows.outerErrorsRow.wf (OpenSpec.ofChange Rows.outerErrorsSpec) = true := by kernel_rfl
theorem a6 : laidOutB Tryz.prog = true := by kernel_rfl
theorem a7 : mapsRowed Tryz.prog = true := by kernel_rfl
theorem closed : joinedFacts Tryz.prog 4 Tryz.f4 Rows.outerErrorsSpec Rows.outerErrorsRow = true := by
 unfold joinedFacts
 simp only [Bool.and_eq_true]
 repeat' apply And.intro
 all_goals first | (with_reducible exact a1) | (with_reducible exact a2) | (with_reducible exact a3) | (with_reducible exact a4) | (with_reducible exact a5) | (with_reducible exact a6) | (with_reducible exact a7) | (as_aux_lemma => kernel_rfl)
theorem a8 : Rows.outerErrorsRow.wfByText (OpenSpec.ofChange Rows.outerErrorsSpec) = true := by kernel_rfl
theorem a9 : true = Rows.outerErrorsRow.goesBy Tryz.pinned.checked.prog := by kernel_rfl
end Go.Proofs.YthhfkhhhclmimaaGreatDoor.lawOuterErrors
