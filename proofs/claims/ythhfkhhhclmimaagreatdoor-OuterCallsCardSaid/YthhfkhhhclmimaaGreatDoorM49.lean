/- Of CallsG: FactCallG. No condition. -/
import Derived.Test.YthhfkhhhclmimaaGreatDoorRows
import Derived.SevenTiedAt
set_option linter.unusedVariables false
set_option linter.unusedSimpArgs false
namespace Go.Proofs.YthhfkhhhclmimaaGreatDoor.lawOuterCalls
open Go
set_option maxRecDepth 100000
set_option maxHeartbeats 40000000
theorem a1:(Rows.outerCallsRow.inPlace == Tryz.prog.inPlace 5)=true:=by kernel_rfl
theorem a2:(Rows.outerCallsRow.unfollowed == Tryz.prog.unfollowed 5)=true:=by kernel_rfl
theorem a3:(Rows.outerCallsRow.recurses == Tryz.prog.recurses 5)=true:=by kernel_rfl
theorem a4:(Rows.outerCallsRow.named == Tryz.prog.varsNamed 5)=true:=by kernel_rfl
theorem a5:Rows.outerCallsRow.wf (OpenSpec.ofChange Rows.outerCallsSpec)=true:=by kernel_rfl
theorem a6:laidOutB Tryz.prog=true:=by kernel_rfl
theorem a7:mapsRowed Tryz.prog=true:=by kernel_rfl
theorem closed:joinedFacts Tryz.prog 5 Tryz.f5 Rows.outerCallsSpec Rows.outerCallsRow=true:=by
 unfold joinedFacts;simp only [Bool.and_eq_true]
 repeat' apply And.intro
 all_goals first | (with_reducible exact a1) | (with_reducible exact a2) | (with_reducible exact a3) | (with_reducible exact a4) | (with_reducible exact a5) | (with_reducible exact a6) | (with_reducible exact a7) | (as_aux_lemma=>kernel_rfl)
theorem a8:Rows.outerCallsRow.wfByText (OpenSpec.ofChange Rows.outerCallsSpec)=true:=by kernel_rfl
theorem a9:true=Rows.outerCallsRow.goesBy Tryz.pinned.checked.prog:=by kernel_rfl
end Go.Proofs.YthhfkhhhclmimaaGreatDoor.lawOuterCalls
