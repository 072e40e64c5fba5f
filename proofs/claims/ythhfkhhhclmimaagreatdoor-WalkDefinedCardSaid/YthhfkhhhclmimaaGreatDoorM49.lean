/- A part of WalkG. No condition. -/
import Derived.Test.YthhfkhhhclmimaaGreatDoorRows
import Derived.SevenTiedAt
set_option linter.unusedVariables false
set_option linter.unusedSimpArgs false
open Go.Proofs.Tryz
namespace Go.Proofs.YthhfkhhhclmimaaGreatDoor.lawWalkDefined
open Go
set_option maxRecDepth 100000
set_option maxHeartbeats 40000000
theorem a1:(Rows.walkDefinedRow.inPlace == Tryz.prog.inPlace 8)=true:=by kernel_rfl
theorem a2:(Rows.walkDefinedRow.unfollowed == Tryz.prog.unfollowed 8)=true:=by kernel_rfl
theorem a3:(Rows.walkDefinedRow.recurses == Tryz.prog.recurses 8)=true:=by kernel_rfl
theorem a4:(Rows.walkDefinedRow.named == Tryz.prog.varsNamed 8)=true:=by kernel_rfl
theorem a5:Rows.walkDefinedRow.wf (OpenSpec.ofChange Rows.walkDefinedSpec)=true:=by kernel_rfl
theorem a6:laidOutB Tryz.prog=true:=by kernel_rfl
theorem a7:mapsRowed Tryz.prog=true:=by kernel_rfl
theorem SS:joinedFacts Tryz.prog 8 Tryz.f8 Rows.walkDefinedSpec Rows.walkDefinedRow=true:=by
 unfold joinedFacts;simp only[Bool.and_eq_true]
 repeat' apply And.intro
 all_goals first | (with_reducible exact a1) | (with_reducible exact a2) | (with_reducible exact a3) | (with_reducible exact a4) | (with_reducible exact a5) | (with_reducible exact a6) | (with_reducible exact a7) | (as_aux_lemma=>kernel_rfl)
theorem a8:Rows.walkDefinedRow.wfByText (OpenSpec.ofChange Rows.walkDefinedSpec)=true:=by kernel_rfl
theorem a9:true=Rows.walkDefinedRow.goesBy Tryz.pinned.checked.prog:=by kernel_rfl
end Go.Proofs.YthhfkhhhclmimaaGreatDoor.lawWalkDefined
