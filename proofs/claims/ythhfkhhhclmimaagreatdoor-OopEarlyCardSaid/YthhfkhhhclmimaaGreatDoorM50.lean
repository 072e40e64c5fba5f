/- A part of EarlyG. No condition. -/
import Derived.Test.YthhfkhhhclmimaaGreatDoorRows
import Derived.SevenTiedAt
set_option linter.unusedVariables false
set_option linter.unusedSimpArgs false
namespace Go.Proofs.YthhfkhhhclmimaaGreatDoor.lawOopEarly
open Go
set_option maxRecDepth 100000
set_option maxHeartbeats 40000000
theorem a1:(Rows.oopEarlyRow.inPlace == Tryz.prog.inPlace 6)=true:=by kernel_rfl
theorem a2:(Rows.oopEarlyRow.unfollowed == Tryz.prog.unfollowed 6)=true:=by kernel_rfl
theorem a3:(Rows.oopEarlyRow.recurses == Tryz.prog.recurses 6)=true:=by kernel_rfl
theorem a4:(Rows.oopEarlyRow.named == Tryz.prog.varsNamed 6)=true:=by kernel_rfl
theorem a5:Rows.oopEarlyRow.wf (OpenSpec.ofChange Rows.oopEarlySpec)=true:=by kernel_rfl
theorem a6:laidOutB Tryz.prog=true:=by kernel_rfl
theorem a7:mapsRowed Tryz.prog=true:=by kernel_rfl
theorem SS:joinedFacts Tryz.prog 6 Tryz.f6 Rows.oopEarlySpec Rows.oopEarlyRow=true:=by
 unfold joinedFacts;simp only[Bool.and_eq_true]
 repeat' apply And.intro
 all_goals first | (with_reducible exact a1) | (with_reducible exact a2) | (with_reducible exact a3) | (with_reducible exact a4) | (with_reducible exact a5) | (with_reducible exact a6) | (with_reducible exact a7) | (as_aux_lemma=>kernel_rfl)
theorem a8:Rows.oopEarlyRow.wfByText (OpenSpec.ofChange Rows.oopEarlySpec)=true:=by kernel_rfl
theorem a9:true=Rows.oopEarlyRow.goesBy Tryz.pinned.checked.prog:=by kernel_rfl
end Go.Proofs.YthhfkhhhclmimaaGreatDoor.lawOopEarly
