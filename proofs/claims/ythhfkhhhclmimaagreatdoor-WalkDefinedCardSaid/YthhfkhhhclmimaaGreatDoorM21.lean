/- A part of WalkG. No condition. -/
import Derived.Test.YthhfkhhhclmimaaGreatDoorM04
set_option linter.unusedVariables false
set_option linter.unusedSimpArgs false
open Go.Proofs.Tryz
set_option maxRecDepth 10000
set_option maxHeartbeats 4000000
namespace Go.Proofs.dS
open Go Go.RowKit Go.Proofs.K
theorem pB(w:World)(b:Int):Calls prog 90 #[I_ b] w fun e w'=>e=.returned (.bool (dE.right b))/\w=w':=by
 have a:Hid (dE.right b=(decide (2<=b) && decide (b<=36))):=rfl;generalize dE.right b=r at a |-;by_cases f:2<=b
 . have c:decide (2<=b)=true:=decide_eq_true f
   by_cases g:b<=36
   . have d:decide (b<=36)=true:=decide_eq_true g
     go_enter func90,ntmps90;go_wp2;go_ret;exact⟨by rw[a.out,c,d];rfl,rfl⟩
   . have d:decide (b<=36)=false:=decide_eq_false g
     go_enter func90,ntmps90;go_wp2;go_ret;exact⟨by rw[a.out,c,d];rfl,rfl⟩
 . have c:decide (2<=b)=false:=decide_eq_false f
   go_enter func90,ntmps90;go_wp2;go_ret;exact⟨by rw[a.out,c];rfl,rfl⟩
namespace dE
def l0(c:Int):Int:=if 48<=c/\c<=57 then c-48 else if 97<=c/\c<=122 then c-87 else if 65<=c/\c<=90 then c-55 else -1
def jW(c:Int):Int:=if c=35 then 10 else if c=36 then 16 else if c=37 then 2 else 0
end dE
theorem Hf(w:World)(c:Nat)(a:c<256):Calls prog 380 #[.int .u8 (c:Int)] w fun e w'=>e=.returned (I_ (dE.l0 c))/\w=w':=by
 go_enter func380,ntmps380;go_wp2_with fail;all_goals
  go_ret;refine⟨congrArg (fun n=>Ending.returned (I_ n)) ?_,rfl⟩;unfold dE.l0
  (repeat' split) <;> omega
theorem uU(w:World)(c:Nat)(a:c<256):Calls prog 251 #[.int .u8 (c:Int)] w fun e w'=>e=.returned (I_ (dE.jW c))/\w=w':=by
 go_enter func251,ntmps251;go_wp2_with fail;all_goals
  go_ret;refine⟨congrArg (fun n=>Ending.returned (I_ n)) ?_,rfl⟩;unfold dE.jW;simp_all
end Go.Proofs.dS
