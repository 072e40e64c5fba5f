/- Of CallsG: ScrP. No condition. -/
import Derived.Test.YthhfkhhhclmimaaGreatDoorM39
import Derived.Lib.ParseIntB
import Derived.Lib.IndexMore
set_option linter.unusedVariables false
set_option linter.unusedSimpArgs false
namespace Go.Proofs.Shed
namespace Scr
def cutB:List UInt8→UInt8→List UInt8 × List UInt8 × Bool
 | [],_=>([],[],false)
 | x :: s,c=>if x=c then ([],s,true) else (x :: (cutB s c).1,(cutB s c).2.1,(cutB s c).2.2)
theorem lib_cut (s:List UInt8) (c:UInt8):Lib.cut s [c]=cutB s c:=by
 induction s with
 | nil=>rfl
 | cons x s ih =>
  unfold Lib.cut at ih ⊢;unfold Lib.index cutB;by_cases e:x=c
  · subst e
    simp [List.isPrefixOf]
  · have hp:List.isPrefixOf [c] (x :: s)=false:=by
     simp [List.isPrefixOf]
     exact fun h=>e h.symm
    have hg:=Lib.index_ge s [c];rw [if_neg e,← ih];simp only [hp,Bool.false_eq_true,if_false]
    by_cases h0:0≤Lib.index s [c]
    · have h1:(Lib.index s [c] == -1)=false:=by simp;omega
      simp only [h1,Bool.false_eq_true,if_false]
      rw [if_pos (by omega),if_pos h0]
      have h2:(Lib.index s [c]+1).toNat=(Lib.index s [c]).toNat+1:=by omega
      rw [h2];simp only [List.take_succ_cons,List.length_cons,List.length_nil]
      congr 2
    · have h1:(Lib.index s [c] == -1)=true:=by simp;omega
      simp only [h1,if_true]
      rw [if_neg (by omega),if_neg h0]
end Scr
end Go.Proofs.Shed
