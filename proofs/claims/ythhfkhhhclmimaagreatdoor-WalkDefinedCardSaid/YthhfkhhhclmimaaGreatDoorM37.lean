/- A part of WalkG. No condition. -/
import Derived.Test.YthhfkhhhclmimaaGreatDoorM23
import Derived.Test.YthhfkhhhclmimaaGreatDoorM11
set_option linter.unusedVariables false
set_option linter.unusedSimpArgs false
open Go.Proofs.Tryz
set_option maxRecDepth 10000
set_option maxHeartbeats 4000000
namespace Go.Proofs.dS
open Go Go.RowKit Go.Proofs.K
namespace Src
def lL(s:List UInt8)(n:Nat):Nat:=if Lib.indexByte (s.drop n) 10<0 then s.length else n+(Lib.indexByte (s.drop n) 10).toNat+1
end Src
theorem zl(l:List UInt8)(c:UInt8) : -1<=Lib.indexByte l c/\Lib.indexByte l c<l.length:=by
 induction l with
 | nil=>simp[Lib.indexByte]
 | cons b l a =>
  unfold Lib.indexByte;rw[List.length_cons];split
  . omega
  . split
    . omega
    . omega
theorem Bp(w:World)(q:Nat)(s:List UInt8)(n:Nat)(h:jB w q s n):Calls prog 27 #[cD q] w fun e w'=>e=.returned (S_ (s.drop n))/\K_ w w':=by
 have d:C_ w q 0=some (S_ s):=cp h.head rfl;have f:C_ w q 1=some (I_ (n:Int)):=cp h.head rfl;have a:=h.le;have g:=h.AH;have b:=jg s n s.length a;rw[List.take_of_length_le (by simp)]at b;have c:(n:Int)<=s.length:=by omega
 clear h;go_enter func27,ntmps27;go_wp2_with fail;go_region
 all_goals
  go_wp2;go_ret;exact⟨rfl,cq.drew _ _⟩
theorem Mg(w:World)(q:Nat)(s:List UInt8)(n:Nat)(h:jB w q s n):Calls prog 87 #[cD q] w fun e w'=>e=.returned (.tuple #[])/\jB w' q s (Src.lL s n)/\cq (fun g=>g=q) w w':=by
 have u:=h_ (Bp w q s n h);have x:=zl (s.drop n) 10;rw[List.length_drop]at x;have f:=h_ fun V=>strings_IndexByte ⟨(s.drop n).toArray⟩ 10 V;have F:=h.le;have H:=h.AH;have b:Src.lL s n=if Lib.indexByte (s.drop n) 10<0 then s.length else n+(Lib.indexByte (s.drop n) 10).toNat+1:=rfl;have v:Lib.indexByte (⟨(s.drop n).toArray⟩:ByteArray).data.toList (10:Int).toNat.toUInt8=Lib.indexByte (s.drop n) 10:=by simp
 rw[v]at f;generalize Lib.indexByte (s.drop n) 10=i at x f b;generalize Src.lL s n=m at b |-;clear v;by_cases j:i<0
 . have C:decide (0<=i)=false:=decide_eq_false (by omega)
   rw[if_pos j]at b;subst b;have l:=h_ h;clear h j;go_enter func87,ntmps87;go_wp2_with fail;refine u.out.mono ?_;rintro e t ⟨rfl,c⟩;have a:=h_ (l.out.ct c id);have o:=h_ c;clear c;go_wp2_with fail;refine(f.out t).mono ?_;rintro e d ⟨rfl,rfl⟩;have A:C_ d q 0=some (S_ s):=cp a.out.head rfl;have B:C_ d q 1=some (I_ (n:Int)):=cp a.out.head rfl;have D:=cB (i:=1) a.out.head;have r:=h_ (a.out.cM s.length (Nat.le_refl _));have p:=h_ ((o.out.mono (fun _ _ e=>e.elim)).trans (cq.setCell (S:=fun g=>g=q) d ⟨q,1,none⟩ (I_ (s.length:Int)) (fun _=>rfl)));go_wp2;go_end0;exact⟨rfl,r.out,p.out⟩
 . have C:decide (0<=i)=true:=decide_eq_true (by omega)
   rw[if_neg j]at b;obtain⟨k,rfl⟩:∃ k:Nat,i=k:=⟨i.toNat,by omega⟩;have b:m=n+k+1:=by rw[b];simp
   have l:=h_ h;have E:m<=s.length:=by omega
   have y:=h_ E;have G:(n:Int)+((k:Int)+1)=(m:Int):=by omega
   have z:=h_ b;have I:wrap64 ((k:Int)+1)=(k:Int)+1:=IntWalk.wrap64_in _ (by omega);clear h j b;go_enter func87,ntmps87;go_wp2_with fail;refine u.out.mono ?_;rintro e t ⟨rfl,c⟩;have a:=h_ (l.out.ct c id);have o:=h_ c;clear c;go_wp2_with fail;refine(f.out t).mono ?_;rintro e d ⟨rfl,rfl⟩;have A:C_ d q 0=some (S_ s):=cp a.out.head rfl;have B:C_ d q 1=some (I_ (n:Int)):=cp a.out.head rfl;have D:=cB (i:=1) a.out.head;have r:=h_ (a.out.cM m y.out);have p:=h_ ((o.out.mono (fun _ _ e=>e.elim)).trans (cq.setCell (S:=fun g=>g=q) d ⟨q,1,none⟩ (I_ (m:Int)) (fun _=>rfl)));go_wp2;go_end0;rw[show(n:Int)+(k:Int)+1=(m:Int) by have:=z.out;omega];exact⟨rfl,r.out,p.out⟩
end Go.Proofs.dS
