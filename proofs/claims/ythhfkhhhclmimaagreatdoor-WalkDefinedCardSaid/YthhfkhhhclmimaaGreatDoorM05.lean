/- A part of WalkG. No condition. -/
import Derived.Test.YthhfkhhhclmimaaGreatDoorM04
set_option linter.unusedVariables false
set_option linter.unusedSimpArgs false
open Go.Proofs.Tryz
set_option maxRecDepth 10000
set_option maxHeartbeats 4000000
namespace Go.Proofs.dS
open Go Go.RowKit Go.Proofs.K
theorem GN(w:World)(b o:Nat)(m:Mem)(c a:Int)(h:qJ w b o m)(d:0<=c)(i:c % 8=0)(j:a % 8=0)(k:a<=m.size)(l:16<=a-c) :
 Calls prog 133 #[cD b,I_ c,I_ a] w fun e w'=>e=.returned (.bool true)/\w=w':=by
 have q:=h.cell;have p:=h.le;have f:c.tmod 8=0:=by rw[Int.tmod_eq_emod_of_nonneg d];exact i
 have g:a.tmod 8=0:=by rw[Int.tmod_eq_emod_of_nonneg (by omega)];exact j
 have n:wrap64 (a-c)=a-c:=IntWalk.wrap64_in _ (by omega);have r:decide (0<=c)=true:=decide_eq_true d;have s:(c.tmod 8 == 0)=true:=by rw[f];rfl
 have t:(a.tmod 8 == 0)=true:=by rw[g];rfl
 have u:decide (a<=(m.size:Int))=true:=decide_eq_true k;have v:decide (c<=a)=true:=decide_eq_true (by omega);have x:decide ((16:Int)<=wrap64 (a-c))=true:=decide_eq_true (by rw[n];exact l);clear h n d i j k l f g p;go_enter func133,ntmps133;go_upto_region 2 with fail;generalize m.size=y at *;go_wp2;go_ret;exact⟨rfl,rfl⟩
theorem JU(w:World)(b d:Nat)(m:Mem)(a c:Int)(h:qJ w b d m)(n:0<=a)(o:c<=m.size)(p:a<=c) :
 Calls prog 134 #[cD b,I_ a,I_ c] w fun e w'=>∃ g:Nat,e=.returned (cD g)/\qJ w' b d (m.setCell a (c-a)).1/\w.heap.size<=g/\cq (fun k=>k=d) w w':=by
 have q:=h.le;have i:wrap64 (c-a)=c-a:=IntWalk.wrap64_in _ (by omega);have f:=qj w b d m a (c-a) h;generalize m.setCell a (c-a)=r at f |-;rw[<- i]at f;clear i h q n o p;go_enter func134,ntmps134;go_wp2_with fail;refine f.mono ?_;rintro e t ⟨rfl,s,j⟩;go_wp2;go_ret;have l:=dR t (.cells #[cD b,I_ a,I_ c] 305);exact⟨_,rfl,s.ct l id id,j.size,j.trans (l.mono (fun _ _ e=>e.elim))⟩
end Go.Proofs.dS
