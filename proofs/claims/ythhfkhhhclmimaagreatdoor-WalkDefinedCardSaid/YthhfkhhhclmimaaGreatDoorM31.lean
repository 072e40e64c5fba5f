/- A part of WalkG. No condition. -/
import Derived.Test.YthhfkhhhclmimaaGreatDoorM04
import Derived.Test.YthhfkhhhclmimaaGreatDoorM22
set_option linter.unusedVariables false
set_option linter.unusedSimpArgs false
open Go.Proofs.Tryz
set_option maxRecDepth 10000
set_option maxHeartbeats 4000000
namespace Go.Proofs.dS
open Go Go.RowKit Go.Proofs.K
structure Yq(w:World)(d b:Nat)(s:dK):Prop where
 head:w.heap[d]?=some (.cells #[cD b,I_ s.ew,I_ s.gm,I_ s.depth,I_ s.dL,I_ s.under] 169 (0,0))
 ok:s.Ok
theorem Yq.ct{w w':World}{d b:Nat}{s:dK}(h:Yq w d b s){S:Nat->Prop}(k:cq S w w')(a:¬ S d):Yq w' d b s:=⟨k.heap h.head a,h.ok⟩
theorem Yq.lt{w:World}{d b:Nat}{s:dK}(h:Yq w d b s):d<w.heap.size:=cA h.head
theorem Yq.sE{w:World}{d b:Nat}{s:dK}(h:Yq w d b s)(n:Int)(a:0<=n)(c:n<=s.gm):Yq (w.setCell ⟨d,3,none⟩ (I_ n)) d b { s with depth:=n } :=
 ⟨cz h.head _,h.ok.1,h.ok.2.1,a,c,h.ok.2.2.2.2⟩
theorem mW(w:World)(d b:Nat)(s:dK)(h:Yq w d b s):Calls prog 18 #[cD d] w fun e w'=>e=.returned (I_ s.depth)/\w=w':=by
 have a:=cp (i:=3) h.head rfl;go_enter func18,ntmps18;go_wp2;go_ret;exact⟨rfl,rfl⟩
theorem xH(w:World)(d b:Nat)(s:dK)(i:Int)(h:Yq w d b s)(x : -1099511627776<=i)(y:i<=1099511627776) :
 Calls prog 145 #[cD d,I_ i] w fun e w'=>e=.returned (I_ (s.ft i))/\K_ w w':=by
 obtain⟨g,p,r,t,u,v,_⟩:=h;have k:=fun (q:fP w)=>q.2.cell (cp (i:=1) g rfl) id;have l:=fun (q:fP w)=>q.2.cell (cp (i:=3) g rfl) id;obtain⟨j,z,a,A,B⟩:=s;unfold dK.ft;simp only at p r t u v k l |-;have C:IntKind.i64.wrap (a-1)=a-1:=IntWalk.i64_in _ (by omega);have D:IntKind.i64.wrap (a-1-i)=a-1-i:=IntWalk.i64_in _ (by omega);have E:IntKind.i64.wrap ((a-1-i)*8)=(a-1-i)*8:=IntWalk.i64_in _ (by omega);have F:IntKind.i64.wrap (j+(a-1-i)*8)=j+(a-1-i)*8:=IntWalk.i64_in _ (by omega);clear g;go_enter func145,ntmps145;go_wp2_with fail;refine Go.Proofs.K.cW ?iX ?iY ?_;case iX=>kernel_rfl
 case iY=>kernel_rfl
 repeat ((with_reducible refine wpQuiet_step ?_);intro f c;go_simp;first | ((with_reducible refine c _ ?_);clear c f) | (refine c _ ?_;clear c f) | (apply Exists.intro;refine⟨fun _=>?_,c _ ?_⟩;(fail);clear c f))
 with_reducible refine wpQuiet_nil ?_
 intro _ m;obtain⟨⟨G,o⟩,n⟩:=m;subst n;go_wp2;go_ret;exact⟨rfl,o⟩
theorem LN(w:World)(d b p:Nat)(s:dK)(m:Mem)(i:Int)(h:Yq w d b s)(z:dY w b p m) :
 Calls prog 78 #[cD d,I_ i] w fun e w'=>e=.returned (.tuple #[I_ (dK.cM m s i).1,I_ (dK.cM m s i).2])/\K_ w w':=by
 have F:=cp (i:=3) h.head rfl;unfold dK.cM;have k:=h.ok;unfold dK.Ok at k;by_cases g:i<0
 . have u:decide (i<0)=true:=decide_eq_true g
   rw[if_pos g];clear g;go_enter func78,ntmps78;go_wp2;go_ret2;exact⟨rfl,cq.refl _ _⟩
 . have u:decide (i<0)=false:=decide_eq_false g
   rw[if_neg g];by_cases j:s.depth<=i
   . have v:decide (s.depth<=i)=true:=decide_eq_true j
     rw[if_pos j];have G:=fun (q:fP w)=>q.2.cell (cp (i:=5) h.head rfl) id;clear g j k;obtain⟨y,A,x,B,C⟩:=s;go_enter func78,ntmps78;go_wp2_with fail;refine Go.Proofs.K.cW ?nM ?nO ?_;case nM=>kernel_rfl
     case nO=>kernel_rfl
     repeat ((with_reducible refine wpQuiet_step ?_);intro f c;go_simp;first | ((with_reducible refine c _ ?_);clear c f) | (refine c _ ?_;clear c f) | (apply Exists.intro;refine⟨fun _=>?_,c _ ?_⟩;(fail);clear c f))
     with_reducible refine wpQuiet_nil ?_
     intro _ l;obtain⟨⟨D,o⟩,n⟩:=l;subst n;go_wp2;go_ret2;exact⟨rfl,o⟩
   . have v:decide (s.depth<=i)=false:=decide_eq_false j
     rw[if_neg j];have E:=fun (q:fP w)=>q.2.cell (cp (i:=0) h.head rfl) id;have t:=h_ fun (q:fP w)=>xH q.1 d b s i (h.ct q.2 id) (by omega) (by omega);have r:=h_ fun (q:fP w)=>(eu q.1 b p m (s.ft i) (z.ct q.2 id id)).mono (fun e w' (h:_/\_)=>(⟨h.1,h.2 ▸ cq.refl (fun _=>False) _⟩:_/\K_ q.1 w'));generalize s.ft i=a at t r |-;clear g j k;obtain⟨y,A,x,B,C⟩:=s;go_enter func78,ntmps78;go_wp2_with fail;refine Go.Proofs.K.cW ?vb ?vc ?_;case vb=>kernel_rfl
     case vc=>kernel_rfl
     repeat ((with_reducible refine wpQuiet_step ?_);intro f c;go_simp;first | ((with_reducible refine c _ ?_);clear c f) | (refine c _ ?_;clear c f) | (apply Exists.intro;refine⟨fun _=>?_,c _ ?_⟩;(first | exact K.gO (t.out _) | exact K.gO (r.out _));clear c f))
     with_reducible refine wpQuiet_nil ?_
     intro _ l;obtain⟨⟨D,o⟩,n⟩:=l;subst n;go_wp2;go_ret2;exact⟨rfl,o⟩
end Go.Proofs.dS
