/- A part of WalkG. No condition. -/
import Derived.Test.YthhfkhhhclmimaaGreatDoorM31
import Derived.Test.YthhfkhhhclmimaaGreatDoorM07
set_option linter.unusedVariables false
set_option linter.unusedSimpArgs false
open Go.Proofs.Tryz
set_option maxRecDepth 10000
set_option maxHeartbeats 4000000
namespace Go.Proofs.dS
open Go Go.RowKit Go.Proofs.K
theorem oW(w:World)(d b:Nat)(s:dK)(n:Int)(h:Yq w d b s) :
 Calls prog 53 #[cD d,I_ n] w fun e w'=>e=.returned (I_ (dK.drop s n).2)/\Yq w' d b (dK.drop s n).1/\cq (fun k=>k=d) w w':=by
 have q:=cp (i:=2) h.head rfl;have t:=cp (i:=4) h.head rfl;have r:=cp (i:=3) h.head rfl;have u:=cB (i:=3) h.head;unfold dK.drop;by_cases a:n<0
 . have f:decide (n<0)=true:=decide_eq_true a
   rw[if_pos a];have H:=h;clear a h;go_enter func53,ntmps53;go_wp2;go_ret;exact⟨rfl,H,cq.refl _ _⟩
 . have f:decide (n<0)=false:=decide_eq_false a
   rw[if_neg a];by_cases c:s.gm<n
   . have g:decide (s.gm<n)=true:=decide_eq_true c
     rw[if_pos c];have H:=h;clear a c h;obtain⟨l,m,j,o,p⟩:=s;go_enter func53,ntmps53;go_wp2;go_ret;exact⟨rfl,H,cq.refl _ _⟩
   . have g:decide (s.gm<n)=false:=decide_eq_false c
     rw[if_neg c];have H:=(h.sE n (by omega) (by omega));clear a c h;obtain⟨l,m,j,o,p⟩:=s;go_enter func53,ntmps53;go_wp2;go_ret;exact⟨rfl,H,cq.setCell _ _ _ (fun _=>rfl)⟩
theorem Fp(w:World)(d b p:Nat)(s:dK)(m:Mem)(h:Yq w d b s)(v:dY w b p m) :
 Calls prog 43 #[cD d] w fun e w'=>e=.returned (.tuple #[I_ (dK.qI m s).2.1,I_ (dK.qI m s).2.2])/\Yq w' d b (dK.qI m s).1/\cq (fun k=>k=d) w w':=by
 have g:=LN w d b p s m 0 h v;have q:=h.ok;unfold dK.Ok at q;have f:(dK.cM m s 0).2=0->1<=s.depth:=by
  intro e;by_cases t:s.depth<=0
  . unfold dK.cM at e
    rw[if_neg (by omega),if_pos t]at e;exact absurd e q.2.2.2.2.2.1
  . omega
 unfold dK.qI;generalize dK.cM m s 0=r at g f |-;obtain⟨n,e⟩:=r;simp only at g f |-;have l:=cp (i:=3) h.head rfl;have o:=cB (i:=3) h.head;have u:=h.lt;by_cases c:e=0
 . have B:=f c
   have C:IntKind.i64.wrap (s.depth-1)=s.depth-1:=IntWalk.i64_in _ (by omega);rw[if_pos c];subst c;clear f;go_enter func43,ntmps43;go_wp2_with fail;refine g.mono ?_;rintro e x ⟨rfl,a⟩;have y:=a.cell l id;have z:=a.frozen o u id;have j:=((h.ct a id).sE (s.depth-1) (by omega) (by omega));clear l o;go_wp2;go_ret2;exact⟨rfl,j,(a.mono (fun _ _ e=>e.elim)).trans (cq.setCell _ _ _ (fun _=>rfl))⟩
 . have A:(e == 0)=false:=by rw[beq_eq_false_iff_ne];exact c
   rw[if_neg c];clear f c l o;go_enter func43,ntmps43;go_wp2_with fail;refine g.mono ?_;rintro e x ⟨rfl,a⟩;have j:=h.ct a id;go_wp2;go_ret2;exact⟨rfl,j,a.mono (fun _ _ e=>e.elim)⟩
def LO(d b bb:Nat)(r:Mem × dK × Int)(w:World)(e:Ending)(w':World):Prop :=
 e=.returned (I_ r.2.2)/\dY w' b bb r.1/\Yq w' d b r.2.1/\cq (fun k=>k=d\/k=bb) w w'
theorem AU(w:World)(d b r:Nat)(s:dK)(m:Mem)(a:Option Addr)(c:Nat)(L:List Int)(h:Yq w d b s)(X:dY w b r m)(M:d≠b/\d≠r)(hA:iI w a L)(hl:L.length<=1048576)(ad:∀ g,dF a=some g->g≠d/\g≠r) :
 Calls prog 80 #[cD d,.slice a L.length c] w (LO d b r (dK.push m s L) w):=by
 have aa:=h.ok;unfold dK.Ok at aa;have af:IntKind.i64.wrap (s.gm-s.depth)=s.gm-s.depth:=IntWalk.i64_in _ (by omega);unfold dK.push;by_cases t:s.gm-s.depth<L.length
 . have Q:decide (s.gm-s.depth<(L.length:Int))=true:=decide_eq_true t
   rw[if_pos t];have C:=fun (q:fP w)=>q.2.cell (cp (i:=2) h.head rfl) id;have D:=fun (q:fP w)=>q.2.cell (cp (i:=3) h.head rfl) id;clear t aa;go_enter func80,ntmps80;go_wp2_with fail;refine Go.Proofs.K.cW ?iX ?iY ?_;case iX=>kernel_rfl
   case iY=>kernel_rfl
   repeat ((with_reducible refine wpQuiet_step ?_);intro p f;go_simp;first | ((with_reducible refine f _ ?_);clear f p) | (refine f _ ?_;clear f p) | (apply Exists.intro;refine⟨fun _=>?_,f _ ?_⟩;(fail);clear f p))
   with_reducible refine wpQuiet_nil ?_
   intro v1 G;obtain⟨⟨wq,l⟩,H⟩:=G;subst H;have c4:=l.cell (cp (i:=4) h.head rfl) id;clear C D;obtain⟨fr,mo,de,ov,un⟩:=s;go_wp2;go_ret;exact⟨rfl,X.ct l id id,h.ct l id,l.mono (fun _ _ e=>e.elim)⟩
 . have Q:decide (s.gm-s.depth<(L.length:Int))=false:=decide_eq_false t
   rw[if_neg t];have C:=fun (q:fP w)=>q.2.cell (cp (i:=2) h.head rfl) id;have D:=fun (q:fP w)=>q.2.cell (cp (i:=3) h.head rfl) id;have ai:s.depth+L.length<=s.gm:=by omega
   clear t;go_enter func80,ntmps80;go_wp2_with fail;refine Go.Proofs.K.cW ?nM ?nO ?_;case nM=>kernel_rfl
   case nO=>kernel_rfl
   repeat ((with_reducible refine wpQuiet_step ?_);intro p f;go_simp;first | ((with_reducible refine f _ ?_);clear f p) | (refine f _ ?_;clear f p) | (apply Exists.intro;refine⟨fun _=>?_,f _ ?_⟩;(fail);clear f p))
   with_reducible refine wpQuiet_nil ?_
   intro v1 G;obtain⟨⟨wq,l⟩,H⟩:=G;subst H;clear C D Q af;go_wp2_with fail
   go_loopw [29] (fun I wr=>∃ i:Nat,I=I_ i/\i<=L.length/\dY wr b r (dK.ij m s (L.take i)).1/\Yq wr d b (dK.ij m s (L.take i)).2/\cq (fun k=>k=d\/k=r) w wr) (fun I _=>L.length-(intOf I).toNat)
   case atStart=>exact⟨0,rfl,Nat.zero_le _,X.ct l id id,h.ct l id,l.mono (fun _ _ e=>e.elim)⟩
   case round =>
    obtain⟨i,rfl,hi,y,u,E⟩:=hrel;by_cases U:i<L.length
    . obtain⟨g,o,rfl,P⟩:=hA i U
      have d0:=E.cell P (by have:=ad g rfl;simp only;omega);have F:=dK.Cs m s (L.take i) L[i];rw[<- List.take_succ_eq_append_getElem U]at F;have T:(dK.ij m s (L.take i)).2.depth=s.depth+i:=by rw[dK.lW,List.length_take];simp only;omega
      have Z:(dK.ij m s (L.take i)).2.gm=s.gm:=by rw[dK.lW]
      have x:=h_ F;generalize L[i]=n at d0 x;generalize ac:(dK.ij m s (L.take i)).1=mi at y x;generalize ae:(dK.ij m s (L.take i)).2=j at u x T Z;clear ac ae F P;have ah:(0:Int)<=(i:Int):=by omega
      have ag:IntKind.i64.wrap (j.depth+1)=j.depth+1:=IntWalk.i64_in _ (by omega);have z:=u.sE (j.depth+1) (by omega) (by omega);have J:cq (fun k=>k=d) wr (wr.setCell ⟨d,3,none⟩ (I_ (j.depth+1))):=cq.setCell _ _ _ (fun _=>rfl);have Y:=y.ct J (fun e=>M.1 e.symm) (fun e=>M.2 e.symm);have S3:=cp (i:=3) u.head rfl;have F3:=cB (i:=3) u.head;have N:=E.trans (J.mono fun _ _ e=>.inl e);clear J T Z;go_wp2_with fail;generalize wr.setCell ⟨d,3,none⟩ (I_ (j.depth+1))=V at z Y N |-;clear S3 F3 ag;have B:=cp (i:=0) z.head rfl;have R:=h_ (xH V.drew d b { j with depth:=j.depth+1 } 0 (z.ct (fw V) id) (by omega) (by omega));have S:=h_ fun W (k:K_ V.drew W)=>ed W b r mi (dK.ft { j with depth:=j.depth+1 } 0) n ((Y.ct (fw V) id id).ct k id id);have O:=M.2
      go_region_held3 (fun w'=>C_ w' d 0=some (cD b))
       (first | go_keep | exact v.cell B id | exact A.cell (v.cell B id) O)
       (first
         | (go_at_call 145;refine R.out.mono ?_;rintro e w4 ⟨rfl,v⟩)
         | (go_at_call 85;refine(S.out w4 v).mono ?_;rintro e w5 ⟨rfl,m5,A⟩))
      have S5:=(z.ct ((fw V).trans v) id).ct A O;have K5:=(N.trans (((cq.drew _ V).trans v).mono (fun _ _ e=>e.elim))).trans (A.mono fun _ _ e=>.inr e);clear v A B R S;go_wp2;go_roundw;case rel=>exact⟨i+1,by go_num,by omega,by rw[x.out];exact m5,by rw[x.out];exact S5,K5⟩
      case measure=>simp[intOf];omega
    . have ab:i=L.length:=by omega
      subst ab;rw[List.take_length]at y u;go_wp2;go_ret;exact⟨rfl,y,u,E⟩
theorem Fs(w:World)(b h:Nat)(m:Mem)(a n c f:Int)(g:dY w b h m)(i:0<=a)(l:a % 8=0)(q:0<=n)(r:n<=1048576)(A:a+n*8<=m.size)(o:c≠0)(p:f≠0) :
 Calls prog 125 #[cD b,I_ a,I_ n,I_ c,I_ f] w fun e w'=>∃ d,e=.returned (.tuple #[cD d,I_ 0])/\Yq w' d b ⟨a,n,0,c,f⟩/\w.heap.size<=d/\K_ w w':=by
 have y:=g.le;have j:=js w b h m g;have s:decide (a<0)=false:=decide_eq_false (by omega);have v:a.tmod 8=0:=by rw[Int.tmod_eq_emod_of_nonneg i];exact l
 have t:decide (n<0)=false:=decide_eq_false (by omega);have B:IntKind.i64.wrap ((m.size:Int)-a)=(m.size:Int)-a:=IntWalk.i64_in _ (by omega);have z:((m.size:Int)-a).tdiv 8=((m.size:Int)-a) / 8:=Int.tdiv_eq_ediv_of_nonneg (by omega);have u:decide (((m.size:Int)-a) / 8<n)=false:=decide_eq_false (by omega);have x:0<=(m.size:Int)-a:=by omega
 have k:=(show dK.Ok ⟨a,n,0,c,f⟩ from⟨i,by show a<=_;omega,Int.le_refl _,q,r,p,o⟩);clear g;go_enter func125,ntmps125;go_wp2_with fail;refine eD j ?_;go_wp2;go_ret2;refine⟨w.heap.size,rfl,⟨cx w _,k⟩,Nat.le_refl _,cq.alloc _ _ _⟩
end Go.Proofs.dS
