/- A part of WalkG. No condition. -/
import Derived.Test.YthhfkhhhclmimaaGreatDoorM28
import Derived.Test.YthhfkhhhclmimaaGreatDoorM14
import Derived.Test.YthhfkhhhclmimaaGreatDoorM32
set_option linter.unusedVariables false
set_option linter.unusedSimpArgs false
open Go.Proofs.Tryz
set_option maxRecDepth 10000
set_option maxHeartbeats 4000000
namespace Go.Proofs.dS
open Go Go.RowKit Go.Proofs.K
def Tt(w:World)(g:Nat)(dV data ret heap cy:Int):Prop:=w.heap[g]?=some (.cells #[I_ dV,I_ data,I_ ret,I_ heap,I_ cy] 119 (0,0))
theorem Pg(w:World)(a b g:Nat)(c:Mc)(m:Mem)(d W U ag f ah:Int)(s q o p:Nat)(F:iD w a c)(G:dY w b g m)(h9:w.cell? ⟨s,0,none⟩=some (cD b))(Z:w.cell? ⟨q,0,none⟩=some (I_ d))
 (E:Tt w o W U ag f ah) (Y:w.cell? ⟨p,0,none⟩=some (cD a)) (X:0<=d) (D:d % 8=0) (z8:f % 8=0) (am:16<=f) (H:d+f<=m.size) (v:(Heap.put m ⟨d,f,false⟩).2=0)
 (M:a≠g) (O:a≠b) (L:s≠g) (K:q≠g) (J:o≠g) (I:p≠g) (ae:s≠a) (ad:q≠a) (ac:o≠a) (ab:p≠a) :
 Calls prog 122 #[cD s,cD q,cD o,cD p] w fun e w'=>∃ j,e=.returned (I_ 0)/\iD w' a { c with hp:=some j }/\wG w' j b g (Heap.put m ⟨d,f,false⟩).1 d (d+f)/\w.heap.size<=j/\cq (fun k=>k=a\/k=g) w w':=by
 have ak:=G.le;have Q:C_ w o 3=some (I_ f):=cp E rfl;have hw:IntKind.i64.wrap (d+f)=d+f:=IntWalk.i64_in _ (by omega);have u:=fun V R=>KT V b g m d (d+f) R X D (by omega) H (by omega);rw[show d+f-d=f by omega]at u;generalize Heap.put m ⟨d,f,false⟩=r at u v;obtain⟨m2,e2⟩:=r;simp only at v;subst v;have al:=cA F;have N:=And.intro M O;have t:=h_ (And.intro (And.intro L K) (And.intro J I));have ai:0<=d+f:=by omega
 have aj:d+f<=4194304:=by omega
 clear E H z8 D M O L K J I;go_enter func122,ntmps122;go_wp2_with fail
 go_region_held3 (fun w'=>C_ w' p 0=some (cD a)/\C_ w' s 0=some (cD b)/\C_ w' q 0=some (I_ d)/\C_ w' o 3=some (I_ f))
  (first | go_keep | exact⟨(cq.setCell (S:=fun k=>k=a) n _ _ (fun _=>rfl)).cell af ab,(cq.setCell (S:=fun k=>k=a) n _ _ (fun _=>rfl)).cell p9 ae,(cq.setCell (S:=fun k=>k=a) n _ _ (fun _=>rfl)).cell p8 ad,(cq.setCell (S:=fun k=>k=a) n _ _ (fun _=>rfl)).cell p2 ac⟩)
  (first
    | (go_at_call 123;refine(u w.drew G.drew).mono ?_;rintro e n ⟨j,rfl,P,y,l⟩;dsimp only
       have l:=(cq.drew (fun k=>k=g) w).trans l;have af:=l.cell Y t.out.2.2;have p9:=l.cell h9 t.out.1.1;have p8:=l.cell Z t.out.1.2;have p2:=l.cell Q t.out.2.1;have R:=F.ct l N.1;have y3:=cp (i:=3) R rfl
       have q3:=iD.er R 3))
 have x:cq (fun k=>k=a) n (n.setCell ⟨a,3,none⟩ (cD j)):=cq.setCell _ _ _ (fun _=>rfl);have aa:j≠a:=by have h:=y;have h:w.heap.size<=j:=h;omega
 have C:=iD.Tq R j;have z:=P.ct x aa (fun e=>N.2 e.symm) (fun e=>N.1 e.symm);have A:=(l.mono (T:=fun k=>k=a\/k=g) (fun _ _ e=>.inr e)).trans (x.mono (fun _ _ e=>.inl e));have B:=show w.heap.size<=j from y;clear P x y l;go_wp2;go_ret
 first
  | exact⟨j,rfl,C,z,B,A⟩
  | exact⟨rfl,j,C,z,B,A⟩
theorem Ph(w:World)(a b t:Nat)(c:Mc)(m:Mem)(j G g aa N ab:Int)(q p n o:Nat)(x:iD w a c)(M:dY w b t m)(K:w.cell? ⟨q,0,none⟩=some (cD b))(J:w.cell? ⟨p,0,none⟩=some (I_ j))
 (v:Tt w n G g aa N ab) (I:w.cell? ⟨o,0,none⟩=some (cD a)) (H:0<=j) (u:j % 8=0) (z0:0<=g) (z1:g<=1048576) (y:j+g*8<=m.size) (U:q≠a) (Q:p≠a) (P:n≠a) (O:o≠a) :
 Calls prog 124 #[cD q,cD p,cD n,cD o] w fun e w'=>∃ d,e=.returned (I_ 0)/\iD w' a { c with dk:=some d }/\Yq w' d b ⟨j,g,0,-3,-4⟩/\w.heap.size<=d/\cq (fun k=>k=a) w w':=by
 have F:C_ w n 1=some (I_ g):=cp v rfl;have B:=fun V R=>Fs V b t m j g (-3) (-4) R H u z0 z1 y (by decide) (by decide);have ac:=cA x;clear v y u;go_enter func124,ntmps124;go_wp2_with fail
 go_region_held3 (fun w'=>C_ w' o 0=some (cD a)/\C_ w' q 0=some (cD b)/\C_ w' p 0=some (I_ j)/\C_ w' n 1=some (I_ g))
  (first | go_keep | exact⟨(cq.setCell (S:=fun k=>k=a) l _ _ (fun _=>rfl)).cell W O,(cq.setCell (S:=fun k=>k=a) l _ _ (fun _=>rfl)).cell Z U,(cq.setCell (S:=fun k=>k=a) l _ _ (fun _=>rfl)).cell Y Q,(cq.setCell (S:=fun k=>k=a) l _ _ (fun _=>rfl)).cell X P⟩)
  (first
    | (go_at_call 125;refine(B w.drew M.drew).mono ?_;rintro e l ⟨d,rfl,z,s,f⟩;dsimp only
       have f:=(fw w).trans f;have W:=f.cell I id;have Z:=f.cell K id;have Y:=f.cell J id;have X:=f.cell F id;have R:=x.ct f id;have y3:=cp (i:=1) R rfl
       have q3:=iD.er R 1))
 have r:cq (fun k=>k=a) l (l.setCell ⟨a,1,none⟩ (cD d)):=cq.setCell _ _ _ (fun _=>rfl);have L:d≠a:=by have h:=s;have h:w.heap.size<=d:=h;omega
 have E:=iD.Tn R d;have A:=z.ct r L;have C:=(f.mono (T:=fun k=>k=a) (fun _ _ e=>e.elim)).trans r;have D:=show w.heap.size<=d from s;clear z r s f;go_wp2;go_ret;exact⟨d,rfl,E,A,D,C⟩
theorem Pj(w:World)(a b t:Nat)(c:Mc)(m:Mem)(j H G g O aa:Int)(q p n o:Nat)(x:iD w a c)(N:dY w b t m)(L:w.cell? ⟨q,0,none⟩=some (cD b))(K:w.cell? ⟨p,0,none⟩=some (I_ j))
 (v:Tt w n H G g O aa) (J:w.cell? ⟨o,0,none⟩=some (cD a)) (I:0<=j) (u:j % 8=0) (z0:0<=g) (z1:g<=1048576) (y:j+g*8<=m.size) (W:q≠a) (U:p≠a) (Q:n≠a) (P:o≠a) :
 Calls prog 126 #[cD q,cD p,cD n,cD o] w fun e w'=>∃ d,e=.returned (I_ 0)/\iD w' a { c with rk:=some d }/\Yq w' d b ⟨j,g,0,-5,-6⟩/\w.heap.size<=d/\cq (fun k=>k=a) w w':=by
 have F:C_ w n 2=some (I_ g):=cp v rfl;have B:=fun V R=>Fs V b t m j g (-5) (-6) R I u z0 z1 y (by decide) (by decide);have ab:=cA x;clear v y u;go_enter func126,ntmps126;go_wp2_with fail
 go_region_held3 (fun w'=>C_ w' o 0=some (cD a)/\C_ w' q 0=some (cD b)/\C_ w' p 0=some (I_ j)/\C_ w' n 2=some (I_ g))
  (first | go_keep | exact⟨(cq.setCell (S:=fun k=>k=a) l _ _ (fun _=>rfl)).cell X P,(cq.setCell (S:=fun k=>k=a) l _ _ (fun _=>rfl)).cell p9 W,(cq.setCell (S:=fun k=>k=a) l _ _ (fun _=>rfl)).cell Z U,(cq.setCell (S:=fun k=>k=a) l _ _ (fun _=>rfl)).cell Y Q⟩)
  (first
    | (go_at_call 125;refine(B w.drew N.drew).mono ?_;rintro e l ⟨d,rfl,z,s,f⟩;dsimp only
       have f:=(fw w).trans f;have X:=f.cell J id;have p9:=f.cell L id;have Z:=f.cell K id;have Y:=f.cell F id;have R:=x.ct f id;have y3:=cp (i:=2) R rfl
       have q3:=iD.er R 2))
 have r:cq (fun k=>k=a) l (l.setCell ⟨a,2,none⟩ (cD d)):=cq.setCell _ _ _ (fun _=>rfl);have M:d≠a:=by have h:=s;have h:w.heap.size<=d:=h;omega
 have E:=iD.Tp R d;have A:=z.ct r M;have C:=(f.mono (T:=fun k=>k=a) (fun _ _ e=>e.elim)).trans r;have D:=show w.heap.size<=d from s;clear z r s f;go_wp2;go_ret;exact⟨d,rfl,E,A,D,C⟩
theorem Pm(w:World)(a b l:Nat)(c:Mc)(m:Mem)(f I X M Y:Int)(u p t:Nat)(q:iD w a c)(r:dY w b l m)(K:w.cell? ⟨u,0,none⟩=some (cD b))
 (n:Tt w p f I X M Y) (J:w.cell? ⟨t,0,none⟩=some (cD a)) (z0:8<=f) (L:f<=m.size) (P:u≠a) (O:p≠a) (N:t≠a) :
 Calls prog 127 #[cD u,cD p,cD t] w fun e w'=>∃ d,e=.returned (I_ 0)/\iD w' a { c with sp:=some d }/\gR w' d b l ⟨m,8,f,8⟩/\w.heap.size<=d/\cq (fun k=>k=a) w w':=by
 have H:C_ w p 0=some (I_ f):=cp n rfl;have A:jL b l m 8 f=fun w e w'=>∃ s,e=.returned (.tuple #[cD s,I_ 0])/\gR w' s b l ⟨m,8,f,8⟩/\w.heap.size<=s/\K_ w w':=by
  funext w e w';unfold jL Sp.kG;rw[if_pos (by rw[if_neg (by omega)])]
 have y:=fun V R=>Q' V b l m 8 f R;rw[A]at y;have Z:=cA q;have z:=r.lt;have B:a≠b/\a≠l:=by
  refine⟨fun e=>?_,fun e=>?_⟩
  . have g:=q;have n:=r.head;rw[e]at g;unfold iD at g;rw[n]at g;simp at g
  . have g:=q;have n:=r.rest;rw[e]at g;unfold iD at g;rw[n]at g;simp at g
 have aa:(f<8)=False:=by simp;omega
 clear n L A;go_enter func127,ntmps127;go_wp2_with fail
 go_region_held3 (fun w'=>C_ w' t 0=some (cD a)/\C_ w' u 0=some (cD b)/\C_ w' p 0=some (I_ f))
  (first | go_keep | exact⟨(cq.setCell (S:=fun k=>k=a) o _ _ (fun _=>rfl)).cell Q N,(cq.setCell (S:=fun k=>k=a) o _ _ (fun _=>rfl)).cell W P,(cq.setCell (S:=fun k=>k=a) o _ _ (fun _=>rfl)).cell U O⟩)
  (first
    | (go_at_call 128;refine(y w.drew r.drew).mono ?_;rintro e o ⟨d,rfl,C,x,j⟩;dsimp only
       have j:=(fw w).trans j;have Q:=j.cell J id;have W:=j.cell K id;have U:=j.cell H id;have R:=q.ct j id;have y3:=cp (i:=0) R rfl
       have q3:=iD.er R 0))
 have v:cq (fun k=>k=a) o (o.setCell ⟨a,0,none⟩ (cD d)):=cq.setCell _ _ _ (fun _=>rfl);have z:d≠a:=by have h:=x;have h:w.heap.size<=d:=h;omega
 have G:=iD.fB R d;have D:=C.ct v z (fun e=>B.1 e.symm) (fun e=>B.2 e.symm);have E:=(j.mono (T:=fun k=>k=a) (fun _ _ e=>e.elim)).trans v;have F:=show w.heap.size<=d from x;clear C v x j;go_wp2;go_ret;exact⟨d,rfl,G,D,F,E⟩
theorem Pn(w:World)(a s b d:Nat)(c:Mc)(x y:Sp)(r:Int)(g:Nat)(l:iD w a c)(q:c.sp=some s)(h:gR w s b d x)(p:Class.root x=(y,r,0))(F:w.cell? ⟨g,0,none⟩=some (cD a))
 (v:a≠s) (z:a≠b) (A:a≠d) (t:g≠s) (u:g≠d) (G:g≠a) :
 Calls prog 129 #[cD g] w fun e w'=>e=.returned (I_ 0)/\iD w' a { c with root:=r }/\gR w' s b d y/\cq (fun k=>k=a\/k=s\/k=d) w w':=by
 have n:=CP w.drew s b d x h.drew;rw[p]at n;obtain⟨sp,L,rk,U,Y,W,ac,ab,X,ad,O,Z,V,aa,I,K,P,M⟩:=c;simp only at q;subst q;have J:C_ w a 0=some (cD s):=l.c0;have Q:=cA l;have N:=And.intro v (And.intro z A);have o:=And.intro t u;clear p h v z A t u;go_enter func129,ntmps129;go_wp2_with fail
 go_region_held3 (fun w'=>C_ w' g 0=some (cD a)/\C_ w' a 0=some (cD s))
  (first | go_keep | exact⟨(cq.setCell (S:=fun k=>k=a) j _ _ (fun _=>rfl)).cell H G,(iD.tZ R r).c0⟩)
  (first
    | (go_at_call 130;refine n.mono ?_;rintro e j ⟨rfl,B,f⟩;dsimp only
       have f:=(cq.drew (fun k=>k=s\/k=d) w).trans f;have H:=f.cell F (fun e=>by rcases e with e | e;exact o.1 e;exact o.2 e);have R:=l.ct f (fun e=>by rcases e with e | e;exact N.1 e;exact N.2.2 e);have y0:C_ j a 0=some (cD s):=R.c0;have y3:=cp (i:=7) R rfl
       have q3:=iD.er R 7))
 all_goals
  have m:cq (fun k=>k=a) j (j.setCell ⟨a,7,none⟩ (I_ r)):=cq.setCell _ _ _ (fun _=>rfl);have E:=iD.tZ R r;have C:=B.ct m (fun e=>N.1 e.symm) (fun e=>N.2.1 e.symm) (fun e=>N.2.2 e.symm);have D:=(f.mono (T:=fun k=>k=a\/k=s\/k=d) (fun _ _ e=>.inr e)).trans (m.mono (fun _ _ e=>.inl e));clear B m f;go_wp2;go_ret;exact⟨rfl,E,C,D⟩
end Go.Proofs.dS
