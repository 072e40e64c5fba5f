/- A part of EarlyG. No condition. -/
import Derived.Test.YthhfkhhhclmimaaGreatDoorM44
import Derived.Test.YthhfkhhhclmimaaGreatDoorM35
import Derived.Test.YthhfkhhhclmimaaGreatDoorM24
import Derived.Test.YthhfkhhhclmimaaGreatDoorM37
import Derived.Test.YthhfkhhhclmimaaGreatDoorM39
set_option linter.unusedVariables false
set_option linter.unusedSimpArgs false
open Go.Proofs.Tryz
set_option maxRecDepth 10000
set_option maxHeartbeats 4000000
namespace Go.Proofs.dS
open Class (dG)
open Go.Proofs.tI
namespace Fo
variable {pf:List UInt8->Option Int} {dM:List Act} {TL:List dr} {D:eF} {S:List (List UInt8)} {τ:Nat->Int} {x1:Int} {q:Q} {f:Int}
theorem Mx(e:ou pf dM TL D S τ x1)(h:St pf D S 0 none f q)(a:Act)(ha:a.n<=65535)(h0:0<TL.length)(g:gY q (a.nZ TL.length))(hf:100<f)(hr:q.1.v.x.cu+700<=60000) :
 ∃ (p:Q) (r:List (List UInt8)) (b xt H:Int) (F:List (Int × Int)),fH (q,0) (p,0)/\f-20<=H/\p.1.v.x.cu<=q.1.v.x.cu+700/\gu S (dz (a.cZ % 5))=(r,b,0) /\
  St pf ⟨D.A,D.T,Ref.put D.L (a.c % TL.length) b xt,D.ws,F⟩ r 0 none H p/\(∀ aa ∈ D.fx,aa ∈ F)/\(xt,1004) ∈ F /\
  ∀ (j:Nat) (K:j<(a.body.cells pf x1 D.A D.L (a.c % TL.length) b).length),(xt+8+8*(j:Int),(a.body.cells pf x1 D.A D.L (a.c % TL.length) b)[j]) ∈ F:=by
 have C:a.c % TL.length<TL.length:=Nat.mod_lt _ h0;obtain⟨c,ac⟩:∃ c,c=a.c % TL.length:=⟨_,rfl⟩;unfold Act.nZ at g;rw[<- ac]at C g |-;obtain⟨N,O,aj,ak⟩:=hU (a.cZ % 5) (by omega);have hh:=kP h;obtain⟨r,b,U,s2,s3,s4,s5,s6,s7,s8⟩:=nX e.eb (a.cZ % 5) (by omega);obtain⟨_,g1,p1⟩:=h.go g (by decide);obtain⟨P,e1,p2,x2,l⟩:=Bx g1 (e.kn c C) N O p1 U (by show q.1.v.x.cu+8<=60000;omega);have x2:P.1.v.x.cu=q.1.v.x.cu+8:=x2;have r1:fj q P:=ib h (by omega) g (by decide) (by have:=ig.obj (s:=[114,101,100,101,102,105,110,101]) (q:=Oo.cH q) 164 (by decide +kernel) (by simp);rw[<- e1];exact this) l.cI;obtain⟨xt,M⟩:∃ xt,xt=(Oo.cH q).1.v.x.cu:=⟨_,rfl⟩;have ai:xt=q.1.v.x.cu:=M;rw[<- M]at l;obtain⟨z,V,B,m⟩:=eF.dO [1004] D xt;have E:=eF.fI [1004] D xt;have W:(xt,(1004:Int)) ∈ (D.fJ xt [1004]).fx:=by have:=eF.lQ [1004] D xt 0 (by simp);simpa using this
 generalize D.fJ xt [1004]=d at l z V B m E W;have ab:sK pf d:=e.dD.grow E (by rw[m]) (by rw[m]) (by rw[m];exact e.dD.zr);have ad:Ref.set d.L c b xt=(Ref.put d.L c b xt,0):=by
  refine vL d.L l.fQ.iE.uD (fun i w=>(l.fQ.sl i w).1) (fun i w p g=>?_) _ _ _ s6;rw[B]at w g;exact e.BC i w p g
 obtain⟨q5,af,I,y,r5,p6,x6,x7,t⟩:=FM ab l (by omega) (i:=c) (by rw[B,e.len];exact C) (by rw[z]) a.body N O (by unfold dB;show _<=(a.n:Int)/\(a.n:Int)<=_;omega) s5 p2 (by omega) (by unfold dB;omega) (by unfold dB;omega) ad (by omega);have ae:af.xt=x1:=by
  obtain⟨wo,ag,ah⟩:=e.one;rw[m,ag]at y;injection y with y;rw[<- y];exact ah
 rw[ae,z,B]at t;obtain⟨k,J⟩:∃ k,k=a.body.cells pf x1 D.A D.L c b:=⟨_,rfl⟩;rw[<- J]at t;obtain⟨X,Y,v3,Z⟩:=eF.dO k d (xt+8);have G:=eF.fI k d (xt+8);have vn:=eF.lQ k d (xt+8);generalize d.fJ (xt+8) k=o at t X Y v3 Z G vn;obtain⟨R,te,u,hx⟩:=xW t p6 0;refine⟨R,r,b,xt,I,o.fx,(r1.trans r5) 0 _ te,by omega,by omega,U,?_,fun aa hz=>G _ (E _ hz),G _ W,by rw[<- J];exact fun j K=>vn j K⟩;have u:St pf ⟨o.A,o.T,Ref.put D.L c b xt,o.ws,o.fx⟩ r 0 none I R:=u;rw[X,Y,Z,z,V,m]at u;exact u
theorem PT(k:ou pf dM TL D S τ x1)(a:Act)(z:a.lS TL.length=false){m:List (List UInt8)}{l xt:Int}{F:List (Int × Int)}(X:gu S (dz (a.cZ % 5))=(m,l,0))(hF:∀ ad ∈ D.fx,ad ∈ F)(U:(xt,1004) ∈ F)
 (J:∀ (j:Nat) (hj:j<(a.body.cells pf x1 D.A D.L (a.c % TL.length) l).length),(xt+8+8*(j:Int),(a.body.cells pf x1 D.A D.L (a.c % TL.length) l)[j]) ∈ F) :
 ou pf (dM++[a]) (grow TL dM.length a) ⟨D.A,D.T,Ref.put D.L (a.c % TL.length) l xt,D.ws,F⟩ m (upτ τ dM.length xt) x1:=by
 have W:0<TL.length:=by
  unfold Act.lS at z;simp only[Bool.or_eq_false_iff,decide_eq_false_iff_not]at z;omega
 have r:a.c % TL.length<TL.length:=Nat.mod_lt _ W;have hg:grow TL dM.length a=Ref.put TL (a.c % TL.length) a.s1 dM.length:=by unfold grow;rw[if_neg (by rw[z];simp)]
 rw[hg];obtain⟨c,Z⟩:∃ c,c=a.c % TL.length:=⟨_,rfl⟩;rw[<- Z]at r J |-;obtain⟨S2,n9,O,s2,P,H,s5,s6,s7,v⟩:=nX k.eb (a.cZ % 5) (by omega);rw[X]at O;injection O with e1 e2;injection e2 with e2 _;subst e1 e2;have aa:=k.len;have w:c<D.L.length:=by omega
 have M:∀ b:Act,cG (dz (b.cZ % 5))=dz (b.cZ % 5):=fun b=>(hU _ (by omega)).2.2.1;have ac:∀ p ∈ (Ref.get TL c).own,(sg m p.1,upτ τ dM.length xt p.2.toNat)=(sg S p.1,τ p.2.toNat):=by
  intro p g;obtain⟨j,b,u,s,t,o,_⟩:=k.Jk c r p g;rw[t,k.mr v o,u,Int.toNat_natCast,upτ_old τ xt (ni s)]
 have V:((Ref.get TL c).own.map fun p=>(sg S p.1,τ p.2.toNat)).filter (fun p=>p.1≠l)=((Ref.get TL c).own.filter (fun p=>p.1≠a.s1)).map fun p=>(sg S p.1,τ p.2.toNat):=by
  rw[List.filter_map];congr 1;refine List.filter_congr fun p g=>?_;obtain⟨j,b,u,s,t,o,_⟩:=k.Jk c r p g;have K:sg S p.1=l ↔ p.1=a.s1:=by
   rw[t,<- k.mr v o,H,mq];constructor
   . intro e
     have:=BD (M b) (M a) (v _ o).1 P e;have:=xX (by omega) (by omega) this;unfold Act.s1;omega
   . intro e
     unfold Act.s1 at e;have:b.cZ % 5=a.cZ % 5:=by omega
     rw[this]
  show decide (sg S p.1≠l)=decide (p.1≠a.s1);by_cases h:p.1=a.s1
  . rw[decide_eq_false (by simpa using K.2 h),decide_eq_false (by simpa using h)]
  . have Y:sg S p.1≠l:=fun e=>h (K.1 e)
    rw[decide_eq_true Y,decide_eq_true h]
 refine⟨?_,k.one,s2,by show(Ref.put D.L c l xt).length=_;rw[Ref.gF,Ref.gF,aa],?_,?_,?_,?_,?_,?_⟩
 . exact k.dD.grow hF rfl rfl k.dD.zr
 . intro i d
   rw[Ref.gF]at d;show(Ref.get (Ref.put _ _ _ _) i).cE=_;rw[(Ref.fO D.L c l xt w i (by omega)).1,(Ref.fO TL c a.s1 _ r i d).1,k.lx i d]
 . intro i d
   rw[Ref.gF]at d;rw[(Ref.fO TL c a.s1 _ r i d).2.1];exact k.cy i d
 . intro i d
   rw[Ref.gF]at d;show(Ref.get (Ref.put _ _ _ _) i).own=_;rw[Ref.nG D.L c l xt w i (by omega),Ref.nG TL c a.s1 _ r i d];by_cases n:i=c
   . rw[if_pos n,if_pos n]
     show(Ref.get D.L c).own.filter _++[(l,xt)]=((Ref.get TL c).own.filter _++[(a.s1,(dM.length:Int))]).map _;rw[List.map_append,k.own c r,V];congr 1
     . refine List.map_congr_left fun p g=>?_
       exact(ac p (List.mem_filter.1 g).1).symm
     . show [(l,xt)]=[(sg m a.s1,upτ τ dM.length xt ((dM.length:Int)).toNat)]
       rw[mq,<- H,Int.toNat_natCast];unfold upτ;rw[if_pos rfl]
   . rw[if_neg n,if_neg n,k.own i d]
     refine List.map_congr_left fun p g=>?_;obtain⟨j,b,u,s,t,o,_⟩:=k.Jk i d p g;rw[t,k.mr v o,u,Int.toNat_natCast,upτ_old τ xt (ni s)]
 . intro i d p g
   rw[Ref.gF]at d;have ab:∀ x G (b:Act),b.body.cells pf x1 D.A (Ref.put D.L c l xt) i (sg x G)=b.body.cells pf x1 D.A D.L i (sg x G):=by
    intro x G b;unfold Body.cells;rw[(Ref.fO D.L c l xt w i (by omega)).1]
   have N:∀ p ∈ (Ref.get TL i).own,∃ (j:Nat) (b:Act),p.2=(j:Int)/\(dM++[a])[j]?=some b/\p.1=b.s1/\dz (b.cZ % 5) ∈ m/\Code pf ⟨D.A,D.T,Ref.put D.L c l xt,D.ws,F⟩ m x1 i b (upτ τ dM.length xt j):=by
    intro p g;obtain⟨j,b,u,s,t,o,j5⟩:=k.Jk i d p g;refine⟨j,b,u,tv a s,t,(v _ o).1,?_⟩;rw[upτ_old τ xt (ni s)];refine j5.grow hF ?_ (k.mr v o);show Class.iq D.A (Ref.get (Ref.put _ _ _ _) i).cE=_;rw[(Ref.fO D.L c l xt w i (by omega)).1]
   rw[Ref.nG TL c a.s1 _ r i d]at g;by_cases n:i=c
   . rw[if_pos n]at g
     rcases List.mem_append.1 g with g | g
     . exact N p (by rw[n];exact(List.mem_filter.1 g).1)
     . have g:p=(a.s1,(dM.length:Int)):=by simpa using g
       refine⟨dM.length,a,by rw[g],by simp,by rw[g],P,?_⟩;unfold upτ;rw[if_pos rfl];refine⟨U,?_⟩;show ∀ (j:Nat) (hj:j<(a.body.cells pf x1 D.A (Ref.put D.L c l xt) i (sg m a.s1)).length),(xt+8+8*(j:Int),(a.body.cells pf x1 D.A (Ref.put D.L c l xt) i (sg m a.s1))[j]) ∈ F;rw[ab m a.s1 a,mq,<- H,n];exact J
   . rw[if_neg n]at g
     exact N p g
 . intro i d
   rw[Ref.gF]at d;have y:=k.kn i d;obtain⟨I,B,C,E⟩:=y.dA;exact⟨y.d',y.len,by show i<(Ref.put _ _ _ _).length;rw[Ref.gF];omega,I,B,hF _ C,hF _ E⟩
 . intro i d
   rw[Ref.gF]at d;obtain⟨I,R,B,C,E,i4,i5,i6⟩:=k.ob i d;exact⟨I,R,B,C,E,hF _ i4,hF _ i5,hF _ i6⟩
theorem My(e:ou pf dM TL D S τ x1)(h:St pf D S 0 none f q)(a:Act)(t:a.n<=65535)(y:TL.length<=60)(g:gY q (a.dJ TL.length))(u:100<f)(z:q.1.v.x.cu+700<=60000) :
 ∃ (p:Q) (s:eF) (b:List (List UInt8)) (P:Nat->Int) (c:Int),fH (q,0) (p,0)/\f-20<=c/\p.1.v.x.cu<=q.1.v.x.cu+700/\St pf s b 0 none c p/\ou pf (dM++[a]) (grow TL dM.length a) s b P x1:=by
 unfold Act.dJ at g;cases d:a.lS TL.length with
 | true =>
  rw[if_pos d]at g;obtain⟨p,b,O,xt,U,V,T,c,w,W,i,j,k,l,A,m,o,r,N,R,F,C,E,G,H,I,J,K,L,M⟩:=Mw e h a t y g u z;exact⟨p,_,b,_,c,i,j,k,C,PS e h.fQ.iE.uD (by rw[h.fQ.iE.nA,e.len]) a d y l m o r N E G H I J K L M⟩
 | false =>
  rw[if_neg (by rw[d];simp)]at g;have B:0<TL.length:=by
   unfold Act.lS at d;simp only[Bool.or_eq_false_iff,decide_eq_false_iff_not]at d;omega
  obtain⟨p,b,O,xt,c,F,i,j,k,l,A,m,o,r⟩:=Mx e h a t B g u z;exact⟨p,_,b,_,c,i,j,k,A,PT e a d l m o r⟩
end Fo
open Go.RowKit Go.Proofs.tI
namespace eF
theorem In.Wi{D:eF}{x:Sp}(h:D.In x){m':Mem}(c:m'.size=x.mem.size)(a:∀ b,b<60000->m'.cell b=x.mem.cell b):D.In { x with mem:=m' }:=by
 have o:=h.al.ok;have f:=h.xQ;unfold Sp.Ok at o;refine h.move (x':={ x with mem:=m' }) ⟨⟨o.1,o.2.1,o.2.2.1,by show x.to<=(m'.size:Int);rw[c];exact o.2.2.2⟩,h.al.al⟩ (h.iE.frame c (fun b d=>a b (by omega)) (Int.le_refl _) (by show x.cu<=_;omega)) rfl rfl c (Int.le_refl _) (a 0 (by omega)) (fun b _ d _=>a b (by omega)) (fun _ _ _ e=>e) h.sl h.tl
end eF
namespace Fo
structure Rs(D:eF)(L R:List Int)(v:VM):Prop where
 fQ:D.In v.x
 dD:v.dD=16
 cF:v.cF=24
 root:v.root=8
 cy:v.cy=9
 dL:v.dL=false
 cV:v.cV=2824
 d:v.d=⟨60000,60,L.length,-3,-4⟩
 r:v.r=⟨60480,200,R.length,-5,-6⟩
 dl:L.length<=60/\∀ (i:Nat) (h:i<L.length),v.x.mem.cell (60000+8*(i:Int))=(L[i],0)
 rl:R.length<=200/\∀ (i:Nat) (h:i<R.length),v.x.mem.cell (60480+8*(i:Int))=(R[i],0)
structure BH(v v':VM):Prop where
 ip:v'.ip=v.ip
 dU:v'.dU=v.dU
 cC:v'.cC=v.cC
 cI:v'.cI=v.cI
variable {D:eF} {L R:List Int} {v:VM}
theorem Rs.rM(h:Rs D L R v):v.x.mem.size=62880:=h.fQ.size
theorem BI(l:List Int):∀ (m:Mem) (d:dK),(dK.ij m d l).1=m.fk (d.ew+d.depth*8) l:=by
 induction l with
 | nil=>intro m d;rfl
 | cons n l a =>
  intro m d;rw[dK.ij,a,Mem.fk];unfold dK.ft;simp only;rw[show d.ew+(d.depth+1-1-0)*8=d.ew+d.depth*8 by omega,show d.ew+(d.depth+1)*8=d.ew+d.depth*8+8 by omega]
theorem BJ(m:Mem)(d:dK)(l:List Int)(h:d.depth+l.length<=d.gm):dK.push m d l=(m.fk (d.ew+d.depth*8) l,{ d with depth:=d.depth+l.length },0):=by
 unfold dK.push;rw[if_neg (by omega),dK.lW,BI]
theorem vN{m:Mem}{a:Int}{L l:List Int}(f:a % 8=0)(e:0<=a)(g:a+8*(L.length+l.length)<=m.size)(h:∀ (i:Nat) (h:i<L.length),m.cell (a+8*(i:Int))=(L[i],0))(d:∀ n ∈ l,dB n) :
 ∀ (i:Nat) (h:i<(L++l).length),(m.fk (a+(L.length:Int)*8) l).cell (a+8*(i:Int))=((L++l)[i],0):=by
 intro i c;rw[List.length_append]at c;by_cases b:i<L.length
 . rw[Mem.gU _ _ _ _ (.inl (by omega)),h i b,List.getElem_append_left b]
 . have:=Mem.kU m (a+(L.length:Int)*8) l (by omega) (by omega) (by omega) d (i-L.length) (by omega)
   rw[show a+(L.length:Int)*8+8*((i-L.length:Nat):Int)=a+8*(i:Int) by omega]at this;rw[this,List.getElem_append_right (by omega)]
theorem Rs.push(h:Rs D L R v)(l:List Int)(k:L.length+l.length<=60)(g:∀ n ∈ l,dB n):∃ a,v.push l=(a,0)/\Rs D (L++l) R a/\BH v a:=by
 have m:=h.rM;have e:=BJ v.x.mem v.d l (by rw[h.d];show(L.length:Int)+_<=60;omega);rw[h.d]at e;have e:dK.push v.x.mem v.d l=(v.x.mem.fk (60000+(L.length:Int)*8) l,⟨60000,60,(L.length:Int)+l.length,-3,-4⟩,0):=by rw[h.d];exact e
 have f:∀ b,(b<60000\/60480<=b)->(v.x.mem.fk (60000+(L.length:Int)*8) l).cell b=v.x.mem.cell b:=fun b c=>Mem.gU _ _ _ _ (by omega);refine⟨{ v.mem (v.x.mem.fk (60000+(L.length:Int)*8) l)with d:=⟨60000,60,(L.length:Int)+l.length,-3,-4⟩ },?_,⟨?_,h.dD,h.cF,h.root,h.cy,h.dL,h.cV,?_,h.r,⟨?_,?_⟩,h.rl.1,?_⟩,⟨rfl,rfl,rfl,rfl⟩⟩
 . show(({ v.mem (dK.push v.x.mem v.d l).1 with d:=(dK.push v.x.mem v.d l).2.1 }:VM),(dK.push v.x.mem v.d l).2.2)=_
   rw[e]
 . exact h.fQ.Wi (Mem.gE _ _ _) (fun b c=>f b (.inl c))
 . show(⟨60000,60,(L.length:Int)+l.length,-3,-4⟩:dK)=_
   rw[List.length_append];congr 1
 . rw[List.length_append];omega
 . exact vN (by decide) (by decide) (by omega) h.dl.2 g
 . intro i j
   show(v.x.mem.fk (60000+(L.length:Int)*8) l).cell (60480+8*(i:Int))=_;rw[f _ (.inr (by omega))];exact h.rl.2 i j
theorem Rs.fX(h:Rs D L R v)(l:List Int)(k:R.length+l.length<=200)(f:∀ n ∈ l,dB n):∃ a,v.fX l=(a,0)/\Rs D L (R++l) a/\BH v a:=by
 have m:=h.rM;have e:=BJ v.x.mem v.r l (by rw[h.r];show(R.length:Int)+_<=200;omega);rw[h.r]at e;have e:dK.push v.x.mem v.r l=(v.x.mem.fk (60480+(R.length:Int)*8) l,⟨60480,200,(R.length:Int)+l.length,-5,-6⟩,0):=by rw[h.r];exact e
 have c:∀ b,b<60480->(v.x.mem.fk (60480+(R.length:Int)*8) l).cell b=v.x.mem.cell b:=fun b g=>Mem.gU _ _ _ _ (by omega);refine⟨{ v.mem (v.x.mem.fk (60480+(R.length:Int)*8) l)with r:=⟨60480,200,(R.length:Int)+l.length,-5,-6⟩ },?_,⟨?_,h.dD,h.cF,h.root,h.cy,h.dL,h.cV,h.d,?_,⟨h.dl.1,?_⟩,?_,?_⟩,⟨rfl,rfl,rfl,rfl⟩⟩
 . show(({ v.mem (dK.push v.x.mem v.r l).1 with r:=(dK.push v.x.mem v.r l).2.1 }:VM),(dK.push v.x.mem v.r l).2.2)=_
   rw[e]
 . exact h.fQ.Wi (Mem.gE _ _ _) (fun b g=>c b (by omega))
 . show(⟨60480,200,(R.length:Int)+l.length,-5,-6⟩:dK)=_
   rw[List.length_append];congr 1
 . intro i j
   have:=h.dl.1;show(v.x.mem.fk (60480+(R.length:Int)*8) l).cell (60000+8*(i:Int))=_;rw[c _ (by omega)];exact h.dl.2 i j
 . rw[List.length_append];omega
 . exact vN (by decide) (by decide) (by omega) h.rl.2 f
theorem Ed(m:Mem)(f a:Int)(o u:Int)(L:List Int)(n:Int)(h:∀ (i:Nat) (h:i<(L++[n]).length),m.cell (f+8*(i:Int))=((L++[n])[i],0)):dK.cM m ⟨f,a,((L++[n]).length:Int),o,u⟩ 0=(n,0):=by
 unfold dK.cM dK.ft;rw[if_neg (by omega),if_neg (by simp only[List.length_append,List.length_cons,List.length_nil];omega)];simp only;have:=h L.length (by simp);rw[show f+(((L++[n]).length:Nat)-1-0:Int)*8=f+8*(L.length:Int) by simp only[List.length_append,List.length_cons,List.length_nil];omega,this];simp
theorem FT(m:Mem)(f a:Int)(o u:Int)(L:List Int)(n:Int)(h:∀ (i:Nat) (h:i<(L++[n]).length),m.cell (f+8*(i:Int))=((L++[n])[i],0)):dK.qI m ⟨f,a,((L++[n]).length:Int),o,u⟩=(⟨f,a,(L.length:Int),o,u⟩,n,0):=by
 unfold dK.qI;rw[Ed m f a o u L n h,if_pos rfl];simp only[List.length_append,List.length_cons,List.length_nil];congr 2;omega
theorem jS{m:Mem}{a:Int}{L l:List Int}(h:∀ (i:Nat) (h:i<(L++l).length),m.cell (a+8*(i:Int))=((L++l)[i],0)):∀ (i:Nat) (h:i<L.length),m.cell (a+8*(i:Int))=(L[i],0):=by
 intro i b;rw[h i (by rw[List.length_append];omega),List.getElem_append_left b]
theorem Rs.jO{n:Int}(h:Rs D L (R++[n]) v):∃ a,v.jO=(a,n,0)/\Rs D L R a/\BH v a:=by
 refine⟨{ v with r:=⟨60480,200,R.length,-5,-6⟩ },?_,⟨h.fQ,h.dD,h.cF,h.root,h.cy,h.dL,h.cV,h.d,rfl,h.dl,by have:=h.rl.1;rw[List.length_append]at this;omega,jS h.rl.2⟩,⟨rfl,rfl,rfl,rfl⟩⟩;show(({ v with r:=(dK.qI v.x.mem v.r).1 }:VM),(dK.qI v.x.mem v.r).2)=_;rw[h.r,FT _ _ _ _ _ R n h.rl.2]
theorem Rs.Mz{n:Int}(h:Rs D (L++[n]) R v)(F:VM->List Int->VM × Int):∃ a,VM.iF 1 F v=F a [n]/\Rs D L R a/\BH v a:=by
 have b:=Ed v.x.mem 60000 60 (-3) (-4) L n h.dl.2;refine⟨{ v with d:=⟨60000,60,L.length,-3,-4⟩ },?_,⟨h.fQ,h.dD,h.cF,h.root,h.cy,h.dL,h.cV,rfl,h.r,⟨by have:=h.dl.1;rw[List.length_append]at this;omega,jS h.dl.2⟩,h.rl⟩,⟨rfl,rfl,rfl,rfl⟩⟩;have e:v.d.depth=(L.length:Int)+1:=by rw[h.d];simp only[List.length_append,List.length_cons,List.length_nil];omega
 have c:VM.fo v.x.mem v.d 1=[n]:=by
  show [(dK.cM v.x.mem v.d _).1]=_;have:dK.cM v.x.mem v.d (((1:Nat):Int)-1-((0:Nat):Int))=(n,0):=by rw[h.d];exact b
  rw[this]
 unfold VM.iF;rw[if_neg (by omega),c];congr 2;rw[h.d];simp only[List.length_append,List.length_cons,List.length_nil];congr 1;omega
theorem Rs.inline(h:Rs D L R v){n:Int}(b:(v.ip,n) ∈ D.fx):∃ a,v.inline=(a,n,0)/\Rs D L R a/\a.ip=v.ip+8/\a.dU=v.dU/\a.cC=v.cC/\a.cI=v.cI:=by
 have d:=h.fQ.fx _ b;have e:=h.fQ.xQ;have c:=h.fQ.al.ok;unfold Sp.Ok at c;refine⟨{ v with ip:=v.ip+8 },?_,{ h with },rfl,rfl,rfl,rfl⟩;show(({ v with ip:=wrap64 (v.ip+8) }:VM),v.x.mem.cell v.ip)=_;rw[h.fQ.cell b,IntWalk.wrap64_in _ (by omega)]
end Fo
namespace Fo
def To(q q':VM × Int):Prop:=q'.2=0->∀ Q,VM.sJ q' Q->VM.sJ q Q
theorem To.trans{a c:VM × Int}{b:VM}(h:To a (b,0))(k:To (b,0) c):To a c:=fun e Q d=>h rfl Q (k e Q d)
structure At(v:VM)(a b c d:Int):Prop where
 ip:v.ip=a
 dU:v.dU=b
 cC:v.cC=c
 cI:v.cI=d
theorem At.same{v w:VM}{a b c d:Int}(h:At v a b c d)(k:BH v w):At w a b c d:=⟨k.ip.trans h.ip,k.dU.trans h.dU,k.cC.trans h.cC,k.cI.trans h.cI⟩
variable {D:eF} {L R:List Int} {v:VM} {i s h_ f:Int}
theorem Rs.step(h:Rs D L R v)(a:At v i s h_ f)(p:i≠0){k:Int}(r:(i,k) ∈ D.fx)(o:0<f):∃ b,Rs D L R b/\At b (i+8) s h_ (f-1)/\∀ q,VM.jz b k q->To (v,0) (VM.ez q):=by
 obtain⟨w,e,l,d,g,a3,c⟩:=h.inline (n:=k) (by rw[a.ip];exact r);refine⟨{ w with cI:=w.cI-1 },{ l with },⟨by show w.ip=_;rw[d,a.ip],by show w.dU=_;rw[g,a.dU],by show w.cC=_;rw[a3,a.cC],by show w.cI-1=_;rw[c,a.cI]⟩,fun q t j Q m=>?_⟩;exact VM.sJ.step v w k q Q (by rw[a.ip];exact p) h.dL e (by rw[c,a.cI];exact o) t j m
theorem Rs.cell(h:Rs D L R v){a n:Int}(b:(a,n) ∈ D.fx):v.cell a=(n,0):=h.fQ.cell b
theorem ki(h:Rs D L R v){k:Int}{nm:List UInt8}(b:(k,num nm) ∈ D.fx)(c:nm ∈ names){pk:Pk}(a:ky nm=some pk)(d:VM.lP pk=true):VM.jz v k (VM.Fb VM.zL pk v) :=
 .PH (num nm) pk (h.cell b) (by rw[qx nm c];exact a) d
theorem PU(h:Rs D L R v)(a:At v i s h_ f){k n:Int}(r:(k,num [108,105,116]) ∈ D.fx)(t:(i,n) ∈ D.fx)(y:L.length<60)(p:dB n):∃ b,VM.jz v k (b,0)/\Rs D (L++[n]) R b/\At b (i+8) s h_ f:=by
 have c:=ki h r (by decide +kernel) (pk:=.push 297) (by rfl) (by decide);obtain⟨w,e,m,d,g,a3,j⟩:=h.inline (n:=n) (by rw[a.ip];exact t);obtain⟨u,l,o,x⟩:=m.push [n] (by simp only[List.length_cons,List.length_nil];omega) (jR p);have q:VM.Fb VM.zL (.push 297) v=(u,0):=by
  show VM.oT VM.inline v=_;unfold VM.oT;rw[e,if_neg (by simp),l]
 rw[q]at c;exact⟨u,c,o,At.same ⟨by rw[d,a.ip],by rw[g,a.dU],by rw[a3,a.cC],by rw[j,a.cI]⟩ x⟩
theorem MA{n:Int}(h:Rs D L (R++[n]) v)(g:At v i s h_ f){k:Int}(l:(k,num [101,120,105,116]) ∈ D.fx):∃ b,VM.jz v k (b,0)/\Rs D L R b/\At b n s h_ f:=by
 have c:=ki h l (by decide +kernel) (pk:=.plain 295) (by rfl) (by decide);obtain⟨w,e,d,m⟩:=h.jO;have j:VM.Fb VM.zL (.plain 295) v=({ w with ip:=n },0):=by
  show(({ v.jO.1 with ip:=v.jO.2.1 }:VM),v.jO.2.2)=_;rw[e]
 rw[j]at c;have a:=g.same m;exact⟨_,c,{ d with },⟨rfl,a.dU,a.cC,a.cI⟩⟩
theorem xZ{a n:Int}(h:Rs D L (R++[a,n]) v)(p:At v i s h_ f){k:Int}(t:(k,num [40,101,120,105,116,109,41]) ∈ D.fx):∃ c,VM.jz v k (c,0)/\Rs D L R c/\At c n a h_ f:=by
 have g:=ki h t (by decide +kernel) (pk:=.plain 365) (by rfl) (by decide);have y:v.r.depth=(R.length:Int)+2:=by rw[h.r];simp only[List.length_append,List.length_cons,List.length_nil];omega
 have h:Rs D L ((R++[a])++[n]) v:=by rw[List.append_assoc];exact h
 obtain⟨w,e,l,x⟩:=h.jO;have m:Rs D L (R++[a]) { w with ip:=n }:={ l with };obtain⟨u,j,o,b⟩:=m.jO;have q:VM.Fb VM.zL (.plain 365) v=({ u with dU:=a },0):=by
  show(if v.r.depth<2 then(v,-6)else({ ({ v.jO.1 with ip:=v.jO.2.1 }:VM).jO.1 with dU:=({ v.jO.1 with ip:=v.jO.2.1 }:VM).jO.2.1 },(0:Int)))=_;rw[if_neg (by omega),e];simp only;rw[j]
 rw[q]at g;have d:=p.same x;exact⟨_,g,{ o with },⟨by show u.ip=n;exact b.ip,rfl,by show u.cC=_;exact b.cC.trans d.cC,by show u.cI=_;exact b.cI.trans d.cI⟩⟩
theorem PW{n:Int}(h:Rs D (L++[n]) R v)(m:At v i s h_ f){k:Int}(p:(k,num [49,43]) ∈ D.fx)(x:0<=n)(y:n<=1000000):∃ c,VM.jz v k (c,0)/\Rs D (L++[n+1]) R c/\At c i s h_ f:=by
 have d:=ki h p (by decide +kernel) (pk:=.one [49,43]) (by rfl) (by decide);obtain⟨w,e,q,r⟩:=h.Mz (VM.tg (fun b a _=>(Ay.pU b a,0)) [49,43]);have g:=h.dl.1;rw[List.length_append]at g;obtain⟨u,j,l,t⟩:=q.push [n+1] (by simpa using g) (jR (by unfold dB;omega));have o:VM.Fb VM.zL (.one [49,43]) v=(u,0):=by
  show VM.iF 1 (VM.tg (fun b a _=>(Ay.pU b a,0)) [49,43]) v=_;rw[e];show w.push [wrap64 (n+1)]=_;rw[IntWalk.wrap64_in _ (by omega),j]
 rw[o]at d;exact⟨u,d,l,(m.same r).same t⟩
theorem PX(h:Rs D L R v)(a:At v i s h_ f){xt o:Int}(l:(xt,1004) ∈ D.fx)(k:R.length+2<=200)(g:dB s)(j:dB i):∃ b,v.method xt o=(b,0)/\Rs D L (R++[s,i]) b/\At b (xt+8) o h_ f:=by
 obtain⟨w,e,m,p⟩:=h.fX [s,i] (by simpa using k) (fun n d=>by simp only[List.mem_cons,List.not_mem_nil,or_false]at d;rcases d with rfl | rfl;exact g;exact j);have c:=a.same p;refine⟨{ w with dU:=o,ip:=xt+8 },?_,{ m with },⟨rfl,rfl,c.cC,c.cI⟩⟩;unfold VM.method;rw[h.cell l,if_neg (by simp),a.dU,a.ip,e,if_neg (by simp)]
end Fo
namespace Fo
def val(dM:List Act)(TL:List dr):Nat->Int->Int->Option Int
 | 0,_,_=>none
 | k+1,c,s=>match Ref.dH TL c s with
  | none=>none
  | some (j,kk)=>match dM[j.toNat]? with
   | none=>none
   | some a=>if a.lP then(val dM TL k (Ref.get TL kk).cE s).map (·+1)else some a.n
variable {pf:List UInt8->Option Int} {dM:List Act} {TL:List dr} {D:eF} {S:List (List UInt8)} {τ:Nat->Int} {x1:Int}
theorem Ee(hA:∀ a ∈ dM,a.n<=65535):∀ (k:Nat) (c s n:Int),val dM TL k c s=some n->0<=n/\n<=65535+k
 | 0,_,_,_,h=>by cases h
 | k+1,c,s,n,h=>by
  unfold val at h;split at h
  . cases h
  . split at h
    . cases h
    . rename_i a ha
      split at h
      . cases hv:val dM TL k (Ref.get TL _).cE s with
        | none=>rw[hv]at h;cases h
        | some m =>
         rw[hv]at h;have:=Ee hA k _ _ _ hv;simp only[Option.map_some,Option.some.injEq]at h
         omega
      . injection h with h
        have:=hA a (List.mem_of_getElem? ha);omega
theorem ou.dH(f:ou pf dM TL D S τ x1)(u:Ref.Ok D.L)(i:Ref.Ok TL)(b:Act)(r:dz (b.cZ % 5) ∈ S)(c:Int)(o : -1<=c)(s:c<TL.length) :
 Ref.dH D.L c (sg S b.s1)=(Ref.dH TL c b.s1).map fun p=>(τ p.1.toNat,p.2):=by
 refine Ref.xd TL i (P:=fun c=>Ref.dH D.L c (sg S b.s1)=(Ref.dH TL c b.s1).map fun p=>(τ p.1.toNat,p.2)) ?_ ?_ c o s
 . rw[Ref.gD _ (-1) _ (by omega),Ref.gD _ (-1) _ (by omega)]
   rfl
 . intro k d w
   rw[Ref.lu D.L u k _ (by rw[f.len];exact d),Ref.lu TL i k _ d,f.own k d,f.lx k d];have t:∀ p ∈ (Ref.get TL k).own,sg S p.1=sg S b.s1 ↔ p.1=b.s1:=by
    intro p g;obtain⟨j,a,B,C,n,z,_⟩:=f.Jk k d p g;constructor
    . intro e
      rw[n,mq,mq]at e;have:=BD (hU _ (by omega)).2.2.1 (hU _ (by omega)).2.2.1 z r e;have:=xX (by omega) (by omega) this;rw[n];unfold Act.s1;omega
    . intro e;rw[e]
   have A:∀ l:List (Int × Int),(∀ p ∈ l,sg S p.1=sg S b.s1 ↔ p.1=b.s1)->Ref.own (l.map fun p=>(sg S p.1,τ p.2.toNat)) (sg S b.s1)=(Ref.own l b.s1).map fun x=>τ x.toNat:=by
    intro l;induction l with
    | nil=>intro _;rfl
    | cons p l y =>
     intro m;have g:=m p (by simp);rw[List.map_cons,Ref.own,Ref.own];by_cases h:p.1=b.s1
     . rw[if_pos (g.2 h),if_pos h];rfl
     . rw[if_neg (fun e=>h (g.1 e)),if_neg h]
       exact y fun q v=>m q (by simp[v])
   rw[A _ t];cases Ref.own (Ref.get TL k).own b.s1 with
   | some x=>rfl
   | none=>exact w
theorem ou.IF(h:ou pf dM TL D S τ x1)(i:Ref.Ok TL)(b:Act)(e:dz (b.cZ % 5) ∉ S)(c:Int)(f : -1<=c)(k:c<TL.length):Ref.dH TL c b.s1=none:=by
 cases l:Ref.dH TL c b.s1 with
 | none=>rfl
 | some p =>
  obtain⟨n,o,g⟩:=pa TL i b.s1 c f k p l;obtain⟨j,a,q,r,d,m,_⟩:=h.Jk p.2.toNat (by omega) (b.s1,p.1) (by rw[show((p.2.toNat:Nat):Int)=p.2 by omega];exact g);have:b.cZ % 5=a.cZ % 5:=by
   have d:b.s1=a.s1:=d;unfold Act.s1 at d;omega
  rw[this]at e;exact absurd m e
theorem ou.MB(k:ou pf dM TL D S τ x1)(l:Ref.Ok TL)(b:Act)(c:Int)(f : -1<=c)(m:c<TL.length){p:Int × Int}(n:Ref.dH TL c b.s1=some p) :
 ∃ a:Act,dM[p.1.toNat]?=some a/\a.s1=b.s1/\dz (a.cZ % 5) ∈ S/\0<=p.2/\p.2<=c/\Code pf D S x1 p.2.toNat a (τ p.1.toNat):=by
 obtain⟨g,h,i⟩:=pa TL l b.s1 c f m p n;obtain⟨j,a,d,o,q,r,s⟩:=k.Jk p.2.toNat (by omega) (b.s1,p.1) (by rw[show((p.2.toNat:Nat):Int)=p.2 by omega];exact i);have d:p.1=(j:Int):=d;have e:p.1.toNat=j:=by omega
 exact⟨a,by rw[e];exact o,q.symm,r,g,h,by rw[e];exact s⟩
theorem lb{x:Sp}(h:D.In x)(c:Int)(j : -1<=c)(k:c<D.L.length)(s:Int) :
 (Class.lookup x.mem (Class.iq D.A c) s).2.2=(Ref.dH D.L c s).isSome/\∀ p,Ref.dH D.L c s=some p->(Class.lookup x.mem (Class.iq D.A c) s).1.xt=p.1:=by
 by_cases b:c<0
 . have e:c = -1:=by omega
   subst e;rw[Ref.gD _ _ _ b];refine⟨?_,fun p a=>by cases a⟩;unfold Class.iq;rw[if_pos b];have g:(Class.cT x.mem 0).2=false:=by
    unfold Class.cT;split
    . rfl
    . rw[h.zero]
      exact(show decide ((0:Int)=Class.j9)=false by decide)
   unfold Class.lookup;rw[if_pos g];rfl
 . obtain⟨n,rfl⟩:∃ n:Nat,c=(n:Int):=⟨c.toNat,by omega⟩
   rw[Class.Good.iw];obtain⟨d,f⟩:=h.iE.lookup (i:=n) (by omega) s;exact⟨d,fun p a=>by rw[f p a]⟩
theorem IG{L R:List Int}{v:VM}{i s l f b c k:Int}(h:Rs D L R v)(a:At v i s l f)(E:(k,num [40,115,117,112,101,114,41]) ∈ D.fx)(A:(i,b) ∈ D.fx)(B:(i+8,c) ∈ D.fx) :
 ∃ w,Rs D L R w/\At w (i+16) s l f/\VM.jz v k (if(Class.lookup w.x.mem b c).2.2=false then(w,-2049)else w.method (Class.lookup w.x.mem b c).1.xt s):=by
 have m:=ki h E (by decide +kernel) (pk:=.plain 364) (by rfl) (by decide);obtain⟨w,e,y,d,g,a3,o⟩:=h.inline (n:=b) (by rw[a.ip];exact A);obtain⟨u,t,z,p,j,q,r⟩:=y.inline (n:=c) (by rw[d,a.ip];exact B);refine⟨u,z,⟨by rw[p,d,a.ip];omega,by rw[j,g,a.dU],by rw[q,a3,a.cC],by rw[r,o,a.cI]⟩,?_⟩;have C:VM.Fb VM.zL (.plain 364) v=if(Class.lookup u.x.mem b c).2.2=false then(u,-2049)else u.method (Class.lookup u.x.mem b c).1.xt s:=by
  show(if v.inline.2.2≠0 then(v.inline.1,v.inline.2.2)else if v.inline.1.inline.2.2≠0 then(v.inline.1.inline.1,v.inline.1.inline.2.2)else
   if(Class.lookup v.inline.1.inline.1.x.mem v.inline.2.1 v.inline.1.inline.2.1).2.2=false then(v.inline.1.inline.1,-2049)else v.inline.1.inline.1.method (Class.lookup v.inline.1.inline.1.x.mem v.inline.2.1 v.inline.1.inline.2.1).1.xt v.inline.1.inline.1.dU)=_
  rw[e,if_neg (by simp)];simp only;rw[t,if_neg (by simp)];simp only;rw[j,g,a.dU]
 rw[C]at m;exact m
def Ends(D:eF)(L R:List Int)(i s h_ f:Int)(k:Nat)(v1:VM):Option Int->Prop
 | some n=>∃ v2 f',To (v1,0) (v2,0)/\Rs D (L++[n]) R v2/\At v2 i s h_ f'/\f-10*k<=f'
 | none=>∃ u R' Vj s' f',To (v1,0) (VM.ez (u,-2049))/\Rs D L (R++R') u/\At u Vj s' h_ f'/\f-10*k<=f'
theorem vO(hR:ou pf dM TL D S τ x1)(hok:Ref.Ok D.L)(hT:Ref.Ok TL)(hA:∀ a ∈ dM,a.n<=65535)(b:Act)(hb:dz (b.cZ % 5) ∈ S):∀ (k:Nat) (c:Int),-1<=c->c<TL.length->c+1<=k->∀ p,Ref.dH TL c b.s1=some p ->
 ∀ (L R:List Int) (v:VM) (i s h_ f o:Int),Rs D L R v->At v i s h_ f->dB i->dB s->dB o->L.length+1<=60->R.length+2*k<=200->10*(k:Int)<f->k<=1000 ->
 ∃ v1,v.method (τ p.1.toNat) o=(v1,0)/\Ends D L R i s h_ f k v1 (val dM TL k c b.s1)
 | 0,c,c0,hc,hk,p,hp=>by
  rw[Ref.gD TL c _ (by omega)]at hp
  cases hp
 | k+1,c,c0,hc,hk,p,hp=>by
  intro L R v i s h_ f o hv ha Vk Vl TV hL hRl hf hk1;obtain⟨a,a1,a2,a3,a4,a5,code⟩:=hR.MB hT b c c0 hc hp
  have hval:val dM TL (k+1) c b.s1=if a.lP then(val dM TL k (Ref.get TL p.2).cE b.s1).map (·+1)else some (a.n:Int):=by
   rw[val,hp];simp only
   rw[a1]
  rw[hval];obtain⟨xt,hxt⟩:∃ xt,xt=τ p.1.toNat:=⟨_,rfl⟩;rw[<- hxt]at code |-;obtain⟨_,b1,b2,_⟩:=hv.fQ.fx _ code.head;have b1:32<=xt:=b1;have b2:xt+8<=v.x.cu:=b2;have tf:=hv.fQ.xQ;have hok2:=hv.fQ.al.ok;unfold Sp.Ok at hok2;obtain⟨v1,e1,h1,Wj⟩:=PX hv ha (o:=o) code.head (by omega) Vl Vk
  refine⟨v1,e1,?_⟩;obtain⟨ke,Wl,Yf,Wm⟩:=hR.dD.tok [40,101,120,105,116,109,41] (by simp)
  have hcells:=code.cells
  cases hsup:a.lP with
  | false =>
   rw[if_neg (by simp)]
   obtain⟨kl,Xr,Yg,Xs⟩:=hR.dD.tok [108,105,116] (by simp)
   have hcl:a.body.cells pf x1 D.A D.L p.2.toNat (sg S a.s1)=[kl,(a.n:Int),ke]:=by
    unfold Body.cells;rw[if_neg (by show ¬ a.lP=true;rw[hsup];simp),Xr,Wl]
    rfl
   rw[hcl]at hcells;have c0:(xt+8,kl) ∈ D.fx:=by have:=hcells 0 (by simp);simpa using this
   have c1:(xt+8+8,(a.n:Int)) ∈ D.fx:=by have:=hcells 1 (by simp);simpa using this
   have c2:(xt+8+8+8,ke) ∈ D.fx:=by have:=hcells 2 (by simp);rw[show xt+8+8+8=xt+8+8*((2:Nat):Int) by omega];simpa using this
   have hn:=hA a (List.mem_of_getElem? a1);obtain⟨w1,g1,at2,t1⟩:=h1.step Wj (by omega) c0 (by omega)
   obtain⟨w2,Xt,g2,at3⟩:=PU g1 at2 Xs c1 (by omega) (by unfold dB;omega)
   obtain⟨w3,g3,at4,t2⟩:=g2.step at3 (by omega) c2 (by omega)
   obtain⟨w4,Xu,g4,Vn⟩:=xZ g3 at4 Wm;exact⟨w4,_,(t1 _ Xt).trans (t2 _ Xu),g4,Vn,by omega⟩
  | true =>
   rw[if_pos rfl];obtain⟨ks,Xv,Yh,Xw⟩:=hR.dD.tok [40,115,117,112,101,114,41] (by simp)
   obtain⟨wo,Xx,Yi,Yj,Wn⟩:=hR.dD.one
   have hx1:wo.xt=x1:=by
    obtain⟨w,q1,q2⟩:=hR.one;rw[Xx]at q1;injection q1 with q1
    rw[q1];exact q2
   rw[hx1]at Wn;have hpl:p.2.toNat<TL.length:=by omega
   have hpa:(Ref.get D.L p.2.toNat).cE=(Ref.get TL p.2).cE:=by
    have:=hR.lx p.2.toNat hpl;rw[this,show((p.2.toNat:Nat):Int)=p.2 by omega]
   have hcl:a.body.cells pf x1 D.A D.L p.2.toNat (sg S a.s1)=[ks,Class.iq D.A (Ref.get TL p.2).cE,sg S b.s1,x1,ke]:=by
    unfold Body.cells;rw[if_pos (by show a.lP=true;exact hsup),Xv,Wl,hpa,a2]
    rfl
   rw[hcl]at hcells;have c0:(xt+8,ks) ∈ D.fx:=by have:=hcells 0 (by simp);simpa using this
   have c1:(xt+8+8,Class.iq D.A (Ref.get TL p.2).cE) ∈ D.fx:=by have:=hcells 1 (by simp);simpa using this
   have c2:(xt+8+8+8,sg S b.s1) ∈ D.fx:=by have:=hcells 2 (by simp);rw[show xt+8+8+8=xt+8+8*((2:Nat):Int) by omega];simpa using this
   have c3:(xt+8+8+16,x1) ∈ D.fx:=by have:=hcells 3 (by simp);rw[show xt+8+8+16=xt+8+8*((3:Nat):Int) by omega];simpa using this
   have c4:(xt+8+8+16+8,ke) ∈ D.fx:=by have:=hcells 4 (by simp);rw[show xt+8+8+16+8=xt+8+8*((4:Nat):Int) by omega];simpa using this
   have hpb:=hT p.2.toNat hpl;rw[<- Ref.get_at TL p.2.toNat hpl,show((p.2.toNat:Nat):Int)=p.2 by omega]at hpb
   obtain⟨w1,g1,at2,t1⟩:=h1.step Wj (by omega) c0 (by omega)
   obtain⟨w2,g2,at3,en⟩:=IG g1 at2 Xw c1 c2;obtain⟨l1,l2⟩:=lb g2.fQ (Ref.get TL p.2).cE hpb.1 (by rw[hR.len];omega) (sg S b.s1)
   have hw:=hR.dH hok hT b hb (Ref.get TL p.2).cE hpb.1 (by omega)
   cases hpw:Ref.dH TL (Ref.get TL p.2).cE b.s1 with
   | none =>
    rw[hpw]at hw;rw[hw]at l1;rw[l1]at en
    have hv0:val dM TL k (Ref.get TL p.2).cE b.s1=none:=by
     cases k with
     | zero=>rfl
     | succ k=>rw[val,hpw]
    rw[hv0];exact⟨w2,[s,i],_,_,_,t1 _ en,g2,at3,by omega⟩
   | some r =>
    rw[hpw]at hw;have hw:Ref.dH D.L (Ref.get TL p.2).cE (sg S b.s1)=some (τ r.1.toNat,r.2):=hw;rw[hw]at l1;rw[l2 _ hw,l1]at en;have en:VM.jz w1 ks (w2.method (τ r.1.toNat) o):=en;obtain⟨u1,m1,m2⟩:=vO hR hok hT hA b hb k (Ref.get TL p.2).cE hpb.1 (by omega) (by omega) r hpw L (R++[s,i]) w2 (xt+8+8+16) o h_ (f-1) o g2 at3 (by unfold dB;omega) TV TV hL (by simp only[List.length_append,List.length_cons,List.length_nil];omega) (by omega) (by omega)
    rw[m1]at en
    cases hv0:val dM TL k (Ref.get TL p.2).cE b.s1 with
    | none =>
     rw[hv0]at m2;obtain⟨u,R',Vj,s',f',y1,y2,y3,y4⟩:=m2;exact⟨u,[s,i]++R',Vj,s',f',(t1 _ en).trans y1,by rw[<- List.append_assoc];exact y2,y3,by omega⟩
    | some n =>
     rw[hv0]at m2;obtain⟨u2,f',y1,y2,y3,y4⟩:=m2;have hnb:=Ee hA k _ _ n hv0;obtain⟨w3,g3,at4,t3⟩:=y2.step y3 (by omega) c3 (by omega)
     obtain⟨w4,Xy,g4,Vn⟩:=PW g3 at4 Wn hnb.1 (by omega)
     obtain⟨w5,g5,Xz,t5⟩:=g4.step Vn (by omega) c4 (by omega)
     obtain⟨w6,XA,g6,XB⟩:=xZ g5 Xz Wm;exact⟨w6,_,((t1 _ en).trans y1).trans ((t3 _ Xy).trans (t5 _ XA)),g6,XB,by omega⟩
end Fo
open Go Go.RowKit Go.Proofs.K
theorem PY:(prog.info? 103).map (fun i=>(i.zero,i.size,i.bytes))=some (some (.agg #[.int .u8 0,.int .u8 0,.int .u8 0,.int .u8 0,.int .u16 0,.bool false]),6,8):=by kernel_rfl
def od(a:Fo.Act):List Value:=[.int .u8 (a.kind:Int),.int .u8 (a.p:Int),.int .u8 (a.c:Int),.int .u8 (a.cZ:Int),.int .u16 (a.n:Int),.bool a.lP]
theorem MC(P:List Fo.Act)(i:Nat)(h:i<P.length)(j:Nat)(c:j<6):(P.flatMap od)[i*6+j]?=(od P[i])[j]?:=by
 induction P generalizing i with
 | nil=>simp at h
 | cons p P b =>
  have e:(p :: P).flatMap od=od p++P.flatMap od:=rfl;have a:(od p).length=6:=rfl;rw[e];cases i with
  | zero=>rw[List.getElem?_append_left (by rw[a];omega)];simp
  | succ i =>
   rw[List.getElem?_append_right (by rw[a];omega),a,show(i+1)*6+j-6=i*6+j by omega];exact b i (by simpa using h)
def vP(w:World)(a:Option Addr)(c:Nat)(P:List Fo.Act):Prop:=fp w 103 6 a P.length c (P.flatMap od)
theorem vP.get{w:World}{a:Option Addr}{c:Nat}{P:List Fo.Act}(h:vP w a c P){i:Nat}(b:i<P.length):∃ g,a=some ⟨g,0,none⟩/\P.length<=c/\w.cell? ⟨g,i*6,none⟩=some (.int .u8 (P[i].kind:Int))/\w.cell? ⟨g,i*6+1,none⟩=some (.int .u8 (P[i].p:Int))/\w.cell? ⟨g,i*6+2,none⟩=some (.int .u8 (P[i].c:Int)) /\
 w.cell? ⟨g,i*6+3,none⟩=some (.int .u8 (P[i].cZ:Int))/\w.cell? ⟨g,i*6+4,none⟩=some (.int .u16 (P[i].n:Int))/\w.cell? ⟨g,i*6+5,none⟩=some (.bool P[i].lP):=by
 rcases fp.jK h with⟨rfl,o,rfl,r⟩ | ⟨g,cur,rfl,m,f,k,l,q,s⟩
 . omega
 . have c:=fun j d v (e:(od P[i])[j]?=some v)=>fp.cell h (j:=i*6+j) (u:=v) ((MC P i b j d).trans e)
   exact⟨g,rfl,f,c 0 (by decide) _ rfl,c 1 (by decide) _ rfl,c 2 (by decide) _ rfl,c 3 (by decide) _ rfl,c 4 (by decide) _ rfl,c 5 (by decide) _ rfl⟩
def PZ(v:Option Int)(w:World)(e:Ending)(w':World):Prop:=∃ n:Int,e=.returned (.tuple #[I_ n,.bool v.isSome])/\(∀ m,v=some m->n=m)/\K_ w w'
theorem IH(N:Nat->Prop)(P:List Fo.Act)(d:List dr)(a b:Option Addr)(t v:Nat)(s:Int)(s0:0<=s/\s<=4)(A:Ref.Ok d)(hl:d.length<=1000)(Q:∀ x ∈ d,x.own.length<=1000000)(K:∀ x ∈ P,x.n<=65535)
 (hd:∀ i:Nat,i<d.length->∀ p ∈ (Ref.get d i).own,∃ j:Nat,p.2=(j:Int)/\j<P.length) :
 ∀ (k:Nat),k<=1000->∀ (c:Int) (w:World),-1<=c->c<d.length->c<k->my N w a d.length t d->vP w b v P ->
  Calls prog 51 #[.agg #[.slice a d.length t,.slice b P.length v],I_ c,I_ s] w (PZ (Fo.val P d k c (s+1)) w):=by
 intro k;induction k with
 | zero =>
  intro hk c w E F c2 G L;obtain rfl:c = -1:=by omega
  have ak:wrap64 (s+1)=s+1:=IntWalk.wrap64_in _ (by omega);have r:=h_ fun V (h:my N V a d.length t d)=>ra N V a _ t d (-1) (s+1) h A E F (by omega) Q;rw[Ref.gD d (-1) (s+1) (by omega)]at r;unfold q7 at r;have q:=dR w (.cells #[.slice a d.length t,.slice b P.length v] 101);have z:=h_ (G.ct q (fun _ _=>id));clear K Q hd A G L;go_enter func51,ntmps51;go_wp2_with fail;refine(r.out _ z.out).mono ?_;rintro e C ⟨rfl,l⟩;have y:=h_ (q.trans l);clear l;go_wp2;go_ret2;exact⟨0,rfl,(fun m h=>by cases h),y.out⟩
 | succ k ih =>
  intro hk c w E F c2 G L;have HI:=h_ (ih (by omega));clear ih;have ak:wrap64 (s+1)=s+1:=IntWalk.wrap64_in _ (by omega);have r:=h_ fun V (h:my N V a d.length t d)=>ra N V a _ t d c (s+1) h A E F (by omega) Q;have HM:=h_ (Fo.pa d A (s+1) c E F);have q:=dR w (.cells #[.slice a d.length t,.slice b P.length v] 101);have hg:=cx w (.cells #[.slice a d.length t,.slice b P.length v] 101);have z:=h_ (G.ct q (fun _ _=>id));have P1:=h_ (fp.ct L q (fun _ _=>id))
  have o:=h_ (show Fo.val P d (k+1) c (s+1)=match Ref.dH d c (s+1)with
   | none=>none
   | some (j,T)=>match P[j.toNat]? with
    | none=>none
    | some a=>if a.lP then(Fo.val P d k (Ref.get d T).cE (s+1)).map (·+1)else some a.n from rfl)
  generalize Fo.val P d (k+1) c (s+1)=V at o |-;clear G L;cases I:Ref.dH d c (s+1)with
  | none =>
   rw[I]at r o;have o:=h_ o.out;unfold q7 at r;clear I HM;go_enter func51,ntmps51;go_wp2_with fail;refine(r.out _ z.out).mono ?_;rintro e C ⟨rfl,l⟩;have y:=h_ (q.trans l);clear l;go_wp2;go_ret2;exact⟨0,(by rw[o.out];rfl),(fun m h=>by rw[o.out]at h;cases h),y.out⟩
  | some p =>
   obtain⟨j,T⟩:=p;obtain⟨m0,m1,J⟩:=HM.out _ I;dsimp only at m0 m1 J;obtain⟨f,rfl⟩:∃ f:Nat,T=f:=⟨T.toNat,by omega⟩;have H:f<d.length:=by omega
   obtain⟨S,rfl,O⟩:=hd f H _ J;rw[I]at r o;unfold q7 at r;dsimp only at r o;rw[Int.toNat_natCast,List.getElem?_eq_getElem O]at o;dsimp only at o;have ai:d[f]=Ref.get d f:=(Ref.get_at d f H).symm;have ah:=A f H;rw[ai]at ah;obtain⟨gb,rfl,an,X,Z,y2,y3,y4,y5⟩:=vP.get P1.out O;have M:(P[S]).n<=65535:=K _ (List.getElem_mem O);have aj:∀ m,Fo.val P d k (Ref.get d f).cE (s+1)=some m->0<=m/\m<=66535:=fun m h=>by
    have:=Fo.Ee K k _ _ _ h;omega
   have am:=h_ aj;generalize P[S]=x at o X Z y2 y3 y4 y5 M;obtain⟨xk,xp,xc,xs,D,U⟩:=x;dsimp only at o X Z y2 y3 y4 y5 M;have Y:=h_ (And.intro X (And.intro Z (And.intro y2 (And.intro y3 (And.intro y4 y5)))));have aa:=h_ (show -1<=(Ref.get d f).cE/\(Ref.get d f).cE<d.length/\(Ref.get d f).cE<k from by omega);clear I HM J aj X Z y2 y3 y4 y5 K Q hd ah ai A;have ap:(0:Int)<=(S:Int):=by omega
   have aq:(S:Int)<(P.length:Int):=by omega
   have ac:(0:Int)<=(f:Int):=by omega
   have ad:(f:Int)<(d.length:Int):=by omega
   have ae:wrap64 (D:Int)=(D:Int):=IntWalk.wrap64_in _ (by omega);go_enter func51,ntmps51;go_wp2_with fail;refine(r.out _ z.out).mono ?_;rintro e C ⟨rfl,l⟩;have ab:=l.heap hg id;have R2:=h_ (z.out.ct l (fun _ _=>id));have P2:=h_ (fp.ct P1.out l (fun _ _=>id));have y:=h_ (q.trans l);have z0:=cp (i:=0) ab rfl;have z1:=cp (i:=1) ab rfl;obtain⟨Y0,Y1,Y2,Y3,Y4,Y5⟩:=Y.out;have x0:=l.cell Y0 id;have x1:=l.cell Y1 id;have x2:=l.cell Y2 id;have x3:=l.cell Y3 id;have x4:=l.cell Y4 id;have x5:=l.cell Y5 id;clear l hg ab Y0 Y1 Y2 Y3 Y4 Y5 Y r q z P1;have u:=h_ (And.intro ae (And.intro ac (And.intro ad (And.intro H M))));clear ak hl hk E F c2 O H m0 m1 ac ad ae M an s0;go_upto_region 5 with fail;have q:=dR C (.cells #[.int .u8 (xk:Int),.int .u8 (xp:Int),.int .u8 (xc:Int),.int .u8 (xs:Int),.int .u16 (D:Int),.bool U] 103);have ha:=cx C (.cells #[.int .u8 (xk:Int),.int .u8 (xp:Int),.int .u8 (xc:Int),.int .u8 (xs:Int),.int .u16 (D:Int),.bool U] 103);have KA:=h_ (y.out.trans q);have R3:=h_ (R2.out.ct q (fun _ _=>id));have P3:=h_ (fp.ct P2.out q (fun _ _=>id));have v0:=q.cell z0 id;have v1:=q.cell z1 id;have u4:=cp (i:=4) ha rfl;have u5:=cp (i:=5) ha rfl;generalize C.alloc (.cells #[.int .u8 (xk:Int),.int .u8 (xp:Int),.int .u8 (xc:Int),.int .u8 (xs:Int),.int .u16 (D:Int),.bool U] 103)=W at R3 P3 KA v0 v1 u4 u5 |-;obtain⟨ga,ag⟩:∃ ga,ga=C.heap.size:=⟨_,rfl⟩;rw[<- ag]at u4 u5 |-;clear ag q ha z0 z1 x0 x1 x2 x3 x4 x5 y R2 P2 ap aq;cases U with
   | false =>
    have ae:=u.out.1;go_wp2;go_ret2;refine⟨wrap64 D,(by rw[o.out];rfl),fun m h=>?_,KA.out⟩;rw[o.out]at h;simp only[Bool.false_eq_true,if_false,Option.some.injEq]at h;rw[u.out.1];omega
   | true =>
    obtain⟨g,oa,on,oc,rfl,hN,ar,p0,p1,p2,p3,_,_⟩:=R3.out.get u.out.2.2.2.1;have ao:d[f]'u.out.2.2.2.1=Ref.get d f:=(Ref.get_at d f u.out.2.2.2.1).symm;rw[ao]at p0;have al:=h_ fun V (B:K_ W V)=>HI.out (Ref.get d f).cE V aa.out.1 aa.out.2.1 aa.out.2.2 (R3.out.ct B (fun _ _=>id)) (fp.ct P3.out B (fun _ _=>id));have af:=h_ fun V (B:K_ W V)=>(show C_ V w.heap.size 0=some (.slice (some ⟨g,0,none⟩) d.length t)/\C_ V w.heap.size 1=some (.slice (some ⟨gb,0,none⟩) P.length v)/\C_ V g (f*4)=some (I_ (Ref.get d f).cE) from⟨B.cell v0 id,B.cell v1 id,B.cell p0 id⟩);have ac:=u.out.2.1;have ad:=u.out.2.2.1;go_upto_region 7 with fail;obtain⟨d0,d1,d2⟩:=af.out W.drew (cq.drew _ _)
    go_region_held3 (fun V=>C_ V w.heap.size 0=some (.slice (some ⟨g,0,none⟩) d.length t)/\C_ V w.heap.size 1=some (.slice (some ⟨gb,0,none⟩) P.length v)/\C_ V g (f*4)=some (I_ (Ref.get d f).cE))
     (first | exact⟨d0,d1,d2⟩ | exact af.out _ kc)
     ((go_at_call 51;refine(al.out _ (cq.drew _ _)).mono ?_;rintro e w3 ⟨n,rfl,hn,k3⟩;have kc:=(fw W).trans k3))
    go_wp2;go_ret2;refine⟨wrap64 (n+1),?_,fun m h=>?_,KA.out.trans kc⟩
    . rw[o.out]
      cases Fo.val P d k (Ref.get d f).cE (s+1) <;> rfl
    . rw[o.out,if_pos trivial]at h
      cases R:Fo.val P d k (Ref.get d f).cE (s+1)with
      | none=>rw[R]at h;cases h
      | some J =>
       rw[R]at h;have hb:=am.out _ R;have e1:=hn _ R;have h:J+1=m:=Option.some.inj h;rw[IntWalk.wrap64_in _ (by omega)];omega
theorem oM.mono{N N':Nat->Prop}{w:World}{a:Option Addr}{n c:Nat}{L:List (Int × Int)}(h:oM N w a n c L)(d:∀ g,N g->g<w.heap.size->N' g):oM N' w a n c L :=
 ⟨h.1,h.2.1,fun g b=>⟨d g (h.2.2.1 g b).1 (h.2.2.1 g b).2,(h.2.2.1 g b).2⟩,h.2.2.2⟩
theorem my.mono{N N':Nat->Prop}{w:World}{a:Option Addr}{n c:Nat}{L:List dr}(h:my N w a n c L)(f:∀ g,N g->g<w.heap.size->N' g):my N' w a n c L:=by
 obtain⟨d,V,b⟩:=h;refine⟨d,V,b.own,fun g e=>f g (b.gB g e) (b.own.lt e),b.len,fun i d o=>?_,b.apart⟩;obtain⟨j,k,l,m⟩:=b.is i d o;exact⟨j,k,l,m.mono f⟩
theorem qk.So{N N':Nat->Prop}{w w':World}{a f:Option Addr}{c n:Nat}{V:List RC}{L:List dr}(h:qk N w a c V L)(k:cq (fun g=>dF a=some g) w w')(x:RC)(y:dr)(A:x.Is N' w' y)
 (o:fp w' 194 4 f (V.length+1) n (V.flatMap RC.cells++x.cells)) (t:dF f=dF a\/∀ g,dF f=some g->w.heap.size<=g) (u:∀ g,N g->g<w.heap.size->N' g) (v:∀ g,dF f=some g->N' g) (z:∀ g,dF x.oa=some g->dF f≠some g):qk N' w' f n (V++[x]) (L++[y]):=by
 refine⟨?_,v,by simp[h.len],fun i j B=>?_,fun i j g d l=>?_⟩
 . rw[List.length_append,List.flatMap_append]
   have e:[x].flatMap RC.cells=x.cells:=by simp
   rw[e];exact o
 . by_cases b:i<V.length
   . rw[List.getElem_append_left b,List.getElem_append_left (by rw[<- h.len];exact b)]
     obtain⟨p,q,r,s⟩:=h.is i b (by rw[<- h.len];exact b);exact⟨p,q,r,(s.mono u).ct k fun g d e=>h.apart i b g d e⟩
   . have m:i=V.length:=by simp at j;omega
     subst m;rw[List.getElem_append_right (Nat.le_refl _),List.getElem_append_right (by rw[<- h.len];exact Nat.le_refl _)];simpa[h.len] using A
 . by_cases b:i<V.length
   . rw[List.getElem_append_left b]at d
     have C:=((h.is i b (by rw[<- h.len];exact b)).2.2.2.2.2.1 g d).2;rcases t with e | e
     . exact h.apart i b g d (e ▸ l)
     . have:=e g l
       omega
   . have m:i=V.length:=by simp at j;omega
     subst m;rw[List.getElem_append_right (Nat.le_refl _)]at d;exact z g (by simpa using d) l
namespace Fo
structure NY(P:List Act)(TL:List dr):Prop where
 ok:Ref.Ok TL
 cy:∀ x ∈ TL,x.cy=9
 len:TL.length<=P.length
 S6:∀ x ∈ TL,x.own.length<=P.length
 own:∀ x ∈ TL,∀ p ∈ x.own,1<=p.1/\p.1<=5/\∃ j:Nat,p.2=j/\j<P.length
theorem NY.nil:NY [] [] :=
 ⟨fun i h=>absurd h (Nat.not_lt_zero i),fun x h=>absurd h (List.not_mem_nil),Nat.le_refl _,fun x h=>absurd h (List.not_mem_nil),fun x h=>absurd h (List.not_mem_nil)⟩
theorem QN(a:Act):1<=a.s1/\a.s1<=5:=by unfold Act.s1;omega
theorem NY.grow{P:List Act}{TL:List dr}(h:NY P TL)(a:Act):NY (P++[a]) (grow TL P.length a):=by
 have hs:=QN a;have hl:(P++[a]).length=P.length+1:=by simp
 unfold Fo.grow;by_cases hn:a.lS TL.length=true
 . rw[if_pos hn]
   have hpar : -1<=Class.cU (a.lx TL.length)/\Class.cU (a.lx TL.length)<TL.length:=by
    unfold Act.lx;by_cases hp:a.p<TL.length
    . rw[if_pos hp];unfold Class.cU;simp only;omega
    . rw[if_neg hp];unfold Class.cU;simp only;omega
   refine⟨fun i hi=>?_,fun x hx=>?_,?_,fun x hx=>?_,fun x hx p hp=>?_⟩
   . by_cases hil:i<TL.length
     . rw[List.getElem_append_left hil];exact h.ok i hil
     . have:i=TL.length:=by simp at hi;omega
       subst this;rw[List.getElem_append_right (Nat.le_refl _)];simpa using hpar
   . rcases List.mem_append.1 hx with hx | hx
     . exact h.cy x hx
     . rw[List.mem_singleton.1 hx]
   . rw[hl,List.length_append];have:=h.len;simp;omega
   . rw[hl]
     rcases List.mem_append.1 hx with hx | hx
     . have:=h.S6 x hx;omega
     . rw[List.mem_singleton.1 hx];show 1<=P.length+1;omega
   . rw[hl]
     rcases List.mem_append.1 hx with hx | hx
     . obtain⟨q1,q2,j,q3,q4⟩:=h.own x hx p hp
       exact⟨q1,q2,j,q3,by omega⟩
     . rw[List.mem_singleton.1 hx]at hp
       have hp:p ∈ [(a.s1,(P.length:Int))]:=hp;rw[List.mem_singleton.1 hp];exact⟨hs.1,hs.2,P.length,rfl,by omega⟩
 . rw[if_neg hn]
   have h0:0<TL.length:=by
    unfold Act.lS at hn;simp only[Bool.or_eq_true,decide_eq_true_eq]at hn
    omega
   have hc:a.c % TL.length<TL.length:=Nat.mod_lt _ h0;generalize a.c % TL.length=c at hc;have hg:Ref.get TL (c:Int)=TL[c]:=Ref.get_at TL c hc;unfold Ref.put;rw[hg];have hm:TL[c] ∈ TL:=List.getElem_mem hc;refine⟨fun i hi=>?_,fun x hx=>?_,?_,fun x hx=>?_,fun x hx p hp=>?_⟩
   . rw[List.length_set]at hi
     rw[List.getElem_set];by_cases e:c=i
     . subst e;rw[if_pos rfl];exact h.ok c hi
     . rw[if_neg e];exact h.ok i hi
   . rcases List.mem_or_eq_of_mem_set hx with hx | hx
     . exact h.cy x hx
     . rw[hx];exact(h.cy _ hm:TL[c].cy=9)
   . rw[hl,List.length_set];have:=h.len;omega
   . rw[hl]
     rcases List.mem_or_eq_of_mem_set hx with hx | hx
     . have:=h.S6 x hx;omega
     . rw[hx]
       show(TL[c].own.filter _++[(a.s1,(P.length:Int))]).length<=P.length+1
       rw[List.length_append];have h1:=List.length_filter_le (fun p:Int × Int=>decide (p.1≠a.s1)) TL[c].own
       have h2:=h.S6 _ hm;simp only[List.length_singleton]
       omega
   . rw[hl]
     rcases List.mem_or_eq_of_mem_set hx with hx | hx
     . obtain⟨q1,q2,j,q3,q4⟩:=h.own x hx p hp
       exact⟨q1,q2,j,q3,by omega⟩
     . rw[hx]at hp
       have hp:p ∈ TL[c].own.filter (fun p=>decide (p.1≠a.s1))++[(a.s1,(P.length:Int))]:=hp
       rcases List.mem_append.1 hp with hp | hp
       . obtain⟨q1,q2,j,q3,q4⟩:=h.own _ hm p (List.mem_filter.1 hp).1
         exact⟨q1,q2,j,q3,by omega⟩
       . rw[List.mem_singleton.1 hp]
         exact⟨hs.1,hs.2,P.length,rfl,by omega⟩
theorem NY.Sq{P:List Act}{b:List dr}(h:NY P b)(a:Act)(f:a.lS b.length=false):Ref.set b (a.c % b.length) a.s1 P.length=(Fo.grow b P.length a,0):=by
 have g:=QN a;unfold Fo.grow;rw[if_neg (by rw[f];simp)];refine vL b h.ok (fun i d=>?_) (fun i d p e=>?_) _ _ _ g.1
 . rw[Ref.get_at b i d];exact h.cy _ (List.getElem_mem d)
 . rw[Ref.get_at b i d]at e
   obtain⟨j,k,_⟩:=h.own _ (List.getElem_mem d) p e;exact⟨j,k⟩
end Fo
open Go Go.RowKit Go.Proofs.K Go.Proofs.tI
structure Gk where
 K:Bk
 ob:Nat
 pm:Nat
 np:Nat
 mm:Nat
 nm:Nat
 fm:List UInt8->Option Value
 reset:Value
structure Dk where
 q:Nat
 oa:Option Addr
 oc:Nat
 ma:Option Addr
 mc:Nat
def Bk.all(K:Bk)(g:Nat):Prop:=K.ey g\/g=K.b\/g=K.hb\/g=K.pb\/K.X g
def Dk.own(D:Dk)(G:Gk)(g:Nat):Prop:=g=G.ob\/g=D.q\/dF D.oa=some g\/dF D.ma=some g\/g=G.pm\/g=G.mm
def Rd.oc(r:Rd)(G:Gk)(D:Dk):Oc:=⟨G.K.mb,D.q,.slice D.oa r.eE.length D.oc,.slice D.ma r.dy.length D.mc,r.comp,r.eM,r.eC,r.ea,r.cu,r.cF,r.is,G.pm,G.mm,G.reset⟩
structure Rd.Ok(r:Rd):Prop where
 src:r.src.length<=1000000
 eE:r.eE.length<=1000000
 dy:r.dy.length<=100
 FU:0<=r.eC.cM
 FV:r.eC.cM<=4194304
 BK:0<=r.ea.cM
 BL:r.ea.cM<=4194304
structure qF(w:World)(G:Gk)(D:Dk)(r:Rd):Prop where
 fv:dZ w G.K r.v
 oc:tp w G.ob (r.oc G D)
 src:jB w D.q r.src r.cM
 eE:fp w 2 1 D.oa r.eE.length D.oc (r.eE.map (Value.int .i64))
 P0:fp w 380 2 D.ma r.dy.length D.mc (Wb r.dy)
 pm:cX sk w G.pm G.np (fun s=>(r.pf s).map (Value.int .i64))
 mm:cX sk w G.mm G.nm G.fm
 ap:∀ g,D.own G g->¬ G.K.all g
 ok:r.Ok
def ej(w:World)(G:Gk)(X:Nat->Prop)(r:Rd):Prop:=∃ D,qF w G D r/\(∀ g,D.own G g\/G.K.all g->X g)/\∀ g,X g->g<w.heap.size
structure ef(w:World)(X:Nat->Prop)(w':World)(X':Nat->Prop):Prop where
 k:cq X w w'
 n:∀ g,X' g->X g\/w.heap.size<=g
theorem ef.refl(w:World)(X:Nat->Prop):ef w X w X:=⟨cq.refl _ _,fun _ h=>.inl h⟩
theorem ef.trans{w c d:World}{X a b:Nat->Prop}(h:ef w X c a)(k:ef c a d b):ef w X d b :=
 ⟨h.k.dh k.k (fun i j e=>(h.n i e).elim id (fun e=>absurd j (by omega))),fun g f=>(k.n g f).elim (fun e=>h.n g e) (fun e=>.inr (Nat.le_trans h.k.size e))⟩
theorem ef.of{w w':World}{X S:Nat->Prop}(k:cq S w w')(h:∀ g,S g->X g):ef w X w' X:=⟨k.mono (fun g _ e=>h g e),fun _ h=>.inl h⟩
theorem ef.kt{w w':World}{X:Nat->Prop}(k:K_ w w'):ef w X w' X:=ef.of k (fun _ e=>e.elim)
theorem ir{P:Program}{f:Nat}{a:Array Value}{V w i:World}{X g:Nat->Prop}{E:Ending}{A:World->(Nat->Prop)->Prop}{Q:Ending->World->Prop}(h:Calls P f a V fun e b=>e=E/\∃ d,A b d/\ef w X b d)(k:Hid (ef i g w X))(c:∀ b d,Hid (A b d)->Hid (ef i g b d)->Q E b):Calls P f a V Q :=
 h.mono fun _ b ⟨l,d,j,m⟩=>l ▸ c b d (h_ j) (h_ (k.out.trans m))
def PR(G:Gk)(X:Nat->Prop)(w:World)(q:Rd × Int)(e:Ending)(w':World):Prop:=e=.returned (I_ q.2)/\∃ X',ej w' G X' q.1/\ef w X w' X'
def Sr(G:Gk)(X:Nat->Prop)(w:World)(r:Rd)(e:Ending)(w':World):Prop:=e=.returned (.tuple #[])/\∃ X',ej w' G X' r/\ef w X w' X'
def MD{β:Type}(V:β->Value)(G:Gk)(X:Nat->Prop)(w:World)(q:Rd × β × Int)(e:Ending)(w':World):Prop:=e=.returned (.tuple #[V q.2.1,I_ q.2.2])/\∃ X',ej w' G X' q.1/\ef w X w' X'
def wR(s:List UInt8):Value:=S_ s
theorem jx{w:World}{e:TypeId}{o n c:Nat}{a:Option Addr}{p:List Value}(h:fp w e o a n c p){g:Nat}{j:Array Value}{t:TypeId}{f:Nat × Nat}(b:w.heap[g]?=some (.cells j t f))(m:(e == t)=false):dF a≠some g:=by
 intro d;rcases h.jK with⟨i,_⟩ | ⟨k,cur,i,l,_⟩
 . rw[i]at d;cases d
 . rw[i]at d
   have:k=g:=by simpa[dF] using d
   subst this;rw[l]at b;injection b with b;injection b with _ b _;subst b;simp at m
theorem P4{w:World}{e i:TypeId}{s t n q c k:Nat}{a f:Option Addr}{u x:List Value}(h:fp w e s a n c u)(o:fp w i t f q k x)(j:(e == i)=false){g:Nat}(b:dF a=some g):dF f≠some g:=by
 rcases h.jK with⟨d,_⟩ | ⟨m,cur,d,p,_⟩
 . rw[d]at b;cases b
 . rw[d]at b
   have:m=g:=by simpa[dF] using b
   subst this;intro l;exact jx o p (by simp at j |-;exact fun e=>j e.symm) l
theorem zu{w:World}{g b n:Nat}{f:List UInt8->Option Value}{a:Array Value}{t:TypeId}{c:Nat × Nat}(h:cX sk w b n f)(d:w.heap[g]?=some (.cells a t c)):g≠b:=fun e=>cX.jt h a t c (e ▸ d)
namespace qF
variable {w w':World} {G:Gk} {D:Dk} {r:Rd}
theorem ct{S:Nat->Prop}(h:qF w G D r)(k:cq S w w')(n:∀ g,D.own G g\/G.K.all g->¬ S g):qF w' G D r :=
 ⟨h.fv.ct k ⟨n _ (.inr (.inl (.inl rfl))),n _ (.inr (.inl (.inr (.inl rfl)))),n _ (.inr (.inr (.inl rfl))),n _ (.inr (.inl (.inr (.inr (.inl rfl))))),n _ (.inr (.inl (.inr (.inr (.inr (.inl rfl)))))),n _ (.inr (.inl (.inr (.inr (.inr (.inr rfl)))))),n _ (.inr (.inr (.inr (.inl rfl)))),n _ (.inr (.inr (.inr (.inr (.inl rfl)))))⟩ (fun g a=>n g (.inr (.inr (.inr (.inr (.inr a)))))),
  h.oc.ct k (n _ (.inl (.inl rfl))),h.src.ct k (n _ (.inl (.inr (.inl rfl)))),h.eE.ct k (fun g a=>n g (.inl (.inr (.inr (.inl a))))),h.P0.ct k (fun g a=>n g (.inl (.inr (.inr (.inr (.inl a)))))),h.pm.ct k (n _ (.inl (.inr (.inr (.inr (.inr (.inl rfl))))))),h.mm.ct k (n _ (.inl (.inr (.inr (.inr (.inr (.inr rfl))))))),h.ap,h.ok⟩
theorem vm{b:VM}(h:qF w G D r)(c:dZ w' G.K b)(k:cq G.K.ey w w'):qF w' G D { r with v:=b }:=by
 have n:∀ g,D.own G g->¬ G.K.ey g:=fun g a e=>h.ap g a (.inl e);exact⟨c,h.oc.ct k (n _ (.inl rfl)),h.src.ct k (n _ (.inr (.inl rfl))),h.eE.ct k (fun g a=>n g (.inr (.inr (.inl a)))),h.P0.ct k (fun g a=>n g (.inr (.inr (.inr (.inl a))))),h.pm.ct k (n _ (.inr (.inr (.inr (.inr (.inl rfl)))))),h.mm.ct k (n _ (.inr (.inr (.inr (.inr (.inr rfl)))))),h.ap,{ h.ok with }⟩
theorem S7(h:qF w G D r):D.q≠G.ob/\dF D.oa≠some G.ob/\dF D.ma≠some G.ob/\G.pm≠G.ob/\G.mm≠G.ob :=
 ⟨eQ h.src.head h.oc rfl,jx h.eE h.oc rfl,jx h.P0 h.oc rfl,fun e=>zu h.pm h.oc e.symm,fun e=>zu h.mm h.oc e.symm⟩
theorem qn(h:qF w G D r):dF D.oa≠some D.q/\dF D.ma≠some D.q/\G.pm≠D.q/\G.mm≠D.q :=
 ⟨jx h.eE h.src.head rfl,jx h.P0 h.src.head rfl,fun e=>zu h.pm h.src.head e.symm,fun e=>zu h.mm h.src.head e.symm⟩
theorem ME{S:Nat->Prop}(h:qF w G D r)(k:cq S w w')(c:∀ g,S g->D.own G g\/w.heap.size<=g):dZ w' G.K r.v:=by
 have a:=h.fv.sV;have n:∀ g,G.K.all g->g<w.heap.size->¬ S g:=fun g b a e=>(c g e).elim (fun e=>h.ap g e b) (fun e=>by omega);exact h.fv.ct k ⟨n _ (.inl (.inl rfl)) a.1,n _ (.inl (.inr (.inl rfl))) a.2.1,n _ (.inr (.inl rfl)) a.2.2.1,n _ (.inl (.inr (.inr (.inl rfl)))) a.2.2.2.1,n _ (.inl (.inr (.inr (.inr (.inl rfl))))) a.2.2.2.2.1,n _ (.inl (.inr (.inr (.inr (.inr rfl))))) a.2.2.2.2.2.1,n _ (.inr (.inr (.inl rfl))) a.2.2.2.2.2.2.1,n _ (.inr (.inr (.inr (.inl rfl)))) a.2.2.2.2.2.2.2⟩ (fun g b=>n g (.inr (.inr (.inr (.inr b)))) (h.fv.xl g b))
theorem mE{r':Rd}(h:qF w G D r)(k:cq (fun g=>g=G.ob) w w')(l:tp w' G.ob (r'.oc G D))(e:r'.v=r.v/\r'.pf=r.pf/\r'.src=r.src/\r'.cM=r.cM/\r'.eE=r.eE/\r'.dy=r.dy)(s:r'.Ok):qF w' G D r':=by
 obtain⟨b,c,d,f,i,j⟩:=e;obtain⟨m,n,o,p,q⟩:=h.S7;refine⟨?_,l,?_,?_,?_,?_,h.mm.ct k q,h.ap,s⟩
 . rw[b];exact h.ME k (fun g a=>.inl (.inl a))
 . rw[d,f];exact h.src.ct k m
 . rw[i];exact h.eE.ct k (fun g a e=>n (by rw[a,e]))
 . rw[j];exact h.P0.ct k (fun g a e=>o (by rw[a,e]))
 . rw[c];exact h.pm.ct k p
theorem rN{r':Rd}(h:qF w G D r)(k:cq (fun g=>g=G.ob) w w')(l:tp w' G.ob (r'.oc G { D with ma:=none,mc:=0 }))(e:r'.v=r.v/\r'.pf=r.pf/\r'.src=r.src/\r'.cM=r.cM/\r'.eE=r.eE/\r'.dy=[])(q:r'.Ok):qF w' G { D with ma:=none,mc:=0 } r':=by
 obtain⟨b,c,d,f,i,j⟩:=e;obtain⟨m,n,s,o,p⟩:=h.S7;refine⟨?_,l,?_,?_,?_,?_,h.mm.ct k p,?_,q⟩
 . rw[b];exact h.ME k (fun g a=>.inl (.inl a))
 . rw[d,f];exact h.src.ct k m
 . rw[i];exact h.eE.ct k (fun g a e=>n (by rw[a,e]))
 . rw[j];exact fp.nil _ _ _
 . rw[c];exact h.pm.ct k o
 . rintro g (a | a | a | a | a | a)
   . exact h.ap g (.inl a)
   . exact h.ap g (.inr (.inl a))
   . exact h.ap g (.inr (.inr (.inl a)))
   . cases a
   . exact h.ap g (.inr (.inr (.inr (.inr (.inl a)))))
   . exact h.ap g (.inr (.inr (.inr (.inr (.inr a)))))
theorem sV(h:qF w G D r):G.ob<w.heap.size/\D.q<w.heap.size/\G.pm<w.heap.size/\G.mm<w.heap.size:=⟨cA h.oc,cA h.src.head,h.pm.lt,h.mm.lt⟩
end qF
namespace ej
variable {w w':World} {G:Gk} {X:Nat->Prop} {r:Rd}
theorem ok(h:ej w G X r):r.Ok:=h.elim fun _ h=>h.1.ok
theorem fv(h:ej w G X r):dZ w G.K r.v:=h.elim fun _ h=>h.1.fv
theorem ct{S:Nat->Prop}(h:ej w G X r)(k:cq S w w')(n:∀ g,X g->¬ S g):ej w' G X r:=by
 obtain⟨D,c,b,d⟩:=h;exact⟨D,c.ct k (fun g a=>n g (b g a)),b,fun g a=>Nat.lt_of_lt_of_le (d g a) k.size⟩
theorem cL(h:ej w G X r)(k:K_ w w'):ej w' G X r:=h.ct k (fun _ _ e=>e)
theorem vm{a:VM}(h:ej w G X r)(f:dZ w' G.K a)(k:cq G.K.ey w w'):ej w' G X { r with v:=a }:=by
 obtain⟨D,b,c,d⟩:=h;exact⟨D,b.vm f k,c,fun g e=>Nat.lt_of_lt_of_le (d g e) k.size⟩
theorem uc(h:ej w G X r)(k:cq G.K.ey w w'):ef w X w' X:=by
 obtain⟨D,c,a,d⟩:=h;exact ef.of k (fun g b=>a g (.inr (.inl b)))
theorem pe(h:ej w G X r)(k:cq (fun g=>g=G.ob) w w'):ef w X w' X:=by
 obtain⟨D,c,a,d⟩:=h;exact ef.of k (fun g b=>a g (.inl (.inl b)))
theorem zw(h:ej w G X r):¬ X w.heap.size:=fun e=>h.elim fun _ h=>Nat.lt_irrefl _ (h.2.2 _ e)
theorem heap(h:ej w G X r):∃ D,w.heap[G.ob]?=some (.cells (r.oc G D).cells 59 (0,0)):=h.elim fun D h=>⟨D,h.1.oc⟩
theorem er(h:ej w G X r)(i:Nat):w.frozen? ⟨G.ob,i,none⟩=false:=h.elim fun _ h=>cB h.1.oc
theorem o0(h:ej w G X r):w.cell? ⟨G.ob,0,none⟩=some (cD G.K.mb):=h.elim fun _ h=>cp h.1.oc rfl
theorem o4(h:ej w G X r):w.cell? ⟨G.ob,4,none⟩=some (.bool r.comp):=h.elim fun _ h=>cp h.1.oc rfl
theorem o5(h:ej w G X r):w.cell? ⟨G.ob,5,none⟩=some (.bool r.eM):=h.elim fun _ h=>cp h.1.oc rfl
theorem o6(h:ej w G X r):w.cell? ⟨G.ob,6,none⟩=some (I_ r.eC.cM):=h.elim fun _ h=>cp h.1.oc rfl
theorem o7(h:ej w G X r):w.cell? ⟨G.ob,7,none⟩=some (I_ r.eC.xt):=h.elim fun _ h=>cp h.1.oc rfl
theorem o8(h:ej w G X r):w.cell? ⟨G.ob,8,none⟩=some (I_ r.eC.cP):=h.elim fun _ h=>cp h.1.oc rfl
theorem o9(h:ej w G X r):w.cell? ⟨G.ob,9,none⟩=some (S_ r.eC.name):=h.elim fun _ h=>cp h.1.oc rfl
theorem S8(h:ej w G X r):w.cell? ⟨G.ob,10,none⟩=some (I_ r.ea.cM):=h.elim fun _ h=>cp h.1.oc rfl
theorem S9(h:ej w G X r):w.cell? ⟨G.ob,11,none⟩=some (I_ r.ea.xt):=h.elim fun _ h=>cp h.1.oc rfl
theorem S'(h:ej w G X r):w.cell? ⟨G.ob,12,none⟩=some (I_ r.ea.cP):=h.elim fun _ h=>cp h.1.oc rfl
theorem Ta(h:ej w G X r):w.cell? ⟨G.ob,13,none⟩=some (S_ r.ea.name):=h.elim fun _ h=>cp h.1.oc rfl
theorem MG(h:ej w G X r):w.cell? ⟨G.ob,14,none⟩=some (I_ r.cu):=h.elim fun _ h=>cp h.1.oc rfl
theorem II(h:ej w G X r):w.cell? ⟨G.ob,15,none⟩=some (I_ r.cF):=h.elim fun _ h=>cp h.1.oc rfl
theorem Ef(h:ej w G X r):w.cell? ⟨G.ob,16,none⟩=some (.bool r.is):=h.elim fun _ h=>cp h.1.oc rfl
theorem XC(h:ej w G X r):w.cell? ⟨G.ob,17,none⟩=some (.map (some G.pm)):=h.elim fun _ h=>cp h.1.oc rfl
theorem TW(h:ej w G X r):w.cell? ⟨G.ob,18,none⟩=some (.map (some G.mm)):=h.elim fun _ h=>cp h.1.oc rfl
theorem Wo(h:ej w G X r):w.cell? ⟨G.ob,19,none⟩=some G.reset:=h.elim fun _ h=>cp h.1.oc rfl
theorem o3(h:ej w G X r):∃ a c,w.cell? ⟨G.ob,3,none⟩=some (.slice a r.dy.length c):=h.elim fun D h=>⟨D.ma,D.mc,cp h.1.oc rfl⟩
theorem XD(h:ej w G X r):∃ a c,Wc w G.ob 3 a c r.dy:=h.elim fun D h=>⟨D.ma,D.mc,cp h.1.oc rfl,cB h.1.oc,h.1.P0,h.1.S7.2.2.1,cA h.1.oc⟩
theorem v0(h:ej w G X r):w.cell? ⟨G.K.mb,0,none⟩=some (cD G.K.s):=h.fv.m0
theorem v1(h:ej w G X r):w.cell? ⟨G.K.mb,1,none⟩=some (cD G.K.db):=h.fv.m1
theorem v2(h:ej w G X r):w.cell? ⟨G.K.mb,2,none⟩=some (cD G.K.rb):=h.fv.m2
theorem v8(h:ej w G X r):w.cell? ⟨G.K.mb,8,none⟩=some (I_ r.v.cF):=h.fv.m8
theorem Ss(h:ej w G X r):w.cell? ⟨G.K.mb,10,none⟩=some (I_ r.v.cI):=h.fv.m10
theorem UR(h:ej w G X r):w.cell? ⟨G.K.mb,13,none⟩=some (.bool r.v.dL):=h.fv.m13
theorem vs(h:ej w G X r):w.cell? ⟨G.K.s,0,none⟩=some (cD G.K.b):=h.fv.ms
theorem sV(h:ej w G X r):G.ob<w.heap.size/\G.K.mb<w.heap.size/\G.K.s<w.heap.size/\G.K.b<w.heap.size/\G.K.bb<w.heap.size/\G.K.db<w.heap.size/\G.K.rb<w.heap.size:=by
 have a:=h.fv.sV;exact h.elim fun _ h=>⟨h.1.sV.1,a.1,a.2.1,a.2.2.1,a.2.2.2.1,a.2.2.2.2.1,a.2.2.2.2.2.1⟩
theorem mE{r':Rd}(h:ej w G X r)(k:cq (fun g=>g=G.ob) w w')(d:∀ D,w.heap[G.ob]?=some (.cells (r.oc G D).cells 59 (0,0))->tp w' G.ob (r'.oc G D))(e:r'.v=r.v/\r'.pf=r.pf/\r'.src=r.src/\r'.cM=r.cM/\r'.eE=r.eE/\r'.dy=r.dy)(i:r'.Ok):ej w' G X r':=by
 obtain⟨D,a,b,c⟩:=h;exact⟨D,a.mE k (d D a.oc) e i,b,fun g f=>Nat.lt_of_lt_of_le (c g f) k.size⟩
theorem rN{r':Rd}(h:ej w G X r)(k:cq (fun g=>g=G.ob) w w')(f:∀ D,w.heap[G.ob]?=some (.cells (r.oc G D).cells 59 (0,0))->tp w' G.ob (r'.oc G { D with ma:=none,mc:=0 }))(e:r'.v=r.v/\r'.pf=r.pf/\r'.src=r.src/\r'.cM=r.cM/\r'.eE=r.eE/\r'.dy=[])(i:r'.Ok):ej w' G X r':=by
 obtain⟨D,c,b,d⟩:=h;refine⟨_,c.rN k (f D c.oc) e i,?_,fun g a=>Nat.lt_of_lt_of_le (d g a) k.size⟩;rintro g ((a | a | a | a | a | a) | a)
 . exact b g (.inl (.inl a))
 . exact b g (.inl (.inr (.inl a)))
 . exact b g (.inl (.inr (.inr (.inl a))))
 . cases a
 . exact b g (.inl (.inr (.inr (.inr (.inr (.inl a))))))
 . exact b g (.inl (.inr (.inr (.inr (.inr (.inr a))))))
 . exact b g (.inr a)
theorem cT(h:ej w G X r):∃ q,w.cell? ⟨G.ob,1,none⟩=some (cD q)/\jB w q r.src r.cM/\X q/\∀ w' n,jB w' q r.src n->cq (fun g=>g=q) w w'->ej w' G X { r with cM:=n }:=by
 obtain⟨D,a,c,d⟩:=h;refine⟨D.q,cp a.oc rfl,a.src,c _ (.inl (.inr (.inl rfl))),fun w' n f k=>⟨D,?_,c,fun g b=>Nat.lt_of_lt_of_le (d g b) k.size⟩⟩;obtain⟨i,j,l,m⟩:=a.qn;exact⟨a.ME k (fun g b=>.inl (.inr (.inl b))),a.oc.ct k (fun e=>a.S7.1 e.symm),f,a.eE.ct k (fun g b e=>i (by rw[b,e])),a.P0.ct k (fun g b e=>j (by rw[b,e])),a.pm.ct k l,a.mm.ct k m,a.ap,{ a.ok with }⟩
theorem TX{q:Nat}(a:X q)(k:cq (fun g=>g=q) w w'):ef w X w' X:=ef.of k (fun g e=>by rw[e];exact a)
theorem iG(h:ej w G X r):∃ a c,w.cell? ⟨G.ob,2,none⟩=some (.slice a r.eE.length c)/\∀ w',K_ w w'->fp w' 2 1 a r.eE.length c (r.eE.map (Value.int .i64)):=by
 obtain⟨D,b,d,e⟩:=h;exact⟨D.oa,D.oc,cp b.oc rfl,fun w' k=>b.eE.ct k (fun _ _=>id)⟩
end ej
theorem dZ.Su{w:World}{K:Bk}{v:VM}(h:dZ w K v){g:Nat}(a:K.all g):g<w.heap.size:=by
 obtain⟨b,c,d,e,f,i,j,k⟩:=h.sV;rcases a with (a | a | a | a | a) | a | a | a | a
 . omega
 . omega
 . omega
 . omega
 . omega
 . omega
 . omega
 . omega
 . exact h.xl g a
theorem ej.MH{w i:World}{G:Gk}{X:Nat->Prop}{r:Rd}{q:Nat}{t:List UInt8}(h:ej w G X r)(k:K_ w i)(z:w.heap.size<=q)(j:jB i q t 0)(n:t.length<=1000000) :
 ej (i.setCell ⟨G.ob,1,none⟩ (cD q)) G (fun g=>X g\/g=q) (r.again t)/\ef w X (i.setCell ⟨G.ob,1,none⟩ (cD q)) (fun g=>X g\/g=q):=by
 obtain⟨D,b,f,l⟩:=h;have d:=b.ct k (fun _ _ e=>e);have c:cq (fun g=>g=G.ob) i (i.setCell ⟨G.ob,1,none⟩ (cD q)):=cq.setCell _ _ _ (fun _=>rfl);obtain⟨A,o,p,s,u⟩:=d.S7;have y:=b.sV.1;have m:q≠G.ob:=by omega
 have x:=cA j.head;refine⟨⟨{ D with q:=q },⟨d.ME c (fun g a=>.inl (.inl a)),cz d.oc _,j.ct c m,d.eE.ct c (fun g a e=>o (by rw[a,e])),d.P0.ct c (fun g a e=>p (by rw[a,e])),d.pm.ct c s,d.mm.ct c u,?_,{ b.ok with src:=n }⟩,?_,?_⟩,?_⟩
 . rintro g (a | a | a | a | a | a)
   . exact b.ap g (.inl a)
   . intro e;have:=b.fv.Su e;have a:g=q:=a;omega
   . exact b.ap g (.inr (.inr (.inl a)))
   . exact b.ap g (.inr (.inr (.inr (.inl a))))
   . exact b.ap g (.inr (.inr (.inr (.inr (.inl a)))))
   . exact b.ap g (.inr (.inr (.inr (.inr (.inr a)))))
 . rintro g ((a | a | a | a | a | a) | a)
   . exact .inl (f g (.inl (.inl a)))
   . exact .inr a
   . exact .inl (f g (.inl (.inr (.inr (.inl a)))))
   . exact .inl (f g (.inl (.inr (.inr (.inr (.inl a))))))
   . exact .inl (f g (.inl (.inr (.inr (.inr (.inr (.inl a)))))))
   . exact .inl (f g (.inl (.inr (.inr (.inr (.inr (.inr a)))))))
   . exact .inl (f g (.inr a))
 . rintro g (a | a)
   . exact Nat.lt_of_lt_of_le (l g a) (Nat.le_trans k.size c.size)
   . have:=c.size;have a:g=q:=a;omega
 . refine⟨(k.mono (fun _ _ e=>e.elim)).trans (c.mono (fun g _ e=>?_)),fun g a=>a.imp id (fun e=>by have e:g=q:=e;omega)⟩
   rw[e];exact f _ (.inl (.inl rfl))
theorem ej.MI{w d c:World}{G:Gk}{X a:Nat->Prop}{r':Rd}{o:Obj}(j:¬ X w.heap.size)(h:ej d G a r')(E:ef (w.alloc o) X d a)(k:cq (fun g=>g=w.heap.size) d c):∃ f,ej c G f r'/\ef w X c f:=by
 have m:(w.alloc o).heap.size=w.heap.size+1:=World.size_alloc _ _;refine⟨a,h.ct k (fun g b e=>?_),⟨((cq.alloc _ w o).trans E.k).dh k (fun i l e=>by have e:i=w.heap.size:=e;omega),fun g b=>(E.n g b).imp id (fun e=>by omega)⟩⟩;have e:g=w.heap.size:=e;subst e;exact(E.n _ b).elim j (fun e=>by omega)
theorem ej.box{w a:World}{X b:Nat->Prop}{o:Obj}(c:¬ X w.heap.size)(E:ef (w.alloc o) X a b):a.heap[w.heap.size]?=some o:=E.k.heap (cx w o) c
theorem Sp.pI(k:Nat)(s:Sp):(Sp.fD k s).1.mem.size=s.mem.size:=by
 induction k generalizing s with
 | zero=>rfl
 | succ k a =>
  unfold Sp.fD;split
  . rfl
  . split
    . exact Sp.pq _ _
    . rw[a];exact Sp.pq _ _
section
variable (K:Bk) (w:World) (v:VM)
theorem MJ(n:Int)(h:dZ w K v):Calls prog 83 #[cD K.s,I_ n] w (PV K w (v.fB (v.x.cN n))) :=
 (eP w K.s K.b K.bb v.x n h.vm.sp).mono fun _ _ ⟨a,c,k⟩=>⟨a,h.qt k c (Sp.gL _ _),qu K k⟩
theorem MK(h:dZ w K v):Calls prog 147 #[cD K.s] w (PV K w (v.fB v.x.align)) :=
 (lC w K.s K.b K.bb v.x h.vm.sp).mono fun _ _ ⟨a,c,k⟩=>⟨a,h.qt k c (Sp.pI _ _),qu K k⟩
theorem P5(n:Int)(h:dZ w K v):Calls prog 84 #[cD K.s,I_ n] w (PV K w (v.fB (v.x.fN n))) :=
 (qR w K.s K.b K.bb v.x n h.vm.sp).mono fun _ _ ⟨a,c,k⟩=>⟨a,h.qt k c (congrArg Mem.size (Sp.kR _ _)),qu K k⟩
theorem zx(h:dZ w K v):Calls prog 35 #[cD K.s] w fun e w'=>e=.returned (I_ v.x.cu)/\w=w':=eJ w K.s K.b K.bb v.x h.vm.sp
theorem P6(d:Wd)(a:Int)(c:0<=d.cM)(e:d.cM<=4194304)(f:0<=a)(g:a<=255)(h:dZ w K v):Calls prog 37 #[cD K.b,d.val,I_ a] w (PV K w (v.mem (v.x.mem.iZ d.cM a).1,(v.x.mem.iZ d.cM a).2)) :=
 (H6 w K.b K.bb v.x.mem d a h.vm.sp.mem c e f g).mono fun _ _ ⟨i,j,k⟩=>⟨i,h.dI k j (by unfold Mem.iZ;(repeat' split) <;> first | rfl | exact Mem.cQ _ _ _),mf K k⟩
theorem FW(a:List UInt8)(c:Option Addr)(d:Nat)(ls:List Int)(i:a.length<=4194304)(g:fp w 2 1 c ls.length d (ls.map (Value.int .i64)))(f:ls.length<=1000000)(h:dZ w K v) :
 Calls prog 42 #[cD K.b,S_ a,.slice c ls.length d] w fun e w'=>e=.returned (ot (v.x.mem.find a ls))/\K_ w w' :=
 H3 w K.b K.bb v.x.mem a c ls.length d ls h.vm.sp.mem i g rfl f
theorem nj(r:Sp × Int)(f:Sp->Sp × Int)(n:Nat)(h:r.1.mem.size=n)(a:∀ x:Sp,x.mem.size=n->(f x).1.mem.size=n):(Sp.andThen r f).1.mem.size=n:=by
 unfold Sp.andThen;split
 . exact h
 . exact a _ h
theorem BM(x:Sp)(b:Int)(f:List UInt8)(d c:Int):(x.EI b f d c).1.mem.size=x.mem.size:=by
 have e:(x.wY b).1.mem.size=x.mem.size:=by unfold Sp.wY;split;exact Sp.pI _ _;rfl
 refine nj _ _ _ (nj _ _ _ (nj _ _ _ (nj _ _ _ (nj _ _ _ (nj _ _ _ e ?_) ?_) ?_) ?_) ?_) ?_
 . exact fun y a=>(Sp.gL _ _).trans a
 . exact fun y a=>(Sp.gL _ _).trans a
 . exact fun y a=>(Sp.Cp _ _).trans a
 . exact fun y a=>(Sp.pI _ _).trans a
 . exact fun y a=>(Sp.gL _ _).trans a
 . exact fun y a=>(Mem.cQ _ _ _).trans a
theorem tw(x:Sp)(c:Int)(d:List UInt8)(b a:Int):(x.cO c d b a).1.mem.size=x.mem.size:=by
 unfold Sp.cO;split
 . rfl
 . split
   . rw[Sp.kR];exact BM x c d b a
   . exact BM x c d b a
def ML(K:Bk)(w:World)(v:VM)(q:Sp × Wd × Int)(e:Ending)(w':World):Prop:=e=.returned (.tuple #[q.2.1.val,I_ q.2.2])/\dZ w' K { v with x:=q.1 }/\cq K.ey w w'
theorem Eg(l:Int)(d:List UInt8)(a c:Int)(e:0<=a)(f:a<=255)(i:(v.x.cO l d a c).2.2=0)(h:dZ w K v):Calls prog 82 #[cD K.s,I_ l,S_ d,I_ a,I_ c] w (ML K w v (v.x.cO l d a c)) :=
 (nQ w K.s K.b K.bb v.x l d a c h.vm.sp e f i).mono fun _ _ ⟨g,j,k⟩=>⟨g,h.qt k j (tw _ _ _ _ _),qu K k⟩
end
theorem MN(w:World):(zeroValue 2).run prog w=.ok (I_ 0) w:=by kernel_rfl
section
variable (G:Gk) (X:Nat->Prop) (w:World) (r:Rd)
theorem ej.Vo{G:Gk}{X:Nat->Prop}{w:World}{r:Rd}(h:ej w G X r):cX sk w G.pm G.np (fun s=>(r.pf s).map (Value.int .i64)):=h.elim fun _ h=>h.1.pm
theorem TY(s:List UInt8)(g:s.length<=1000000000)(h:ej w G X r):Calls prog 44 #[cD G.ob,S_ s] w fun e w'=>e=.returned (I_ (r.xt s))/\w=w':=by
 have b:=h_ h.Vo;have a:((r.pf s).map (Value.int .i64)).getD (I_ 0)=I_ (r.xt s):=by unfold Rd.xt;cases r.pf s <;> rfl
 have c:=h_ a;have d:=h_ h;have f:=h_ (ef.refl w X);have i:=d.out.XC;clear h a;go_enter func44,ntmps44
 go_wp2_with (first
  | (at_lookup;refine yN sk _ rfl _ _ 56 rfl _ underlying56 _ (MN _) G.pm G.np _ rfl b.out s (show s.length<=maxLen by unfold maxLen;omega) rfl _ rfl ?_;rw[c.out]))
 go_ret;exact⟨rfl,rfl⟩
theorem pg(n:Int)(h:ej w G X r):Calls prog 83 #[cD G.K.s,I_ n] w (PR G X w (r.cN n)) :=
 (MJ G.K w r.v n h.fv).mono fun _ _ ⟨a,b,k⟩=>⟨a,X,h.vm b k,h.uc k⟩
theorem zy(h:ej w G X r):∃ q,w.cell? ⟨G.ob,1,none⟩=some (cD q)/\Calls prog 76 #[cD q] w fun e w'=>e=.returned (S_ r.dt)/\∃ a,ej w' G a r.next/\ef w X w' a:=by
 obtain⟨q,d,g,i,f⟩:=h.cT;exact⟨q,d,(Lq w q r.src r.cM g).mono fun _ _ ⟨c,b,k⟩=>⟨c,X,f _ _ b k,ej.TX i k⟩⟩
theorem ud(h:ej w G X r):Calls prog 25 #[cD G.ob] w (MD wR G X w r.name):=by
 obtain⟨q,j,l⟩:=zy G X w r h;have f:=h_ l;have a:r.name=(r.next,if Rd.gH r.dt then([],-16)else(r.dt,0)):=rfl;generalize r.name=Q at a |-;have p:=h_ h;have i:=h_ (ef.refl w X);generalize r.dt=s at f a;clear h l;by_cases b:s=[]
 . subst b
   have d:=h_ (show Q=(r.next,[],-16) from a);clear a;go_enter func25,ntmps25;go_wp2_with fail;refine ir (f.out) i ?_;intro m k e c;try clear j
   go_wp2_with fail;go_ret2;rw[d.out];exact⟨rfl,_,e.out,c.out⟩
 . by_cases g:31<s.length
   . have d:=h_ (show Q=(r.next,[],-16) by rw[a];unfold Rd.gH;simp[g])
     have n:s.isEmpty=false:=by cases s with | nil=>exact absurd rfl b | cons=>rfl
     have o:decide ((31:Int)<(s.length:Int))=true:=decide_eq_true (by omega);clear a b g;go_enter func25,ntmps25;go_wp2_with fail;refine ir (f.out) i ?_;intro m k e c;try clear j
     go_wp2_with fail;go_ret2;rw[d.out];exact⟨rfl,_,e.out,c.out⟩
   . have d:=h_ (show Q=(r.next,s,0) by rw[a];unfold Rd.gH;simp[b,g])
     have n:s.isEmpty=false:=by cases s with | nil=>exact absurd rfl b | cons=>rfl
     have o:decide ((31:Int)<(s.length:Int))=false:=decide_eq_false (by omega);clear a b g;go_enter func25,ntmps25;go_wp2_with fail;refine ir (f.out) i ?_;intro m k e c;try clear j
     go_wp2_with fail;go_ret2;rw[d.out];exact⟨rfl,_,e.out,c.out⟩
theorem MO(t:List UInt8)(i:t.length<=1000000)(h:ej w G X r):Calls prog 26 #[cD G.ob,S_ t] w (Sr G X w (r.again t)):=by
 have j:=h_ (yV w t (by omega));have f:=h_ h;have l:=h_ (ef.refl w X);have b:∃ q,C_ w G.ob 1=some (cD q):=h.elim fun D h=>⟨D.q,cp h.1.oc rfl⟩;obtain⟨n,b⟩:=b;have k:=h_ i;clear h i;go_enter func26,ntmps26;go_wp2_with fail;refine j.out.mono ?_;rintro e p ⟨rfl,c,a⟩;have o:=a.cell b id;obtain⟨q,g⟩:∃ q,q=w.heap.size:=⟨_,rfl⟩;rw[<- g]at c |-;have m:=(f.out.cL a).er 1;have d:=h_ (f.out.MH a (by omega) c k.out);clear c a b g;go_wp2_with fail;go_end0;exact⟨rfl,_,d.out.1,d.out.2⟩
end
section
variable (G:Gk) (X:Nat->Prop) (w:World) (r:Rd)
theorem Rd.Eh(l:List Int)(r:Rd)(n:Int)(h:(r.cN n).2≠0):Rd.eR (n :: l) r=r.cN n:=by
 show Rd.bind _ _=_;unfold Rd.bind;rw[if_pos h]
theorem Rd.IJ(l:List Int)(r:Rd)(n:Int)(h:(r.cN n).2=0):Rd.eR (n :: l) r=Rd.eR l (r.cN n).1:=by
 show Rd.bind _ _=_;unfold Rd.bind;rw[if_neg (by simpa using h)]
def Rest(l:List Int)(q Q:Rd × Int):Prop:=if q.2=0 then Rd.eR l q.1=Q else q=Q
theorem Rest.TT{l:List Int}{q Q:Rd × Int}(h:Rest l q Q)(e:q.2≠0):q=Q:=by unfold Rest at h;rwa [if_neg e]at h
theorem Rest.ok{l:List Int}{q Q:Rd × Int}(h:Rest l q Q)(e:q.2=0):Rd.eR l q.1=Q:=by unfold Rest at h;rwa [if_pos e]at h
theorem Rest.step{n:Int}{l:List Int}{r:Rd}{Q:Rd × Int}(h:Rd.eR (n :: l) r=Q):Rest l (r.cN n) Q:=by
 unfold Rest;split
 . rename_i e;rw[<- h,Rd.IJ l r n e]
 . rename_i e;rw[<- h,Rd.Eh l r n e]
theorem Rest.done{q Q:Rd × Int}(h:Rest [] q Q):q=Q:=by
 unfold Rest at h;split at h
 . rename_i e;rw[<- h];show q=(q.1,0);rw[<- e]
 . exact h
theorem qG(s:List UInt8)(a:Option Addr)(c:Nat)(l:List Int)(hs:s.length<=1000000000)(J:iI w a l)(hl:l.length<=100000)(O:∀ g,dF a=some g->¬ X g/\g<w.heap.size)(h:ej w G X r) :
 Calls prog 33 #[cD G.ob,S_ s,.slice a l.length c] w (PR G X w (r.di s l)):=by
 have I:=h_ fun V (j:ej V G X r)=>TY G X V r s hs j;obtain⟨x,A⟩:∃ x,x=r.xt s:=⟨_,rfl⟩;have E:=h_ fun V (j:ej V G X r)=>pg G X V r x j;have aa:=h_ fun V Y u n (j:ej V G Y u)=>pg G Y V u n j;have z:Rd.eR (x :: l) r=r.di s l:=by rw[A];rfl
 generalize r.di s l=Q at z |-;rw[<- A]at I;have H:=h_ (Rest.step z);have v:=h_ h;have E0:=h_ (ef.refl w X);have C:=v.out.o0;have D:=v.out.v0;have HA:=h_ J;have ab:=h_ O;generalize r.cN x=q1 at E H;obtain⟨r1,e1⟩:=q1;clear h z A J O;go_enter func33,ntmps33;go_wp2_with fail
 go_region_held3 (fun w'=>C_ w' G.ob 0=some (cD G.K.mb)/\C_ w' G.K.mb 0=some (cD G.K.s))
  (first | go_keep | exact⟨T,U⟩)
  (first
    | (go_at_call 44;refine(I.out w.drew (v.out.cL (cq.drew _ _))).mono ?_;rintro e w9 ⟨rfl,rfl⟩;dsimp only)
    | (go_at_call 83;refine(E.out w.drew (v.out.cL (cq.drew _ _))).mono ?_;rintro e w1 ⟨rfl,X1,y,S⟩;dsimp only;have T:=y.o0;have U:=y.v0))
 have R1:=h_ y;have W:=h_ ((ef.kt (fw w)).trans S);clear T U y S C D;go_wp2_with fail
 go_loopw [7,23] (fun ev B wr=>∃ (i:Nat) (q:Rd × Int) (Y:Nat->Prop),ev=I_ q.2/\B=I_ i/\i<=l.length/\ej wr G Y q.1/\ef w X wr Y/\Rest (l.drop i) q Q) (fun _ B _=>l.length-(intOf B).toNat)
 case atStart=>exact⟨0,(r1,e1),X1,rfl,rfl,Nat.zero_le _,R1.out,W.out,H.out⟩
 case round =>
  obtain⟨i,⟨u,e⟩,Y,rfl,rfl,hi,P,M,R⟩:=hrel;have f:=h_ P;have p:=h_ M;have d:=h_ R;clear P M R;by_cases N:i<l.length
  . obtain⟨g,o,rfl,hc⟩:=HA.out.ct p.out.k (fun g hg=>(ab.out g hg).1) i N
    have L:l.drop i=l[i] :: l.drop (i+1):=List.drop_eq_getElem_cons N;have b:=d.out;rw[L]at b;replace d:=h_ b;generalize l[i]=n at hc d;have ad:(i:Int)<l.length:=by omega
    clear L b;by_cases m:e=0
    . subst m
      have t:=h_ (Rest.step (d.out.ok rfl));have F:=h_ (aa.out wr Y u n f.out);generalize u.cN n=q at t F;obtain⟨u3,e3⟩:=q;have C:=f.out.o0;have D:=f.out.v0;go_wp2_with fail;refine ir (F.out) p ?_;intro w3 X3 R3 Z;try clear C;try clear D
      go_wp2_with fail;go_roundw;case rel=>exact⟨i+1,(u3,e3),X3,rfl,by go_num,by omega,R3.out,Z.out,t.out⟩
      case measure=>simp[intOf];omega
    . have d1:(e == 0)=false:=by simp[m]
      have HB:=h_ (d.out.TT m);have t:Hid (Rest (l.drop (i+1)) (u,e) Q):=h_ (by unfold Rest;rw[if_neg m];exact HB.out);clear m;go_wp2_with fail;go_roundw;case rel=>exact⟨i+1,(u,e),Y,rfl,by go_num,by omega,f.out,p.out,t.out⟩
      case measure=>simp[intOf];omega
  . have ac:i=l.length:=by omega
    subst ac;have b:=d.out;rw[List.drop_length]at b;have HF:=h_ b.done;have ad:¬ ((l.length:Int)<l.length):=by omega
    clear b;go_wp2_with fail;go_ret;rw[<- HF.out];exact⟨rfl,_,f.out,p.out⟩
theorem Rd.Ei(l m:List Int)(r:Rd):Rd.eR (l++m) r=Rd.bind (Rd.eR l r) (Rd.eR m):=by
 induction l generalizing r with
 | nil=>rfl
 | cons n l a =>
  show Rd.bind _ _=Rd.bind (Rd.bind _ _) _;unfold Rd.bind;by_cases h:(r.cN n).2≠0
  . rw[if_pos h,if_pos h,if_pos h]
  . rw[if_neg h,if_neg h];exact a _
theorem Rd.IK(l:List Int)(r:Rd):(Rd.eR l r).1.pf=r.pf:=by
 induction l generalizing r with
 | nil=>rfl
 | cons n l a =>
  show(Rd.bind _ _).1.pf=_;unfold Rd.bind;split
  . rfl
  . rw[a];rfl
theorem P7(a:Option Addr)(c:Nat)(l:List Int)(j:iI w a l)(o:l.length<=100000)(i:∀ g,dF a=some g->¬ X g)(h:ej w G X r):Calls prog 80 #[cD G.K.db,.slice a l.length c] w (PR G X w (r.push l)):=by
 have k:∀ g,dF a=some g->g≠G.K.db/\g≠G.K.bb:=fun g f=>by
  obtain⟨D,m,d,n⟩:=h;exact⟨fun e=>i g f (d g (.inr (.inl (.inr (.inr (.inr (.inl e))))))),fun e=>i g f (d g (.inr (.inl (.inr (.inr (.inl e))))))⟩
 exact(FD G.K w r.v h.fv a c l j (by omega) k).mono fun _ _ b=>⟨b.pv.1,X,h.vm b.pv.2.1 b.pv.2.2,h.uc b.pv.2.2⟩
theorem tx(s:List UInt8)(n:Int)(i:s.length<=1000000000)(h:ej w G X r) :
 Calls prog 33 #[cD G.ob,S_ s,.slice (some ⟨w.heap.size,0,none⟩) 1 1] (w.alloc (.cells #[I_ n] 2)) (PR G X w (r.di s [n])):=by
 have a:=dR w (.cells #[I_ n] 2);refine(qG G X _ r s _ 1 [n] i (vw w n _) (by simp) (fun g f=>?_) (h.cL a)).mono ?_
 . cases f
   exact⟨h.zw,by show w.heap.size<_;rw[World.size_alloc];omega⟩
 . rintro e w' ⟨rfl,b,c,d⟩
   exact⟨rfl,b,c,(ef.kt a).trans d⟩
theorem tA(s:List UInt8)(c:s.length<=1000000000)(h:ej w G X r) :
 Calls prog 33 #[cD G.ob,S_ s,.slice none 0 0] w (PR G X w (r.di s [])) :=
 qG G X w r s none 0 [] c (fun i b=>absurd b (by simp)) (by decide) (fun g a=>by cases a) h
theorem Ej(a:Option Addr)(c:Nat)(l:List Int)(s:iI w a l)(hl:l.length<=100000)(x:∀ g,dF a=some g->¬ X g)(h:ej w G X r) :
 Calls prog 28 #[cD G.ob,.slice a l.length c] w (PR G X w (r.gX l)):=by
 have d:r.gX l=if r.comp then Rd.eR (l.flatMap fun n=>[r.xt [108,105,116],n]) r else r.push l:=rfl;generalize r.gX l=Q at d |-;cases t:r.comp with
 | false =>
  rw[t,if_neg (by simp)]at d;have K:=h_ (P7 G X w r a c l s hl x h);rw[<- d]at K;have j:=h_ h;have y:=h_ (ef.refl w X);have H:=j.out.o0;have e:=j.out.o4;have J:=j.out.v1;rw[t]at e;clear h s x d;go_enter func28,ntmps28;go_wp2_with fail;refine ir (K.out) y ?_;intro w1 X1 R1 W;try clear H;try clear e;try clear J
  go_wp2_with fail;go_ret;exact⟨rfl,_,R1.out,W.out⟩
 | true =>
  rw[t,if_pos rfl]at d;have HQ:=h_ d;have Z:=h_ s;have aa:=h_ x;have j:=h_ h;have y:=h_ (ef.refl w X);have e:=j.out.o4;rw[t]at e;clear h s x d;go_enter func28,ntmps28;go_wp2_with fail
  go_loopw [24] (fun F wr=>∃ (i:Nat) (u:Rd) (Y:Nat->Prop),F=I_ i/\i<=l.length/\ej wr G Y u/\ef w X wr Y/\u.pf=r.pf/\Q=Rd.eR ((l.drop i).flatMap fun n=>[r.xt [108,105,116],n]) u) (fun F _=>l.length-(intOf F).toNat)
  case atStart=>exact⟨0,r,X,rfl,Nat.zero_le _,j.out,y.out,rfl,HQ.out⟩
  case round =>
   obtain⟨i,u,Y,rfl,hi,T,P,S,U⟩:=hrel;have M:=h_ T;have p:=h_ P;have f:=h_ U;have L:=h_ S;clear T P U S e;by_cases R:i<l.length
   . obtain⟨g,o,rfl,ac⟩:=Z.out.ct p.out.k (fun g hg=>aa.out g hg) i R
     have O:l.drop i=l[i] :: l.drop (i+1):=List.drop_eq_getElem_cons R;have b:=f.out;rw[O,List.flatMap_cons,Rd.Ei]at b;generalize l[i]=n at ac b;have V:r.xt [108,105,116]=u.xt [108,105,116]:=by unfold Rd.xt;rw[L.out]
     have D:Rd.eR [r.xt [108,105,116],n] u=u.di [108,105,116] [n]:=by rw[V];rfl
     rw[D]at b;have A:=h_ (tx G Y wr u [108,105,116] n (by decide) M.out);have E:(u.di [108,105,116] [n]).1.pf=r.pf:=by rw[<- D,Rd.IK,L.out]
     generalize u.di [108,105,116] [n]=q at b A E;obtain⟨I,C⟩:=q;have ae:(i:Int)<l.length:=by omega
     have ab:=h_ E;clear O V D E;by_cases v:C=0
     . subst v
       have m:Q=Rd.eR ((l.drop (i+1)).flatMap fun n=>[r.xt [108,105,116],n]) I:=by
        rw[b];unfold Rd.bind;rw[if_neg (by simp)]
       replace f:=h_ m;clear b m;go_wp2_with fail;refine ir (A.out) p ?_;intro w3 N B z;try clear H;try clear e;try clear J
       go_wp2_with fail;go_roundw;case rel=>exact⟨i+1,I,N,by go_num,by omega,B.out,z.out,ab.out,f.out⟩
       case measure=>simp[intOf];omega
     . have m:Q=(I,C):=by rw[b];unfold Rd.bind;rw[if_pos (by simpa using v)]
       replace f:=h_ m;have d1:(C == 0)=false:=by simp[v]
       clear b m v;go_wp2_with fail;refine ir (A.out) p ?_;intro w3 N B z;try clear H;try clear e;try clear J
       go_wp2_with fail;go_ret;rw[f.out];exact⟨rfl,_,B.out,z.out⟩
   . have ad:i=l.length:=by omega
     subst ad;have b:=f.out;rw[List.drop_length]at b;have HF:=h_ (show Q=(u,0) from b);have ae:¬ ((l.length:Int)<l.length):=by omega
     clear b;go_wp2_with fail;go_ret;rw[HF.out];exact⟨rfl,_,M.out,p.out⟩
theorem tB(n:Int)(h:ej w G X r):Calls prog 28 #[cD G.ob,.slice (some ⟨w.heap.size,0,none⟩) 1 1] (w.alloc (.cells #[I_ n] 2)) (PR G X w (r.gX [n])):=by
 have a:=dR w (.cells #[I_ n] 2);refine(Ej G X _ r _ 1 [n] (vw w n _) (by simp) (fun g f=>?_) (h.cL a)).mono ?_
 . cases f;exact h.zw
 . rintro e w' ⟨rfl,b,c,d⟩
   exact⟨rfl,b,c,(ef.kt a).trans d⟩
end
section
variable (G:Gk) (X:Nat->Prop) (w:World) (r:Rd)
theorem fU(w:World)(g i j k:Nat)(a b c:Value):cq (fun h=>h=g) w (((w.setCell ⟨g,i,none⟩ a).setCell ⟨g,j,none⟩ b).setCell ⟨g,k,none⟩ c) :=
 ((cq.setCell (S:=fun h=>h=g) w ⟨g,i,none⟩ a (fun _=>rfl)).trans (cq.setCell _ ⟨g,j,none⟩ b (fun _=>rfl))).trans (cq.setCell _ ⟨g,k,none⟩ c (fun _=>rfl))
theorem ue(h:ej w G X r):Calls prog 38 #[cD G.ob] w (Sr G X w r.oB):=by
 have b:=fU w G.ob 14 15 16 (I_ 0) (I_ 0) (.bool false);have d:=h_ (h.mE (r':=r.oB) b (fun D e=>cz (cz (cz e _) _) _) ⟨rfl,rfl,rfl,rfl,rfl,rfl⟩ { h.ok with });have c:=h_ (h.pe b);have a:=h_ h;have f:=h_ (ef.refl w X);have k:=a.out.MG;have l:=a.out.II;have m:=a.out.Ef;have g:=h.er 14;have i:=h.er 15;have j:=h.er 16;clear h b;go_enter func38,ntmps38;go_wp2_with fail;go_end0;exact⟨rfl,_,d.out,c.out⟩
theorem BN(m:Bool)(h:ej w G X r):Calls prog 32 #[cD G.ob,.bool m] w (Sr G X w (r.start m)):=by
 have a:=fU w G.ob 4 5 3 (.bool true) (.bool m) (.slice none 0 0);have d:=h_ (h.rN (r':=r.start m) a (fun D e=>cz (cz (cz e _) _) _) ⟨rfl,rfl,rfl,rfl,rfl,rfl⟩ { h.ok with dy:=Nat.zero_le _ });have c:=h_ (h.pe a);have b:=h_ h;have f:=h_ (ef.refl w X);have n:=b.out.o4;have o:=b.out.o5;obtain⟨a3,g,l⟩:=h.o3;have j:=h.er 4;have k:=h.er 5;have i:=h.er 3;clear h a;go_enter func32,ntmps32;go_wp2_with fail;go_end0;exact⟨rfl,_,d.out,c.out⟩
theorem FX(h:ej w G X r):Calls prog 36 #[cD G.ob] w (PR G X w r.stop):=by
 have a:r.stop=if r.comp=false\/r.dy≠[] then(r,-22)else({ r with comp:=false },0):=rfl;generalize r.stop=Q at a |-;cases b:r.comp with
 | false =>
  rw[if_pos (.inl b)]at a;have d:=h_ a;have f:=h_ h;have l:=h_ (ef.refl w X);have n:=f.out.o4;rw[b]at n;clear h a;go_enter func36,ntmps36;go_wp2_with fail;go_ret;rw[d.out];exact⟨rfl,_,f.out,l.out⟩
 | true =>
  obtain⟨q,s,m⟩:=h.XD;have j:=h_ (DX G.ob 3 q s r.dy w m (by have:=h.ok.dy;omega));have k:cq (fun g=>g=G.ob) w (w.setCell ⟨G.ob,4,none⟩ (.bool false)):=cq.setCell _ _ _ (fun _=>rfl);have p:=h_ (h.mE (r':={ r with comp:=false }) k (fun D b=>cz b _) ⟨rfl,rfl,rfl,rfl,rfl,rfl⟩ { h.ok with });have o:=h_ (h.pe k);have f:=h_ h;have l:=h_ (ef.refl w X);have n:=f.out.o4;have t:=h.er 4;rw[b]at n;cases c:r.dy == [] with
  | true =>
   have i:r.dy=[]:=by simpa using c
   rw[if_neg (by rw[b,i];simp)]at a;have d:=h_ a;rw[c]at j;clear h a m k c i b;go_enter func36,ntmps36
   go_wp2_with (first
    | (refine j.out.mono ?_;rintro e w' ⟨rfl,rfl⟩))
   go_ret;rw[d.out];exact⟨rfl,_,p.out,o.out⟩
  | false =>
   have i:¬ r.dy=[]:=by simpa using c
   rw[if_pos (.inr i)]at a;have d:=h_ a;rw[c]at j;clear h a m k c i b;go_enter func36,ntmps36
   go_wp2_with (first
    | (refine j.out.mono ?_;rintro e w' ⟨rfl,rfl⟩))
   go_ret;rw[d.out];exact⟨rfl,_,f.out,l.out⟩
theorem FY(h:ej w G X r):Calls prog 30 #[cD G.ob] w (Sr G X w r.cY):=by
 cases c:r.is with
 | true =>
  have g:r.cY=r:=by unfold Rd.cY;rw[c];rfl
  rw[g];have a:=h_ h;have d:=h_ (ef.refl w X);have f:=a.out.Ef;rw[c]at f;clear h g c;go_enter func30,ntmps30;go_wp2_with fail;go_end0;exact⟨rfl,_,a.out,d.out⟩
 | false =>
  have g:r.cY={ r with cu:=r.v.x.cu,cF:=(r.v.cell r.v.cF).1,is:=true }:=by unfold Rd.cY;rw[c];rfl
  rw[g];have i:=h_ fun V (j:dZ V G.K r.v)=>jv G.K V r.v r.v.cF j;have l:=h_ fun V (j:dZ V G.K r.v)=>zx G.K V r.v j;generalize r.v.cell r.v.cF=p at i |-;obtain⟨n,H⟩:=p;simp only at i |-;generalize r.v.x.cu=m at l |-;have a:=h_ h;have d:=h_ (ef.refl w X);have o:=a.out.o0;have u:=a.out.v0;have E:=a.out.v8;have y:=a.out.vs;have q:=a.out.MG;have t:=a.out.II;have f:=a.out.Ef;rw[c]at f;have A:=h_ c;clear h g c;go_enter func30,ntmps30;go_wp2_with fail
  go_region_held3 (fun w'=>C_ w' G.ob 0=some (cD G.K.mb)/\C_ w' G.K.mb 0=some (cD G.K.s)/\C_ w' G.K.mb 8=some (I_ r.v.cF)/\C_ w' G.K.s 0=some (cD G.K.b))
   (first | go_keep)
   (first | (go_at_call 81;refine(i.out w.drew (a.out.cL (cq.drew _ _)).fv).mono ?_;rintro e M ⟨rfl,rfl⟩;dsimp only))
  try change wpList _ _ _ _ _ w.drew
  replace a:=h_ (a.out.cL (fw w));replace d:=h_ (d.out.trans (ef.kt (fw w)));try clear o;try clear q;try clear t;try clear f;try clear u;try clear E;try clear y
  generalize w.drew=F at a d |-;have o:=a.out.o0;have u:=a.out.v0;have y:=a.out.vs;have q:=a.out.MG;have t:=a.out.II;have f:=a.out.Ef;rw[A.out]at f;have I:=a.out.er 14;have J:=a.out.er 15;have L:=a.out.er 16;go_wp2_with fail;refine eD (l.out _ a.out.fv) ?_;have k:=fU F G.ob 14 15 16 (I_ m) (I_ n) (.bool true);have B:=h_ (a.out.mE (r':={ r with cu:=m,cF:=n,is:=true }) k (fun D C=>cz (cz (cz C _) _) _) ⟨rfl,rfl,rfl,rfl,rfl,rfl⟩ { a.out.ok with });have z:=h_ (d.out.trans (a.out.pe k));clear k;go_wp2_with fail;go_end0;exact⟨rfl,_,B.out,z.out⟩
end
theorem ya(x:Sp)(h:x.Ok)(k:x.mem.size<=4194304)(a:Int)(s:List UInt8)(c b:Int):0<=(x.cO a s c b).2.1.cM/\(x.cO a s c b).2.1.cM<=4194304:=by
 have d:(x.wY a).1.Ok/\(x.wY a).1.mem.size=x.mem.size:=by
  unfold Sp.wY;split
  . exact⟨Sp.zR h,Sp.pI _ _⟩
  . exact⟨h,rfl⟩
 obtain⟨⟨e,f,g,i⟩,j⟩:=d;unfold Sp.cO;split
 . exact⟨Int.le_refl _,by show(0:Int)<=_;decide⟩
 . split
   . exact⟨Int.le_refl _,by show(0:Int)<=_;decide⟩
   . refine⟨?_,?_⟩ <;> simp only <;> omega
section
variable (G:Gk) (X:Nat->Prop) (w:World) (r:Rd)
theorem kQ(w:World)(g i j k l:Nat)(a b c d:Value):cq (fun h=>h=g) w ((((w.setCell ⟨g,i,none⟩ a).setCell ⟨g,j,none⟩ b).setCell ⟨g,k,none⟩ c).setCell ⟨g,l,none⟩ d) :=
 (fU w g i j k a b c).trans (cq.setCell _ ⟨g,l,none⟩ d (fun _=>rfl))
theorem P8(n:Int)(h:ej w G X r):Calls prog 84 #[cD G.K.s,I_ n] w (PR G X w (r.vm (r.v.fB (r.v.x.fN n)))) :=
 (P5 G.K w r.v n h.fv).mono fun _ _ ⟨a,b,k⟩=>⟨a,X,h.vm b k,h.uc k⟩
theorem vQ(a n:Int)(h:ej w G X r):Calls prog 85 #[cD G.K.b,I_ a,I_ n] w (PR G X w (r.setCell a n)) :=
 (DO G.K w r.v a n h.fv).mono fun _ _ ⟨c,d,k⟩=>⟨c,X,h.vm d k,h.uc k⟩
end
section
variable (G:Gk) (X:Nat->Prop) (w:World) (r:Rd)
theorem BO(d:Wd)(h:ej w G X r):Calls prog 249 #[cD G.ob,d.val] w fun e w'=>e=.returned (I_ (r.oY d))/\K_ w w':=by
 have c:r.oY d=Rd.iU (fc (r.v.cell d.xt).1):=rfl;have l:=h_ fun V (R:dZ V G.K r.v)=>jv G.K V r.v d.xt R;generalize r.oY d=Q at c |-;generalize r.v.cell d.xt=p at c l;obtain⟨n,S⟩:=p;simp only at c l;have y:=h_ fun V=>JP n V;generalize fc n=j at c y;have g:=h_ c;have J:=h_ fun V=>GJ j V;have L:=h_ fun V=>uJ j V;have t:=dR w (.cells #[I_ d.cM,I_ d.xt,I_ d.cP,S_ d.name] 53);have f:=h_ (h.cL t);have B:=h_ t;have E:=f.out.o0;have F:=f.out.v0;have H:=f.out.vs;have I:(w.alloc (.cells #[I_ d.cM,I_ d.xt,I_ d.cP,S_ d.name] 53)).cell? ⟨w.heap.size,1,none⟩=some (I_ d.xt):=cp (cx w _) rfl;obtain⟨W,o⟩:∃ W,W=w.alloc (.cells #[I_ d.cM,I_ d.xt,I_ d.cP,S_ d.name] 53):=⟨_,rfl⟩;rw[<- o]at f B E F H I;have A:=h_ o;unfold Wd.val;clear h c t o;go_enter func249,ntmps249;go_upto_region 1 with fail;rw[<- A.out];clear A
 go_region_held3 (fun w'=>C_ w' G.ob 0=some (cD G.K.mb)/\C_ w' G.K.mb 0=some (cD G.K.s)/\C_ w' w.heap.size 1=some (I_ d.xt)/\C_ w' G.K.s 0=some (cD G.K.b))
  (first | go_keep)
  (first | (go_at_call 81;refine(l.out W.drew (f.out.cL (cq.drew _ _)).fv).mono ?_;rintro e Z ⟨rfl,rfl⟩;dsimp only))
 have N:=h_ (B.out.trans (fw W));clear E F H I;go_wp2_with fail;refine(y.out _).mono ?_;rintro e T ⟨rfl,C⟩;unfold nm;have O:=h_ (N.out.trans C);clear C;go_wp2_with fail;refine(J.out _).mono ?_;rintro e U ⟨rfl,D⟩;have i:=h_ (O.out.trans D);clear D;cases a:Tf j with
 | false =>
  go_wp2_with fail;go_ret;exact⟨congrArg (fun z=>Ending.returned (Value.int .i64 z)) (show(0:Int)=Q by rw[g.out];unfold Rd.iU;rw[if_pos a]),i.out⟩
 | true =>
  have u:=h_ a;clear a;go_wp2_with fail;refine(L.out _).mono ?_;rintro e Y ⟨rfl,rfl⟩;generalize q:inl j=k;have x:=h_ q;clear q;by_cases m:0<k
  . have M:=h_ (show(2:Int)=Q by rw[g.out];unfold Rd.iU;rw[if_neg (by rw[u.out];simp),if_pos (.inl (by rw[x.out];exact m))])
    have P:decide (0<k)=true:=decide_eq_true m;go_wp2_with fail;all_goals
     go_ret;exact⟨congrArg (fun z=>Ending.returned (Value.int .i64 z)) M.out,i.out⟩
  . have P:decide (0<k)=false:=decide_eq_false m
    go_wp2_with fail;all_goals
     have a:=u.out;have q:=x.out;go_ret
     first
      | exact⟨congrArg (fun z=>Ending.returned (Value.int .i64 z)) (show(2:Int)=Q by rw[g.out];unfold Rd.iU;rw[if_neg (by rw[a];simp),if_pos (by simp_all)]),i.out⟩
      | exact⟨congrArg (fun z=>Ending.returned (Value.int .i64 z)) (show(1:Int)=Q by rw[g.out];unfold Rd.iU;rw[if_neg (by rw[a];simp),if_neg (by simp_all)]),i.out⟩
end
theorem Rd.IL(r:Rd)(b:Int)(s:List UInt8)(n a:Int)(l:List Int)(h:(r.make b s n a l).2.2=0):(r.make b s n a l).1.ea=(r.make b s n a l).2.1:=by
 unfold Rd.make at h |-;split at h
 . rename_i e;exact absurd h e
 . rename_i e;rw[if_neg e]
theorem Rd.BP(r:Rd)(n a:Int)(l:List Int)(h:(r.cO n a l).2.2=0):(r.cO n a l).1.ea=(r.cO n a l).2.1:=by
 unfold Rd.cO at h |-;split at h
 . rename_i e;exact absurd h e
 . rename_i e;rw[if_neg e];exact Rd.IL _ _ _ _ _ _ h
section
variable (G:Gk) (X:Nat->Prop) (w:World) (r:Rd)
theorem FZ(d:Wd)(a:Int)(c:0<=d.cM)(e:d.cM<=4194304)(f:0<=a)(g:a<=255)(h:ej w G X r):Calls prog 37 #[cD G.K.b,d.val,I_ a] w (PR G X w (r.mark d a)) :=
 (P6 G.K w r.v d a c e f g h.fv).mono fun _ _ ⟨i,j,k⟩=>⟨i,X,h.vm j k,h.uc k⟩
end
section
variable (G:Gk) (X:Nat->Prop) (w:World) (r:Rd)
theorem P9(h:ej w G X r):Calls prog 35 #[cD G.K.s] w fun e w'=>e=.returned (I_ r.v.x.cu)/\w=w':=zx G.K w r.v h.fv
end
def Gl(w:World)(X:Nat->Prop):Prop:=xM w/\∀ g,g<4->¬ X g
theorem Gl.uc{w w':World}{X a:Nat->Prop}(h:Gl w X)(E:ef w X w' a):Gl w' a :=
 ⟨h.1.ct E.k h.2,fun g b e=>(E.n g e).elim (h.2 g b) (fun e=>by have:=h.1.lt;omega)⟩
section
variable (G:Gk) (X:Nat->Prop) (w:World) (r:Rd)
theorem P'(h:ej w G X r):∃ q,w.cell? ⟨G.ob,1,none⟩=some (cD q)/\Calls prog 87 #[cD q] w (Sr G X w r.skip):=by
 obtain⟨q,c,e,f,d⟩:=h.cT;exact⟨q,c,(Mg w q r.src r.cM e).mono fun _ _ ⟨b,a,k⟩=>⟨b,X,d _ _ a k,ej.TX f k⟩⟩
theorem MP(h:ej w G X r):Calls prog 147 #[cD G.K.s] w (PR G X w (r.vm (r.v.fB r.v.x.align))) :=
 (MK G.K w r.v h.fv).mono fun _ _ ⟨a,b,k⟩=>⟨a,X,h.vm b k,h.uc k⟩
end
theorem Sv(G:Gk)(X:Nat->Prop)(w:World)(r:Rd)(t:List UInt8)(b:t.length<=4611686018427387904)(h:ej w G X r):Calls prog 86 #[cD G.K.mb,S_ t] w (Sr G X w (r.pR t)) :=
 (L3 G.K w r.v t h.fv b).mono fun _ _ ⟨a,c,k⟩=>⟨a,X,h.vm c k,h.uc k⟩
structure RJ{α:Type}(RE:World->(Nat->Prop)->α->Prop)(G:Gk)(w:World)(Z:Nat->Prop)(q:Rd × α):Prop where
 parts:∃ X Y,ej w G X q.1/\RE w Y q.2/\(∀ g,X g->¬ Y g)/\(∀ g,X g\/Y g->Z g)
 lt:∀ g,Z g->g<w.heap.size
 gl:Gl w Z
def PJ{α:Type}(RE:World->(Nat->Prop)->α->Prop)(G:Gk)(Z:Nat->Prop)(w:World)(q:(Rd × α) × Int)(e:Ending)(w':World):Prop:=e=.returned (I_ q.2)/\∃ Z',RJ RE G w' Z' q.1/\ef w Z w' Z'
def Qa{α:Type}(RE:World->(Nat->Prop)->α->Prop)(G:Gk)(Z:Nat->Prop)(w:World)(q:Rd × α)(e:Ending)(w':World):Prop:=e=.returned (.tuple #[])/\∃ Z',RJ RE G w' Z' q/\ef w Z w' Z'
structure tC{α:Type}(E:Mm α)(RE:World->(Nat->Prop)->α->Prop)(G:Gk):Prop where
 ct:∀ {w w':World} {S Y:Nat->Prop} {x:α},RE w Y x->cq S w w'->(∀ g,Y g->¬ S g)->RE w' Y x
 lt:∀ {w:World} {Y:Nat->Prop} {x:α},RE w Y x->∀ g,Y g->g<w.heap.size
 no:∀ low,E.has low=false->G.fm low=none
 yes:∀ low,E.has low=true->∃ k cap,G.fm low=some (.func (.func k) #[] cap)/\Enters k/\∀ w Z q,E.iE q.1->RJ RE G w Z q->Calls Tryz.prog k (#[cD G.ob]++cap) w (PJ RE G Z w (E.dA low q))
theorem RJ.of{i:Type}{E:Mm i}{f:World->(Nat->Prop)->i->Prop}{G:Gk}(r:tC E f G){w w':World}{Z X Y b:Nat->Prop}{q:Rd × i}{r':Rd}(p:RJ f G w Z q)(v:ej w G X q.1)(o:f w Y q.2)(d:∀ g,X g->¬ Y g)(s:∀ g,X g\/Y g->Z g)(m:ej w' G b r')(c:ef w X w' b) :
 ∃ j,RJ f G w' j (r',q.2)/\ef w Z w' j:=by
 have e:ef w Z w' (fun g=>Z g\/b g):=⟨c.k.mono (fun g _ h=>s g (.inl h)),fun g a=>a.elim .inl (fun h=>(c.n g h).imp (fun h=>s g (.inl h)) id)⟩;have u:=r.lt o;refine⟨fun g=>Z g\/b g,⟨⟨b,Y,m,r.ct o c.k (fun g a h=>d g h a),fun g t l=>(c.n g t).elim (fun h=>d g h l) (fun h=>by have:=u g l;omega),fun g a=>a.elim .inr (fun h=>.inl (s g (.inr h)))⟩,?_,p.gl.uc e⟩,e⟩;rintro g (a | a)
 . exact Nat.lt_of_lt_of_le (p.lt g a) c.k.size
 . exact m.elim fun _ h=>h.2.2 g a
theorem ej.Sw{G:Gk}{X:Nat->Prop}{w:World}{r:Rd}(h:ej w G X r):cX sk w G.mm G.nm G.fm:=h.elim fun _ h=>h.1.mm
theorem rO(w:World):(zeroValue 73).run prog w=.ok .nilFunc w:=by kernel_rfl
section
variable {α:Type} {E:Mm α} {RE:World->(Nat->Prop)->α->Prop} {G:Gk}
theorem RJ.cL{w w':World}{Z:Nat->Prop}{q:Rd × α}(l:tC E RE G)(h:RJ RE G w Z q)(k:K_ w w'):RJ RE G w' Z q:=by
 obtain⟨⟨X,Y,a,b,c,d⟩,f,i⟩:=h;exact⟨⟨X,Y,a.cL k,l.ct b k (fun _ _ e=>e),c,d⟩,fun g j=>Nat.lt_of_lt_of_le (f g j) k.size,i.uc (ef.kt k)⟩
theorem sL(s:List UInt8):(cG s).length=s.length:=by unfold cG;simp
end
end Go.Proofs.dS
