/- A part of EarlyG. No condition. -/
import Derived.Test.YthhfkhhhclmimaaGreatDoorM46
set_option linter.unusedVariables false
set_option linter.unusedSimpArgs false
open Go.Proofs.Tryz
set_option maxRecDepth 10000
set_option maxHeartbeats 4000000
namespace Go.Proofs.dS
open Class (dG)
open Go.RowKit Go.Proofs.tI
namespace Fo
variable {pf:List UInt8->Option Int} {dM:List Act} {TL:List dr} {D:eF} {S:List (List UInt8)} {τ:Nat->Int} {x1:Int} {q:Q} {f:Int} {w:Wd} {h0 a0:Int}
def jy:List UInt8:=[108,97,116,101]
def iA:List UInt8:=[101,97,114,108,121]
def rP(c s:Nat):List UInt8:=[58]++32 :: (jy++32 :: (gi c++32 :: ([45,62]++32 :: (dz s++32 :: [59]))))
def oe(c s:Nat):List UInt8:=[58]++32 :: (iA++32 :: (gi c++32 :: ([58,58]++32 :: (eS c++32 :: (dz s++32 :: [59])))))
theorem gv{s:List UInt8}{p:Q}(c:q.1.v.dL=false)(h:q.1.v.cI=f)(g:0<f)(a:q.1.dt=s)(d:s≠[])(e:ig s (Oo.cH q) (p,0))(i:p.1.v.cI=f-1):fj q p:=by
 intro l R b;exact fH.ok q p l R c (by rw[a];exact d) (by omega) (by rw[a];exact e) (by omega) b
theorem Sc.cI(h:Sc pf D S f w h0 a0 q):q.1.v.cI=f/\q.1.v.dL=false:=by
 obtain⟨⟨r,e,a⟩,_⟩:=h;rw[e];exact⟨a.cI,a.dL⟩
theorem Sc.ea(h:Sc pf D S f w h0 a0 q){s:List UInt8}(j:gY q s)(k:Src.d' s=true):q.1.dt=s/\Sc pf D S (f-1) w h0 a0 (Oo.cH q)/\gY (Oo.cH q) []:=by
 obtain⟨⟨r,e,a⟩,d⟩:=h;obtain⟨c,l⟩:=Src.xS q.1.src s q.1.cM k j;have g:q.1.v.cI=f:=by rw[e];exact a.cI
 have i:q.1.next={ q.1 with cM:=q.1.cM+s.length }:=by
  show({ q.1 with cM:=(Src.dA q.1.src q.1.cM).2 }:Rd)=_;rw[c]
 have b:(Oo.cH q).1={ q.1 with cM:=q.1.cM+s.length,v:={ q.1.v with cI:=f-1 } }:=by
  unfold Oo.cH;rw[i,g]
 refine⟨by show(Src.dA q.1.src q.1.cM).1=s;rw[c],⟨⟨{ r with cM:=q.1.cM+s.length,v:={ r.v with cI:=f-1 } },?_,{ a with cI:=rfl }⟩,d⟩,?_⟩
 . rw[b,e]
   rfl
 . show(Oo.cH q).1.src.drop (Oo.cH q).1.cM=[]
   rw[b];exact l
theorem vT{D:eF}(h:St pf D S 0 none f q)(b:gY q [])(l:Int):∃ p,fH (q,l) (p,l)/\St pf D S 0 none f p/\p.1.v.x.cu=q.1.v.x.cu:=by
 have a:=Src.xT q.1.src q.1.cM b;refine⟨(q.1.next,q.2),fH.done q l h.dL (by show(Src.dA q.1.src q.1.cM).1=[];rw[a]),?_,rfl⟩;have:q.1.next={ q.1 with cM:=q.1.cM }:=by
  show({ q.1 with cM:=(Src.dA q.1.src q.1.cM).2 }:Rd)=_;rw[a]
 rw[this];exact { h with }
theorem ph:Rd.iU (fc 1003)≠2:=by decide +kernel
theorem jT(c:Nat)(h:c<=65535):gr (cG (gi c))=none/\il (cG (gi c))=none:=by
 rw[(oZ c h).2.2];have b:∀ nm:List UInt8,(nm.take 2≠[111,107])->¬ gi c=nm:=fun nm a e=>by rw[<- e]at a;exact a rfl
 refine⟨?_,?_⟩
 . unfold gr mY
   repeat rw[if_neg (b _ (by decide))]
 . unfold il jj
   repeat rw[if_neg (b _ (by decide))]
theorem Sc.cZ(h:Sc pf D S f w h0 a0 q){nm t:List UInt8}{a:List (List UInt8)}{n:Int}(g:Src.d' nm=true)(k:nm.length<=31)(m:gY q (nm++32 :: t))(l:gu S nm=(a,n,0)) :
 Oo.cR q=((q.1.next,{ q.2 with eb:=a }),n,0)/\Sc pf D a f w h0 a0 (q.1.next,{ q.2 with eb:=a })/\gY (q.1.next,{ q.2 with eb:=a }) t:=by
 obtain⟨⟨r,e,b⟩,j⟩:=h;obtain⟨i,o⟩:=Src.mZ q.1.src nm t q.1.cM g m;have c:q.1.dt=nm:=by show(Src.dA q.1.src q.1.cM).1=nm;rw[i]
 have d:q.1.next={ q.1 with cM:=q.1.cM+nm.length+1 }:=by
  show({ q.1 with cM:=(Src.dA q.1.src q.1.cM).2 }:Rd)=_;rw[i]
 refine⟨?_,⟨⟨{ r with cM:=q.1.cM+nm.length+1 },?_,{ b with eb:=rfl }⟩,j⟩,?_⟩
 . unfold Oo.cR
   rw[jZ c g k,if_neg (by simp),c,show q.2.eb=S from b.eb,l]
 . show q.1.next=_
   rw[d,e];rfl
 . show q.1.next.src.drop q.1.next.cM=t
   rw[d];exact o
theorem Ga(z:ou pf dM TL D S τ x1)(h:St pf D S 0 none f q)(c s:Nat)(hc:c<TL.length)(am:c<=1000)(hs:s<5)(N:gY q (rP c s))(hf:100<f)(hr:q.1.v.x.cu+300<=60000) :
 ∃ (p:Q) (j:eF) (d:List (List UInt8)) (n m t K:Int) (g w:Wd),fH (q,0) (p,0)/\St pf j d 0 none K p/\f-20<=K/\p.1.v.x.cu<=q.1.v.x.cu+200/\gu S (dz s)=(d,n,0)/\j.A=D.A/\j.L=D.L/\(∀ aa ∈ D.fx,aa ∈ j.fx)/\j.ws={ w with cP:=0 } :: D.ws/\w.name=jy/\dB w.xt /\
  Mem.dv D.ws (gi c)=some g/\pf [40,115,101,110,100,41]=some m/\pf [101,120,105,116]=some t/\(w.xt,1001) ∈ j.fx/\(w.xt+8,g.xt) ∈ j.fx/\(w.xt+16,m) ∈ j.fx/\(w.xt+24,n) ∈ j.fx/\(w.xt+32,t) ∈ j.fx:=by
 obtain⟨J,ar,al⟩:=oZ c (by omega);obtain⟨aj,ak,ap,aq⟩:=hU s (by omega);obtain⟨m,R,ai,_⟩:=z.dD.tok [40,115,101,110,100,41] (by simp);obtain⟨t,P,ah,_⟩:=z.dD.tok [101,120,105,116] (by simp);obtain⟨g,oa,T,o2,o3,o4,o5,o6⟩:=z.ob c hc;obtain⟨d,n,U,s2,s3,s4,s5,s6,s7,s8⟩:=nX z.eb s hs;have H:=kP h;unfold rP at N;obtain⟨n1,g1,p1⟩:=h.go N (by decide);obtain⟨o,w,e1,w1,w2,w3,p2,W,y,_⟩:=vS g1 (nm:=jy) (by decide) (by decide) p1 (by show q.1.v.x.cu+80<=60000;omega);have W:o.v.x.cu<=q.1.v.x.cu+56:=W;have t1:fj q (o,(Oo.cH q).2):=gv h.dL h.cI (by omega) n1 (by decide) (by have:=ig.own (s:=[58]) (q:=Oo.cH q) 217 (by decide +kernel) (by decide +kernel) (by simp);rw[show Rd.Jj 217 (Oo.cH q).1=(o,0) from e1]at this;exact this) y.cI.1;have V:w.name=jy:=by rw[w1];decide
 obtain⟨b,k⟩:∃ b:eF,b={ D with ws:=w :: D.ws,fx:=(w.xt,1001) :: D.fx }:=⟨_,rfl⟩;rw[<- k]at y;have ab:Mem.dv b.ws (gi c)=some g:=by
  rw[k];show Mem.dv (w :: D.ws) _=_;rw[eZ _ _ _ (by rw[V];exact fun e=>by cases e),T]
 obtain⟨n3,g3,p3,v3,u3⟩:=y.go p2 J;obtain⟨a,e4,p4,X,F,_⟩:=g3.dA p3 (jT c (by omega)).1 (jT c (by omega)).2 (by rw[al];exact ab) o2 (c:=1003) (by rw[k];exact List.mem_cons_of_mem _ o4) ph o3 (by show o.v.x.cu+8<=60000;omega);have X:a.1.v.x.cu=o.v.x.cu+8:=X;have t2:fj (o,(Oo.cH q).2) a:=gv v3 u3 (by omega) n3 (fun e=>by rw[e]at J;cases J) e4 F.cI.1;have ac:(Oo.cH (o,(Oo.cH q).2)).1.v.x.cu=w.xt+8:=w3.symm;rw[ac]at F;obtain⟨n5,g5,p5,v5,u5⟩:=F.go p4 (by decide);obtain⟨E,M,p6⟩:=g5.cZ aj ak p5 U;obtain⟨i,e7,p7,Y,u⟩:=M.di p6 R ai (l:=[n]) (jR (by unfold dB;omega)) (by show a.1.v.x.cu+8*2<=60000;omega);have Y:i.v.x.cu=a.1.v.x.cu+8*2:=Y;have t3:fj a (i,({ (Oo.cH a).2 with eb:=d }:Oo)):=by
  refine gv v5 u5 (by omega) n5 (by decide) ?_ u.cI.1
  have O:=ig.send (s:=[45,62]) (q:=Oo.cH a) (i,0) (by decide +kernel) (by rw[E]) (by
   rw[E];refine .inl ⟨?_,e7⟩;obtain⟨⟨r,e,_⟩,_⟩:=M;have e:(Oo.cH a).1.next=cl r w _ _:=e;show(Oo.cH a).1.next.comp=true;rw[e]
   rfl)
  rw[E]at O;exact O
 have ae:(((Oo.cH a).1.next,({ (Oo.cH a).2 with eb:=d }:Oo)):Q).1.v.x.cu=w.xt+8+8*(([g.xt].length:Nat):Int):=by
  show a.1.v.x.cu=_;simp only[List.length_cons,List.length_nil];omega
 rw[ae,gS]at u;obtain⟨n8,g8,p8⟩:=u.ea p7 (by decide);obtain⟨B,ws,e9,p9,Z,I,G⟩:=g8.T7 p8 P ah (by show i.v.x.cu+8<=60000;omega);have Z:B.v.x.cu=i.v.x.cu+8:=Z;have t4:fj (i,({ (Oo.cH a).2 with eb:=d }:Oo)) (B,(Oo.cH (i,({ (Oo.cH a).2 with eb:=d }:Oo))).2):=gv u.cI.2 u.cI.1 (by omega) n8 (by decide) (by have:=ig.own (s:=[59]) (q:=Oo.cH (i,({ (Oo.cH a).2 with eb:=d }:Oo))) 218 (by decide +kernel) (by decide +kernel) (by simp);rw[show Rd.Jj 218 (Oo.cH (i,({ (Oo.cH a).2 with eb:=d }:Oo))).1=(B,0) from e9]at this;exact this) G.cI;have af:(Oo.cH (i,({ (Oo.cH a).2 with eb:=d }:Oo))).1.v.x.cu=w.xt+8+8*((([g.xt]++[m,n]).length:Nat):Int):=by
  show i.v.x.cu=_;simp only[List.length_append,List.length_cons,List.length_nil];omega
 rw[af,gS]at G;obtain⟨y1,y2,y3,y4⟩:=eF.dO ([g.xt]++[m,n]++[t]) b (w.xt+8);have yo:=eF.fI ([g.xt]++[m,n]++[t]) b (w.xt+8);have C:=eF.lQ ([g.xt]++[m,n]++[t]) b (w.xt+8);obtain⟨_,_,_,z4⟩:=eF.dO ([g.xt]++[m,n]) b (w.xt+8);have I:b.ws=w :: ws:=by rw[<- z4];exact I
 have ad:ws=D.ws:=by
  have e:b.ws=w :: D.ws:=by rw[k]
  exact(List.cons.inj (I.symm.trans e)).2
 obtain⟨qe,te,he,ag⟩:=vT G p9 0;have ao:32<=w.cM/\w.cM<w.xt:=y.eq.elim fun r H=>⟨(H.2.fQ.iQ w (by rw[k];simp)).1,(H.2.fQ.iQ w (by rw[k];simp)).2.1⟩;have an:o.v.x.cu<=60000:=by omega
 refine⟨qe,_,d,n,m,t,_,g,w,((t1.trans t2).trans (t3.trans t4)) 0 _ te,he,by omega,?_,U,by show(b.fJ _ _).A=_;rw[y1,k],by show(b.fJ _ _).L=_;rw[y3,k],fun aa hz=>yo _ (by rw[k];exact List.mem_cons_of_mem _ hz),by rw[ad],V,by unfold dB;omega,T,R,P,yo _ (by rw[k];simp),?_,?_,?_,?_⟩
 . rw[ag];show B.v.x.cu<=_;omega
 . have:=C 0 (by simp);simpa using this
 . have:=C 1 (by simp);rw[show w.xt+16=w.xt+8+8*((1:Nat):Int) by omega];simpa using this
 . have:=C 2 (by simp);rw[show w.xt+24=w.xt+8+8*((2:Nat):Int) by omega];simpa using this
 . have:=C 3 (by simp);rw[show w.xt+32=w.xt+8+8*((3:Nat):Int) by omega];simpa using this
end Fo
namespace Fo
variable {pf:List UInt8->Option Int} {dM:List Act} {TL:List dr} {D:eF} {S:List (List UInt8)} {τ:Nat->Int} {x1:Int} {q:Q} {f:Int} {w:Wd} {h0 a0:Int}
theorem Sc.skip(h:Sc pf D S f w h0 a0 q){nm t:List UInt8}(i:Src.d' nm=true)(g:gY q (nm++32 :: t)):q.1.dt=nm/\Sc pf D S f w h0 a0 (q.1.next,q.2)/\gY (q.1.next,q.2) t:=by
 obtain⟨⟨r,e,c⟩,d⟩:=h;obtain⟨b,j⟩:=Src.mZ q.1.src nm t q.1.cM i g;have a:q.1.next={ q.1 with cM:=q.1.cM+nm.length+1 }:=by
  show({ q.1 with cM:=(Src.dA q.1.src q.1.cM).2 }:Rd)=_;rw[b]
 refine⟨by show(Src.dA q.1.src q.1.cM).1=nm;rw[b],⟨⟨{ r with cM:=q.1.cM+nm.length+1 },?_,{ c with }⟩,d⟩,?_⟩
 . show q.1.next=_
   rw[a,e];rfl
 . show q.1.next.src.drop q.1.next.cM=t
   rw[a];exact j
theorem Sc.yd(h:Sc pf D S f w h0 a0 q):q.1.comp=true/\D.In q.1.v.x/\q.2.eb=S/\q.1.v.root=8/\∃ ls,q.1.eE=ls++[24]/\∀ a ∈ ls,(a,0) ∈ D.fx:=by
 obtain⟨⟨r,e,b⟩,i⟩:=h;obtain⟨ls,d,g,_⟩:=b.eE;have c:q.1.v=r.v/\q.1.eE=r.eE/\q.1.comp=true:=by rw[e];exact⟨rfl,rfl,rfl⟩
 exact⟨c.2.2,by rw[c.1];exact b.fQ,b.eb,by rw[c.1];exact b.root,ls,by rw[c.2.1];exact d,g⟩
theorem Sc.j7(h:Sc pf D S f w h0 a0 q){b t:List UInt8}{i:Nat}(a:pY D b i)(l:gY q (b++32 :: t)):Oo.cJ q.1=(q.1.next,dG D.A i,0)/\Sc pf D S f w h0 a0 (q.1.next,q.2)/\gY (q.1.next,q.2) t:=by
 obtain⟨e,g,j⟩:=h.skip a.d' l;obtain⟨_,d,_,c,ls,n,o⟩:=h.yd;obtain⟨u,p,r,s⟩:=a.dA;have k:q.1.find=(q.1.next,u,0):=by
  unfold Rd.find;rw[jZ e a.d' a.len];simp only[ne_eq,not_true_eq_false,if_false];rw[n,nW d b o,p]
 refine⟨?_,g,j⟩;unfold Oo.cJ;rw[k,if_neg (by simp)];simp only;have c:q.1.next.v.root=8:=c;have m:q.1.next.v.x=q.1.v.x:=rfl;rw[c,m,vI d a.lt r s]
theorem ou.look(a:ou pf dM TL D S τ x1){x:Sp}(e:D.In x)(b:Act)(c:Nat)(r:c<TL.length) :
 (Class.lookup x.mem (dG D.A c) (fi S (dz (b.cZ % 5)))).2.2=(Ref.dH TL c b.s1).isSome/\∀ p,Ref.dH TL c b.s1=some p->(Class.lookup x.mem (dG D.A c) (fi S (dz (b.cZ % 5)))).1.xt=τ p.1.toNat:=by
 have j:=a.FN e;obtain⟨i,k⟩:=lb e (c:Int) (by omega) (by rw[a.len];omega) (fi S (dz (b.cZ % 5)));rw[Class.Good.iw]at i k;by_cases g:dz (b.cZ % 5) ∈ S
 . have d:=a.dH e.iE.uD j b g (c:Int) (by omega) (by omega)
   rw[mq]at d;refine⟨?_,fun p h=>?_⟩
   . rw[i,d,Option.isSome_map]
   . rw[h]at d
     exact k _ d
 . have m:=a.IF j b g (c:Int) (by omega) (by omega)
   have h0:fi S (dz (b.cZ % 5))=0:=by
    unfold fi;rw[(hU _ (by omega)).2.2.1,if_neg g]
   rw[m];refine⟨?_,fun p h=>by cases h⟩;rw[i,h0];cases d:Ref.dH D.L (c:Int) 0 with
   | none=>rfl
   | some p =>
    obtain⟨n,o,l⟩:=pa D.L e.iE.uD 0 c (by omega) (by rw[a.len];omega) p d;have:=a.BC p.2.toNat (by rw[a.len];omega) (0,p.1) (by rw[show((p.2.toNat:Nat):Int)=p.2 by omega];exact l);simp only at this;omega
theorem Na(o:ou pf dM TL D S τ x1)(h:St pf D S 0 none f q)(b:Act)(c:Nat)(R:c<TL.length)(ay:c<=1000){I:Int × Int}(G:Ref.dH TL c b.s1=some I)(hp:gY q (oe c (b.cZ % 5)))(hf:100<f)(hr:q.1.v.x.cu+300<=60000) :
 ∃ (p:Q) (m:eF) (kc y f':Int) (j w:Wd),fH (q,0) (p,0)/\St pf m S 0 none f' p/\f-20<=f'/\p.1.v.x.cu<=q.1.v.x.cu+200/\m.A=D.A/\m.L=D.L/\(∀ z ∈ D.fx,z ∈ m.fx)/\m.ws={ w with cP:=0 } :: D.ws/\w.name=iA/\dB w.xt /\
  Mem.dv D.ws (gi c)=some j/\pf [40,99,97,108,108,41]=some kc/\pf [101,120,105,116]=some y/\(w.xt,1001) ∈ m.fx/\(w.xt+8,j.xt) ∈ m.fx/\(w.xt+16,kc) ∈ m.fx/\(w.xt+24,τ I.1.toNat) ∈ m.fx/\(w.xt+32,y) ∈ m.fx:=by
 obtain⟨aa,aD,ax⟩:=oZ c (by omega);obtain⟨ah,aw,aB,aC⟩:=hU (b.cZ % 5) (by omega);obtain⟨B,ag,av,_⟩:=o.dD.tok [40,99,97,108,108,41] (by simp);obtain⟨y,af,au,_⟩:=o.dD.tok [101,120,105,116] (by simp);obtain⟨j,oa,o1,o2,o3,o4,o5,o6⟩:=o.ob c R;have U:=kP h;have hT:=o.FN h.fQ;obtain⟨a,_,_,_,_,_,ab⟩:=o.MB hT b (c:Int) (by omega) (by omega) G;obtain⟨n,hn⟩:∃ n,n=τ I.1.toNat:=⟨_,rfl⟩;rw[<- hn]at ab |-;have al:dB n:=by
  obtain⟨_,b1,b2,_⟩:=h.fQ.fx _ ab.head;have b1:32<=n:=b1;have b2:n+8<=q.1.v.x.cu:=b2;unfold dB;omega
 unfold oe at hp;obtain⟨n1,g1,p1⟩:=h.go hp (by decide);obtain⟨t,w,e1,w1,w2,w3,p2,x2,E,_⟩:=vS g1 (nm:=iA) (by decide) (by decide) p1 (by show q.1.v.x.cu+80<=60000;omega);have x2:t.v.x.cu<=q.1.v.x.cu+56:=x2;have t1:fj q (t,(Oo.cH q).2):=gv h.dL h.cI (by omega) n1 (by decide) (by have:=ig.own (s:=[58]) (q:=Oo.cH q) 217 (by decide +kernel) (by decide +kernel) (by simp);rw[show Rd.Jj 217 (Oo.cH q).1=(t,0) from e1]at this;exact this) E.cI.1;have wn:w.name=iA:=by rw[w1];decide
 obtain⟨g,i⟩:∃ g:eF,g={ D with ws:=w :: D.ws,fx:=(w.xt,1001) :: D.fx }:=⟨_,rfl⟩;rw[<- i]at E;have ai:Mem.dv g.ws (gi c)=some j:=by
  rw[i];show Mem.dv (w :: D.ws) _=_;rw[eZ _ _ _ (by rw[wn];exact fun e=>by cases e),o1]
 obtain⟨n3,g3,p3,v3,u3⟩:=E.go p2 aa;obtain⟨d,e4,p4,x4,N,_⟩:=g3.dA p3 (jT c (by omega)).1 (jT c (by omega)).2 (by rw[ax];exact ai) o2 (c:=1003) (by rw[i];exact List.mem_cons_of_mem _ o4) ph o3 (by show t.v.x.cu+8<=60000;omega);have x4:d.1.v.x.cu=t.v.x.cu+8:=x4;have t2:fj (t,(Oo.cH q).2) d:=gv v3 u3 (by omega) n3 (fun e=>by rw[e]at aa;cases aa) e4 N.cI.1;have an:(Oo.cH (t,(Oo.cH q).2)).1.v.x.cu=w.xt+8:=w3.symm;rw[an]at N;have aj:pY (g.fJ (w.xt+8) [j.xt]) (eS c) c:=by
  have F:=o.kn c R;obtain⟨wi,i1,i2,i3⟩:=F.dA;have ak:=(nh c (by omega)).2.2;refine⟨F.d',F.len,?_,wi,?_,?_,?_⟩
  . rw[(eF.dO _ _ _).2.2.1,i];exact F.lt
  . rw[(eF.dO _ _ _).2.2.2,i,<- i1]
    show Mem.dv (w :: D.ws) _=_;rw[eZ _ _ _ (by rw[wn,ak];exact fun e=>by cases e)]
  . exact eF.fI _ _ _ _ (by rw[i];exact List.mem_cons_of_mem _ i2)
  . rw[(eF.dO _ _ _).1]
    exact eF.fI _ _ _ _ (by rw[i];exact List.mem_cons_of_mem _ i3)
 obtain⟨n5,g5,p5,v5,u5⟩:=N.go p4 (by decide);obtain⟨C,gc,pc⟩:=g5.j7 aj p5;obtain⟨Z,M,p6⟩:=gc.skip ah pc;have P:(g.fJ (w.xt+8) [j.xt]).A=D.A:=by rw[(eF.dO _ _ _).1,i]
 have ac:(g.fJ (w.xt+8) [j.xt]).L=D.L:=by rw[(eF.dO _ _ _).2.2.1,i]
 have ad:(Class.lookup (Oo.cH d).1.next.next.v.x.mem (dG D.A c) (fi S (dz (b.cZ % 5)))).2.2=true/\(Class.lookup (Oo.cH d).1.next.next.v.x.mem (dG D.A c) (fi S (dz (b.cZ % 5)))).1.xt=n:=by
  obtain⟨_,T,_⟩:=M.yd;have T:(g.fJ (w.xt+8) [j.xt]).In (Oo.cH d).1.next.next.v.x:=T;obtain⟨X,l2⟩:=lb T (c:Int) (by omega) (by rw[ac,o.len];omega) (fi S (dz (b.cZ % 5)));obtain⟨H,k2⟩:=lb h.fQ (c:Int) (by omega) (by rw[o.len];omega) (fi S (dz (b.cZ % 5)));obtain⟨Y,m2⟩:=o.look h.fQ b c R;rw[P,ac,Class.Good.iw]at X l2;rw[Class.Good.iw]at H k2;rw[<- H,Y,G]at X;refine⟨X,?_⟩;cases V:Ref.dH D.L (c:Int) (fi S (dz (b.cZ % 5)))with
  | none=>rw[V]at H;rw[H,G]at Y;cases Y
  | some z=>rw[l2 z V,<- k2 z V,m2 I G,hn]
 obtain⟨k,e7,p7,x7,u⟩:=M.di p6 ag av (l:=[n]) (jR al) (by show d.1.v.x.cu+8*2<=60000;omega);have x7:k.v.x.cu=d.1.v.x.cu+8*2:=x7;have t3:fj d (k,(Oo.cH d).2):=by
  refine gv v5 u5 (by omega) n5 (by decide) ?_ u.cI.1;have ae:(Oo.cH d).2.eb=S:=g5.yd.2.2.1;have am:(Oo.cH d).1.next.name=((Oo.cH d).1.next.next,dz (b.cZ % 5),0):=jZ Z ah aw
  have hw:=ig.early (s:=[58,58]) (q:=Oo.cH d) (k,0) (by decide +kernel) (by rw[C]) (by rw[C];show(Oo.cH d).1.next.name.2.2=0;rw[am]) (by
   rw[C,ae];show(Class.lookup (Oo.cH d).1.next.next.v.x.mem (dG _ c) (fi S (Oo.cH d).1.next.dt)).2.2=true;rw[Z,P];exact ad.1) (by
   rw[C,ae];show xV (Oo.cH d).1.next.next _ (Class.lookup (Oo.cH d).1.next.next.v.x.mem (dG _ c) (fi S (Oo.cH d).1.next.dt)).1.xt _;rw[Z,P,ad.2]
   exact .inl ⟨M.yd.1,e7⟩)
  exact hw
 have ap:(Oo.cH d).1.next.next.v.x.cu=w.xt+8+8*(([j.xt].length:Nat):Int):=by
  show d.1.v.x.cu=_;simp only[List.length_cons,List.length_nil];omega
 have u:Sc pf ((g.fJ (w.xt+8) [j.xt]).fJ (Oo.cH d).1.next.next.v.x.cu [B,n]) S _ w _ _ (k,(Oo.cH d).2):=u;rw[ap,gS]at u;obtain⟨n8,g8,p8⟩:=u.ea p7 (by decide);obtain⟨J,ws,e9,p9,x9,W,O⟩:=g8.T7 p8 af au (by show k.v.x.cu+8<=60000;omega);have x9:J.v.x.cu=k.v.x.cu+8:=x9;have t4:fj (k,(Oo.cH d).2) (J,(Oo.cH (k,(Oo.cH d).2)).2):=gv u.cI.2 u.cI.1 (by omega) n8 (by decide) (by have:=ig.own (s:=[59]) (q:=Oo.cH (k,(Oo.cH d).2)) 218 (by decide +kernel) (by decide +kernel) (by simp);rw[show Rd.Jj 218 (Oo.cH (k,(Oo.cH d).2)).1=(J,0) from e9]at this;exact this) O.cI;have aq:(Oo.cH (k,(Oo.cH d).2)).1.v.x.cu=w.xt+8+8*((([j.xt]++[B,n]).length:Nat):Int):=by
  show k.v.x.cu=_;simp only[List.length_append,List.length_cons,List.length_nil];omega
 rw[aq,gS]at O;obtain⟨y1,y2,y3,y4⟩:=eF.dO ([j.xt]++[B,n]++[y]) g (w.xt+8);have yo:=eF.fI ([j.xt]++[B,n]++[y]) g (w.xt+8);have K:=eF.lQ ([j.xt]++[B,n]++[y]) g (w.xt+8);obtain⟨_,_,_,z4⟩:=eF.dO ([j.xt]++[B,n]) g (w.xt+8);have W:g.ws=w :: ws:=by rw[<- z4];exact W
 have ao:ws=D.ws:=by
  have e:g.ws=w :: D.ws:=by rw[i]
  exact(List.cons.inj (W.symm.trans e)).2
 obtain⟨qe,te,he,ar⟩:=vT O p9 0;have aA:32<=w.cM/\w.cM<w.xt:=E.eq.elim fun r U=>⟨(U.2.fQ.iQ w (by rw[i];simp)).1,(U.2.fQ.iQ w (by rw[i];simp)).2.1⟩;have az:t.v.x.cu<=60000:=by omega
 refine⟨qe,_,B,y,_,j,w,((t1.trans t2).trans (t3.trans t4)) 0 _ te,he,by omega,?_,by show(g.fJ _ _).A=_;rw[y1,i],by show(g.fJ _ _).L=_;rw[y3,i],fun z hz=>yo _ (by rw[i];exact List.mem_cons_of_mem _ hz),by rw[ao],wn,by unfold dB;omega,o1,ag,af,yo _ (by rw[i];simp),?_,?_,?_,?_⟩
 . rw[ar];show J.v.x.cu<=_;omega
 . have:=K 0 (by simp);simpa using this
 . have:=K 1 (by simp);rw[show w.xt+16=w.xt+8+8*((1:Nat):Int) by omega];simpa using this
 . have:=K 2 (by simp);rw[show w.xt+24=w.xt+8+8*((2:Nat):Int) by omega];simpa using this
 . have:=K 3 (by simp);rw[show w.xt+32=w.xt+8+8*((3:Nat):Int) by omega];simpa using this
end Fo
namespace Fo
variable {pf:List UInt8->Option Int} {dM:List Act} {TL:List dr} {D:eF} {S:List (List UInt8)} {τ:Nat->Int} {x1:Int} {q:Q} {f:Int} {w:Wd} {h0 a0:Int}
theorem Vr{x:Sp}(h:D.In x){m':Mem}(c:m'.size=x.mem.size)(a:∀ b,b<x.cu->m'.cell b=x.mem.cell b):D.In { x with mem:=m' }:=by
 have o:=h.al.ok;have g:=h.cu;unfold Sp.Ok at o;exact h.move (x':={ x with mem:=m' }) ⟨⟨o.1,o.2.1,o.2.2.1,by show x.to<=(m'.size:Int);rw[c];exact o.2.2.2⟩,h.al.al⟩ (h.iE.frame c a (Int.le_refl _) (by show x.cu<=_;omega)) rfl rfl c (Int.le_refl _) (a 0 (by omega)) (fun b _ e _=>a b (by omega)) (fun _ _ _ d=>d) h.sl h.tl
theorem Nb(s:List UInt8)(n:Nat)(h:s.drop n=[59]):s.drop (Src.lL s n)=[]:=by
 unfold Src.lL;rw[h,if_pos (by decide)];exact List.drop_length
theorem IX(r:Rd)(e:Int)(a:r.is=true):r.lM e={ ({ ({ r with v:=Rd.eK r.v e }:Rd).nU r.cu r.v.cF r.cF with ea:=Wd.none }:Rd).oB with comp:=false,eM:=false,dy:=[] }:=by
 unfold Rd.lM;simp only;rw[if_pos a];rfl
theorem Qi(h:St pf D S 0 none f q){p:Q}{L:eF}{o:Int}{w:Wd}(Z:Sc pf L S o w q.1.v.x.cu (q.1.v.x.mem.cell 24).1 p)(ad:p.2.dq=q.2.dq)(e:Int)(af:q.1.v.x.cu<=p.1.v.x.cu)(K:p.1.v.x.mem.size=q.1.v.x.mem.size)(E:∀ b,b≠24->b<q.1.v.x.cu->p.1.v.x.mem.cell b=q.1.v.x.mem.cell b)(hp:gY p [59]) :
 St pf D S 0 none o (Oo.fail p e)/\gY (Oo.fail p e) []/\(Oo.fail p e).1.v.x.cu=q.1.v.x.cu:=by
 obtain⟨⟨r,n,g⟩,ws,al⟩:=Z;have hh:=kP h;have Y:r.v.cF=24:=g.cF;have A:r.v.d=⟨60000,60,0,-3,-4⟩:=g.dd;have B:r.v.r=⟨60480,200,0,-5,-6⟩:=g.rr;have ai:p.1.v.x=r.v.x:=by rw[n];rfl
 have H:p.1.src=r.src/\p.1.cM=r.cM:=by rw[n];exact⟨rfl,rfl⟩
 rw[ai]at K E af;obtain⟨i,z⟩:∃ i,i=q.1.v.x.cu:=⟨_,rfl⟩;obtain⟨m,F⟩:∃ m,m=(q.1.v.x.mem.cell 24).1:=⟨_,rfl⟩;rw[<- z,<- F]at n;have ag:r.v.x.lo=8:=g.fQ.lo;have G:Rd.eK r.v e={ r.v.put (Rd.eW e)with d:=⟨60000,60,0,-3,-4⟩,r:=⟨60480,200,0,-5,-6⟩ }:=by
  rw[El _ _ (by rw[A];decide) (by rw[B];decide),A,B]
 obtain⟨m',s⟩:∃ m',m'=(r.v.x.mem.setCell 24 m).1:=⟨_,rfl⟩;obtain⟨V,y⟩:∃ V:VM,V={ r.v.put (Rd.eW e)with d:=⟨60000,60,0,-3,-4⟩,r:=⟨60480,200,0,-5,-6⟩,x:=⟨m',r.v.x.lo,r.v.x.to,i⟩ }:=⟨_,rfl⟩;have aa:(({ cl r w i m with v:=Rd.eK r.v e }:Rd).nU i r.v.cF m).v=V:=by
  unfold Rd.nU;have u:({ cl r w i m with v:=Rd.eK r.v e }:Rd).v.x.fN i=(⟨r.v.x.mem,r.v.x.lo,r.v.x.to,i⟩,0):=by
   show(Rd.eK r.v e).x.fN i=_;rw[G];show r.v.x.fN i=_;unfold Sp.fN;rw[if_neg (by omega)]
  rw[u];show(((Rd.eK r.v e).fB (⟨r.v.x.mem,r.v.x.lo,r.v.x.to,i⟩,0)).1.setCell r.v.cF m).1=V;rw[G,y,Y,s];rfl
 obtain⟨c,I⟩:∃ c,c=p.1.lM e:=⟨_,rfl⟩;have ac:c.v=V/\c.pf=r.pf/\c.src=r.src/\c.cM=r.cM/\c.dy=[]/\c.comp=false/\c.eM=false/\c.is=false:=by
  rw[I,n,IX (cl r w i m) e rfl];exact⟨aa,rfl,rfl,rfl,rfl,rfl,rfl,rfl⟩
 obtain⟨j,M,N,O,P,R,T,U⟩:=ac;have ah:p.2.eN=0:=g.eN;have ab:Oo.fail p e=(({ c with eE:=[c.v.cF] }:Rd).skip,{ p.2 with eN:=0,eH:=[],target:=0 }):=by
  unfold Oo.fail;rw[<- I];have:Oo.reset (c,p.2)=({ c with eE:=[c.v.cF] },{ p.2 with eN:=0,eH:=[],target:=0 }):=by
   unfold Oo.reset;rw[if_neg (by show ¬ p.2.eN≠0;rw[ah];simp)]
  rw[this]
 have ae:D.In ⟨m',r.v.x.lo,r.v.x.to,i⟩:=by
  have u:=Vr h.fQ (m':=m') (by rw[s,Mem.cQ,K]) (fun b hb=>by
   by_cases t:b=24
   . rw[t,s,Mem.fe _ _ _ (by rw[<- Mem.jo];exact g.fQ.cF) (by have:=Mem.fh q.1.v.x.mem 24;omega) (by have:=Mem.fh q.1.v.x.mem 24;omega),F]
     exact Prod.ext rfl h.fQ.cF.symm
   . rw[s,Mem.dQ _ _ _ _ t]
     exact E b t hb)
  have W:r.v.x.lo=q.1.v.x.lo:=by rw[ag,h.fQ.lo]
  have X:r.v.x.to=q.1.v.x.to:=by rw[show r.v.x.to=60000 from g.fQ.xQ,h.fQ.xQ]
  rw[z,W,X];exact u
 have C:V.x=⟨m',r.v.x.lo,r.v.x.to,i⟩:=by rw[y]
 have k:V.dD=16/\V.cF=24/\V.root=8/\V.cy=9/\V.dL=false/\V.cV=2824/\V.cI=o/\V.d=⟨60000,60,0,-3,-4⟩/\V.r=⟨60480,200,0,-5,-6⟩:=by
  rw[y];exact⟨g.dD,g.cF,g.root,g.cy,g.dL,g.cV,g.cI,rfl,rfl⟩
 have J:=Nb p.1.src p.1.cM hp;rw[H.1,H.2]at J;rw[ab];refine⟨⟨?_,?_,?_,?_,?_,?_,?_,?_,?_,?_,M.trans g.Iu,R,T,P,⟨[],by show [c.v.cF]=[]++[24];rw[j,k.2.1];rfl,(fun a ha=>by cases ha),fun _ _=>rfl⟩,rfl,fun e=>absurd rfl e,(fun _ _ _ e=>by cases e),rfl,fun ak l aj=>h.tO ak l (by rw[<- ad];exact aj),fun _ _=>U,g.eb⟩,?_,?_⟩
 . show D.In c.v.x;rw[j,C];exact ae
 . show c.v.dD=16;rw[j];exact k.1
 . show c.v.cF=24;rw[j];exact k.2.1
 . show c.v.root=8;rw[j];exact k.2.2.1
 . show c.v.cy=9;rw[j];exact k.2.2.2.1
 . show c.v.dL=false;rw[j];exact k.2.2.2.2.1
 . show c.v.cV=2824;rw[j];exact k.2.2.2.2.2.1
 . show c.v.d=_;rw[j];exact k.2.2.2.2.2.2.2.1
 . show c.v.r=_;rw[j];exact k.2.2.2.2.2.2.2.2
 . show c.v.cI=o;rw[j];exact k.2.2.2.2.2.2.1
 . show c.src.drop (Src.lL c.src c.cM)=[]
   rw[N,O];exact J
 . show c.v.x.cu=_;rw[j,C];exact z
theorem En(j:ou pf dM TL D S τ x1)(h:St pf D S 0 none f q)(b:Act)(c:Nat)(r:c<TL.length)(ap:c<=1000)(ai:Ref.dH TL c b.s1=none)(H:gY q (oe c (b.cZ % 5)))(hf:100<f)(hr:q.1.v.x.cu+300<=60000) :
 ∃ (p:Q) (z:Int),fH (q,0) (p,-2049)/\St pf D S 0 none z p/\f-20<=z/\p.1.v.x.cu<=q.1.v.x.cu+200:=by
 obtain⟨y,av,ao⟩:=oZ c (by omega);obtain⟨K,an,ar,au⟩:=hU (b.cZ % 5) (by omega);obtain⟨k,oa,o1,o2,o3,o4,o5,o6⟩:=j.ob c r;have hh:=kP h;unfold oe at H;obtain⟨n1,Z,p1⟩:=h.go H (by decide);obtain⟨g,w,X,w1,w2,w3,p2,P,n,z2,V,am⟩:=vS Z (nm:=iA) (by decide) (by decide) p1 (by show q.1.v.x.cu+80<=60000;omega);have P:g.v.x.cu<=q.1.v.x.cu+56:=P;have t1:fj q (g,(Oo.cH q).2):=gv h.dL h.cI (by omega) n1 (by decide) (by have:=ig.own (s:=[58]) (q:=Oo.cH q) 217 (by decide +kernel) (by decide +kernel) (by simp);rw[show Rd.Jj 217 (Oo.cH q).1=(g,0) from X]at this;exact this) n.cI.1;have O:w.name=iA:=by rw[w1];decide
 obtain⟨i,d⟩:∃ i:eF,i={ D with ws:=w :: D.ws,fx:=(w.xt,1001) :: D.fx }:=⟨_,rfl⟩;rw[<- d]at n;have aq:q.1.v.x.cu<=g.v.x.cu:=am;have ac:Mem.dv i.ws (gi c)=some k:=by
  rw[d];show Mem.dv (w :: D.ws) _=_;rw[eZ _ _ _ (by rw[O];exact fun e=>by cases e),o1]
 obtain⟨n3,g3,p3,v3,u3⟩:=n.go p2 y;obtain⟨a,Y,p4,R,o,z4,W,y4⟩:=g3.dA p3 (jT c (by omega)).1 (jT c (by omega)).2 (by rw[ao];exact ac) o2 (c:=1003) (by rw[d];exact List.mem_cons_of_mem _ o4) ph o3 (by show g.v.x.cu+8<=60000;omega);have R:a.1.v.x.cu=g.v.x.cu+8:=R;have t2:fj (g,(Oo.cH q).2) a:=gv v3 u3 (by omega) n3 (fun e=>by rw[e]at y;cases y) Y o.cI.1;have aj:(Oo.cH (g,(Oo.cH q).2)).1.v.x.cu=w.xt+8:=w3.symm;rw[aj]at o;have ad:pY (i.fJ (w.xt+8) [k.xt]) (eS c) c:=by
  have m:=j.kn c r;obtain⟨wi,i1,i2,i3⟩:=m.dA;have af:=(nh c (by omega)).2.2;refine⟨m.d',m.len,?_,wi,?_,?_,?_⟩
  . rw[(eF.dO _ _ _).2.2.1,d];exact m.lt
  . rw[(eF.dO _ _ _).2.2.2,d,<- i1]
    show Mem.dv (w :: D.ws) _=_;rw[eZ _ _ _ (by rw[O,af];exact fun e=>by cases e)]
  . exact eF.fI _ _ _ _ (by rw[d];exact List.mem_cons_of_mem _ i2)
  . rw[(eF.dO _ _ _).1]
    exact eF.fI _ _ _ _ (by rw[d];exact List.mem_cons_of_mem _ i3)
 obtain⟨M,B,p5,v5,u5⟩:=o.go p4 (by decide);obtain⟨l,gc,pc⟩:=B.j7 ad p5;obtain⟨N,C,p6⟩:=gc.skip K pc;have E:(i.fJ (w.xt+8) [k.xt]).A=D.A:=by rw[(eF.dO _ _ _).1,d]
 have F:(i.fJ (w.xt+8) [k.xt]).L=D.L:=by rw[(eF.dO _ _ _).2.2.1,d]
 have ae:(Class.lookup (Oo.cH a).1.next.next.v.x.mem (dG D.A c) (fi S (dz (b.cZ % 5)))).2.2=false:=by
  obtain⟨_,t,_⟩:=C.yd;have t:(i.fJ (w.xt+8) [k.xt]).In (Oo.cH a).1.next.next.v.x:=t;obtain⟨u,_⟩:=lb t (c:Int) (by omega) (by rw[F,j.len];omega) (fi S (dz (b.cZ % 5)));obtain⟨J,_⟩:=lb h.fQ (c:Int) (by omega) (by rw[j.len];omega) (fi S (dz (b.cZ % 5)));obtain⟨m1,_⟩:=j.look h.fQ b c r;rw[E,F,Class.Good.iw]at u;rw[Class.Good.iw]at J;rw[<- J,m1,ai]at u;exact u
 have ah:(Oo.cH a).2.eb=S:=B.yd.2.2.1;have ag:(Oo.cH a).1.next.name=((Oo.cH a).1.next.next,dz (b.cZ % 5),0):=jZ N K an;have ak:TS [58,58] (Oo.cH a) (((Oo.cH a).1.next.next,(Oo.cH a).2),-2049):=by
  have I:=TS.Bu (s:=[58,58]) (q:=Oo.cH a) (by decide +kernel) (by rw[l]) (by rw[l];show(Oo.cH a).1.next.name.2.2=0;rw[ag]) (by
   rw[l,ah];show(Class.lookup (Oo.cH a).1.next.next.v.x.mem (dG _ c) (fi S (Oo.cH a).1.next.dt)).2.2=false;rw[N,E]
   exact ae)
  rw[l]at I;exact I
 have ab:a.2.dq=q.2.dq:=by rw[y4];rfl
 obtain⟨G,hP,hX⟩:=Qi (p:=((Oo.cH a).1.next.next,(Oo.cH a).2)) h C ab (-2049) (by show q.1.v.x.cu<=a.1.v.x.cu;omega) (z4.trans z2) (fun b hb aa=>by
  have T:=W b (by show b<g.v.x.cu;omega);have U:=V b hb aa
  exact T.trans U) p6
 obtain⟨qe,te,he,al⟩:=vT G hP (-2049);refine⟨qe,_,(t1.trans t2) 0 _ (fH.TT a _ 0 (-2049) _ v5 (by rw[M];decide) (by omega) (by rw[M];exact ak) (by decide) (by decide) (by decide) ?_ te),he,by omega,by rw[al,hX];omega⟩;rw[G.cI,u5];omega
end Fo
namespace Fo
variable {pf:List UInt8->Option Int} {dM:List Act} {TL:List dr} {D:eF} {S:List (List UInt8)} {τ:Nat->Int} {x1:Int} {L R:List Int} {v:VM} {i s h_ f:Int}
theorem Rs.dw{b:List Int}(h:Rs D L (R++b) v):∃ a,v.dw R.length=(a,0)/\Rs D L R a/\BH v a:=by
 have c:=h.rl.1;rw[List.length_append]at c;refine⟨{ v with r:=⟨60480,200,R.length,-5,-6⟩ },?_,⟨h.fQ,h.dD,h.cF,h.root,h.cy,h.dL,h.cV,h.d,rfl,h.dl,by omega,jS h.rl.2⟩,⟨rfl,rfl,rfl,rfl⟩⟩;show(({ v with r:=(dK.drop v.r R.length).1 }:VM),(dK.drop v.r R.length).2)=_;rw[h.r];unfold dK.drop;rw[if_neg (by omega),if_neg (by show ¬ (200:Int)<_;omega)]
theorem Rs.fE{b:List Int}(h:Rs D (L++b) R v):∃ a,v.fE L.length=(a,0)/\Rs D L R a/\BH v a:=by
 have c:=h.dl.1;rw[List.length_append]at c;refine⟨{ v with d:=⟨60000,60,L.length,-3,-4⟩ },?_,⟨h.fQ,h.dD,h.cF,h.root,h.cy,h.dL,h.cV,rfl,h.r,⟨by omega,jS h.dl.2⟩,h.rl⟩,⟨rfl,rfl,rfl,rfl⟩⟩;show(({ v with d:=(dK.drop v.d L.length).1 }:VM),(dK.drop v.d L.length).2)=_;rw[h.d];unfold dK.drop;rw[if_neg (by omega),if_neg (by show ¬ (60:Int)<_;omega)]
theorem Rs.frame(h:Rs D L [0,0,1,0] v):VM.fo v.x.mem v.r 4=[0,0,1,0]:=by
 have b:=h.rl.2 0 (by decide);have c:=h.rl.2 1 (by decide);have d:=h.rl.2 2 (by decide);have e:=h.rl.2 3 (by decide);have g:=h.r;have a:∀ (k:Nat),k<4->dK.cM v.x.mem v.r ((4:Nat)-1-(k:Int))=v.x.mem.cell (60480+8*(k:Int)):=by
  intro k j;rw[g];unfold dK.cM dK.ft;rw[if_neg (by omega),if_neg (by show ¬ ((([0,0,1,0]:List Int).length:Nat):Int)<=_;simp only[List.length_cons,List.length_nil];omega)];congr 1;simp only[List.length_cons,List.length_nil];omega
 show [(dK.cM v.x.mem v.r _).1,(dK.cM v.x.mem v.r _).1,(dK.cM v.x.mem v.r _).1,(dK.cM v.x.mem v.r _).1]=_;rw[a 0 (by decide),a 1 (by decide),a 2 (by decide),a 3 (by decide),b,c,d,e];rfl
theorem vU{n:List Int}{A B:Int}(h:Rs D [3] ([0,0,1,0]++n) v)(l:At v A B 4 f):∃ j,VM.ez (v,-2049)=(j,0)/\Rs D [3,-2049] [] j/\At j 0 0 0 f:=by
 obtain⟨u,d,k,C⟩:=h.dw;have d:v.dw 4=(u,0):=d;have y:=k.frame;have p:Rs D [3] ([]++[0,0,1,0]) u:=k;obtain⟨a,e,q,E⟩:=p.dw;have e:u.dw 0=(a,0):=e;have r:Rs D ([3]++[]) [] { a with ip:=0,dU:=0,cC:=0 }:={ q with };obtain⟨F,g,t,b⟩:=r.fE;have g:VM.fE { a with ip:=0,dU:=0,cC:=0 } 1=(F,0):=g;obtain⟨m,o,w,c⟩:=t.push [-2049] (by decide) (jR (by unfold dB;omega));refine⟨m,?_,w,⟨c.ip.trans b.ip,c.dU.trans b.dU,c.cC.trans b.cC,by rw[c.cI,b.cI];show a.cI=f;rw[E.cI,C.cI,l.cI]⟩⟩;have z:v.throw (-2049)=(m,true):=by
  unfold VM.throw;rw[l.cC,if_neg (by decide),d,if_neg (by simp)];simp only;rw[y,show(4:Int)-4=0 by decide,e];show(if((1:Int)<0\/1048576<(1:Int))then _ else _)=_;rw[if_neg (by decide)];have x:VM.eX (([0,0,1,0]:List Int).getD 3 0)=0:=by decide
  rw[x];show(if(VM.fE { a with ip:=0,dU:=0,cC:=0 } 1).2≠0 then _ else(((VM.fE { a with ip:=0,dU:=0,cC:=0 } 1).1.push [-2049]).1,decide (((VM.fE { a with ip:=0,dU:=0,cC:=0 } 1).1.push [-2049]).2=0)))=_;rw[g,if_neg (by simp),o];rfl
 unfold VM.ez;rw[if_neg (show ¬ (-2049:Int)=0 by decide),z];rfl
theorem Eo{n:Int}(h:Rs D [3,n] [0,0,1,0] v)(u:At v 2824 s h_ f){k:Int}(B:(2824,k) ∈ D.fx)(C:(k,num [40,99,97,117,103,104,116,41]) ∈ D.fx)(z:0<f):∃ b,To (v,0) (b,0)/\Rs D [3,n,0] [] b/\b.ip=0/\b.cI=f-1:=by
 obtain⟨w,a,l,G⟩:=h.step u (by decide) B z;have e:=ki a C (by decide +kernel) (pk:=.plain 351) (by rfl) (by decide);have E:=a.frame;have o:Rs D [3,n] ([]++[0,0,1,0]) w:=a;obtain⟨d,c,p,F⟩:=o.dw;have c:w.dw 0=(d,0):=c;have q:Rs D [3,n] [] { d with ip:=0,dU:=0,cC:=0 }:={ p with };obtain⟨j,m,t,g⟩:=q.push [0] (by simp) (jR (by unfold dB;omega));have x:VM.Fb VM.zL (.plain 351) w=(j,0):=by
  show VM.me w=_;unfold VM.me;have y:w.r.depth=4:=by rw[a.r];rfl
  rw[y,if_neg (by decide)];simp only;rw[E,show(4:Int)-4=0 by decide,c];have A:VM.eX (([0,0,1,0]:List Int).getD 3 0)=0:=by decide
  rw[A];exact m
 rw[x]at e;exact⟨j,G _ e,t,g.ip,by rw[g.cI];show d.cI=_;rw[F.cI,l.cI]⟩
theorem Nc{o xw:Int}(h:Rs D [3,xw] [] v)(I:0<v.cI)(K:(o,num [99,97,116,99,104]) ∈ D.fx)(O:(xw,1001) ∈ D.fx)(P:dB xw):∃ m,Rs D [3] [0,0,1,0,2824] m/\At m (xw+8) 0 4 (v.cI-1)/\∀ Q,VM.sJ (m,0) Q->VM.Bt v o Q:=by
 obtain⟨a,c⟩:∃ a:VM,a={ v with ip:=0,dU:=0,cC:=0,cI:=v.cI-1 }:=⟨_,rfl⟩;have b:Rs D ([3]++[xw]) [] a:=by rw[c];exact { h with }
 have G:a.d.depth=2:=by rw[b.d];rfl
 have E:=Ed a.x.mem 60000 60 (-3) (-4) [3] xw b.dl.2;have A:Rs D [3] [] { a with d:={ a.d with depth:=a.d.depth-1 } }:=by
  have:({ a.d with depth:=a.d.depth-1 }:dK)=⟨60000,60,(([3]:List Int).length:Nat),-3,-4⟩:=by rw[b.d];rfl
  rw[this];exact⟨b.fQ,b.dD,b.cF,b.root,b.cy,b.dL,b.cV,rfl,b.r,⟨by decide,jS (L:=[3]) (l:=[xw]) b.dl.2⟩,b.rl⟩
 obtain⟨u,y,g,q⟩:=A.fX [0,0,1,0] (by decide) (fun n M=>by simp only[List.mem_cons,List.not_mem_nil,or_false]at M;unfold dB;omega);have B:Rs D [3] [0,0,1,0] { u with cC:=u.r.depth,ip:=u.cV }:={ g with };obtain⟨e,z,j,k⟩:=B.fX [2824] (by decide) (jR (by unfold dB;omega));have j:Rs D [3] [0,0,1,0,2824] e:=j;have N:u.r.depth=4:=by rw[g.r];rfl
 refine⟨{ e with ip:=xw+8 },{ j with },⟨rfl,?_,?_,?_⟩,fun Q C=>⟨I,({ e with ip:=xw+8 },0),?_,rfl,C⟩⟩
 . show e.dU=0;rw[k.dU];show u.dU=0;rw[q.dU,c]
 . show e.cC=4;rw[k.cC];exact N
 . show e.cI=_;rw[k.cI];show u.cI=_;rw[q.cI,c]
 . rw[<- c]
   have p:=VM.jz.cV (v:=a) (xt:=o) (num [99,97,116,99,104]) xw u (b.cell K) (by rw[qx _ (by decide +kernel)];rfl) (by omega) (by rw[b.d];exact congrArg Prod.fst E) (by
    have t:a.ip=0:=by rw[c]
    have w:a.dU=0:=by rw[c]
    have a3:a.cC=0:=by rw[c]
    have J:[a.ip,a.dU,a.d.depth-1,a.cC]=[0,0,1,0]:=by rw[t,w,a3,G];rfl
    rw[J]
    exact y) (g.cell O)
   have H:VM.fA { u with cC:=u.r.depth,ip:=u.cV } xw=({ e with ip:=xw+8 },0):=by
    unfold VM.fA;have F:({ u with cC:=u.r.depth,ip:=u.cV }:VM).ip=2824:=g.cV;rw[F,z,if_neg (by simp)]
   rw[H]at p;exact p
end Fo
namespace Fo
variable {pf:List UInt8->Option Int} {dM:List Act} {TL:List dr} {D:eF} {S:List (List UInt8)} {τ:Nat->Int} {x1:Int} {L R:List Int} {v:VM} {i s h_ f:Int}
def told:Option Int->List Int
 | some n=>[3,n,0]
 | none=>[3,-2049]
theorem Ws(l:ou pf dM TL D S τ x1){xw m:Int}{k:Nat}{o:VM}{r:Option Int}(h:Ends D [3] [0,0,1,0,2824] (xw+32) 0 4 f k o r)(Y:0<=xw)(G:(xw+32,m) ∈ D.fx)(I:pf [101,120,105,116]=some m)(X:10*(k:Int)+10<f) :
 ∃ a,To (o,0) (a,0)/\Rs D (told r) [] a/\a.ip=0/\f-10*k-10<=a.cI:=by
 obtain⟨N,d,W,z⟩:=l.dD.tok [101,120,105,116] (by simp);have:N=m:=by rw[I]at d;injection d with d;exact d.symm
 subst this;obtain⟨K,w,V,x⟩:=l.dD.tok [40,99,97,117,103,104,116,41] (by simp);obtain⟨M,c,y⟩:=l.dD.Wh;have:M=K:=by rw[w]at c;injection c with c;exact c.symm
 subst this;cases r with
 | none =>
  obtain⟨u,p,Z,s',B,g,b,j,J⟩:=h;have b:Rs D [3] ([0,0,1,0]++(2824 :: p)) u:=b;obtain⟨a,e,H,a3⟩:=vU b j;rw[e]at g;exact⟨a,g,H,a3.ip,by rw[a3.cI];omega⟩
 | some n =>
  obtain⟨Q,B,g,b,j,J⟩:=h;have b:Rs D [3,n] ([0,0,1,0]++[2824]) Q:=b;obtain⟨w1,C,q,O⟩:=b.step j (by omega) G (by omega);obtain⟨w2,A,E,t⟩:=MA C q z;obtain⟨a,P,F,T,U⟩:=Eo E t y x (by omega);exact⟨a,(g.trans (O _ A)).trans P,F,T,by rw[U];omega⟩
theorem ye(h:Rs D L R v)(k:At v i s h_ f){xt n:Int}(e:(xt,1003) ∈ D.fx)(g:(xt+8,n) ∈ D.fx)(j:dB n)(m:L.length<60):∃ a,VM.jz v xt (a,0)/\Rs D (L++[n]) R a/\At a i s h_ f:=by
 obtain⟨u,c,d,l⟩:=h.push [n] (by simp only[List.length_cons,List.length_nil];omega) (jR j);have b:=VM.jz.value (v:=v) (xt:=xt) n (h.cell e) (h.cell g);rw[c]at b;exact⟨u,b,d,k.same l⟩
theorem Nd(m:ou pf dM TL D S τ x1)(b:Act)(N:dz (b.cZ % 5) ∈ S){c:Nat}(q:c<TL.length){o k:Int}(h:Rs D (L++[o]) R v)(F:At v i s h_ f)(I:(k,num [40,115,101,110,100,41]) ∈ D.fx)(E:(i,sg S b.s1) ∈ D.fx)(J:(o,dG D.A c) ∈ D.fx) :
 ∃ w,Rs D L R w/\At w (i+8) s h_ f/\VM.jz v k (match Ref.dH TL c b.s1 with | none=>(w,-2049) | some p=>w.method (τ p.1.toNat) o):=by
 have a:=ki h I (by decide +kernel) (pk:=.with_ 1 360) (by rfl) (by decide);obtain⟨w,e,K,M⟩:=h.Mz (VM.OW VM.zL 360);have d:=F.same M;obtain⟨u,C,g,t,y,z,B⟩:=K.inline (n:=sg S b.s1) (by rw[d.ip];exact E);refine⟨u,g,⟨by rw[t,d.ip],by rw[y,d.dU],by rw[z,d.cC],by rw[B,d.cI]⟩,?_⟩;have H:VM.Fb VM.zL (.with_ 1 360) v=u.send o (sg S b.s1):=by
  show VM.iF 1 (VM.OW VM.zL 360) v=_;rw[e];show(if w.inline.2.2≠0 then(w.inline.1,w.inline.2.2)else w.inline.1.send o w.inline.2.1)=_;rw[C,if_neg (by simp)]
 have G:Obj.j7 u.x.mem 8 o=(dG D.A c,0):=Obj.Of g.fQ.iE (by rw[m.len];exact q) (g.fQ.cell J);obtain⟨j,r⟩:=m.look g.fQ b c q;rw[<- mq]at j r;rw[H]at a;unfold VM.send Obj.send at a;rw[g.root,G]at a;simp only[ne_eq,not_true_eq_false,if_false]at a;cases l:Ref.dH TL c b.s1 with
 | none =>
  rw[l]at j;rw[j]at a;simpa using a
 | some p =>
  rw[l]at j;rw[j,r p l]at a;simpa using a
theorem Nf{o k xt:Int}(h:Rs D (L++[o]) R v)(q:At v i s h_ f)(t:(k,num [40,99,97,108,108,41]) ∈ D.fx)(p:(i,xt) ∈ D.fx):∃ w,Rs D L R w/\At w (i+8) s h_ f/\VM.jz v k (w.method xt o):=by
 have b:=ki h t (by decide +kernel) (pk:=.with_ 1 362) (by rfl) (by decide);obtain⟨w,e,x,y⟩:=h.Mz (VM.OW VM.zL 362);have a:=q.same y;obtain⟨u,l,m,c,d,g,j⟩:=x.inline (n:=xt) (by rw[a.ip];exact p);refine⟨u,m,⟨by rw[c,a.ip],by rw[d,a.dU],by rw[g,a.cC],by rw[j,a.cI]⟩,?_⟩;have r:VM.Fb VM.zL (.with_ 1 362) v=u.method xt o:=by
  show VM.iF 1 (VM.OW VM.zL 362) v=_;rw[e];show(if w.inline.2.2≠0 then(w.inline.1,w.inline.2.2)else w.inline.1.method w.inline.2.1 o)=_;rw[l,if_neg (by simp)]
 rw[r]at b;exact b
theorem Ca(m:ou pf dM TL D S τ x1)(hA:∀ a ∈ dM,a.n<=65535)(b:Act)(K:dz (b.cZ % 5) ∈ S){c:Nat}(hc:c<TL.length)(hn:TL.length<=60){xw C N F o:Int}(ae:0<=xw)(Z:(xw+8,F) ∈ D.fx)(h2:(F,1003) ∈ D.fx)(z:(F+8,o) ∈ D.fx)(I:(o,dG D.A c) ∈ D.fx)(ab:pf [40,115,101,110,100,41]=some C)(h5:(xw+16,C) ∈ D.fx)(h6:(xw+24,sg S b.s1) ∈ D.fx)(aa:pf [101,120,105,116]=some N)(J:(xw+32,N) ∈ D.fx)
 (h:Rs D [3] [0,0,1,0,2824] v) (ha:At v (xw+8) 0 4 f) (hf:2000<f):∃ d,To (v,0) (d,0)/\Rs D (told (val dM TL TL.length c b.s1)) [] d/\d.ip=0/\f-1000<=d.cI:=by
 have hT:=m.FN h.fQ;obtain⟨O,u,k2,k3⟩:=m.dD.tok [40,115,101,110,100,41] (by simp);have:O=C:=by rw[ab]at u;injection u with u;exact u.symm
 subst this;have M:dB o:=by
  obtain⟨_,y,l,_⟩:=h.fQ.fx _ I;have ac:=h.fQ.xQ;have B:=h.fQ.al.ok;unfold Sp.Ok at B;have y:32<=o:=y;have l:o+8<=v.x.cu:=l;unfold dB;omega
 have af:xw+32<=60000:=by
  obtain⟨_,y,l,_⟩:=h.fQ.fx _ J;have ac:=h.fQ.xQ;have B:=h.fQ.al.ok;unfold Sp.Ok at B;have l:xw+32+8<=v.x.cu:=l;omega
 obtain⟨w1,W,U,P⟩:=h.step ha (by omega) Z (by omega);obtain⟨w2,H,X,V⟩:=ye W U h2 z M (by decide);obtain⟨w3,Y,a3,Q⟩:=X.step V (by omega) (by rw[show xw+8+8=xw+16 by omega];exact h5) (by omega);obtain⟨E,r,w,g⟩:=Nd m b K hc Y a3 k3 (by rw[show xw+8+8+8=xw+24 by omega];exact h6) I;rw[show xw+8+8+8+8=xw+32 by omega]at w;have j:∃ q,To (v,0) (q,0)/\Ends D [3] [0,0,1,0,2824] (xw+32) 0 4 (f-1-1) TL.length q (val dM TL TL.length c b.s1)\/∃ d,To (v,0) (d,0)/\Rs D (told (val dM TL TL.length c b.s1)) [] d/\d.ip=0/\f-1000<=d.cI:=by
  cases t:Ref.dH TL c b.s1 with
  | none =>
   rw[t]at g;have ad:val dM TL TL.length c b.s1=none:=by
    obtain⟨k,hk⟩:∃ k,TL.length=k+1:=⟨TL.length-1,by omega⟩;rw[hk,val,t]
   have r:Rs D [3] ([0,0,1,0]++[2824]) E:=r;obtain⟨d,e,z,G⟩:=vU r w;have T:=Q _ g;rw[e]at T;refine⟨d,.inr ⟨d,(P _ H).trans T,?_,G.ip,by rw[G.cI];omega⟩⟩;rw[ad];exact z
  | some p =>
   rw[t]at g;obtain⟨q,m1,m2⟩:=vO m h.fQ.iE.uD hT hA b K TL.length (c:Int) (by omega) (by omega) (by omega) p t [3] [0,0,1,0,2824] E (xw+32) 0 4 (f-1-1) o r w (by unfold dB;omega) (by unfold dB;omega) M (by decide) (by simp only[List.length_cons,List.length_nil];omega) (by omega) (by omega);have g:VM.jz w3 O (E.method (τ p.1.toNat) o):=g;rw[m1]at g;exact⟨q,.inl ⟨(P _ H).trans (Q _ g),m2⟩⟩
 obtain⟨q,j | j⟩:=j
 . obtain⟨d,y1,y2,y3,y4⟩:=Ws m j.2 ae J aa (by omega)
   exact⟨d,j.1.trans y1,y2,y3,by omega⟩
 . exact j
theorem IY(g:ou pf dM TL D S τ x1)(V:∀ a ∈ dM,a.n<=65535)(b:Act){c:Nat}(hc:c<TL.length)(hn:TL.length<=60){p:Int × Int}(z:Ref.dH TL c b.s1=some p){xw m B q o:Int}(ab:0<=xw)(N:(xw+8,q) ∈ D.fx)(O:(q,1003) ∈ D.fx)(P:(q+8,o) ∈ D.fx)(Q:(o,dG D.A c) ∈ D.fx)(Z:pf [40,99,97,108,108,41]=some m)(T:(xw+16,m) ∈ D.fx)(U:(xw+24,τ p.1.toNat) ∈ D.fx)(Y:pf [101,120,105,116]=some B)(u:(xw+32,B) ∈ D.fx)
 (h:Rs D [3] [0,0,1,0,2824] v) (W:At v (xw+8) 0 4 f) (hf:2000<f):∃ d,To (v,0) (d,0)/\Rs D (told (val dM TL TL.length c b.s1)) [] d/\d.ip=0/\f-1000<=d.cI:=by
 have w:=g.FN h.fQ;obtain⟨ac,j,k2,k3⟩:=g.dD.tok [40,99,97,108,108,41] (by simp);have:ac=m:=by rw[Z]at j;injection j with j;exact j.symm
 subst this;have y:dB o:=by
  obtain⟨_,k,e,_⟩:=h.fQ.fx _ Q;have aa:=h.fQ.xQ;have l:=h.fQ.al.ok;unfold Sp.Ok at l;have k:32<=o:=k;have e:o+8<=v.x.cu:=e;unfold dB;omega
 have ad:xw+32<=60000:=by
  obtain⟨_,k,e,_⟩:=h.fQ.fx _ u;have aa:=h.fQ.xQ;have l:=h.fQ.al.ok;unfold Sp.Ok at l;have e:xw+32+8<=v.x.cu:=e;omega
 obtain⟨a,_,F,G,_,_,_⟩:=g.MB w b (c:Int) (by omega) (by omega) z;have X:dz (b.cZ % 5) ∈ S:=by
  have:b.cZ % 5=a.cZ % 5:=by unfold Act.s1 at F;omega
  rw[this];exact G
 obtain⟨w1,I,C,t1⟩:=h.step W (by omega) N (by omega);obtain⟨w2,H,J,E⟩:=ye I C O P y (by decide);obtain⟨w3,K,a3,t3⟩:=J.step E (by omega) (by rw[show xw+8+8=xw+16 by omega];exact T) (by omega);obtain⟨w4,M,r,t⟩:=Nf K a3 k3 (by rw[show xw+8+8+8=xw+24 by omega];exact U);rw[show xw+8+8+8+8=xw+32 by omega]at r;obtain⟨v1,m1,m2⟩:=vO g h.fQ.iE.uD w V b X TL.length (c:Int) (by omega) (by omega) (by omega) p z [3] [0,0,1,0,2824] w4 (xw+32) 0 4 (f-1-1) o M r (by unfold dB;omega) (by unfold dB;omega) y (by decide) (by simp only[List.length_cons,List.length_nil];omega) (by omega) (by omega);rw[m1]at t;obtain⟨d,y1,y2,y3,y4⟩:=Ws g m2 ab u Y (by omega);exact⟨d,((t1 _ H).trans (t3 _ t)).trans y1,y2,y3,by omega⟩
end Fo
namespace Fo
variable {pf:List UInt8->Option Int} {dM:List Act} {TL:List dr} {D:eF} {S:List (List UInt8)} {τ:Nat->Int} {x1:Int} {L R:List Int} {v:VM} {i s h_ f:Int} {q:Q}
def runT(nm:List UInt8):List UInt8:=[51]++32 :: ([39]++32 :: (nm++32 :: [99,97,116,99,104]))
theorem St.rs(h:St pf D S 0 none f q):Rs D [] [] q.1.v :=
 ⟨h.fQ,h.dD,h.cF,h.root,h.cy,h.dL,h.cV,h.dd,h.rr,⟨by decide,fun i a=>by cases a⟩,by decide,fun i a=>by cases a⟩
structure Rq(D:eF)(L:List Int)(f:Int)(q0 q:Q):Prop where
 eq:∃ n v,q=({ q0.1 with cM:=n,v:=v },q0.2)
 rs:Rs D L [] q.1.v
 cI:q.1.v.cI=f
theorem Rq.push{a:Q}(h:Rq D L f a q)(j:a.1.comp=false)(n:Int)(w:L.length<60)(g:dB n){t:List UInt8}(o:gY q t):∃ r,q.1.gX [n]=(r,0)/\Rq D (L++[n]) f a (r,q.2)/\gY (r,q.2) t:=by
 obtain⟨⟨k,v,e⟩,p,m⟩:=h;obtain⟨b,c,d,u⟩:=p.push [n] (by simp only[List.length_cons,List.length_nil];omega) (jR g);refine⟨{ q.1 with v:=b },?_,⟨⟨k,b,by rw[e]⟩,d,by show b.cI=f;rw[u.cI,m]⟩,o⟩;have l:q.1.comp=false:=by rw[e];exact j
 unfold Rd.gX;rw[if_neg (by rw[l];simp)];show((({ q.1 with v:=(q.1.v.push [n]).1 }:Rd),(q.1.v.push [n]).2):Rd × Int)=_;rw[c]
theorem Rq.Vs{d:Q}(h:Rq D L f d q){s t:List UInt8}{n:Nat}(c:Src.dA q.1.src q.1.cM=(s,n))(g:q.1.src.drop n=t):q.1.dt=s/\Rq D L (f-1) d (Oo.cH q)/\gY (Oo.cH q) t:=by
 obtain⟨⟨k,v,e⟩,j,a⟩:=h;have b:q.1.next={ q.1 with cM:=n }:=by
  show({ q.1 with cM:=(Src.dA q.1.src q.1.cM).2 }:Rd)=_;rw[c]
 refine⟨by show(Src.dA q.1.src q.1.cM).1=s;rw[c],⟨⟨n,{ q.1.v with cI:=f-1 },?_⟩,?_,?_⟩,?_⟩
 . unfold Oo.cH
   rw[b,a,e]
 . show Rs D L [] { q.1.v with cI:=q.1.v.cI-1 }
   exact { j with }
 . show q.1.v.cI-1=f-1
   rw[a]
 . show q.1.next.src.drop q.1.next.cM=t
   rw[b];exact g
theorem vV(hB:sK pf D)(h:St pf D S 0 none f q){nm:List UInt8}{w:Wd}{r:List Int}(hs:Src.d' nm=true)(hl:nm.length<=31)(am:Mem.dv D.ws (cG nm)=some w)(Y:(w.xt,1001) ∈ D.fx)(aa:dB w.xt)(hp:gY q (runT nm))(hf:3000<f)
 (au:∀ v,Rs D [3] [0,0,1,0,2824] v->At v (w.xt+8) 0 4 (f-4)->∃ I,To (v,0) (I,0)/\Rs D r [] I/\I.ip=0/\f-1010<=I.cI) :
 ∃ (p:Q) (C:Int),fH (q,0) (p,0)/\Rs D r [] p.1.v/\f-1010<=C/\St pf D S 0 none C ({ p.1 with v:=(p.1.v.fE 0).1 },p.2):=by
 unfold runT at hp;obtain⟨ls,V,l2,l3⟩:=h.eE;have V:q.1.eE=[24]:=by rw[V,l3 rfl rfl];rfl
 have P:q.1.comp=false:=h.comp;have q0:Rq D [] f q q:=⟨⟨q.1.cM,q.1.v,rfl⟩,h.rs,h.cI⟩
 -- the number
 obtain⟨w1,B⟩:=Src.mZ q.1.src [51] _ q.1.cM (by decide) hp;obtain⟨n1,F,p1⟩:=q0.Vs w1 B;obtain⟨z,e2,G,p2⟩:=F.push P 3 (by decide) (by unfold dB;omega) p1;have M:∀ {E:Q} {W:List Int} {C:Int} (s:List UInt8),Rq D W C q E->E.1.v.x.mem.find s E.1.eE=Mem.dv D.ws (cG s):=by
  intro E W C s ar;obtain⟨⟨k,v,e⟩,T,_⟩:=ar;have ho:E.1.eE=[24]:=by rw[e];exact V
  rw[ho];exact nW T.fQ s (ls:=[]) (fun a ha=>by cases ha)
 have t1:fj q (z,(Oo.cH q).2):=by
  refine gv h.dL h.cI (by omega) n1 (by decide) ?_ G.cI;have hb:(Oo.cH q).1.v.oj=10:=by
   show((Oo.cH q).1.v.x.mem.cell (Oo.cH q).1.v.dD).1=10;rw[F.rs.dD,F.rs.fQ.dD]
  have an:Mem.dv D.ws [51]=none:=by
   unfold Mem.dv;rw[List.find?_eq_none];intro u hu;have:=List.all_eq_true.1 hB.zr u hu;intro e;simp only[Bool.and_eq_true,decide_eq_true_eq]at e;rw[e.1]at this;exact absurd this (by decide)
  have y:=ig.num (s:=[51]) (q:=Oo.cH q) 3 (by decide +kernel) (by decide +kernel) (by rw[M [51] F];exact an) (by rw[hb];exact(show dE.lH [51] 10=(3,true) by decide +kernel));rw[e2]at y;exact y
 -- the token
 have ap:(z.src.drop z.cM)=[39]++32 :: (nm++32 :: [99,97,116,99,104]):=p2;obtain⟨w3,K⟩:=Src.mZ z.src [39] _ z.cM (by decide) ap;obtain⟨n3,N,p3⟩:=G.Vs w3 K;obtain⟨c,ad⟩:∃ u,u=Oo.cH (z,(Oo.cH q).2):=⟨_,rfl⟩;rw[<- ad]at N p3;obtain⟨w4,d4⟩:=Src.mZ c.1.src nm _ c.1.cM hs p3;have H:c.1.next={ c.1 with cM:=c.1.cM+nm.length+1 }:=by
  show({ c.1 with cM:=(Src.dA c.1.src c.1.cM).2 }:Rd)=_;rw[w4]
 have ao:c.1.dt=nm:=by show(Src.dA c.1.src c.1.cM).1=nm;rw[w4]
 have g4:Rq D [3] (f-1-1) q (c.1.next,c.2):=by
  obtain⟨⟨k,v,e⟩,T,al⟩:=N;exact⟨⟨c.1.cM+nm.length+1,v,by rw[H,e]⟩,by show Rs D [3] [] c.1.next.v;rw[H];exact T,by show c.1.next.v.cI=_;rw[H];exact al⟩
 have p4:gY (c.1.next,c.2) [99,97,116,99,104]:=by
  show c.1.next.src.drop c.1.next.cM=_;rw[H];exact d4
 have ak:c.1.find=(c.1.next,w,0):=by
  unfold Rd.find;rw[jZ ao hs hl];simp only[ne_eq,not_true_eq_false,if_false];rw[M nm N,am]
 obtain⟨m,e5,A,p5⟩:=g4.push P w.xt (by decide) aa p4;have A:Rq D [3,w.xt] (f-1-1) q (m,c.2):=A;have t2:fj (z,(Oo.cH q).2) (m,c.2):=by
  refine gv G.rs.dL G.cI (by omega) n3 (by decide) ?_ A.cI;rw[<- ad];have y:=ig.own (s:=[39]) (q:=c) 248 (by decide +kernel) (by decide +kernel) (by simp);have ht:Rd.Jj 248 c.1=(m,0):=by
   show c.1.Ip=_;unfold Rd.Ip;rw[ak,if_neg (by simp)];exact e5
  rw[ht]at y;exact y
 -- catch
 obtain⟨wc,c1,c2,X⟩:=hB.Ms;have aq:m.src.drop m.cM=[99,97,116,99,104]:=p5;obtain⟨w6,d6⟩:=Src.xS m.src [99,97,116,99,104] m.cM (by decide) aq;obtain⟨n6,t,p6⟩:=A.Vs w6 d6;obtain⟨g,ae⟩:∃ u,u=Oo.cH (m,c.2):=⟨_,rfl⟩;rw[<- ae]at t p6;obtain⟨v7,g7,J,t7⟩:=Nc t.rs (by rw[t.cI];omega) X Y aa;rw[t.cI,show f-1-1-1-1=f-4 by omega]at J;obtain⟨j,t8,O,z8,y8⟩:=au v7 g7 J;have hR:VM.Bt g.1.v wc.xt (j,0):=t7 _ (t8 rfl _ (VM.sJ.stop _ (fun e=>e.2.1 z8)));have ax:j.cI<=f-4:=by
  have aw:∀ {a b:VM × Int},VM.sJ a b->b.1.cI<=a.1.cI:=by
   intro a b ah;induction ah with
   | stop q hq=>exact Int.le_refl _
   | step v v1 xt q Q Y h2 h3 h4 Z h0 h6 U =>
    rw[VM.rv,Z.cI]at U;have:v.inline.1.cI=v.cI:=rfl;rw[h3]at this;show Q.1.cI<=v.cI;have U:Q.1.cI<=v1.cI-1:=U;have this:v1.cI=v.cI:=this;omega
  have:=aw (t8 rfl _ (VM.sJ.stop _ (fun e=>e.2.1 z8)));have this:j.cI<=v7.cI:=this;rw[J.cI]at this;exact this
 have t3:∀ l Q,fH (({ g.1 with v:=j },g.2),l) Q->fH ((m,c.2),l) Q:=by
  intro l Q hQ
  have y:=ig.run (s:=[99,97,116,99,104]) (q:=g) wc (j,0) (by decide +kernel) (by decide +kernel) (by rw[M _ t];exact c1) (by obtain⟨⟨k,v,e⟩,_⟩:=t;rw[e];exact P) (by
   show ¬ 0<Rd.iU (fc (g.1.v.x.mem.cell wc.xt).1);rw[t.rs.fQ.cell X]
   decide +kernel) hR
  have Z:m.v.cI=f-1-1:=A.cI;exact fH.ok (m,c.2) ({ g.1 with v:=j },g.2) l Q A.rs.dL (by rw[n6];decide) (by show 0<m.v.cI;omega) (by rw[n6,<- ae];exact y) (by show j.cI<m.v.cI;omega) hQ
 have av:g.1.src.drop g.1.cM=[]:=p6;have af:=Src.xT g.1.src g.1.cM av;obtain⟨k6,v6,e6⟩:=t.eq;obtain⟨o,ab⟩:∃ o:Q,o=({ g.1 with v:=j,cM:=g.1.cM },g.2):=⟨_,rfl⟩;have ai:fH (({ g.1 with v:=j },g.2),0) (o,0):=by
  have hd:=fH.done (({ g.1 with v:=j },g.2):Q) 0 O.dL (by show(Src.dA g.1.src g.1.cM).1=[];rw[af]);have:(({ g.1 with v:=j }:Rd).next,g.2)=o:=by
   rw[ab];show(({ g.1 with v:=j,cM:=(Src.dA g.1.src g.1.cM).2 }:Rd),g.2)=_;rw[af]
  rw[<- this];exact hd
 have ac:o=({ q.1 with cM:=g.1.cM,v:=j },q.2):=by rw[ab,e6]
 have ag:Rs D ([]++r) [] j:=O;obtain⟨v9,B,n,K⟩:=ag.fE;have B:j.fE 0=(v9,0):=B;refine⟨o,j.cI,t1 _ _ (t2 _ _ (t3 _ _ ai)),by rw[ac];exact O,y8,?_⟩;have aj:({ o.1 with v:=(o.1.v.fE 0).1 },o.2)=(({ q.1 with cM:=g.1.cM,v:=v9 }:Rd),q.2):=by
  rw[ac];show(({ q.1 with cM:=g.1.cM,v:=(j.fE 0).1 }:Rd),q.2)=_;rw[B]
 rw[aj];exact { h with fQ:=n.fQ,dD:=n.dD,cF:=n.cF,root:=n.root,cy:=n.cy,dL:=n.dL,cV:=n.cV,dd:=n.d,rr:=n.r,cI:=K.cI }
theorem ou.dA{g:eF}{l:List (List UInt8)}(a:ou pf dM TL D S τ x1)(w:Wd)(o:g.A=D.A)(k:g.L=D.L)(hF:∀ z ∈ D.fx,z ∈ g.fx)(F:g.ws=w :: D.ws)(d:w.name=jy\/w.name=iA)(M:BA l)(r:∀ s ∈ S,s ∈ l/\fi l s=fi S s):ou pf dM TL g l τ x1:=by
 have h:∀ s,s≠jy->s≠iA->Mem.dv g.ws s=Mem.dv D.ws s:=by
  intro s J K;rw[F,eZ _ _ _ (fun e=>by rcases d with d | d;exact J (e.symm.trans d);exact K (e.symm.trans d))]
 refine⟨?_,?_,M,by rw[k];exact a.len,fun i c=>by rw[k];exact a.lx i c,a.cy,fun i c=>?_,fun i c p t=>?_,fun i c=>?_,fun i c=>?_⟩
 . refine a.dD.grow hF (h _ (by decide) (by decide)) (h _ (by decide) (by decide)) ?_
   rw[F,List.all_cons,a.dD.zr];rcases d with d | d
   . rw[d];decide
   . rw[d];decide
 . obtain⟨W,U,V⟩:=a.one
   exact⟨W,by rw[<- U];exact h _ (by decide) (by decide),V⟩
 . rw[k,a.own i c]
   refine List.map_congr_left fun p t=>?_;obtain⟨j,b,G,H,B,n,_⟩:=a.Jk i c p t;rw[B,a.mr r n]
 . obtain⟨j,b,G,H,B,n,T⟩:=a.Jk i c p t
   exact⟨j,b,G,H,B,(r _ n).1,T.grow hF (by rw[o,k]) (a.mr r n)⟩
 . have m:=a.kn i c
   obtain⟨C,u,x,y⟩:=m.dA;have E:cG (eS i)=mw 107 :: cG (dg i):=rfl;refine⟨m.d',m.len,by rw[k];exact m.lt,C,?_,hF _ x,by rw[o];exact hF _ y⟩;rw[<- u];exact h _ (fun e=>by rw[E]at e;injection e with e _;exact absurd e (by decide)) (fun e=>by rw[E]at e;injection e with e _;exact absurd e (by decide))
 . obtain⟨C,I,u,x,y,N,O,P⟩:=a.ob i c
   refine⟨C,I,?_,x,y,hF _ N,hF _ O,by rw[o];exact hF _ P⟩;rw[<- u];exact h _ (fun e=>by injection e with e _;exact absurd e (by decide)) (fun e=>by injection e with e _;exact absurd e (by decide))
end Fo
namespace Fo
variable {pf:List UInt8->Option Int} {dM:List Act} {TL:List dr} {D:eF} {S:List (List UInt8)} {τ:Nat->Int} {x1:Int} {L R:List Int} {v:VM} {f:Int} {q:Q}
theorem Rs.all(h:Rs D L R v):dK.all v.x.mem v.d=L:=by
 unfold dK.all;rw[h.d];simp only[Int.toNat_natCast];apply List.ext_getElem
 . simp
 . intro i b a
   rw[List.getElem_map,List.getElem_range];unfold dK.cM dK.ft;rw[if_neg (by omega),if_neg (by show ¬ (L.length:Int)<=(L.length:Int)-1-(i:Int);omega)];simp only;rw[show(60000:Int)+((L.length:Int)-1-((L.length:Int)-1-(i:Int)))*8=60000+8*(i:Int) by omega,h.dl.2 i a]
theorem jU(q:Q)(t:List UInt8):gY (q.1.again t,q.2) t:=by show t.drop 0=t;rw[List.drop_zero]
theorem lU{m:Option (Int × Int × Int)}{o:Int}(h:St pf D S o m f q)(t:List UInt8):St pf D S o m f (q.1.again t,q.2):=h.src t 0
def pJ(q:Q):Q:=({ q.1 with v:=(q.1.v.fE 0).1 },q.2)
def pj(s:Nat):Act:=⟨0,0,0,s,0,false⟩
theorem IZ(i:ou pf dM TL D S τ x1)(W:∀ a ∈ dM,a.n<=65535)(af:St pf D S 0 none f q)(c s:Nat)(j:c<TL.length)(Y:TL.length<=60)(o:s<5)(hf:6000<f)(hr:q.1.v.x.cu+700<=60000) :
 ∃ g l h:Q,fH ((q.1.again (oe c s),q.2),0) (g,if(Ref.dH TL c (pj s).s1).isSome then 0 else -2049)/\fH ((g.1.again (rP c s),g.2),0) (l,0)/\fH ((l.1.again (runT jy),l.2),0) (h,0) /\
  dK.all h.1.v.x.mem h.1.v.d=told (val dM TL TL.length c (pj s).s1)/\h.1.v.r.depth=0/\(pJ h).1.v.d.depth=0 /\
  ((Ref.dH TL c (pj s).s1).isSome=true->∃ z:Q,fH (((pJ h).1.again (runT iA),(pJ h).2),0) (z,0)/\dK.all z.1.v.x.mem z.1.v.d=told (val dM TL TL.length c (pj s).s1)/\z.1.v.r.depth=0):=by
 have p:(pj s).cZ % 5=s:=Nat.mod_eq_of_lt o;have he:=lU af (oe c s);have ag:=jU q (oe c s);have hh:=kP af;cases hw:Ref.dH TL c (pj s).s1 with
 | none =>
  obtain⟨g,f1,t1,U,y1,N⟩:=En i he (pj s) c j (by omega) hw (by rw[p];exact ag) (by omega) (by show q.1.v.x.cu+300<=60000;omega);have N:g.1.v.x.cu<=q.1.v.x.cu+200:=N;obtain⟨l,D2,O,n,ks,ke,f2,ow,w,t2,J,y2,z2,k1,t,k3,b,u,y,k7,k8,k9,aa,G,ab,ac,ad,ae⟩:=Ga i (lU U (rP c s)) c s j (by omega) o (jU g (rP c s)) (by omega) (by show g.1.v.x.cu+300<=60000;omega);obtain⟨ai,n',H,m2,m3,m4,_,_,_,m8⟩:=nX i.eb s o;rw[k1]at H;injection H with e1 e2;injection e2 with e2 _;subst e1 e2;have m:=i.dA { w with cP:=0 } t k3 b u (.inl y) m2 m8;obtain⟨wo,oa,k,o2,o3,o4,o5,o6⟩:=i.ob c j;have:wo=ow:=by rw[k8]at k;injection k with k;exact k.symm
  subst this;have aj:32<=w.xt:=(J.fQ.fx _ G).2.1;have Z:sg O (pj s).s1=n:=by rw[mq,p,m4]
  obtain⟨h,f3,t3,I,y3,V⟩:=vV m.dD (lU J (runT jy)) (nm:=jy) (w:={ w with cP:=0 }) (r:=told (val dM TL TL.length c (pj s).s1)) (by decide) (by decide) (by
   rw[u,show cG jy=jy by decide,<- y];exact ji { w with cP:=0 } D.ws (by show(0:Int) % 4<2;decide)) G k7 (jU l (runT jy)) (by omega) (fun v F E=>by
   obtain⟨K,A,B,C,b4⟩:=Ca m W (pj s) (by rw[p];exact m3) j Y (xw:=w.xt) (by omega) ab (b _ o4) (b _ o5) (by rw[t];exact b _ o6) k9 ac (by rw[Z];exact ad) aa ae F E (by omega)
   exact⟨K,A,B,C,by omega⟩)
  refine⟨g,l,h,?_,t2,t3,I.all,by rw[I.r];rfl,V.dd ▸ rfl,fun e=>by cases e⟩;simpa using t1
 | some p0 =>
  obtain⟨g,D1,kc,au,f1,ap,M,t1,U,y1,N,i2,i3,P,i5,i6,i7,i8,i9,ak,ah,al,am,an,ao⟩:=Na i he (pj s) c j (by omega) hw (by rw[p];exact ag) (by omega) (by show q.1.v.x.cu+300<=60000;omega);have N:g.1.v.x.cu<=q.1.v.x.cu+200:=N;have X:=i.dA { M with cP:=0 } i2 i3 P i5 (.inr i6) i.eb (fun s o=>⟨o,rfl⟩);obtain⟨l,D2,O,n,ks,ke,f2,ow,w,t2,J,y2,z2,k1,t,k3,b,u,y,k7,k8,k9,aa,G,ab,ac,ad,ae⟩:=Ga X (lU U (rP c s)) c s j (by omega) o (jU g (rP c s)) (by omega) (by show g.1.v.x.cu+300<=60000;omega);obtain⟨ai,n',H,m2,m3,m4,_,_,_,m8⟩:=nX i.eb s o;rw[k1]at H;injection H with e1 e2;injection e2 with e2 _;subst e1 e2;have m:=X.dA { w with cP:=0 } t k3 b u (.inl y) m2 m8;obtain⟨wo,oa,k,o2,o3,o4,o5,o6⟩:=X.ob c j;have:wo=ow:=by rw[k8]at k;injection k with k;exact k.symm
  subst this;have aj:32<=w.xt:=(J.fQ.fx _ G).2.1;have Z:sg O (pj s).s1=n:=by rw[mq,p,m4]
  obtain⟨h,f3,t3,I,y3,V⟩:=vV m.dD (lU J (runT jy)) (nm:=jy) (w:={ w with cP:=0 }) (r:=told (val dM TL TL.length c (pj s).s1)) (by decide) (by decide) (by
   rw[u,show cG jy=jy by decide,<- y];exact ji { w with cP:=0 } D1.ws (by show(0:Int) % 4<2;decide)) G k7 (jU l (runT jy)) (by omega) (fun v F E=>by
   obtain⟨K,A,B,C,b4⟩:=Ca m W (pj s) (by rw[p];exact m3) j Y (xw:=w.xt) (by omega) ab (b _ o4) (b _ o5) (by rw[t];exact b _ o6) k9 ac (by rw[Z];exact ad) aa ae F E (by omega)
   exact⟨K,A,B,C,by omega⟩)
  have ar:32<=M.xt:=(U.fQ.fx _ ah).2.1;obtain⟨wp,op,T,j2,j3,j4,j5,j6⟩:=i.ob c j;have:wp=ap:=by rw[i8]at T;injection T with T;exact T.symm
  subst this;have aq:St pf D2 O 0 none f3 (pJ h):=V
  obtain⟨z,f5,t5,r5,_,_⟩:=vV m.dD (lU aq (runT iA)) (nm:=iA) (w:={ M with cP:=0 }) (r:=told (val dM TL TL.length c (pj s).s1)) (by decide) (by decide) (by
   rw[u,show cG iA=iA by decide,eZ _ _ _ (by show w.name≠iA;rw[y];decide),i5,<- i6];exact ji { M with cP:=0 } D.ws (by show(0:Int) % 4<2;decide)) (b _ ah) i7 (jU (pJ h) (runT iA)) (by omega) (fun v F E=>by
   obtain⟨K,A,B,C,b4⟩:=IY m W (pj s) j Y hw (xw:=M.xt) (by omega) (b _ al) (b _ (P _ j4)) (b _ (P _ j5)) (by rw[t,i2];exact b _ (P _ j6)) i9 (b _ am) (b _ an) ak (b _ ao) F E (by omega)
   exact⟨K,A,B,C,by omega⟩)
  refine⟨g,l,h,?_,t2,t3,I.all,by rw[I.r];rfl,V.dd ▸ rfl,fun _=>⟨z,t5,r5.all,by rw[r5.r];rfl⟩⟩;simpa using t1
end Fo
set_option maxRecDepth 100000
open Go.Proofs.tI
namespace wT
theorem pM:NZ.MX 60000 60 200 800:=⟨⟨by decide,by decide,by decide,by decide,by decide,by decide,by decide,by decide +kernel,by decide +kernel,by decide +kernel⟩,by decide +kernel,by decide +kernel⟩
def X:Sp:=NZ.y 60000 60 200 800
def ws:List Wd:=X.mem.fR 24
def pf:List UInt8->Option Int:=UB ws
def rQ:List (List UInt8):=[[108,105,116],[40,101,120,105,116,109,41],[40,115,117,112,101,114,41],[40,115,101,110,100,41],[40,99,97,108,108,41],[101,120,105,116],[40,99,97,117,103,104,116,41]]
def fx:List (Int × Int):=((rQ++[[49,43],[99,97,116,99,104]]).map fun s=>((pf s).getD 0,num s))++[(2824,(pf [40,99,97,117,103,104,116,41]).getD 0)]
def D0:eF:=⟨[],[],[],ws,fx⟩
def XF:VM:={ VM.fresh 60000 60 200 9 800 [] X 8 16 24 2824 with cI:=100000 }
def q0:Fo.Q:=(SC XF,Oo.start)
def Ep(m:Mem):List Wd->Int->Int->Bool
 | [],ea,a=>decide (¬ (0<a/\a<ea))
 | w :: ws,ea,a=>decide (0<a/\a<ea) && decide (m.Ym a=some (w,(m.cell a).1)) && Ep m ws a (m.cell a).1
theorem yf{m:Mem}:∀ {ws:List Wd} {ea a:Int},Ep m ws ea a=true->m.jG ws ea a
 | [],_,_,h=>of_decide_eq_true (p:=¬ (0<_/\_<_)) h
 | _ :: _,_,_,h=>by
  unfold Ep at h;rw[Bool.and_eq_true,Bool.and_eq_true]at h;exact⟨of_decide_eq_true h.1.1,of_decide_eq_true h.1.2,yf h.2⟩
theorem QS:X.cu=2832/\X.lo=8/\X.to=60000/\X.mem.size=62880/\X.mem.cell 0=(0,0)/\X.mem.cell 8=(0,0)/\X.mem.cell 16=(10,0)/\(X.mem.cell 24).2=0:=by decide +kernel
theorem SG:X.mem.jG ws X.mem.size (X.mem.cell 24).1:=yf (by decide +kernel)
theorem Er:∀ w ∈ ws,32<=w.cM/\w.cM<w.xt/\w.xt+8<=2832:=by decide +kernel
theorem UC:∀ p ∈ fx,X.mem.cell p.1=(p.2,0)/\32<=p.1/\p.1+8<=2832/\∀ w ∈ ws,p.1+8<=w.cM\/w.xt<=p.1:=by decide +kernel
theorem XG:ws.Pairwise fun a b=>b.xt<=a.cM:=by decide +kernel
theorem XH:D0.In X:=by
 obtain⟨c,g,h,e,k,l,m,n⟩:=QS;refine⟨⟨?_,by rw[c];decide⟩,⟨rfl,rfl,fun i a=>absurd a (Nat.not_lt_zero i),fun i a=>absurd a (Nat.not_lt_zero i),by rw[c];decide,by rw[c,e];decide,fun i a=>absurd a (Nat.not_lt_zero i),fun i j _ b=>absurd b (Nat.not_lt_zero j),l,fun i a=>absurd a (Nat.not_lt_zero i),fun i a=>absurd a (Nat.not_lt_zero i),fun i a=>absurd a (Nat.not_lt_zero i)⟩,g,h,e,by rw[c];decide,k,m,n,SG,fun w f=>?_,fun p d=>?_,XG,fun j b=>absurd b (Nat.not_lt_zero j),fun j b=>absurd b (Nat.not_lt_zero j)⟩
 . unfold Sp.Ok;rw[c,g,h,e];decide
 . rw[c];exact⟨(Er w f).1,(Er w f).2.1,(Er w f).2.2,fun j b=>absurd b (Nat.not_lt_zero j)⟩
 . rw[c];exact⟨(UC p d).1,(UC p d).2.1,(UC p d).2.2.1,fun j b=>absurd b (Nat.not_lt_zero j),(UC p d).2.2.2⟩
instance (n:Int):Decidable (dB n):=by unfold dB;infer_instance
theorem Ng:∀ s ∈ rQ,pf s=some ((pf s).getD 0)/\dB ((pf s).getD 0):=by decide +kernel
theorem Nh:Mem.dv ws [49,43]=some ((Mem.dv ws [49,43]).getD Wd.none)/\((Mem.dv ws [49,43]).getD Wd.none).cP % 2=0/\dB ((Mem.dv ws [49,43]).getD Wd.none).xt/\pf [49,43]=some ((Mem.dv ws [49,43]).getD Wd.none).xt:=by decide +kernel
theorem Es:Mem.dv ws [99,97,116,99,104]=some ((Mem.dv ws [99,97,116,99,104]).getD Wd.none)/\dB ((Mem.dv ws [99,97,116,99,104]).getD Wd.none).xt/\pf [99,97,116,99,104]=some ((Mem.dv ws [99,97,116,99,104]).getD Wd.none).xt:=by decide +kernel
theorem T8:ws.all (fun w=>!dE.fa w.name)=true:=by decide +kernel
theorem Ni(s:List UInt8)(a:s ∈ rQ++[[49,43],[99,97,116,99,104]]):((pf s).getD 0,num s) ∈ fx:=List.mem_append_left _ (List.mem_map.2 ⟨s,a,rfl⟩)
theorem T9:Fo.sK pf D0:=by
 refine⟨fun s a=>⟨_,(Ng s a).1,(Ng s a).2,Ni s (List.mem_append_left _ a)⟩,⟨_,Nh.1,Nh.2.1,Nh.2.2.1,?_⟩,⟨_,Es.1,Es.2.1,?_⟩,T8,⟨_,(Ng _ (by decide)).1,List.mem_append_right _ (List.mem_singleton.2 rfl)⟩⟩
 . have:=Ni [49,43] (by decide)
   rw[Nh.2.2.2]at this;exact this
 . have:=Ni [99,97,116,99,104] (by decide)
   rw[Es.2.2]at this;exact this
def x1:Int:=((Mem.dv ws [49,43]).getD Wd.none).xt
theorem Vt(c:Nat->Int):Fo.ou pf [] [] D0 [] c x1 :=
 ⟨T9,⟨_,Nh.1,rfl⟩,⟨List.nodup_nil,fun s b=>absurd b (List.not_mem_nil)⟩,rfl,fun i a=>absurd a (Nat.not_lt_zero i),fun i a=>absurd a (Nat.not_lt_zero i),fun i a=>absurd a (Nat.not_lt_zero i),fun i a=>absurd a (Nat.not_lt_zero i),fun i a=>absurd a (Nat.not_lt_zero i),fun i a=>absurd a (Nat.not_lt_zero i)⟩
theorem XI:Fo.St pf D0 [] 0 none 100000 q0 :=
 ⟨XH,rfl,rfl,rfl,rfl,rfl,rfl,rfl,rfl,rfl,rfl,rfl,rfl,rfl,⟨[],rfl,fun a b=>absurd b (List.not_mem_nil),fun _ _=>rfl⟩,rfl,fun h=>absurd rfl h,fun _ _ _ h=>(by cases h),rfl,fun _ _ h=>(by cases h),fun _ _=>rfl,rfl⟩
end wT
end Go.Proofs.dS
