/- A part of WalkG. No condition. -/
import Derived.Test.YthhfkhhhclmimaaGreatDoorM41
set_option linter.unusedVariables false
set_option linter.unusedSimpArgs false
open Go.Proofs.Tryz
set_option maxRecDepth 10000
set_option maxHeartbeats 4000000
namespace Go.Proofs.dS
open Class (dG)
open Go.Proofs.tI
namespace Fo
variable {pf:List UInt8->Option Int} {D:eF} {S:List (List UInt8)} {o f:Int} {m:Option (Int × Int × Int)} {q:Q}
theorem jR{n:Int}(h:dB n):∀ z ∈ [n],dB z:=fun z a=>by
 have e:z=n:=by simpa using a
 rw[e];exact h
theorem Iz(h:St pf D S o m f q){t:List UInt8}(e:gY q t)(n:Int)(d:dB n)(g:q.1.v.x.cu+8<=60000) :
 ∃ r,q.1.cN n=(r,0)/\gY (r,q.2) t/\r.v.x.cu=q.1.v.x.cu+8/\St pf (D.fJ q.1.v.x.cu [n]) S o m f (r,q.2):=by
 obtain⟨a,b,c⟩:=h.fQ.cN n d g;refine⟨{ q.1 with v:={ q.1.v with x:=q.1.v.x.wr [n] } },?_,e,b,h.put c⟩;show((({ q.1 with v:={ q.1.v with x:=(q.1.v.x.cN n).1 } }:Rd),(q.1.v.x.cN n).2):Rd × Int)=_;rw[a]
theorem PK(h:St pf D S o m f q)(z:m.isSome=true){s t:List UInt8}(A:gY q t)(i:gr (cG s)=none)(j:il (cG s)=none){w:Wd}(k:Mem.dv D.ws (cG s)=some w)(l:w.cP % 2=0){c:Int}(n:(w.xt,c) ∈ D.fx)(u:Rd.iU (fc c)≠2)(y:dB w.xt)(B:q.1.v.x.cu+8<=60000) :
 ∃ p,ig s q (p,0)/\gY p t/\p.1.v.x.cu=q.1.v.x.cu+8/\St pf (D.fJ q.1.v.x.cu [w.xt]) S o m f p:=by
 obtain⟨r,b,d,e,g⟩:=Iz h A w.xt y B;obtain⟨ls,C,E,_⟩:=h.eE;refine⟨(r,q.2),?_,d,e,g⟩
 have a:=ig.comp (s:=s) (q:=q) w i j (by rw[C,nW h.fQ s E,k]) (by rw[h.comp,z]) l (by
  show Rd.iU (fc (q.1.v.x.mem.cell w.xt).1)≠2;rw[h.fQ.cell n]
  exact u)
 rw[b]at a;exact a
theorem Sn(h:St pf D S o m f q)(G:m.isSome=true){t:List UInt8}(H:gY q t)(n:Int)(a:dB n)(y:gr (dE.gC n 10)=none)(z:D.ws.all (fun w=>!dE.fa w.name)=true){k:Int}(C:pf [108,105,116]=some k)(E:dB k)(I:q.1.v.x.cu+16<=60000) :
 ∃ p,ig (dE.gC n 10) q (p,0)/\gY p t/\p.1.v.x.cu=q.1.v.x.cu+16/\St pf (D.fJ q.1.v.x.cu [k,n]) S o m f p:=by
 have d:=dE.nP n a.1 a.2;have c:=mD d;obtain⟨r,g,i,j,u⟩:=vJ h H (s:=[108,105,116]) C E (l:=[n]) (jR a) (by simp only[List.length_cons,List.length_nil];exact I);obtain⟨ls,J,K,_⟩:=h.eE;refine⟨(r,q.2),?_,i,by simpa using j,u⟩;have B:Mem.dv D.ws (cG (dE.gC n 10))=none:=by
  unfold Mem.dv;rw[List.find?_eq_none];intro w b;have:=List.all_eq_true.1 z w b;rw[c];intro e;simp only[Bool.and_eq_true,decide_eq_true_eq]at e;rw[e.1,d]at this;cases this
 have A:q.1.v.oj=10:=by
  show(q.1.v.x.mem.cell q.1.v.dD).1=10;rw[h.dD,h.fQ.dD]
 have b:=ig.num (s:=dE.gC n 10) (q:=q) n (by rw[c];exact y) (by rw[c];exact wQ d) (by rw[J,nW h.fQ _ K,B]) (by rw[A];exact dE.qq n a.1 a.2);have F:q.1.gX [n]=(r,0):=by
  unfold Rd.gX;rw[if_pos (by rw[h.comp,G])];exact g
 rw[F]at b;exact b
theorem Mr(q:Q)(m':Mem)(a:Class.set (Oo.mem q) q.1.v.root q.2.target q.2.cZ q.2.xt=(m',0)) :
 Oo.rJ q=if q.2.eN=0 then(({ ({ Oo.dI q.1 m' with eM:=false }:Rd)with eE:=[({ Oo.dI q.1 m' with eM:=false }:Rd).v.cF] }.oB,{ q.2 with target:=0 }),0)else(({ Oo.dI q.1 m' with eM:=false },{ q.2 with target:=0 }),0):=by
 unfold Oo.rJ;simp only;rw[a,if_neg (by simp)]
theorem FK{c s x:Int}(h:St pf D S o (some (c,s,x)) f q){i:Nat}(hi:i<D.L.length)(hc:c=dG D.A i){t:List UInt8}(U:gY q t)(b1:dB s)(b2:dB x)(hs:Ref.set D.L i s x=(Ref.put D.L i s x,0)){k:Int}(hk:pf [40,101,120,105,116,109,41]=some k)(ac:dB k)(hr:q.1.v.x.cu+8<=60000) :
 ∃ p,Oo.D5 q=(p,0)/\gY p t/\p.1.v.x.cu=q.1.v.x.cu+8/\St pf { D.fJ q.1.v.x.cu [k] with L:=Ref.put D.L i s x } S o none f p:=by
 obtain⟨t1,t2,t3⟩:=h.Wg c s x rfl;have W:q.1.stop=({ q.1 with comp:=false },0):=by
  unfold Rd.stop;rw[if_neg (by rw[h.comp,h.dy];simp)]
 obtain⟨n,V⟩:∃ n:Rd,n={ q.1 with comp:=false }:=⟨_,rfl⟩;rw[<- V]at W;have ae:n.v=q.1.v/\n.pf=q.1.pf/\n.src=q.1.src/\n.cM=q.1.cM/\n.eE=q.1.eE/\n.dy=q.1.dy/\n.comp=false:=by rw[V];exact⟨rfl,rfl,rfl,rfl,rfl,rfl,rfl⟩
 obtain⟨I,Z,y2,y3,y4,y5,y6⟩:=ae;obtain⟨x',R,J,K⟩:=kZ [k] n (by rw[I];exact h.fQ) (jR ac) (by rw[I];simpa using hr);rw[I]at J K;obtain⟨X,p2,G,Y⟩:=eF.dO [k] D q.1.v.x.cu;have H:=eF.fI [k] D q.1.v.x.cu;generalize ag:D.fJ q.1.v.x.cu [k]=D' at K X p2 G Y H |-;obtain⟨j,P⟩:∃ j:Rd,j={ n with v:={ n.v with x:=x' } }:=⟨_,rfl⟩;rw[<- P]at R;have z:j.v.x=x'/\j.src=q.1.src/\j.cM=q.1.cM/\j.pf=q.1.pf/\j.eE=q.1.eE/\j.dy=q.1.dy/\j.comp=false:=by rw[P];exact⟨rfl,y2,y3,Z,y4,y5,y6⟩
 have zv:j.v.dD=16/\j.v.cF=24/\j.v.root=8/\j.v.cy=9/\j.v.dL=false/\j.v.cV=2824/\j.v.d=⟨60000,60,0,-3,-4⟩/\j.v.r=⟨60480,200,0,-5,-6⟩/\j.v.cI=f:=by
  rw[P];show n.v.dD=16/\n.v.cF=24/\n.v.root=8/\n.v.cy=9/\n.v.dL=false/\n.v.cV=2824/\n.v.d=_/\n.v.r=_/\n.v.cI=f;rw[I];exact⟨h.dD,h.cF,h.root,h.cy,h.dL,h.cV,h.dd,h.rr,h.cI⟩
 have aa:n.di [40,101,120,105,116,109,41] []=(j,0):=by
  unfold Rd.di;have af:n.xt [40,101,120,105,116,109,41]=k:=by unfold Rd.xt;rw[Z,h.Iu,hk];rfl
  rw[af];exact R
 obtain⟨m',g1,M⟩:=K.Vf (c:=i) (by rw[G];exact hi) s x b1 b2 (by rw[G];exact hs);rw[G]at M;obtain⟨b,E⟩:∃ b:Rd,b={ Oo.dI j m' with eM:=false }:=⟨_,rfl⟩;have C:Oo.D5 q=if q.2.eN=0 then(({ b with eE:=[b.v.cF] }.oB,{ q.2 with target:=0 }),0)else((b,{ q.2 with target:=0 }),0):=by
  unfold Oo.D5;rw[if_neg (by rw[h.eM];simp),W];have T:∀ (u:Q) (g:Q->Q × Int),Oo.bind (u,0) g=g u:=fun u g=>by unfold Oo.bind;rw[if_neg (by simp)]
  show Oo.bind ((n,q.2),0) (fun q=>Oo.bind (Oo.rd q (q.1.di [40,101,120,105,116,109,41] [])) Oo.rJ)=_;rw[T];show Oo.bind (Oo.rd (n,q.2) (n.di [40,101,120,105,116,109,41] [])) Oo.rJ=_;rw[aa];show Oo.bind ((j,q.2),0) Oo.rJ=_;rw[T];have ad:Oo.mem (j,q.2)=x'.mem:=congrArg Sp.mem z.1;have ab:Class.set (Oo.mem (j,q.2)) j.v.root q.2.target q.2.cZ q.2.xt=(m',0):=by
   rw[ad,zv.2.2.1,t1,t2,t3,hc,<- X];exact g1
  rw[Mr (j,q.2) m' ab];show(if q.2.eN=0 then(({ ({ Oo.dI j m' with eM:=false }:Rd)with eE:=[({ Oo.dI j m' with eM:=false }:Rd).v.cF] }.oB,({ q.2 with target:=0 }:Oo)),(0:Int))else((({ Oo.dI j m' with eM:=false }:Rd),{ q.2 with target:=0 }),0))=_;rw[<- E]
 have F:b.v.x={ x' with mem:=m' }:=by
  rw[E];show({ j.v.x with mem:=m' }:Sp)=_;rw[z.1]
 have y:b.src=q.1.src/\b.cM=q.1.cM/\b.pf=q.1.pf/\b.eE=q.1.eE/\b.dy=q.1.dy/\b.comp=false/\b.eM=false:=by rw[E];exact⟨z.2.1,z.2.2.1,z.2.2.2.1,z.2.2.2.2.1,z.2.2.2.2.2.1,z.2.2.2.2.2.2,rfl⟩
 have w:b.v.dD=16/\b.v.cF=24/\b.v.root=8/\b.v.cy=9/\b.v.dL=false/\b.v.cV=2824/\b.v.d=⟨60000,60,0,-3,-4⟩/\b.v.r=⟨60480,200,0,-5,-6⟩/\b.v.cI=f:=by rw[E];exact zv
 obtain⟨ls,l1,l2,l3⟩:=h.eE;by_cases B:o=0
 . rw[if_pos (by rw[h.eN];exact B)]at C
   refine⟨_,C,?_,?_,?_⟩
   . show b.src.drop b.cM=t
     rw[y.1,y.2.1];exact U
   . show b.v.x.cu=_
     rw[F];show x'.cu=_;simpa using J
   . exact⟨by show eF.In _ b.v.x;rw[F];exact M,w.1,w.2.1,w.2.2.1,w.2.2.2.1,w.2.2.2.2.1,w.2.2.2.2.2.1,w.2.2.2.2.2.2.1,w.2.2.2.2.2.2.2.1,w.2.2.2.2.2.2.2.2,by show b.pf=pf;rw[y.2.2.1];exact h.Iu,y.2.2.2.2.2.1,y.2.2.2.2.2.2,by show b.dy=[];rw[y.2.2.2.2.1];exact h.dy,
      ⟨[],by show [b.v.cF]=[]++[24];rw[w.2.1];rfl,(fun a N=>by cases N),fun _ _=>rfl⟩,h.eN,fun e=>absurd B e,(fun _ _ _ e=>by cases e),h.eH,fun p l O=>H _ (h.tO p l O),fun _ _=>rfl,h.eb⟩
 . rw[if_neg (by rw[h.eN];exact B)]at C
   refine⟨_,C,?_,?_,?_⟩
   . show b.src.drop b.cM=t
     rw[y.1,y.2.1];exact U
   . show b.v.x.cu=_
     rw[F];show x'.cu=_;simpa using J
   . exact⟨by show eF.In _ b.v.x;rw[F];exact M,w.1,w.2.1,w.2.2.1,w.2.2.2.1,w.2.2.2.2.1,w.2.2.2.2.2.1,w.2.2.2.2.2.2.1,w.2.2.2.2.2.2.2.1,w.2.2.2.2.2.2.2.2,by show b.pf=pf;rw[y.2.2.1];exact h.Iu,y.2.2.2.2.2.1,y.2.2.2.2.2.2,by show b.dy=[];rw[y.2.2.2.2.1];exact h.dy,
      ⟨ls,by show b.eE=_;rw[y.2.2.2.1];exact l1,fun a N=>H _ (l2 a N),fun e=>absurd e B⟩,h.eN,fun e=>by rw[Y];exact h.dA e,(fun _ _ _ e=>by cases e),h.eH,fun p l O=>H _ (h.tO p l O),fun e=>absurd e B,h.eb⟩
theorem By(h:St pf D S o none f q)(g:o≠0){t:List UInt8}(u:gY q t) :
 ∃ (p:Q) (w:Wd) (ws:List Wd),D.ws=w :: ws/\Oo.iS q=(p,0)/\gY p t/\p.1.v.x.cu=q.1.v.x.cu/\St pf { D with ws:={ w with cP:=0 } :: ws } S 0 none f p:=by
 obtain⟨w,ws,i,z⟩:=h.dA g;obtain⟨m',j,k⟩:=h.fQ.mark i 0 (by decide) (by decide);have n:Oo.iK q=true:=by
  unfold Oo.iK;rw[h.eN,h.comp,decide_eq_true g];rfl
 obtain⟨b,c⟩:∃ b:Rd,b={ q.1 with v:=q.1.v.mem m' }:=⟨_,rfl⟩;have s:(q.1.mark q.2.dA 0).1=b:=by
  rw[c,z];show({ q.1 with v:=q.1.v.mem (q.1.v.x.mem.iZ w.cM 0).1 }:Rd)=_;rw[j]
 have y:Oo.iS q=(({ b with eE:=[q.1.v.cF] }.oB,{ q.2 with eN:=0,eH:=[] }),0):=by
  unfold Oo.iS;rw[if_neg (by rw[n];simp),h.eH];show(if(0:Int)≠0 then _ else _)=_;rw[if_neg (by simp),s]
 refine⟨_,w,ws,i,y,?_,?_,?_⟩
 . show b.src.drop b.cM=t
   rw[c];exact u
 . show b.v.x.cu=_
   rw[c];rfl
 . refine⟨by show eF.In _ b.v.x;rw[c];exact k,?_,?_,?_,?_,?_,?_,?_,?_,?_,?_,?_,?_,?_,⟨[],by show [q.1.v.cF]=[]++[24];rw[h.cF];rfl,(fun a l=>by cases l),fun _ _=>rfl⟩,rfl,fun e=>absurd rfl e,(fun _ _ _ e=>by cases e),rfl,h.tO,fun _ _=>rfl,h.eb⟩
   . show b.v.dD=16;rw[c];exact h.dD
   . show b.v.cF=24;rw[c];exact h.cF
   . show b.v.root=8;rw[c];exact h.root
   . show b.v.cy=9;rw[c];exact h.cy
   . show b.v.dL=false;rw[c];exact h.dL
   . show b.v.cV=2824;rw[c];exact h.cV
   . show b.v.d=_;rw[c];exact h.dd
   . show b.v.r=_;rw[c];exact h.rr
   . show b.v.cI=f;rw[c];exact h.cI
   . show b.pf=pf;rw[c];exact h.Iu
   . show b.comp=_;rw[c];exact h.comp
   . show b.eM=_;rw[c];exact h.eM
   . show b.dy=[];rw[c];exact h.dy
theorem IA(q:Q)(r b d:Rd)(c a:Int)(y:Sp)(w:Wd)(e:Oo.apart q=true)(g:Oo.cJ q.1=(r,c,0))(h:r.name.2.2=0)(i:Obj.dV r.next.v.x c=(y,a,0))(j:b={ r.next with v:={ r.next.v with x:=y } })(k:b.make r.next.v.cF r.dt 1003 0 [a]=(d,w,0)) :
 Oo.lN q=((d,q.2),0):=by
 unfold Oo.lN;rw[if_neg (by rw[e];simp),g,if_neg (by simp)];simp only;rw[if_neg (by rw[h];simp),i];simp only;rw[if_neg (by simp),<- j,k]
theorem IB(h:St pf D S 0 none f q){L nm t:List UInt8}{i:Nat}(E:pY D L i)(U:Src.d' nm=true)(N:nm.length<=31)(R:gY q (L++32 :: t)){G:List UInt8}(u:∃ n,Src.dA q.1.next.src q.1.next.cM=(nm,n)/\q.1.src.drop n=G)(hr:q.1.v.x.cu+100<=60000) :
 ∃ (p:Q) (w:Wd),Oo.lN q=(p,0)/\w.name=cG nm/\w.cP=0/\gY p G/\p.1.v.x.cu<=q.1.v.x.cu+80 /\
  St pf { D with ws:=w :: D.ws,fx:=(w.xt+8,q.1.v.x.cu) :: (w.xt,1003) :: (q.1.v.x.cu,dG D.A i) :: D.fx } S 0 none f p:=by
 have aa:Oo.apart q=true:=by
  unfold Oo.apart;rw[h.eN,h.comp];rfl
 have e1:=qB h E R;obtain⟨h1,h2,h3⟩:=h.skip R E.d';obtain⟨n,V,ad⟩:=u;have P:q.1.next.dt=nm:=by show(Src.dA q.1.next.src q.1.next.cM).1=nm;rw[V]
 have ae:=h.fQ.cu;obtain⟨y,g1,g2,g3⟩:=h.fQ.lN E.lt (by omega);obtain⟨j,T⟩:∃ j:Rd,j=q.1.next.next:=⟨_,rfl⟩;have Y:j={ q.1 with cM:=n }:=by
  rw[T];show({ q.1 with cM:=(Src.dA q.1.next.src q.1.next.cM).2 }:Rd)=_;rw[V]
 obtain⟨k,B⟩:∃ k:Rd,k={ j with v:={ j.v with x:=y } }:=⟨_,rfl⟩;have F:k.v.x=y:=by rw[B]
 obtain⟨x',w,X,m2,m3,m4,m5,g4⟩:=FJ k (by rw[F];exact g3) U N 1003 0 q.1.v.x.cu (by unfold dB;omega) (by decide) (by decide) (by unfold dB;omega) (by rw[F];omega);rw[F]at m4 m5;have ab:q.1.next.next.v.cF=24:=h.cF;obtain⟨c,C⟩:∃ c:Rd,c={ k with v:={ k.v with x:=x' },ea:=w }:=⟨_,rfl⟩;rw[<- C]at X;have hq:Oo.lN q=((c,q.2),0):=by
  refine IA q q.1.next k c (dG D.A i) q.1.v.x.cu y w aa e1 ?_ g1 (by rw[B,T]) ?_
  . rw[jZ P U N]
  . rw[P]
    exact(congrArg (fun z=>k.make z nm 1003 0 [q.1.v.x.cu]) ab).trans X
 have W:c.v.x=x':=by rw[C]
 have hb:c.v.x.cu<=q.1.v.x.cu+80:=by rw[W];omega
 have H:c.src=k.src/\c.cM=k.cM:=by rw[C];exact⟨rfl,rfl⟩
 have I:k.src=j.src/\k.cM=j.cM:=by rw[B];exact⟨rfl,rfl⟩
 have J:j.src=q.1.src/\j.cM=n:=by rw[Y];exact⟨rfl,rfl⟩
 have K:j.v=q.1.v/\j.pf=q.1.pf/\j.comp=q.1.comp/\j.eM=q.1.eM/\j.dy=q.1.dy/\j.eE=q.1.eE/\j.is=q.1.is:=by rw[Y];exact⟨rfl,rfl,rfl,rfl,rfl,rfl,rfl⟩
 refine⟨(c,q.2),w,hq,m2,m3,?_,hb,?_⟩
 . show c.src.drop c.cM=G
   rw[H.1,H.2,I.1,I.2,J.1,J.2];exact ad
 . obtain⟨ls,l1,l2,l3⟩:=h.eE
   have O:∀ z:Int × Int,z ∈ D.fx->z ∈ (w.xt+8,q.1.v.x.cu) :: (w.xt,(1003:Int)) :: (q.1.v.x.cu,dG D.A i) :: D.fx:=fun z hz=>List.mem_cons_of_mem _ (List.mem_cons_of_mem _ (List.mem_cons_of_mem _ hz));have s:∀ {α:Type} (g:VM->α),(∀ v x,g { v with x:=x }=g v)->g c.v=g q.1.v:=fun g M=>by
    have Z:g c.v=g k.v:=by rw[C];exact M k.v x'
    have a2:g k.v=g j.v:=by rw[B];exact M j.v y
    exact Z.trans (a2.trans (congrArg g K.1))
   have u:c.pf=q.1.pf/\c.comp=q.1.comp/\c.eM=q.1.eM/\c.dy=q.1.dy/\c.eE=q.1.eE/\c.is=q.1.is:=by
    have c1:c.pf=j.pf/\c.comp=j.comp/\c.eM=j.eM/\c.dy=j.dy/\c.eE=j.eE/\c.is=j.is:=by rw[C,B];exact⟨rfl,rfl,rfl,rfl,rfl,rfl⟩
    obtain⟨d0,d1,d2,d3,d4,d5,d6⟩:=K;rw[<- d1,<- d2,<- d3,<- d4,<- d5,<- d6];exact c1
   refine⟨by show eF.In _ c.v.x;rw[W];exact g4,(s VM.dD (fun _ _=>rfl)).trans h.dD,(s VM.cF (fun _ _=>rfl)).trans h.cF,(s VM.root (fun _ _=>rfl)).trans h.root,(s VM.cy (fun _ _=>rfl)).trans h.cy,(s VM.dL (fun _ _=>rfl)).trans h.dL,(s VM.cV (fun _ _=>rfl)).trans h.cV,(s VM.d (fun _ _=>rfl)).trans h.dd,(s VM.r (fun _ _=>rfl)).trans h.rr,(s VM.cI (fun _ _=>rfl)).trans h.cI,
    u.1.trans h.Iu,u.2.1.trans h.comp,u.2.2.1.trans h.eM,u.2.2.2.1.trans h.dy,⟨ls,u.2.2.2.2.1.trans l1,fun a ha=>O _ (l2 a ha),l3⟩,h.eN,fun e=>absurd rfl e,(fun _ _ _ e=>by cases e),h.eH,fun p l ac=>O _ (h.tO p l ac),fun a b=>u.2.2.2.2.2.trans (h.UA a b),h.eb⟩
end Fo
namespace Fo
variable {pf:List UInt8->Option Int} {D:eF} {S:List (List UInt8)} {o f:Int} {m:Option (Int × Int × Int)} {q:Q}
def fj(q p:Q):Prop:=∀ l R,fH (p,l) R->fH (q,l) R
theorem fj.trans{q p r:Q}(h:fj q p)(k:fj p r):fj q r:=fun l R a=>h l R (k l R a)
theorem ib(h:St pf D S o m f q)(j:0<f){s t:List UInt8}{p:Q}(g:gY q (s++32 :: t))(a:Src.d' s=true)(i:ig s (Oo.cH q) (p,0))(k:p.1.v.cI=f-1):fj q p:=by
 obtain⟨b,_,_⟩:=h.go g a;have d:s≠[]:=fun e=>by rw[e]at a;cases a
 have n:=h.cI;intro l R c;exact fH.ok q p l R h.dL (by rw[b];exact d) (by omega) (by rw[b];exact i) (by omega) c
theorem xW(h:St pf D S o m f q)(a:gY q [10])(l:Int):∃ p,fH (q,l) (p,l)/\St pf D S o m f p/\p.1.v.x.cu=q.1.v.x.cu:=by
 have b:Src.dA q.1.src q.1.cM=([],q.1.cM+1):=by
  have a:q.1.src.drop q.1.cM=[10]:=a;have e:Src.skip q.1.src q.1.cM=q.1.cM+1:=by unfold Src.skip;rw[a];rfl
  have d:q.1.src.drop (q.1.cM+1)=[]:=by rw[<- List.drop_drop,a];rfl
  have b:(q.1.src.drop (q.1.cM+1)).takeWhile (fun c=>!Src.blank c)=[]:=by rw[d];rfl
  unfold Src.dA;simp only;rw[e,b];simp only[List.length_nil,Nat.add_zero];rw[d,if_neg (by decide)]
 refine⟨(q.1.next,q.2),fH.done q l h.dL (by show(Src.dA q.1.src q.1.cM).1=[];rw[b]),?_⟩;have:q.1.next={ q.1 with cM:=q.1.cM+1 }:=by
  show({ q.1 with cM:=(Src.dA q.1.src q.1.cM).2 }:Rd)=_;rw[b]
 refine⟨?_,rfl⟩;rw[this];exact { h with }
def se:List UInt8:=[110,111,110,115,117,99,104,119,111,114,100]
def bZ(s:List UInt8):Bool:=!dE.fa s && decide (s≠se)
theorem sv{s:List UInt8}(h:bZ s=true):(!dE.fa s)=true:=by
 unfold bZ at h;rw[Bool.and_eq_true]at h;exact h.1
structure sK(pf:List UInt8->Option Int)(D:eF):Prop where
 tok:∀ s ∈ ([[108,105,116],[40,101,120,105,116,109,41],[40,115,117,112,101,114,41],[40,115,101,110,100,41],[40,99,97,108,108,41],[101,120,105,116],[40,99,97,117,103,104,116,41]]:List (List UInt8)),∃ k,pf s=some k/\dB k/\(k,num s) ∈ D.fx
 one:∃ w,Mem.dv D.ws [49,43]=some w/\w.cP % 2=0/\dB w.xt/\(w.xt,num [49,43]) ∈ D.fx
 Ms:∃ w,Mem.dv D.ws [99,97,116,99,104]=some w/\dB w.xt/\(w.xt,num [99,97,116,99,104]) ∈ D.fx
 zr:D.ws.all (fun w=>bZ w.name)=true
 Wh:∃ k,pf [40,99,97,117,103,104,116,41]=some k/\(2824,k) ∈ D.fx
structure Body where
 nm:List UInt8
 n:Int
 lP:Bool
def Body.dJ(b:Body):List UInt8:=if b.lP then [115,117,112,101,114]++32 :: (b.nm++32 :: ([49,43]++32 :: ([101,110,100,109]++[32])))else dE.gC b.n 10++32 :: ([101,110,100,109]++[32])
def Body.cells(pf:List UInt8->Option Int)(Xq:Int)(A:List Int)(L:List dr)(i:Nat)(n:Int)(b:Body):List Int :=
 if b.lP then [(pf [40,115,117,112,101,114,41]).getD 0,Class.iq A (Ref.get L i).cE,n,Xq,(pf [40,101,120,105,116,109,41]).getD 0]
 else [(pf [108,105,116]).getD 0,b.n,(pf [40,101,120,105,116,109,41]).getD 0]
theorem gS:∀ (l k:List Int) (D:eF) (a:Int),(D.fJ a l).fJ (a+8*(l.length:Int)) k=D.fJ a (l++k)
 | [],k,D,a=>by simp[eF.fJ]
 | n :: l,k,D,a=>by
  have:=gS l k { D with fx:=(a,n) :: D.fx } (a+8);rw[List.length_cons];rw[show a+8*((l.length+1:Nat):Int)=a+8+8*(l.length:Int) by omega]
  exact this
theorem Bz{s:List UInt8}(h:dE.fa s=true):gr s=none:=by
 have b:∀ nm:List UInt8,dE.fa nm=false->¬ s=nm:=fun nm a e=>by rw[<- e,h]at a;cases a
 unfold gr mY;repeat rw[if_neg (b _ (by decide))]
theorem sK.grow{D':eF}(h:sK pf D)(hf:∀ p ∈ D.fx,p ∈ D'.fx)(h1:Mem.dv D'.ws [49,43]=Mem.dv D.ws [49,43])(h2:Mem.dv D'.ws [99,97,116,99,104]=Mem.dv D.ws [99,97,116,99,104])(hn:D'.ws.all (fun w=>bZ w.name)=true):sK pf D':=by
 refine⟨fun s hs=>?_,?_,?_,hn,?_⟩
 . obtain⟨k,a,b,c⟩:=h.tok s hs
   exact⟨k,a,b,hf _ c⟩
 . obtain⟨w,a,b,c,d⟩:=h.one
   exact⟨w,by rw[h1];exact a,b,c,hf _ d⟩
 . obtain⟨w,a,b,c⟩:=h.Ms
   exact⟨w,by rw[h2];exact a,b,hf _ c⟩
 . obtain⟨k,a,b⟩:=h.Wh
   exact⟨k,a,hf _ b⟩
theorem sK.num(h:sK pf D):D.ws.all (fun w=>!dE.fa w.name)=true:=List.all_eq_true.2 fun w hw=>sv (List.all_eq_true.1 h.zr w hw)
theorem sK.put(h:sK pf D)(a:Int)(l:List Int):sK pf (D.fJ a l):=by
 obtain⟨_,_,_,b⟩:=eF.dO l D a;exact h.grow (eF.fI l D a) (by rw[b]) (by rw[b]) (by rw[b];exact h.zr)
theorem FM(hb:sK pf D){c s x:Int}(h:St pf D S o (some (c,s,x)) f q)(hf:10<f){i:Nat}(hi:i<D.L.length)(hc:c=dG D.A i)(b:Body)(hs1:Src.d' b.nm=true)(hl1:b.nm.length<=31)(Fq:dB b.n)(hsn:gu S b.nm=(S,s,0)){t:List UInt8}(hp:gY q (b.dJ++t))(hx:q.1.v.x.cu=x+8)
 (b1:dB s) (b2:dB x) (hs:Ref.set D.L i s x=(Ref.put D.L i s x,0)) (hr:q.1.v.x.cu+100<=60000) :
 ∃ (p:Q) (w1:Wd) (f':Int),Mem.dv D.ws [49,43]=some w1/\fj q p/\gY p t/\f-5<=f'/\p.1.v.x.cu<=q.1.v.x.cu+60/\St pf { D.fJ (x+8) (b.cells pf w1.xt D.A D.L i s)with L:=Ref.put D.L i s x } S o none f' p:=by
 obtain⟨w1,KI,Qz,QK,QL⟩:=hb.one;obtain⟨ke,Wl,Yf,_⟩:=hb.tok [40,101,120,105,116,109,41] (by simp)
 have hb2:dE.fa (dE.gC b.n 10)=true:=dE.nP b.n Fq.1 Fq.2
 cases hsup:b.lP with
 | true =>
  obtain⟨ks,Xv,Yh,_⟩:=hb.tok [40,115,117,112,101,114,41] (by simp)
  have ht:b.dJ++t=[115,117,112,101,114]++32 :: (b.nm++32 :: ([49,43]++32 :: ([101,110,100,109]++32 :: t))):=by
   unfold Body.dJ;rw[if_pos hsup];simp
  rw[ht]at hp;obtain⟨n1,h1,p1⟩:=h.go hp (by decide)
  obtain⟨q2,e2,p2,x2,h2⟩:=Mq h1 hi hc hs1 hl1 p1 hsn b1 Xv Yh (by show q.1.v.x.cu+24<=60000;omega)
  have r2:fj q q2:=ib h (by omega) hp (by decide) (by have:=ig.obj (s:=[115,117,112,101,114]) (q:=Oo.cH q) 170 (by decide +kernel) (by simp);rw[<- e2];exact this) h2.cI
  have x2:q2.1.v.x.cu=q.1.v.x.cu+24:=x2;have g2:(Oo.cH q).1.v.x.cu=x+8:=hx;rw[g2]at h2;obtain⟨s1,s2,s3,s4⟩:=eF.dO [ks,Class.iq D.A (Ref.get D.L i).cE,s] D (x+8);have bb2:=hb.put (x+8) [ks,Class.iq D.A (Ref.get D.L i).cE,s];obtain⟨n3,h3,p3⟩:=h2.go p2 (by decide)
  obtain⟨q4,e4,p4,x4,h4⟩:=PK h3 rfl (s:=[49,43]) p3 (by decide +kernel) (by decide +kernel) (w:=w1) (by rw[s4];exact KI) Qz (eF.fI _ D (x+8) _ QL) (by decide +kernel) QK (by show q2.1.v.x.cu+8<=60000;omega)
  have r4:fj q2 q4:=ib h2 (by omega) p2 (by decide) e4 h4.cI
  have x4:q4.1.v.x.cu=q2.1.v.x.cu+8:=x4;have g4:(Oo.cH q2).1.v.x.cu=x+8+8*(([ks,Class.iq D.A (Ref.get D.L i).cE,s].length:Nat):Int):=by show q2.1.v.x.cu=_;simp only[List.length_cons,List.length_nil];omega
  rw[g4,gS]at h4;obtain⟨s1,s2,s3,s4⟩:=eF.dO ([ks,Class.iq D.A (Ref.get D.L i).cE,s]++[w1.xt]) D (x+8);obtain⟨n5,h5,p5⟩:=h4.go p4 (by decide)
  obtain⟨q6,e6,p6,x6,h6⟩:=FK h5 (by rw[s3];exact hi) (by rw[s1];exact hc) p5 b1 b2 (by rw[s3];exact hs) Wl Yf (by show q4.1.v.x.cu+8<=60000;omega)
  have r6:fj q4 q6:=ib h4 (by omega) p4 (by decide) (by have:=ig.obj (s:=[101,110,100,109]) (q:=Oo.cH q4) 165 (by decide +kernel) (by simp);rw[<- e6];exact this) h6.cI
  have x6:q6.1.v.x.cu=q4.1.v.x.cu+8:=x6;have g6:(Oo.cH q4).1.v.x.cu=x+8+8*((([ks,Class.iq D.A (Ref.get D.L i).cE,s]++[w1.xt]).length:Nat):Int):=by show q4.1.v.x.cu=_;simp only[List.length_append,List.length_cons,List.length_nil];omega
  rw[g6,gS,s3]at h6
  have hcl:b.cells pf w1.xt D.A D.L i s=[ks,Class.iq D.A (Ref.get D.L i).cE,s]++[w1.xt]++[ke]:=by
   unfold Body.cells;rw[if_pos hsup,Xv,Wl];rfl
  refine⟨q6,w1,f-1-1-1,KI,(r2.trans r4).trans r6,p6,by omega,by omega,?_⟩
  rw[hcl];exact h6
 | false =>
  obtain⟨kl,Xr,Yg,_⟩:=hb.tok [108,105,116] (by simp)
  have ht:b.dJ++t=dE.gC b.n 10++32 :: ([101,110,100,109]++32 :: t):=by
   unfold Body.dJ;rw[if_neg (by rw[hsup];simp)]
   simp
  rw[ht]at hp;have Ie:=mC hb2;obtain⟨n1,h1,p1⟩:=h.go hp Ie;obtain⟨q2,e2,p2,x2,h2⟩:=Sn h1 rfl p1 b.n Fq (Bz hb2) hb.num Xr Yg (by show q.1.v.x.cu+16<=60000;omega)
  have r2:fj q q2:=ib h (by omega) hp Ie e2 h2.cI
  have x2:q2.1.v.x.cu=q.1.v.x.cu+16:=x2;have g2:(Oo.cH q).1.v.x.cu=x+8:=hx;rw[g2]at h2;obtain⟨s1,s2,s3,s4⟩:=eF.dO [kl,b.n] D (x+8);obtain⟨n5,h5,p5⟩:=h2.go p2 (by decide)
  obtain⟨q6,e6,p6,x6,h6⟩:=FK h5 (by rw[s3];exact hi) (by rw[s1];exact hc) p5 b1 b2 (by rw[s3];exact hs) Wl Yf (by show q2.1.v.x.cu+8<=60000;omega)
  have r6:fj q2 q6:=ib h2 (by omega) p2 (by decide) (by have:=ig.obj (s:=[101,110,100,109]) (q:=Oo.cH q2) 165 (by decide +kernel) (by simp);rw[<- e6];exact this) h6.cI
  have x6:q6.1.v.x.cu=q2.1.v.x.cu+8:=x6;have g6:(Oo.cH q2).1.v.x.cu=x+8+8*(([kl,b.n].length:Nat):Int):=by show q2.1.v.x.cu=_;simp only[List.length_cons,List.length_nil];omega
  rw[g6,gS,s3]at h6
  have hcl:b.cells pf w1.xt D.A D.L i s=[kl,b.n]++[ke]:=by
   unfold Body.cells;rw[if_neg (by rw[hsup];simp),Xr,Wl]
   rfl
  refine⟨q6,w1,f-1-1,KI,r2.trans r6,p6,by omega,by omega,?_⟩
  rw[hcl];exact h6
end Fo
namespace Fo
def dg(n:Nat):List UInt8:=dE.gC n 10
def dz(s:Nat):List UInt8:=109 :: dg s
def eS(i:Nat):List UInt8:=107 :: dg i
def gi(i:Nat):List UInt8:=111 :: eS i
theorem Mt(n:Nat)(h:n<=65535):dE.fa (dg n)=true:=dE.nP n (by omega) (by omega)
theorem Mu{a b:Nat}(f:a<=65535)(g:b<=65535)(e:dg a=dg b):a=b:=by
 have c:=dE.qq a (by omega) (by omega);have d:=dE.qq b (by omega) (by omega);have e:dE.gC (a:Int) 10=dE.gC (b:Int) 10:=e;rw[e,d]at c;injection c with c _;omega
theorem mX(b:Nat):∀ (k n:Nat),n<b ^ k->2<=b->∀ j,k<=j->(dE.eo b j n).length<=max k 1
 | k,n,hn,hb,0,_=>by simp[dE.eo]
 | 0,n,hn,hb,j+1,_=>by
  have:n=0:=by simpa using hn
  subst this;unfold dE.eo;simp
 | k+1,n,hn,hb,j+1,hj=>by
  unfold dE.eo;by_cases h0:n / b=0
  . rw[if_pos h0];simp
  . rw[if_neg h0,List.length_cons]
    have hlt:n / b<b ^ k:=by
     rw[Nat.pow_succ]at hn;exact Nat.div_lt_of_lt_mul (by rw[Nat.mul_comm];exact hn)
    have:=mX b k (n / b) hlt hb j (by omega)
    have hk:k≠0:=by
     rintro rfl;simp at hlt
     exact h0 (Nat.div_eq_of_lt (by omega))
    omega
theorem jw(n:Nat)(h:n<=65535):1<=(dg n).length/\(dg n).length<=5:=by
 have e:dg n=(dE.eo 10 64 n).reverse:=by
  have:=dE.rA n (by omega) (by omega);simpa[dg] using this
 rw[e,List.length_reverse];refine⟨?_,mX 10 5 n (by omega) (by decide) 64 (by decide)⟩;unfold dE.eo;simp
theorem qC{c:UInt8}{s:List UInt8}(a:Src.blank c=false)(h:Src.d' s=true):Src.d' (c :: s)=true:=by
 unfold Src.d' at h |-;simp only[Bool.and_eq_true,List.all_cons]at h |-;exact⟨rfl,by rw[a];rfl,h.2⟩
theorem qD(c:UInt8)(s:List UInt8):cG (c :: s)=mw c :: cG s:=rfl
theorem hU(s:Nat)(h:s<=65535):Src.d' (dz s)=true/\(dz s).length<=31/\cG (dz s)=dz s/\dz s≠[]:=by
 have a:=Mt s h;have b:=jw s h;refine⟨qC (by decide) (mC a),by unfold dz;rw[List.length_cons];omega,?_,fun e=>by cases e⟩;unfold dz;rw[qD,mD a];rfl
theorem nh(i:Nat)(h:i<=65535):Src.d' (eS i)=true/\(eS i).length<=20/\cG (eS i)=eS i:=by
 have a:=Mt i h;have b:=jw i h;refine⟨qC (by decide) (mC a),by unfold eS;rw[List.length_cons];omega,?_⟩;unfold eS;rw[qD,mD a];rfl
theorem oZ(i:Nat)(h:i<=65535):Src.d' (gi i)=true/\(gi i).length<=31/\cG (gi i)=gi i:=by
 have a:=nh i h;refine⟨qC (by decide) a.1,by unfold gi;rw[List.length_cons];omega,?_⟩;unfold gi;rw[qD,a.2.2];rfl
theorem xX{a b:Nat}(c:a<=65535)(d:b<=65535)(e:dz a=dz b):a=b:=Mu c d (by injection e)
theorem xY{a b:Nat}(c:a<=65535)(d:b<=65535)(e:eS a=eS b):a=b:=Mu c d (by injection e)
theorem IC{a b:Nat}(c:a<=65535)(d:b<=65535)(e:gi a=gi b):a=b:=xY c d (by injection e)
theorem o'(a b:Nat):eS a≠gi b:=fun e=>by injection e with e _;cases e
theorem vK(c:UInt8)(s:List UInt8)(h:c≠45)(a:dE.kC c=false):dE.fa (c :: s)=false:=by
 unfold dE.fa;split
 . rename_i e;injection e with e _;exact absurd e h
 . simp[a]
theorem gv(i:Nat):bZ (eS i)=true:=by
 unfold bZ;rw[show dE.fa (eS i)=false from vK _ _ (by decide) (by decide)]
 rw[Bool.not_false,Bool.true_and];exact decide_eq_true (p:=eS i≠se) (fun e=>absurd (congrArg List.head? e) (by show ¬ (some (107:UInt8)=some 110);decide))
theorem sx(i:Nat):bZ (gi i)=true:=by
 unfold bZ;rw[show dE.fa (gi i)=false from vK _ _ (by decide) (by decide)]
 rw[Bool.not_false,Bool.true_and];exact decide_eq_true (p:=gi i≠se) (fun e=>absurd (congrArg List.head? e) (by show ¬ (some (111:UInt8)=some 110);decide))
def sg(S:List (List UInt8))(s:Int):Int:=fi S (dz (s-1).toNat)
structure BA(S:List (List UInt8)):Prop where
 nd:S.Nodup
 BC:∀ s ∈ S,∃ k,k<5/\s=dz k
theorem BA.len{S:List (List UInt8)}(h:BA S):S.length<=5:=by
 have l:∀ {a b:List (List UInt8)},a.Nodup->(∀ s ∈ a,s ∈ b)->a.length<=b.length:=by
  intro a;induction a with
  | nil=>intro b _ _;simp
  | cons x a j =>
   intro b d c;rw[List.nodup_cons]at d;have g:=c x (by simp);have:=j (b:=b.erase x) d.2 (fun s f=>(List.mem_erase_of_ne (fun e=>d.1 (by rw[<- e];exact f))).2 (c s (by simp[f])));rw[List.length_erase_of_mem g]at this;have:0<b.length:=List.length_pos_of_mem g;simp only[List.length_cons];omega
 have:=l (b:=[dz 0,dz 1,dz 2,dz 3,dz 4]) h.nd (fun s c=>by
  obtain⟨k,i,rfl⟩:=h.BC s c;match k,i with
  | 0,_=>simp
  | 1,_=>simp
  | 2,_=>simp
  | 3,_=>simp
  | 4,_=>simp)
 simpa using this
theorem lR{S:List (List UInt8)}{s:List UInt8}(a:cG s=s)(h:s ∈ S):fi S s=(S.idxOf s+1:Nat):=by
 unfold fi;rw[a,if_pos h]
theorem BD{S:List (List UInt8)}{a b:List UInt8}(h:cG a=a)(i:cG b=b)(c:a ∈ S)(d:b ∈ S)(e:fi S a=fi S b):a=b:=by
 rw[lR h c,lR i d]at e;have e:S.idxOf a=S.idxOf b:=by omega
 have f:=List.getElem_idxOf (List.idxOf_lt_length_iff.2 c);have g:=List.getElem_idxOf (List.idxOf_lt_length_iff.2 d);rw[<- f,<- g];simp only[e]
theorem BE{S T:List (List UInt8)}{s:List UInt8}(a:cG s=s)(h:s ∈ S):fi (S++T) s=fi S s:=by
 rw[lR a h,lR a (by simp[h]),List.idxOf_append,if_pos h]
theorem nX{S:List (List UInt8)}(h:BA S)(k:Nat)(t:k<5):∃ d n,gu S (dz k)=(d,n,0)/\BA d/\dz k ∈ d/\n=fi d (dz k)/\gu d (dz k)=(d,n,0)/\1<=n/\n<=5/\(∀ s ∈ S,s ∈ d/\fi d s=fi S s):=by
 obtain⟨A,B,l,v⟩:=hU k (by omega);have q:∀ s ∈ S,cG s=s:=fun s c=>by
  obtain⟨j,y,rfl⟩:=h.BC s c;exact(hU j (by omega)).2.2.1
 have z:=h.len;by_cases f:dz k ∈ S
 . have x:=List.idxOf_lt_length_iff.2 f
   have g:=lR l f;have i:gu S (dz k)=(S,fi S (dz k),0):=by
    unfold gu;rw[if_pos (by omega)]
   exact⟨S,_,i,h,f,rfl,i,by omega,by omega,fun s c=>⟨c,rfl⟩⟩
 . have w:fi S (dz k)=0:=by
    unfold fi;rw[l,if_neg f]
   have i:gu S (dz k)=(S++[dz k],((S.length+1:Nat):Int),0):=by
    unfold gu;rw[if_neg (by omega),if_neg (by intro e;rcases e with e | e;exact v e;omega),if_neg (by omega),l]
   have m:dz k ∈ S++[dz k]:=by simp
   have g:fi (S++[dz k]) (dz k)=(S.length+1:Nat):=by
    rw[lR l m,List.idxOf_append,if_neg f];simp
   have o:BA (S++[dz k]):=by
    refine⟨?_,fun s c=>?_⟩
    . rw[List.nodup_append]
      exact⟨h.nd,by simp,fun a p b r e=>by
       have:b=dz k:=by simpa using r
       exact f (by rw[<- this,<- e];exact p)⟩
    . rcases List.mem_append.1 c with c | c
      . exact h.BC s c
      . exact⟨k,t,by simpa using c⟩
   have u:=o.len;simp only[List.length_append,List.length_cons,List.length_nil]at u;refine⟨_,_,i,o,m,g.symm,?_,by omega,by omega,fun s c=>⟨by simp[c],BE (q s c) c⟩⟩;unfold gu;rw[if_pos (by rw[g];omega),g]
theorem PL{l:List (Int × Int)}{s x:Int}(h:Ref.own l s=some x):(s,x) ∈ l:=by
 induction l with
 | nil=>cases h
 | cons p l a =>
  unfold Ref.own at h;split at h
  . rename_i e
    injection h with h;subst e h;simp
  . simp[a h]
theorem pa(L:List dr)(h:Ref.Ok L)(s:Int)(c:Int)(f : -1<=c)(i:c<L.length):∀ p,Ref.dH L c s=some p->0<=p.2/\p.2<=c/\(s,p.1) ∈ (Ref.get L p.2).own:=by
 refine Ref.xd L h (P:=fun c=>∀ p,Ref.dH L c s=some p->0<=p.2/\p.2<=c/\(s,p.1) ∈ (Ref.get L p.2).own) ?_ ?_ c f i
 . intro p a
   rw[Ref.gD L (-1) s (by omega)]at a;cases a
 . intro k b j p a
   rw[Ref.lu L h k s b]at a;cases d:Ref.own (Ref.get L k).own s with
   | some x =>
    rw[d]at a;simp only at a;injection a with a;subst a;exact⟨by simp only;omega,by simp only;omega,PL d⟩
   | none =>
    rw[d]at a;simp only at a;have e:=j p a;have g:=h k b;rw[<- Ref.get_at L k b]at g;exact⟨e.1,by omega,e.2.2⟩
theorem vL(L:List dr)(h:Ref.Ok L)(e:∀ i:Nat,i<L.length->(Ref.get L i).cy=9)(n:∀ i:Nat,i<L.length->∀ p ∈ (Ref.get L i).own,1<=p.1/\p.1<=5)(c:Nat)(f xt:Int)(q:1<=f):Ref.set L c f xt=(Ref.put L c f xt,0):=by
 unfold Ref.set;rw[if_neg (by omega),if_neg];rw[List.any_eq_true];rintro⟨i,k,d⟩;rw[List.mem_range]at k;unfold Ref.oF at d;simp only[Bool.and_eq_true,decide_eq_true_eq]at d;have j:Ref.seen L i<=5:=by
  have g:=Ref.uB L h i (by omega) (by omega) [] (by simp)
  have l:=Ref.qP (b:=[1,2,3,4,5]) g.1 (fun s e=>by
   rcases (g.2 s).1 e with a | a
   . cases a
   . obtain⟨p,o⟩:=Option.isSome_iff_exists.1 a
     have j:=pa L h s i (by omega) (by omega) p o;have m:=n p.2.toNat (by omega) (s,p.1) (by rw[show((p.2.toNat:Nat):Int)=p.2 by omega];exact j.2.2);simp only at m;have:s=1\/s=2\/s=3\/s=4\/s=5:=by omega
     simpa using this)
  exact l
 rw[e i k]at d;omega
end Fo
namespace Fo
structure Act where
 kind:Nat
 p:Nat
 c:Nat
 cZ:Nat
 n:Nat
 lP:Bool
namespace Act
def body(a:Act):Body:=⟨dz (a.cZ % 5),a.n,a.lP⟩
def lS(a:Act)(n:Nat):Bool:=decide (a.kind % 3=0) || decide (n=0)
def cg(a:Act)(n:Nat):Option Nat:=if a.p<n then some a.p else none
def ml(a:Act)(n:Nat):List UInt8:=match a.cg n with | some i=>eS i | none=>[45]
def s1(a:Act):Int:=((a.cZ % 5:Nat):Int)+1
def pH(a:Act)(n:Nat):List UInt8:=[99,108,97,115,115]++32 :: (eS n++32 :: (a.ml n++32 :: ([109,101,116,104,111,100]++32 :: (dz (a.cZ % 5)++32 :: (a.body.dJ++([101,110,100,99,108,97,115,115]++32 :: ([111,98,106,101,99,116]++32 :: (eS n++32 :: (gi n++[10])))))))))
def nZ(a:Act)(n:Nat):List UInt8:=[114,101,100,101,102,105,110,101]++32 :: (eS (a.c % n)++32 :: (dz (a.cZ % 5)++32 :: (a.body.dJ++[10])))
def dJ(a:Act)(n:Nat):List UInt8:=if a.lS n then a.pH n else a.nZ n
end Act
def grow(TL:List dr)(j:Nat)(a:Act):List dr :=
 if a.lS TL.length then TL++[⟨Class.cU (a.cg TL.length),0,9,[(a.s1,(j:Int))]⟩] else Ref.put TL (a.c % TL.length) a.s1 j
structure Code(pf:List UInt8->Option Int)(D:eF)(S:List (List UInt8))(x1:Int)(i:Nat)(a:Act)(xt:Int):Prop where
 head:(xt,1004) ∈ D.fx
 cells:∀ (j:Nat) (hj:j<(a.body.cells pf x1 D.A D.L i (sg S a.s1)).length),(xt+8+8*(j:Int),(a.body.cells pf x1 D.A D.L i (sg S a.s1))[j]) ∈ D.fx
theorem Code.grow{pf:List UInt8->Option Int}{D b:eF}{S c:List (List UInt8)}{x1:Int}{i:Nat}{a:Act}{xt:Int}(h:Code pf D S x1 i a xt)(d:∀ p ∈ D.fx,p ∈ b.fx)(f:Class.iq b.A (Ref.get b.L i).cE=Class.iq D.A (Ref.get D.L i).cE)(g:sg c a.s1=sg S a.s1):Code pf b c x1 i a xt:=by
 have e:a.body.cells pf x1 b.A b.L i (sg c a.s1)=a.body.cells pf x1 D.A D.L i (sg S a.s1):=by unfold Body.cells;rw[f,g]
 refine⟨d _ h.head,?_⟩;rw[e];exact fun j k=>d _ (h.cells j k)
def Vh(D:eF)(i:Nat):Prop:=∃ (w:Wd) (a:Int),Mem.dv D.ws (gi i)=some w/\w.cP=0/\dB w.xt/\(w.xt,1003) ∈ D.fx/\(w.xt+8,a) ∈ D.fx/\(a,dG D.A i) ∈ D.fx
structure ou(pf:List UInt8->Option Int)(dM:List Act)(TL:List dr)(D:eF)(S:List (List UInt8))(τ:Nat->Int)(x1:Int):Prop where
 dD:sK pf D
 one:∃ w,Mem.dv D.ws [49,43]=some w/\w.xt=x1
 eb:BA S
 len:D.L.length=TL.length
 cg:∀ i:Nat,i<TL.length->(Ref.get D.L i).cE=(Ref.get TL i).cE
 cy:∀ i:Nat,i<TL.length->(Ref.get TL i).cy=9
 own:∀ i:Nat,i<TL.length->(Ref.get D.L i).own=(Ref.get TL i).own.map fun p=>(sg S p.1,τ p.2.toNat)
 Jk:∀ i:Nat,i<TL.length->∀ p ∈ (Ref.get TL i).own,∃ (j:Nat) (a:Act),p.2=(j:Int)/\dM[j]?=some a/\p.1=a.s1/\dz (a.cZ % 5) ∈ S/\Code pf D S x1 i a (τ j)
 kn:∀ i:Nat,i<TL.length->pY D (eS i) i
 ob:∀ i:Nat,i<TL.length->Vh D i
theorem mq(S:List (List UInt8))(a:Act):sg S a.s1=fi S (dz (a.cZ % 5)):=by
 unfold sg Act.s1;rw[show(((a.cZ % 5:Nat):Int)+1-1).toNat=a.cZ % 5 by omega]
theorem eZ(w:Wd)(ws:List Wd)(s:List UInt8)(h:w.name≠s):Mem.dv (w :: ws) s=Mem.dv ws s:=by
 unfold Mem.dv;rw[List.find?_cons,decide_eq_false h];rfl
theorem ji(w:Wd)(ws:List Wd)(h:w.cP % 4<2):Mem.dv (w :: ws) w.name=some w:=by
 unfold Mem.dv;rw[List.find?_cons,decide_eq_true rfl,decide_eq_true h];rfl
theorem PO{S:List (List UInt8)}(h:BA S){k:Nat}(a:dz k ∈ S):1<=fi S (dz k)/\fi S (dz k)<=5:=by
 obtain⟨j,f,e⟩:=h.BC _ a;have b:cG (dz k)=dz k:=by rw[e];exact(hU j (by omega)).2.2.1
 have:=lR b a;have c:=List.idxOf_lt_length_iff.2 a;have d:=h.len;omega
section
variable {pf:List UInt8->Option Int} {dM:List Act} {TL:List dr} {D:eF} {S:List (List UInt8)} {τ:Nat->Int} {x1:Int}
theorem ou.BC(h:ou pf dM TL D S τ x1)(i:Nat)(b:i<D.L.length):∀ p ∈ (Ref.get D.L i).own,1<=p.1/\p.1<=5:=by
 intro p c;rw[h.len]at b;rw[h.own i b]at c;obtain⟨u,f,rfl⟩:=List.mem_map.1 c;obtain⟨j,a,_,_,e,d,_⟩:=h.Jk i b u f;simp only;rw[e,mq];exact PO h.eb d
theorem ou.FN(h:ou pf dM TL D S τ x1){x:Sp}(b:D.In x):Ref.Ok TL:=by
 intro i a;have:=b.iE.uD i (by rw[h.len];exact a);rw[<- Ref.get_at D.L i (by rw[h.len];exact a),h.cg i a,Ref.get_at TL i a]at this;exact this
theorem ou.Vi(h:ou pf dM TL D S τ x1)(a:Act):Vg D (a.ml TL.length) (a.cg TL.length)/\∀ j,a.cg TL.length=some j->j<D.L.length:=by
 unfold Act.ml;cases b:a.cg TL.length with
 | none=>exact⟨rfl,fun j e=>by cases e⟩
 | some i =>
  have c:i<TL.length:=by
   unfold Act.cg at b;split at b
   . rename_i e;injection b with b;omega
   . cases b
  exact⟨⟨h.kn i c,fun e=>by cases e⟩,fun j e=>by injection e with e;rw[h.len];omega⟩
end
end Fo
namespace Fo
variable {pf:List UInt8->Option Int} {dM:List Act} {TL:List dr} {D:eF} {S:List (List UInt8)} {τ:Nat->Int} {x1:Int} {q:Q} {f:Int}
theorem FO(L:List dr)(k:Option Nat)(s:Int):(Ref.get (Ref.new L (Class.cU k) s) L.length).own=[]:=by
 rw[Class.mN,Ref.jI]
theorem FQ(L:List dr)(k:Option Nat)(s:Int)(i:Nat)(a:i<L.length):Ref.get (Ref.new L (Class.cU k) s) i=Ref.get L i:=by
 rw[Class.mN,Ref.mL L _ i a]
theorem FR(L:List dr)(k:Option Nat)(s:Int):(Ref.get (Ref.new L (Class.cU k) s) L.length).cE=Class.cU k:=by
 rw[Class.mN,Ref.jI]
theorem rL(L:List dr)(k:Option Nat)(s:Int):(Ref.new L (Class.cU k) s).length=L.length+1:=by
 rw[Class.mN];simp
theorem kP{D:eF}{o:Int}{m:Option (Int × Int × Int)}(h:St pf D S o m f q):32<=q.1.v.x.cu/\q.1.v.x.cu<=60000:=by
 have b:=h.fQ.cu;have a:=h.fQ.al.ok;have c:=h.fQ.xQ;unfold Sp.Ok at a;omega
theorem Mw(hR:ou pf dM TL D S τ x1)(h:St pf D S 0 none f q)(a:Act)(ha:a.n<=65535)(hn:TL.length<=60)(hp:gY q (a.pH TL.length))(hf:100<f)(hr:q.1.v.x.cu+700<=60000) :
 ∃ (p:Q) (S':List (List UInt8)) (sn xt ca la cM f':Int) (w w5:Wd),fH (q,0) (p,0)/\f-20<=f'/\p.1.v.x.cu<=q.1.v.x.cu+700/\gu S (dz (a.cZ % 5))=(S',sn,0)/\dB xt/\w.name=eS TL.length/\w5.name=gi TL.length/\w5.cP=0/\dB w5.xt /\
  ∃ (T':List Int) (F:List (Int × Int)),
  St pf ⟨D.A++[ca],T',Ref.put (Ref.new D.L (Class.cU (a.cg TL.length)) 9) TL.length sn xt,w5 :: { w with cP:=0 } :: D.ws,F⟩ S' 0 none f' p /\
  (∀ z ∈ D.fx,z ∈ F)/\(w.xt,1003) ∈ F/\(w.xt+8,ca) ∈ F/\(w5.xt,1003) ∈ F/\(w5.xt+8,cM) ∈ F/\(cM,ca) ∈ F/\(xt,1004) ∈ F /\
  ∀ (j:Nat) (hj:j<(a.body.cells pf x1 (D.A++[ca]) (Ref.new D.L (Class.cU (a.cg TL.length)) 9) TL.length sn).length),(xt+8+8*(j:Int),(a.body.cells pf x1 (D.A++[ca]) (Ref.new D.L (Class.cU (a.cg TL.length)) 9) TL.length sn)[j]) ∈ F:=by
 obtain⟨KL,Xd,M'⟩:=nh TL.length (by omega)
 obtain⟨Na,QO,QQ⟩:=oZ TL.length (by omega)
 obtain⟨Nb,Nc,Xo,Xp⟩:=hU (a.cZ % 5) (by omega)
 obtain⟨hpar,Ig⟩:=hR.Vi a;have hh:=kP h
 -- class
 unfold Act.pH at hp;obtain⟨_,g1,p1⟩:=h.go hp (by decide)
 obtain⟨q1,w,la,e1,w1,w2,p2,x2,h2⟩:=Mp g1 KL (by omega) hpar Ig p1 (by show q.1.v.x.cu+400<=60000;omega)
 have x2:q1.1.v.x.cu<=q.1.v.x.cu+400:=x2;obtain⟨ca,hca⟩:∃ ca,ca=(Oo.cH q).1.v.x.cu+232:=⟨_,rfl⟩;have QV:ca=q.1.v.x.cu+232:=hca;rw[<- hca]at h2;obtain⟨D1,hD1⟩:∃ D1:eF,D1=⟨D.A++[ca],D.T++[(Oo.cH q).1.v.x.cu],Ref.new D.L (Class.cU (a.cg TL.length)) 9,w :: D.ws,(la,0) :: (w.xt+8,ca) :: (w.xt,1003) :: D.fx⟩:=⟨_,rfl⟩;rw[<- hD1]at h2;have KM:D1.A=D.A++[ca]:=by rw[hD1]
 have I8:D1.L=Ref.new D.L (Class.cU (a.cg TL.length)) 9:=by rw[hD1]
 have Ih:D1.ws=w :: D.ws:=by rw[hD1]
 have Nf:D1.fx=(la,0) :: (w.xt+8,ca) :: (w.xt,1003) :: D.fx:=by rw[hD1]
 have NN:D1.L.length=TL.length+1:=by rw[I8,rL,hR.len]
 have r1:fj q q1:=ib h (by omega) hp (by decide) (by have:=ig.obj (s:=[99,108,97,115,115]) (q:=Oo.cH q) 160 (by decide +kernel) (by simp);rw[<- e1];exact this) h2.cI
 have wn:w.name=eS TL.length:=by rw[w1,M']
 have Yc:=kP h2
 -- method
 obtain⟨S',sn,s1,s2,s3,s4,s5,s6,s7,s8⟩:=nX hR.eb (a.cZ % 5) (by omega)
 obtain⟨_,g3,p3⟩:=h2.go p2 (by decide)
 obtain⟨q3,e3,p4,x4,h4⟩:=Iy g3 (by omega) Nb Nc p3 s1 (by show q1.1.v.x.cu+8<=60000;omega)
 have x4:q3.1.v.x.cu=q1.1.v.x.cu+8:=x4;have r3:fj q1 q3:=ib h2 (by omega) p2 (by decide) (by have:=ig.obj (s:=[109,101,116,104,111,100]) (q:=Oo.cH q1) 163 (by decide +kernel) (by simp);rw[<- e3];exact this) h4.cI
 obtain⟨xt,hxt⟩:∃ xt,xt=(Oo.cH q1).1.v.x.cu:=⟨_,rfl⟩;have QW:xt=q1.1.v.x.cu:=hxt;rw[<- hxt]at h4;obtain⟨u1,u2,u3,u4⟩:=eF.dO [1004] D1 xt;have uo:=eF.fI [1004] D1 xt;have un:(xt,(1004:Int)) ∈ (D1.fJ xt [1004]).fx:=by have:=eF.lQ [1004] D1 xt 0 (by simp);simpa using this
 generalize D1.fJ xt [1004]=D2 at h4 u1 u2 u3 u4 uo un
 -- its body
 have hb1:sK pf D1:=by
  refine hR.dD.grow (fun z hz=>by rw[Nf];simp[hz]) ?_ ?_ ?_
  . rw[Ih,eZ _ _ _ (by rw[wn];exact fun e=>by cases e)]
  . rw[Ih,eZ _ _ _ (by rw[wn];exact fun e=>by cases e)]
  . rw[Ih,List.all_cons,hR.dD.zr,wn,gv]
    rfl
 have hb2:sK pf D2:=hb1.grow uo (by rw[u4]) (by rw[u4]) (by rw[u4];exact hb1.zr)
 have hi:TL.length<D2.L.length:=by rw[u3,NN];omega
 have hcA:ca=dG D2.A TL.length:=by
  rw[u1,KM,<- hR.len,<- h.fQ.iE.nA];exact(Class.ly _ _).symm
 have hset:Ref.set D2.L TL.length sn xt=(Ref.put D2.L TL.length sn xt,0):=by
  refine vL D2.L h4.fQ.iE.uD (fun i hi=>(h4.fQ.sl i hi).1) (fun i hi p hp=>?_) _ _ _ s6
  rw[u3]at hi hp;rw[NN]at hi;rw[I8]at hp;by_cases hi':i<TL.length
  . rw[FQ D.L _ _ i (by rw[hR.len];exact hi')]at hp
    exact hR.BC i (by rw[hR.len];exact hi') p hp
  . have:i=TL.length:=by omega
    subst this;rw[<- hR.len,FO]at hp
    cases hp
 obtain⟨q5,w1',f5,o1,r5,p6,x6,x7,h6⟩:=FM hb2 h4 (by omega) hi hcA a.body Nb Nc (by unfold dB;show _<=(a.n:Int)/\(a.n:Int)<=_;omega) s5 p4 (by omega) (by unfold dB;omega) (by unfold dB;omega) hset (by omega)
 have hw1:w1'.xt=x1:=by
  obtain⟨wo,Xx,Yi⟩:=hR.one;rw[u4,Ih,eZ _ _ _ (by rw[wn];exact fun e=>by cases e),Xx]at o1
  injection o1 with o1
  rw[<- o1];exact Yi
 rw[hw1]at h6;obtain⟨cl,hcl⟩:∃ cl,cl=a.body.cells pf x1 D2.A D2.L TL.length sn:=⟨_,rfl⟩;rw[<- hcl]at h6;obtain⟨v1,v2,v3,v4⟩:=eF.dO cl D2 (xt+8);have vo:=eF.fI cl D2 (xt+8);have vn:=eF.lQ cl D2 (xt+8);generalize D2.fJ (xt+8) cl=D3 at h6 v1 v2 v3 v4 vo vn
 -- endclass
 obtain⟨_,g7,p7⟩:=h6.go p6 (by decide)
 obtain⟨q7,w7,NQ,z1,e7,p8,x8,h8⟩:=By g7 (by omega) p7
 have x8:q7.1.v.x.cu=q5.1.v.x.cu:=x8;have r7:fj q5 q7:=ib h6 (by omega) p6 (by decide) (by have:=ig.Sm (s:=[101,110,100,99,108,97,115,115]) (q:=Oo.cH q5) (by decide +kernel) g7.eH;rw[<- e7];exact this) h8.cI
 have hz:w7=w/\NQ=D.ws:=by
  have z1:D3.ws=w7 :: NQ:=z1;rw[v4,u4,Ih]at z1;injection z1 with z1 z2
  exact⟨z1.symm,z2.symm⟩
 obtain⟨rfl,rfl⟩:=hz
 -- object
 obtain⟨D4,hD4⟩:∃ D4:eF,D4={ D3 with L:=Ref.put D2.L TL.length sn xt,ws:={ w7 with cP:=0 } :: D.ws }:=⟨_,rfl⟩;have h8:St pf D4 S' 0 none (f5-1) q7:=by rw[hD4];exact h8
 have NU:D4.A=D.A++[ca]:=by rw[hD4];show D3.A=_;rw[v1,u1,KM]
 have Od:D4.L=Ref.put (Ref.new D.L (Class.cU (a.cg TL.length)) 9) TL.length sn xt:=by rw[hD4];show Ref.put D2.L _ _ _=_;rw[u3,I8]
 have OO:D4.ws={ w7 with cP:=0 } :: D.ws:=by rw[hD4]
 have Ii:∀ z ∈ D1.fx,z ∈ D4.fx:=fun z hz=>by rw[hD4];exact vo _ (uo _ hz)
 have Q7:(xt,(1004:Int)) ∈ D4.fx:=by rw[hD4];exact vo _ un
 have Rq:∀ (j:Nat) (hj:j<cl.length),(xt+8+8*(j:Int),cl[j]) ∈ D4.fx:=fun j hj=>by rw[hD4];exact vn j hj
 have m1:(w7.xt,(1003:Int)) ∈ D1.fx/\(w7.xt+8,ca) ∈ D1.fx/\∀ z ∈ D.fx,z ∈ D1.fx:=by rw[Nf];exact⟨by simp,by simp,fun z hz=>by simp[hz]⟩
 have Bo:dG D4.A TL.length=ca:=by
  rw[NU,<- hR.len,<- h.fQ.iE.nA];exact Class.ly _ _
 have hk4:pY D4 (eS TL.length) TL.length:=by
  refine⟨KL,by omega,by rw[Od,Ref.gF,rL,hR.len];omega,{ w7 with cP:=0 },?_,Ii _ m1.1,by rw[Bo];exact Ii _ m1.2.1⟩
  rw[M',OO,<- wn];exact ji { w7 with cP:=0 } D.ws (by show(0:Int) % 4<2;decide)
 obtain⟨_,g9,p9⟩:=h8.go p8 (by decide)
 obtain⟨_,g10,Jd⟩:=g9.skip p9 KL;have hwd:=Src.PI (Oo.cH q7).1.next.src (gi TL.length) [] (Oo.cH q7).1.next.cM Na Jd;obtain⟨q9,w5,e9,y1,y2,RA,x9,h10⟩:=IB g9 hk4 Na QO p9 ⟨_,hwd.1,hwd.2⟩ (by show q7.1.v.x.cu+100<=60000;omega)
 have x9:q9.1.v.x.cu<=q7.1.v.x.cu+80:=x9;have r9:fj q7 q9:=ib h8 (by omega) p8 (by decide) (by have:=ig.obj (s:=[111,98,106,101,99,116]) (q:=Oo.cH q7) 171 (by decide +kernel) (by simp);rw[<- e9];exact this) h10.cI
 obtain⟨cM,hat⟩:∃ cM,cM=(Oo.cH q7).1.v.x.cu:=⟨_,rfl⟩;rw[<- hat]at h10;obtain⟨qe,te,he,hx⟩:=xW h10 RA 0;have Yl:=kP h10;have YM:=(h10.fQ.iQ w5 (by simp)).2.2.1
 have RL:=(h10.fQ.iQ w5 (by simp)).1
 have RT:=(h10.fQ.iQ w5 (by simp)).2.1
 refine⟨qe,S',sn,xt,ca,la,cM,f5-1-1,w7,w5,((((r1.trans r3).trans r5).trans r7).trans r9) 0 _ te,by omega,by omega,s1,by unfold dB;omega,wn,by rw[y1,QQ],y2,by unfold dB;omega,D4.T,(w5.xt+8,cM) :: (w5.xt,1003) :: (cM,dG D4.A TL.length) :: D4.fx,?_,?_⟩
 . rw[Bo]
   rw[Bo,NU,Od,OO]at he;exact he
 . rw[Bo]
   refine⟨fun z hz=>by simp[Ii z (m1.2.2 z hz)],by simp[Ii _ m1.1],by simp[Ii _ m1.2.1],by simp,by simp,by simp,by simp[Q7],?_⟩
   have KO:a.body.cells pf x1 (D.A++[ca]) (Ref.new D.L (Class.cU (a.cg TL.length)) 9) TL.length sn=cl:=by rw[hcl,u1,KM,u3,I8]
   rw[KO];intro j hj;simp[Rq j hj]
end Fo
namespace Fo
variable {pf:List UInt8->Option Int} {dM:List Act} {TL:List dr} {D:eF} {S:List (List UInt8)} {τ:Nat->Int} {x1:Int} {q:Q} {f:Int}
def upτ(τ:Nat->Int)(n:Nat)(xt:Int):Nat->Int:=fun k=>if k=n then xt else τ k
theorem upτ_old(τ:Nat->Int){n k:Nat}(xt:Int)(h:k<n):upτ τ n xt k=τ k:=by unfold upτ;rw[if_neg (by omega)]
theorem ni{l:List Act}{j:Nat}{a:Act}(h:l[j]?=some a):j<l.length:=(List.getElem?_eq_some_iff.1 h).1
theorem tv{l:List Act}{j:Nat}{a:Act}(b:Act)(h:l[j]?=some a):(l++[b])[j]?=some a:=by rw[List.getElem?_append_left (ni h)];exact h
theorem ou.mr(d:ou pf dM TL D S τ x1){b:List (List UInt8)}(h:∀ s ∈ S,s ∈ b/\fi b s=fi S s){a:Act}(c:dz (a.cZ % 5) ∈ S):sg b a.s1=sg S a.s1:=by rw[mq,mq];exact(h _ c).2
theorem IE(A:List Int)(a p:Int)(h:p<A.length):Class.iq (A++[a]) p=Class.iq A p:=by
 unfold Class.iq;split
 . rfl
 . exact Class.mM _ _ _ (by omega)
theorem PS(hR:ou pf dM TL D S τ x1)(hok:Ref.Ok D.L)(hA:D.A.length=TL.length)(a:Act)(hnew:a.lS TL.length=true)(hn:TL.length<=60){S':List (List UInt8)}{sn xt ca cM:Int}{w w5:Wd}{T':List Int}{F:List (Int × Int)}(h1:gu S (dz (a.cZ % 5))=(S',sn,0))(wn:w.name=eS TL.length)(Jj:w5.name=gi TL.length)(OP:w5.cP=0)(Sc:dB w5.xt)
 (hF:∀ z ∈ D.fx,z ∈ F) (f1:(w.xt,1003) ∈ F) (f2:(w.xt+8,ca) ∈ F) (f3:(w5.xt,1003) ∈ F) (f4:(w5.xt+8,cM) ∈ F) (f5:(cM,ca) ∈ F) (f6:(xt,1004) ∈ F)
 (f7:∀ (j:Nat) (hj:j<(a.body.cells pf x1 (D.A++[ca]) (Ref.new D.L (Class.cU (a.cg TL.length)) 9) TL.length sn).length),(xt+8+8*(j:Int),(a.body.cells pf x1 (D.A++[ca]) (Ref.new D.L (Class.cU (a.cg TL.length)) 9) TL.length sn)[j]) ∈ F) :
 ou pf (dM++[a]) (grow TL dM.length a) ⟨D.A++[ca],T',Ref.put (Ref.new D.L (Class.cU (a.cg TL.length)) 9) TL.length sn xt,w5 :: { w with cP:=0 } :: D.ws,F⟩ S' (upτ τ dM.length xt) x1:=by
 obtain⟨S2,n2,s1,s2,s3,s4,s5,s6,s7,s8⟩:=nX hR.eb (a.cZ % 5) (by omega)
 rw[h1]at s1;injection s1 with e1 e2
 injection e2 with e2 _
 subst e1 e2;have hg:grow TL dM.length a=TL++[⟨Class.cU (a.cg TL.length),0,9,[(a.s1,(dM.length:Int))]⟩]:=by unfold grow;rw[if_pos hnew]
 rw[hg];obtain⟨k,hk⟩:∃ k,k=a.cg TL.length:=⟨_,rfl⟩;rw[<- hk]at f7 |-;have hnl:=hR.len;have hcl:TL.length<(Ref.new D.L (Class.cU k) 9).length:=by rw[rL,hnl];omega
 have gold:∀ i:Nat,i<TL.length->Ref.get (Ref.put (Ref.new D.L (Class.cU k) 9) TL.length sn xt) i=Ref.get D.L i:=by
  intro i hi;rw[Ref.nG _ _ _ _ hcl i (by omega),if_neg (by omega),FQ D.L k 9 i (by omega)]
 have FH:(Ref.get (Ref.put (Ref.new D.L (Class.cU k) 9) TL.length sn xt) TL.length).own=[(sn,xt)]/\(Ref.get (Ref.put (Ref.new D.L (Class.cU k) 9) TL.length sn xt) TL.length).cE=Class.cU k:=by
  rw[Ref.nG _ _ _ _ hcl TL.length hcl,if_pos rfl,<- hnl,FO,FR];exact⟨rfl,rfl⟩
 have Bs:Ref.get (TL++[⟨Class.cU k,0,9,[(a.s1,(dM.length:Int))]⟩]) TL.length=⟨Class.cU k,0,9,[(a.s1,(dM.length:Int))]⟩:=Ref.jI TL _;have told:∀ i:Nat,i<TL.length->Ref.get (TL++[⟨Class.cU k,0,9,[(a.s1,(dM.length:Int))]⟩]) i=Ref.get TL i:=fun i hi=>Ref.mL TL _ i hi
 have Ik:∀ i:Nat,i<TL.length->dG (D.A++[ca]) i=dG D.A i:=fun i hi=>Class.mM _ _ _ (by omega)
 have nnew:dG (D.A++[ca]) TL.length=ca:=by rw[<- hA];exact Class.ly _ _
 have Il:∀ s,s≠eS TL.length->s≠gi TL.length->Mem.dv (w5 :: { w with cP:=0 } :: D.ws) s=Mem.dv D.ws s:=by
  intro s h1 h2;rw[eZ _ _ _ (by rw[Jj];exact fun e=>h2 e.symm),eZ _ _ _ (by show w.name≠s;rw[wn];exact fun e=>h1 e.symm)]
 have hpar:∀ i:Nat,i<TL.length->(Ref.get D.L i).cE<D.A.length:=by
  intro i hi;have:=hok i (by omega)
  rw[<- Ref.get_at D.L i (by omega)]at this
  omega
 have jy:(TL++[⟨Class.cU k,0,9,[(a.s1,(dM.length:Int))]⟩]:List dr).length=TL.length+1:=by simp
 refine⟨?_,?_,s2,?_,?_,?_,?_,?_,?_,?_⟩
 . refine hR.dD.grow hF (Il _ (fun e=>by cases e) (fun e=>by cases e)) (Il _ (fun e=>by cases e) (fun e=>by cases e)) ?_
   show(w5 :: { w with cP:=0 } :: D.ws).all _=true
   rw[List.all_cons,List.all_cons,hR.dD.zr,Jj]
   show(bZ (gi TL.length) && (bZ w.name && true))=true
   rw[wn,sx,gv];rfl
 . obtain⟨wo,o1,o2⟩:=hR.one
   exact⟨wo,by rw[<- o1];exact Il _ (fun e=>by cases e) (fun e=>by cases e),o2⟩
 . show(Ref.put _ _ _ _).length=_
   rw[Ref.gF,rL,jy,hnl]
 . intro i hi
   rw[jy]at hi
   show(Ref.get (Ref.put _ _ _ _) i).cE=_
   by_cases hi':i<TL.length
   . rw[gold i hi',told i hi',hR.cg i hi']
   . have:i=TL.length:=by omega
     subst this;rw[FH.2,Bs]
 . intro i hi
   rw[jy]at hi;by_cases hi':i<TL.length
   . rw[told i hi'];exact hR.cy i hi'
   . have:i=TL.length:=by omega
     subst this;rw[Bs]
 . intro i hi
   rw[jy]at hi
   show(Ref.get (Ref.put _ _ _ _) i).own=_
   by_cases hi':i<TL.length
   . rw[gold i hi',told i hi',hR.own i hi']
     refine List.map_congr_left fun p hp=>?_
     obtain⟨j,b,j1,j2,j3,j4,_⟩:=hR.Jk i hi' p hp;rw[j3,hR.mr s8 j4,j1,Int.toNat_natCast,upτ_old τ xt (ni j2)]
   . have:i=TL.length:=by omega
     subst this;rw[FH.1,Bs]
     show [(sn,xt)]=[(sg S' a.s1,upτ τ dM.length xt ((dM.length:Int)).toNat)]
     rw[mq,<- s4,Int.toNat_natCast];unfold upτ;rw[if_pos rfl]
 . intro i hi p hp
   rw[jy]at hi;by_cases hi':i<TL.length
   . rw[told i hi']at hp
     obtain⟨j,b,j1,j2,j3,j4,j5⟩:=hR.Jk i hi' p hp;refine⟨j,b,j1,tv a j2,j3,(s8 _ j4).1,?_⟩;rw[upτ_old τ xt (ni j2)];refine j5.grow hF ?_ (hR.mr s8 j4)
     show Class.iq (D.A++[ca]) (Ref.get (Ref.put _ _ _ _) i).cE=_
     rw[gold i hi',IE _ _ _ (hpar i hi')]
   . have:i=TL.length:=by omega
     subst this;rw[Bs]at hp;have hp:p=(a.s1,(dM.length:Int)):=by simpa using hp
     refine⟨dM.length,a,by rw[hp],by simp,by rw[hp],s3,?_⟩
     unfold upτ;rw[if_pos rfl]
     have hce:a.body.cells pf x1 (D.A++[ca]) (Ref.put (Ref.new D.L (Class.cU k) 9) TL.length sn xt) TL.length (sg S' a.s1)=a.body.cells pf x1 (D.A++[ca]) (Ref.new D.L (Class.cU k) 9) TL.length sn:=by
      unfold Body.cells;rw[FH.2,mq,<- s4,<- hnl,FR]
     refine⟨f6,?_⟩
     show ∀ (j:Nat) (hj:j<(a.body.cells pf x1 (D.A++[ca]) (Ref.put (Ref.new D.L (Class.cU k) 9) TL.length sn xt) TL.length (sg S' a.s1)).length),(xt+8+8*(j:Int),(a.body.cells pf x1 (D.A++[ca]) (Ref.put (Ref.new D.L (Class.cU k) 9) TL.length sn xt) TL.length (sg S' a.s1))[j]) ∈ F
     rw[hce];exact f7
 . intro i hi
   rw[jy]at hi;by_cases hi':i<TL.length
   . have hki:=hR.kn i hi'
     obtain⟨wi,i1,i2,i3⟩:=hki.dA;have hlow:=(nh i (by omega)).2.2
     rw[hlow]at i1;refine⟨hki.d',hki.len,by show i<(Ref.put _ _ _ _).length;rw[Ref.gF,rL];omega,wi,?_,hF _ i2,?_⟩
     . rw[hlow,<- i1]
       exact Il _ (fun e=>by have:=xY (by omega) (by omega) e;omega) (o' _ _)
     . show(wi.xt+8,dG (D.A++[ca]) i) ∈ F
       rw[Ik i hi'];exact hF _ i3
   . have:i=TL.length:=by omega
     subst this;obtain⟨k1,k2,k3⟩:=nh TL.length (by omega)
     refine⟨k1,by omega,by show TL.length<(Ref.put _ _ _ _).length;rw[Ref.gF];exact hcl,{ w with cP:=0 },?_,f1,?_⟩
     . rw[k3]
       show Mem.dv (w5 :: { w with cP:=0 } :: D.ws) _=_
       rw[eZ _ _ _ (by rw[Jj];exact fun e=>o' _ _ e.symm),<- wn]
       exact ji { w with cP:=0 } D.ws (by show(0:Int) % 4<2;decide)
     . show(w.xt+8,dG (D.A++[ca]) TL.length) ∈ F
       rw[nnew];exact f2
 . intro i hi
   rw[jy]at hi;by_cases hi':i<TL.length
   . obtain⟨wi,ai,i1,i2,i3,i4,i5,i6⟩:=hR.ob i hi'
     refine⟨wi,ai,?_,i2,i3,hF _ i4,hF _ i5,?_⟩
     . rw[<- i1]
       exact Il _ (fun e=>o' _ _ e.symm) (fun e=>by have:=IC (by omega) (by omega) e;omega)
     . show(ai,dG (D.A++[ca]) i) ∈ F
       rw[Ik i hi'];exact hF _ i6
   . have:i=TL.length:=by omega
     subst this;refine⟨w5,cM,?_,OP,Sc,f3,f4,?_⟩
     . show Mem.dv (w5 :: { w with cP:=0 } :: D.ws) _=_
       rw[<- Jj];exact ji w5 _ (by rw[OP];decide)
     . show(cM,dG (D.A++[ca]) TL.length) ∈ F
       rw[nnew];exact f5
end Fo
namespace Fo
variable {pf:List UInt8->Option Int} {dM:List Act} {TL:List dr} {D:eF} {S:List (List UInt8)} {τ:Nat->Int} {x1:Int} {q:Q} {f:Int}
theorem Mx(e:ou pf dM TL D S τ x1)(h:St pf D S 0 none f q)(a:Act)(ha:a.n<=65535)(h0:0<TL.length)(g:gY q (a.nZ TL.length))(hf:100<f)(hr:q.1.v.x.cu+700<=60000) :
 ∃ (p:Q) (r:List (List UInt8)) (b xt H:Int) (F:List (Int × Int)),fH (q,0) (p,0)/\f-20<=H/\p.1.v.x.cu<=q.1.v.x.cu+700/\gu S (dz (a.cZ % 5))=(r,b,0) /\
  St pf ⟨D.A,D.T,Ref.put D.L (a.c % TL.length) b xt,D.ws,F⟩ r 0 none H p/\(∀ aa ∈ D.fx,aa ∈ F)/\(xt,1004) ∈ F /\
  ∀ (j:Nat) (K:j<(a.body.cells pf x1 D.A D.L (a.c % TL.length) b).length),(xt+8+8*(j:Int),(a.body.cells pf x1 D.A D.L (a.c % TL.length) b)[j]) ∈ F:=by
 have C:a.c % TL.length<TL.length:=Nat.mod_lt _ h0;obtain⟨c,ac⟩:∃ c,c=a.c % TL.length:=⟨_,rfl⟩;unfold Act.nZ at g;rw[<- ac]at C g |-;obtain⟨N,O,aj,ak⟩:=hU (a.cZ % 5) (by omega);have hh:=kP h;obtain⟨r,b,U,s2,s3,s4,s5,s6,s7,s8⟩:=nX e.eb (a.cZ % 5) (by omega);obtain⟨_,g1,p1⟩:=h.go g (by decide);obtain⟨P,e1,p2,x2,l⟩:=Bx g1 (e.kn c C) N O p1 U (by show q.1.v.x.cu+8<=60000;omega);have x2:P.1.v.x.cu=q.1.v.x.cu+8:=x2;have r1:fj q P:=ib h (by omega) g (by decide) (by have:=ig.obj (s:=[114,101,100,101,102,105,110,101]) (q:=Oo.cH q) 164 (by decide +kernel) (by simp);rw[<- e1];exact this) l.cI;obtain⟨xt,M⟩:∃ xt,xt=(Oo.cH q).1.v.x.cu:=⟨_,rfl⟩;have ai:xt=q.1.v.x.cu:=M;rw[<- M]at l;obtain⟨z,V,B,m⟩:=eF.dO [1004] D xt;have E:=eF.fI [1004] D xt;have W:(xt,(1004:Int)) ∈ (D.fJ xt [1004]).fx:=by have:=eF.lQ [1004] D xt 0 (by simp);simpa using this
 generalize D.fJ xt [1004]=d at l z V B m E W;have ab:sK pf d:=e.dD.grow E (by rw[m]) (by rw[m]) (by rw[m];exact e.dD.zr);have ad:Ref.set d.L c b xt=(Ref.put d.L c b xt,0):=by
  refine vL d.L l.fQ.iE.uD (fun i w=>(l.fQ.sl i w).1) (fun i w p g=>?_) _ _ _ s6;rw[B]at w g;exact e.BC i w p g
 obtain⟨q5,af,I,y,r5,p6,x6,x7,t⟩:=FM ab l (by omega) (i:=c) (by rw[B,e.len];exact C) (by rw[z]) a.body N O (by unfold dB;show _<=(a.n:Int)/\(a.n:Int)<=_;omega) s5 p2 (by omega) (by unfold dB;omega) (by unfold dB;omega) ad (by omega);have ae:af.xt=x1:=by
  obtain⟨wo,ag,ah⟩:=e.one;rw[m,ag]at y;injection y with y;rw[<- y];exact ah
 rw[ae,z,B]at t;obtain⟨k,J⟩:∃ k,k=a.body.cells pf x1 D.A D.L c b:=⟨_,rfl⟩;rw[<- J]at t;obtain⟨X,Y,v3,Z⟩:=eF.dO k d (xt+8);have G:=eF.fI k d (xt+8);have vn:=eF.lQ k d (xt+8);generalize d.fJ (xt+8) k=o at t X Y v3 Z G vn;obtain⟨R,te,u,hx⟩:=xW t p6 0;refine⟨R,r,b,xt,I,o.fx,(r1.trans r5) 0 _ te,by omega,by omega,U,?_,fun aa hz=>G _ (E _ hz),G _ W,by rw[<- J];exact fun j K=>vn j K⟩;have u:St pf ⟨o.A,o.T,Ref.put D.L c b xt,o.ws,o.fx⟩ r 0 none I R:=u;rw[X,Y,Z,z,V,m]at u;exact u
theorem PT(k:ou pf dM TL D S τ x1)(a:Act)(z:a.lS TL.length=false){m:List (List UInt8)}{l xt:Int}{F:List (Int × Int)}(X:gu S (dz (a.cZ % 5))=(m,l,0))(hF:∀ ad ∈ D.fx,ad ∈ F)(U:(xt,1004) ∈ F)
 (J:∀ (j:Nat) (hj:j<(a.body.cells pf x1 D.A D.L (a.c % TL.length) l).length),(xt+8+8*(j:Int),(a.body.cells pf x1 D.A D.L (a.c % TL.length) l)[j]) ∈ F) :
 ou pf (dM++[a]) (grow TL dM.length a) ⟨D.A,D.T,Ref.put D.L (a.c % TL.length) l xt,D.ws,F⟩ m (upτ τ dM.length xt) x1:=by
 have W:0<TL.length:=by
  unfold Act.lS at z;simp only[Bool.or_eq_false_iff,decide_eq_false_iff_not]at z;omega
 have r:a.c % TL.length<TL.length:=Nat.mod_lt _ W;have hg:grow TL dM.length a=Ref.put TL (a.c % TL.length) a.s1 dM.length:=by unfold grow;rw[if_neg (by rw[z];simp)]
 rw[hg];obtain⟨c,Z⟩:∃ c,c=a.c % TL.length:=⟨_,rfl⟩;rw[<- Z]at r J |-;obtain⟨S2,n9,O,s2,P,H,s5,s6,s7,v⟩:=nX k.eb (a.cZ % 5) (by omega);rw[X]at O;injection O with e1 e2;injection e2 with e2 _;subst e1 e2;have aa:=k.len;have w:c<D.L.length:=by omega
 have M:∀ b:Act,cG (dz (b.cZ % 5))=dz (b.cZ % 5):=fun b=>(hU _ (by omega)).2.2.1;have ac:∀ p ∈ (Ref.get TL c).own,(sg m p.1,upτ τ dM.length xt p.2.toNat)=(sg S p.1,τ p.2.toNat):=by
  intro p g;obtain⟨j,b,u,s,t,o,_⟩:=k.Jk c r p g;rw[t,k.mr v o,u,Int.toNat_natCast,upτ_old τ xt (ni s)]
 have V:((Ref.get TL c).own.map fun p=>(sg S p.1,τ p.2.toNat)).filter (fun p=>p.1≠l)=((Ref.get TL c).own.filter (fun p=>p.1≠a.s1)).map fun p=>(sg S p.1,τ p.2.toNat):=by
  rw[List.filter_map];congr 1;refine List.filter_congr fun p g=>?_;obtain⟨j,b,u,s,t,o,_⟩:=k.Jk c r p g;have K:sg S p.1=l ↔ p.1=a.s1:=by
   rw[t,<- k.mr v o,H,mq];constructor
   . intro e
     have:=BD (M b) (M a) (v _ o).1 P e;have:=xX (by omega) (by omega) this;unfold Act.s1;omega
   . intro e
     unfold Act.s1 at e;have:b.cZ % 5=a.cZ % 5:=by omega
     rw[this]
  show decide (sg S p.1≠l)=decide (p.1≠a.s1);by_cases h:p.1=a.s1
  . rw[decide_eq_false (by simpa using K.2 h),decide_eq_false (by simpa using h)]
  . have Y:sg S p.1≠l:=fun e=>h (K.1 e)
    rw[decide_eq_true Y,decide_eq_true h]
 refine⟨?_,k.one,s2,by show(Ref.put D.L c l xt).length=_;rw[Ref.gF,Ref.gF,aa],?_,?_,?_,?_,?_,?_⟩
 . exact k.dD.grow hF rfl rfl k.dD.zr
 . intro i d
   rw[Ref.gF]at d;show(Ref.get (Ref.put _ _ _ _) i).cE=_;rw[(Ref.fO D.L c l xt w i (by omega)).1,(Ref.fO TL c a.s1 _ r i d).1,k.cg i d]
 . intro i d
   rw[Ref.gF]at d;rw[(Ref.fO TL c a.s1 _ r i d).2.1];exact k.cy i d
 . intro i d
   rw[Ref.gF]at d;show(Ref.get (Ref.put _ _ _ _) i).own=_;rw[Ref.nG D.L c l xt w i (by omega),Ref.nG TL c a.s1 _ r i d];by_cases n:i=c
   . rw[if_pos n,if_pos n]
     show(Ref.get D.L c).own.filter _++[(l,xt)]=((Ref.get TL c).own.filter _++[(a.s1,(dM.length:Int))]).map _;rw[List.map_append,k.own c r,V];congr 1
     . refine List.map_congr_left fun p g=>?_
       exact(ac p (List.mem_filter.1 g).1).symm
     . show [(l,xt)]=[(sg m a.s1,upτ τ dM.length xt ((dM.length:Int)).toNat)]
       rw[mq,<- H,Int.toNat_natCast];unfold upτ;rw[if_pos rfl]
   . rw[if_neg n,if_neg n,k.own i d]
     refine List.map_congr_left fun p g=>?_;obtain⟨j,b,u,s,t,o,_⟩:=k.Jk i d p g;rw[t,k.mr v o,u,Int.toNat_natCast,upτ_old τ xt (ni s)]
 . intro i d p g
   rw[Ref.gF]at d;have ab:∀ x G (b:Act),b.body.cells pf x1 D.A (Ref.put D.L c l xt) i (sg x G)=b.body.cells pf x1 D.A D.L i (sg x G):=by
    intro x G b;unfold Body.cells;rw[(Ref.fO D.L c l xt w i (by omega)).1]
   have N:∀ p ∈ (Ref.get TL i).own,∃ (j:Nat) (b:Act),p.2=(j:Int)/\(dM++[a])[j]?=some b/\p.1=b.s1/\dz (b.cZ % 5) ∈ m/\Code pf ⟨D.A,D.T,Ref.put D.L c l xt,D.ws,F⟩ m x1 i b (upτ τ dM.length xt j):=by
    intro p g;obtain⟨j,b,u,s,t,o,j5⟩:=k.Jk i d p g;refine⟨j,b,u,tv a s,t,(v _ o).1,?_⟩;rw[upτ_old τ xt (ni s)];refine j5.grow hF ?_ (k.mr v o);show Class.iq D.A (Ref.get (Ref.put _ _ _ _) i).cE=_;rw[(Ref.fO D.L c l xt w i (by omega)).1]
   rw[Ref.nG TL c a.s1 _ r i d]at g;by_cases n:i=c
   . rw[if_pos n]at g
     rcases List.mem_append.1 g with g | g
     . exact N p (by rw[n];exact(List.mem_filter.1 g).1)
     . have g:p=(a.s1,(dM.length:Int)):=by simpa using g
       refine⟨dM.length,a,by rw[g],by simp,by rw[g],P,?_⟩;unfold upτ;rw[if_pos rfl];refine⟨U,?_⟩;show ∀ (j:Nat) (hj:j<(a.body.cells pf x1 D.A (Ref.put D.L c l xt) i (sg m a.s1)).length),(xt+8+8*(j:Int),(a.body.cells pf x1 D.A (Ref.put D.L c l xt) i (sg m a.s1))[j]) ∈ F;rw[ab m a.s1 a,mq,<- H,n];exact J
   . rw[if_neg n]at g
     exact N p g
 . intro i d
   rw[Ref.gF]at d;have y:=k.kn i d;obtain⟨I,B,C,E⟩:=y.dA;exact⟨y.d',y.len,by show i<(Ref.put _ _ _ _).length;rw[Ref.gF];omega,I,B,hF _ C,hF _ E⟩
 . intro i d
   rw[Ref.gF]at d;obtain⟨I,R,B,C,E,i4,i5,i6⟩:=k.ob i d;exact⟨I,R,B,C,E,hF _ i4,hF _ i5,hF _ i6⟩
theorem My(e:ou pf dM TL D S τ x1)(h:St pf D S 0 none f q)(a:Act)(t:a.n<=65535)(y:TL.length<=60)(g:gY q (a.dJ TL.length))(u:100<f)(z:q.1.v.x.cu+700<=60000) :
 ∃ (p:Q) (s:eF) (b:List (List UInt8)) (P:Nat->Int) (c:Int),fH (q,0) (p,0)/\f-20<=c/\p.1.v.x.cu<=q.1.v.x.cu+700/\St pf s b 0 none c p/\ou pf (dM++[a]) (grow TL dM.length a) s b P x1:=by
 unfold Act.dJ at g;cases d:a.lS TL.length with
 | true =>
  rw[if_pos d]at g;obtain⟨p,b,O,xt,U,V,T,c,w,W,i,j,k,l,A,m,o,r,N,R,F,C,E,G,H,I,J,K,L,M⟩:=Mw e h a t y g u z;exact⟨p,_,b,_,c,i,j,k,C,PS e h.fQ.iE.uD (by rw[h.fQ.iE.nA,e.len]) a d y l m o r N E G H I J K L M⟩
 | false =>
  rw[if_neg (by rw[d];simp)]at g;have B:0<TL.length:=by
   unfold Act.lS at d;simp only[Bool.or_eq_false_iff,decide_eq_false_iff_not]at d;omega
  obtain⟨p,b,O,xt,c,F,i,j,k,l,A,m,o,r⟩:=Mx e h a t B g u z;exact⟨p,_,b,_,c,i,j,k,A,PT e a d l m o r⟩
end Fo
open Go.RowKit Go.Proofs.tI
namespace eF
theorem In.Wi{D:eF}{x:Sp}(h:D.In x){m':Mem}(c:m'.size=x.mem.size)(a:∀ b,b<60000->m'.cell b=x.mem.cell b):D.In { x with mem:=m' }:=by
 have o:=h.al.ok;have f:=h.xQ;unfold Sp.Ok at o;refine h.move (x':={ x with mem:=m' }) ⟨⟨o.1,o.2.1,o.2.2.1,by show x.to<=(m'.size:Int);rw[c];exact o.2.2.2⟩,h.al.al⟩ (h.iE.frame c (fun b d=>a b (by omega)) (Int.le_refl _) (by show x.cu<=_;omega)) rfl rfl c (Int.le_refl _) (a 0 (by omega)) (fun b _ d _=>a b (by omega)) (fun _ _ _ e=>e) h.sl h.tl
end eF
namespace Fo
structure Rs(D:eF)(L R:List Int)(v:VM):Prop where
 fQ:D.In v.x
 dD:v.dD=16
 cF:v.cF=24
 root:v.root=8
 cy:v.cy=9
 dL:v.dL=false
 cV:v.cV=2824
 d:v.d=⟨60000,60,L.length,-3,-4⟩
 r:v.r=⟨60480,200,R.length,-5,-6⟩
 dl:L.length<=60/\∀ (i:Nat) (h:i<L.length),v.x.mem.cell (60000+8*(i:Int))=(L[i],0)
 rl:R.length<=200/\∀ (i:Nat) (h:i<R.length),v.x.mem.cell (60480+8*(i:Int))=(R[i],0)
structure BH(v v':VM):Prop where
 ip:v'.ip=v.ip
 dU:v'.dU=v.dU
 cC:v'.cC=v.cC
 cI:v'.cI=v.cI
variable {D:eF} {L R:List Int} {v:VM}
theorem Rs.rM(h:Rs D L R v):v.x.mem.size=62880:=h.fQ.size
theorem BI(l:List Int):∀ (m:Mem) (d:dK),(dK.ij m d l).1=m.fk (d.ew+d.depth*8) l:=by
 induction l with
 | nil=>intro m d;rfl
 | cons n l a =>
  intro m d;rw[dK.ij,a,Mem.fk];unfold dK.ft;simp only;rw[show d.ew+(d.depth+1-1-0)*8=d.ew+d.depth*8 by omega,show d.ew+(d.depth+1)*8=d.ew+d.depth*8+8 by omega]
theorem BJ(m:Mem)(d:dK)(l:List Int)(h:d.depth+l.length<=d.gm):dK.push m d l=(m.fk (d.ew+d.depth*8) l,{ d with depth:=d.depth+l.length },0):=by
 unfold dK.push;rw[if_neg (by omega),dK.lW,BI]
theorem vN{m:Mem}{a:Int}{L l:List Int}(f:a % 8=0)(e:0<=a)(g:a+8*(L.length+l.length)<=m.size)(h:∀ (i:Nat) (h:i<L.length),m.cell (a+8*(i:Int))=(L[i],0))(d:∀ n ∈ l,dB n) :
 ∀ (i:Nat) (h:i<(L++l).length),(m.fk (a+(L.length:Int)*8) l).cell (a+8*(i:Int))=((L++l)[i],0):=by
 intro i c;rw[List.length_append]at c;by_cases b:i<L.length
 . rw[Mem.gU _ _ _ _ (.inl (by omega)),h i b,List.getElem_append_left b]
 . have:=Mem.kU m (a+(L.length:Int)*8) l (by omega) (by omega) (by omega) d (i-L.length) (by omega)
   rw[show a+(L.length:Int)*8+8*((i-L.length:Nat):Int)=a+8*(i:Int) by omega]at this;rw[this,List.getElem_append_right (by omega)]
theorem Rs.push(h:Rs D L R v)(l:List Int)(k:L.length+l.length<=60)(g:∀ n ∈ l,dB n):∃ a,v.push l=(a,0)/\Rs D (L++l) R a/\BH v a:=by
 have m:=h.rM;have e:=BJ v.x.mem v.d l (by rw[h.d];show(L.length:Int)+_<=60;omega);rw[h.d]at e;have e:dK.push v.x.mem v.d l=(v.x.mem.fk (60000+(L.length:Int)*8) l,⟨60000,60,(L.length:Int)+l.length,-3,-4⟩,0):=by rw[h.d];exact e
 have f:∀ b,(b<60000\/60480<=b)->(v.x.mem.fk (60000+(L.length:Int)*8) l).cell b=v.x.mem.cell b:=fun b c=>Mem.gU _ _ _ _ (by omega);refine⟨{ v.mem (v.x.mem.fk (60000+(L.length:Int)*8) l)with d:=⟨60000,60,(L.length:Int)+l.length,-3,-4⟩ },?_,⟨?_,h.dD,h.cF,h.root,h.cy,h.dL,h.cV,?_,h.r,⟨?_,?_⟩,h.rl.1,?_⟩,⟨rfl,rfl,rfl,rfl⟩⟩
 . show(({ v.mem (dK.push v.x.mem v.d l).1 with d:=(dK.push v.x.mem v.d l).2.1 }:VM),(dK.push v.x.mem v.d l).2.2)=_
   rw[e]
 . exact h.fQ.Wi (Mem.gE _ _ _) (fun b c=>f b (.inl c))
 . show(⟨60000,60,(L.length:Int)+l.length,-3,-4⟩:dK)=_
   rw[List.length_append];congr 1
 . rw[List.length_append];omega
 . exact vN (by decide) (by decide) (by omega) h.dl.2 g
 . intro i j
   show(v.x.mem.fk (60000+(L.length:Int)*8) l).cell (60480+8*(i:Int))=_;rw[f _ (.inr (by omega))];exact h.rl.2 i j
theorem Rs.fX(h:Rs D L R v)(l:List Int)(k:R.length+l.length<=200)(f:∀ n ∈ l,dB n):∃ a,v.fX l=(a,0)/\Rs D L (R++l) a/\BH v a:=by
 have m:=h.rM;have e:=BJ v.x.mem v.r l (by rw[h.r];show(R.length:Int)+_<=200;omega);rw[h.r]at e;have e:dK.push v.x.mem v.r l=(v.x.mem.fk (60480+(R.length:Int)*8) l,⟨60480,200,(R.length:Int)+l.length,-5,-6⟩,0):=by rw[h.r];exact e
 have c:∀ b,b<60480->(v.x.mem.fk (60480+(R.length:Int)*8) l).cell b=v.x.mem.cell b:=fun b g=>Mem.gU _ _ _ _ (by omega);refine⟨{ v.mem (v.x.mem.fk (60480+(R.length:Int)*8) l)with r:=⟨60480,200,(R.length:Int)+l.length,-5,-6⟩ },?_,⟨?_,h.dD,h.cF,h.root,h.cy,h.dL,h.cV,h.d,?_,⟨h.dl.1,?_⟩,?_,?_⟩,⟨rfl,rfl,rfl,rfl⟩⟩
 . show(({ v.mem (dK.push v.x.mem v.r l).1 with r:=(dK.push v.x.mem v.r l).2.1 }:VM),(dK.push v.x.mem v.r l).2.2)=_
   rw[e]
 . exact h.fQ.Wi (Mem.gE _ _ _) (fun b g=>c b (by omega))
 . show(⟨60480,200,(R.length:Int)+l.length,-5,-6⟩:dK)=_
   rw[List.length_append];congr 1
 . intro i j
   have:=h.dl.1;show(v.x.mem.fk (60480+(R.length:Int)*8) l).cell (60000+8*(i:Int))=_;rw[c _ (by omega)];exact h.dl.2 i j
 . rw[List.length_append];omega
 . exact vN (by decide) (by decide) (by omega) h.rl.2 f
theorem Ed(m:Mem)(f a:Int)(o u:Int)(L:List Int)(n:Int)(h:∀ (i:Nat) (h:i<(L++[n]).length),m.cell (f+8*(i:Int))=((L++[n])[i],0)):dK.cM m ⟨f,a,((L++[n]).length:Int),o,u⟩ 0=(n,0):=by
 unfold dK.cM dK.ft;rw[if_neg (by omega),if_neg (by simp only[List.length_append,List.length_cons,List.length_nil];omega)];simp only;have:=h L.length (by simp);rw[show f+(((L++[n]).length:Nat)-1-0:Int)*8=f+8*(L.length:Int) by simp only[List.length_append,List.length_cons,List.length_nil];omega,this];simp
theorem FT(m:Mem)(f a:Int)(o u:Int)(L:List Int)(n:Int)(h:∀ (i:Nat) (h:i<(L++[n]).length),m.cell (f+8*(i:Int))=((L++[n])[i],0)):dK.qI m ⟨f,a,((L++[n]).length:Int),o,u⟩=(⟨f,a,(L.length:Int),o,u⟩,n,0):=by
 unfold dK.qI;rw[Ed m f a o u L n h,if_pos rfl];simp only[List.length_append,List.length_cons,List.length_nil];congr 2;omega
theorem jS{m:Mem}{a:Int}{L l:List Int}(h:∀ (i:Nat) (h:i<(L++l).length),m.cell (a+8*(i:Int))=((L++l)[i],0)):∀ (i:Nat) (h:i<L.length),m.cell (a+8*(i:Int))=(L[i],0):=by
 intro i b;rw[h i (by rw[List.length_append];omega),List.getElem_append_left b]
theorem Rs.jO{n:Int}(h:Rs D L (R++[n]) v):∃ a,v.jO=(a,n,0)/\Rs D L R a/\BH v a:=by
 refine⟨{ v with r:=⟨60480,200,R.length,-5,-6⟩ },?_,⟨h.fQ,h.dD,h.cF,h.root,h.cy,h.dL,h.cV,h.d,rfl,h.dl,by have:=h.rl.1;rw[List.length_append]at this;omega,jS h.rl.2⟩,⟨rfl,rfl,rfl,rfl⟩⟩;show(({ v with r:=(dK.qI v.x.mem v.r).1 }:VM),(dK.qI v.x.mem v.r).2)=_;rw[h.r,FT _ _ _ _ _ R n h.rl.2]
theorem Rs.Mz{n:Int}(h:Rs D (L++[n]) R v)(F:VM->List Int->VM × Int):∃ a,VM.iF 1 F v=F a [n]/\Rs D L R a/\BH v a:=by
 have b:=Ed v.x.mem 60000 60 (-3) (-4) L n h.dl.2;refine⟨{ v with d:=⟨60000,60,L.length,-3,-4⟩ },?_,⟨h.fQ,h.dD,h.cF,h.root,h.cy,h.dL,h.cV,rfl,h.r,⟨by have:=h.dl.1;rw[List.length_append]at this;omega,jS h.dl.2⟩,h.rl⟩,⟨rfl,rfl,rfl,rfl⟩⟩;have e:v.d.depth=(L.length:Int)+1:=by rw[h.d];simp only[List.length_append,List.length_cons,List.length_nil];omega
 have c:VM.fo v.x.mem v.d 1=[n]:=by
  show [(dK.cM v.x.mem v.d _).1]=_;have:dK.cM v.x.mem v.d (((1:Nat):Int)-1-((0:Nat):Int))=(n,0):=by rw[h.d];exact b
  rw[this]
 unfold VM.iF;rw[if_neg (by omega),c];congr 2;rw[h.d];simp only[List.length_append,List.length_cons,List.length_nil];congr 1;omega
theorem Rs.inline(h:Rs D L R v){n:Int}(b:(v.ip,n) ∈ D.fx):∃ a,v.inline=(a,n,0)/\Rs D L R a/\a.ip=v.ip+8/\a.dU=v.dU/\a.cC=v.cC/\a.cI=v.cI:=by
 have d:=h.fQ.fx _ b;have e:=h.fQ.xQ;have c:=h.fQ.al.ok;unfold Sp.Ok at c;refine⟨{ v with ip:=v.ip+8 },?_,{ h with },rfl,rfl,rfl,rfl⟩;show(({ v with ip:=wrap64 (v.ip+8) }:VM),v.x.mem.cell v.ip)=_;rw[h.fQ.cell b,IntWalk.wrap64_in _ (by omega)]
end Fo
namespace Fo
def To(q q':VM × Int):Prop:=(q'.2=0\/q'.1.cC<4)->∀ Q,VM.sJ q' Q->VM.sJ q Q
theorem To.trans{a c:VM × Int}{b:VM}(h:To a (b,0))(k:To (b,0) c):To a c:=fun e Q hQ=>h (.inl rfl) Q (k e Q hQ)
structure At(v:VM)(a b c d:Int):Prop where
 ip:v.ip=a
 dU:v.dU=b
 cC:v.cC=c
 cI:v.cI=d
theorem At.same{v w:VM}{a b c d:Int}(h:At v a b c d)(k:BH v w):At w a b c d:=⟨k.ip.trans h.ip,k.dU.trans h.dU,k.cC.trans h.cC,k.cI.trans h.cI⟩
variable {D:eF} {L R:List Int} {v:VM} {i s h_ f:Int}
theorem Rs.step(h:Rs D L R v)(ha:At v i s h_ f)(hi:i≠0){k:Int}(hm:(i,k) ∈ D.fx)(hf:0<f):∃ v1,Rs D L R v1/\At v1 (i+8) s h_ (f-1)/\∀ q,VM.jz v1 k q->To (v,0) q:=by
 obtain⟨w,e,h1,a1,a2,a3,a4⟩:=h.inline (n:=k) (by rw[ha.ip];exact hm)
 refine⟨{ w with cI:=w.cI-1 },{ h1 with },⟨by show w.ip=_;rw[a1,ha.ip],by show w.dU=_;rw[a2,ha.dU],by show w.cC=_;rw[a3,ha.cC],by show w.cI-1=_;rw[a4,ha.cI]⟩,fun q hq e0 Q hQ=>?_⟩
 by_cases hz:q.2=0
 . exact VM.sJ.step v w k q Q (by rw[ha.ip];exact hi) h.dL e (by rw[a4,ha.cI];exact hf) hq hz hQ
 . have hh:=e0.resolve_left hz
   cases hQ with
   | stop _ _=>exact VM.sJ.err v w k q (by rw[ha.ip];exact hi) h.dL e (by rw[a4,ha.cI];exact hf) hq hz hh
   | step v' _ _ _ _=>exact absurd rfl hz
   | err v' _ _ _=>exact absurd rfl hz
theorem Rs.cell(h:Rs D L R v){a n:Int}(b:(a,n) ∈ D.fx):v.cell a=(n,0):=h.fQ.cell b
theorem ki(h:Rs D L R v){k:Int}{nm:List UInt8}(b:(k,num nm) ∈ D.fx)(c:nm ∈ names){pk:Pk}(a:ky nm=some pk)(d:VM.lP pk=true):VM.jz v k (VM.Fb VM.zL pk v) :=
 .PH (num nm) pk (h.cell b) (by rw[qx nm c];exact a) d
theorem PU(h:Rs D L R v)(a:At v i s h_ f){k n:Int}(r:(k,num [108,105,116]) ∈ D.fx)(t:(i,n) ∈ D.fx)(y:L.length<60)(p:dB n):∃ b,VM.jz v k (b,0)/\Rs D (L++[n]) R b/\At b (i+8) s h_ f:=by
 have c:=ki h r (by decide +kernel) (pk:=.push 297) (by rfl) (by decide);obtain⟨w,e,m,d,g,a3,j⟩:=h.inline (n:=n) (by rw[a.ip];exact t);obtain⟨u,l,o,x⟩:=m.push [n] (by simp only[List.length_cons,List.length_nil];omega) (jR p);have q:VM.Fb VM.zL (.push 297) v=(u,0):=by
  show VM.oT VM.inline v=_;unfold VM.oT;rw[e,if_neg (by simp),l]
 rw[q]at c;exact⟨u,c,o,At.same ⟨by rw[d,a.ip],by rw[g,a.dU],by rw[a3,a.cC],by rw[j,a.cI]⟩ x⟩
theorem MA{n:Int}(h:Rs D L (R++[n]) v)(g:At v i s h_ f){k:Int}(l:(k,num [101,120,105,116]) ∈ D.fx):∃ b,VM.jz v k (b,0)/\Rs D L R b/\At b n s h_ f:=by
 have c:=ki h l (by decide +kernel) (pk:=.plain 295) (by rfl) (by decide);obtain⟨w,e,d,m⟩:=h.jO;have j:VM.Fb VM.zL (.plain 295) v=({ w with ip:=n },0):=by
  show(({ v.jO.1 with ip:=v.jO.2.1 }:VM),v.jO.2.2)=_;rw[e]
 rw[j]at c;have a:=g.same m;exact⟨_,c,{ d with },⟨rfl,a.dU,a.cC,a.cI⟩⟩
theorem xZ{a n:Int}(h:Rs D L (R++[a,n]) v)(p:At v i s h_ f){k:Int}(t:(k,num [40,101,120,105,116,109,41]) ∈ D.fx):∃ c,VM.jz v k (c,0)/\Rs D L R c/\At c n a h_ f:=by
 have g:=ki h t (by decide +kernel) (pk:=.plain 365) (by rfl) (by decide);have y:v.r.depth=(R.length:Int)+2:=by rw[h.r];simp only[List.length_append,List.length_cons,List.length_nil];omega
 have h:Rs D L ((R++[a])++[n]) v:=by rw[List.append_assoc];exact h
 obtain⟨w,e,l,x⟩:=h.jO;have m:Rs D L (R++[a]) { w with ip:=n }:={ l with };obtain⟨u,j,o,b⟩:=m.jO;have q:VM.Fb VM.zL (.plain 365) v=({ u with dU:=a },0):=by
  show(if v.r.depth<2 then(v,-6)else({ ({ v.jO.1 with ip:=v.jO.2.1 }:VM).jO.1 with dU:=({ v.jO.1 with ip:=v.jO.2.1 }:VM).jO.2.1 },(0:Int)))=_;rw[if_neg (by omega),e];simp only;rw[j]
 rw[q]at g;have d:=p.same x;exact⟨_,g,{ o with },⟨by show u.ip=n;exact b.ip,rfl,by show u.cC=_;exact b.cC.trans d.cC,by show u.cI=_;exact b.cI.trans d.cI⟩⟩
theorem PW{n:Int}(h:Rs D (L++[n]) R v)(m:At v i s h_ f){k:Int}(p:(k,num [49,43]) ∈ D.fx)(x:0<=n)(y:n<=1000000):∃ c,VM.jz v k (c,0)/\Rs D (L++[n+1]) R c/\At c i s h_ f:=by
 have d:=ki h p (by decide +kernel) (pk:=.one [49,43]) (by rfl) (by decide);obtain⟨w,e,q,r⟩:=h.Mz (VM.tg (fun b a _=>(Ay.pU b a,0)) [49,43]);have g:=h.dl.1;rw[List.length_append]at g;obtain⟨u,j,l,t⟩:=q.push [n+1] (by simpa using g) (jR (by unfold dB;omega));have o:VM.Fb VM.zL (.one [49,43]) v=(u,0):=by
  show VM.iF 1 (VM.tg (fun b a _=>(Ay.pU b a,0)) [49,43]) v=_;rw[e];show w.push [wrap64 (n+1)]=_;rw[IntWalk.wrap64_in _ (by omega),j]
 rw[o]at d;exact⟨u,d,l,(m.same r).same t⟩
theorem PX(h:Rs D L R v)(a:At v i s h_ f){xt o:Int}(l:(xt,1004) ∈ D.fx)(k:R.length+2<=200)(g:dB s)(j:dB i):∃ b,v.method xt o=(b,0)/\Rs D L (R++[s,i]) b/\At b (xt+8) o h_ f:=by
 obtain⟨w,e,m,p⟩:=h.fX [s,i] (by simpa using k) (fun n d=>by simp only[List.mem_cons,List.not_mem_nil,or_false]at d;rcases d with rfl | rfl;exact g;exact j);have c:=a.same p;refine⟨{ w with dU:=o,ip:=xt+8 },?_,{ m with },⟨rfl,rfl,c.cC,c.cI⟩⟩;unfold VM.method;rw[h.cell l,if_neg (by simp),a.dU,a.ip,e,if_neg (by simp)]
end Fo
namespace Fo
def val(dM:List Act)(TL:List dr):Nat->Int->Int->Option Int
 | 0,_,_=>none
 | k+1,c,s=>match Ref.dH TL c s with
  | none=>none
  | some (j,kk)=>match dM[j.toNat]? with
   | none=>none
   | some a=>if a.lP then(val dM TL k (Ref.get TL kk).cE s).map (·+1)else some a.n
variable {pf:List UInt8->Option Int} {dM:List Act} {TL:List dr} {D:eF} {S:List (List UInt8)} {τ:Nat->Int} {x1:Int}
theorem Ee(hA:∀ a ∈ dM,a.n<=65535):∀ (k:Nat) (c s n:Int),val dM TL k c s=some n->0<=n/\n<=65535+k
 | 0,_,_,_,h=>by cases h
 | k+1,c,s,n,h=>by
  unfold val at h;split at h
  . cases h
  . split at h
    . cases h
    . rename_i a ha
      split at h
      . cases hv:val dM TL k (Ref.get TL _).cE s with
        | none=>rw[hv]at h;cases h
        | some m =>
         rw[hv]at h;have:=Ee hA k _ _ _ hv;simp only[Option.map_some,Option.some.injEq]at h
         omega
      . injection h with h
        have:=hA a (List.mem_of_getElem? ha);omega
theorem ou.dH(f:ou pf dM TL D S τ x1)(u:Ref.Ok D.L)(i:Ref.Ok TL)(b:Act)(r:dz (b.cZ % 5) ∈ S)(c:Int)(o : -1<=c)(s:c<TL.length) :
 Ref.dH D.L c (sg S b.s1)=(Ref.dH TL c b.s1).map fun p=>(τ p.1.toNat,p.2):=by
 refine Ref.xd TL i (P:=fun c=>Ref.dH D.L c (sg S b.s1)=(Ref.dH TL c b.s1).map fun p=>(τ p.1.toNat,p.2)) ?_ ?_ c o s
 . rw[Ref.gD _ (-1) _ (by omega),Ref.gD _ (-1) _ (by omega)]
   rfl
 . intro k d w
   rw[Ref.lu D.L u k _ (by rw[f.len];exact d),Ref.lu TL i k _ d,f.own k d,f.cg k d];have t:∀ p ∈ (Ref.get TL k).own,sg S p.1=sg S b.s1 ↔ p.1=b.s1:=by
    intro p g;obtain⟨j,a,B,C,n,z,_⟩:=f.Jk k d p g;constructor
    . intro e
      rw[n,mq,mq]at e;have:=BD (hU _ (by omega)).2.2.1 (hU _ (by omega)).2.2.1 z r e;have:=xX (by omega) (by omega) this;rw[n];unfold Act.s1;omega
    . intro e;rw[e]
   have A:∀ l:List (Int × Int),(∀ p ∈ l,sg S p.1=sg S b.s1 ↔ p.1=b.s1)->Ref.own (l.map fun p=>(sg S p.1,τ p.2.toNat)) (sg S b.s1)=(Ref.own l b.s1).map fun x=>τ x.toNat:=by
    intro l;induction l with
    | nil=>intro _;rfl
    | cons p l y =>
     intro m;have g:=m p (by simp);rw[List.map_cons,Ref.own,Ref.own];by_cases h:p.1=b.s1
     . rw[if_pos (g.2 h),if_pos h];rfl
     . rw[if_neg (fun e=>h (g.1 e)),if_neg h]
       exact y fun q v=>m q (by simp[v])
   rw[A _ t];cases Ref.own (Ref.get TL k).own b.s1 with
   | some x=>rfl
   | none=>exact w
theorem ou.IF(h:ou pf dM TL D S τ x1)(i:Ref.Ok TL)(b:Act)(e:dz (b.cZ % 5) ∉ S)(c:Int)(f : -1<=c)(k:c<TL.length):Ref.dH TL c b.s1=none:=by
 cases l:Ref.dH TL c b.s1 with
 | none=>rfl
 | some p =>
  obtain⟨n,o,g⟩:=pa TL i b.s1 c f k p l;obtain⟨j,a,q,r,d,m,_⟩:=h.Jk p.2.toNat (by omega) (b.s1,p.1) (by rw[show((p.2.toNat:Nat):Int)=p.2 by omega];exact g);have:b.cZ % 5=a.cZ % 5:=by
   have d:b.s1=a.s1:=d;unfold Act.s1 at d;omega
  rw[this]at e;exact absurd m e
theorem ou.MB(k:ou pf dM TL D S τ x1)(l:Ref.Ok TL)(b:Act)(c:Int)(f : -1<=c)(m:c<TL.length){p:Int × Int}(n:Ref.dH TL c b.s1=some p) :
 ∃ a:Act,dM[p.1.toNat]?=some a/\a.s1=b.s1/\dz (a.cZ % 5) ∈ S/\0<=p.2/\p.2<=c/\Code pf D S x1 p.2.toNat a (τ p.1.toNat):=by
 obtain⟨g,h,i⟩:=pa TL l b.s1 c f m p n;obtain⟨j,a,d,o,q,r,s⟩:=k.Jk p.2.toNat (by omega) (b.s1,p.1) (by rw[show((p.2.toNat:Nat):Int)=p.2 by omega];exact i);have d:p.1=(j:Int):=d;have e:p.1.toNat=j:=by omega
 exact⟨a,by rw[e];exact o,q.symm,r,g,h,by rw[e];exact s⟩
theorem lb{x:Sp}(h:D.In x)(c:Int)(j : -1<=c)(k:c<D.L.length)(s:Int) :
 (Class.lookup x.mem (Class.iq D.A c) s).2.2=(Ref.dH D.L c s).isSome/\∀ p,Ref.dH D.L c s=some p->(Class.lookup x.mem (Class.iq D.A c) s).1.xt=p.1:=by
 by_cases b:c<0
 . have e:c = -1:=by omega
   subst e;rw[Ref.gD _ _ _ b];refine⟨?_,fun p a=>by cases a⟩;unfold Class.iq;rw[if_pos b];have g:(Class.cT x.mem 0).2=false:=by
    unfold Class.cT;split
    . rfl
    . rw[h.zero]
      exact(show decide ((0:Int)=Class.j9)=false by decide)
   unfold Class.lookup;rw[if_pos g];rfl
 . obtain⟨n,rfl⟩:∃ n:Nat,c=(n:Int):=⟨c.toNat,by omega⟩
   rw[Class.Good.iw];obtain⟨d,f⟩:=h.iE.lookup (i:=n) (by omega) s;exact⟨d,fun p a=>by rw[f p a]⟩
theorem IG{L R:List Int}{v:VM}{i s l f b c k:Int}(h:Rs D L R v)(a:At v i s l f)(E:(k,num [40,115,117,112,101,114,41]) ∈ D.fx)(A:(i,b) ∈ D.fx)(B:(i+8,c) ∈ D.fx) :
 ∃ w,Rs D L R w/\At w (i+16) s l f/\VM.jz v k (if(Class.lookup w.x.mem b c).2.2=false then(w,-2049)else w.method (Class.lookup w.x.mem b c).1.xt s):=by
 have m:=ki h E (by decide +kernel) (pk:=.plain 364) (by rfl) (by decide);obtain⟨w,e,y,d,g,a3,o⟩:=h.inline (n:=b) (by rw[a.ip];exact A);obtain⟨u,t,z,p,j,q,r⟩:=y.inline (n:=c) (by rw[d,a.ip];exact B);refine⟨u,z,⟨by rw[p,d,a.ip];omega,by rw[j,g,a.dU],by rw[q,a3,a.cC],by rw[r,o,a.cI]⟩,?_⟩;have C:VM.Fb VM.zL (.plain 364) v=if(Class.lookup u.x.mem b c).2.2=false then(u,-2049)else u.method (Class.lookup u.x.mem b c).1.xt s:=by
  show(if v.inline.2.2≠0 then(v.inline.1,v.inline.2.2)else if v.inline.1.inline.2.2≠0 then(v.inline.1.inline.1,v.inline.1.inline.2.2)else
   if(Class.lookup v.inline.1.inline.1.x.mem v.inline.2.1 v.inline.1.inline.2.1).2.2=false then(v.inline.1.inline.1,-2049)else v.inline.1.inline.1.method (Class.lookup v.inline.1.inline.1.x.mem v.inline.2.1 v.inline.1.inline.2.1).1.xt v.inline.1.inline.1.dU)=_
  rw[e,if_neg (by simp)];simp only;rw[t,if_neg (by simp)];simp only;rw[j,g,a.dU]
 rw[C]at m;exact m
def Ends(D:eF)(L R:List Int)(i s h_ f:Int)(k:Nat)(v1:VM):Option Int->Prop
 | some n=>∃ v2 f',To (v1,0) (v2,0)/\Rs D (L++[n]) R v2/\At v2 i s h_ f'/\f-10*k<=f'
 | none=>∃ u R' Vj s' f',To (v1,0) (u,-2049)/\Rs D L (R++R') u/\At u Vj s' h_ f'/\f-10*k<=f'
theorem vO(hR:ou pf dM TL D S τ x1)(hok:Ref.Ok D.L)(hT:Ref.Ok TL)(hA:∀ a ∈ dM,a.n<=65535)(b:Act)(hb:dz (b.cZ % 5) ∈ S):∀ (k:Nat) (c:Int),-1<=c->c<TL.length->c+1<=k->∀ p,Ref.dH TL c b.s1=some p ->
 ∀ (L R:List Int) (v:VM) (i s h_ f o:Int),Rs D L R v->At v i s h_ f->dB i->dB s->dB o->L.length+1<=60->R.length+2*k<=200->10*(k:Int)<f->k<=1000 ->
 ∃ v1,v.method (τ p.1.toNat) o=(v1,0)/\Ends D L R i s h_ f k v1 (val dM TL k c b.s1)
 | 0,c,c0,hc,hk,p,hp=>by
  rw[Ref.gD TL c _ (by omega)]at hp
  cases hp
 | k+1,c,c0,hc,hk,p,hp=>by
  intro L R v i s h_ f o hv ha Vk Vl TV hL hRl hf hk1;obtain⟨a,a1,a2,a3,a4,a5,code⟩:=hR.MB hT b c c0 hc hp
  have hval:val dM TL (k+1) c b.s1=if a.lP then(val dM TL k (Ref.get TL p.2).cE b.s1).map (·+1)else some (a.n:Int):=by
   rw[val,hp];simp only
   rw[a1]
  rw[hval];obtain⟨xt,hxt⟩:∃ xt,xt=τ p.1.toNat:=⟨_,rfl⟩;rw[<- hxt]at code |-;obtain⟨_,b1,b2,_⟩:=hv.fQ.fx _ code.head;have b1:32<=xt:=b1;have b2:xt+8<=v.x.cu:=b2;have tf:=hv.fQ.xQ;have hok2:=hv.fQ.al.ok;unfold Sp.Ok at hok2;obtain⟨v1,e1,h1,Wj⟩:=PX hv ha (o:=o) code.head (by omega) Vl Vk
  refine⟨v1,e1,?_⟩;obtain⟨ke,Wl,Yf,Wm⟩:=hR.dD.tok [40,101,120,105,116,109,41] (by simp)
  have hcells:=code.cells
  cases hsup:a.lP with
  | false =>
   rw[if_neg (by simp)]
   obtain⟨kl,Xr,Yg,Xs⟩:=hR.dD.tok [108,105,116] (by simp)
   have hcl:a.body.cells pf x1 D.A D.L p.2.toNat (sg S a.s1)=[kl,(a.n:Int),ke]:=by
    unfold Body.cells;rw[if_neg (by show ¬ a.lP=true;rw[hsup];simp),Xr,Wl]
    rfl
   rw[hcl]at hcells;have c0:(xt+8,kl) ∈ D.fx:=by have:=hcells 0 (by simp);simpa using this
   have c1:(xt+8+8,(a.n:Int)) ∈ D.fx:=by have:=hcells 1 (by simp);simpa using this
   have c2:(xt+8+8+8,ke) ∈ D.fx:=by have:=hcells 2 (by simp);rw[show xt+8+8+8=xt+8+8*((2:Nat):Int) by omega];simpa using this
   have hn:=hA a (List.mem_of_getElem? a1);obtain⟨w1,g1,at2,t1⟩:=h1.step Wj (by omega) c0 (by omega)
   obtain⟨w2,Xt,g2,at3⟩:=PU g1 at2 Xs c1 (by omega) (by unfold dB;omega)
   obtain⟨w3,g3,at4,t2⟩:=g2.step at3 (by omega) c2 (by omega)
   obtain⟨w4,Xu,g4,Vn⟩:=xZ g3 at4 Wm;exact⟨w4,_,(t1 _ Xt).trans (t2 _ Xu),g4,Vn,by omega⟩
  | true =>
   rw[if_pos rfl];obtain⟨ks,Xv,Yh,Xw⟩:=hR.dD.tok [40,115,117,112,101,114,41] (by simp)
   obtain⟨wo,Xx,Yi,Yj,Wn⟩:=hR.dD.one
   have hx1:wo.xt=x1:=by
    obtain⟨w,q1,q2⟩:=hR.one;rw[Xx]at q1;injection q1 with q1
    rw[q1];exact q2
   rw[hx1]at Wn;have hpl:p.2.toNat<TL.length:=by omega
   have hpa:(Ref.get D.L p.2.toNat).cE=(Ref.get TL p.2).cE:=by
    have:=hR.cg p.2.toNat hpl;rw[this,show((p.2.toNat:Nat):Int)=p.2 by omega]
   have hcl:a.body.cells pf x1 D.A D.L p.2.toNat (sg S a.s1)=[ks,Class.iq D.A (Ref.get TL p.2).cE,sg S b.s1,x1,ke]:=by
    unfold Body.cells;rw[if_pos (by show a.lP=true;exact hsup),Xv,Wl,hpa,a2]
    rfl
   rw[hcl]at hcells;have c0:(xt+8,ks) ∈ D.fx:=by have:=hcells 0 (by simp);simpa using this
   have c1:(xt+8+8,Class.iq D.A (Ref.get TL p.2).cE) ∈ D.fx:=by have:=hcells 1 (by simp);simpa using this
   have c2:(xt+8+8+8,sg S b.s1) ∈ D.fx:=by have:=hcells 2 (by simp);rw[show xt+8+8+8=xt+8+8*((2:Nat):Int) by omega];simpa using this
   have c3:(xt+8+8+16,x1) ∈ D.fx:=by have:=hcells 3 (by simp);rw[show xt+8+8+16=xt+8+8*((3:Nat):Int) by omega];simpa using this
   have c4:(xt+8+8+16+8,ke) ∈ D.fx:=by have:=hcells 4 (by simp);rw[show xt+8+8+16+8=xt+8+8*((4:Nat):Int) by omega];simpa using this
   have hpb:=hT p.2.toNat hpl;rw[<- Ref.get_at TL p.2.toNat hpl,show((p.2.toNat:Nat):Int)=p.2 by omega]at hpb
   obtain⟨w1,g1,at2,t1⟩:=h1.step Wj (by omega) c0 (by omega)
   obtain⟨w2,g2,at3,en⟩:=IG g1 at2 Xw c1 c2;obtain⟨l1,l2⟩:=lb g2.fQ (Ref.get TL p.2).cE hpb.1 (by rw[hR.len];omega) (sg S b.s1)
   have hw:=hR.dH hok hT b hb (Ref.get TL p.2).cE hpb.1 (by omega)
   cases hpw:Ref.dH TL (Ref.get TL p.2).cE b.s1 with
   | none =>
    rw[hpw]at hw;rw[hw]at l1;rw[l1]at en
    have hv0:val dM TL k (Ref.get TL p.2).cE b.s1=none:=by
     cases k with
     | zero=>rfl
     | succ k=>rw[val,hpw]
    rw[hv0];exact⟨w2,[s,i],_,_,_,t1 _ en,g2,at3,by omega⟩
   | some r =>
    rw[hpw]at hw;have hw:Ref.dH D.L (Ref.get TL p.2).cE (sg S b.s1)=some (τ r.1.toNat,r.2):=hw;rw[hw]at l1;rw[l2 _ hw,l1]at en;have en:VM.jz w1 ks (w2.method (τ r.1.toNat) o):=en;obtain⟨u1,m1,m2⟩:=vO hR hok hT hA b hb k (Ref.get TL p.2).cE hpb.1 (by omega) (by omega) r hpw L (R++[s,i]) w2 (xt+8+8+16) o h_ (f-1) o g2 at3 (by unfold dB;omega) TV TV hL (by simp only[List.length_append,List.length_cons,List.length_nil];omega) (by omega) (by omega)
    rw[m1]at en
    cases hv0:val dM TL k (Ref.get TL p.2).cE b.s1 with
    | none =>
     rw[hv0]at m2;obtain⟨u,R',Vj,s',f',y1,y2,y3,y4⟩:=m2;exact⟨u,[s,i]++R',Vj,s',f',(t1 _ en).trans y1,by rw[<- List.append_assoc];exact y2,y3,by omega⟩
    | some n =>
     rw[hv0]at m2;obtain⟨u2,f',y1,y2,y3,y4⟩:=m2;have hnb:=Ee hA k _ _ n hv0;obtain⟨w3,g3,at4,t3⟩:=y2.step y3 (by omega) c3 (by omega)
     obtain⟨w4,Xy,g4,Vn⟩:=PW g3 at4 Wn hnb.1 (by omega)
     obtain⟨w5,g5,Xz,t5⟩:=g4.step Vn (by omega) c4 (by omega)
     obtain⟨w6,XA,g6,XB⟩:=xZ g5 Xz Wm;exact⟨w6,_,((t1 _ en).trans y1).trans ((t3 _ Xy).trans (t5 _ XA)),g6,XB,by omega⟩
end Fo
namespace Fo
variable {pf:List UInt8->Option Int} {dM:List Act} {TL:List dr} {D:eF} {S:List (List UInt8)} {τ:Nat->Int} {x1:Int} {L R:List Int} {v:VM} {i s h_ f:Int}
theorem ou.look(hR:ou pf dM TL D S τ x1){x:Sp}(hx:D.In x)(b:Act)(c:Nat)(hc:c<TL.length) :
 (Class.lookup x.mem (dG D.A c) (fi S (dz (b.cZ % 5)))).2.2=(Ref.dH TL c b.s1).isSome/\∀ p,Ref.dH TL c b.s1=some p->(Class.lookup x.mem (dG D.A c) (fi S (dz (b.cZ % 5)))).1.xt=τ p.1.toNat:=by
 have hT:=hR.FN hx;obtain⟨l1,l2⟩:=lb hx (c:Int) (by omega) (by rw[hR.len];omega) (fi S (dz (b.cZ % 5)))
 rw[Class.Good.iw]at l1 l2;by_cases hb:dz (b.cZ % 5) ∈ S
 . have hw:=hR.dH hx.iE.uD hT b hb (c:Int) (by omega) (by omega)
   rw[mq]at hw;refine⟨?_,fun p hp=>?_⟩
   . rw[l1,hw,Option.isSome_map]
   . rw[hp]at hw
     exact l2 _ hw
 . have hn:=hR.IF hT b hb (c:Int) (by omega) (by omega)
   have h0:fi S (dz (b.cZ % 5))=0:=by
    unfold fi;rw[(hU _ (by omega)).2.2.1,if_neg hb]
   rw[hn];refine⟨?_,fun p hp=>by cases hp⟩
   rw[l1,h0]
   cases hw:Ref.dH D.L (c:Int) 0 with
   | none=>rfl
   | some p =>
    obtain⟨g1,g2,g3⟩:=pa D.L hx.iE.uD 0 c (by omega) (by rw[hR.len];omega) p hw
    have:=hR.BC p.2.toNat (by rw[hR.len];omega) (0,p.1) (by rw[show((p.2.toNat:Nat):Int)=p.2 by omega];exact g3)
    simp only at this
    omega
theorem ye(h:Rs D L R v)(ha:At v i s h_ f){xt n:Int}(h1:(xt,1003) ∈ D.fx)(h2:(xt+8,n) ∈ D.fx)(h64:dB n)(hL:L.length<60):∃ v2,VM.jz v xt (v2,0)/\Rs D (L++[n]) R v2/\At v2 i s h_ f:=by
 obtain⟨u,e2,g2,sm⟩:=h.push [n] (by simp only[List.length_cons,List.length_nil];omega) (jR h64)
 have he:=VM.jz.value (v:=v) (xt:=xt) n (h.cell h1) (h.cell h2);rw[e2]at he;exact⟨u,he,g2,ha.same sm⟩
theorem Nd(hR:ou pf dM TL D S τ x1)(b:Act)(hb:dz (b.cZ % 5) ∈ S){c:Nat}(hc:c<TL.length){o k:Int}(h:Rs D (L++[o]) R v)(ha:At v i s h_ f)(hm:(k,num [40,115,101,110,100,41]) ∈ D.fx)(h1:(i,sg S b.s1) ∈ D.fx)(ho:(o,dG D.A c) ∈ D.fx) :
 ∃ w,Rs D L R w/\At w (i+8) s h_ f/\VM.jz v k (match Ref.dH TL c b.s1 with | none=>(w,-2049) | some p=>w.method (τ p.1.toNat) o):=by
 have he:=ki h hm (by decide +kernel) (pk:=.with_ 1 360) (by rfl) (by decide)
 obtain⟨w,e,hw,sm⟩:=h.Mz (VM.OW VM.zL 360);have a2:=ha.same sm;obtain⟨u,e2,g2,b1,b2,b3,b4⟩:=hw.inline (n:=sg S b.s1) (by rw[a2.ip];exact h1)
 refine⟨u,g2,⟨by rw[b1,a2.ip],by rw[b2,a2.dU],by rw[b3,a2.cC],by rw[b4,a2.cI]⟩,?_⟩
 have hd:VM.Fb VM.zL (.with_ 1 360) v=u.send o (sg S b.s1):=by
  show VM.iF 1 (VM.OW VM.zL 360) v=_
  rw[e]
  show(if w.inline.2.2≠0 then(w.inline.1,w.inline.2.2)else w.inline.1.send o w.inline.2.1)=_
  rw[e2,if_neg (by simp)]
 have hcl:Obj.j7 u.x.mem 8 o=(dG D.A c,0):=Obj.Of g2.fQ.iE (by rw[hR.len];exact hc) (g2.fQ.cell ho)
 obtain⟨l1,l2⟩:=hR.look g2.fQ b c hc;rw[<- mq]at l1 l2;rw[hd]at he;unfold VM.send Obj.send at he;rw[g2.root,hcl]at he;simp only[ne_eq,not_true_eq_false,if_false]at he
 cases hw2:Ref.dH TL c b.s1 with
 | none =>
  rw[hw2]at l1;rw[l1]at he;simpa using he
 | some p =>
  rw[hw2]at l1;rw[l1,l2 p hw2]at he;simpa using he
theorem jT(c:Nat)(h:c<=65535):gr (cG (gi c))=none/\il (cG (gi c))=none:=by
 rw[(oZ c h).2.2];have key:∀ nm:List UInt8,(nm.take 2≠[111,107])->¬ gi c=nm:=fun nm hn e=>by rw[<- e]at hn;exact hn rfl
 refine⟨?_,?_⟩
 . unfold gr mY
   repeat rw[if_neg (key _ (by decide))]
 . unfold il jj
   repeat rw[if_neg (key _ (by decide))]
variable {q:Q}
theorem jU(q:Q)(t:List UInt8):gY (q.1.again t,q.2) t:=by show t.drop 0=t;rw[List.drop_zero]
theorem lU{m:Option (Int × Int × Int)}{o:Int}(h:St pf D S o m f q)(t:List UInt8):St pf D S o m f (q.1.again t,q.2):=h.src t 0
end Fo
end Go.Proofs.dS
