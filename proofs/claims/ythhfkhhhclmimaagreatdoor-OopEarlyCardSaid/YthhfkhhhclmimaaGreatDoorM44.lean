/- A part of EarlyG. No condition. -/
import Derived.Test.YthhfkhhhclmimaaGreatDoorM43
import Derived.Test.YthhfkhhhclmimaaGreatDoorM34
set_option linter.unusedVariables false
set_option linter.unusedSimpArgs false
open Go.Proofs.Tryz
set_option maxRecDepth 10000
namespace Go.Proofs.dS
open Go.RowKit Go.Proofs.tI
namespace VM
def zL:VM->Int->VM × Int:=fun v _=>(v,-14)
def lP:Pk->Bool
 | .plain f=>decide (f=295) || decide (f=351) || decide (f=364) || decide (f=365)
 | .with_ n f=>decide (n=1) && (decide (f=356) || decide (f=360) || decide (f=362) || decide (f=346))
 | .push f=>decide (f=297)
 | .moves _ _=>false
 | .look f=>decide (f=324)
 | .two _=>false
 | .one op=>decide (op=[49,43])
inductive jz(v:VM)(xt:Int):VM × Int->Prop
 | pW:v.cell xt=(1001,0)->jz v xt (v.fA xt)
 | value (n:Int):v.cell xt=(1003,0)->v.cell (xt+8)=(n,0)->jz v xt (v.push [n])
 | field (n:Int):v.cell xt=(1005,0)->v.cell (xt+8)=(n,0)->jz v xt (v.push [wrap64 (n+v.dU)])
 | PH (c:Int) (pk:Pk):v.cell xt=(c,0)->ky (fc c)=some pk->lP pk=true->jz v xt (Fb zL pk v)
 | cV (c n:Int) (u:VM):v.cell xt=(c,0)->ky (fc c)=some (.with_ 1 350)->1<=v.d.depth->(dK.cM v.x.mem v.d 0).1=n ->
  fX { v with d:={ v.d with depth:=v.d.depth-1 } } [v.ip,v.dU,v.d.depth-1,v.cC]=(u,0)->u.cell n=(1001,0)->jz v xt (VM.fA { u with cC:=u.r.depth,ip:=u.cV } n)
theorem jz.cI{v:VM}{xt:Int}{q:VM × Int}(h:jz v xt q):q.1.cI=v.cI:=by
 cases h with
 | pW h=>exact om _ _
 | value n a b=>rfl
 | field n a b=>rfl
 | PH c pk a b e=>exact Yu zL (fun _ _=>rfl) pk v
 | cV c n u a b e g f i =>
  rw[om];have:(fX { v with d:={ v.d with depth:=v.d.depth-1 } } [v.ip,v.dU,v.d.depth-1,v.cC]).1.cI=v.cI:=rfl;rw[f]at this;exact this
inductive sJ:VM × Int->VM × Int->Prop
 | stop (q:VM × Int):¬ (q.2=0/\q.1.ip≠0/\q.1.dL=false)->sJ q q
 | step (v v1:VM) (xt:Int) (q Q:VM × Int):v.ip≠0->v.dL=false->v.inline=(v1,xt,0)->0<v1.cI->jz { v1 with cI:=v1.cI-1 } xt q->(ez q).2=0->sJ (ez q) Q->sJ (v,0) Q
def Bt(v:VM)(xt:Int)(Q:VM × Int):Prop:=0<v.cI/\∃ q,jz { v with ip:=0,dU:=0,cC:=0,cI:=v.cI-1 } xt q/\(ez q).2=0/\sJ (ez q) Q
end VM
def xV(r:Rd)(s:List UInt8)(n:Int)(Q:Rd × Int):Prop :=
 (r.comp=true/\r.di s [n]=Q) \/
 (r.comp=false/\∃ (r1 r2 r3 r4:Rd) (P:VM × Int),r.vm (r.v.fB r.v.x.align)=(r1,0)/\r1.cN 1001=(r2,0)/\r2.di s [n]=(r3,0)/\r3.di [101,120,105,116] []=(r4,0)/\VM.Bt r4.v r1.v.x.cu P/\r4.vm P=Q)
inductive ig(s:List UInt8)(q:Rd × Oo):(Rd × Oo) × Int->Prop
 | own (f:Nat):gr (cG s)=none->il (cG s)=some (.plain f)->(f=217\/f=218\/f=248)->ig s q (((Rd.Jj f q.1).1,q.2),(Rd.Jj f q.1).2)
 | comp (d:Wd):gr (cG s)=none->il (cG s)=none->q.1.v.x.mem.find s q.1.eE=some d->q.1.comp=true->d.cP % 2=0->q.1.oY d≠2->ig s q (((q.1.cN d.xt).1,q.2),(q.1.cN d.xt).2)
 | run (d:Wd) (Q:VM × Int):gr (cG s)=none->il (cG s)=none->q.1.v.x.mem.find s q.1.eE=some d->q.1.comp=false->¬ 0<q.1.oY d->VM.Bt q.1.v d.xt Q->ig s q (((q.1.vm Q).1,q.2),Q.2)
 | num (n:Int):gr (cG s)=none->il (cG s)=none->q.1.v.x.mem.find s q.1.eE=none->dE.lH s q.1.v.oj=(n,true)->ig s q (((q.1.gX [n]).1,q.2),(q.1.gX [n]).2)
 | obj (k:Nat):gr (cG s)=some k->(k=160\/k=162\/k=163\/k=164\/k=165\/k=170\/k=171)->ig s q (Oo.Wf k q)
 | Sm:gr (cG s)=some 161->q.2.eH=[]->ig s q (Oo.iS q)
 | send (Q:Rd × Int):gr (cG s)=some 168->(Oo.cR q).2.2=0->xV (Oo.cR q).1.1 [40,115,101,110,100,41] (Oo.cR q).2.1 Q->ig s q ((Q.1,(Oo.cR q).1.2),Q.2)
 | early (Q:Rd × Int):gr (cG s)=some 169->(Oo.cJ q.1).2.2=0->(Oo.cJ q.1).1.name.2.2=0->(Class.lookup (Oo.cJ q.1).1.next.v.x.mem (Oo.cJ q.1).2.1 (fi q.2.eb (Oo.cJ q.1).1.dt)).2.2=true ->
  xV (Oo.cJ q.1).1.next [40,99,97,108,108,41] (Class.lookup (Oo.cJ q.1).1.next.v.x.mem (Oo.cJ q.1).2.1 (fi q.2.eb (Oo.cJ q.1).1.dt)).1.xt Q->ig s q ((Q.1,q.2),Q.2)
inductive TS(s:List UInt8)(q:Rd × Oo):(Rd × Oo) × Int->Prop
 | Bu:gr (cG s)=some 169->(Oo.cJ q.1).2.2=0->(Oo.cJ q.1).1.name.2.2=0->(Class.lookup (Oo.cJ q.1).1.next.v.x.mem (Oo.cJ q.1).2.1 (fi q.2.eb (Oo.cJ q.1).1.dt)).2.2=false ->
  TS s q (((Oo.cJ q.1).1.next,q.2),-2049)
def Oo.fail(q:Rd × Oo)(e:Int):Rd × Oo:=((Oo.reset (q.1.lM e,q.2)).1.skip,(Oo.reset (q.1.lM e,q.2)).2)
def Oo.cH(q:Rd × Oo):Rd × Oo:=({ q.1.next with v:={ q.1.v with cI:=q.1.v.cI-1 } },q.2)
inductive fH:(Rd × Oo) × Int->(Rd × Oo) × Int->Prop
 | done (q:Rd × Oo) (l:Int):q.1.v.dL=false->q.1.dt=[]->fH (q,l) ((q.1.next,q.2),l)
 | ok (q p:Rd × Oo) (l:Int) (Q:(Rd × Oo) × Int):q.1.v.dL=false->q.1.dt≠[]->0<q.1.v.cI->ig q.1.dt (Oo.cH q) (p,0)->p.1.v.cI<q.1.v.cI->fH (p,l) Q->fH (q,l) Q
 | TT (q p:Rd × Oo) (l e:Int) (Q:(Rd × Oo) × Int):q.1.v.dL=false->q.1.dt≠[]->0<q.1.v.cI->TS q.1.dt (Oo.cH q) (p,e)->e≠0->e ≠ -2053->(-9223372036854775808<=e/\e<=9223372036854775807)->(Oo.fail p e).1.v.cI<q.1.v.cI ->
  fH (Oo.fail p e,e) Q->fH (q,l) Q
set_option maxHeartbeats 4000000
open Class (dG)
open Go.Proofs.tI
namespace Fo
abbrev Q:=Rd × Oo
structure St(pf:List UInt8->Option Int)(D:eF)(S:List (List UInt8))(o:Int)(m:Option (Int × Int × Int))(f:Int)(q:Q):Prop where
 fQ:D.In q.1.v.x
 dD:q.1.v.dD=16
 cF:q.1.v.cF=24
 root:q.1.v.root=8
 cy:q.1.v.cy=9
 dL:q.1.v.dL=false
 cV:q.1.v.cV=2824
 dd:q.1.v.d=⟨60000,60,0,-3,-4⟩
 rr:q.1.v.r=⟨60480,200,0,-5,-6⟩
 cI:q.1.v.cI=f
 Iu:q.1.pf=pf
 comp:q.1.comp=m.isSome
 eM:q.1.eM=m.isSome
 dy:q.1.dy=[]
 eE:∃ ls,q.1.eE=ls++[24]/\(∀ a ∈ ls,(a,0) ∈ D.fx)/\(o=0->m=none->ls=[])
 eN:q.2.eN=o
 dA:o≠0->∃ w ws,D.ws=w :: ws/\q.2.dA=w
 Wg:∀ c s t,m=some (c,s,t)->q.2.target=c/\q.2.cZ=s/\q.2.xt=t
 eH:q.2.eH=[]
 tO:∀ p l,q.2.dq p=some l->(l,0) ∈ D.fx
 UA:o=0->m=none->q.1.is=false
 eb:q.2.eb=S
def gY(q:Q)(t:List UInt8):Prop:=q.1.src.drop q.1.cM=t
theorem D8{D:eF}{x:Sp}(h:D.In x){a:Int}(b:(a,0) ∈ D.fx):x.mem.fR a=[]:=by
 rw[Mem.ur,h.cell b];simp only[ne_eq,not_true_eq_false,if_false];exact Mem.qg _ _ _ (by omega)
theorem nW{D:eF}{x:Sp}(h:D.In x)(s:List UInt8):∀ {ls:List Int},(∀ a ∈ ls,(a,0) ∈ D.fx)->x.mem.find s (ls++[24])=Mem.dv D.ws (cG s)
 | [],_=>by
  show x.mem.find s [24]=_
  unfold Mem.find;rw[h.fR]
  cases Mem.dv D.ws (cG s) <;> rfl
 | a :: ls,hl=>by
  show x.mem.find s (a :: (ls++[24]))=_
  rw[Mem.find,D8 h (hl a (by simp))]
  exact nW h s fun b hb=>hl b (by simp[hb])
theorem vH(m:Mem)(fl:Int × Int->Option Int)(root:Int):∀ (k:Nat) (c:Int),∀ a ∈ Oo.ku m fl root k c,∃ p,fl p=some a
 | 0,_,a,ha=>by cases ha
 | k+1,c,a,ha=>by
  unfold Oo.ku at ha;split at ha
  . cases ha
  . rcases List.mem_append.1 ha with h | h
    . cases hf:fl (root,c)with
      | none=>rw[hf]at h;cases h
      | some l =>
       rw[hf]at h;have:a=l:=by simpa using h
       subst this;exact⟨_,hf⟩
    . exact vH m fl root k _ a h
theorem Bv{q:Q}{s t:List UInt8}(c:gY q (s++32 :: t))(d:Src.d' s=true):q.1.dt=s/\gY (q.1.next,q.2) t/\∃ n,q.1.next={ q.1 with cM:=n }/\q.1.src.drop n=t:=by
 obtain⟨a,b⟩:=Src.mZ q.1.src s t q.1.cM d c;refine⟨by show(Src.dA q.1.src q.1.cM).1=s;rw[a],?_,q.1.cM+s.length+1,?_,b⟩
 . show q.1.src.drop (Src.dA q.1.src q.1.cM).2=t
   rw[a];exact b
 . show({ q.1 with cM:=(Src.dA q.1.src q.1.cM).2 }:Rd)=_
   rw[a]
end Fo
namespace Src
theorem PI(b s t:List UInt8)(a:Nat)(h:d' s=true)(e:b.drop a=s++10 :: t):dA b a=(s,a+s.length)/\b.drop (a+s.length)=10 :: t:=by
 have g:=qA b s _ a h e;have f:s.all (fun c=>!blank c)=true:=by unfold d' at h;simp only[Bool.and_eq_true]at h;exact h.2
 have i:(b.drop a).takeWhile (fun c=>!blank c)=s:=by rw[e];exact kv f (fun c r e=>by injection e with e _;subst e;rfl)
 have d:=vG b s _ a e;refine⟨?_,d⟩;unfold dA;simp only;rw[g,i,d,if_neg (show ¬ Option.any (fun c=>decide (c.toNat≠10)) ((10:UInt8) :: t).head?=true from fun e=>by cases e)]
end Src
namespace Fo
variable {pf:List UInt8->Option Int} {D:eF} {S:List (List UInt8)} {o f:Int} {m:Option (Int × Int × Int)} {q:Q}
theorem St.src(h:St pf D S o m f q)(s:List UInt8)(a:Nat):St pf D S o m f ({ q.1 with src:=s,cM:=a },q.2):={ h with }
theorem St.go(h:St pf D S o m f q){s t:List UInt8}(e:gY q (s++32 :: t))(g:Src.d' s=true):q.1.dt=s/\St pf D S o m (f-1) (Oo.cH q)/\gY (Oo.cH q) t:=by
 obtain⟨a,b,n,c,i⟩:=Bv e g;have d:=h.cI;refine⟨a,?_,b⟩;unfold Oo.cH;rw[c,d];exact { h with cI:=rfl }
theorem St.skip(h:St pf D S o m f q){s t:List UInt8}(d:gY q (s++32 :: t))(e:Src.d' s=true):q.1.dt=s/\St pf D S o m f (q.1.next,q.2)/\gY (q.1.next,q.2) t:=by
 obtain⟨a,b,n,c,g⟩:=Bv d e;refine⟨a,?_,b⟩;rw[c];exact { h with }
theorem Iv{s:List UInt8}(a:Src.d' s=true)(b:s.length<=31):Rd.gH s=false:=by
 unfold Rd.gH;have:s≠[]:=fun e=>by rw[e]at a;cases a
 simp[this,b]
theorem jZ{r:Rd}{s:List UInt8}(h:r.dt=s)(b:Src.d' s=true)(a:s.length<=31):r.name=(r.next,s,0):=by
 unfold Rd.name;rw[h,Iv b a];rfl
theorem vI{x:Sp}(h:D.In x){w:Wd}{i:Nat}(c:i<D.L.length)(a:(w.xt,1003) ∈ D.fx)(b:(w.xt+8,dG D.A i) ∈ D.fx):Oo.nV x.mem 8 w.xt=(dG D.A i,0):=by
 unfold Oo.nV;rw[h.cell a,h.cell b];simp only;rw[h.iE.is c];simp
structure pY(D:eF)(cn:List UInt8)(i:Nat):Prop where
 d':Src.d' cn=true
 len:cn.length<=31
 lt:i<D.L.length
 dA:∃ w,Mem.dv D.ws (cG cn)=some w/\(w.xt,1003) ∈ D.fx/\(w.xt+8,dG D.A i) ∈ D.fx
theorem qB(h:St pf D S o m f q){b t:List UInt8}{i:Nat}(a:pY D b i)(e:gY q (b++32 :: t)):Oo.cJ q.1=(q.1.next,dG D.A i,0):=by
 obtain⟨c,s,u⟩:=h.skip e a.d';obtain⟨w,n,p,r⟩:=a.dA;obtain⟨ls,k,l,_⟩:=h.eE;have d:q.1.find=(q.1.next,w,0):=by
  unfold Rd.find;rw[jZ c a.d' a.len];simp only[ne_eq,not_true_eq_false,if_false];rw[k,nW h.fQ b l,n]
 unfold Oo.cJ;rw[d,if_neg (by simp)];simp only;have g:q.1.next.v.root=8:=h.root;have j:q.1.next.v.x=q.1.v.x:=rfl;rw[g,j,vI h.fQ a.lt p r]
def Vg(D:eF)(pw:List UInt8):Option Nat->Prop
 | none=>pw=[45]
 | some i=>pY D pw i/\pw≠[45]
theorem Iw(h:St pf D S o m f q){b t:List UInt8}{k:Option Nat}(a:Vg D b k)(e:gY q (b++32 :: t)) :
 ∃ r,Oo.cE q.1=(r,Class.eO D.A k,0)/\St pf D S o m f (r,q.2)/\gY (r,q.2) t:=by
 cases k with
 | none =>
  have a:b=[45]:=a;subst a;obtain⟨c,d,g⟩:=h.skip e (by decide);refine⟨q.1.next,?_,d,g⟩;unfold Oo.cE;rw[c,if_pos rfl];rfl
 | some i =>
  obtain⟨a,s⟩:pY D b i/\b≠[45]:=a;obtain⟨c,d,g⟩:=h.skip e a.d';have j:St pf D S o m f (q.1.next.again (Oo.rest q.1),q.2):=d.src (Oo.rest q.1) 0;have l:gY (q.1.next.again (Oo.rest q.1),q.2) (b++32 :: t):=by
   show(q.1.src.drop q.1.cM).drop 0=_;rw[List.drop_zero];exact e
  obtain⟨u,n,p⟩:=j.skip l a.d';refine⟨(q.1.next.again (Oo.rest q.1)).next,?_,n,p⟩;unfold Oo.cE;rw[c,if_neg s];exact qB j a l
theorem FJ(r:Rd)(u:D.In r.v.x){nm:List UInt8}(i:Src.d' nm=true)(A:nm.length<=31)(c a n:Int)(y:dB c)(s:0<=a)(t:a<=255)(C:dB n)(I:r.v.x.cu+80<=60000) :
 ∃ (x':Sp) (w:Wd),r.make 24 nm c a [n]=({ r with v:={ r.v with x:=x' },ea:=w },w,0)/\w.name=cG nm/\w.cP=a/\r.v.x.cu<=x'.cu/\x'.cu<=r.v.x.cu+64 /\
  eF.In { D with ws:=w :: D.ws,fx:=(w.xt+8,n) :: (w.xt,c) :: D.fx } x':=by
 have E:nm≠[]:=fun e=>by rw[e]at i;cases i
 obtain⟨b,w,d,j,k,F,l,G,g⟩:=u.cO nm a c E A s t y (by omega);have J:=g.iQ w (by simp);obtain⟨p,H,h⟩:=g.cN n C (by omega);have B:r.gI 24 nm c a [n]=({ r with v:={ r.v with x:=b.wr [n] } },0):=by
  unfold Rd.gI Rd.kf;rw[d,if_neg (by simp)];unfold Rd.eR Rd.bind;have z:({ r with v:={ r.v with x:=b } }:Rd).cN n=({ r with v:={ r.v with x:=b.wr [n] } },0):=by
   show((({ r with v:={ r.v with x:=(b.cN n).1 } }:Rd),(b.cN n).2):Rd × Int)=_;rw[p]
  rw[z,if_neg (by simp)];rfl
 refine⟨b.wr [n],w,?_,j,k,by omega,by omega,?_⟩
 . unfold Rd.make
   rw[B,if_neg (by simp),d]
 . rw[<- l]at h
   exact h
theorem D9(q:Q)(s:List UInt8)(p:Int)(y:Sp)(a:Int)(b:Class.new q.1.cY.v.x q.1.cY.v.root p q.1.cY.v.cy=(y,a,0)) :
 Oo.rI q s p=Oo.mj ({ q.1.cY with v:={ q.1.cY.v with x:=y } },{ q.2 with root:=(q.1.cY.v.cell q.1.cY.v.root).1,eN:=a }) s:=by
 unfold Oo.rI;simp only;rw[b,if_neg (by simp)]
theorem Ea(q:Q)(s:List UInt8)(a:Rd)(w:Wd)(b:q.1.make q.1.v.cF s 1003 2 [q.2.eN]=(a,w,0)):Oo.mj q s=Oo.pF (a,{ q.2 with dA:=w }):=by
 unfold Oo.mj;simp only;rw[b,if_neg (by simp)]
theorem Eb(q:Q)(y:Sp)(a:Int)(b:q.1.v.x.cF=(y,a,0)) :
 Oo.pF q=(Oo.order ({ q.1 with v:={ q.1.v with x:=y } },{ q.2 with dq:=Oo.iz q.2.dq (q.1.v.root,q.2.eN) (some a) }) (Oo.iG ({ q.1 with v:={ q.1.v with x:=y } },{ q.2 with dq:=Oo.iz q.2.dq (q.1.v.root,q.2.eN) (some a) }) q.2.eN),0):=by
 unfold Oo.pF;simp only;rw[b,if_neg (by simp)]
theorem Mp(h:St pf D S 0 none f q){F Z t:List UInt8}{k:Option Nat}(M:Src.d' F=true)(X:F.length<=31)(hk:Vg D Z k)(ab:∀ j,k=some j->j<D.L.length)(K:gY q (F++32 :: (Z++32 :: t)))(hr:q.1.v.x.cu+400<=60000) :
 ∃ (p:Q) (w:Wd) (la:Int),Oo.pX q=(p,0)/\w.name=cG F/\w.cP=2/\gY p t/\p.1.v.x.cu<=q.1.v.x.cu+400 /\
  St pf ⟨D.A++[q.1.v.x.cu+232],D.T++[q.1.v.x.cu],Ref.new D.L (Class.cU k) 9,w :: D.ws,(la,0) :: (w.xt+8,q.1.v.x.cu+232) :: (w.xt,1003) :: D.fx⟩ S (q.1.v.x.cu+232) none f p:=by
 obtain⟨W,h2,h3⟩:=h.skip K M;obtain⟨r,O,g,h5⟩:=Iw h2 hk h3;have N:r.v.x=q.1.v.x:=by
  have:=congrArg (fun z=>z.1.v.x) O;simp only at this;rw[<- this];unfold Oo.cE;split
  . rfl
  . unfold Oo.cJ Rd.find Rd.again Rd.name
    repeat' split
    all_goals rfl
 have aa:Oo.apart q=true:=by
  unfold Oo.apart;rw[h.eN,h.comp];rfl
 obtain⟨y,R,g2,U⟩:=g.fQ.pX k ab (by rw[N];omega);have ag:=h.fQ.cu;rw[N]at R g2 U;have ah:(Ref.new D.L (Class.cU k) 9).length=D.L.length+1:=by unfold Ref.new;simp
 obtain⟨C,I⟩:∃ C:Rd,C={ r.cY with v:={ r.cY.v with x:=y } }:=⟨_,rfl⟩;have J:C.v.x=y:=by rw[I]
 obtain⟨B,w,Y,m2,m3,m4,m5,V⟩:=FJ C (by rw[J];exact U) M X 1003 2 (q.1.v.x.cu+232) (by unfold dB;omega) (by decide) (by decide) (by unfold dB;omega) (by rw[J];omega);rw[J]at m4 m5;have g5:=V.Ir (by omega);obtain⟨_,g6,g7⟩:=V.cN 0 (by unfold dB;omega) (by omega);have u:r.cY.v=r.v:=by unfold Rd.cY;split <;> rfl
 have ac:r.cY.src=r.src/\r.cY.cM=r.cM/\r.cY.pf=r.pf/\r.cY.comp=r.comp/\r.cY.eM=r.eM/\r.cY.dy=r.dy:=by unfold Rd.cY;split <;> exact⟨rfl,rfl,rfl,rfl,rfl,rfl⟩
 obtain⟨k1,k2,k3,k4,k5,k6⟩:=ac;obtain⟨H,af⟩:∃ H,H=(r.cY.v.cell r.cY.v.root).1:=⟨_,rfl⟩;obtain⟨b,i⟩:∃ b:Rd,b={ r.cY with v:={ r.cY.v with x:=B.wr [0] },ea:=w }:=⟨_,rfl⟩;obtain⟨n,G⟩:∃ n:Oo,n={ q.2 with root:=H,eN:=q.1.v.x.cu+232,dA:=w,dq:=Oo.iz q.2.dq (r.cY.v.root,q.1.v.x.cu+232) (some B.cu) }:=⟨_,rfl⟩;have hq:Oo.pX q=(Oo.order (b,n) (Oo.iG (b,n) (q.1.v.x.cu+232)),0):=by
  unfold Oo.pX;rw[if_neg (by rw[aa];simp),jZ W M X,if_neg (by simp),O];simp only;rw[if_neg (by simp),W];have hn:Class.new r.cY.v.x r.cY.v.root (Class.eO D.A k) r.cY.v.cy=(y,q.1.v.x.cu+232,0):=by
   rw[u,N];have a1:r.v.root=8:=g.root;have a2:r.v.cy=9:=g.cy;rw[a1,a2];exact R
  rw[D9 (r,q.2) F _ y _ hn];show Oo.mj (({ r.cY with v:={ r.cY.v with x:=y } }:Rd),{ q.2 with root:=(r.cY.v.cell r.cY.v.root).1,eN:=q.1.v.x.cu+232 }) F=_;rw[<- I,<- af];have ad:C.v.cF=24:=by rw[I];show r.cY.v.cF=24;rw[u];exact g.cF
  have ae:({ C with v:={ C.v with x:=B },ea:=w }:Rd)={ r.cY with v:={ r.cY.v with x:=B },ea:=w }:=by rw[I]
  rw[ae]at Y;rw[Ea (C,{ q.2 with root:=H,eN:=q.1.v.x.cu+232 }) F { r.cY with v:={ r.cY.v with x:=B },ea:=w } w ((congrArg (fun z=>C.make z F 1003 2 [q.1.v.x.cu+232]) ad).trans Y)];rw[Eb ({ r.cY with v:={ r.cY.v with x:=B },ea:=w },{ q.2 with root:=H,eN:=q.1.v.x.cu+232,dA:=w }) (B.wr [0]) B.cu g5,i,G]
 refine⟨_,w,B.cu,hq,m2,m3,?_,by show b.v.x.cu<=_;rw[i];show(B.wr [0]).cu<=_;omega,?_⟩
 . show b.src.drop b.cM=t
   rw[i];show r.cY.src.drop r.cY.cM=t;rw[k1,k2];exact h5
 . have P:∀ p l,n.dq p=some l->(l,0) ∈ (B.cu,(0:Int)) :: (w.xt+8,q.1.v.x.cu+232) :: (w.xt,1003) :: D.fx:=by
    intro p l E;rw[G]at E;have E:(if p=(r.cY.v.root,q.1.v.x.cu+232)then some B.cu else q.2.dq p)=some l:=E;split at E
    . injection E with E
      rw[<- E];simp
    . have:=h.tO p l E
      simp[this]
   refine⟨by show eF.In _ b.v.x;rw[i];exact g7,?_,?_,?_,?_,?_,?_,?_,?_,?_,?_,?_,?_,?_,?_,by show n.eN=_;rw[G],?_,?_,?_,P,fun e=>?_,?_⟩
   . show b.v.dD=16;rw[i];show r.cY.v.dD=16;rw[u];exact g.dD
   . show b.v.cF=24;rw[i];show r.cY.v.cF=24;rw[u];exact g.cF
   . show b.v.root=8;rw[i];show r.cY.v.root=8;rw[u];exact g.root
   . show b.v.cy=9;rw[i];show r.cY.v.cy=9;rw[u];exact g.cy
   . show b.v.dL=false;rw[i];show r.cY.v.dL=false;rw[u];exact g.dL
   . show b.v.cV=2824;rw[i];show r.cY.v.cV=2824;rw[u];exact g.cV
   . show b.v.d=_;rw[i];show r.cY.v.d=_;rw[u];exact g.dd
   . show b.v.r=_;rw[i];show r.cY.v.r=_;rw[u];exact g.rr
   . show b.v.cI=f;rw[i];show r.cY.v.cI=f;rw[u];exact g.cI
   . show b.pf=pf;rw[i];show r.cY.pf=pf;rw[k3];exact g.Iu
   . show b.comp=_;rw[i];show r.cY.comp=_;rw[k4];exact g.comp
   . show b.eM=_;rw[i];show r.cY.eM=_;rw[k5];exact g.eM
   . show b.dy=[];rw[i];show r.cY.dy=[];rw[k6];exact g.dy
   . refine⟨Oo.ku (Oo.mem (b,n)) n.dq b.v.root (Class.all (Oo.mem (b,n)) b.v.root).length (q.1.v.x.cu+232),?_,fun a ha=>?_,fun e=>by omega⟩
     . show Oo.iG (b,n) _=_
       unfold Oo.iG;have:b.v.cF=24:=by rw[i];show r.cY.v.cF=24;rw[u];exact g.cF
       simp only[this]
     . obtain⟨p,K⟩:=vH _ _ _ _ _ a ha
       exact P p a K
   . intro _
     exact⟨w,D.ws,rfl,by show n.dA=w;rw[G]⟩
   . intro c s t e
     cases e
   . show n.eH=[]
     rw[G];exact h.eH
   . omega
   . show n.eb=S
     rw[G];exact h.eb
end Fo
namespace eF
def fJ:eF->Int->List Int->eF
 | D,_,[]=>D
 | D,a,n :: l=>fJ { D with fx:=(a,n) :: D.fx } (a+8) l
theorem dO:∀ (l:List Int) (D:eF) (a:Int),(D.fJ a l).A=D.A/\(D.fJ a l).T=D.T/\(D.fJ a l).L=D.L/\(D.fJ a l).ws=D.ws
 | [],_,_=>⟨rfl,rfl,rfl,rfl⟩
 | n :: l,D,a=>dO l { D with fx:=(a,n) :: D.fx } (a+8)
theorem fI:∀ (l:List Int) (D:eF) (a:Int),∀ p ∈ D.fx,p ∈ (D.fJ a l).fx
 | [],_,_,_,h=>h
 | n :: l,D,a,p,h=>fI l { D with fx:=(a,n) :: D.fx } (a+8) p (by simp[h])
theorem lQ:∀ (l:List Int) (D:eF) (a:Int) (j:Nat) (hj:j<l.length),(a+8*(j:Int),l[j]) ∈ (D.fJ a l).fx
 | [],_,_,_,hj=>by cases hj
 | n :: l,D,a,0,_=>fI l { D with fx:=(a,n) :: D.fx } (a+8) _ (by simp)
 | n :: l,D,a,j+1,hj=>by
  have h:=lQ l { D with fx:=(a,n) :: D.fx } (a+8) j (by simpa using hj)
  rw[show a+8*((j+1:Nat):Int)=a+8+8*(j:Int) by omega]
  exact h
end eF
namespace Fo
variable {pf:List UInt8->Option Int} {D:eF} {S:List (List UInt8)} {o f:Int} {m:Option (Int × Int × Int)} {q:Q}
theorem kZ:∀ (l:List Int) {D:eF} (r:Rd),D.In r.v.x->(∀ n ∈ l,dB n)->r.v.x.cu+8*l.length<=60000 ->
 ∃ x':Sp,Rd.eR l r=({ r with v:={ r.v with x:=x' } },0)/\x'.cu=r.v.x.cu+8*l.length/\(D.fJ r.v.x.cu l).In x'
 | [],D,r,h,_,_=>⟨r.v.x,rfl,by simp,h⟩
 | n :: l,D,r,h,hl,hr=>by
  rw[List.length_cons]at hr;obtain⟨e1,e2,h1⟩:=h.cN n (hl n (by simp)) (by omega)
  obtain⟨r1,hr1⟩:∃ r1:Rd,r1={ r with v:={ r.v with x:=r.v.x.wr [n] } }:=⟨_,rfl⟩;have hx1:r1.v.x=r.v.x.wr [n]:=by rw[hr1]
  obtain⟨x',e3,e4,h2⟩:=kZ l r1 (by rw[hx1];exact h1) (fun k hk=>hl k (by simp[hk])) (by rw[hx1,e2];omega)
  have hc:r.cN n=(r1,0):=by
   show((({ r with v:={ r.v with x:=(r.v.x.cN n).1 } }:Rd),(r.v.x.cN n).2):Rd × Int)=_
   rw[e1,hr1]
  refine⟨x',?_,?_,?_⟩
  . unfold Rd.eR Rd.bind
    rw[hc,if_neg (by simp),e3,hr1]
  . rw[e4,hx1,e2,List.length_cons];omega
  . rw[hx1,e2]at h2
    exact h2
theorem St.put(h:St pf D S o m f q){l:List Int}{a:Int}{x':Sp}(d:(D.fJ a l).In x'):St pf (D.fJ a l) S o m f ({ q.1 with v:={ q.1.v with x:=x' } },q.2):=by
 obtain⟨s,t,u,r⟩:=eF.dO l D a;have c:=eF.fI l D a;obtain⟨ls,j,k,n⟩:=h.eE;exact { h with fQ:=d,eE:=⟨ls,j,fun b g=>c _ (k b g),n⟩,dA:=fun e=>by rw[r];exact h.dA e,tO:=fun p l i=>c _ (h.tO p l i) }
theorem Ec(r:Rd):r.cY.v=r.v/\r.cY.src=r.src/\r.cY.cM=r.cM/\r.cY.pf=r.pf/\r.cY.comp=r.comp/\r.cY.eM=r.eM/\r.cY.dy=r.dy:=by unfold Rd.cY;split <;> exact⟨rfl,rfl,rfl,rfl,rfl,rfl,rfl⟩
theorem Ix(h:St pf D S o none f q)(c n:Int){t:List UInt8}(C:gY q t)(U:q.1.v.x.cu+8<=60000) :
 ∃ p,Oo.sI q c n=(p,0)/\gY p t/\p.1.v.x.cu=q.1.v.x.cu+8/\St pf (D.fJ q.1.v.x.cu [1004]) S o (some (c,n,q.1.v.x.cu)) f p:=by
 obtain⟨s,I,J,K,X,Y,Z⟩:=Ec q.1;obtain⟨b,H⟩:∃ b,b=q.1.cY:=⟨_,rfl⟩;rw[<- H]at s I J K X Y Z;have N:b.v.x.align=(b.v.x,0):=Sp.mK (by rw[s];exact h.fQ.al.al);obtain⟨i,u⟩:∃ i:Oo,i={ q.2 with target:=c,cZ:=n,xt:=q.1.v.x.cu }:=⟨_,rfl⟩;obtain⟨g,j⟩:∃ g:Rd,g={ b with eE:=Oo.iG (b,i) c,comp:=true,eM:=true,dy:=[] }:=⟨_,rfl⟩;have F:g.v.x=q.1.v.x:=by rw[j];show b.v.x=_;rw[s]
 obtain⟨x',G,A,B⟩:=kZ [1004] g (by rw[F];exact h.fQ) (fun k R=>by
  have:k=1004:=by simpa using R
  subst this;unfold dB
  omega) (by rw[F];simpa using U)
 rw[F]at A B;have O:g.cN 1004=({ g with v:={ g.v with x:=x' } },0):=by
  have y:=G;unfold Rd.eR Rd.bind at y;by_cases z:(g.cN 1004).2≠0
  . rw[if_pos z]at y;exact y
  . rw[if_neg z]at y
    have z:(g.cN 1004).2=0:=by simpa using z
    exact Prod.ext (congrArg (fun aa=>aa.1) y) z
 have T:Oo.sI q c n=(({ g with v:={ g.v with x:=x' } },i),0):=by
  unfold Oo.sI;simp only;rw[<- H];have W:b.vm (b.v.fB b.v.x.align)=(b,0):=by rw[N];rfl
  rw[W,if_neg (by simp)];simp only;have P:b.v.x.cu=q.1.v.x.cu:=by rw[s]
  rw[P,<- u];have V:(Oo.order (b,i) (Oo.iG (b,i) c)).1.start true=g:=by rw[j];rfl
  rw[V,O];rfl
 have L:St pf D S o (some (c,n,q.1.v.x.cu)) f (g,i):=by
  refine⟨by show D.In g.v.x;rw[F];exact h.fQ,?_,?_,?_,?_,?_,?_,?_,?_,?_,?_,by show g.comp=true;rw[j],by show g.eM=true;rw[j],by show g.dy=[];rw[j],?_,by show i.eN=o;rw[u];exact h.eN,?_,?_,by show i.eH=[];rw[u];exact h.eH,?_,(fun _ e=>by cases e),by show i.eb=S;rw[u];exact h.eb⟩
  . show g.v.dD=16;rw[j];show b.v.dD=16;rw[s];exact h.dD
  . show g.v.cF=24;rw[j];show b.v.cF=24;rw[s];exact h.cF
  . show g.v.root=8;rw[j];show b.v.root=8;rw[s];exact h.root
  . show g.v.cy=9;rw[j];show b.v.cy=9;rw[s];exact h.cy
  . show g.v.dL=false;rw[j];show b.v.dL=false;rw[s];exact h.dL
  . show g.v.cV=2824;rw[j];show b.v.cV=2824;rw[s];exact h.cV
  . show g.v.d=_;rw[j];show b.v.d=_;rw[s];exact h.dd
  . show g.v.r=_;rw[j];show b.v.r=_;rw[s];exact h.rr
  . show g.v.cI=f;rw[j];show b.v.cI=f;rw[s];exact h.cI
  . show g.pf=pf;rw[j];show b.pf=pf;rw[K];exact h.Iu
  . refine⟨Oo.ku (Oo.mem (b,i)) i.dq b.v.root (Class.all (Oo.mem (b,i)) b.v.root).length c,?_,fun a M=>?_,(fun _ e=>by cases e)⟩
    . show g.eE=_
      rw[j];show Oo.iG (b,i) c=_;unfold Oo.iG;have:b.v.cF=24:=by rw[s];exact h.cF
      simp only[this]
    . obtain⟨p,C⟩:=vH _ _ _ _ _ a M
      rw[u]at C;exact h.tO p a C
  . intro e
    obtain⟨w,ws,w1,w2⟩:=h.dA e;exact⟨w,ws,w1,by show i.dA=w;rw[u];exact w2⟩
  . intro c' s' t' e
    injection e with e;injection e with G e;injection e with A B;subst G A B;show i.target=c/\i.cZ=n/\i.xt=_;rw[u];exact⟨rfl,rfl,rfl⟩
  . intro p l E
    have E:i.dq p=some l:=E;rw[u]at E;exact h.tO p l E
 refine⟨_,T,?_,A,L.put B⟩;show g.src.drop g.cM=t;rw[j];show b.src.drop b.cM=t;rw[I,J];exact C
theorem tu(h:St pf D S o m f q){nm t:List UInt8}{a:List (List UInt8)}{n:Int}(c:Src.d' nm=true)(g:nm.length<=31)(j:gY q (nm++32 :: t))(i:gu S nm=(a,n,0)) :
 Oo.cR q=((q.1.next,{ q.2 with eb:=a }),n,0)/\St pf D a o m f (q.1.next,{ q.2 with eb:=a })/\gY (q.1.next,{ q.2 with eb:=a }) t:=by
 obtain⟨b,d,e⟩:=h.skip j c;refine⟨?_,{ d with eb:=rfl },e⟩;unfold Oo.cR;rw[jZ b c g,if_neg (by simp),b,h.eb,i]
theorem Bw(h:St pf D S o none f q)(c:Int){nm t:List UInt8}{a:List (List UInt8)}{n:Int}(w:Src.d' nm=true)(l:nm.length<=31)(s:gY q (nm++32 :: t))(r:gu S nm=(a,n,0))(u:q.1.v.x.cu+8<=60000) :
 ∃ p,Oo.begin q c=(p,0)/\gY p t/\p.1.v.x.cu=q.1.v.x.cu+8/\St pf (D.fJ q.1.v.x.cu [1004]) a o (some (c,n,q.1.v.x.cu)) f p:=by
 obtain⟨b,e,g⟩:=tu h w l s r;have y:q.1.next.v=q.1.v:=rfl;obtain⟨p,d,i,j,k⟩:=Ix e c n g (by rw[show(q.1.next,({ q.2 with eb:=a }:Oo)).1.v=q.1.v from y];exact u);refine⟨p,?_,i,j,k⟩;unfold Oo.begin;rw[b,if_neg (by simp)];exact d
theorem Iy(h:St pf D S o none f q)(g:o≠0){nm t:List UInt8}{a:List (List UInt8)}{n:Int}(k:Src.d' nm=true)(d:nm.length<=31)(i:gY q (nm++32 :: t))(e:gu S nm=(a,n,0))(j:q.1.v.x.cu+8<=60000) :
 ∃ p,Oo.method q=(p,0)/\gY p t/\p.1.v.x.cu=q.1.v.x.cu+8/\St pf (D.fJ q.1.v.x.cu [1004]) a o (some (o,n,q.1.v.x.cu)) f p:=by
 have c:Oo.iK q=true:=by
  unfold Oo.iK;rw[h.eN,h.comp,decide_eq_true g];rfl
 have b:Oo.method q=Oo.begin q o:=by
  unfold Oo.method;rw[if_neg (by rw[c];simp),h.eN]
 rw[b];exact Bw h o k d i e j
theorem Bx(h:St pf D S 0 none f q){b nm t:List UInt8}{i:Nat}{a:List (List UInt8)}{n:Int}(c:pY D b i)(B:Src.d' nm=true)(w:nm.length<=31)(d:gY q (b++32 :: (nm++32 :: t)))(y:gu S nm=(a,n,0))(z:q.1.v.x.cu+8<=60000) :
 ∃ p,Oo.lO q=(p,0)/\gY p t/\p.1.v.x.cu=q.1.v.x.cu+8/\St pf (D.fJ q.1.v.x.cu [1004]) a 0 (some (dG D.A i,n,q.1.v.x.cu)) f p:=by
 have u:Oo.apart q=true:=by
  unfold Oo.apart;rw[h.eN,h.comp];rfl
 obtain⟨C,j,k⟩:=h.skip d c.d';have e:=qB h c d;obtain⟨p,g,l,r,s⟩:=Bw j (dG D.A i) B w k y z;refine⟨p,?_,l,r,s⟩;unfold Oo.lO;rw[if_neg (by rw[u];simp),e,if_neg (by simp)];exact g
theorem vJ(h:St pf D S o m f q){t:List UInt8}(j:gY q t){s:List UInt8}{k:Int}(e:pf s=some k)(g:dB k){l:List Int}(i:∀ n ∈ l,dB n)(u:q.1.v.x.cu+8*(l.length+1)<=60000) :
 ∃ r,q.1.di s l=(r,0)/\gY (r,q.2) t/\r.v.x.cu=q.1.v.x.cu+8*(l.length+1)/\St pf (D.fJ q.1.v.x.cu (k :: l)) S o m f (r,q.2):=by
 have p:q.1.xt s=k:=by unfold Rd.xt;rw[h.Iu,e];rfl
 obtain⟨x',b,c,d⟩:=kZ (k :: l) q.1 h.fQ (fun n a=>by rcases List.mem_cons.1 a with rfl | a;exact g;exact i n a) (by rw[List.length_cons];omega);refine⟨_,?_,?_,?_,h.put d⟩
 . unfold Rd.di
   rw[p];exact b
 . exact j
 . rw[List.length_cons]at c
   show x'.cu=_;omega
theorem Mq{c s x:Int}(h:St pf D S o (some (c,s,x)) f q){i:Nat}(d:i<D.L.length)(C:c=dG D.A i){nm t:List UInt8}{a:List (List UInt8)}{n k:Int}(P:Src.d' nm=true)(G:nm.length<=31)(K:gY q (nm++32 :: t))(I:gu S nm=(a,n,0))(J:dB n)
 (E:pf [40,115,117,112,101,114,41]=some k) (F:dB k) (N:q.1.v.x.cu+24<=60000) :
 ∃ p,Oo.xR q=(p,0)/\gY p t/\p.1.v.x.cu=q.1.v.x.cu+24/\St pf (D.fJ q.1.v.x.cu [k,Class.iq D.A (Ref.get D.L i).cE,n]) a o (some (c,s,x)) f p:=by
 obtain⟨g,j,u⟩:=tu h P G K I;have O:=h.fQ.iE.cT d;have M:dB (Class.iq D.A (Ref.get D.L i).cE):=by
  have:=Mem.fh q.1.v.x.mem (dG D.A i+8);rw[(h.fQ.iE.cells i d).2.1]at this;exact this
 obtain⟨r,b,w,y,B⟩:=vJ j u E F (l:=[Class.iq D.A (Ref.get D.L i).cE,n]) (by intro z e;simp only[List.mem_cons,List.not_mem_nil,or_false]at e;rcases e with rfl | rfl;exact M;exact J) (by simp only[List.length_cons,List.length_nil];exact N);refine⟨_,?_,w,by show r.v.x.cu=q.1.v.x.cu+24;exact y,B⟩;unfold Oo.xR;rw[if_neg (by rw[h.eM];simp),g,if_neg (by simp),(h.Wg c s x rfl).1];have H:Oo.mem (q.1.next,({ q.2 with eb:=a }:Oo))=q.1.v.x.mem:=rfl;simp only;rw[H,C,O];show Oo.rd _ (q.1.next.di _ [Class.iq D.A (Ref.get D.L i).cE,n])=_;have b:q.1.next.di [40,115,117,112,101,114,41] [Class.iq D.A (Ref.get D.L i).cE,n]=(r,0):=b;rw[b];rfl
end Fo
namespace Fo
variable {pf:List UInt8->Option Int} {D:eF} {S:List (List UInt8)} {o f:Int} {m:Option (Int × Int × Int)} {q:Q}
theorem jR{n:Int}(h:dB n):∀ z ∈ [n],dB z:=fun z a=>by
 have e:z=n:=by simpa using a
 rw[e];exact h
theorem Iz(h:St pf D S o m f q){t:List UInt8}(e:gY q t)(n:Int)(d:dB n)(g:q.1.v.x.cu+8<=60000) :
 ∃ r,q.1.cN n=(r,0)/\gY (r,q.2) t/\r.v.x.cu=q.1.v.x.cu+8/\St pf (D.fJ q.1.v.x.cu [n]) S o m f (r,q.2):=by
 obtain⟨a,b,c⟩:=h.fQ.cN n d g;refine⟨{ q.1 with v:={ q.1.v with x:=q.1.v.x.wr [n] } },?_,e,b,h.put c⟩;show((({ q.1 with v:={ q.1.v with x:=(q.1.v.x.cN n).1 } }:Rd),(q.1.v.x.cN n).2):Rd × Int)=_;rw[a]
theorem PK(h:St pf D S o m f q)(z:m.isSome=true){s t:List UInt8}(A:gY q t)(i:gr (cG s)=none)(j:il (cG s)=none){w:Wd}(k:Mem.dv D.ws (cG s)=some w)(l:w.cP % 2=0){c:Int}(n:(w.xt,c) ∈ D.fx)(u:Rd.iU (fc c)≠2)(y:dB w.xt)(B:q.1.v.x.cu+8<=60000) :
 ∃ p,ig s q (p,0)/\gY p t/\p.1.v.x.cu=q.1.v.x.cu+8/\St pf (D.fJ q.1.v.x.cu [w.xt]) S o m f p:=by
 obtain⟨r,b,d,e,g⟩:=Iz h A w.xt y B;obtain⟨ls,C,E,_⟩:=h.eE;refine⟨(r,q.2),?_,d,e,g⟩
 have a:=ig.comp (s:=s) (q:=q) w i j (by rw[C,nW h.fQ s E,k]) (by rw[h.comp,z]) l (by
  show Rd.iU (fc (q.1.v.x.mem.cell w.xt).1)≠2;rw[h.fQ.cell n]
  exact u)
 rw[b]at a;exact a
theorem Sn(h:St pf D S o m f q)(G:m.isSome=true){t:List UInt8}(H:gY q t)(n:Int)(a:dB n)(y:gr (dE.gC n 10)=none)(z:D.ws.all (fun w=>!dE.fa w.name)=true){k:Int}(C:pf [108,105,116]=some k)(E:dB k)(I:q.1.v.x.cu+16<=60000) :
 ∃ p,ig (dE.gC n 10) q (p,0)/\gY p t/\p.1.v.x.cu=q.1.v.x.cu+16/\St pf (D.fJ q.1.v.x.cu [k,n]) S o m f p:=by
 have d:=dE.nP n a.1 a.2;have c:=mD d;obtain⟨r,g,i,j,u⟩:=vJ h H (s:=[108,105,116]) C E (l:=[n]) (jR a) (by simp only[List.length_cons,List.length_nil];exact I);obtain⟨ls,J,K,_⟩:=h.eE;refine⟨(r,q.2),?_,i,by simpa using j,u⟩;have B:Mem.dv D.ws (cG (dE.gC n 10))=none:=by
  unfold Mem.dv;rw[List.find?_eq_none];intro w b;have:=List.all_eq_true.1 z w b;rw[c];intro e;simp only[Bool.and_eq_true,decide_eq_true_eq]at e;rw[e.1,d]at this;cases this
 have A:q.1.v.oj=10:=by
  show(q.1.v.x.mem.cell q.1.v.dD).1=10;rw[h.dD,h.fQ.dD]
 have b:=ig.num (s:=dE.gC n 10) (q:=q) n (by rw[c];exact y) (by rw[c];exact wQ d) (by rw[J,nW h.fQ _ K,B]) (by rw[A];exact dE.qq n a.1 a.2);have F:q.1.gX [n]=(r,0):=by
  unfold Rd.gX;rw[if_pos (by rw[h.comp,G])];exact g
 rw[F]at b;exact b
theorem Mr(q:Q)(m':Mem)(a:Class.set (Oo.mem q) q.1.v.root q.2.target q.2.cZ q.2.xt=(m',0)) :
 Oo.rJ q=if q.2.eN=0 then(({ ({ Oo.dI q.1 m' with eM:=false }:Rd)with eE:=[({ Oo.dI q.1 m' with eM:=false }:Rd).v.cF] }.oB,{ q.2 with target:=0 }),0)else(({ Oo.dI q.1 m' with eM:=false },{ q.2 with target:=0 }),0):=by
 unfold Oo.rJ;simp only;rw[a,if_neg (by simp)]
theorem FK{c s x:Int}(h:St pf D S o (some (c,s,x)) f q){i:Nat}(hi:i<D.L.length)(hc:c=dG D.A i){t:List UInt8}(U:gY q t)(b1:dB s)(b2:dB x)(hs:Ref.set D.L i s x=(Ref.put D.L i s x,0)){k:Int}(hk:pf [40,101,120,105,116,109,41]=some k)(ac:dB k)(hr:q.1.v.x.cu+8<=60000) :
 ∃ p,Oo.D5 q=(p,0)/\gY p t/\p.1.v.x.cu=q.1.v.x.cu+8/\St pf { D.fJ q.1.v.x.cu [k] with L:=Ref.put D.L i s x } S o none f p:=by
 obtain⟨t1,t2,t3⟩:=h.Wg c s x rfl;have W:q.1.stop=({ q.1 with comp:=false },0):=by
  unfold Rd.stop;rw[if_neg (by rw[h.comp,h.dy];simp)]
 obtain⟨n,V⟩:∃ n:Rd,n={ q.1 with comp:=false }:=⟨_,rfl⟩;rw[<- V]at W;have ae:n.v=q.1.v/\n.pf=q.1.pf/\n.src=q.1.src/\n.cM=q.1.cM/\n.eE=q.1.eE/\n.dy=q.1.dy/\n.comp=false:=by rw[V];exact⟨rfl,rfl,rfl,rfl,rfl,rfl,rfl⟩
 obtain⟨I,Z,y2,y3,y4,y5,y6⟩:=ae;obtain⟨x',R,J,K⟩:=kZ [k] n (by rw[I];exact h.fQ) (jR ac) (by rw[I];simpa using hr);rw[I]at J K;obtain⟨X,p2,G,Y⟩:=eF.dO [k] D q.1.v.x.cu;have H:=eF.fI [k] D q.1.v.x.cu;generalize ag:D.fJ q.1.v.x.cu [k]=D' at K X p2 G Y H |-;obtain⟨j,P⟩:∃ j:Rd,j={ n with v:={ n.v with x:=x' } }:=⟨_,rfl⟩;rw[<- P]at R;have z:j.v.x=x'/\j.src=q.1.src/\j.cM=q.1.cM/\j.pf=q.1.pf/\j.eE=q.1.eE/\j.dy=q.1.dy/\j.comp=false:=by rw[P];exact⟨rfl,y2,y3,Z,y4,y5,y6⟩
 have zv:j.v.dD=16/\j.v.cF=24/\j.v.root=8/\j.v.cy=9/\j.v.dL=false/\j.v.cV=2824/\j.v.d=⟨60000,60,0,-3,-4⟩/\j.v.r=⟨60480,200,0,-5,-6⟩/\j.v.cI=f:=by
  rw[P];show n.v.dD=16/\n.v.cF=24/\n.v.root=8/\n.v.cy=9/\n.v.dL=false/\n.v.cV=2824/\n.v.d=_/\n.v.r=_/\n.v.cI=f;rw[I];exact⟨h.dD,h.cF,h.root,h.cy,h.dL,h.cV,h.dd,h.rr,h.cI⟩
 have aa:n.di [40,101,120,105,116,109,41] []=(j,0):=by
  unfold Rd.di;have af:n.xt [40,101,120,105,116,109,41]=k:=by unfold Rd.xt;rw[Z,h.Iu,hk];rfl
  rw[af];exact R
 obtain⟨m',g1,M⟩:=K.Vf (c:=i) (by rw[G];exact hi) s x b1 b2 (by rw[G];exact hs);rw[G]at M;obtain⟨b,E⟩:∃ b:Rd,b={ Oo.dI j m' with eM:=false }:=⟨_,rfl⟩;have C:Oo.D5 q=if q.2.eN=0 then(({ b with eE:=[b.v.cF] }.oB,{ q.2 with target:=0 }),0)else((b,{ q.2 with target:=0 }),0):=by
  unfold Oo.D5;rw[if_neg (by rw[h.eM];simp),W];have T:∀ (u:Q) (g:Q->Q × Int),Oo.bind (u,0) g=g u:=fun u g=>by unfold Oo.bind;rw[if_neg (by simp)]
  show Oo.bind ((n,q.2),0) (fun q=>Oo.bind (Oo.rd q (q.1.di [40,101,120,105,116,109,41] [])) Oo.rJ)=_;rw[T];show Oo.bind (Oo.rd (n,q.2) (n.di [40,101,120,105,116,109,41] [])) Oo.rJ=_;rw[aa];show Oo.bind ((j,q.2),0) Oo.rJ=_;rw[T];have ad:Oo.mem (j,q.2)=x'.mem:=congrArg Sp.mem z.1;have ab:Class.set (Oo.mem (j,q.2)) j.v.root q.2.target q.2.cZ q.2.xt=(m',0):=by
   rw[ad,zv.2.2.1,t1,t2,t3,hc,<- X];exact g1
  rw[Mr (j,q.2) m' ab];show(if q.2.eN=0 then(({ ({ Oo.dI j m' with eM:=false }:Rd)with eE:=[({ Oo.dI j m' with eM:=false }:Rd).v.cF] }.oB,({ q.2 with target:=0 }:Oo)),(0:Int))else((({ Oo.dI j m' with eM:=false }:Rd),{ q.2 with target:=0 }),0))=_;rw[<- E]
 have F:b.v.x={ x' with mem:=m' }:=by
  rw[E];show({ j.v.x with mem:=m' }:Sp)=_;rw[z.1]
 have y:b.src=q.1.src/\b.cM=q.1.cM/\b.pf=q.1.pf/\b.eE=q.1.eE/\b.dy=q.1.dy/\b.comp=false/\b.eM=false:=by rw[E];exact⟨z.2.1,z.2.2.1,z.2.2.2.1,z.2.2.2.2.1,z.2.2.2.2.2.1,z.2.2.2.2.2.2,rfl⟩
 have w:b.v.dD=16/\b.v.cF=24/\b.v.root=8/\b.v.cy=9/\b.v.dL=false/\b.v.cV=2824/\b.v.d=⟨60000,60,0,-3,-4⟩/\b.v.r=⟨60480,200,0,-5,-6⟩/\b.v.cI=f:=by rw[E];exact zv
 obtain⟨ls,l1,l2,l3⟩:=h.eE;by_cases B:o=0
 . rw[if_pos (by rw[h.eN];exact B)]at C
   refine⟨_,C,?_,?_,?_⟩
   . show b.src.drop b.cM=t
     rw[y.1,y.2.1];exact U
   . show b.v.x.cu=_
     rw[F];show x'.cu=_;simpa using J
   . exact⟨by show eF.In _ b.v.x;rw[F];exact M,w.1,w.2.1,w.2.2.1,w.2.2.2.1,w.2.2.2.2.1,w.2.2.2.2.2.1,w.2.2.2.2.2.2.1,w.2.2.2.2.2.2.2.1,w.2.2.2.2.2.2.2.2,by show b.pf=pf;rw[y.2.2.1];exact h.Iu,y.2.2.2.2.2.1,y.2.2.2.2.2.2,by show b.dy=[];rw[y.2.2.2.2.1];exact h.dy,
      ⟨[],by show [b.v.cF]=[]++[24];rw[w.2.1];rfl,(fun a N=>by cases N),fun _ _=>rfl⟩,h.eN,fun e=>absurd B e,(fun _ _ _ e=>by cases e),h.eH,fun p l O=>H _ (h.tO p l O),fun _ _=>rfl,h.eb⟩
 . rw[if_neg (by rw[h.eN];exact B)]at C
   refine⟨_,C,?_,?_,?_⟩
   . show b.src.drop b.cM=t
     rw[y.1,y.2.1];exact U
   . show b.v.x.cu=_
     rw[F];show x'.cu=_;simpa using J
   . exact⟨by show eF.In _ b.v.x;rw[F];exact M,w.1,w.2.1,w.2.2.1,w.2.2.2.1,w.2.2.2.2.1,w.2.2.2.2.2.1,w.2.2.2.2.2.2.1,w.2.2.2.2.2.2.2.1,w.2.2.2.2.2.2.2.2,by show b.pf=pf;rw[y.2.2.1];exact h.Iu,y.2.2.2.2.2.1,y.2.2.2.2.2.2,by show b.dy=[];rw[y.2.2.2.2.1];exact h.dy,
      ⟨ls,by show b.eE=_;rw[y.2.2.2.1];exact l1,fun a N=>H _ (l2 a N),fun e=>absurd e B⟩,h.eN,fun e=>by rw[Y];exact h.dA e,(fun _ _ _ e=>by cases e),h.eH,fun p l O=>H _ (h.tO p l O),fun e=>absurd e B,h.eb⟩
theorem By(h:St pf D S o none f q)(g:o≠0){t:List UInt8}(u:gY q t) :
 ∃ (p:Q) (w:Wd) (ws:List Wd),D.ws=w :: ws/\Oo.iS q=(p,0)/\gY p t/\p.1.v.x.cu=q.1.v.x.cu/\St pf { D with ws:={ w with cP:=0 } :: ws } S 0 none f p:=by
 obtain⟨w,ws,i,z⟩:=h.dA g;obtain⟨m',j,k⟩:=h.fQ.mark i 0 (by decide) (by decide);have n:Oo.iK q=true:=by
  unfold Oo.iK;rw[h.eN,h.comp,decide_eq_true g];rfl
 obtain⟨b,c⟩:∃ b:Rd,b={ q.1 with v:=q.1.v.mem m' }:=⟨_,rfl⟩;have s:(q.1.mark q.2.dA 0).1=b:=by
  rw[c,z];show({ q.1 with v:=q.1.v.mem (q.1.v.x.mem.iZ w.cM 0).1 }:Rd)=_;rw[j]
 have y:Oo.iS q=(({ b with eE:=[q.1.v.cF] }.oB,{ q.2 with eN:=0,eH:=[] }),0):=by
  unfold Oo.iS;rw[if_neg (by rw[n];simp),h.eH];show(if(0:Int)≠0 then _ else _)=_;rw[if_neg (by simp),s]
 refine⟨_,w,ws,i,y,?_,?_,?_⟩
 . show b.src.drop b.cM=t
   rw[c];exact u
 . show b.v.x.cu=_
   rw[c];rfl
 . refine⟨by show eF.In _ b.v.x;rw[c];exact k,?_,?_,?_,?_,?_,?_,?_,?_,?_,?_,?_,?_,?_,⟨[],by show [q.1.v.cF]=[]++[24];rw[h.cF];rfl,(fun a l=>by cases l),fun _ _=>rfl⟩,rfl,fun e=>absurd rfl e,(fun _ _ _ e=>by cases e),rfl,h.tO,fun _ _=>rfl,h.eb⟩
   . show b.v.dD=16;rw[c];exact h.dD
   . show b.v.cF=24;rw[c];exact h.cF
   . show b.v.root=8;rw[c];exact h.root
   . show b.v.cy=9;rw[c];exact h.cy
   . show b.v.dL=false;rw[c];exact h.dL
   . show b.v.cV=2824;rw[c];exact h.cV
   . show b.v.d=_;rw[c];exact h.dd
   . show b.v.r=_;rw[c];exact h.rr
   . show b.v.cI=f;rw[c];exact h.cI
   . show b.pf=pf;rw[c];exact h.Iu
   . show b.comp=_;rw[c];exact h.comp
   . show b.eM=_;rw[c];exact h.eM
   . show b.dy=[];rw[c];exact h.dy
theorem IA(q:Q)(r b d:Rd)(c a:Int)(y:Sp)(w:Wd)(e:Oo.apart q=true)(g:Oo.cJ q.1=(r,c,0))(h:r.name.2.2=0)(i:Obj.dV r.next.v.x c=(y,a,0))(j:b={ r.next with v:={ r.next.v with x:=y } })(k:b.make r.next.v.cF r.dt 1003 0 [a]=(d,w,0)) :
 Oo.lN q=((d,q.2),0):=by
 unfold Oo.lN;rw[if_neg (by rw[e];simp),g,if_neg (by simp)];simp only;rw[if_neg (by rw[h];simp),i];simp only;rw[if_neg (by simp),<- j,k]
theorem IB(h:St pf D S 0 none f q){L nm t:List UInt8}{i:Nat}(E:pY D L i)(U:Src.d' nm=true)(N:nm.length<=31)(R:gY q (L++32 :: t)){G:List UInt8}(u:∃ n,Src.dA q.1.next.src q.1.next.cM=(nm,n)/\q.1.src.drop n=G)(hr:q.1.v.x.cu+100<=60000) :
 ∃ (p:Q) (w:Wd),Oo.lN q=(p,0)/\w.name=cG nm/\w.cP=0/\gY p G/\p.1.v.x.cu<=q.1.v.x.cu+80 /\
  St pf { D with ws:=w :: D.ws,fx:=(w.xt+8,q.1.v.x.cu) :: (w.xt,1003) :: (q.1.v.x.cu,dG D.A i) :: D.fx } S 0 none f p:=by
 have aa:Oo.apart q=true:=by
  unfold Oo.apart;rw[h.eN,h.comp];rfl
 have e1:=qB h E R;obtain⟨h1,h2,h3⟩:=h.skip R E.d';obtain⟨n,V,ad⟩:=u;have P:q.1.next.dt=nm:=by show(Src.dA q.1.next.src q.1.next.cM).1=nm;rw[V]
 have ae:=h.fQ.cu;obtain⟨y,g1,g2,g3⟩:=h.fQ.lN E.lt (by omega);obtain⟨j,T⟩:∃ j:Rd,j=q.1.next.next:=⟨_,rfl⟩;have Y:j={ q.1 with cM:=n }:=by
  rw[T];show({ q.1 with cM:=(Src.dA q.1.next.src q.1.next.cM).2 }:Rd)=_;rw[V]
 obtain⟨k,B⟩:∃ k:Rd,k={ j with v:={ j.v with x:=y } }:=⟨_,rfl⟩;have F:k.v.x=y:=by rw[B]
 obtain⟨x',w,X,m2,m3,m4,m5,g4⟩:=FJ k (by rw[F];exact g3) U N 1003 0 q.1.v.x.cu (by unfold dB;omega) (by decide) (by decide) (by unfold dB;omega) (by rw[F];omega);rw[F]at m4 m5;have ab:q.1.next.next.v.cF=24:=h.cF;obtain⟨c,C⟩:∃ c:Rd,c={ k with v:={ k.v with x:=x' },ea:=w }:=⟨_,rfl⟩;rw[<- C]at X;have hq:Oo.lN q=((c,q.2),0):=by
  refine IA q q.1.next k c (dG D.A i) q.1.v.x.cu y w aa e1 ?_ g1 (by rw[B,T]) ?_
  . rw[jZ P U N]
  . rw[P]
    exact(congrArg (fun z=>k.make z nm 1003 0 [q.1.v.x.cu]) ab).trans X
 have W:c.v.x=x':=by rw[C]
 have hb:c.v.x.cu<=q.1.v.x.cu+80:=by rw[W];omega
 have H:c.src=k.src/\c.cM=k.cM:=by rw[C];exact⟨rfl,rfl⟩
 have I:k.src=j.src/\k.cM=j.cM:=by rw[B];exact⟨rfl,rfl⟩
 have J:j.src=q.1.src/\j.cM=n:=by rw[Y];exact⟨rfl,rfl⟩
 have K:j.v=q.1.v/\j.pf=q.1.pf/\j.comp=q.1.comp/\j.eM=q.1.eM/\j.dy=q.1.dy/\j.eE=q.1.eE/\j.is=q.1.is:=by rw[Y];exact⟨rfl,rfl,rfl,rfl,rfl,rfl,rfl⟩
 refine⟨(c,q.2),w,hq,m2,m3,?_,hb,?_⟩
 . show c.src.drop c.cM=G
   rw[H.1,H.2,I.1,I.2,J.1,J.2];exact ad
 . obtain⟨ls,l1,l2,l3⟩:=h.eE
   have O:∀ z:Int × Int,z ∈ D.fx->z ∈ (w.xt+8,q.1.v.x.cu) :: (w.xt,(1003:Int)) :: (q.1.v.x.cu,dG D.A i) :: D.fx:=fun z hz=>List.mem_cons_of_mem _ (List.mem_cons_of_mem _ (List.mem_cons_of_mem _ hz));have s:∀ {α:Type} (g:VM->α),(∀ v x,g { v with x:=x }=g v)->g c.v=g q.1.v:=fun g M=>by
    have Z:g c.v=g k.v:=by rw[C];exact M k.v x'
    have a2:g k.v=g j.v:=by rw[B];exact M j.v y
    exact Z.trans (a2.trans (congrArg g K.1))
   have u:c.pf=q.1.pf/\c.comp=q.1.comp/\c.eM=q.1.eM/\c.dy=q.1.dy/\c.eE=q.1.eE/\c.is=q.1.is:=by
    have c1:c.pf=j.pf/\c.comp=j.comp/\c.eM=j.eM/\c.dy=j.dy/\c.eE=j.eE/\c.is=j.is:=by rw[C,B];exact⟨rfl,rfl,rfl,rfl,rfl,rfl⟩
    obtain⟨d0,d1,d2,d3,d4,d5,d6⟩:=K;rw[<- d1,<- d2,<- d3,<- d4,<- d5,<- d6];exact c1
   refine⟨by show eF.In _ c.v.x;rw[W];exact g4,(s VM.dD (fun _ _=>rfl)).trans h.dD,(s VM.cF (fun _ _=>rfl)).trans h.cF,(s VM.root (fun _ _=>rfl)).trans h.root,(s VM.cy (fun _ _=>rfl)).trans h.cy,(s VM.dL (fun _ _=>rfl)).trans h.dL,(s VM.cV (fun _ _=>rfl)).trans h.cV,(s VM.d (fun _ _=>rfl)).trans h.dd,(s VM.r (fun _ _=>rfl)).trans h.rr,(s VM.cI (fun _ _=>rfl)).trans h.cI,
    u.1.trans h.Iu,u.2.1.trans h.comp,u.2.2.1.trans h.eM,u.2.2.2.1.trans h.dy,⟨ls,u.2.2.2.2.1.trans l1,fun a ha=>O _ (l2 a ha),l3⟩,h.eN,fun e=>absurd rfl e,(fun _ _ _ e=>by cases e),h.eH,fun p l ac=>O _ (h.tO p l ac),fun a b=>u.2.2.2.2.2.trans (h.UA a b),h.eb⟩
end Fo
namespace Fo
variable {pf:List UInt8->Option Int} {D:eF} {S:List (List UInt8)} {o f:Int} {m:Option (Int × Int × Int)} {q:Q}
def fj(q p:Q):Prop:=∀ l R,fH (p,l) R->fH (q,l) R
theorem fj.trans{q p r:Q}(h:fj q p)(k:fj p r):fj q r:=fun l R a=>h l R (k l R a)
theorem ib(h:St pf D S o m f q)(j:0<f){s t:List UInt8}{p:Q}(g:gY q (s++32 :: t))(a:Src.d' s=true)(i:ig s (Oo.cH q) (p,0))(k:p.1.v.cI=f-1):fj q p:=by
 obtain⟨b,_,_⟩:=h.go g a;have d:s≠[]:=fun e=>by rw[e]at a;cases a
 have n:=h.cI;intro l R c;exact fH.ok q p l R h.dL (by rw[b];exact d) (by omega) (by rw[b];exact i) (by omega) c
theorem xW(h:St pf D S o m f q)(a:gY q [10])(l:Int):∃ p,fH (q,l) (p,l)/\St pf D S o m f p/\p.1.v.x.cu=q.1.v.x.cu:=by
 have b:Src.dA q.1.src q.1.cM=([],q.1.cM+1):=by
  have a:q.1.src.drop q.1.cM=[10]:=a;have e:Src.skip q.1.src q.1.cM=q.1.cM+1:=by unfold Src.skip;rw[a];rfl
  have d:q.1.src.drop (q.1.cM+1)=[]:=by rw[<- List.drop_drop,a];rfl
  have b:(q.1.src.drop (q.1.cM+1)).takeWhile (fun c=>!Src.blank c)=[]:=by rw[d];rfl
  unfold Src.dA;simp only;rw[e,b];simp only[List.length_nil,Nat.add_zero];rw[d,if_neg (by decide)]
 refine⟨(q.1.next,q.2),fH.done q l h.dL (by show(Src.dA q.1.src q.1.cM).1=[];rw[b]),?_⟩;have:q.1.next={ q.1 with cM:=q.1.cM+1 }:=by
  show({ q.1 with cM:=(Src.dA q.1.src q.1.cM).2 }:Rd)=_;rw[b]
 refine⟨?_,rfl⟩;rw[this];exact { h with }
structure sK(pf:List UInt8->Option Int)(D:eF):Prop where
 tok:∀ s ∈ ([[108,105,116],[40,101,120,105,116,109,41],[40,115,117,112,101,114,41],[40,115,101,110,100,41],[40,99,97,108,108,41],[101,120,105,116],[40,99,97,117,103,104,116,41]]:List (List UInt8)),∃ k,pf s=some k/\dB k/\(k,num s) ∈ D.fx
 one:∃ w,Mem.dv D.ws [49,43]=some w/\w.cP % 2=0/\dB w.xt/\(w.xt,num [49,43]) ∈ D.fx
 Ms:∃ w,Mem.dv D.ws [99,97,116,99,104]=some w/\dB w.xt/\(w.xt,num [99,97,116,99,104]) ∈ D.fx
 zr:D.ws.all (fun w=>!dE.fa w.name)=true
 Wh:∃ k,pf [40,99,97,117,103,104,116,41]=some k/\(2824,k) ∈ D.fx
structure Body where
 nm:List UInt8
 n:Int
 lP:Bool
def Body.dJ(b:Body):List UInt8:=if b.lP then [115,117,112,101,114]++32 :: (b.nm++32 :: ([49,43]++32 :: ([101,110,100,109]++[32])))else dE.gC b.n 10++32 :: ([101,110,100,109]++[32])
def Body.cells(pf:List UInt8->Option Int)(Xq:Int)(A:List Int)(L:List dr)(i:Nat)(n:Int)(b:Body):List Int :=
 if b.lP then [(pf [40,115,117,112,101,114,41]).getD 0,Class.iq A (Ref.get L i).cE,n,Xq,(pf [40,101,120,105,116,109,41]).getD 0]
 else [(pf [108,105,116]).getD 0,b.n,(pf [40,101,120,105,116,109,41]).getD 0]
theorem gS:∀ (l k:List Int) (D:eF) (a:Int),(D.fJ a l).fJ (a+8*(l.length:Int)) k=D.fJ a (l++k)
 | [],k,D,a=>by simp[eF.fJ]
 | n :: l,k,D,a=>by
  have:=gS l k { D with fx:=(a,n) :: D.fx } (a+8);rw[List.length_cons];rw[show a+8*((l.length+1:Nat):Int)=a+8+8*(l.length:Int) by omega]
  exact this
theorem Bz{s:List UInt8}(h:dE.fa s=true):gr s=none:=by
 have b:∀ nm:List UInt8,dE.fa nm=false->¬ s=nm:=fun nm a e=>by rw[<- e,h]at a;cases a
 unfold gr mY;repeat rw[if_neg (b _ (by decide))]
theorem sK.grow{e:eF}(h:sK pf D)(g:∀ p ∈ D.fx,p ∈ e.fx)(i:Mem.dv e.ws [49,43]=Mem.dv D.ws [49,43])(j:Mem.dv e.ws [99,97,116,99,104]=Mem.dv D.ws [99,97,116,99,104])(l:e.ws.all (fun w=>!dE.fa w.name)=true):sK pf e:=by
 refine⟨fun s n=>?_,?_,?_,l,?_⟩
 . obtain⟨k,a,b,c⟩:=h.tok s n
   exact⟨k,a,b,g _ c⟩
 . obtain⟨w,a,b,c,d⟩:=h.one
   exact⟨w,by rw[i];exact a,b,c,g _ d⟩
 . obtain⟨w,a,b,c⟩:=h.Ms
   exact⟨w,by rw[j];exact a,b,g _ c⟩
 . obtain⟨k,a,b⟩:=h.Wh
   exact⟨k,a,g _ b⟩
theorem sK.put(h:sK pf D)(a:Int)(l:List Int):sK pf (D.fJ a l):=by
 obtain⟨_,_,_,b⟩:=eF.dO l D a;exact h.grow (eF.fI l D a) (by rw[b]) (by rw[b]) (by rw[b];exact h.zr)
theorem FM(r:sK pf D){c s x:Int}(h:St pf D S o (some (c,s,x)) f q)(hf:10<f){i:Nat}(U:i<D.L.length)(R:c=dG D.A i)(b:Body)(ah:Src.d' b.nm=true)(ag:b.nm.length<=31)(V:dB b.n)(ai:gu S b.nm=(S,s,0)){t:List UInt8}(u:gY q (b.dJ++t))(hx:q.1.v.x.cu=x+8)
 (I:dB s) (b2:dB x) (hs:Ref.set D.L i s x=(Ref.put D.L i s x,0)) (hr:q.1.v.x.cu+100<=60000) :
 ∃ (p:Q) (d:Wd) (f':Int),Mem.dv D.ws [49,43]=some d/\fj q p/\gY p t/\f-5<=f'/\p.1.v.x.cu<=q.1.v.x.cu+60/\St pf { D.fJ (x+8) (b.cells pf d.xt D.A D.L i s)with L:=Ref.put D.L i s x } S o none f' p:=by
 obtain⟨d,aa,am,an,al⟩:=r.one;obtain⟨ke,G,ad,_⟩:=r.tok [40,101,120,105,116,109,41] (by simp);have ab:dE.fa (dE.gC b.n 10)=true:=dE.nP b.n V.1 V.2;cases F:b.lP with
 | true =>
  obtain⟨y,af,ak,_⟩:=r.tok [40,115,117,112,101,114,41] (by simp);have W:b.dJ++t=[115,117,112,101,114]++32 :: (b.nm++32 :: ([49,43]++32 :: ([101,110,100,109]++32 :: t))):=by
   unfold Body.dJ;rw[if_pos F];simp
  rw[W]at u;obtain⟨n1,O,Y⟩:=h.go u (by decide);obtain⟨a,J,z,B,e⟩:=Mq O U R ah ag Y ai I af ak (by show q.1.v.x.cu+24<=60000;omega);have r2:fj q a:=ib h (by omega) u (by decide) (by have:=ig.obj (s:=[115,117,112,101,114]) (q:=Oo.cH q) 170 (by decide +kernel) (by simp);rw[<- J];exact this) e.cI;have B:a.1.v.x.cu=q.1.v.x.cu+24:=B;have M:(Oo.cH q).1.v.x.cu=x+8:=hx;rw[M]at e;obtain⟨H,s2,j,s4⟩:=eF.dO [y,Class.iq D.A (Ref.get D.L i).cE,s] D (x+8);have ao:=r.put (x+8) [y,Class.iq D.A (Ref.get D.L i).cE,s];obtain⟨n3,h3,p3⟩:=e.go z (by decide);obtain⟨g,e4,p4,x4,E⟩:=PK h3 rfl (s:=[49,43]) p3 (by decide +kernel) (by decide +kernel) (w:=d) (by rw[s4];exact aa) am (eF.fI _ D (x+8) _ al) (by decide +kernel) an (by show a.1.v.x.cu+8<=60000;omega);have r4:fj a g:=ib e (by omega) z (by decide) e4 E.cI;have x4:g.1.v.x.cu=a.1.v.x.cu+8:=x4;have g4:(Oo.cH a).1.v.x.cu=x+8+8*(([y,Class.iq D.A (Ref.get D.L i).cE,s].length:Nat):Int):=by show a.1.v.x.cu=_;simp only[List.length_cons,List.length_nil];omega
  rw[g4,gS]at E;obtain⟨H,s2,j,s4⟩:=eF.dO ([y,Class.iq D.A (Ref.get D.L i).cE,s]++[d.xt]) D (x+8);obtain⟨n5,P,Z⟩:=E.go p4 (by decide);obtain⟨l,K,p6,C,k⟩:=FK P (by rw[j];exact U) (by rw[H];exact R) Z I b2 (by rw[j];exact hs) G ad (by show g.1.v.x.cu+8<=60000;omega);have r6:fj g l:=ib E (by omega) p4 (by decide) (by have:=ig.obj (s:=[101,110,100,109]) (q:=Oo.cH g) 165 (by decide +kernel) (by simp);rw[<- K];exact this) k.cI;have C:l.1.v.x.cu=g.1.v.x.cu+8:=C;have N:(Oo.cH g).1.v.x.cu=x+8+8*((([y,Class.iq D.A (Ref.get D.L i).cE,s]++[d.xt]).length:Nat):Int):=by show g.1.v.x.cu=_;simp only[List.length_append,List.length_cons,List.length_nil];omega
  rw[N,gS,j]at k;have T:b.cells pf d.xt D.A D.L i s=[y,Class.iq D.A (Ref.get D.L i).cE,s]++[d.xt]++[ke]:=by
   unfold Body.cells;rw[if_pos F,af,G];rfl
  refine⟨l,d,f-1-1-1,aa,(r2.trans r4).trans r6,p6,by omega,by omega,?_⟩;rw[T];exact k
 | false =>
  obtain⟨X,ae,aj,_⟩:=r.tok [108,105,116] (by simp);have W:b.dJ++t=dE.gC b.n 10++32 :: ([101,110,100,109]++32 :: t):=by
   unfold Body.dJ;rw[if_neg (by rw[F];simp)];simp
  rw[W]at u;have ac:=mC ab;obtain⟨n1,O,Y⟩:=h.go u ac;obtain⟨a,J,z,B,e⟩:=Sn O rfl Y b.n V (Bz ab) r.zr ae aj (by show q.1.v.x.cu+16<=60000;omega);have r2:fj q a:=ib h (by omega) u ac J e.cI;have B:a.1.v.x.cu=q.1.v.x.cu+16:=B;have M:(Oo.cH q).1.v.x.cu=x+8:=hx;rw[M]at e;obtain⟨H,s2,j,s4⟩:=eF.dO [X,b.n] D (x+8);obtain⟨n5,P,Z⟩:=e.go z (by decide);obtain⟨l,K,p6,C,k⟩:=FK P (by rw[j];exact U) (by rw[H];exact R) Z I b2 (by rw[j];exact hs) G ad (by show a.1.v.x.cu+8<=60000;omega);have r6:fj a l:=ib e (by omega) z (by decide) (by have:=ig.obj (s:=[101,110,100,109]) (q:=Oo.cH a) 165 (by decide +kernel) (by simp);rw[<- K];exact this) k.cI;have C:l.1.v.x.cu=a.1.v.x.cu+8:=C;have N:(Oo.cH a).1.v.x.cu=x+8+8*(([X,b.n].length:Nat):Int):=by show a.1.v.x.cu=_;simp only[List.length_cons,List.length_nil];omega
  rw[N,gS,j]at k;have T:b.cells pf d.xt D.A D.L i s=[X,b.n]++[ke]:=by
   unfold Body.cells;rw[if_neg (by rw[F];simp),ae,G];rfl
  refine⟨l,d,f-1-1,aa,r2.trans r6,p6,by omega,by omega,?_⟩;rw[T];exact k
end Fo
namespace Fo
def dg(n:Nat):List UInt8:=dE.gC n 10
def dz(s:Nat):List UInt8:=109 :: dg s
def eS(i:Nat):List UInt8:=107 :: dg i
def gi(i:Nat):List UInt8:=111 :: eS i
theorem Mt(n:Nat)(h:n<=65535):dE.fa (dg n)=true:=dE.nP n (by omega) (by omega)
theorem Mu{a b:Nat}(f:a<=65535)(g:b<=65535)(e:dg a=dg b):a=b:=by
 have c:=dE.qq a (by omega) (by omega);have d:=dE.qq b (by omega) (by omega);have e:dE.gC (a:Int) 10=dE.gC (b:Int) 10:=e;rw[e,d]at c;injection c with c _;omega
theorem mX(b:Nat):∀ (k n:Nat),n<b ^ k->2<=b->∀ j,k<=j->(dE.eo b j n).length<=max k 1
 | k,n,hn,hb,0,_=>by simp[dE.eo]
 | 0,n,hn,hb,j+1,_=>by
  have:n=0:=by simpa using hn
  subst this;unfold dE.eo;simp
 | k+1,n,hn,hb,j+1,hj=>by
  unfold dE.eo;by_cases h0:n / b=0
  . rw[if_pos h0];simp
  . rw[if_neg h0,List.length_cons]
    have hlt:n / b<b ^ k:=by
     rw[Nat.pow_succ]at hn;exact Nat.div_lt_of_lt_mul (by rw[Nat.mul_comm];exact hn)
    have:=mX b k (n / b) hlt hb j (by omega)
    have hk:k≠0:=by
     rintro rfl;simp at hlt
     exact h0 (Nat.div_eq_of_lt (by omega))
    omega
theorem jw(n:Nat)(h:n<=65535):1<=(dg n).length/\(dg n).length<=5:=by
 have e:dg n=(dE.eo 10 64 n).reverse:=by
  have:=dE.rA n (by omega) (by omega);simpa[dg] using this
 rw[e,List.length_reverse];refine⟨?_,mX 10 5 n (by omega) (by decide) 64 (by decide)⟩;unfold dE.eo;simp
theorem qC{c:UInt8}{s:List UInt8}(a:Src.blank c=false)(h:Src.d' s=true):Src.d' (c :: s)=true:=by
 unfold Src.d' at h |-;simp only[Bool.and_eq_true,List.all_cons]at h |-;exact⟨rfl,by rw[a];rfl,h.2⟩
theorem qD(c:UInt8)(s:List UInt8):cG (c :: s)=mw c :: cG s:=rfl
theorem hU(s:Nat)(h:s<=65535):Src.d' (dz s)=true/\(dz s).length<=31/\cG (dz s)=dz s/\dz s≠[]:=by
 have a:=Mt s h;have b:=jw s h;refine⟨qC (by decide) (mC a),by unfold dz;rw[List.length_cons];omega,?_,fun e=>by cases e⟩;unfold dz;rw[qD,mD a];rfl
theorem nh(i:Nat)(h:i<=65535):Src.d' (eS i)=true/\(eS i).length<=20/\cG (eS i)=eS i:=by
 have a:=Mt i h;have b:=jw i h;refine⟨qC (by decide) (mC a),by unfold eS;rw[List.length_cons];omega,?_⟩;unfold eS;rw[qD,mD a];rfl
theorem oZ(i:Nat)(h:i<=65535):Src.d' (gi i)=true/\(gi i).length<=31/\cG (gi i)=gi i:=by
 have a:=nh i h;refine⟨qC (by decide) a.1,by unfold gi;rw[List.length_cons];omega,?_⟩;unfold gi;rw[qD,a.2.2];rfl
theorem xX{a b:Nat}(c:a<=65535)(d:b<=65535)(e:dz a=dz b):a=b:=Mu c d (by injection e)
theorem xY{a b:Nat}(c:a<=65535)(d:b<=65535)(e:eS a=eS b):a=b:=Mu c d (by injection e)
theorem IC{a b:Nat}(c:a<=65535)(d:b<=65535)(e:gi a=gi b):a=b:=xY c d (by injection e)
theorem o'(a b:Nat):eS a≠gi b:=fun e=>by injection e with e _;cases e
theorem vK(c:UInt8)(s:List UInt8)(h:c≠45)(a:dE.kC c=false):dE.fa (c :: s)=false:=by
 unfold dE.fa;split
 . rename_i e;injection e with e _;exact absurd e h
 . simp[a]
def sg(S:List (List UInt8))(s:Int):Int:=fi S (dz (s-1).toNat)
structure BA(S:List (List UInt8)):Prop where
 nd:S.Nodup
 BC:∀ s ∈ S,∃ k,k<5/\s=dz k
theorem BA.len{S:List (List UInt8)}(h:BA S):S.length<=5:=by
 have l:∀ {a b:List (List UInt8)},a.Nodup->(∀ s ∈ a,s ∈ b)->a.length<=b.length:=by
  intro a;induction a with
  | nil=>intro b _ _;simp
  | cons x a j =>
   intro b d c;rw[List.nodup_cons]at d;have g:=c x (by simp);have:=j (b:=b.erase x) d.2 (fun s f=>(List.mem_erase_of_ne (fun e=>d.1 (by rw[<- e];exact f))).2 (c s (by simp[f])));rw[List.length_erase_of_mem g]at this;have:0<b.length:=List.length_pos_of_mem g;simp only[List.length_cons];omega
 have:=l (b:=[dz 0,dz 1,dz 2,dz 3,dz 4]) h.nd (fun s c=>by
  obtain⟨k,i,rfl⟩:=h.BC s c;match k,i with
  | 0,_=>simp
  | 1,_=>simp
  | 2,_=>simp
  | 3,_=>simp
  | 4,_=>simp)
 simpa using this
theorem lR{S:List (List UInt8)}{s:List UInt8}(a:cG s=s)(h:s ∈ S):fi S s=(S.idxOf s+1:Nat):=by
 unfold fi;rw[a,if_pos h]
theorem BD{S:List (List UInt8)}{a b:List UInt8}(h:cG a=a)(i:cG b=b)(c:a ∈ S)(d:b ∈ S)(e:fi S a=fi S b):a=b:=by
 rw[lR h c,lR i d]at e;have e:S.idxOf a=S.idxOf b:=by omega
 have f:=List.getElem_idxOf (List.idxOf_lt_length_iff.2 c);have g:=List.getElem_idxOf (List.idxOf_lt_length_iff.2 d);rw[<- f,<- g];simp only[e]
theorem BE{S T:List (List UInt8)}{s:List UInt8}(a:cG s=s)(h:s ∈ S):fi (S++T) s=fi S s:=by
 rw[lR a h,lR a (by simp[h]),List.idxOf_append,if_pos h]
theorem nX{S:List (List UInt8)}(h:BA S)(k:Nat)(t:k<5):∃ d n,gu S (dz k)=(d,n,0)/\BA d/\dz k ∈ d/\n=fi d (dz k)/\gu d (dz k)=(d,n,0)/\1<=n/\n<=5/\(∀ s ∈ S,s ∈ d/\fi d s=fi S s):=by
 obtain⟨A,B,l,v⟩:=hU k (by omega);have q:∀ s ∈ S,cG s=s:=fun s c=>by
  obtain⟨j,y,rfl⟩:=h.BC s c;exact(hU j (by omega)).2.2.1
 have z:=h.len;by_cases f:dz k ∈ S
 . have x:=List.idxOf_lt_length_iff.2 f
   have g:=lR l f;have i:gu S (dz k)=(S,fi S (dz k),0):=by
    unfold gu;rw[if_pos (by omega)]
   exact⟨S,_,i,h,f,rfl,i,by omega,by omega,fun s c=>⟨c,rfl⟩⟩
 . have w:fi S (dz k)=0:=by
    unfold fi;rw[l,if_neg f]
   have i:gu S (dz k)=(S++[dz k],((S.length+1:Nat):Int),0):=by
    unfold gu;rw[if_neg (by omega),if_neg (by intro e;rcases e with e | e;exact v e;omega),if_neg (by omega),l]
   have m:dz k ∈ S++[dz k]:=by simp
   have g:fi (S++[dz k]) (dz k)=(S.length+1:Nat):=by
    rw[lR l m,List.idxOf_append,if_neg f];simp
   have o:BA (S++[dz k]):=by
    refine⟨?_,fun s c=>?_⟩
    . rw[List.nodup_append]
      exact⟨h.nd,by simp,fun a p b r e=>by
       have:b=dz k:=by simpa using r
       exact f (by rw[<- this,<- e];exact p)⟩
    . rcases List.mem_append.1 c with c | c
      . exact h.BC s c
      . exact⟨k,t,by simpa using c⟩
   have u:=o.len;simp only[List.length_append,List.length_cons,List.length_nil]at u;refine⟨_,_,i,o,m,g.symm,?_,by omega,by omega,fun s c=>⟨by simp[c],BE (q s c) c⟩⟩;unfold gu;rw[if_pos (by rw[g];omega),g]
theorem PL{l:List (Int × Int)}{s x:Int}(h:Ref.own l s=some x):(s,x) ∈ l:=by
 induction l with
 | nil=>cases h
 | cons p l a =>
  unfold Ref.own at h;split at h
  . rename_i e
    injection h with h;subst e h;simp
  . simp[a h]
theorem pa(L:List dr)(h:Ref.Ok L)(s:Int)(c:Int)(f : -1<=c)(i:c<L.length):∀ p,Ref.dH L c s=some p->0<=p.2/\p.2<=c/\(s,p.1) ∈ (Ref.get L p.2).own:=by
 refine Ref.xd L h (P:=fun c=>∀ p,Ref.dH L c s=some p->0<=p.2/\p.2<=c/\(s,p.1) ∈ (Ref.get L p.2).own) ?_ ?_ c f i
 . intro p a
   rw[Ref.gD L (-1) s (by omega)]at a;cases a
 . intro k b j p a
   rw[Ref.lu L h k s b]at a;cases d:Ref.own (Ref.get L k).own s with
   | some x =>
    rw[d]at a;simp only at a;injection a with a;subst a;exact⟨by simp only;omega,by simp only;omega,PL d⟩
   | none =>
    rw[d]at a;simp only at a;have e:=j p a;have g:=h k b;rw[<- Ref.get_at L k b]at g;exact⟨e.1,by omega,e.2.2⟩
theorem vL(L:List dr)(h:Ref.Ok L)(e:∀ i:Nat,i<L.length->(Ref.get L i).cy=9)(n:∀ i:Nat,i<L.length->∀ p ∈ (Ref.get L i).own,1<=p.1/\p.1<=5)(c:Nat)(f xt:Int)(q:1<=f):Ref.set L c f xt=(Ref.put L c f xt,0):=by
 unfold Ref.set;rw[if_neg (by omega),if_neg];rw[List.any_eq_true];rintro⟨i,k,d⟩;rw[List.mem_range]at k;unfold Ref.oF at d;simp only[Bool.and_eq_true,decide_eq_true_eq]at d;have j:Ref.seen L i<=5:=by
  have g:=Ref.uB L h i (by omega) (by omega) [] (by simp)
  have l:=Ref.qP (b:=[1,2,3,4,5]) g.1 (fun s e=>by
   rcases (g.2 s).1 e with a | a
   . cases a
   . obtain⟨p,o⟩:=Option.isSome_iff_exists.1 a
     have j:=pa L h s i (by omega) (by omega) p o;have m:=n p.2.toNat (by omega) (s,p.1) (by rw[show((p.2.toNat:Nat):Int)=p.2 by omega];exact j.2.2);simp only at m;have:s=1\/s=2\/s=3\/s=4\/s=5:=by omega
     simpa using this)
  exact l
 rw[e i k]at d;omega
end Fo
open Go Go.RowKit Go.Proofs.K
theorem vM(b:Nat)(hb:2<=b):∀ (k m:Nat),m<b ^ (k+1)->dE.eo b (k+1) m=dE.eo b (k+2) m
 | 0,m,h=>by
  have h0:m / b=0:=Nat.div_eq_of_lt (by simpa using h)
  unfold dE.eo;rw[if_pos h0,if_pos h0]
 | k+1,m,h=>by
  unfold dE.eo;by_cases h0:m / b=0
  . rw[if_pos h0,if_pos h0]
  . rw[if_neg h0,if_neg h0,vM b hb k (m / b) (Nat.div_lt_of_lt_mul (by rw[Nat.mul_comm,<- Nat.pow_succ];exact h))]
theorem ID(b n:Nat)(a:2<=b)(h:n<18446744073709551616)(c:¬ n / b=0):(dE.eo b 64 n).reverse=(dE.eo b 64 (n / b)).reverse++[dE.oC (n % b)]:=by
 have d:n / b<b ^ (62+1):=by
  refine Nat.lt_of_lt_of_le ?_ (Nat.pow_le_pow_left a 63);refine Nat.div_lt_of_lt_mul (Nat.lt_of_lt_of_le h ?_);have:2*2 ^ 63<=b*2 ^ 63:=Nat.mul_le_mul_right _ a;have e:(2:Nat)*2 ^ 63=18446744073709551616:=by decide
  omega
 rw[<- vM b a 62 (n / b) d];show(dE.oC (n % b) :: (if n / b=0 then [] else dE.eo b 63 (n / b))).reverse=_;rw[if_neg c,List.reverse_cons]
theorem Mv(b n:Nat)(a:n / b=0):(dE.eo b 64 n).reverse=[dE.oC (n % b)]:=by
 show(dE.oC (n % b) :: (if n / b=0 then [] else dE.eo b 63 (n / b))).reverse=_;rw[if_pos a];rfl
theorem PM(d:Nat)(h:d<36):(⟨#[48,49,50,51,52,53,54,55,56,57,65,66,67,68,69,70,71,72,73,74,75,76,77,78,79,80,81,82,83,84,85,86,87,88,89,90]⟩:ByteArray).extract d (d+1)=⟨#[dE.oC d]⟩:=by
 have:∀ i:Fin 36,(⟨#[48,49,50,51,52,53,54,55,56,57,65,66,67,68,69,70,71,72,73,74,75,76,77,78,79,80,81,82,83,84,85,86,87,88,89,90]⟩:ByteArray).extract i.1 (i.1+1)=⟨#[dE.oC i.1]⟩:=by decide +kernel
 exact this ⟨d,h⟩
theorem BF(b:Nat):∀ k n:Nat,(dE.eo b k n).length<=k
 | 0,_=>Nat.le_refl _
 | k+1,n=>by
  unfold dE.eo;split
  . simp
  . rw[List.length_cons];have:=BF b k (n / b);omega
theorem pd(a b:List UInt8):(⟨a.toArray⟩:ByteArray)++⟨b.toArray⟩=⟨(a++b).toArray⟩:=by
 rw[ByteArray.ext_iff,ByteArray.data_append];simp
theorem zs(b:Nat)(p:2<=b)(q:b<=36)(n:Nat)(v:n<18446744073709551616):∀ w:World,
 Calls Tryz.prog 99 #[.int .u64 (n:Int),.int .i64 (b:Int)] w fun e w'=>e=.returned (.string ⟨((dE.eo b 64 n).reverse).toArray⟩)/\cq (fun _=>False) w w':=by
 induction n using Nat.strongRecOn with
 | ind n k =>
 intro w;have j:n / b<=n:=Nat.div_le_self n b;have m:=fun (h:¬ n / b=0) (V:World)=>k (n / b) (Nat.div_lt_self (Nat.pos_of_ne_zero (fun e=>h (by rw[e];exact Nat.zero_div b))) (by omega)) (by omega) V;have d:¬ n / b=0->b<=n:=fun h=>Nat.le_of_not_lt fun e=>h (Nat.div_eq_of_lt e);have f:n / b=0->n<b:=fun h=>(Nat.div_eq_zero_iff_lt (by omega)).1 h;have B:(0:Int)<=(n:Int):=by omega
 have u:n % b<36:=Nat.lt_of_lt_of_le (Nat.mod_lt _ (by omega)) q;have i:=PM (n % b) u;have z:decide ((b:Int)<2)=false:=decide_eq_false (by omega);have A:decide (36<(b:Int))=false:=decide_eq_false (by omega);have g:(n:Int) / (b:Int)=((n / b:Nat):Int):=by push_cast;rfl
 have l:=h_ g;have r:0<=(n:Int) / (b:Int)/\(n:Int) / (b:Int)<18446744073709551616:=by
  rw[g];exact⟨Int.natCast_nonneg _,by omega⟩
 have x:IntKind.u64.wrap ((n:Int) / (b:Int))=(n:Int) / (b:Int):=IntWalk.u64_in _ (by omega);clear k g;by_cases a:n / b=0
 . have t:=f a
   have o:decide ((b:Int)<=(n:Int))=false:=decide_eq_false (by omega);have c:=Mv b n a;clear d f j r x;go_enter Tryz.func99,Tryz.ntmps99;go_wp2_with fail;go_quiet (fail);go_wp2;go_ret;exact⟨by rw[c];exact congrArg (fun b=>Ending.returned (Value.string b)) i,cq.drewN _ w _⟩
 . have t:=d a
   have o:decide ((b:Int)<=(n:Int))=true:=decide_eq_true (by omega);have c:=ID b n p v a;have s:(dE.eo b 64 (n / b)).reverse.length<=64:=by rw[List.length_reverse];exact BF b 64 _
   clear d f j;go_enter Tryz.func99,Tryz.ntmps99;go_wp2_with fail;go_quiet (fail);rw[i];go_wp2_with fail;rw[l.out];refine(m a _).mono ?_;rintro e D ⟨rfl,y⟩;generalize (dE.eo b 64 (n / b)).reverse=P at s c |-;have C:¬ 9223372036854775807<P.length+1:=by omega
   go_wp2;go_ret;exact⟨by rw[c,<- pd];rfl,(cq.drewN _ w _).trans y⟩
theorem TU(n:Nat)(a:n<=65535):(dE.eo 10 64 n).reverse=Fo.dg n:=by
 have:=dE.rA n (by omega) (by omega);rw[Int.toNat_natCast]at this;exact this.symm
theorem nY(n:Nat)(b:n<=65535)(w:World):Calls prog 49 #[I_ (n:Int)] w fun e w'=>e=.returned (S_ (Fo.dg n))/\K_ w w':=by
 have a:=fun V=>zs 10 (by decide) (by decide) n (by omega) V;have d:(0:Int)<=(n:Int)/\(n:Int)<18446744073709551616:=by omega
 have f:IntKind.u64.wrap (n:Int)=(n:Int):=IntWalk.u64_in _ (by omega);rw[TU n b]at a;go_enter func49,ntmps49;go_wp2_with fail;refine(a _).mono ?_;rintro e g ⟨rfl,c⟩;go_wp2;go_ret;exact⟨rfl,c⟩
theorem pG(n:Nat)(c:n<=65535)(w:World):Calls Tryz.prog 52 #[.int .i64 (n:Int)] w fun e w'=>e=.returned (.string ⟨(Fo.eS n).toArray⟩)/\cq (fun _=>False) w w':=by
 have b:=fun V=>nY n c V;have d:=(Fo.jw n c).2;have a:=show Fo.eS n=[107]++Fo.dg n from rfl;generalize Fo.dg n=P at b d a;have g:¬ 9223372036854775807<1+P.length:=by omega
 go_enter Tryz.func52,Tryz.ntmps52;go_wp2_with fail;refine(b _).mono ?_;rintro e h ⟨rfl,f⟩;go_wp2;go_ret;exact⟨by rw[a,<- pd];rfl,f⟩
namespace Fo
structure Act where
 kind:Nat
 p:Nat
 c:Nat
 cZ:Nat
 n:Nat
 lP:Bool
namespace Act
def body(a:Act):Body:=⟨dz (a.cZ % 5),a.n,a.lP⟩
def lS(a:Act)(n:Nat):Bool:=decide (a.kind % 3=0) || decide (n=0)
def lx(a:Act)(n:Nat):Option Nat:=if a.p<n then some a.p else none
def ml(a:Act)(n:Nat):List UInt8:=match a.lx n with | some i=>eS i | none=>[45]
def s1(a:Act):Int:=((a.cZ % 5:Nat):Int)+1
def pH(a:Act)(n:Nat):List UInt8:=[99,108,97,115,115]++32 :: (eS n++32 :: (a.ml n++32 :: ([109,101,116,104,111,100]++32 :: (dz (a.cZ % 5)++32 :: (a.body.dJ++([101,110,100,99,108,97,115,115]++32 :: ([111,98,106,101,99,116]++32 :: (eS n++32 :: (gi n++[10])))))))))
def nZ(a:Act)(n:Nat):List UInt8:=[114,101,100,101,102,105,110,101]++32 :: (eS (a.c % n)++32 :: (dz (a.cZ % 5)++32 :: (a.body.dJ++[10])))
def dJ(a:Act)(n:Nat):List UInt8:=if a.lS n then a.pH n else a.nZ n
end Act
def grow(TL:List dr)(j:Nat)(a:Act):List dr :=
 if a.lS TL.length then TL++[⟨Class.cU (a.lx TL.length),0,9,[(a.s1,(j:Int))]⟩] else Ref.put TL (a.c % TL.length) a.s1 j
structure Code(pf:List UInt8->Option Int)(D:eF)(S:List (List UInt8))(x1:Int)(i:Nat)(a:Act)(xt:Int):Prop where
 head:(xt,1004) ∈ D.fx
 cells:∀ (j:Nat) (hj:j<(a.body.cells pf x1 D.A D.L i (sg S a.s1)).length),(xt+8+8*(j:Int),(a.body.cells pf x1 D.A D.L i (sg S a.s1))[j]) ∈ D.fx
theorem Code.grow{pf:List UInt8->Option Int}{D b:eF}{S c:List (List UInt8)}{x1:Int}{i:Nat}{a:Act}{xt:Int}(h:Code pf D S x1 i a xt)(d:∀ p ∈ D.fx,p ∈ b.fx)(f:Class.iq b.A (Ref.get b.L i).cE=Class.iq D.A (Ref.get D.L i).cE)(g:sg c a.s1=sg S a.s1):Code pf b c x1 i a xt:=by
 have e:a.body.cells pf x1 b.A b.L i (sg c a.s1)=a.body.cells pf x1 D.A D.L i (sg S a.s1):=by unfold Body.cells;rw[f,g]
 refine⟨d _ h.head,?_⟩;rw[e];exact fun j k=>d _ (h.cells j k)
def Vh(D:eF)(i:Nat):Prop:=∃ (w:Wd) (a:Int),Mem.dv D.ws (gi i)=some w/\w.cP=0/\dB w.xt/\(w.xt,1003) ∈ D.fx/\(w.xt+8,a) ∈ D.fx/\(a,dG D.A i) ∈ D.fx
structure ou(pf:List UInt8->Option Int)(dM:List Act)(TL:List dr)(D:eF)(S:List (List UInt8))(τ:Nat->Int)(x1:Int):Prop where
 dD:sK pf D
 one:∃ w,Mem.dv D.ws [49,43]=some w/\w.xt=x1
 eb:BA S
 len:D.L.length=TL.length
 lx:∀ i:Nat,i<TL.length->(Ref.get D.L i).cE=(Ref.get TL i).cE
 cy:∀ i:Nat,i<TL.length->(Ref.get TL i).cy=9
 own:∀ i:Nat,i<TL.length->(Ref.get D.L i).own=(Ref.get TL i).own.map fun p=>(sg S p.1,τ p.2.toNat)
 Jk:∀ i:Nat,i<TL.length->∀ p ∈ (Ref.get TL i).own,∃ (j:Nat) (a:Act),p.2=(j:Int)/\dM[j]?=some a/\p.1=a.s1/\dz (a.cZ % 5) ∈ S/\Code pf D S x1 i a (τ j)
 kn:∀ i:Nat,i<TL.length->pY D (eS i) i
 ob:∀ i:Nat,i<TL.length->Vh D i
theorem mq(S:List (List UInt8))(a:Act):sg S a.s1=fi S (dz (a.cZ % 5)):=by
 unfold sg Act.s1;rw[show(((a.cZ % 5:Nat):Int)+1-1).toNat=a.cZ % 5 by omega]
theorem eZ(w:Wd)(ws:List Wd)(s:List UInt8)(h:w.name≠s):Mem.dv (w :: ws) s=Mem.dv ws s:=by
 unfold Mem.dv;rw[List.find?_cons,decide_eq_false h];rfl
theorem ji(w:Wd)(ws:List Wd)(h:w.cP % 4<2):Mem.dv (w :: ws) w.name=some w:=by
 unfold Mem.dv;rw[List.find?_cons,decide_eq_true rfl,decide_eq_true h];rfl
theorem PO{S:List (List UInt8)}(h:BA S){k:Nat}(a:dz k ∈ S):1<=fi S (dz k)/\fi S (dz k)<=5:=by
 obtain⟨j,f,e⟩:=h.BC _ a;have b:cG (dz k)=dz k:=by rw[e];exact(hU j (by omega)).2.2.1
 have:=lR b a;have c:=List.idxOf_lt_length_iff.2 a;have d:=h.len;omega
section
variable {pf:List UInt8->Option Int} {dM:List Act} {TL:List dr} {D:eF} {S:List (List UInt8)} {τ:Nat->Int} {x1:Int}
theorem ou.BC(h:ou pf dM TL D S τ x1)(i:Nat)(b:i<D.L.length):∀ p ∈ (Ref.get D.L i).own,1<=p.1/\p.1<=5:=by
 intro p c;rw[h.len]at b;rw[h.own i b]at c;obtain⟨u,f,rfl⟩:=List.mem_map.1 c;obtain⟨j,a,_,_,e,d,_⟩:=h.Jk i b u f;simp only;rw[e,mq];exact PO h.eb d
theorem ou.FN(h:ou pf dM TL D S τ x1){x:Sp}(b:D.In x):Ref.Ok TL:=by
 intro i a;have:=b.iE.uD i (by rw[h.len];exact a);rw[<- Ref.get_at D.L i (by rw[h.len];exact a),h.lx i a,Ref.get_at TL i a]at this;exact this
theorem ou.Vi(h:ou pf dM TL D S τ x1)(a:Act):Vg D (a.ml TL.length) (a.lx TL.length)/\∀ j,a.lx TL.length=some j->j<D.L.length:=by
 unfold Act.ml;cases b:a.lx TL.length with
 | none=>exact⟨rfl,fun j e=>by cases e⟩
 | some i =>
  have c:i<TL.length:=by
   unfold Act.lx at b;split at b
   . rename_i e;injection b with b;omega
   . cases b
  exact⟨⟨h.kn i c,fun e=>by cases e⟩,fun j e=>by injection e with e;rw[h.len];omega⟩
end
end Fo
def PQ(a:Fo.Act):Array Value:=#[.int .u8 (a.kind:Int),.int .u8 (a.p:Int),.int .u8 (a.c:Int),.int .u8 (a.cZ:Int),.int .u16 (a.n:Int),.bool a.lP]
structure rK(a:Fo.Act):Prop where
 kind:a.kind<=255
 p:a.p<=255
 c:a.c<=255
 cZ:a.cZ<=255
 n:a.n<=65535
def Fo.Act.Ys(a:Fo.Act):List UInt8:=Fo.dz (a.cZ % 5)++32 :: a.body.dJ
theorem BG(a:Fo.Act)(h:rK a)(w:World):Calls prog 97 #[.agg (PQ a)] w fun e w'=>e=.returned (S_ (a.Ys))/\K_ w w':=by
 obtain⟨m,p,c,b,n,j⟩:=a;obtain⟨A,B,C,D,s⟩:=h;dsimp only at A B C D s;unfold PQ;dsimp only;have q:=h_ fun V=>nY (b % 5) (by omega) V;have t:=h_ fun V=>nY n s V;have E:=(Fo.jw (b % 5) (by omega)).2;have F:=(Fo.jw n s).2;have v:(b:Int) % 5=((b % 5:Nat):Int):=by omega
 have u:=h_ v;have K:(0:Int)<=(b:Int):=by omega
 have L:(b:Int)<256:=by omega
 have k:=cx w (.cells #[.int .u8 (m:Int),.int .u8 (p:Int),.int .u8 (c:Int),.int .u8 (b:Int),.int .u16 (n:Int),.bool j] 103);have l:=dR w (.cells #[.int .u8 (m:Int),.int .u8 (p:Int),.int .u8 (c:Int),.int .u8 (b:Int),.int .u16 (n:Int),.bool j] 103);have M:wrap64 ((b:Int) % 5)=(b:Int) % 5:=IntWalk.wrap64_in _ (by omega);have y:wrap64 (n:Int)=(n:Int):=IntWalk.wrap64_in _ (by omega);clear v;have f:Fo.Act.Ys ⟨m,p,c,b,n,j⟩=[109]++Fo.dg (b % 5)++(if j then [32,115,117,112,101,114,32]++([109]++Fo.dg (b % 5))++[32,49,43,32,101,110,100,109,32] else [32]++Fo.dg n++[32,101,110,100,109,32]):=by
  unfold Fo.Act.Ys Fo.Act.body Fo.Body.dJ Fo.dz Fo.dg;cases j <;> simp
 generalize Fo.Act.Ys ⟨m,p,c,b,n,j⟩=T at f |-;generalize Fo.dg (b % 5)=P at q E f;generalize Fo.dg n=R at t F f;have H:¬ 9223372036854775807<1+P.length:=by omega
 have I:¬ 9223372036854775807<1+P.length+1:=by omega
 cases j with
 | true =>
  have o:=h_ (f.trans rfl);clear f;go_enter func97,ntmps97;go_wp2_with fail;rw[u.out];refine(q.out _).mono ?_;rintro e y ⟨rfl,g⟩;have d:=g.heap k id;have r:=h_ (l.trans g);have O:=cp (i:=3) d rfl;have G:=cp (i:=5) d rfl;clear g k d l;go_wp2;go_ret;refine⟨?_,r.out⟩;rw[o.out];show Ending.returned (Value.string _)=_;simp only[pd,if_true,List.append_assoc]
 | false =>
  have o:=h_ (f.trans rfl);clear f;go_enter func97,ntmps97;go_wp2_with fail;rw[u.out];refine(q.out _).mono ?_;rintro e y ⟨rfl,g⟩;have d:=g.heap k id;have r:=h_ (l.trans g);have Q:=cp (i:=4) d rfl;have G:=cp (i:=5) d rfl;clear g k d l;go_wp2_with fail;refine(t.out _).mono ?_;rintro e N ⟨rfl,x⟩;have z:=h_ (r.out.trans x);have J:¬ 9223372036854775807<1+P.length+1+R.length:=by omega
  clear x;go_wp2;go_ret;refine⟨?_,z.out⟩;rw[o.out];show Ending.returned (Value.string _)=_;simp only[pd,Bool.false_eq_true,if_false,List.append_assoc]
namespace Fo
variable {pf:List UInt8->Option Int} {dM:List Act} {TL:List dr} {D:eF} {S:List (List UInt8)} {τ:Nat->Int} {x1:Int} {q:Q} {f:Int}
theorem FO(L:List dr)(k:Option Nat)(s:Int):(Ref.get (Ref.new L (Class.cU k) s) L.length).own=[]:=by
 rw[Class.mN,Ref.jI]
theorem FQ(L:List dr)(k:Option Nat)(s:Int)(i:Nat)(a:i<L.length):Ref.get (Ref.new L (Class.cU k) s) i=Ref.get L i:=by
 rw[Class.mN,Ref.mL L _ i a]
theorem FR(L:List dr)(k:Option Nat)(s:Int):(Ref.get (Ref.new L (Class.cU k) s) L.length).cE=Class.cU k:=by
 rw[Class.mN,Ref.jI]
theorem rL(L:List dr)(k:Option Nat)(s:Int):(Ref.new L (Class.cU k) s).length=L.length+1:=by
 rw[Class.mN];simp
theorem kP{D:eF}{o:Int}{m:Option (Int × Int × Int)}(h:St pf D S o m f q):32<=q.1.v.x.cu/\q.1.v.x.cu<=60000:=by
 have b:=h.fQ.cu;have a:=h.fQ.al.ok;have c:=h.fQ.xQ;unfold Sp.Ok at a;omega
theorem Mw(k:ou pf dM TL D S τ x1)(h:St pf D S 0 none f q)(a:Act)(ha:a.n<=65535)(hn:TL.length<=60)(o:gY q (a.pH TL.length))(hf:100<f)(hr:q.1.v.x.cu+700<=60000) :
 ∃ (p:Q) (O:List (List UInt8)) (m xt b la B f':Int) (w l:Wd),fH (q,0) (p,0)/\f-20<=f'/\p.1.v.x.cu<=q.1.v.x.cu+700/\gu S (dz (a.cZ % 5))=(O,m,0)/\dB xt/\w.name=eS TL.length/\l.name=gi TL.length/\l.cP=0/\dB l.xt /\
  ∃ (T':List Int) (F:List (Int × Int)),
  St pf ⟨D.A++[b],T',Ref.put (Ref.new D.L (Class.cU (a.lx TL.length)) 9) TL.length m xt,l :: { w with cP:=0 } :: D.ws,F⟩ O 0 none f' p /\
  (∀ z ∈ D.fx,z ∈ F)/\(w.xt,1003) ∈ F/\(w.xt+8,b) ∈ F/\(l.xt,1003) ∈ F/\(l.xt+8,B) ∈ F/\(B,b) ∈ F/\(xt,1004) ∈ F /\
  ∀ (j:Nat) (X:j<(a.body.cells pf x1 (D.A++[b]) (Ref.new D.L (Class.cU (a.lx TL.length)) 9) TL.length m).length),(xt+8+8*(j:Int),(a.body.cells pf x1 (D.A++[b]) (Ref.new D.L (Class.cU (a.lx TL.length)) 9) TL.length m)[j]) ∈ F:=by
 obtain⟨ad,aW,ap⟩:=nh TL.length (by omega);obtain⟨au,aH,aI⟩:=oZ TL.length (by omega);obtain⟨aq,ar,aX,aY⟩:=hU (a.cZ % 5) (by omega);obtain⟨aD,aE⟩:=k.Vi a;have hh:=kP h
 -- class
 unfold Act.pH at o;obtain⟨_,g1,p1⟩:=h.go o (by decide);obtain⟨C,w,la,e1,w1,w2,p2,x2,H⟩:=Mp g1 ad (by omega) aD aE p1 (by show q.1.v.x.cu+400<=60000;omega);have x2:C.1.v.x.cu<=q.1.v.x.cu+400:=x2;obtain⟨b,ak⟩:∃ b,b=(Oo.cH q).1.v.x.cu+232:=⟨_,rfl⟩;have aP:b=q.1.v.x.cu+232:=ak;rw[<- ak]at H;obtain⟨c,W⟩:∃ c:eF,c=⟨D.A++[b],D.T++[(Oo.cH q).1.v.x.cu],Ref.new D.L (Class.cU (a.lx TL.length)) 9,w :: D.ws,(la,0) :: (w.xt+8,b) :: (w.xt,1003) :: D.fx⟩:=⟨_,rfl⟩;rw[<- W]at H;have ac:c.A=D.A++[b]:=by rw[W]
 have aa:c.L=Ref.new D.L (Class.cU (a.lx TL.length)) 9:=by rw[W]
 have P:c.ws=w :: D.ws:=by rw[W]
 have ae:c.fx=(la,0) :: (w.xt+8,b) :: (w.xt,1003) :: D.fx:=by rw[W]
 have af:c.L.length=TL.length+1:=by rw[aa,rL,k.len]
 have r1:fj q C:=ib h (by omega) o (by decide) (by have:=ig.obj (s:=[99,108,97,115,115]) (q:=Oo.cH q) 160 (by decide +kernel) (by simp);rw[<- e1];exact this) H.cI;have M:w.name=eS TL.length:=by rw[w1,ap]
 have aQ:=kP H
 -- method
 obtain⟨O,m,s1,s2,s3,s4,s5,s6,s7,s8⟩:=nX k.eb (a.cZ % 5) (by omega);obtain⟨_,g3,p3⟩:=H.go p2 (by decide);obtain⟨q3,e3,p4,x4,I⟩:=Iy g3 (by omega) aq ar p3 s1 (by show C.1.v.x.cu+8<=60000;omega);have x4:q3.1.v.x.cu=C.1.v.x.cu+8:=x4;have r3:fj C q3:=ib H (by omega) p2 (by decide) (by have:=ig.obj (s:=[109,101,116,104,111,100]) (q:=Oo.cH C) 163 (by decide +kernel) (by simp);rw[<- e3];exact this) I.cI;obtain⟨xt,ao⟩:∃ xt,xt=(Oo.cH C).1.v.x.cu:=⟨_,rfl⟩;have aV:xt=C.1.v.x.cu:=ao;rw[<- ao]at I;obtain⟨u1,u2,Z,K⟩:=eF.dO [1004] c xt;have uo:=eF.fI [1004] c xt;have un:(xt,(1004:Int)) ∈ (c.fJ xt [1004]).fx:=by have:=eF.lQ [1004] c xt 0 (by simp);simpa using this
 generalize c.fJ xt [1004]=d at I u1 u2 Z K uo un
 -- its body
 have aj:sK pf c:=by
  refine k.dD.grow (fun z u=>by rw[ae];simp[u]) ?_ ?_ ?_
  . rw[P,eZ _ _ _ (by rw[M];exact fun e=>by cases e)]
  . rw[P,eZ _ _ _ (by rw[M];exact fun e=>by cases e)]
  . rw[P,List.all_cons,k.dD.zr,M]
    simp only[Bool.and_true,Bool.not_eq_true'];exact vK _ _ (by decide) (by decide)
 have az:sK pf d:=aj.grow uo (by rw[K]) (by rw[K]) (by rw[K];exact aj.zr);have J:TL.length<d.L.length:=by rw[Z,af];omega
 have aA:b=dG d.A TL.length:=by
  rw[u1,ac,<- k.len,<- h.fQ.iE.nA];exact(Class.ly _ _).symm
 have aF:Ref.set d.L TL.length m xt=(Ref.put d.L TL.length m xt,0):=by
  refine vL d.L I.fQ.iE.uD (fun i J=>(I.fQ.sl i J).1) (fun i J p o=>?_) _ _ _ s6;rw[Z]at J o;rw[af]at J;rw[aa]at o;by_cases am:i<TL.length
  . rw[FQ D.L _ _ i (by rw[k.len];exact am)]at o
    exact k.BC i (by rw[k.len];exact am) p o
  . have:i=TL.length:=by omega
    subst this;rw[<- k.len,FO]at o;cases o
 obtain⟨q5,aL,f5,o1,r5,p6,x6,x7,U⟩:=FM az I (by omega) J aA a.body aq ar (by unfold dB;show _<=(a.n:Int)/\(a.n:Int)<=_;omega) s5 p4 (by omega) (by unfold dB;omega) (by unfold dB;omega) aF (by omega);have aG:aL.xt=x1:=by
  obtain⟨wo,aM,aN⟩:=k.one;rw[K,P,eZ _ _ _ (by rw[M];exact fun e=>by cases e),aM]at o1;injection o1 with o1;rw[<- o1];exact aN
 rw[aG]at U;obtain⟨t,al⟩:∃ t,t=a.body.cells pf x1 d.A d.L TL.length m:=⟨_,rfl⟩;rw[<- al]at U;obtain⟨v1,v2,v3,v4⟩:=eF.dO t d (xt+8);have vo:=eF.fI t d (xt+8);have vn:=eF.lQ t d (xt+8);generalize d.fJ (xt+8) t=D3 at U v1 v2 v3 v4 vo vn
 -- endclass
 obtain⟨_,g7,p7⟩:=U.go p6 (by decide);obtain⟨r,y,av,N,e7,p8,x8,V⟩:=By g7 (by omega) p7;have x8:r.1.v.x.cu=q5.1.v.x.cu:=x8;have r7:fj q5 r:=ib U (by omega) p6 (by decide) (by have:=ig.Sm (s:=[101,110,100,99,108,97,115,115]) (q:=Oo.cH q5) (by decide +kernel) g7.eH;rw[<- e7];exact this) V.cI;have u:y=w/\av=D.ws:=by
  have N:D3.ws=y :: av:=N;rw[v4,K,P]at N;injection N with N z2;exact⟨N.symm,z2.symm⟩
 obtain⟨rfl,rfl⟩:=u
 -- object
 obtain⟨g,G⟩:∃ g:eF,g={ D3 with L:=Ref.put d.L TL.length m xt,ws:={ y with cP:=0 } :: D.ws }:=⟨_,rfl⟩;have V:St pf g O 0 none (f5-1) r:=by rw[G];exact V
 have ag:g.A=D.A++[b]:=by rw[G];show D3.A=_;rw[v1,u1,ac]
 have ah:g.L=Ref.put (Ref.new D.L (Class.cU (a.lx TL.length)) 9) TL.length m xt:=by rw[G];show Ref.put d.L _ _ _=_;rw[Z,aa]
 have ai:g.ws={ y with cP:=0 } :: D.ws:=by rw[G]
 have R:∀ z ∈ c.fx,z ∈ g.fx:=fun z u=>by rw[G];exact vo _ (uo _ u)
 have ax:(xt,(1004:Int)) ∈ g.fx:=by rw[G];exact vo _ un
 have aw:∀ (j:Nat) (X:j<t.length),(xt+8+8*(j:Int),t[j]) ∈ g.fx:=fun j X=>by rw[G];exact vn j X
 have Y:(y.xt,(1003:Int)) ∈ c.fx/\(y.xt+8,b) ∈ c.fx/\∀ z ∈ D.fx,z ∈ c.fx:=by rw[ae];exact⟨by simp,by simp,fun z u=>by simp[u]⟩
 have ab:dG g.A TL.length=b:=by
  rw[ag,<- k.len,<- h.fQ.iE.nA];exact Class.ly _ _
 have aC:pY g (eS TL.length) TL.length:=by
  refine⟨ad,by omega,by rw[ah,Ref.gF,rL,k.len];omega,{ y with cP:=0 },?_,R _ Y.1,by rw[ab];exact R _ Y.2.1⟩;rw[ap,ai,<- M];exact ji { y with cP:=0 } D.ws (by show(0:Int) % 4<2;decide)
 obtain⟨_,g9,p9⟩:=V.go p8 (by decide);obtain⟨_,aO,aJ⟩:=g9.skip p9 ad;have an:=Src.PI (Oo.cH r).1.next.src (gi TL.length) [] (Oo.cH r).1.next.cM au aJ;obtain⟨q9,l,e9,y1,y2,aK,x9,E⟩:=IB g9 aC au aH p9 ⟨_,an.1,an.2⟩ (by show r.1.v.x.cu+100<=60000;omega);have x9:q9.1.v.x.cu<=r.1.v.x.cu+80:=x9;have r9:fj r q9:=ib V (by omega) p8 (by decide) (by have:=ig.obj (s:=[111,98,106,101,99,116]) (q:=Oo.cH r) 171 (by decide +kernel) (by simp);rw[<- e9];exact this) E.cI;obtain⟨B,ay⟩:∃ B,B=(Oo.cH r).1.v.x.cu:=⟨_,rfl⟩;rw[<- ay]at E;obtain⟨qe,te,he,hx⟩:=xW E aK 0;have aR:=kP E;have aS:=(E.fQ.iQ l (by simp)).2.2.1;have aT:=(E.fQ.iQ l (by simp)).1;have aU:=(E.fQ.iQ l (by simp)).2.1;refine⟨qe,O,m,xt,b,la,B,f5-1-1,y,l,((((r1.trans r3).trans r5).trans r7).trans r9) 0 _ te,by omega,by omega,s1,by unfold dB;omega,M,by rw[y1,aI],y2,by unfold dB;omega,g.T,(l.xt+8,B) :: (l.xt,1003) :: (B,dG g.A TL.length) :: g.fx,?_,?_⟩
 . rw[ab]
   rw[ab,ag,ah,ai]at he;exact he
 . rw[ab]
   refine⟨fun z u=>by simp[R z (Y.2.2 z u)],by simp[R _ Y.1],by simp[R _ Y.2.1],by simp,by simp,by simp,by simp[ax],?_⟩;have aB:a.body.cells pf x1 (D.A++[b]) (Ref.new D.L (Class.cU (a.lx TL.length)) 9) TL.length m=t:=by rw[al,u1,ac,Z,aa]
   rw[aB];intro j X;simp[aw j X]
end Fo
namespace Fo
variable {pf:List UInt8->Option Int} {dM:List Act} {TL:List dr} {D:eF} {S:List (List UInt8)} {τ:Nat->Int} {x1:Int} {q:Q} {f:Int}
def upτ(τ:Nat->Int)(n:Nat)(xt:Int):Nat->Int:=fun k=>if k=n then xt else τ k
theorem upτ_old(τ:Nat->Int){n k:Nat}(xt:Int)(h:k<n):upτ τ n xt k=τ k:=by unfold upτ;rw[if_neg (by omega)]
theorem ni{l:List Act}{j:Nat}{a:Act}(h:l[j]?=some a):j<l.length:=(List.getElem?_eq_some_iff.1 h).1
theorem tv{l:List Act}{j:Nat}{a:Act}(b:Act)(h:l[j]?=some a):(l++[b])[j]?=some a:=by rw[List.getElem?_append_left (ni h)];exact h
theorem ou.mr(d:ou pf dM TL D S τ x1){b:List (List UInt8)}(h:∀ s ∈ S,s ∈ b/\fi b s=fi S s){a:Act}(c:dz (a.cZ % 5) ∈ S):sg b a.s1=sg S a.s1:=by rw[mq,mq];exact(h _ c).2
theorem IE(A:List Int)(a p:Int)(h:p<A.length):Class.iq (A++[a]) p=Class.iq A p:=by
 unfold Class.iq;split
 . rfl
 . exact Class.mM _ _ _ (by omega)
theorem PS(h:ou pf dM TL D S τ x1)(ad:Ref.Ok D.L)(hA:D.A.length=TL.length)(a:Act)(ac:a.lS TL.length=true)(hn:TL.length<=60){r:List (List UInt8)}{l xt d u:Int}{w m:Wd}{T':List Int}{F:List (Int × Int)}(K:gu S (dz (a.cZ % 5))=(r,l,0))(U:w.name=eS TL.length)(G:m.name=gi TL.length)(aa:m.cP=0)(af:dB m.xt)
 (hF:∀ ag ∈ D.fx,ag ∈ F) (f1:(w.xt,1003) ∈ F) (f2:(w.xt+8,d) ∈ F) (f3:(m.xt,1003) ∈ F) (f4:(m.xt+8,u) ∈ F) (f5:(u,d) ∈ F) (f6:(xt,1004) ∈ F)
 (W:∀ (j:Nat) (hj:j<(a.body.cells pf x1 (D.A++[d]) (Ref.new D.L (Class.cU (a.lx TL.length)) 9) TL.length l).length),(xt+8+8*(j:Int),(a.body.cells pf x1 (D.A++[d]) (Ref.new D.L (Class.cU (a.lx TL.length)) 9) TL.length l)[j]) ∈ F) :
 ou pf (dM++[a]) (grow TL dM.length a) ⟨D.A++[d],T',Ref.put (Ref.new D.L (Class.cU (a.lx TL.length)) 9) TL.length l xt,m :: { w with cP:=0 } :: D.ws,F⟩ r (upτ τ dM.length xt) x1:=by
 obtain⟨S2,n2,s1,s2,s3,s4,s5,s6,s7,T⟩:=nX h.eb (a.cZ % 5) (by omega);rw[K]at s1;injection s1 with e1 e2;injection e2 with e2 _;subst e1 e2;have hg:grow TL dM.length a=TL++[⟨Class.cU (a.lx TL.length),0,9,[(a.s1,(dM.length:Int))]⟩]:=by unfold grow;rw[if_pos ac]
 rw[hg];obtain⟨k,hk⟩:∃ k,k=a.lx TL.length:=⟨_,rfl⟩;rw[<- hk]at W |-;have x:=h.len;have v:TL.length<(Ref.new D.L (Class.cU k) 9).length:=by rw[rL,x];omega
 have J:∀ i:Nat,i<TL.length->Ref.get (Ref.put (Ref.new D.L (Class.cU k) 9) TL.length l xt) i=Ref.get D.L i:=by
  intro i g;rw[Ref.nG _ _ _ _ v i (by omega),if_neg (by omega),FQ D.L k 9 i (by omega)]
 have I:(Ref.get (Ref.put (Ref.new D.L (Class.cU k) 9) TL.length l xt) TL.length).own=[(l,xt)]/\(Ref.get (Ref.put (Ref.new D.L (Class.cU k) 9) TL.length l xt) TL.length).cE=Class.cU k:=by
  rw[Ref.nG _ _ _ _ v TL.length v,if_pos rfl,<- x,FO,FR];exact⟨rfl,rfl⟩
 have C:Ref.get (TL++[⟨Class.cU k,0,9,[(a.s1,(dM.length:Int))]⟩]) TL.length=⟨Class.cU k,0,9,[(a.s1,(dM.length:Int))]⟩:=Ref.jI TL _;have E:∀ i:Nat,i<TL.length->Ref.get (TL++[⟨Class.cU k,0,9,[(a.s1,(dM.length:Int))]⟩]) i=Ref.get TL i:=fun i g=>Ref.mL TL _ i g;have Z:∀ i:Nat,i<TL.length->dG (D.A++[d]) i=dG D.A i:=fun i g=>Class.mM _ _ _ (by omega);have Y:dG (D.A++[d]) TL.length=d:=by rw[<- hA];exact Class.ly _ _
 have t:∀ s,s≠eS TL.length->s≠gi TL.length->Mem.dv (m :: { w with cP:=0 } :: D.ws) s=Mem.dv D.ws s:=by
  intro s K h2;rw[eZ _ _ _ (by rw[G];exact fun e=>h2 e.symm),eZ _ _ _ (by show w.name≠s;rw[U];exact fun e=>K e.symm)]
 have ae:∀ i:Nat,i<TL.length->(Ref.get D.L i).cE<D.A.length:=by
  intro i g;have:=ad i (by omega);rw[<- Ref.get_at D.L i (by omega)]at this;omega
 have o:(TL++[⟨Class.cU k,0,9,[(a.s1,(dM.length:Int))]⟩]:List dr).length=TL.length+1:=by simp
 refine⟨?_,?_,s2,?_,?_,?_,?_,?_,?_,?_⟩
 . refine h.dD.grow hF (t _ (fun e=>by cases e) (fun e=>by cases e)) (t _ (fun e=>by cases e) (fun e=>by cases e)) ?_
   show(m :: { w with cP:=0 } :: D.ws).all _=true;rw[List.all_cons,List.all_cons,h.dD.zr,G];show(!dE.fa (gi TL.length) && (!dE.fa w.name && true))=true;rw[U,show dE.fa (gi TL.length)=false from vK _ _ (by decide) (by decide),show dE.fa (eS TL.length)=false from vK _ _ (by decide) (by decide)];rfl
 . obtain⟨wo,o1,o2⟩:=h.one
   exact⟨wo,by rw[<- o1];exact t _ (fun e=>by cases e) (fun e=>by cases e),o2⟩
 . show(Ref.put _ _ _ _).length=_
   rw[Ref.gF,rL,o,x]
 . intro i g
   rw[o]at g;show(Ref.get (Ref.put _ _ _ _) i).cE=_;by_cases c:i<TL.length
   . rw[J i c,E i c,h.lx i c]
   . have:i=TL.length:=by omega
     subst this;rw[I.2,C]
 . intro i g
   rw[o]at g;by_cases c:i<TL.length
   . rw[E i c];exact h.cy i c
   . have:i=TL.length:=by omega
     subst this;rw[C]
 . intro i g
   rw[o]at g;show(Ref.get (Ref.put _ _ _ _) i).own=_;by_cases c:i<TL.length
   . rw[J i c,E i c,h.own i c]
     refine List.map_congr_left fun p n=>?_;obtain⟨j,b,P,z,R,B,_⟩:=h.Jk i c p n;rw[R,h.mr T B,P,Int.toNat_natCast,upτ_old τ xt (ni z)]
   . have:i=TL.length:=by omega
     subst this;rw[I.1,C];show [(l,xt)]=[(sg r a.s1,upτ τ dM.length xt ((dM.length:Int)).toNat)];rw[mq,<- s4,Int.toNat_natCast];unfold upτ;rw[if_pos rfl]
 . intro i g p n
   rw[o]at g;by_cases c:i<TL.length
   . rw[E i c]at n
     obtain⟨j,b,P,z,R,B,j5⟩:=h.Jk i c p n;refine⟨j,b,P,tv a z,R,(T _ B).1,?_⟩;rw[upτ_old τ xt (ni z)];refine j5.grow hF ?_ (h.mr T B);show Class.iq (D.A++[d]) (Ref.get (Ref.put _ _ _ _) i).cE=_;rw[J i c,IE _ _ _ (ae i c)]
   . have:i=TL.length:=by omega
     subst this;rw[C]at n;have n:p=(a.s1,(dM.length:Int)):=by simpa using n
     refine⟨dM.length,a,by rw[n],by simp,by rw[n],s3,?_⟩;unfold upτ;rw[if_pos rfl];have ab:a.body.cells pf x1 (D.A++[d]) (Ref.put (Ref.new D.L (Class.cU k) 9) TL.length l xt) TL.length (sg r a.s1)=a.body.cells pf x1 (D.A++[d]) (Ref.new D.L (Class.cU k) 9) TL.length l:=by
      unfold Body.cells;rw[I.2,mq,<- s4,<- x,FR]
     refine⟨f6,?_⟩;show ∀ (j:Nat) (hj:j<(a.body.cells pf x1 (D.A++[d]) (Ref.put (Ref.new D.L (Class.cU k) 9) TL.length l xt) TL.length (sg r a.s1)).length),(xt+8+8*(j:Int),(a.body.cells pf x1 (D.A++[d]) (Ref.put (Ref.new D.L (Class.cU k) 9) TL.length l xt) TL.length (sg r a.s1))[j]) ∈ F;rw[ab];exact W
 . intro i g
   rw[o]at g;by_cases c:i<TL.length
   . have M:=h.kn i c
     obtain⟨H,y,N,O⟩:=M.dA;have X:=(nh i (by omega)).2.2;rw[X]at y;refine⟨M.d',M.len,by show i<(Ref.put _ _ _ _).length;rw[Ref.gF,rL];omega,H,?_,hF _ N,?_⟩
     . rw[X,<- y]
       exact t _ (fun e=>by have:=xY (by omega) (by omega) e;omega) (o' _ _)
     . show(H.xt+8,dG (D.A++[d]) i) ∈ F
       rw[Z i c];exact hF _ O
   . have:i=TL.length:=by omega
     subst this;obtain⟨k1,k2,k3⟩:=nh TL.length (by omega);refine⟨k1,by omega,by show TL.length<(Ref.put _ _ _ _).length;rw[Ref.gF];exact v,{ w with cP:=0 },?_,f1,?_⟩
     . rw[k3]
       show Mem.dv (m :: { w with cP:=0 } :: D.ws) _=_;rw[eZ _ _ _ (by rw[G];exact fun e=>o' _ _ e.symm),<- U];exact ji { w with cP:=0 } D.ws (by show(0:Int) % 4<2;decide)
     . show(w.xt+8,dG (D.A++[d]) TL.length) ∈ F
       rw[Y];exact f2
 . intro i g
   rw[o]at g;by_cases c:i<TL.length
   . obtain⟨H,V,y,N,O,i4,i5,i6⟩:=h.ob i c
     refine⟨H,V,?_,N,O,hF _ i4,hF _ i5,?_⟩
     . rw[<- y]
       exact t _ (fun e=>o' _ _ e.symm) (fun e=>by have:=IC (by omega) (by omega) e;omega)
     . show(V,dG (D.A++[d]) i) ∈ F
       rw[Z i c];exact hF _ i6
   . have:i=TL.length:=by omega
     subst this;refine⟨m,u,?_,aa,af,f3,f4,?_⟩
     . show Mem.dv (m :: { w with cP:=0 } :: D.ws) _=_
       rw[<- G];exact ji m _ (by rw[aa];decide)
     . show(u,dG (D.A++[d]) TL.length) ∈ F
       rw[Y];exact f5
end Fo
end Go.Proofs.dS
