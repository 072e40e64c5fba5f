/- A part of WalkG. No condition. -/
import Derived.Test.YthhfkhhhclmimaaGreatDoorM45
import Derived.Test.YthhfkhhhclmimaaGreatDoorM29
set_option linter.unusedVariables false
set_option linter.unusedSimpArgs false
open Go.Proofs.Tryz
set_option maxRecDepth 10000
set_option maxHeartbeats 4000000
namespace Go.Proofs.dS
open Go Go.RowKit Go.Proofs.K Go.Proofs.tI
structure Fk where
 fb:Nat
 gf:Nat
 p1:Nat
 p2:Nat
 im:Nat
 gs:List UInt8->Nat
structure Fd where
 aa:Option Addr
 ac:Nat
 na:Option Addr
 nc:Nat
def Fd.own(D:Fd)(G:Gk)(F:Fk)(g:Nat):Prop:=g=F.fb\/g=F.gf\/g=F.p1\/g=F.p2\/g=G.K.nb\/g=F.im\/dF D.aa=some g\/dF D.na=some g\/∃ s,(gr s).isSome/\g=F.gs s
def rR(ob p1 p2:Nat)(x:Oo)(eH:Value):Array Value:=#[cD ob,.map (some p1),.map (some p2),I_ x.eN,I_ x.dA.cM,I_ x.dA.xt,I_ x.dA.cP,S_ x.dA.name,I_ x.root,eH,I_ x.target,I_ x.cZ,I_ x.xt]
def pS(n:Int):Prop := -9223372036854775808<=n/\n<=9223372036854775807
structure Oo.Ok(x:Oo):Prop where
 eN:0<=x.eN/\x.eN<=4194304
 dA:0<=x.dA.cM/\x.dA.cM<=4194304
 target:pS x.target
 eH:x.eH.length<=1000000000
 vW:∀ p,x.dq p≠none->(0<=p.1/\p.1<=4194304)/\0<=p.2/\p.2<=4194304
 rQ:∀ n,x.iR n≠none->0<=n/\n<=4194400
structure Qj(w:World)(G:Gk)(F:Fk)(D:Fd)(x:Oo):Prop where
 head:w.heap[F.fb]?=some (.cells (rR G.ob F.p1 F.p2 x (.slice D.aa x.eH.length D.ac)) 107 (0,0))
 dq:cX iN w F.p1 20000000000000 (fun p=>(x.dq p.1).map (Value.int .i64))
 iR:cX ik w F.p2 5000000 (fun n=>(x.iR n).map (Value.int .i64))
 eH:fp w 2 1 D.aa x.eH.length D.ac (x.eH.map (Value.int .i64))
 names:RG w G.K.nb F.im D.na D.nc x.eb
 box:w.heap[F.gf]?=some (.cells #[cD F.fb] 96 (0,0))
 SH:∀ s k,gr s=some k->w.heap[F.gs s]?=some (.cells #[bY k] 267 (0,0))
 ne:F.p1≠F.p2/\F.p1≠F.im/\F.p2≠F.im
 ok:x.Ok
def RO(G:Gk)(F:Fk)(w:World)(Y:Nat->Prop)(x:Oo):Prop:=∃ D,Qj w G F D x/\(∀ g,D.own G F g->Y g)/\∀ g,Y g->g<w.heap.size
section
variable {G:Gk} {F:Fk} {w w':World} {Y:Nat->Prop} {x:Oo}
theorem Qj.ct{D:Fd}{S:Nat->Prop}(h:Qj w G F D x)(k:cq S w w')(n:∀ g,D.own G F g->¬ S g):Qj w' G F D x:=by
 refine⟨k.heap h.head (n _ (.inl rfl)),h.dq.ct k (n _ (.inr (.inr (.inl rfl)))),h.iR.ct k (n _ (.inr (.inr (.inr (.inl rfl))))),h.eH.ct k (fun g a=>n g (.inr (.inr (.inr (.inr (.inr (.inr (.inl a)))))))),?_,k.heap h.box (n _ (.inr (.inl rfl))),?_,h.ne,h.ok⟩
 . exact h.names.ct k (n _ (.inr (.inr (.inr (.inr (.inl rfl)))))) (n _ (.inr (.inr (.inr (.inr (.inr (.inl rfl))))))) (fun g a=>n g (.inr (.inr (.inr (.inr (.inr (.inr (.inr (.inl a)))))))))
 . intro s c b
   exact k.heap (h.SH s c b) (n _ (.inr (.inr (.inr (.inr (.inr (.inr (.inr (.inr ⟨s,by rw[b];rfl,rfl⟩)))))))))
theorem bX{P:Program}{k:TypeId}{d:Type}{j:oN P k d}{w:World}{b n:Nat}{f:d->Option Value}(i:cX j w b n f){g:Nat}{a:Array Value}{t:TypeId}{c:Nat × Nat}(h:w.heap[g]?=some (.cells a t c)):g≠b:=fun e=>cX.jt i a t c (e ▸ h)
theorem og{P:Program}{k:TypeId}{i:Type}{p:oN P k i}{w:World}{b n:Nat}{f:i->Option Value}(o:cX p w b n f){e:TypeId}{q m c:Nat}{a:Option Addr}{r:List Value}(h:fp w e q a m c r):dF a≠some b:=by
 intro d;rcases h.jK with⟨g,_⟩ | ⟨j,cur,g,l,_⟩
 . rw[g]at d;cases d
 . rw[g]at d
   have:j=b:=by simpa[dF] using d
   subst this;exact bX o l rfl
structure Qj.XJ(G:Gk)(F:Fk)(D:Fd):Prop where
 fb:F.fb≠F.gf/\F.fb≠F.p1/\F.fb≠F.p2/\F.fb≠G.K.nb/\F.fb≠F.im/\dF D.aa≠some F.fb/\dF D.na≠some F.fb
 gf:F.gf≠F.p1/\F.gf≠F.p2/\F.gf≠G.K.nb/\F.gf≠F.im/\dF D.aa≠some F.gf/\dF D.na≠some F.gf
 nb:G.K.nb≠F.p1/\G.K.nb≠F.p2/\G.K.nb≠F.im/\dF D.aa≠some G.K.nb/\dF D.na≠some G.K.nb
 aa:dF D.aa≠some F.p1/\dF D.aa≠some F.p2/\dF D.aa≠some F.im
 na:dF D.na≠some F.p1/\dF D.na≠some F.p2/\dF D.na≠some F.im
 an:∀ g,dF D.aa=some g->dF D.na≠some g
 gs:∀ s,(gr s).isSome->F.gs s≠F.fb/\F.gs s≠F.gf/\F.gs s≠F.p1/\F.gs s≠F.p2/\F.gs s≠G.K.nb/\F.gs s≠F.im/\dF D.aa≠some (F.gs s)/\dF D.na≠some (F.gs s)
theorem Qj.UD{D:Fd}(h:Qj w G F D x):Qj.XJ G F D:=by
 refine⟨⟨eQ h.head h.box rfl,bX h.dq h.head,bX h.iR h.head,eQ h.head h.names.head rfl,bX h.names.Jh h.head,jx h.eH h.head rfl,jx h.names.own h.head rfl⟩,
  ⟨bX h.dq h.box,bX h.iR h.box,eQ h.box h.names.head rfl,bX h.names.Jh h.box,jx h.eH h.box rfl,jx h.names.own h.box rfl⟩,
  ⟨bX h.dq h.names.head,bX h.iR h.names.head,bX h.names.Jh h.names.head,jx h.eH h.names.head rfl,jx h.names.own h.names.head rfl⟩,
  ⟨og h.dq h.eH,og h.iR h.eH,og h.names.Jh h.eH⟩,⟨og h.dq h.names.own,og h.iR h.names.own,og h.names.Jh h.names.own⟩,fun g d=>P4 h.eH h.names.own rfl d,?_⟩
 intro s c;cases b:gr s with
 | none=>rw[b]at c;cases c
 | some k =>
  have a:=h.SH s k b;exact⟨eQ a h.head rfl,eQ a h.box rfl,bX h.dq a,bX h.iR a,eQ a h.names.head rfl,bX h.names.Jh a,jx h.eH a rfl,jx h.names.own a rfl⟩
theorem RO.ct{S:Nat->Prop}(h:RO G F w Y x)(k:cq S w w')(n:∀ g,Y g->¬ S g):RO G F w' Y x:=by
 obtain⟨D,c,b,d⟩:=h;exact⟨D,c.ct k (fun g a=>n g (b g a)),b,fun g a=>Nat.lt_of_lt_of_le (d g a) k.size⟩
theorem RO.lt(h:RO G F w Y x):∀ g,Y g->g<w.heap.size:=h.elim fun _ h=>h.2.2
theorem RO.f0(h:RO G F w Y x):w.cell? ⟨F.fb,0,none⟩=some (cD G.ob):=h.elim fun _ h=>cp h.1.head rfl
theorem RO.f1(h:RO G F w Y x):w.cell? ⟨F.fb,1,none⟩=some (.map (some F.p1)):=h.elim fun _ h=>cp h.1.head rfl
theorem RO.f3(h:RO G F w Y x):w.cell? ⟨F.fb,3,none⟩=some (I_ x.eN):=h.elim fun _ h=>cp h.1.head rfl
theorem RO.f4(h:RO G F w Y x):w.cell? ⟨F.fb,4,none⟩=some (I_ x.dA.cM):=h.elim fun _ h=>cp h.1.head rfl
theorem RO.f5(h:RO G F w Y x):w.cell? ⟨F.fb,5,none⟩=some (I_ x.dA.xt):=h.elim fun _ h=>cp h.1.head rfl
theorem RO.f6(h:RO G F w Y x):w.cell? ⟨F.fb,6,none⟩=some (I_ x.dA.cP):=h.elim fun _ h=>cp h.1.head rfl
theorem RO.f7(h:RO G F w Y x):w.cell? ⟨F.fb,7,none⟩=some (S_ x.dA.name):=h.elim fun _ h=>cp h.1.head rfl
theorem RO.f8(h:RO G F w Y x):w.cell? ⟨F.fb,8,none⟩=some (I_ x.root):=h.elim fun _ h=>cp h.1.head rfl
theorem RO.f9(h:RO G F w Y x):∃ a c,w.cell? ⟨F.fb,9,none⟩=some (.slice a x.eH.length c):=h.elim fun D h=>⟨D.aa,D.ac,cp h.1.head rfl⟩
theorem RO.f10(h:RO G F w Y x):w.cell? ⟨F.fb,10,none⟩=some (I_ x.target):=h.elim fun _ h=>cp h.1.head rfl
theorem RO.f11(h:RO G F w Y x):w.cell? ⟨F.fb,11,none⟩=some (I_ x.cZ):=h.elim fun _ h=>cp h.1.head rfl
theorem RO.f12(h:RO G F w Y x):w.cell? ⟨F.fb,12,none⟩=some (I_ x.xt):=h.elim fun _ h=>cp h.1.head rfl
theorem RO.ff(h:RO G F w Y x)(i:Nat):w.frozen? ⟨F.fb,i,none⟩=false:=h.elim fun _ h=>cB h.1.head
theorem RO.ok(h:RO G F w Y x):x.Ok:=h.elim fun _ h=>h.1.ok
theorem RO.UE(h:RO G F w Y x):Y F.fb:=h.elim fun _ h=>h.2.1 _ (.inl rfl)
end
section
variable {G:Gk} {F:Fk}
theorem RJ.Nj{w w':World}{Z X Y b:Nat->Prop}{q:Rd × Oo}{r':Rd}(m:RJ (RO G F) G w Z q)(r:ej w G X q.1)(l:RO G F w Y q.2)(d:∀ g,X g->¬ Y g)(s:∀ g,X g\/Y g->Z g)(j:ej w' G b r')(c:ef w X w' b) :
 ∃ f,RJ (RO G F) G w' f (r',q.2)/\ef w Z w' f:=by
 have e:ef w Z w' (fun g=>Z g\/b g):=⟨c.k.mono (fun g _ h=>s g (.inl h)),fun g a=>a.elim .inl (fun h=>(c.n g h).imp (fun h=>s g (.inl h)) id)⟩;have p:=l.lt;refine⟨fun g=>Z g\/b g,⟨⟨b,Y,j,l.ct c.k (fun g a h=>d g h a),fun g o i=>(c.n g o).elim (fun h=>d g h i) (fun h=>by have:=p g i;omega),fun g a=>a.elim .inr (fun h=>.inl (s g (.inr h)))⟩,?_,m.gl.uc e⟩,e⟩;rintro g (a | a)
 . exact Nat.lt_of_lt_of_le (m.lt g a) c.k.size
 . exact j.elim fun _ h=>h.2.2 g a
theorem ej.Vu{w:World}{X:Nat->Prop}{r:Rd}(h:ej w G X r):∀ g,X g->g<w.heap.size:=h.elim fun _ h=>h.2.2
theorem RJ.UF{w w':World}{Z X Y Y':Nat->Prop}{q:Rd × Oo}{x':Oo}(l:RJ (RO G F) G w Z q)(j:ej w G X q.1)(d:∀ g,X g->¬ Y g)(s:∀ g,X g\/Y g->Z g)(i:RO G F w' Y' x')(b:ef w Y w' Y') :
 ∃ c,RJ (RO G F) G w' c (q.1,x')/\ef w Z w' c:=by
 have e:ef w Z w' (fun g=>Z g\/Y' g):=⟨b.k.mono (fun g _ h=>s g (.inr h)),fun g a=>a.elim .inl (fun h=>(b.n g h).imp (fun h=>s g (.inr h)) id)⟩;have o:=j.Vu;refine⟨fun g=>Z g\/Y' g,⟨⟨X,Y',j.ct b.k (fun g a h=>d g a h),i,fun g f m=>(b.n g m).elim (fun h=>d g f h) (fun h=>by have:=o g f;omega),fun g a=>a.elim (fun h=>.inl (s g (.inl h))) .inr⟩,?_,l.gl.uc e⟩,e⟩;rintro g (a | a)
 . exact Nat.lt_of_lt_of_le (l.lt g a) b.k.size
 . exact i.lt g a
theorem RJ.wU{w h:World}{Z:Nat->Prop}{q:Rd × Oo}(d:RJ (RO G F) G w Z q){f:Nat}{a:Array Value}{P:Rd × Int}(l:∀ X,ej w G X q.1->(∀ g,X g->Z g)->Calls prog f a h (PR G X w P)) :
 Calls prog f a h (PJ (RO G F) G Z w ((P.1,q.2),P.2)):=by
 obtain⟨X,Y,b,j,k,c⟩:=d.parts;exact(l X b (fun g n=>c g (.inl n))).mono fun e w' ⟨m,p,o,i⟩=>⟨m,RJ.Nj d b j k c o i⟩
theorem RJ.Gb{w:World}{Z:Nat->Prop}{q:Rd × Oo}(d:RJ (RO G F) G w Z q){f:Nat}{a:Array Value}{r':Rd}(k:∀ X,ej w G X q.1->(∀ g,X g->Z g)->Calls prog f a w (Sr G X w r')) :
 Calls prog f a w (Qa (RO G F) G Z w (r',q.2)):=by
 obtain⟨X,Y,b,i,j,c⟩:=d.parts;exact(k X b (fun g m=>c g (.inl m))).mono fun e w' ⟨l,o,n,h⟩=>⟨l,RJ.Nj d b i j c n h⟩
def I0{β:Type}(V:β->Value)(G:Gk)(F:Fk)(Z:Nat->Prop)(w:World)(q:(Rd × Oo) × β × Int)(e:Ending)(w':World):Prop:=e=.returned (.tuple #[V q.2.1,I_ q.2.2])/\∃ Z',RJ (RO G F) G w' Z' q.1/\ef w Z w' Z'
theorem RJ.Nk{h:Type}{V:h->Value}{w:World}{Z:Nat->Prop}{q:Rd × Oo}(d:RJ (RO G F) G w Z q){f:Nat}{a:Array Value}{P:Rd × h × Int}(l:∀ X,ej w G X q.1->(∀ g,X g->Z g)->Calls prog f a w (MD V G X w P)) :
 Calls prog f a w (I0 V G F Z w ((P.1,q.2),P.2)):=by
 obtain⟨X,Y,b,j,k,c⟩:=d.parts;exact(l X b (fun g n=>c g (.inl n))).mono fun e w' ⟨m,p,o,i⟩=>⟨m,RJ.Nj d b j k c o i⟩
variable {w w':World} {Z:Nat->Prop} {q:Rd × Oo}
theorem RJ.Cn(h:RJ (RO G F) G w Z q):∃ X,ej w G X q.1:=h.parts.elim fun X h=>h.elim fun _ h=>⟨X,h.1⟩
theorem RJ.wV(h:RJ (RO G F) G w Z q):∃ Y,RO G F w Y q.2:=h.parts.elim fun X h=>h.elim fun Y h=>⟨Y,h.2.1⟩
theorem RJ.SI{S:Nat->Prop}(h:RJ (RO G F) G w Z q)(k:cq S w w')(n:∀ g,Z g->¬ S g)(f:∀ g,g<4->¬ S g):RJ (RO G F) G w' Z q:=by
 obtain⟨X,Y,c,d,e,b⟩:=h.parts;exact⟨⟨X,Y,c.ct k (fun g a=>n g (b g (.inl a))),d.ct k (fun g a=>n g (b g (.inr a))),e,b⟩,fun g a=>Nat.lt_of_lt_of_le (h.lt g a) k.size,h.gl.1.ct k f,h.gl.2⟩
theorem RJ.eL(h:RJ (RO G F) G w Z q)(k:K_ w w'):RJ (RO G F) G w' Z q:=h.SI k (fun _ _ e=>e) (fun _ _ e=>e)
theorem RJ.f0(h:RJ (RO G F) G w Z q):w.cell? ⟨F.fb,0,none⟩=some (cD G.ob):=h.wV.elim fun _ h=>h.f0
theorem RJ.f1(h:RJ (RO G F) G w Z q):w.cell? ⟨F.fb,1,none⟩=some (.map (some F.p1)):=h.wV.elim fun _ h=>h.f1
theorem RJ.f3(h:RJ (RO G F) G w Z q):w.cell? ⟨F.fb,3,none⟩=some (I_ q.2.eN):=h.wV.elim fun _ h=>h.f3
theorem RJ.f4(h:RJ (RO G F) G w Z q):w.cell? ⟨F.fb,4,none⟩=some (I_ q.2.dA.cM):=h.wV.elim fun _ h=>h.f4
theorem RJ.f5(h:RJ (RO G F) G w Z q):w.cell? ⟨F.fb,5,none⟩=some (I_ q.2.dA.xt):=h.wV.elim fun _ h=>h.f5
theorem RJ.f6(h:RJ (RO G F) G w Z q):w.cell? ⟨F.fb,6,none⟩=some (I_ q.2.dA.cP):=h.wV.elim fun _ h=>h.f6
theorem RJ.f7(h:RJ (RO G F) G w Z q):w.cell? ⟨F.fb,7,none⟩=some (S_ q.2.dA.name):=h.wV.elim fun _ h=>h.f7
theorem RJ.f8(h:RJ (RO G F) G w Z q):w.cell? ⟨F.fb,8,none⟩=some (I_ q.2.root):=h.wV.elim fun _ h=>h.f8
theorem RJ.f9(h:RJ (RO G F) G w Z q):∃ a c,w.cell? ⟨F.fb,9,none⟩=some (.slice a q.2.eH.length c):=h.wV.elim fun _ h=>h.f9
theorem RJ.f10(h:RJ (RO G F) G w Z q):w.cell? ⟨F.fb,10,none⟩=some (I_ q.2.target):=h.wV.elim fun _ h=>h.f10
theorem RJ.f11(h:RJ (RO G F) G w Z q):w.cell? ⟨F.fb,11,none⟩=some (I_ q.2.cZ):=h.wV.elim fun _ h=>h.f11
theorem RJ.f12(h:RJ (RO G F) G w Z q):w.cell? ⟨F.fb,12,none⟩=some (I_ q.2.xt):=h.wV.elim fun _ h=>h.f12
theorem RJ.ff(h:RJ (RO G F) G w Z q)(i:Nat):w.frozen? ⟨F.fb,i,none⟩=false:=h.wV.elim fun _ h=>h.ff i
theorem RJ.Jl(h:RJ (RO G F) G w Z q):q.2.Ok:=h.wV.elim fun _ h=>h.ok
theorem RJ.wW(h:RJ (RO G F) G w Z q):dZ w G.K q.1.v:=h.Cn.elim fun _ h=>h.fv
theorem RJ.o0(h:RJ (RO G F) G w Z q):w.cell? ⟨G.ob,0,none⟩=some (cD G.K.mb):=h.Cn.elim fun _ h=>h.o0
theorem RJ.o4(h:RJ (RO G F) G w Z q):w.cell? ⟨G.ob,4,none⟩=some (.bool q.1.comp):=h.Cn.elim fun _ h=>h.o4
theorem RJ.o5(h:RJ (RO G F) G w Z q):w.cell? ⟨G.ob,5,none⟩=some (.bool q.1.eM):=h.Cn.elim fun _ h=>h.o5
theorem RJ.vX(h:RJ (RO G F) G w Z q)(i:Nat):w.frozen? ⟨G.ob,i,none⟩=false:=h.Cn.elim fun _ h=>h.er i
theorem RJ.v0(h:RJ (RO G F) G w Z q):w.cell? ⟨G.K.mb,0,none⟩=some (cD G.K.s):=h.Cn.elim fun _ h=>h.v0
theorem RJ.v4(h:RJ (RO G F) G w Z q):w.cell? ⟨G.K.mb,4,none⟩=some (cD G.K.nb):=h.Cn.elim fun _ h=>h.fv.m4
theorem RJ.v7(h:RJ (RO G F) G w Z q):w.cell? ⟨G.K.mb,7,none⟩=some (I_ q.1.v.root):=h.Cn.elim fun _ h=>h.fv.m7
theorem RJ.v8(h:RJ (RO G F) G w Z q):w.cell? ⟨G.K.mb,8,none⟩=some (I_ q.1.v.cF):=h.Cn.elim fun _ h=>h.v8
theorem RJ.v9(h:RJ (RO G F) G w Z q):w.cell? ⟨G.K.mb,9,none⟩=some (I_ q.1.v.cy):=h.Cn.elim fun _ h=>h.fv.m9
theorem RJ.vs(h:RJ (RO G F) G w Z q):w.cell? ⟨G.K.s,0,none⟩=some (cD G.K.b):=h.Cn.elim fun _ h=>h.vs
end
section
variable (G:Gk) (F:Fk) (w:World) (Z:Nat->Prop) (q:Rd × Oo)
theorem vY(h:RJ (RO G F) G w Z q):Calls prog 259 #[cD F.fb] w fun e w'=>e=.returned (.bool (Oo.apart q))/\w=w':=by
 have i:=h.f0;have f:=h.f3;have g:=h.o4;clear h;unfold Oo.apart;by_cases a:q.2.eN=0
 . have b:(q.2.eN == 0)=true:=by simp[a]
   cases d:q.1.comp <;> rw[d]at g <;> clear d
   all_goals
    rw[a]at f;rw[a];clear a b;go_enter func259,ntmps259;go_wp2_with fail;go_ret;exact⟨rfl,rfl⟩
 . have b:(q.2.eN == 0)=false:=by simp[a]
   have c:decide (q.2.eN=0)=false:=decide_eq_false a;rw[c];clear a c;go_enter func259,ntmps259;go_wp2_with fail;go_ret;exact⟨rfl,rfl⟩
theorem sN(h:RJ (RO G F) G w Z q):Calls prog 263 #[cD F.fb] w fun e w'=>e=.returned (.bool (Oo.iK q))/\w=w':=by
 have i:=h.f0;have d:=h.f3;have f:=h.o4;clear h;unfold Oo.iK;by_cases a:q.2.eN=0
 . rw[a]at d
   rw[a];clear a;go_enter func263,ntmps263;go_wp2_with fail;go_ret;exact⟨rfl,rfl⟩
 . have g:(q.2.eN != 0)=true:=by simp[a]
   have b:decide (q.2.eN≠0)=true:=decide_eq_true a;rw[b];clear a b;cases c:q.1.comp <;> rw[c]at f <;> clear c
   all_goals
    go_enter func263,ntmps263;go_wp2_with fail;go_ret;exact⟨rfl,rfl⟩
end
section
variable {G:Gk} {F:Fk} {w w':World} {Z:Nat->Prop} {q:Rd × Oo}
theorem Vv(s:List UInt8)(I:s.length<=4194304)(p:RJ (RO G F) G w Z q) :
 Calls prog 269 #[cD G.K.nb,S_ s] w (I0 (Value.int .i64) G F Z w ((q.1,{ q.2 with eb:=(gu q.2.eb s).1 }),(gu q.2.eb s).2)):=by
 obtain⟨X,Y,v,⟨D,b,c,E⟩,y,z⟩:=p.parts;have d:=b.UD;refine(DD w G.K.nb F.im D.na D.nc q.2.eb s I b.names).mono fun e w' H=>?_;obtain⟨B,m,r,o,k,C⟩:=H;refine⟨B,?_⟩;have n:∀ g,(g=G.K.nb\/g=F.im\/dF D.na=some g)->Y g:=by
  rintro g (a | a | a)
  . exact c g (.inr (.inr (.inr (.inr (.inl a)))))
  . exact c g (.inr (.inr (.inr (.inr (.inr (.inl a))))))
  . exact c g (.inr (.inr (.inr (.inr (.inr (.inr (.inr (.inl a))))))))
 have A:Qj w' G F { D with na:=m,nc:=r } { q.2 with eb:=(gu q.2.eb s).1 }:=by
  refine⟨k.heap b.head ?_,b.dq.ct k ?_,b.iR.ct k ?_,b.eH.ct k ?_,o,k.heap b.box ?_,fun t l j=>k.heap (b.SH t l j) ?_,b.ne,⟨b.ok.eN,b.ok.dA,b.ok.target,b.ok.eH,b.ok.vW,b.ok.rQ⟩⟩
  . rintro (e | e | e)
    . exact d.fb.2.2.2.1 e
    . exact d.fb.2.2.2.2.1 e
    . exact d.fb.2.2.2.2.2.2 e
  . rintro (e | e | e)
    . exact d.nb.1 e.symm
    . exact b.ne.2.1 e
    . exact d.na.1 e
  . rintro (e | e | e)
    . exact d.nb.2.1 e.symm
    . exact b.ne.2.2 e
    . exact d.na.2.1 e
  . rintro g a (e | e | e)
    . exact d.nb.2.2.2.1 (a.trans (congrArg some e))
    . exact d.aa.2.2 (a.trans (congrArg some e))
    . exact d.an g a e
  . rintro (e | e | e)
    . exact d.gf.2.2.1 e
    . exact d.gf.2.2.2.1 e
    . exact d.gf.2.2.2.2.2 e
  . have i:=d.gs t (by rw[j];rfl)
    rintro (e | e | e)
    . exact i.2.2.2.2.1 e
    . exact i.2.2.2.2.2.1 e
    . exact i.2.2.2.2.2.2.2 e
 refine RJ.UF (Y':=fun g=>Y g\/dF m=some g) p v y z ⟨_,A,?_,?_⟩ ⟨k.mono (fun g _ h=>n g h),?_⟩
 . rintro g (a | a | a | a | a | a | a | a | a)
   . exact .inl (c g (.inl a))
   . exact .inl (c g (.inr (.inl a)))
   . exact .inl (c g (.inr (.inr (.inl a))))
   . exact .inl (c g (.inr (.inr (.inr (.inl a)))))
   . exact .inl (c g (.inr (.inr (.inr (.inr (.inl a))))))
   . exact .inl (c g (.inr (.inr (.inr (.inr (.inr (.inl a)))))))
   . exact .inl (c g (.inr (.inr (.inr (.inr (.inr (.inr (.inl a))))))))
   . exact .inr a
   . exact .inl (c g (.inr (.inr (.inr (.inr (.inr (.inr (.inr (.inr a)))))))))
 . rintro g (a | a)
   . exact Nat.lt_of_lt_of_le (E g a) k.size
   . rcases o.own.jK with⟨f,_⟩ | ⟨u,cur,f,x,_⟩
     . rw[f]at a;cases a
     . rw[f]at a
       have:u=g:=by simpa[dF] using a
       rw[<- this];exact cA x
 . rintro g (a | a)
   . exact .inl a
   . rcases C with e | ⟨l,e,j⟩
     . exact .inl (n g (.inr (.inr (by rw[<- e];exact a))))
     . rw[e]at a
       have:l=g:=Option.some.inj a;exact .inr (by omega)
theorem RJ.Nl{x':Oo}(j:RJ (RO G F) G w Z q)(k:cq (fun g=>g=F.fb) w w')(s:∀ D:Fd,w.heap[F.fb]?=some (.cells (rR G.ob F.p1 F.p2 q.2 (.slice D.aa q.2.eH.length D.ac)) 107 (0,0))->w'.heap[F.fb]?=some (.cells (rR G.ob F.p1 F.p2 x' (.slice D.aa q.2.eH.length D.ac)) 107 (0,0)))
 (e:x'.dq=q.2.dq/\x'.iR=q.2.iR/\x'.eH=q.2.eH/\x'.eb=q.2.eb) (x:x'.Ok):∃ c,RJ (RO G F) G w' c (q.1,x')/\ef w Z w' c:=by
 obtain⟨X,Y,o,⟨D,a,h,u⟩,p,r⟩:=j.parts;obtain⟨l,m,f,n⟩:=e;have d:=a.UD;refine RJ.UF j o p r (Y':=Y) ⟨D,⟨by rw[f];exact s D a.head,by rw[l];exact a.dq.ct k (fun e=>d.fb.2.1 e.symm),by rw[m];exact a.iR.ct k (fun e=>d.fb.2.2.1 e.symm),by rw[f];exact a.eH.ct k (fun g b e=>d.fb.2.2.2.2.2.1 (b.trans (congrArg some e))),by rw[n];exact a.names.ct k (fun e=>d.fb.2.2.2.1 e.symm) (fun e=>d.fb.2.2.2.2.1 e.symm) (fun g b e=>d.fb.2.2.2.2.2.2 (b.trans (congrArg some e))),k.heap a.box (fun e=>d.fb.1 e.symm),fun t v i=>k.heap (a.SH t v i) (fun e=>(d.gs t (by rw[i];rfl)).1 e),a.ne,x⟩,h,fun g b=>Nat.lt_of_lt_of_le (u g b) k.size⟩ (ef.of k (fun g b=>by rw[b];exact h _ (.inl rfl)))
theorem RJ.Nn{x':Oo}(j:RJ (RO G F) G w Z q)(k:cq (fun g=>g=F.fb) w w')(s:∀ D:Fd,w.heap[F.fb]?=some (.cells (rR G.ob F.p1 F.p2 q.2 (.slice D.aa q.2.eH.length D.ac)) 107 (0,0))->w'.heap[F.fb]?=some (.cells (rR G.ob F.p1 F.p2 x' (.slice none 0 0)) 107 (0,0)))
 (e:x'.dq=q.2.dq/\x'.iR=q.2.iR/\x'.eH=[]/\x'.eb=q.2.eb) (x:x'.Ok):∃ f,RJ (RO G F) G w' f (q.1,x')/\ef w Z w' f:=by
 obtain⟨X,Y,o,⟨D,c,b,u⟩,p,r⟩:=j.parts;obtain⟨l,m,h,n⟩:=e;have d:=c.UD;refine RJ.UF j o p r (Y':=Y) ⟨{ D with aa:=none,ac:=0 },⟨by rw[h];exact s D c.head,by rw[l];exact c.dq.ct k (fun e=>d.fb.2.1 e.symm),by rw[m];exact c.iR.ct k (fun e=>d.fb.2.2.1 e.symm),by rw[h];exact fp.nil _ _ _,by rw[n];exact c.names.ct k (fun e=>d.fb.2.2.2.1 e.symm) (fun e=>d.fb.2.2.2.2.1 e.symm) (fun g a e=>d.fb.2.2.2.2.2.2 (a.trans (congrArg some e))),k.heap c.box (fun e=>d.fb.1 e.symm),fun t v i=>k.heap (c.SH t v i) (fun e=>(d.gs t (by rw[i];rfl)).1 e),c.ne,x⟩,?_,fun g a=>Nat.lt_of_lt_of_le (u g a) k.size⟩ (ef.of k (fun g a=>by rw[a];exact b _ (.inl rfl)));rintro g (a | a | a | a | a | a | a | a | a)
 . exact b g (.inl a)
 . exact b g (.inr (.inl a))
 . exact b g (.inr (.inr (.inl a)))
 . exact b g (.inr (.inr (.inr (.inl a))))
 . exact b g (.inr (.inr (.inr (.inr (.inl a)))))
 . exact b g (.inr (.inr (.inr (.inr (.inr (.inl a))))))
 . cases a
 . exact b g (.inr (.inr (.inr (.inr (.inr (.inr (.inr (.inl a))))))))
 . exact b g (.inr (.inr (.inr (.inr (.inr (.inr (.inr (.inr a))))))))
end
theorem jV(r:Rd)(a:Rd.gH r.dt=false):r.name=(r.next,r.dt,0):=by unfold Rd.name;rw[a];rfl
theorem ld(r:Rd)(a:Rd.gH r.dt=true):r.name=(r.next,[],-16):=by unfold Rd.name;rw[a];rfl
theorem mu{s:List UInt8}(a:Rd.gH s=false):s.length<=31:=by
 unfold Rd.gH at a;simp at a;omega
theorem I1(m:Mem)(o:m.size<=4194304):∀ (k:Nat) (b a:Int),b<=m.size->∀ d ∈ m.ic k b a,0<=d.xt/\d.xt<=4194400:=by
 intro k;induction k with
 | zero=>intro _ _ _ d h;cases h
 | succ k f =>
  intro b a n d h;unfold Mem.ic at h;split at h
  . rename_i j
    split at h
    . rename_i g l e
      rcases List.mem_cons.1 h with h | h
      . subst h
        unfold Mem.Ym at e;simp only at e;split at e
        . cases e
        . rename_i c
          split at e
          . cases e
          . injection e with e
            injection e with e _;subst e;have i:¬ 31<(m.cell (a+8)).1 % 256:=fun h=>c (.inr (.inr (.inl h)));unfold Mem.dN;simp only;omega
      . exact f a l (by omega) d h
    . cases h
  . cases h
theorem Gc(m:Mem)(hs:m.size<=4194304)(s:List UInt8):∀ (l:List Int) (d:Wd),m.find s l=some d->0<=d.xt/\d.xt<=4194400
 | [],d,h=>by cases h
 | a :: l,d,h=>by
  unfold Mem.find at h;split at h
  . rename_i w e
    injection h with h
    subst h;have hm:w ∈ m.fR a:=List.mem_of_find?_eq_some e;unfold Mem.fR at hm;split at hm
    . cases hm
    . exact I1 m hs _ _ _ (Int.le_refl _) _ hm
  . exact Gc m hs s l d h
theorem I2(r:Rd)(a:r.v.x.mem.size<=4194304):0<=r.find.2.1.xt/\r.find.2.1.xt<=4194400:=by
 unfold Rd.find;split
 . exact⟨Int.le_refl _,by show(0:Int)<=_;decide⟩
 . split
   . rename_i w e
     exact Gc _ a _ _ _ e
   . exact⟨Int.le_refl _,by show(0:Int)<=_;decide⟩
section
variable (G:Gk) (F:Fk) (w:World) (Z:Nat->Prop) (q:Rd × Oo)
theorem pn(h:RJ (RO G F) G w Z q):Calls prog 273 #[cD F.fb] w (I0 (Value.int .i64) G F Z w (Oo.cR q)):=by
 have a:=h.Nk (V:=wR) (fun X p _=>ud G X w q.1 p);cases b:Rd.gH q.1.dt with
 | true =>
  have e:Oo.cR q=((q.1.next,q.2),0,-16):=by unfold Oo.cR;rw[ld q.1 b];rfl
  rw[ld q.1 b]at a;rw[e];have a:=h_ a;have i:=h_ h;have f:=h_ (ef.refl w Z);have d:=i.out.f0;clear h e b;go_enter func273,ntmps273;go_wp2_with fail;refine ir (a.out) f ?_;intro t n c g;try clear d
  dsimp only[wR];go_wp2_with fail;go_ret2;exact⟨rfl,_,c.out,g.out⟩
 | false =>
  have v:=mu b;have e:Oo.cR q=((q.1.next,{ q.2 with eb:=(gu q.2.eb q.1.dt).1 }),(gu q.2.eb q.1.dt).2):=by unfold Oo.cR;rw[jV q.1 b];rfl
  rw[jV q.1 b]at a;rw[e];have a:=h_ a;have k:=h_ fun V m (o:RJ (RO G F) G V m (q.1.next,q.2))=>Vv q.1.dt (by omega) o;have i:=h_ h;have f:=h_ (ef.refl w Z);have d:=i.out.f0;clear h e b;go_enter func273,ntmps273;go_wp2_with fail;refine ir (a.out) f ?_;intro t n c g;try clear d
  dsimp only[wR];have d:=c.out.f0;have r:=c.out.o0;have s:=c.out.v4;go_wp2_with fail;refine ir (k.out _ _ c.out) g ?_;intro x u l j;try clear r;try clear d;try clear s
  go_wp2_with fail;go_ret2;exact⟨rfl,_,l.out,j.out⟩
end
section
variable (G:Gk) (F:Fk) (w:World) (Z:Nat->Prop) (q:Rd × Oo)
theorem RJ.rM{G:Gk}{F:Fk}{w:World}{Z:Nat->Prop}{q:Rd × Oo}(h:RJ (RO G F) G w Z q):q.1.v.x.mem.size<=4194304:=h.wW.vm.sp.mem.le
theorem No(a:Int)(h:RJ (RO G F) G w Z q):Calls prog 81 #[cD G.K.b,I_ a] w fun e w'=>e=.returned (.tuple #[I_ (q.1.v.x.mem.cell a).1,I_ (q.1.v.x.mem.cell a).2])/\w=w':=eu w G.K.b G.K.bb _ a h.wW.vm.sp.mem
theorem XK(c a:Int)(h:RJ (RO G F) G w Z q):Calls prog 178 #[cD G.K.b,I_ c,I_ a] w fun e w'=>e=.returned (.bool (Class.is q.1.v.x.mem c a))/\K_ w w':=qX w G.K.b G.K.bb _ c a h.wW.vm.sp.mem
end
section
variable (G:Gk) (F:Fk) (w:World) (Z:Nat->Prop) (q:Rd × Oo)
theorem Ua(h:RJ (RO G F) G w Z q):∃ g,w.cell? ⟨G.ob,1,none⟩=some (cD g)/\Calls prog 76 #[cD g] w fun e w'=>e=.returned (S_ q.1.dt)/\∃ a,RJ (RO G F) G w' a (q.1.next,q.2)/\ef w Z w' a:=by
 obtain⟨X,Y,b,d,f,i⟩:=h.parts;obtain⟨g,l,j⟩:=zy G X w q.1 b;exact⟨g,l,j.mono fun e w' ⟨k,n,m,c⟩=>⟨k,RJ.Nj h b d f i m c⟩⟩
theorem Ub(h:RJ (RO G F) G w Z q):∃ g,w.cell? ⟨G.ob,1,none⟩=some (cD g)/\Calls prog 27 #[cD g] w fun e w'=>e=.returned (S_ (Oo.rest q.1))/\K_ w w':=by
 obtain⟨X,a⟩:=h.Cn;obtain⟨g,b,c,_⟩:=a.cT;exact⟨g,b,Bp w g q.1.src q.1.cM c⟩
theorem SJ(t:List UInt8)(a:t.length<=1000000)(h:RJ (RO G F) G w Z q):Calls prog 26 #[cD G.ob,S_ t] w (Qa (RO G F) G Z w (q.1.again t,q.2)) :=
 h.Gb (fun X b _=>MO G X w q.1 t a b)
theorem Np(r:Rd):(Oo.rest r).length<=r.src.length:=by unfold Oo.rest;rw[List.length_drop];omega
end
def SK(L:List Int)(w:World)(e:Ending)(w':World):Prop:=∃ a cc,e=.returned (.slice a L.length cc)/\kJ w w' a cc L/\K_ w w'
theorem Nq{a b:Int}(d:0<=a/\a<=4194304)(c:pS b):rh (a,b):=⟨wf_i64 (by omega) (by omega),wf_i64 c.1 c.2⟩
theorem yg(w:World):(zeroValue 2).run prog w=.ok (I_ 0) w:=by kernel_rfl
section
variable (G:Gk) (F:Fk) (w:World) (Z:Nat->Prop) (q:Rd × Oo)
theorem RJ.Nr{G:Gk}{F:Fk}{w:World}{Z:Nat->Prop}{q:Rd × Oo}(h:RJ (RO G F) G w Z q):cX iN w F.p1 20000000000000 (fun p=>(q.2.dq p.1).map (Value.int .i64)):=h.wV.elim fun _ h=>h.elim fun _ h=>h.1.dq
theorem Cb(c:Int)(hc:pS c)(h:RJ (RO G F) G w Z q):Calls prog 262 #[cD F.fb,I_ c] w (SK (Oo.iG q c) w):=by
 have hm:=h.wW.vm.sp.mem;have HA:=fun V (k:K_ w V)=>sj V G.K.b G.K.bb q.1.v.x.mem q.1.v.root (hm.ct k id id);have HR:=fun V (d:Int) (k:K_ w V) (h':pS d)=>iW V G.K.b G.K.bb q.1.v.x.mem d (hm.ct k id id) h'.1 h'.2
 have ai:=h_ fun d:Int=>(show pS (Class.cT q.1.v.x.mem d).1.cE from by
  unfold Class.cT;split
  . exact⟨by show(-9223372036854775808:Int)<=0;decide,by show(0:Int)<=_;decide⟩
  . exact q.1.v.x.mem.fh _)
 have HF:=h.Nr;have hN:(Class.all q.1.v.x.mem q.1.v.root).length<=4194304:=Nat.le_trans (Class.qM _ _) h.rM;have ah:=(show 0<=q.1.v.root/\q.1.v.root<=4194304 from⟨h.wW.ok.Be,h.wW.ok.Bf⟩);have r:Oo.iG q c=Oo.ku q.1.v.x.mem q.2.dq q.1.v.root (Class.all q.1.v.x.mem q.1.v.root).length c++[q.1.v.cF]:=rfl;generalize Oo.iG q c=L at r |-;have E0:=ef.refl w Z;have y:=h.f0;have z:=h.f1;have H:=h.o0;have J:=h.v0;have t:=h.v7;have u:=h.v8;have M:=h.vs
 have l:=h_ fun V (k:K_ w V)=>(show C_ V F.fb 0=some (cD G.ob)/\C_ V F.fb 1=some (.map (some F.p1))/\C_ V G.ob 0=some (cD G.K.mb)/\C_ V G.K.mb 0=some (cD G.K.s)/\C_ V G.K.mb 7=some (I_ q.1.v.root)/\C_ V G.K.mb 8=some (I_ q.1.v.cF)/\C_ V G.K.s 0=some (cD G.K.b) from
  ⟨k.cell y id,k.cell z id,k.cell H id,k.cell J id,k.cell t id,k.cell u id,k.cell M id⟩)
 generalize q.1.v.root=U at HA r l ah hN t;generalize q.1.v.cF=g at r l u;generalize q.1.v.x.mem=m at HA HR ai r hN hm;generalize hC:Class.all m U=C at HA r hN;clear hC hm h E0;generalize q.2.dq=fl at HF r;generalize al:C.length=N at r hN;have ak:=h_ r;have ap:=h_ al;have aq:=h_ ah;clear r al ah;go_enter func262,ntmps262;go_wp2_with fail
 go_region_held3 (fun V=>C_ V F.fb 0=some (cD G.ob)/\C_ V G.ob 0=some (cD G.K.mb)/\C_ V G.K.mb 0=some (cD G.K.s)/\C_ V G.K.s 0=some (cD G.K.b)/\C_ V G.K.mb 7=some (I_ U))
  (first | go_keep | exact⟨(l.out n S).1,(l.out n S).2.2.1,(l.out n S).2.2.2.1,(l.out n S).2.2.2.2.2.2,(l.out n S).2.2.2.2.1⟩)
  (first
    | (go_at_call 105;refine(HA w.drew (cq.drew _ _)).mono ?_;rintro e n ⟨a1,c1,rfl,_,R⟩;rw[ap.out];dsimp only;have S:=(fw w).trans R))
 clear R y z H J t u M HA;go_wp2_with fail
 go_loopw [1,5,35] (fun cv ov iv wr=>∃ (k:Nat) (d:Int) (j:List Int) (a:Option Addr) (P:Nat),cv=I_ d/\ov=.slice a j.length P/\iv=I_ k/\k<=N/\pS d/\kJ w wr a P j/\K_ w wr/\L=j++Oo.ku m fl U (N-k) d++[g]/\j.length<=k) (fun _ _ iv _=>N-(intOf iv).toNat)
 case atStart=>exact⟨0,c,[],none,0,rfl,rfl,rfl,Nat.zero_le _,hc,kJ.nil _ _,S,ak.out,Nat.le_refl _⟩
 case round =>
  obtain⟨k,d,j,a,P,rfl,rfl,rfl,hk,am,ho,D,B,aw⟩:=hrel;clear S ak;by_cases ag:k<N
  . have c1:(k:Int)<N:=by omega
    have cw:wrap64 ((k:Int)+1)=(k:Int)+1:=IntWalk.wrap64_in _ (by omega);have e1:N-k=(N-(k+1))+1:=by omega
    rw[e1,Oo.ku]at B;have aa:=HR wr d D am;have ae:=ai.out d;generalize Class.cT m d=rd at aa B ae;obtain⟨⟨d1,o,d3,d4,d5⟩,bl⟩:=rd;dsimp only[pT,gJ.val]at aa B ae;have aa:=h_ aa;have W:=h_ B;clear B e1;obtain⟨y,z,H,J,t,u,M⟩:=l.out wr D;go_wp2_with fail;refine aa.out.mono ?_;rintro e n ⟨rfl,R⟩;dsimp only;have au:=R.size;have av:=D.size;have ka:=dR n (.cells #[I_ d1,I_ o,I_ d3,I_ d4,I_ d5] 214);have hg:=cx n (.cells #[I_ d1,I_ o,I_ d3,I_ d4,I_ d5] 214);have X:=(D.trans R).trans ka;have O2:=(ho.ct R (fun _ _=>id)).ct ka (fun _ _=>id);clear y z H J t u M;go_upto_region 5 with fail;obtain⟨Q,an⟩:∃ Q,Q=n.heap.size:=⟨_,rfl⟩;rw[<- an]at hg |-;generalize n.alloc (.cells #[I_ d1,I_ o,I_ d3,I_ d4,I_ d5] 214)=f at hg X O2 |-;clear an ka R ho D au av;obtain⟨y,z,H,J,t,u,M⟩:=l.out f X;cases bl with
    | false =>
     have p:=W.out;rw[if_pos rfl,List.append_nil]at p;have af:=p;clear p W
     go_wp2_with (first
      | (at_builtin;refine eB rfl _ _ 22 rfl 2 _ 1 8 underlying22 py rfl (by decide) a j.length P (tK j) rfl (O2.1.ct (dR _ _) (fun _ _=>id)) ⟨f.heap.size,0,none⟩ 1 1 [I_ g] rfl rfl (oL f g) (qZ g) ?c3 ?c4 ?_))
     case c3=>unfold maxLen;omega
     case c4=>omega
     intro a' d w9 I T E;have ab:=X.size;have K9:=((X.trans (dR f (.cells #[I_ g] 2))).dh T (fun i hi e=>absurd (O2.2 i e) (by omega)));have O9:=((O2.ct (dR f (.cells #[I_ g] 2)) (fun _ _=>id)).ie g I _ E (by first | (simp only[World.size_alloc];omega) | omega));clear I E ab;go_wp2;go_ret;rw[af];exact⟨_,_,by rw[List.length_append];rfl,O9,K9⟩
    | true =>
     have p:=W.out;rw[if_neg (by simp)]at p;have ao:rh (U,d):=Nq aq.out am;have ac:=Av iN 104 _ underlying104 (HF.ct (X.trans (fw f)) id) _ (yg _) ⟨(U,d),ao⟩ trivial;dsimp only at ac p;generalize fl (U,d)=fv at ac p;have ad:(Instr.lookup 104 (.map (some F.p1)) (.agg #[I_ U,I_ d]) true).run prog f.drew=.ok (.tuple #[(fv.map (Value.int .i64)).getD (I_ 0),.bool (fv.map (Value.int .i64)).isSome]) f.drew:=ac;have W:=h_ p;have A:C_ f Q 1=some (I_ o):=cp hg rfl;have K3:=X.trans (fw f);have O:=O2.ct (fw f) (fun _ _=>id);clear ac ao p;cases fv with
     | none =>
      dsimp only[Option.map,Option.getD,Option.isSome]at ad;go_wp2_with fail;go_region
      clear ad y z H J t u M;have A:f.drew.cell? ⟨Q,1,none⟩=some (I_ o):=A;generalize f.drew=Y at A K3 O |-;go_wp2;go_roundw;case rel=>exact⟨k+1,o,j,a,P,rfl,rfl,rfl,ag,ae,O,K3,W.out,by omega⟩
      case measure=>simp[intOf];omega
     | some v =>
      dsimp only[Option.map,Option.getD,Option.isSome]at ad;go_wp2_with fail;go_region
      clear ad y z H J t u M;have A:f.drew.cell? ⟨Q,1,none⟩=some (I_ o):=A;have aj:=show f.drew.heap[Q]?=_ from hg;generalize f.drew=Y at A K3 O aj |-
      go_wp2_with (first
       | (at_builtin;refine eB rfl _ _ 22 rfl 2 _ 1 8 underlying22 py rfl (by decide) a j.length P (tK j) rfl (O.1.ct (dR _ _) (fun _ _=>id)) ⟨Y.heap.size,0,none⟩ 1 1 [I_ v] rfl rfl (oL Y v) (qZ v) ?c3 ?c4 ?_))
      case c3=>unfold maxLen;omega
      case c4=>omega
      intro a' d w9 I T E;have ab:=K3.size;have K9:=((K3.trans (dR Y (.cells #[I_ v] 2))).dh T (fun i hi e=>absurd (O.2 i e) (by omega)));have O9:=((O.ct (dR Y (.cells #[I_ v] 2)) (fun _ _=>id)).ie v I _ E (by first | (simp only[World.size_alloc];omega) | omega));clear I E ab;have A:C_ w9 Q 1=some (I_ o):=T.cell ((dR Y (.cells #[I_ v] 2)).cell A id) (fun e=>DC O.1 aj rfl e);clear T;go_wp2;go_roundw;case rel=>exact⟨k+1,o,j++[v],_,_,rfl,by rw[List.length_append];rfl,rfl,ag,ae,O9,K9,by rw[W.out];simp,by rw[List.length_append];simp;omega⟩
      case measure=>simp[intOf];omega
  . have ar:k=N:=by omega
    subst ar;rw[Nat.sub_self]at B;have af:=(show L=j++[g] by rw[B];unfold Oo.ku;simp);clear B ag;obtain⟨y,z,H,J,t,u,M⟩:=l.out wr D
    go_wp2_with (first
     | (at_builtin;refine eB rfl _ _ 22 rfl 2 _ 1 8 underlying22 py rfl (by decide) a j.length P (tK j) rfl (ho.1.ct (dR _ _) (fun _ _=>id)) ⟨wr.heap.size,0,none⟩ 1 1 [I_ g] rfl rfl (oL wr g) (qZ g) ?c3 ?c4 ?_))
    case c3=>unfold maxLen;omega
    case c4=>omega
    intro a' d w9 I T E;have ab:=D.size;have K9:=((D.trans (dR wr (.cells #[I_ g] 2))).dh T (fun i hi e=>absurd (ho.2 i e) (by omega)));have O9:=((ho.ct (dR wr (.cells #[I_ g] 2)) (fun _ _=>id)).ie g I _ E (by first | (simp only[World.size_alloc];omega) | omega));clear I E ab;go_wp2;go_ret;rw[af];exact⟨_,_,by rw[List.length_append];rfl,O9,K9⟩
end
namespace Class
theorem Et(m:Mem)(k:Nat)(a e:Int):(fV m k a e).length<=(e.toNat+7) / 8:=by
 induction k generalizing a e with
 | zero=>simp[fV]
 | succ k i =>
  rw[fV];split
  . rename_i h
    split
    . rename_i c
      have j:a % 8=0:=by
       unfold cT at c;split at c
       . cases c
       . rename_i g
         have b:(m.cell a).2=0:=by
          by_cases f:(m.cell a).2=0
          . exact f
          . exact absurd (.inl f) g
         unfold Mem.cell at b;split at b
         . rename_i d
           rw[Mem.dX]at d;omega
         . rename_i d
           exact absurd b d
      have:=i (cT m a).1.iB a;simp only[List.length_cons];omega
    . simp
  . simp
theorem Ns(m:Mem)(a:Int):(all m a).length<=(m.size+7) / 8:=by
 unfold all;split
 . have:=Et m (m.size:Int).toNat (m.cell a).1 m.size
   unfold dH;simp only[List.length_reverse];omega
 . simp
end Class
theorem vZ(m:Mem)(fl:Int × Int->Option Int)(root:Int):∀ (k:Nat) (c:Int),(Oo.ku m fl root k c).length<=k
 | 0,_=>Nat.le_refl _
 | k+1,c=>by
  unfold Oo.ku;split
  . exact Nat.zero_le _
  . rw[List.length_append]
    have:=vZ m fl root k (Class.cT m c).1.cE;have h:(fl (root,c)).toList.length<=1:=by cases fl (root,c) <;> simp
    omega
theorem yh(q:Rd × Oo)(c:Int)(h:q.1.v.x.mem.size<=4194304):(Oo.iG q c).length<=1000000:=by
 unfold Oo.iG;rw[List.length_append];have a:=vZ (Oo.mem q) q.2.dq q.1.v.root (Class.all (Oo.mem q) q.1.v.root).length c;have b:=Class.Ns (Oo.mem q) q.1.v.root;have d:(Oo.mem q).size<=4194304:=h;simp only[List.length_cons,List.length_nil];omega
theorem ej.wb{w w':World}{G:Gk}{X:Nat->Prop}{r:Rd}(h:ej w G X r)(k:K_ w w')(L:List Int)(a:Option Addr)(c:Nat)(o:kJ w w' a c L)(v:L.length<=1000000) :
 ej (w'.setCell ⟨G.ob,2,none⟩ (.slice a L.length c)) G (fun g=>X g\/dF a=some g) { r with eE:=L }/\ef w X (w'.setCell ⟨G.ob,2,none⟩ (.slice a L.length c)) (fun g=>X g\/dF a=some g):=by
 have x:=h.Vu;obtain⟨D,d,i,t⟩:=h.cL k;obtain⟨y,C,z,A,B⟩:=d.S7;have f:cq (fun g=>g=G.ob) w' (w'.setCell ⟨G.ob,2,none⟩ (.slice a L.length c)):=cq.setCell _ _ _ (fun _=>rfl);have m:∀ g,dF a=some g->w.heap.size<=g:=o.2;have p:X G.ob:=i _ (.inl (.inl rfl));have n:∀ g,dF a=some g->¬ X g:=fun g b e=>by have:=x g e;have:=m g b;omega
 refine⟨⟨{ D with oa:=a,oc:=c },⟨d.ME f (fun g b=>.inl (.inl b)),cz d.oc _,d.src.ct f y,?_,d.A9.ct f (fun g b e=>z (by rw[b,e])),d.pm.ct f A,d.mm.ct f B,?_,⟨d.ok.src,v,d.ok.dy,d.ok.FU,d.ok.FV,d.ok.BK,d.ok.BL⟩⟩,?_,?_⟩,?_⟩
 . exact o.1.ct f (fun g b e=>n g b (by rw[e];exact p))
 . rintro g (b | b | b | b | b | b) j
   . exact d.ap g (.inl b) j
   . exact d.ap g (.inr (.inl b)) j
   . exact n g b (i g (.inr j))
   . exact d.ap g (.inr (.inr (.inr (.inl b)))) j
   . exact d.ap g (.inr (.inr (.inr (.inr (.inl b))))) j
   . exact d.ap g (.inr (.inr (.inr (.inr (.inr b))))) j
 . rintro g ((b | b | b | b | b | b) | b)
   . exact .inl (i g (.inl (.inl b)))
   . exact .inl (i g (.inl (.inr (.inl b))))
   . exact .inr b
   . exact .inl (i g (.inl (.inr (.inr (.inr (.inl b))))))
   . exact .inl (i g (.inl (.inr (.inr (.inr (.inr (.inl b)))))))
   . exact .inl (i g (.inl (.inr (.inr (.inr (.inr (.inr b)))))))
   . exact .inl (i g (.inr b))
 . rintro g (b | b)
   . exact Nat.lt_of_lt_of_le (t g b) f.size
   . rcases o.1.jK with⟨l,_⟩ | ⟨s,cur,l,u,_⟩
     . rw[l]at b;cases b
     . rw[l]at b
       have:s=g:=by simpa[dF] using b
       rw[<- this];exact Nat.lt_of_lt_of_le (cA u) f.size
 . exact⟨(k.mono (fun _ _ e=>e.elim)).trans (f.mono (fun g _ e=>by rw[e];exact p)),fun g b=>b.imp id (m g)⟩
theorem RJ.wb{w w':World}{G:Gk}{F:Fk}{Z:Nat->Prop}{q:Rd × Oo}(h:RJ (RO G F) G w Z q)(k:K_ w w')(L:List Int)(a:Option Addr)(c:Nat)(o:kJ w w' a c L)(j:L.length<=1000000) :
 ∃ b,RJ (RO G F) G (w'.setCell ⟨G.ob,2,none⟩ (.slice a L.length c)) b ({ q.1 with eE:=L },q.2)/\ef w Z (w'.setCell ⟨G.ob,2,none⟩ (.slice a L.length c)) b:=by
 obtain⟨X,Y,d,f,g,i⟩:=h.parts;obtain⟨l,e⟩:=d.wb k L a c o j;exact RJ.Nj h d f g i l e
theorem Qk(w:World)(n:Int):kJ w (w.alloc (.cells #[I_ n] 2)) (some ⟨w.heap.size,0,none⟩) 1 [n]:=⟨Fw _ _ [_] _ _ (cx w _) rfl (by show 1<=maxLen;decide),fun g a=>Nat.le_of_eq (Option.some.inj a)⟩
section
variable {G:Gk} {F:Fk} {w w':World} {Z:Nat->Prop} {q:Rd × Oo}
theorem RJ.Tc(h:RJ (RO G F) G w Z q):∃ a c,w.cell? ⟨G.ob,2,none⟩=some (.slice a q.1.eE.length c):=h.Cn.elim fun _ h=>h.elim fun D h=>⟨D.oa,D.oc,cp h.1.oc rfl⟩
theorem RJ.Eu(h:RJ (RO G F) G w Z q):G.ob<w.heap.size:=h.Cn.elim fun _ h=>h.sV.1
theorem RJ.I3(h:RJ (RO G F) G w Z q):F.fb<w.heap.size:=h.wV.elim fun _ h=>h.lt _ h.UE
theorem oh(w:World)(b:Nat)(v:Value):(w.setCell ⟨b,2,none⟩ v).cell? ⟨b,0,none⟩=w.cell? ⟨b,0,none⟩:=World.cell?_setCell_other w _ _ _ (fun e=>by simp at e)
theorem RJ.bne(h:RJ (RO G F) G w Z q):G.ob≠F.fb/\G.ob≠G.K.mb/\F.fb≠G.K.mb:=by
 obtain⟨X,Y,⟨D,g,a,i⟩,c,b,j⟩:=h.parts;have d:X G.ob:=a _ (.inl (.inl rfl));have f:X G.K.mb:=a _ (.inr (.inl (.inl rfl)));exact⟨fun e=>b _ d (e ▸ c.UE),fun e=>g.ap _ (.inl e.symm) (.inl (.inl rfl)),fun e=>b _ f (e ▸ c.UE)⟩
theorem RJ.uf(h:RJ (RO G F) G w Z q)(n:Int) :
 ∃ a,RJ (RO G F) G (((w.setCell ⟨G.ob,2,none⟩ (.slice (some ⟨w.heap.size,0,none⟩) 1 1)).alloc (.cells #[I_ n] 2)).drew) a ({ q.1 with eE:=[n] },q.2)/\ef w Z (((w.setCell ⟨G.ob,2,none⟩ (.slice (some ⟨w.heap.size,0,none⟩) 1 1)).alloc (.cells #[I_ n] 2)).drew) a:=by
 have b:((w.drew.alloc (.cells #[I_ n] 2)).setCell ⟨G.ob,2,none⟩ (.slice (some ⟨w.heap.size,0,none⟩) 1 1))=((w.setCell ⟨G.ob,2,none⟩ (.slice (some ⟨w.heap.size,0,none⟩) 1 1)).alloc (.cells #[I_ n] 2)).drew:=World.setCell_alloc_past (w:=w.drew) _ _ _ _ h.Eu;have:=h.wb ((fw w).trans (dR w.drew (.cells #[I_ n] 2))) [n] _ _ (Qk w.drew n) (by show 1<=_;omega);exact b ▸ this
theorem RJ.yi(o:RJ (RO G F) G w Z q)(k:cq (fun g=>g=F.p1) w w')(f:Int × Int->Option Int)(n:Nat)(y:cX iN w' F.p1 n (fun p=>(f p.1).map (Value.int .i64)))(c:∀ p,f p≠none->(0<=p.1/\p.1<=4194304)/\0<=p.2/\p.2<=4194304) :
 ∃ l,RJ (RO G F) G w' l (q.1,{ q.2 with dq:=f })/\ef w Z w' l:=by
 obtain⟨X,Y,r,⟨D,a,m,x⟩,s,u⟩:=o.parts;have d:=a.UD;have v:cX iN w' F.p1 20000000000000 (fun p=>(f p.1).map (Value.int .i64)):=by
  refine y.Tg 20000000000000 (fun p=>(p.1.1*4194305+p.1.2).toNat) (fun p _ i=>?_) (fun p j i z e=>?_)
  . have h:=c p.1 (fun e=>i (by rw[e];rfl))
    show(p.1.1*4194305+p.1.2).toNat<_;omega
  . have h:=c p.1 (fun e=>i (by rw[e];rfl))
    have B:=c j.1 (fun e=>z (by rw[e];rfl));have e:(p.1.1*4194305+p.1.2).toNat=(j.1.1*4194305+j.1.2).toNat:=e;exact Subtype.ext (Prod.ext (by omega) (by omega))
 refine RJ.UF o r s u (Y':=Y) ⟨D,⟨k.heap a.head d.fb.2.1,v,a.iR.ct k (fun e=>a.ne.1 e.symm),a.eH.ct k (fun g b e=>d.aa.1 (b.trans (congrArg some e))),a.names.ct k (fun e=>d.nb.1 e) (fun e=>a.ne.2.1 e.symm) (fun g b e=>d.na.1 (b.trans (congrArg some e))),k.heap a.box (fun e=>d.gf.1 e),fun t A c=>k.heap (a.SH t A c) (fun e=>(d.gs t (by rw[c];rfl)).2.2.1 e),a.ne,⟨a.ok.eN,a.ok.dA,a.ok.target,a.ok.eH,c,a.ok.rQ⟩⟩,m,fun g b=>Nat.lt_of_lt_of_le (x g b) k.size⟩ (ef.of k (fun g b=>by rw[b];exact m _ (.inr (.inr (.inl rfl)))))
theorem Ql(a:Int × Int->Option Int)(p:Go.Proofs.K.Place):gone (fun p:Go.Proofs.K.Place=>(a p.1).map (Value.int .i64)) p=fun x:Go.Proofs.K.Place=>(Oo.iz a p.1 none x.1).map (Value.int .i64):=by
 funext x;unfold gone Oo.iz;by_cases e:x=p
 . rw[if_pos e,if_pos (congrArg Subtype.val e)];rfl
 . rw[if_neg e,if_neg (fun h=>e (Subtype.ext h))]
theorem SM(a:Int × Int->Option Int)(p:Go.Proofs.K.Place)(v:Int):ny (fun p:Go.Proofs.K.Place=>(a p.1).map (Value.int .i64)) p (I_ v)=fun x:Go.Proofs.K.Place=>(Oo.iz a p.1 (some v) x.1).map (Value.int .i64):=by
 funext x;unfold ny Oo.iz;by_cases e:x=p
 . rw[if_pos e,if_pos (congrArg Subtype.val e)];rfl
 . rw[if_neg e,if_neg (fun h=>e (Subtype.ext h))]
theorem Qm{P:Program}{k:TypeId}{α:Type}[DecidableEq α](kk:oN P k α){w:World}{b n:Nat}{f:α->Option Value}(t e:TypeId)(ht:P.underlying t=some (.map k e))(hown:cX kk w b n f)(key:α)(hok:kk.ok key)(ty:TypeId) :
 ∃ w',(Builtin.delete_ #[t,k] ty #[.map (some b),kk.val key]).run P w=.ok (.tuple #[]) w'/\cX kk w' b n (gone f key)/\cq (fun g=>g=b) w w':=by
 obtain⟨D,hown,hr⟩:=hown;obtain⟨w',hrun,r1,r2⟩:=hown.drop kk.kd ht (kk.reads key hok) ty;exact⟨w',hrun,⟨_,r1,hr.del key⟩,cq.grown (S:=fun g=>g=b) r2.grown (fun j _ e=>(Option.some.inj e).symm)⟩
theorem RJ.Nt(h:RJ (RO G F) G w Z q)(a b:Int)(r:0<=a/\a<=4194304)(s:0<=b/\b<=4194304)(l:TypeId) :
 ∃ w',(Builtin.delete_ #[104,331] l #[.map (some F.p1),.agg #[I_ a,I_ b]]).run prog w.drew=.ok (.tuple #[]) w'/\cq (fun g=>g=F.p1) w w' /\
  ∃ c,RJ (RO G F) G w' c (q.1,{ q.2 with dq:=Oo.iz q.2.dq (a,b) none })/\ef w Z w' c:=by
 obtain⟨Y,D,d,_,_⟩:=h.wV;obtain⟨w',o,f,k⟩:=Qm iN (w:=w.drew) 104 2 underlying104 (d.dq.ct (fw w) id) ⟨(a,b),wf_i64 (by omega) (by omega),wf_i64 (by omega) (by omega)⟩ trivial l;have i:=((fw w).mono (fun _ _ e=>e.elim)).trans k;rw[Ql]at f;obtain⟨c,j,e⟩:=h.yi i _ _ f (fun p n=>d.ok.vW p (fun e=>n (by unfold Oo.iz;by_cases m:p=(a,b) <;> simp[m,e])));exact⟨w',o,i,c,j,e⟩
end
section
variable (G:Gk) (F:Fk) (w:World) (Z:Nat->Prop) (q:Rd × Oo)
theorem Nu(a n:Int)(h:RJ (RO G F) G w Z q):Calls prog 85 #[cD G.K.b,I_ a,I_ n] w (PJ (RO G F) G Z w (((q.1.setCell a n).1,q.2),(q.1.setCell a n).2)) :=
 h.wU (fun X c _=>vQ G X w q.1 a n c)
end
section
variable (G:Gk) (F:Fk) (w:World) (Z:Nat->Prop) (q:Rd × Oo)
theorem Nv(h:RJ (RO G F) G w Z q):Calls prog 173 #[cD F.fb] w (Qa (RO G F) G Z w (Oo.reset q)):=by
 obtain⟨r,x⟩:=q;have B:=h.Jl;have H:Oo.reset (r,x)=if x.eN≠0 then({ (r.setCell r.v.root x.root).1 with eE:=[r.v.cF] },{ x with dq:=Oo.iz x.dq (r.v.root,x.eN) none,eN:=0,eH:=[],target:=0 })else({ r with eE:=[r.v.cF] },{ x with eN:=0,eH:=[],target:=0 }):=rfl;generalize Oo.reset (r,x)=aj at H |-;by_cases P:x.eN=0
 . rw[if_neg (by simpa using P)]at H
   subst H;have d1:(x.eN != 0)=false:=by simp[P]
   obtain⟨n,l⟩:∃ n,n=r.v.cF:=⟨_,rfl⟩;rw[<- l];have c:=h_ h;have Q:=h_ (ef.refl w Z);have k:=c.out.f3;have C:=c.out.f10;obtain⟨a9,c9,D⟩:=c.out.f9;have q3:=c.out.ff 3;have q9:=c.out.ff 9;have ag:=c.out.ff 10;dsimp only at k D C;clear h;have L:cq (fun g=>g=F.fb) w (((w.setCell ⟨F.fb,3,none⟩ (I_ 0)).setCell ⟨F.fb,9,none⟩ (.slice none 0 0)).setCell ⟨F.fb,10,none⟩ (I_ 0)):=fU w F.fb 3 9 10 (I_ 0) (.slice none 0 0) (I_ 0);obtain⟨Z1,d,I⟩:=c.out.Nn (x':={ x with eN:=0,eH:=[],target:=0 }) L (fun ah U=>cz (cz (cz U _) _) _) ⟨rfl,rfl,rfl,rfl⟩ ⟨⟨Int.le_refl _,by show(0:Int)<=_;decide⟩,B.dA,⟨by show _<=(0:Int);decide,by show(0:Int)<=_;decide⟩,by show(0:Nat)<=_;decide,B.vW,B.rQ⟩;have a:=h_ d;have N:=h_ (Q.out.trans I);clear L d I;go_enter func173,ntmps173;go_upto_region 4 with fail;generalize (((w.setCell ⟨F.fb,3,none⟩ (I_ 0)).setCell ⟨F.fb,9,none⟩ (.slice none 0 0)).setCell ⟨F.fb,10,none⟩ (I_ 0))=z at a N |-;clear k D C q3 q9 ag;have u:=a.out.f0;have f:=a.out.o0;have p:=a.out.v8;dsimp only at p;rw[<- l]at p;clear l;have X:=World.block_lt_of_cell? _ _ f;have Y:=World.block_lt_of_cell? _ _ p;obtain⟨a2,c2,o2⟩:=a.out.Tc;have q2:=a.out.vX 2;have aa:=a.out.Eu;obtain⟨ab,ac,ad⟩:=a.out.bne;have W:=a.out.I3
   go_region_held3 (fun V=>C_ V F.fb 0=some (cD G.ob)/\C_ V G.ob 0=some (cD G.K.mb)/\C_ V G.K.mb 8=some (I_ n))
    (first | (go_keep;done) | (simp[*,World.cell?_alloc_some,World.cell?_setCell_far,oh];done) | (refine⟨?_,?_,?_⟩ <;> first | (go_keep;done) | exact Ev f))
    (fail)
   obtain⟨Z2,m,J⟩:=a.out.uf n;have i:=h_ m;have R:=h_ (N.out.trans J);clear m J u f p o2 q2 aa ab ac ad W X Y;go_wp2_with fail;go_end0;exact⟨rfl,_,i.out,R.out⟩
 . rw[if_pos P]at H
   subst H;have d1:(x.eN != 0)=true:=by simp[P]
   have O:=h_ fun V Z' (hV:RJ (RO G F) G V Z' (r,x))=>Nu G F V Z' (r,x) r.v.root x.root hV;dsimp only at O;have af:=h.wW.ok.Be;have ae:=h.wW.ok.Bf;obtain⟨o,A⟩:∃ o,o=r.v.root:=⟨_,rfl⟩;obtain⟨n,l⟩:∃ n,n=r.v.cF:=⟨_,rfl⟩;have S:(r.setCell r.v.root x.root).1.v.cF=n:=l ▸ rfl;have E:(r.setCell r.v.root x.root).1.v.root=o:=A ▸ rfl;rw[<- l,<- A];rw[<- A]at O S E;dsimp only at af ae;rw[<- A]at af ae;clear l;generalize r.setCell o x.root=T at O S E |-;have c:=h_ h;have Q:=h_ (ef.refl w Z);clear h;go_enter func173,ntmps173;have k:=c.out.f3;go_wp2_with fail;have u:=c.out.f0;have f8:=c.out.f8;have f:=c.out.o0;have v0:=c.out.v0;have y:=c.out.v7;have vs:=c.out.vs;dsimp only at y f8;rw[<- A]at y;clear A
   go_region_held3 (fun V=>C_ V F.fb 0=some (cD G.ob)/\C_ V F.fb 8=some (I_ x.root)/\C_ V G.ob 0=some (cD G.K.mb)/\C_ V G.K.mb 0=some (cD G.K.s)/\C_ V G.K.mb 7=some (I_ o)/\C_ V G.K.s 0=some (cD G.K.b))
    (first | (go_keep;done) | exact M)
    (first | (go_at_call 85;refine(O.out _ _ (c.out.eL (cq.drew _ _))).mono ?_;rintro e z ⟨rfl,Z1,d,I⟩;dsimp only;have M:=(show C_ z F.fb 0=some (cD G.ob)/\C_ z F.fb 8=some (I_ x.root)/\C_ z G.ob 0=some (cD G.K.mb)/\C_ z G.K.mb 0=some (cD G.K.s)/\C_ z G.K.mb 7=some (I_ o)/\C_ z G.K.s 0=some (cD G.K.b) from⟨d.f0,d.f8,d.o0,d.v0,(by have:=d.v7;dsimp only at this;rw[E]at this;exact this),d.vs⟩)))
   have a:=h_ d;have N:=h_ (Q.out.trans ((ef.kt (fw w)).trans I));clear d I M u k f8 f v0 y vs;have u:=a.out.f0;have f1:=a.out.f1;have k:=a.out.f3;have f:=a.out.o0;have y:=a.out.v7;dsimp only at y k;rw[E]at y;obtain⟨t,ai,kd,Z2,m,J⟩:=a.out.Nt o x.eN ⟨af,ae⟩ B.eN 0;have M:=(show C_ t F.fb 0=some (cD G.ob)/\C_ t F.fb 1=some (.map (some F.p1))/\C_ t F.fb 3=some (I_ x.eN)/\C_ t G.ob 0=some (cD G.K.mb)/\C_ t G.K.mb 7=some (I_ o) from⟨m.f0,m.f1,m.f3,m.o0,(by have:=m.v7;dsimp only at this;rw[E]at this;exact this)⟩);go_wp2_with fail
   go_region_held3 (fun V=>C_ V F.fb 0=some (cD G.ob)/\C_ V F.fb 1=some (.map (some F.p1))/\C_ V F.fb 3=some (I_ x.eN)/\C_ V G.ob 0=some (cD G.K.mb)/\C_ V G.K.mb 7=some (I_ o))
    (first | (go_keep;done) | exact M)
    (fail)
   have i:=h_ m;have R:=h_ (N.out.trans J);clear m J M ai kd u f1 k f y;have k:=i.out.f3;have C:=i.out.f10;obtain⟨a9,c9,D⟩:=i.out.f9;have q3:=i.out.ff 3;have q9:=i.out.ff 9;have ag:=i.out.ff 10;dsimp only at k D C;have L:cq (fun g=>g=F.fb) t (((t.setCell ⟨F.fb,3,none⟩ (I_ 0)).setCell ⟨F.fb,9,none⟩ (.slice none 0 0)).setCell ⟨F.fb,10,none⟩ (I_ 0)):=fU t F.fb 3 9 10 (I_ 0) (.slice none 0 0) (I_ 0);obtain⟨Z3,j3,k3⟩:=i.out.Nn (x':={ x with dq:=Oo.iz x.dq (o,x.eN) none,eN:=0,eH:=[],target:=0 }) L (fun ah U=>cz (cz (cz U _) _) _) ⟨rfl,rfl,rfl,rfl⟩ ⟨⟨Int.le_refl _,by show(0:Int)<=_;decide⟩,B.dA,⟨by show _<=(0:Int);decide,by show(0:Int)<=_;decide⟩,by show(0:Nat)<=_;decide,i.out.Jl.vW,B.rQ⟩;have j:=h_ j3;have E3:=h_ (R.out.trans k3);clear L j3 k3;go_upto_region 4 with fail;generalize (((t.setCell ⟨F.fb,3,none⟩ (I_ 0)).setCell ⟨F.fb,9,none⟩ (.slice none 0 0)).setCell ⟨F.fb,10,none⟩ (I_ 0))=w3 at j E3 |-;clear k D C q3 q9 ag;have l:=S.symm;have u:=j.out.f0;have f:=j.out.o0;have p:=j.out.v8;dsimp only at p;rw[<- l]at p;clear l;have X:=World.block_lt_of_cell? _ _ f;have Y:=World.block_lt_of_cell? _ _ p;obtain⟨a2,c2,o2⟩:=j.out.Tc;have q2:=j.out.vX 2;have aa:=j.out.Eu;obtain⟨ab,ac,ad⟩:=j.out.bne;have W:=j.out.I3
   go_region_held3 (fun V=>C_ V F.fb 0=some (cD G.ob)/\C_ V G.ob 0=some (cD G.K.mb)/\C_ V G.K.mb 8=some (I_ n))
    (first | (go_keep;done) | (simp[*,World.cell?_alloc_some,World.cell?_setCell_far,oh];done) | (refine⟨?_,?_,?_⟩ <;> first | (go_keep;done) | exact Ev f))
    (fail)
   obtain⟨Z4,j4,k4⟩:=j.out.uf n;have J4:=h_ j4;have E4:=h_ (E3.out.trans k4);clear j4 k4 u f p o2 q2 aa ab ac ad W X Y;go_wp2_with fail;go_end0;exact⟨rfl,_,J4.out,E4.out⟩
end
theorem zE:pS 0:=⟨by decide,by decide⟩
theorem pK(r:Rd):pS (Oo.cJ r).2.1:=by
 unfold Oo.cJ;split
 . exact zE
 . unfold Oo.nV
   dsimp only;split
   . exact zE
   . exact Mem.fh _ _
theorem Nw{n:Int}(h:0<=n/\n<=4194304):pS n:=⟨by omega,by omega⟩
section
variable (G:Gk) (F:Fk) (w:World) (Z:Nat->Prop) (q:Rd × Oo)
theorem Nx(h:RJ (RO G F) G w Z q):Calls prog 30 #[cD G.ob] w (Qa (RO G F) G Z w (q.1.cY,q.2)):=h.Gb (fun X a _=>FY G X w q.1 a)
theorem Ny(h:RJ (RO G F) G w Z q):Calls prog 147 #[cD G.K.s] w (PJ (RO G F) G Z w (((q.1.vm (q.1.v.fB q.1.v.x.align)).1,q.2),(q.1.vm (q.1.v.fB q.1.v.x.align)).2)):=h.wU (fun X a _=>MP G X w q.1 a)
theorem QT(h:RJ (RO G F) G w Z q):Calls prog 35 #[cD G.K.s] w fun e w'=>e=.returned (I_ q.1.v.x.cu)/\w=w':=h.Cn.elim fun X a=>P9 G X w q.1 a
theorem Qn(m:Bool)(h:RJ (RO G F) G w Z q):Calls prog 32 #[cD G.ob,.bool m] w (Qa (RO G F) G Z w (q.1.start m,q.2)):=h.Gb (fun X a _=>BN G X w q.1 m a)
theorem Nz(n:Int)(h:RJ (RO G F) G w Z q):Calls prog 83 #[cD G.K.s,I_ n] w (PJ (RO G F) G Z w (((q.1.cN n).1,q.2),(q.1.cN n).2)):=h.wU (fun X a _=>pg G X w q.1 n a)
theorem Cc(c:Int)(aa:pS c)(h:RJ (RO G F) G w Z q):Calls prog 266 #[cD F.fb,I_ c] w (PJ (RO G F) G Z w (Oo.begin q c)):=by
 have u:=h_ (pn G F w Z q h);have d:Oo.begin q c=if(Oo.cR q).2.2≠0 then((Oo.cR q).1,(Oo.cR q).2.2)else Oo.sI (Oo.cR q).1 c (Oo.cR q).2.1:=rfl;generalize Oo.begin q c=ae at d |-;generalize Oo.cR q=s at u d;obtain⟨⟨r,x⟩,n,e1⟩:=s;dsimp only at u d;have J0:=h_ h;have U:=h_ (ef.refl w Z);clear h;by_cases S:e1=0
 . subst S
   rw[if_neg (by simp)]at d
   have k:Oo.sI (r,x) c n=if(r.cY.vm (r.cY.v.fB r.cY.v.x.align)).2≠0 then(((r.cY.vm (r.cY.v.fB r.cY.v.x.align)).1,x),(r.cY.vm (r.cY.v.fB r.cY.v.x.align)).2)else
    Oo.rd ((r.cY.vm (r.cY.v.fB r.cY.v.x.align)).1,{ x with target:=c,cZ:=n,xt:=(r.cY.vm (r.cY.v.fB r.cY.v.x.align)).1.v.x.cu }) (({ (r.cY.vm (r.cY.v.fB r.cY.v.x.align)).1 with eE:=Oo.iG ((r.cY.vm (r.cY.v.fB r.cY.v.x.align)).1,{ x with target:=c,cZ:=n,xt:=(r.cY.vm (r.cY.v.fB r.cY.v.x.align)).1.v.x.cu }) c }:Rd).start true |>.cN 1004):=rfl
   rw[k]at d;have P:=h_ fun V i (D:RJ (RO G F) G V i (r,x))=>Nx G F V i (r,x) D;have t:=h_ fun V i (D:RJ (RO G F) G V i (r.cY,x))=>Ny G F V i (r.cY,x) D;dsimp only at P t;generalize r.cY.vm (r.cY.v.fB r.cY.v.x.align)=p at t d;obtain⟨j,e2⟩:=p;dsimp only at t d;have Q:=h_ d;clear d k;go_enter func266,ntmps266;go_wp2_with fail;refine ir (u.out) U ?_;intro w1 Z1 y I
   skip
   have b:=y.out.f0;go_wp2_with fail;refine ir (P.out _ _ y.out) I ?_;intro w2 Z2 z W;try clear b
   have b:=z.out.f0;have m:=z.out.o0;have o:=z.out.v0;go_wp2_with fail;refine ir (t.out _ _ z.out) W ?_;intro M Z3 a N;try clear m;try clear b;try clear o
   clear u P t y I z W;by_cases T:e2=0
   . subst T
     have O:=h_ (show ae=Oo.rd (j,{ x with target:=c,cZ:=n,xt:=j.v.x.cu }) (({ j with eE:=Oo.iG (j,{ x with target:=c,cZ:=n,xt:=j.v.x.cu }) c }:Rd).start true |>.cN 1004) from by rw[Q.out,if_neg (by simp)]);clear Q;have J:=h_ fun V i (D:RJ (RO G F) G V i (j,x))=>QT G F V i (j,x) D;dsimp only at J;generalize j.v.x.cu=L at O J;have b:=a.out.f0;have m:=a.out.o0;have o:=a.out.v0;have A:=a.out.f10;have B:=a.out.f11;have C:=a.out.f12;have aj:=a.out.ff 10;have ak:=a.out.ff 11;have al:=a.out.ff 12;have l:=a.out.Jl;dsimp only at A B C l;have ks:cq (fun g=>g=F.fb) M (((M.setCell ⟨F.fb,10,none⟩ (I_ c)).setCell ⟨F.fb,11,none⟩ (I_ n)).setCell ⟨F.fb,12,none⟩ (I_ L)):=fU M F.fb 10 11 12 (I_ c) (I_ n) (I_ L);obtain⟨Z4,j4,k4⟩:=a.out.Nl (x':={ x with target:=c,cZ:=n,xt:=L }) ks (fun am hD=>cz (cz (cz hD _) _) _) ⟨rfl,rfl,rfl,rfl⟩ ⟨l.eN,l.dA,aa,l.eH,l.vW,l.rQ⟩;have f:=h_ j4;have X:=h_ (N.out.trans k4);clear ks j4 k4 l;go_wp2_with fail;refine(J.out _ _ a.out).mono ?_;rintro e w' ⟨rfl,rfl⟩;go_upto_region 9 with fail;generalize (((M.setCell ⟨F.fb,10,none⟩ (I_ c)).setCell ⟨F.fb,11,none⟩ (I_ n)).setCell ⟨F.fb,12,none⟩ (I_ L))=w4 at f X |-;try clear m;try clear b;try clear A;try clear B;try clear C;try clear o
     clear a N aj ak al J;have b:=f.out.f0;obtain⟨a2,c2,H⟩:=f.out.Tc;have q2:=f.out.vX 2;have ac:=f.out.Eu;obtain⟨ag,ah,ai⟩:=f.out.bne;have af:=f.out.I3;have HL:=h_ (Cb G F w4.drew _ _ c aa (f.out.eL (cq.drew _ _)));have ab:=yh _ c f.out.rM
     go_region_held3 (fun V=>C_ V F.fb 0=some (cD G.ob))
      (first | (go_keep;done) | exact tt)
      (first | (go_at_call 262;refine HL.out.mono ?_;rintro e w8 ⟨a8,c8,rfl,ad,k8⟩;dsimp only;have E:=(fw w4).trans k8;have tt:=E.cell b id;have t2:=E.cell H id;have tq:=E.frozen q2 ac id))
     obtain⟨Z5,j5,k5⟩:=f.out.wb E _ a8 c8 ad ab;have R:=h_ j5;have Y:=h_ (X.out.trans k5);clear j5 k5 b H q2 ac ag ah ai af HL ab ad k8 E tt t2 tq;generalize w8.setCell _ _=w5 at R Y |-;have k:=O.out;subst k;clear O;have b:=R.out.f0;go_wp2_with fail;refine ir (Qn G F _ _ _ true R.out) Y ?_;intro w6 Z6 K E6;try clear m;try clear H;try clear b;try clear A;try clear B;try clear C;try clear o
     have b:=K.out.f0;have m:=K.out.o0;have o:=K.out.v0;go_wp2_with fail;refine ir (Nz G F _ _ _ 1004 K.out) E6 ?_;intro w7 Z7 J7 E7;try clear m;try clear H;try clear b;try clear A;try clear B;try clear C;try clear o
     go_wp2_with fail;go_ret;exact⟨rfl,_,J7.out,E7.out⟩
   . have k:=Q.out
     rw[if_pos T]at k;subst k;have d2:(e2 != 0)=true:=by simp[T]
     go_wp2_with fail;go_ret;exact⟨rfl,_,a.out,N.out⟩
 . rw[if_pos S]at d
   subst d;have d1:(e1 != 0)=true:=by simp[S]
   go_enter func266,ntmps266;go_wp2_with fail;refine ir (u.out) U ?_;intro w1 Z1 y I;try clear m;try clear H;try clear b;try clear A;try clear B;try clear C;try clear o
   go_wp2_with fail;go_ret;exact⟨rfl,_,y.out,I.out⟩
theorem I4(h:RJ (RO G F) G w Z q):Calls prog 163 #[cD F.fb] w (PJ (RO G F) G Z w (Oo.method q)):=by
 have b:=h_ (sN G F w Z q h);have d:=h_ (Cc G F w Z q q.2.eN (Nw h.Jl.eN) h);have a:Oo.method q=if Oo.iK q=false then(q,-22)else Oo.begin q q.2.eN:=rfl;generalize Oo.method q=Q at a |-;generalize Oo.begin q q.2.eN=B at d a;have g:=h_ h;have f:=h_ (ef.refl w Z);have k:=g.out.f3;clear h;cases c:Oo.iK q with
 | false =>
  rw[c]at b;rw[c,if_pos rfl]at a;subst a;clear d;go_enter func163,ntmps163;go_wp2_with fail;refine b.out.mono ?_;rintro e w' ⟨rfl,rfl⟩;go_wp2_with fail;go_ret;exact⟨rfl,_,g.out,f.out⟩
 | true =>
  rw[c]at b;rw[c,if_neg (by decide)]at a;subst a;go_enter func163,ntmps163;go_wp2_with fail;refine b.out.mono ?_;rintro e w' ⟨rfl,rfl⟩;go_wp2_with fail;refine ir (d.out) f ?_;intro m l j i;try clear k
  go_wp2_with fail;go_ret;exact⟨rfl,_,j.out,i.out⟩
end
theorem I5(m:Mem)(t i:Int):(dj.ox m t i).size=m.size:=by
 unfold dj.ox;split
 . exact Mem.cQ _ _ _
 . rfl
theorem tD(m:Mem)(t:Int)(x:jz):(dj.put m t x).1.size=m.size:=by
 unfold dj.put;split
 . rfl
 . split
   . rfl
   . simp only[Mem.cQ,I5]
theorem yj(x:jz):∀ (l:List gJ) (m:Mem),(Class.qf m x l).1.size=m.size
 | [],_=>rfl
 | c :: l,m=>by
  unfold Class.qf;split
  . exact tD _ _ _
  . exact(yj x l _).trans (tD _ _ _)
theorem wX(m:Mem)(b a c xt:Int):(Class.set m b a c xt).1.size=m.size:=by
 unfold Class.set;split
 . rfl
 . split
   . rfl
   . split
     . rfl
     . exact yj _ _ _
section
variable {G:Gk} {F:Fk} {w w':World} {Z:Nat->Prop} {q:Rd × Oo}
theorem RJ.Uc(h:RJ (RO G F) G w Z q){f:Nat}{c:Array Value}{P:Mem × Int}(j:Calls prog f c w (gV G.K.b G.K.bb P w))(n:P.1.size=q.1.v.x.mem.size):Calls prog f c w (PJ (RO G F) G Z w ((Oo.dI q.1 P.1,q.2),P.2)):=by
 obtain⟨X,Y,a,d,g,i⟩:=h.parts;refine j.mono fun e w' ⟨l,m,k⟩=>⟨l,?_⟩;exact RJ.Nj h a d g i (a.vm (a.fv.dI k m n) (mf G.K k)) (a.uc (mf G.K k))
theorem RJ.Vw{r':Rd}(h:RJ (RO G F) G w Z q)(k:cq (fun g=>g=G.ob) w w')(i:∀ D,tp w G.ob (q.1.oc G D)->tp w' G.ob (r'.oc G D))(e:r'.v=q.1.v/\r'.pf=q.1.pf/\r'.src=q.1.src/\r'.cM=q.1.cM/\r'.eE=q.1.eE/\r'.dy=q.1.dy)(j:q.1.Ok->r'.Ok) :
 ∃ b,RJ (RO G F) G w' b (r',q.2)/\ef w Z w' b:=by
 obtain⟨X,Y,a,c,d,f⟩:=h.parts;exact RJ.Nj h a c d f (a.mE k i e (j a.ok)) (a.pe k)
end
section
variable (G:Gk) (F:Fk) (w:World) (Z:Nat->Prop) (q:Rd × Oo)
theorem Ud(h:RJ (RO G F) G w Z q):Calls prog 36 #[cD G.ob] w (PJ (RO G F) G Z w ((q.1.stop.1,q.2),q.1.stop.2)):=h.wU (fun X a _=>FX G X w q.1 a)
theorem QU(h:RJ (RO G F) G w Z q):Calls prog 38 #[cD G.ob] w (Qa (RO G F) G Z w (q.1.oB,q.2)):=h.Gb (fun X a _=>ue G X w q.1 a)
theorem yk(s:List UInt8)(a:s.length<=1000000000)(h:RJ (RO G F) G w Z q):Calls prog 33 #[cD G.ob,S_ s,.slice none 0 0] w (PJ (RO G F) G Z w (((q.1.di s []).1,q.2),(q.1.di s []).2)):=h.wU (fun X b _=>tA G X w q.1 s a b)
theorem I6(a c xt:Int)(h:RJ (RO G F) G w Z q):Calls prog 268 #[cD G.K.b,I_ q.1.v.root,I_ a,I_ c,I_ xt] w (PJ (RO G F) G Z w ((Oo.dI q.1 (Class.set q.1.v.x.mem q.1.v.root a c xt).1,q.2),(Class.set q.1.v.x.mem q.1.v.root a c xt).2)) :=
 h.Uc (GU w G.K.b G.K.bb q.1.v.x.mem q.1.v.root a c xt h.wW.vm.sp.mem) (wX _ _ _ _ _)
theorem Qo(h:RJ (RO G F) G w Z q):Calls prog 165 #[cD F.fb] w (PJ (RO G F) G Z w (Oo.D5 q)):=by
 have a:Oo.D5 q=if q.1.eM=false then(q,-22)else if q.1.stop.2≠0 then((q.1.stop.1,q.2),q.1.stop.2)else
  if(q.1.stop.1.di [40,101,120,105,116,109,41] []).2≠0 then(((q.1.stop.1.di [40,101,120,105,116,109,41] []).1,q.2),(q.1.stop.1.di [40,101,120,105,116,109,41] []).2)else Oo.rJ ((q.1.stop.1.di [40,101,120,105,116,109,41] []).1,q.2):=rfl
 generalize Oo.D5 q=ac at a |-;cases D:q.1.eM with
 | false =>
  rw[if_pos D]at a;subst a;have o:=h_ h;have I:=h_ (ef.refl w Z);have f:=o.out.f0;have m:=o.out.o5;rw[D]at m;clear h;go_enter func165,ntmps165;go_wp2_with fail;go_ret;exact⟨rfl,_,o.out,I.out⟩
 | true =>
  rw[if_neg (by simp[D])]at a;have u:=h_ (Ud G F w Z q h);have n:=h_ fun V z (W:RJ (RO G F) G V z (q.1.stop.1,q.2))=>yk G F V z (q.1.stop.1,q.2) [40,101,120,105,116,109,41] (by decide) W;have o:=h_ h;have I:=h_ (ef.refl w Z);have f:=o.out.f0;have m:=o.out.o5;rw[D]at m;clear h D;dsimp only at n;generalize q.1.stop=s at u n a;obtain⟨r1,e1⟩:=s;dsimp only at u n a;generalize r1.di [40,101,120,105,116,109,41] []=s at n a;obtain⟨c,e2⟩:=s;dsimp only at n a;obtain⟨r0,x⟩:=q;dsimp only at u n a;have g:=h_ a;clear a;go_enter func165,ntmps165;go_wp2_with fail;refine ir (u.out) I ?_;intro w1 Z1 J M;try clear m;try clear f
  by_cases S:e1=0
  . subst S
    have f:=J.out.f0;go_wp2_with fail;refine ir (n.out _ _ J.out) M ?_;intro w2 Z2 i N;try clear m;try clear f
    clear o I u n J M;by_cases T:e2=0
    . subst T
      have HB:=h_ (show ac=Oo.rJ (c,x) from by rw[g.out,if_neg (by simp),if_neg (by simp)])
      have hb:Oo.rJ (c,x)=if(Class.set c.v.x.mem c.v.root x.target x.cZ x.xt).2≠0 then((Oo.dI c (Class.set c.v.x.mem c.v.root x.target x.cZ x.xt).1,x),(Class.set c.v.x.mem c.v.root x.target x.cZ x.xt).2)else
       if x.eN=0 then((({ Oo.dI c (Class.set c.v.x.mem c.v.root x.target x.cZ x.xt).1 with eM:=false,eE:=[c.v.cF] }:Rd).oB,{ x with target:=0 }),0)else(({ Oo.dI c (Class.set c.v.x.mem c.v.root x.target x.cZ x.xt).1 with eM:=false },{ x with target:=0 }),0):=rfl
      have y:=h_ fun V z (W:RJ (RO G F) G V z (c,x))=>I6 G F V z (c,x) x.target x.cZ x.xt W;have a:=HB.out;rw[hb]at a;clear g HB hb;dsimp only at y;generalize Class.set c.v.x.mem c.v.root x.target x.cZ x.xt=t at y a;obtain⟨m3,e3⟩:=t;dsimp only at y a;have g:=h_ a;clear a;go_wp2_with fail;have f:=i.out.f0;have p:=i.out.o0;have v0:=i.out.v0;have vs:=i.out.vs;have v7:=i.out.v7;have A:=i.out.f10;have Q:=i.out.f11;have R:=i.out.f12
      go_region_held3 (fun V=>C_ V F.fb 0=some (cD G.ob)/\C_ V G.ob 0=some (cD G.K.mb)/\C_ V G.K.mb 0=some (cD G.K.s)/\C_ V G.K.s 0=some (cD G.K.b)/\C_ V G.K.mb 7=some (I_ c.v.root)/\C_ V F.fb 10=some (I_ x.target)/\C_ V F.fb 11=some (I_ x.cZ)/\C_ V F.fb 12=some (I_ x.xt))
       (first | go_keep | exact tt)
       (first | (go_at_call 268;refine((y.out _ _) (i.out.eL (cq.drew _ _))).mono ?_;rintro e l ⟨rfl,Z3,k,k3⟩;dsimp only;have tt:=(show C_ l F.fb 0=some (cD G.ob)/\C_ l G.ob 0=some (cD G.K.mb)/\C_ l G.K.mb 0=some (cD G.K.s)/\C_ l G.K.s 0=some (cD G.K.b)/\C_ l G.K.mb 7=some (I_ c.v.root)/\C_ l F.fb 10=some (I_ x.target)/\C_ l F.fb 11=some (I_ x.cZ)/\C_ l F.fb 12=some (I_ x.xt) from⟨k.f0,k.o0,k.v0,k.vs,k.v7,k.f10,k.f11,k.f12⟩)))
      have j:=h_ k;have O:=h_ (N.out.trans ((ef.kt (fw w2)).trans k3));clear k k3;try clear p;try clear m;try clear f;try clear A;try clear Q;try clear R;try clear v0;try clear v7;try clear vs
      clear y i N;by_cases U:e3=0
      . subst U
        have a:=g.out;rw[if_neg (by simp)]at a;have g:=h_ a;clear a;have f:=j.out.f0;have m:=j.out.o5;have A:=j.out.f10;have q5:=j.out.vX 5;have ai:=j.out.ff 10;obtain⟨L,X,Y⟩:=j.out.bne;have ah:=L.symm;have r:=j.out.Jl;dsimp only at A r;obtain⟨Z4,j4,k4⟩:=j.out.Vw (r':={ Oo.dI c m3 with eM:=false }) (cq.setCell l ⟨G.ob,5,none⟩ (.bool false) (fun _=>rfl)) (fun ab hc=>cz hc _) ⟨rfl,rfl,rfl,rfl,rfl,rfl⟩ (fun h=>{ h with });obtain⟨Z5,j5,k5⟩:=j4.Nl (x':={ x with target:=0 }) (cq.setCell _ ⟨F.fb,10,none⟩ (I_ 0) (fun _=>rfl)) (fun ab hD=>cz hD _) ⟨rfl,rfl,rfl,rfl⟩ ⟨r.eN,r.dA,zE,r.eH,r.vW,r.rQ⟩;have d:=h_ j5;have P:=h_ ((O.out.trans k4).trans k5);clear j4 j5 k4 k5;go_upto_region 13 with fail;generalize ((l.setCell ⟨G.ob,5,none⟩ (.bool false)).setCell ⟨F.fb,10,none⟩ (I_ 0))=w5 at d P |-;try clear p;try clear m;try clear f;try clear A;try clear Q;try clear R;try clear v0;try clear v7;try clear vs
        clear j O q5 ai L X Y ah;have f3:=d.out.f3;dsimp only at f3;by_cases B:x.eN=0
        . have a:=g.out
          rw[if_pos B]at a;subst a;have d4:(x.eN == 0)=true:=by simp[B]
          clear g B;obtain⟨E,C⟩:∃ E,E=c.v.cF:=⟨_,rfl⟩;have aa:E=(Oo.dI c m3).v.cF:=C;have HL:=h_ C;clear C;go_upto_region 14 with fail;have f:=d.out.f0;have p:=d.out.o0;have H:=d.out.v8;dsimp only at H;rw[<- aa]at H;clear aa;have ae:=World.block_lt_of_cell? _ _ p;have af:=World.block_lt_of_cell? _ _ H;obtain⟨a2,c2,o2⟩:=d.out.Tc;have q2:=d.out.vX 2;have ag:=d.out.Eu;obtain⟨L,X,Y⟩:=d.out.bne;have ad:=d.out.I3
          go_region_held3 (fun V=>C_ V F.fb 0=some (cD G.ob)/\C_ V G.ob 0=some (cD G.K.mb)/\C_ V G.K.mb 8=some (I_ E))
           (first | (go_keep;done) | (simp[*,World.cell?_alloc_some,World.cell?_setCell_far,oh];done) | (refine⟨?_,?_,?_⟩ <;> first | (go_keep;done) | exact Ev p))
           (fail)
          obtain⟨Z6,j6,k6⟩:=d.out.uf E;have J6:=h_ j6;have E6:=h_ (P.out.trans k6);clear j6 k6 f p H o2 q2 ag L X Y ad ae af;have f:=J6.out.f0;go_wp2_with fail;refine ir (QU G F _ _ _ J6.out) E6 ?_;intro w7 Z7 J7 E7;try clear p;try clear o2;try clear m;try clear f;try clear f3;try clear A;try clear Q;try clear R;try clear v0;try clear v7;try clear H;try clear vs
          have C:=HL.out;subst C;go_wp2_with fail;go_ret;exact⟨rfl,_,J7.out,E7.out⟩
        . have a:=g.out
          rw[if_neg B]at a;subst a;have d4:(x.eN == 0)=false:=by simp[B]
          go_wp2_with fail;go_ret;exact⟨rfl,_,d.out,P.out⟩
      . have a:=g.out
        rw[if_pos U]at a;subst a;have d3:(e3 != 0)=true:=by simp[U]
        go_wp2_with fail;go_ret;exact⟨rfl,_,j.out,O.out⟩
    . have a:=g.out
      rw[if_neg (by simp),if_pos T]at a;subst a;have d2:(e2 != 0)=true:=by simp[T]
      go_wp2_with fail;go_ret;exact⟨rfl,_,i.out,N.out⟩
  . have a:=g.out
    rw[if_pos S]at a;subst a;have d1:(e1 != 0)=true:=by simp[S]
    go_wp2_with fail;go_ret;exact⟨rfl,_,J.out,M.out⟩
end
section
variable (G:Gk) (F:Fk) (w:World) (Z:Nat->Prop) (q:Rd × Oo)
theorem yl(s:List UInt8)(n:Int)(a:s.length<=1000000000)(h:RJ (RO G F) G w Z q):Calls prog 33 #[cD G.ob,S_ s,.slice (some ⟨w.heap.size,0,none⟩) 1 1] (w.alloc (.cells #[I_ n] 2)) (PJ (RO G F) G Z w (((q.1.di s [n]).1,q.2),(q.1.di s [n]).2)):=h.wU (fun X b _=>tx G X w q.1 s n a b)
end
theorem Ue{w:World}{g:Nat}{f j k a3 l:Value}{t:TypeId}(h:w.heap[g]?=some (.cells #[f,j,k,a3,l] t (0,0)))(a b c d e:Value) :
 (((((w.setCell ⟨g,0,none⟩ a).setCell ⟨g,1,none⟩ b).setCell ⟨g,2,none⟩ c).setCell ⟨g,3,none⟩ d).setCell ⟨g,4,none⟩ e).heap[g]?=some (.cells #[a,b,c,d,e] t (0,0)) :=
 cz (i:=4) (cz (i:=3) (cz (i:=2) (cz (i:=1) (cz (i:=0) h a) b) c) d) e
theorem Cd{S:Nat->Prop}{b w:World}(k:cq S b w)(g:Nat)(c d e f h:Value)(a:b.heap.size<=g):cq S b (((((w.setCell ⟨g,0,none⟩ c).setCell ⟨g,1,none⟩ d).setCell ⟨g,2,none⟩ e).setCell ⟨g,3,none⟩ f).setCell ⟨g,4,none⟩ h) :=
 ((((k.dW ⟨g,0,none⟩ c a).dW ⟨g,1,none⟩ d a).dW ⟨g,2,none⟩ e a).dW ⟨g,3,none⟩ f a).dW ⟨g,4,none⟩ h a
section
variable (G:Gk) (F:Fk) (w:World)
theorem Ce(X:Nat->Prop)(r:Rd)(s:List UInt8)(n m:Int)(k:s.length<=1000000000)(h:ej w G X r) :
 Calls prog 33 #[cD G.ob,S_ s,.slice (some ⟨w.heap.size,0,none⟩) 2 2] (w.alloc (.cells #[I_ n,I_ m] 2)) (PR G X w (r.di s [n,m])):=by
 have a:=dR w (.cells #[I_ n,I_ m] 2);refine(qG G X _ r s _ 2 [n,m] k (L1 w n m _) (by simp) (fun g i=>?_) (h.cL a)).mono ?_
 . have e:w.heap.size=g:=Option.some.inj i
   have l:=h.Vu;exact⟨fun d=>by have:=l g d;omega,by rw[<- e,World.size_alloc];omega⟩
 . rintro e w' ⟨f,b,j,c⟩
   exact⟨f,b,j,(ef.kt a).trans c⟩
variable (Z:Nat->Prop) (q:Rd × Oo)
theorem I7(s:List UInt8)(n m:Int)(a:s.length<=1000000000)(h:RJ (RO G F) G w Z q):Calls prog 33 #[cD G.ob,S_ s,.slice (some ⟨w.heap.size,0,none⟩) 2 2] (w.alloc (.cells #[I_ n,I_ m] 2)) (PJ (RO G F) G Z w (((q.1.di s [n,m]).1,q.2),(q.1.di s [n,m]).2)):=h.wU (fun X b _=>Ce G w X q.1 s n m a b)
theorem Uf(a:Int)(c:pS a)(h:RJ (RO G F) G w Z q):Calls prog 177 #[cD G.K.b,I_ a] w fun e w'=>e=pT (Class.cT q.1.v.x.mem a)/\K_ w w':=iW w G.K.b G.K.bb q.1.v.x.mem a h.wW.vm.sp.mem c.1 c.2
theorem NA(h:RJ (RO G F) G w Z q):Calls prog 170 #[cD F.fb] w (PJ (RO G F) G Z w (Oo.xR q)):=by
 have d:Oo.xR q=if q.1.eM=false then(q,-14)else if(Oo.cR q).2.2≠0 then((Oo.cR q).1,(Oo.cR q).2.2)else
  Oo.rd (Oo.cR q).1 ((Oo.cR q).1.1.di [40,115,117,112,101,114,41] [(Class.cT (Oo.mem (Oo.cR q).1) q.2.target).1.cE,(Oo.cR q).2.1]):=rfl
 generalize Oo.xR q=af at d |-;cases H:q.1.eM with
 | false =>
  rw[if_pos H]at d;subst d;have t:=h_ h;have J:=h_ (ef.refl w Z);have r:=t.out.f0;have I:=t.out.o5;rw[H]at I;clear h;go_enter func170,ntmps170;go_wp2_with fail;go_ret;exact⟨rfl,_,t.out,J.out⟩
 | true =>
  rw[if_neg (by simp[H])]at d;have M:=h_ (pn G F w Z q h);have t:=h_ h;have J:=h_ (ef.refl w Z);have r:=t.out.f0;have I:=t.out.o5;rw[H]at I;clear h H;have p:(Oo.cR q).1.2.target=q.2.target:=by unfold Oo.cR;split <;> rfl
  generalize aa:Oo.cR q=s at M d;rw[aa]at p;clear aa;obtain⟨⟨r1,x1⟩,n,D⟩:=s;dsimp only at M d p;rw[<- p]at d;clear p;have L:=h_ d;clear d;go_enter func170,ntmps170;go_wp2_with fail;refine ir (M.out) J ?_;intro a Z1 l R;try clear I;try clear r
  clear M t J;by_cases T:D=0
  . subst T
    have d:=L.out;rw[if_neg (by simp)]at d;obtain⟨y,p⟩:∃ y,y=x1.target:=⟨_,rfl⟩;rw[<- p]at d;have ad:pS y:=p ▸ l.out.Jl.target;have u:=h_ fun V (k:K_ a V)=>Uf G F V Z1 (r1,x1) y ad (l.out.eL k);dsimp only[Oo.mem]at u d;generalize Class.cT r1.v.x.mem y=c at u d;obtain⟨⟨z,o,A,B,C⟩,ok⟩:=c;dsimp only at u d;have L:=h_ d;clear d;have r:=l.out.f0;have O:=l.out.o0;have P:=l.out.v0;have Q:=l.out.vs;have E:=l.out.f10;dsimp only at E;rw[<- p]at E;clear p;have Y:=World.block_lt_of_cell? a _ r;have l2:=World.block_lt_of_cell? a _ O;have l3:=World.block_lt_of_cell? a _ P;have l4:=World.block_lt_of_cell? a _ Q;dsimp only at Y l2 l3 l4;go_upto_region 6 with fail
    go_cut [5,6] (fun v5 v6 wx=>∃ g:Nat,v5=cD g/\v6=.bool ok/\wx.heap[g]?=some (.cells #[I_ z,I_ o,I_ A,I_ B,I_ C] 214 (0,0))/\K_ a wx/\a.heap.size<=g)
    case first =>
     go_region_held3 (fun w'=>C_ w' F.fb 0=some (cD G.ob)/\C_ w' G.ob 0=some (cD G.K.mb)/\C_ w' G.K.mb 0=some (cD G.K.s)/\C_ w' G.K.s 0=some (cD G.K.b)/\C_ w' F.fb 10=some (I_ y))
      (first | (go_keep;done))
      (first
        | (go_at_call 177;refine(u.out (a.alloc (.cells #[I_ 0,I_ 0,I_ 0,I_ 0,I_ 0] 214)).drew ((dR a (.cells #[I_ 0,I_ 0,I_ 0,I_ 0,I_ 0] 214)).trans (cq.drew _ _))).mono ?_;rintro e j ⟨rfl,N⟩;dsimp only[pT,gJ.val]
           have f:=((dR a (.cells #[I_ 0,I_ 0,I_ 0,I_ 0,I_ 0] 214)).trans (fw _)).trans N;have m:=N.heap (show((a.alloc (.cells #[I_ 0,I_ 0,I_ 0,I_ 0,I_ 0] 214)).drew).heap[a.heap.size]?=_ from cx a _) id;have e0:=f.cell r id;have D:=f.cell O id;have e2:=f.cell P id;have e3:=f.cell Q id;have e4:=f.cell E id;have z0:C_ j a.heap.size 0=some (I_ 0):=cp m rfl;have z1:C_ j a.heap.size 1=some (I_ 0):=cp m rfl;have z2:C_ j a.heap.size 2=some (I_ 0):=cp m rfl;have z3:C_ j a.heap.size 3=some (I_ 0):=cp m rfl;have z4:C_ j a.heap.size 4=some (I_ 0):=cp m rfl;have q0:=cB (i:=0) m;have q1:=cB (i:=1) m;have q2:=cB (i:=2) m;have q3:=cB (i:=3) m;have q4:=cB (i:=4) m;have n1:a.heap.size≠F.fb:=by omega
           have n2:a.heap.size≠G.ob:=by omega
           have n3:a.heap.size≠G.K.mb:=by omega
           have n4:a.heap.size≠G.K.s:=by omega
           have ag:F.fb≠a.heap.size:=by omega
           have ah:G.ob≠a.heap.size:=by omega
           have ai:G.K.mb≠a.heap.size:=by omega
           have aj:G.K.s≠a.heap.size:=by omega)
        | (go_at_call 177;refine(u.out a.drew (cq.drew _ _)).mono ?_;rintro e j ⟨rfl,N⟩;dsimp only[pT,gJ.val]
           have f:=(fw a).trans N;have e0:=f.cell r id;have D:=f.cell O id;have e2:=f.cell P id;have e3:=f.cell Q id;have e4:=f.cell E id;have Y:=World.block_lt_of_cell? j _ e0;have l2:=World.block_lt_of_cell? j _ D;have l3:=World.block_lt_of_cell? j _ e2
           have l4:=World.block_lt_of_cell? j _ e3))
     all_goals
      go_wp2_with fail;go_meet;refine⟨_,rfl,rfl,?_⟩
      first
       | (have hB:=Ue (g:=a.heap.size) m (I_ z) (I_ o) (I_ A) (I_ B) (I_ C)
          have kB:=Cd f a.heap.size (I_ z) (I_ o) (I_ A) (I_ B) (I_ C) (Nat.le_refl _)
          exact⟨hB,kB,Nat.le_refl _⟩)
       | (have hA:=cx j (.cells #[(I_ z),(I_ o),(I_ A),(I_ B),(I_ C)] 214)
          have kA:=f.trans (dR j (.cells #[(I_ z),(I_ o),(I_ A),(I_ B),(I_ C)] 214))
          exact⟨hA,kA,f.size⟩)
    case rest =>
     obtain⟨g,rfl,rfl,hw,X,ab⟩:=hcut;have S:=h_ (l.out.eL X);have E2:=h_ (R.out.trans (ef.kt X));have ae:C_ wc g 1=some (I_ o):=cp hw rfl;have ac:¬ Z1 g:=fun h=>by have:=l.out.lt g h;omega
     clear hw X ab l R u Y l2 l3 l4;try clear O;try clear I;try clear r;try clear E;try clear P;try clear Q
     have r:=S.out.f0;go_wp2_with fail
     go_region_held3 (fun V=>C_ V F.fb 0=some (cD G.ob)/\C_ V g 1=some (I_ o))
      (first | (go_keep;done) | exact tt)
      (first
        | (go_at_call 33;refine(I7 G F wc.drew _ _ [40,115,117,112,101,114,41] o n (by decide) (S.out.eL (cq.drew _ _))).mono ?_;rintro e w3 ⟨rfl,Z3,U,W⟩;dsimp only;have tt:=(show C_ w3 F.fb 0=some (cD G.ob)/\C_ w3 g 1=some (I_ o) from⟨U.f0,W.k.cell ae ac⟩)))
     have J3:=h_ U;have E3:=h_ (E2.out.trans ((ef.kt (fw wc)).trans W));clear U W S E2;have d:=L.out;subst d;go_wp2_with fail;go_ret;exact⟨rfl,_,J3.out,E3.out⟩
  . have d:=L.out
    rw[if_pos T]at d;subst d;have d1:(D != 0)=true:=by simp[T]
    go_wp2_with fail;go_ret;exact⟨rfl,_,l.out,R.out⟩
end
theorem fY(x:Sp):x.align.1.mem.size=x.mem.size:=Sp.ts _ _
theorem we(x:Sp)(n:Int):(Obj.jC x n).1.mem.size=x.mem.size:=by
 unfold Obj.jC;split
 . exact fY x
 . rw[Sp.qd];exact fY x
theorem zF(x:Sp)(c:Int):(Obj.dV x c).1.mem.size=x.mem.size:=by
 unfold Obj.dV;split
 . rfl
 . split
   . dsimp only
     rw[Sp.kR];exact we _ _
   . dsimp only
     rw[jX];exact we _ _
theorem tE:∀ (l:List Int) (r:Rd),(Rd.eR l r).1.v.cF=r.v.cF
 | [],_=>rfl
 | n :: l,r=>by
  unfold Rd.eR Rd.bind;split
  . rfl
  . exact(tE l _).trans rfl
theorem ym(r:Rd)(b:Int)(s:List UInt8)(n a:Int)(l:List Int):(r.make b s n a l).1.v.cF=r.v.cF:=by
 have c:(r.gI b s n a l).1.v.cF=r.v.cF:=by
  unfold Rd.gI;split
  . rfl
  . exact(tE l _).trans rfl
 unfold Rd.make;split
 . show(r.gI b s n a l).1.v.cF=_
   exact c
 . exact c
section
variable {G:Gk} {F:Fk} {w w':World} {Z:Nat->Prop} {q:Rd × Oo}
theorem RJ.Ew(h:RJ (RO G F) G w Z q){f:Nat}{c:Array Value}{P:Sp × Int × Int}(j:Calls prog f c w (ko G.K.s G.K.b G.K.bb P w))(n:P.1.mem.size=q.1.v.x.mem.size):Calls prog f c w (I0 (Value.int .i64) G F Z w (({ q.1 with v:={ q.1.v with x:=P.1 } },q.2),P.2)):=by
 obtain⟨X,Y,a,d,g,i⟩:=h.parts;refine j.mono fun e w' ⟨l,m,k⟩=>⟨l,?_⟩;exact RJ.Nj h a d g i (a.vm (a.fv.qt k m n) (qu G.K k)) (a.uc (qu G.K k))
end
section
variable (G:Gk) (F:Fk) (w:World) (Z:Nat->Prop) (q:Rd × Oo)
theorem NC(c:Int)(a:pS c)(h:RJ (RO G F) G w Z q):Calls prog 277 #[cD G.K.s,I_ c] w (I0 (Value.int .i64) G F Z w (({ q.1 with v:={ q.1.v with x:=(Obj.dV q.1.v.x c).1 } },q.2),(Obj.dV q.1.v.x c).2)) :=
 h.Ew (Lp w G.K.s G.K.b G.K.bb q.1.v.x c h.wW.vm.sp a.1 a.2) (zF _ _)
theorem Gd(h:RJ (RO G F) G w Z q):Calls prog 25 #[cD G.ob] w (I0 wR G F Z w ((q.1.name.1,q.2),q.1.name.2)):=h.Nk (V:=wR) (fun X a _=>ud G X w q.1 a)
end
theorem zG(cy:Int):∀ (k:Nat) (i:Int) (s:Sp),(dj.kj cy k i s).1.mem.size=s.mem.size
 | 0,_,_=>rfl
 | k+1,i,s=>by
  unfold dj.kj;generalize (if i=0 then cy else 0)=c
  split
  . exact Sp.gL _ _
  . exact(zG cy k _ _).trans (Sp.gL _ _)
theorem Ge(cy:Int):∀ (k:Nat) (i:Int) (s:Sp),s.Ok->(dj.kj cy k i s).1.Ok
 | 0,_,_,h=>h
 | k+1,i,s,h=>by
  unfold dj.kj;generalize (if i=0 then cy else 0)=c
  split
  . exact Sp.zQ h _
  . exact Ge cy k _ _ (Sp.zQ h _)
theorem pL(s:Sp)(n:Int):(dj.new s n).1.mem.size=s.mem.size:=by
 unfold dj.new;split
 . rfl
 . split
   . show(s.align.1.fN s.cu).1.mem.size=_
     rw[Sp.kR];exact fY s
   . split
     . show((dj.kj n (2+n*3).toNat 0 s.align.1).1.fN s.cu).1.mem.size=_
       rw[Sp.kR,zG];exact fY s
     . show(dj.kj n (2+n*3).toNat 0 s.align.1).1.mem.size=_
       rw[zG];exact fY s
theorem yp(s:Sp)(n:Int)(h:s.Ok)(e:s.align.1.Ok)(a:(dj.new s n).2.2=0):(dj.new s n).1.Ok:=by
 unfold dj.new at *;split at a
 . simp at a
 . split at a
   . rename_i b
     exact absurd a b
   . rename_i d b
     rw[if_neg d,if_neg b];split at a
     . rename_i c
       exact absurd a c
     . rename_i c
       rw[if_neg c];exact Ge _ _ _ _ e
theorem wj(s:Sp)(t:Int):(dj.copy s t).1.mem.size=s.mem.size:=by
 unfold dj.copy;split
 . exact pL _ _
 . show(Mem.cS _ _ _).1.size=_
   rw[Mem.eh];exact pL _ _
theorem Ex(s:Sp)(t:Int)(h:s.Ok)(c:s.align.1.Ok)(b:(dj.copy s t).2.2=0):(dj.copy s t).1.Ok:=by
 unfold dj.copy at *;split at b
 . rename_i a
   exact absurd b a
 . rename_i a
   rw[if_neg a];have d:=yp s (dj.cy s.mem t) h c (by omega);obtain⟨e,f,g,i⟩:=d;refine⟨e,f,g,?_⟩;show _<=((Mem.cS _ _ _).1.size:Int);rw[Mem.eh];exact i
theorem Cf:∀ (l:List Int) (x:Sp) (a:Int),(Class.dT.cells x l a).1.mem.size=x.mem.size
 | [],_,_=>rfl
 | n :: l,x,a=>by
  unfold Class.dT.cells;split
  . exact Sp.gL _ _
  . exact(Cf l _ _).trans (Sp.gL _ _)
theorem Cg:∀ (l:List Int) (x:Sp) (a:Int),(Class.dT.cells x l a).2.2=0->(Class.dT.cells x l a).2.1=a
 | [],_,_,_=>rfl
 | n :: l,x,a,h=>by
  unfold Class.dT.cells at *;split at h
  . rename_i h1
    exact absurd h h1
  . rename_i h1
    rw[if_neg h1];exact Cg l _ _ h
theorem Gf(s:Sp)(b a:Int)(t:Sp × Int × Int)(c:Int):(Class.dT.rest s b a t c).1.mem.size=t.1.mem.size:=by
 unfold Class.dT.rest;split
 . rfl
 . exact Cf _ _ _
theorem Gg(s:Sp)(c b:Int)(t:Sp × Int × Int)(d:Int)(h:(Class.dT.rest s c b t d).2.2=0):t.2.2=0/\(Class.dT.rest s c b t d).2.1=t.1.cu:=by
 unfold Class.dT.rest at *;split at h
 . rename_i a
   exact absurd h a
 . rename_i a
   rw[if_neg a];exact⟨by omega,Cg _ _ _ h⟩
theorem Ch(s:Sp)(b a c:Int):(Class.dT s b a c).1.mem.size=s.mem.size:=by
 unfold Class.dT;split
 . rfl
 . split
   . exact(Gf _ _ _ _ _).trans (pL _ _)
   . split
     . rfl
     . exact(Gf _ _ _ _ _).trans (wj _ _)
theorem ND(s:Sp)(i g j:Int)(h:s.Ok)(k:s.align.1.Ok)(a:(Class.dT s i g j).2.2=0):0<=(Class.dT s i g j).2.1/\(Class.dT s i g j).2.1<=s.mem.size:=by
 have l:∀ t:Sp × Int × Int,t.1.Ok->t.1.mem.size=s.mem.size->0<=t.1.cu/\t.1.cu<=s.mem.size:=by
  rintro t ⟨o,p,r,n⟩ e;rw[e]at n;exact⟨by omega,by omega⟩
 unfold Class.dT at *;split at a
 . rename_i d
   exact absurd a d
 . rename_i d
   rw[if_neg d];split at a
   . rename_i f
     rw[if_pos f];obtain⟨b,c⟩:=Gg _ _ _ _ _ a;rw[c];exact l _ (yp _ _ h k b) (pL _ _)
   . rename_i f
     rw[if_neg f];split at a
     . simp at a
     . rename_i m
       rw[if_neg m];obtain⟨b,c⟩:=Gg _ _ _ _ _ a;rw[c];exact l _ (Ex _ _ h k b) (wj _ _)
theorem Ci(s:Sp)(b a c:Int):(Class.new s b a c).1.mem.size=s.mem.size:=by
 unfold Class.new;split
 . show((Class.dT s b a c).1.fN s.cu).1.mem.size=_
   rw[Sp.kR];exact Ch _ _ _ _
 . show(Mem.setCell _ _ _).1.size=_
   rw[Mem.cQ];exact Ch _ _ _ _
theorem Cj(s:Sp)(c b d:Int)(h:s.Ok)(f:s.align.1.Ok)(e:(Class.new s c b d).2.2=0):0<=(Class.new s c b d).2.1/\(Class.new s c b d).2.1<=s.mem.size:=by
 unfold Class.new at *;split at e
 . rename_i a
   exact absurd e a
 . rename_i a
   rw[if_neg a];exact ND _ _ _ _ h f (by omega)
theorem Qq(x:Sp):x.cF.1.mem.size=x.mem.size:=by
 unfold Sp.cF;split
 . exact fY x
 . split
   . exact(Sp.gL _ _).trans (fY x)
   . exact(Sp.gL _ _).trans (fY x)
section
variable {G:Gk} {F:Fk} {w w':World} {Z:Nat->Prop} {q:Rd × Oo}
theorem RJ.NG(h:RJ (RO G F) G w Z q)(a b v:Int)(m:0<=a/\a<=4194304)(n:0<=b/\b<=4194304) :
 ∃ w',(Instr.mapUpdate 104 (.map (some F.p1)) (.agg #[I_ a,I_ b]) (I_ v)).run prog w.drew=.ok () w'/\cq (fun g=>g=F.p1) w w' /\
  ∃ c,RJ (RO G F) G w' c (q.1,{ q.2 with dq:=Oo.iz q.2.dq (a,b) (some v) })/\ef w Z w' c:=by
 obtain⟨Y,D,f,_,_⟩:=h.wV;obtain⟨w',r,i,k⟩:=Fa iN (w:=w.drew) 104 2 underlying104 (f.dq.ct (fw w) id) (by unfold maxLen;decide) ⟨(a,b),wf_i64 (by omega) (by omega),wf_i64 (by omega) (by omega)⟩ trivial (I_ v);have l:=((fw w).mono (fun _ _ e=>e.elim)).trans k;rw[SM]at i
 obtain⟨c,j,e⟩:=h.yi l _ _ i (fun p o=>by
  by_cases d:p=(a,b)
  . rw[d];exact⟨m,n⟩
  . exact f.ok.vW p (fun e=>o (by unfold Oo.iz;simp[d,e])))
 exact⟨w',r,l,c,j,e⟩
end
section
variable (G:Gk) (F:Fk) (w:World) (Z:Nat->Prop) (q:Rd × Oo)
theorem I9(p:Int)(a:pS p)(h:RJ (RO G F) G w Z q):Calls prog 261 #[cD G.K.s,I_ q.1.v.root,I_ p,I_ q.1.v.cy] w (I0 (Value.int .i64) G F Z w (({ q.1 with v:={ q.1.v with x:=(Class.new q.1.v.x q.1.v.root p q.1.v.cy).1 } },q.2),(Class.new q.1.v.x q.1.v.root p q.1.v.cy).2)) :=
 h.Ew (GQ w G.K.s G.K.b G.K.bb q.1.v.x q.1.v.root p q.1.v.cy h.wW.vm.sp a.1 a.2) (Ci _ _ _ _)
theorem I'(h:RJ (RO G F) G w Z q):Calls prog 210 #[cD G.K.s] w (I0 (Value.int .i64) G F Z w (({ q.1 with v:={ q.1.v with x:=q.1.v.x.cF.1 } },q.2),q.1.v.x.cF.2)) :=
 h.Ew (xD w G.K.s G.K.b G.K.bb q.1.v.x h.wW.vm.sp) (Qq _)
end
set_option maxHeartbeats 8000000
theorem NH(r:Rd):pS (Oo.cE r).2.1:=by
 unfold Oo.cE;split
 . exact zE
 . exact pK _
theorem po(w:World)(b i j:Nat)(v:Value)(h:i≠j):(w.setCell ⟨b,i,none⟩ v).cell? ⟨b,j,none⟩=w.cell? ⟨b,j,none⟩:=World.cell?_setCell_other w _ _ _ (fun e=>h (by injection e))
theorem Qr{w:World}{b i j:Nat}{v x:Value}(h:w.cell? ⟨b,j,none⟩=some v)(a:i≠j):((w.setCell ⟨b,i,none⟩ x).drew).cell? ⟨b,j,none⟩=some v:=(po w b i j x a).trans h
theorem RJ.XL{G:Gk}{F:Fk}{w:World}{Z:Nat->Prop}{q:Rd × Oo}(h:RJ (RO G F) G w Z q):F.fb≠G.K.s:=by
 obtain⟨X,Y,⟨D,f,b,g⟩,d,c,i⟩:=h.parts;have a:X G.K.s:=b _ (.inr (.inl (.inr (.inl rfl))));exact fun e=>c _ a (e ▸ d.UE)
theorem NI{w:World}{b j:Nat}{v a c d e:Value}(h:w.cell? ⟨b,j,none⟩=some v)(f:j<4):((((w.setCell ⟨b,4,none⟩ a).setCell ⟨b,5,none⟩ c).setCell ⟨b,6,none⟩ d).setCell ⟨b,7,none⟩ e).cell? ⟨b,j,none⟩=some v:=by
 rw[po _ _ _ _ _ (by omega),po _ _ _ _ _ (by omega),po _ _ _ _ _ (by omega),po _ _ _ _ _ (by omega)];exact h
theorem Ck(w:World)(g:Nat)(a b c d:Value):cq (fun k=>k=g) w ((((w.setCell ⟨g,4,none⟩ a).setCell ⟨g,5,none⟩ b).setCell ⟨g,6,none⟩ c).setCell ⟨g,7,none⟩ d) :=
 (((cq.setCell (S:=fun k=>k=g) w ⟨g,4,none⟩ a (fun _=>rfl)).trans (cq.setCell (S:=fun k=>k=g) _ ⟨g,5,none⟩ b (fun _=>rfl))).trans (cq.setCell (S:=fun k=>k=g) _ ⟨g,6,none⟩ c (fun _=>rfl))).trans (cq.setCell (S:=fun k=>k=g) _ ⟨g,7,none⟩ d (fun _=>rfl))
theorem Wt{w:World}{b c j:Nat}{a d e f:Value}(h:b≠c):((((w.setCell ⟨b,4,none⟩ a).setCell ⟨b,5,none⟩ d).setCell ⟨b,6,none⟩ e).setCell ⟨b,7,none⟩ f).cell? ⟨c,j,none⟩=w.cell? ⟨c,j,none⟩:=by
 rw[World.cell?_setCell_far _ _ _ _ h,World.cell?_setCell_far _ _ _ _ h,World.cell?_setCell_far _ _ _ _ h,World.cell?_setCell_far _ _ _ _ h]
theorem Qs(r:Rd)(b:Int)(s:List UInt8)(n a:Int)(l:List Int)(h:r.v.x.Ok)(c:r.v.x.mem.size<=4194304):0<=(r.make b s n a l).2.1.cM/\(r.make b s n a l).2.1.cM<=4194304:=by
 unfold Rd.make;split
 . exact⟨Int.le_refl _,by show(0:Int)<=_;decide⟩
 . exact ya r.v.x h c b s a n
section
variable (G:Gk) (F:Fk) (w:World) (Z:Nat->Prop) (q:Rd × Oo)
end
set_option maxHeartbeats 4000000
section
variable (G:Gk) (F:Fk) (w:World) (Z:Nat->Prop) (q:Rd × Oo)
theorem mv(u:(Oo.cJ q.1).2.2=0)(h:RJ (RO G F) G w Z q):Calls prog 267 #[cD F.fb] w (I0 (Value.int .i64) G F Z w (((Oo.cJ q.1).1,q.2),(Oo.cJ q.1).2)):=by
 have O:=I2 q.1 h.rM;have k:Oo.cJ q.1=if q.1.find.2.2≠0 then(q.1.find.1,0,q.1.find.2.2)else(q.1.find.1,Oo.nV q.1.find.1.v.x.mem q.1.find.1.v.root q.1.find.2.1.xt):=rfl;have N:q.1.find.2.2=0:=Decidable.byContradiction fun e=>e (by rw[k,if_pos e]at u;exact u);have L:=h_ (h.Nk (V:=Wd.val) (fun X O _=>BQ G X w q.1 N O));generalize Oo.cJ q.1=ak at k u |-;generalize q.1.find=aj at L O k N;obtain⟨f,d,c⟩:=aj;obtain⟨Y,g,aa,ab⟩:=d;dsimp only at L O k N;subst N;rw[if_neg (by simp)]at k;have J0:=h_ h;have E0:=h_ (ef.refl w Z);have p:=J0.out.f0;clear h;have i:Oo.nV f.v.x.mem f.v.root g=if(f.v.x.mem.cell (g+8)).2≠0\/(f.v.x.mem.cell g).1≠1003\/Class.is f.v.x.mem f.v.root (f.v.x.mem.cell (g+8)).1=false then(0,-2048)else((f.v.x.mem.cell (g+8)).1,0):=rfl;have B:=h_ fun V o (D:RJ (RO G F) G V o (f,q.2))=>No G F V o (f,q.2) g D;have C:=h_ fun V o (D:RJ (RO G F) G V o (f,q.2))=>No G F V o (f,q.2) (g+8) D;have U:=h_ fun V o a (D:RJ (RO G F) G V o (f,q.2))=>XK G F V o (f,q.2) f.v.root a D;dsimp only at B C U;generalize Oo.nV f.v.x.mem f.v.root g=ai at k i;generalize f.v.x.mem.cell g=m1 at B i;generalize f.v.x.mem.cell (g+8)=m2 at C i;obtain⟨n1,e1⟩:=m1;obtain⟨n2,e2⟩:=m2;dsimp only at B C i;generalize ah:Class.is f.v.x.mem f.v.root n2=ac at i;have af:=h_ ah;have ad:=h_ i;rw[k]at u;have HQ:=h_ k;have W:=h_ u;clear k i ah u;have cw:IntKind.i64.wrap (g+8)=g+8:=IntWalk.i64_in _ (by omega);go_enter func267,ntmps267;go_wp2_with fail;refine ir (L.out) E0 ?_;intro P Z1 J1 E1;try clear p
 dsimp only[Wd.val];go_wp2_with fail;have ka:=dR P (.cells #[I_ Y,I_ g,I_ aa,S_ ab] 53);have m:=h_ (J1.out.eL ka);have Q:=h_ (E1.out.trans (ef.kt ka));have E:=cx P (.cells #[I_ Y,I_ g,I_ aa,S_ ab] 53);obtain⟨gk,ag⟩:∃ gk,gk=P.heap.size:=⟨_,rfl⟩;rw[<- ag]at E |-;generalize P.alloc (.cells #[I_ Y,I_ g,I_ aa,S_ ab] 53)=H at E m Q |-;clear ka ag J1 E1 L;have g1:C_ H gk 1=some (I_ g):=cp E rfl;have M:=h_ (show H.drew.heap[gk]?=_ from E);clear E;have p:=m.out.f0;have y:=m.out.o0;have z:=m.out.v0;have A:=m.out.vs
 go_region_held3 (fun V=>C_ V F.fb 0=some (cD G.ob)/\C_ V G.ob 0=some (cD G.K.mb)/\C_ V G.K.mb 0=some (cD G.K.s)/\C_ V G.K.s 0=some (cD G.K.b)/\C_ V gk 1=some (I_ g))
  (first | go_keep)
  (first
    | (go_at_call 81;refine(B.out _ _ (m.out.eL (cq.drew _ _))).mono ?_;rintro e w' ⟨rfl,rfl⟩;dsimp only))
 have n:=h_ (m.out.eL (fw H));have R:=h_ (Q.out.trans (ef.kt (fw H)));try clear y;try clear p;try clear z;try clear A
 clear g1 m Q;generalize H.drew=I at n R M |-;have g1:C_ I gk 1=some (I_ g):=cp M.out rfl;have ae:=h_ (show I.drew.heap[gk]?=_ from M.out);have p:=n.out.f0;have y:=n.out.o0;have z:=n.out.v0;have A:=n.out.vs;go_wp2_with fail
 go_region_held3 (fun V=>C_ V F.fb 0=some (cD G.ob)/\C_ V G.ob 0=some (cD G.K.mb)/\C_ V G.K.mb 0=some (cD G.K.s)/\C_ V G.K.s 0=some (cD G.K.b)/\C_ V gk 1=some (I_ g))
  (first | go_keep)
  (first
    | (go_at_call 81;refine(C.out _ _ (n.out.eL (cq.drew _ _))).mono ?_;rintro e w' ⟨rfl,rfl⟩;dsimp only))
 have l:=h_ (n.out.eL (fw I));have S:=h_ (R.out.trans (ef.kt (fw I)));try clear y;try clear p;try clear z;try clear A
 clear g1 n R M B C;generalize I.drew=t at l S ae |-;clear ae;have i:=ad.out;go_wp2_with fail;by_cases h1:e2=0
 . by_cases j:n1=1003
   . subst h1
     subst j;have T:=h_ (show ai=if ac=false then((0:Int),(-2048:Int))else(n2,0) from by rw[i];simp);clear i ad;have p:=l.out.f0;have y:=l.out.o0;have z:=l.out.v0;have A:=l.out.vs;have v7:=l.out.v7
     go_region_held3 (fun V=>C_ V F.fb 0=some (cD G.ob)/\C_ V G.ob 0=some (cD G.K.mb)/\C_ V G.K.mb 0=some (cD G.K.s)/\C_ V G.K.s 0=some (cD G.K.b)/\C_ V G.K.mb 7=some (I_ f.v.root))
      (first | go_keep | exact tt)
      (first
        | (go_at_call 178;refine(U.out _ _ n2 (l.out.eL (cq.drew _ _))).mono ?_;rintro e J ⟨rfl,r⟩;rw[af.out];dsimp only;have tt:=(show C_ J F.fb 0=some (cD G.ob)/\C_ J G.ob 0=some (cD G.K.mb)/\C_ J G.K.mb 0=some (cD G.K.s)/\C_ J G.K.s 0=some (cD G.K.b)/\C_ J G.K.mb 7=some (I_ f.v.root) from⟨((fw t).trans r).cell p id,((fw t).trans r).cell y id,((fw t).trans r).cell z id,((fw t).trans r).cell A id,((fw t).trans r).cell v7 id⟩)))
     have J5:=h_ (l.out.eL ((fw t).trans r));have E5:=h_ (S.out.trans (ef.kt ((fw t).trans r)));clear r l S U af;try clear y;try clear p;try clear z;try clear v7;try clear A
     have k:=HQ.out;subst k;clear HQ;cases ac with
     | true =>
      have h:=T.out;rw[if_neg (by simp)]at h;subst h;clear T;go_wp2_with fail;go_ret2;exact⟨rfl,_,J5.out,E5.out⟩
     | false =>
      have h:=T.out;rw[if_pos rfl]at h;have j:=W.out;rw[h]at j;exact absurd (show(-2048:Int)=0 from j) (by decide)
   . rw[if_pos (.inr (.inl j))]at i
     have j:=W.out;rw[i]at j;exact absurd (show(-2048:Int)=0 from j) (by decide)
 . rw[if_pos (.inl h1)]at i
   have j:=W.out;rw[i]at j;exact absurd (show(-2048:Int)=0 from j) (by decide)
end
section
variable (G:Gk) (F:Fk) (w:World) (Z:Nat->Prop) (q:Rd × Oo)
theorem Ui(xt:Int)(P:VM × Int)(a:VM.Bt q.1.v xt P)(h:RJ (RO G F) G w Z q):Calls prog 250 #[cD G.K.mb,I_ xt] w (PJ (RO G F) G Z w (((q.1.vm P).1,q.2),(q.1.vm P).2)):=h.wU (fun X b _=>F6 G X w q.1 xt P a b)
theorem Cl(s:List UInt8)(n:Int)(S:s.length<=1000000000)(P:Rd × Int)(hO:xV q.1 s n P)(h:RJ (RO G F) G w Z q):Calls prog 274 #[cD F.fb,S_ s,I_ n] w (PJ (RO G F) G Z w ((P.1,q.2),P.2)):=by
 obtain⟨r,x⟩:=q;rcases hO with⟨j,E⟩ | ⟨j,K,T,U,W,p,D,O,Q,R,H,rfl⟩
 . have d:=h_ (yl G F w Z (r,x) s n S h)
   dsimp only at d E j;rw[E]at d;have g:=h_ h;have y:=h_ (ef.refl w Z);have b:=g.out.f0;have c:=g.out.o4;dsimp only at c;rw[j]at c;clear h j E;go_enter func274,ntmps274;go_wp2_with fail;refine ir (d.out) y ?_;intro w1 Z1 f m;try clear c;try clear b
   go_wp2_with fail;go_ret;exact⟨rfl,_,f.out,m.out⟩
 . have z:=h_ (Ny G F w Z (r,x) h)
   dsimp only at z j D;rw[D]at z;have u:=h_ fun V a (i:RJ (RO G F) G V a (K,x))=>Nz G F V a (K,x) 1001 i;have d:=h_ fun V a (i:RJ (RO G F) G V a (T,x))=>yl G F V a (T,x) s n S i;have o:=h_ fun V a (i:RJ (RO G F) G V a (U,x))=>yk G F V a (U,x) [101,120,105,116] (by decide) i;dsimp only at u d o;rw[O]at u;rw[Q]at d;rw[R]at o;obtain⟨J,I⟩:∃ J,J=K.v.x.cu:=⟨_,rfl⟩;rw[<- I]at H;have N:=h_ fun V a (i:RJ (RO G F) G V a (W,x))=>Ui G F V a (W,x) J p H i;dsimp only at N;have aa:=h_ I;have g:=h_ h;have y:=h_ (ef.refl w Z);have b:=g.out.f0;have c:=g.out.o4;have k:=g.out.o0;have l:=g.out.v0;dsimp only at c;rw[j]at c;clear h j D O Q R H I;go_enter func274,ntmps274;go_wp2_with fail;refine ir (z.out) y ?_;intro w1 Z1 f m;try clear k;try clear c;try clear b;try clear l
   have t:=h_ (QT G F _ _ _ f.out);dsimp only at t;rw[<- aa.out]at t;have b:=f.out.f0;have k:=f.out.o0;have l:=f.out.v0;go_wp2_with fail;refine t.out.mono ?_;rintro e w' ⟨rfl,rfl⟩;go_wp2_with fail;refine ir (u.out _ _ f.out) m ?_;intro w2 Z2 A L;try clear k;try clear c;try clear b;try clear l
   clear u t f m;have b:=A.out.f0;go_wp2_with fail;refine ir (d.out _ _ A.out) L ?_;intro w3 Z3 B M;try clear k;try clear c;try clear b;try clear l
   clear d A L;have b:=B.out.f0;go_wp2_with fail;refine ir (o.out _ _ B.out) M ?_;intro w4 Z4 C X;try clear k;try clear c;try clear b;try clear l
   clear o B M;have b:=C.out.f0;have k:=C.out.o0;go_wp2_with fail;refine ir (N.out _ _ C.out) X ?_;intro w5 Z5 J5 Y;try clear k;try clear c;try clear b;try clear l
   go_wp2_with fail;go_ret;exact⟨rfl,_,J5.out,Y.out⟩
theorem NJ(P:Rd × Int)(c:(Oo.cR q).2.2=0)(a:xV (Oo.cR q).1.1 [40,115,101,110,100,41] (Oo.cR q).2.1 P)(h:RJ (RO G F) G w Z q):Calls prog 168 #[cD F.fb] w (PJ (RO G F) G Z w ((P.1,(Oo.cR q).1.2),P.2)):=by
 have b:=h_ (pn G F w Z q h);generalize Oo.cR q=s at b c a |-;obtain⟨p,n,t⟩:=s;dsimp only at b c a |-;subst c;have i:=h_ fun V d (l:RJ (RO G F) G V d p)=>Cl G F V d p [40,115,101,110,100,41] n (by decide) P a l;have m:=h_ h;have e:=h_ (ef.refl w Z);clear h a;go_enter func168,ntmps168;go_wp2_with fail;refine ir (b.out) e ?_;intro u o j f
 skip
 go_wp2_with fail;refine ir (i.out _ _ j.out) f ?_;intro v r k g
 skip
 go_wp2_with fail;go_ret;exact⟨rfl,_,k.out,g.out⟩
end
end Go.Proofs.dS
