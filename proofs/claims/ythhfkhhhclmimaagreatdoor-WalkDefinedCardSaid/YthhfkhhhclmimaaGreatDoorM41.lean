/- A part of WalkG. No condition. -/
import Derived.Test.YthhfkhhhclmimaaGreatDoorM40
import Derived.Test.YthhfkhhhclmimaaGreatDoorM38
import Derived.Test.YthhfkhhhclmimaaGreatDoorM36
set_option linter.unusedVariables false
set_option linter.unusedSimpArgs false
open Go.Proofs.Tryz
set_option maxRecDepth 10000
set_option maxHeartbeats 4000000
namespace Go.Proofs.dS
open Go Go.RowKit Go.Proofs.K Go.Proofs.tI
structure Gk where
 K:Bk
 ob:Nat
 pm:Nat
 np:Nat
 mm:Nat
 nm:Nat
 fm:List UInt8->Option Value
 reset:Value
structure Dk where
 q:Nat
 oa:Option Addr
 oc:Nat
 ma:Option Addr
 mc:Nat
def Bk.all(K:Bk)(g:Nat):Prop:=K.ey g\/g=K.b\/g=K.hb\/g=K.pb\/K.X g
def Dk.own(D:Dk)(G:Gk)(g:Nat):Prop:=g=G.ob\/g=D.q\/dF D.oa=some g\/dF D.ma=some g\/g=G.pm\/g=G.mm
def Rd.oc(r:Rd)(G:Gk)(D:Dk):Oc:=⟨G.K.mb,D.q,.slice D.oa r.eE.length D.oc,.slice D.ma r.dy.length D.mc,r.comp,r.eM,r.eC,r.ea,r.cu,r.cF,r.is,G.pm,G.mm,G.reset⟩
structure Rd.Ok(r:Rd):Prop where
 src:r.src.length<=1000000
 eE:r.eE.length<=1000000
 dy:r.dy.length<=100
 FU:0<=r.eC.cM
 FV:r.eC.cM<=4194304
 BK:0<=r.ea.cM
 BL:r.ea.cM<=4194304
structure qF(w:World)(G:Gk)(D:Dk)(r:Rd):Prop where
 fv:dZ w G.K r.v
 oc:tp w G.ob (r.oc G D)
 src:jB w D.q r.src r.cM
 eE:fp w 2 1 D.oa r.eE.length D.oc (r.eE.map (Value.int .i64))
 A9:fp w 380 2 D.ma r.dy.length D.mc (Wb r.dy)
 pm:cX sk w G.pm G.np (fun s=>(r.pf s).map (Value.int .i64))
 mm:cX sk w G.mm G.nm G.fm
 ap:∀ g,D.own G g->¬ G.K.all g
 ok:r.Ok
def ej(w:World)(G:Gk)(X:Nat->Prop)(r:Rd):Prop:=∃ D,qF w G D r/\(∀ g,D.own G g\/G.K.all g->X g)/\∀ g,X g->g<w.heap.size
structure ef(w:World)(X:Nat->Prop)(w':World)(X':Nat->Prop):Prop where
 k:cq X w w'
 n:∀ g,X' g->X g\/w.heap.size<=g
theorem ef.refl(w:World)(X:Nat->Prop):ef w X w X:=⟨cq.refl _ _,fun _ h=>.inl h⟩
theorem ef.trans{w c d:World}{X a b:Nat->Prop}(h:ef w X c a)(k:ef c a d b):ef w X d b :=
 ⟨h.k.dh k.k (fun i j e=>(h.n i e).elim id (fun e=>absurd j (by omega))),fun g f=>(k.n g f).elim (fun e=>h.n g e) (fun e=>.inr (Nat.le_trans h.k.size e))⟩
theorem ef.of{w w':World}{X S:Nat->Prop}(k:cq S w w')(h:∀ g,S g->X g):ef w X w' X:=⟨k.mono (fun g _ e=>h g e),fun _ h=>.inl h⟩
theorem ef.kt{w w':World}{X:Nat->Prop}(k:K_ w w'):ef w X w' X:=ef.of k (fun _ e=>e.elim)
theorem ir{P:Program}{f:Nat}{a:Array Value}{V w i:World}{X g:Nat->Prop}{E:Ending}{A:World->(Nat->Prop)->Prop}{Q:Ending->World->Prop}(h:Calls P f a V fun e b=>e=E/\∃ d,A b d/\ef w X b d)(k:Hid (ef i g w X))(c:∀ b d,Hid (A b d)->Hid (ef i g b d)->Q E b):Calls P f a V Q :=
 h.mono fun _ b ⟨l,d,j,m⟩=>l ▸ c b d (h_ j) (h_ (k.out.trans m))
def PR(G:Gk)(X:Nat->Prop)(w:World)(q:Rd × Int)(e:Ending)(w':World):Prop:=e=.returned (I_ q.2)/\∃ X',ej w' G X' q.1/\ef w X w' X'
def Sr(G:Gk)(X:Nat->Prop)(w:World)(r:Rd)(e:Ending)(w':World):Prop:=e=.returned (.tuple #[])/\∃ X',ej w' G X' r/\ef w X w' X'
def MD{β:Type}(V:β->Value)(G:Gk)(X:Nat->Prop)(w:World)(q:Rd × β × Int)(e:Ending)(w':World):Prop:=e=.returned (.tuple #[V q.2.1,I_ q.2.2])/\∃ X',ej w' G X' q.1/\ef w X w' X'
def wR(s:List UInt8):Value:=S_ s
theorem jx{w:World}{e:TypeId}{o n c:Nat}{a:Option Addr}{p:List Value}(h:fp w e o a n c p){g:Nat}{j:Array Value}{t:TypeId}{f:Nat × Nat}(b:w.heap[g]?=some (.cells j t f))(m:(e == t)=false):dF a≠some g:=by
 intro d;rcases h.jK with⟨i,_⟩ | ⟨k,cur,i,l,_⟩
 . rw[i]at d;cases d
 . rw[i]at d
   have:k=g:=by simpa[dF] using d
   subst this;rw[l]at b;injection b with b;injection b with _ b _;subst b;simp at m
theorem P4{w:World}{e i:TypeId}{s t n q c k:Nat}{a f:Option Addr}{u x:List Value}(h:fp w e s a n c u)(o:fp w i t f q k x)(j:(e == i)=false){g:Nat}(b:dF a=some g):dF f≠some g:=by
 rcases h.jK with⟨d,_⟩ | ⟨m,cur,d,p,_⟩
 . rw[d]at b;cases b
 . rw[d]at b
   have:m=g:=by simpa[dF] using b
   subst this;intro l;exact jx o p (by simp at j |-;exact fun e=>j e.symm) l
theorem zu{w:World}{g b n:Nat}{f:List UInt8->Option Value}{a:Array Value}{t:TypeId}{c:Nat × Nat}(h:cX sk w b n f)(d:w.heap[g]?=some (.cells a t c)):g≠b:=fun e=>cX.jt h a t c (e ▸ d)
namespace qF
variable {w w':World} {G:Gk} {D:Dk} {r:Rd}
theorem ct{S:Nat->Prop}(h:qF w G D r)(k:cq S w w')(n:∀ g,D.own G g\/G.K.all g->¬ S g):qF w' G D r :=
 ⟨h.fv.ct k ⟨n _ (.inr (.inl (.inl rfl))),n _ (.inr (.inl (.inr (.inl rfl)))),n _ (.inr (.inr (.inl rfl))),n _ (.inr (.inl (.inr (.inr (.inl rfl))))),n _ (.inr (.inl (.inr (.inr (.inr (.inl rfl)))))),n _ (.inr (.inl (.inr (.inr (.inr (.inr rfl)))))),n _ (.inr (.inr (.inr (.inl rfl)))),n _ (.inr (.inr (.inr (.inr (.inl rfl)))))⟩ (fun g a=>n g (.inr (.inr (.inr (.inr (.inr a)))))),
  h.oc.ct k (n _ (.inl (.inl rfl))),h.src.ct k (n _ (.inl (.inr (.inl rfl)))),h.eE.ct k (fun g a=>n g (.inl (.inr (.inr (.inl a))))),h.A9.ct k (fun g a=>n g (.inl (.inr (.inr (.inr (.inl a)))))),h.pm.ct k (n _ (.inl (.inr (.inr (.inr (.inr (.inl rfl))))))),h.mm.ct k (n _ (.inl (.inr (.inr (.inr (.inr (.inr rfl))))))),h.ap,h.ok⟩
theorem vm{b:VM}(h:qF w G D r)(c:dZ w' G.K b)(k:cq G.K.ey w w'):qF w' G D { r with v:=b }:=by
 have n:∀ g,D.own G g->¬ G.K.ey g:=fun g a e=>h.ap g a (.inl e);exact⟨c,h.oc.ct k (n _ (.inl rfl)),h.src.ct k (n _ (.inr (.inl rfl))),h.eE.ct k (fun g a=>n g (.inr (.inr (.inl a)))),h.A9.ct k (fun g a=>n g (.inr (.inr (.inr (.inl a))))),h.pm.ct k (n _ (.inr (.inr (.inr (.inr (.inl rfl)))))),h.mm.ct k (n _ (.inr (.inr (.inr (.inr (.inr rfl)))))),h.ap,{ h.ok with }⟩
theorem S7(h:qF w G D r):D.q≠G.ob/\dF D.oa≠some G.ob/\dF D.ma≠some G.ob/\G.pm≠G.ob/\G.mm≠G.ob :=
 ⟨eQ h.src.head h.oc rfl,jx h.eE h.oc rfl,jx h.A9 h.oc rfl,fun e=>zu h.pm h.oc e.symm,fun e=>zu h.mm h.oc e.symm⟩
theorem qn(h:qF w G D r):dF D.oa≠some D.q/\dF D.ma≠some D.q/\G.pm≠D.q/\G.mm≠D.q :=
 ⟨jx h.eE h.src.head rfl,jx h.A9 h.src.head rfl,fun e=>zu h.pm h.src.head e.symm,fun e=>zu h.mm h.src.head e.symm⟩
theorem ME{S:Nat->Prop}(h:qF w G D r)(k:cq S w w')(c:∀ g,S g->D.own G g\/w.heap.size<=g):dZ w' G.K r.v:=by
 have a:=h.fv.sV;have n:∀ g,G.K.all g->g<w.heap.size->¬ S g:=fun g b a e=>(c g e).elim (fun e=>h.ap g e b) (fun e=>by omega);exact h.fv.ct k ⟨n _ (.inl (.inl rfl)) a.1,n _ (.inl (.inr (.inl rfl))) a.2.1,n _ (.inr (.inl rfl)) a.2.2.1,n _ (.inl (.inr (.inr (.inl rfl)))) a.2.2.2.1,n _ (.inl (.inr (.inr (.inr (.inl rfl))))) a.2.2.2.2.1,n _ (.inl (.inr (.inr (.inr (.inr rfl))))) a.2.2.2.2.2.1,n _ (.inr (.inr (.inl rfl))) a.2.2.2.2.2.2.1,n _ (.inr (.inr (.inr (.inl rfl)))) a.2.2.2.2.2.2.2⟩ (fun g b=>n g (.inr (.inr (.inr (.inr b)))) (h.fv.xl g b))
theorem mE{r':Rd}(h:qF w G D r)(k:cq (fun g=>g=G.ob) w w')(l:tp w' G.ob (r'.oc G D))(e:r'.v=r.v/\r'.pf=r.pf/\r'.src=r.src/\r'.cM=r.cM/\r'.eE=r.eE/\r'.dy=r.dy)(s:r'.Ok):qF w' G D r':=by
 obtain⟨b,c,d,f,i,j⟩:=e;obtain⟨m,n,o,p,q⟩:=h.S7;refine⟨?_,l,?_,?_,?_,?_,h.mm.ct k q,h.ap,s⟩
 . rw[b];exact h.ME k (fun g a=>.inl (.inl a))
 . rw[d,f];exact h.src.ct k m
 . rw[i];exact h.eE.ct k (fun g a e=>n (by rw[a,e]))
 . rw[j];exact h.A9.ct k (fun g a e=>o (by rw[a,e]))
 . rw[c];exact h.pm.ct k p
theorem rN{r':Rd}(h:qF w G D r)(k:cq (fun g=>g=G.ob) w w')(l:tp w' G.ob (r'.oc G { D with ma:=none,mc:=0 }))(e:r'.v=r.v/\r'.pf=r.pf/\r'.src=r.src/\r'.cM=r.cM/\r'.eE=r.eE/\r'.dy=[])(q:r'.Ok):qF w' G { D with ma:=none,mc:=0 } r':=by
 obtain⟨b,c,d,f,i,j⟩:=e;obtain⟨m,n,s,o,p⟩:=h.S7;refine⟨?_,l,?_,?_,?_,?_,h.mm.ct k p,?_,q⟩
 . rw[b];exact h.ME k (fun g a=>.inl (.inl a))
 . rw[d,f];exact h.src.ct k m
 . rw[i];exact h.eE.ct k (fun g a e=>n (by rw[a,e]))
 . rw[j];exact fp.nil _ _ _
 . rw[c];exact h.pm.ct k o
 . rintro g (a | a | a | a | a | a)
   . exact h.ap g (.inl a)
   . exact h.ap g (.inr (.inl a))
   . exact h.ap g (.inr (.inr (.inl a)))
   . cases a
   . exact h.ap g (.inr (.inr (.inr (.inr (.inl a)))))
   . exact h.ap g (.inr (.inr (.inr (.inr (.inr a)))))
theorem sV(h:qF w G D r):G.ob<w.heap.size/\D.q<w.heap.size/\G.pm<w.heap.size/\G.mm<w.heap.size:=⟨cA h.oc,cA h.src.head,h.pm.lt,h.mm.lt⟩
end qF
namespace ej
variable {w w':World} {G:Gk} {X:Nat->Prop} {r:Rd}
theorem ok(h:ej w G X r):r.Ok:=h.elim fun _ h=>h.1.ok
theorem fv(h:ej w G X r):dZ w G.K r.v:=h.elim fun _ h=>h.1.fv
theorem ct{S:Nat->Prop}(h:ej w G X r)(k:cq S w w')(n:∀ g,X g->¬ S g):ej w' G X r:=by
 obtain⟨D,c,b,d⟩:=h;exact⟨D,c.ct k (fun g a=>n g (b g a)),b,fun g a=>Nat.lt_of_lt_of_le (d g a) k.size⟩
theorem cL(h:ej w G X r)(k:K_ w w'):ej w' G X r:=h.ct k (fun _ _ e=>e)
theorem vm{a:VM}(h:ej w G X r)(f:dZ w' G.K a)(k:cq G.K.ey w w'):ej w' G X { r with v:=a }:=by
 obtain⟨D,b,c,d⟩:=h;exact⟨D,b.vm f k,c,fun g e=>Nat.lt_of_lt_of_le (d g e) k.size⟩
theorem uc(h:ej w G X r)(k:cq G.K.ey w w'):ef w X w' X:=by
 obtain⟨D,c,a,d⟩:=h;exact ef.of k (fun g b=>a g (.inr (.inl b)))
theorem pe(h:ej w G X r)(k:cq (fun g=>g=G.ob) w w'):ef w X w' X:=by
 obtain⟨D,c,a,d⟩:=h;exact ef.of k (fun g b=>a g (.inl (.inl b)))
theorem zw(h:ej w G X r):¬ X w.heap.size:=fun e=>h.elim fun _ h=>Nat.lt_irrefl _ (h.2.2 _ e)
theorem heap(h:ej w G X r):∃ D,w.heap[G.ob]?=some (.cells (r.oc G D).cells 59 (0,0)):=h.elim fun D h=>⟨D,h.1.oc⟩
theorem er(h:ej w G X r)(i:Nat):w.frozen? ⟨G.ob,i,none⟩=false:=h.elim fun _ h=>cB h.1.oc
theorem o0(h:ej w G X r):w.cell? ⟨G.ob,0,none⟩=some (cD G.K.mb):=h.elim fun _ h=>cp h.1.oc rfl
theorem o4(h:ej w G X r):w.cell? ⟨G.ob,4,none⟩=some (.bool r.comp):=h.elim fun _ h=>cp h.1.oc rfl
theorem o5(h:ej w G X r):w.cell? ⟨G.ob,5,none⟩=some (.bool r.eM):=h.elim fun _ h=>cp h.1.oc rfl
theorem S8(h:ej w G X r):w.cell? ⟨G.ob,10,none⟩=some (I_ r.ea.cM):=h.elim fun _ h=>cp h.1.oc rfl
theorem S9(h:ej w G X r):w.cell? ⟨G.ob,11,none⟩=some (I_ r.ea.xt):=h.elim fun _ h=>cp h.1.oc rfl
theorem H'(h:ej w G X r):w.cell? ⟨G.ob,12,none⟩=some (I_ r.ea.cP):=h.elim fun _ h=>cp h.1.oc rfl
theorem Ta(h:ej w G X r):w.cell? ⟨G.ob,13,none⟩=some (S_ r.ea.name):=h.elim fun _ h=>cp h.1.oc rfl
theorem MG(h:ej w G X r):w.cell? ⟨G.ob,14,none⟩=some (I_ r.cu):=h.elim fun _ h=>cp h.1.oc rfl
theorem II(h:ej w G X r):w.cell? ⟨G.ob,15,none⟩=some (I_ r.cF):=h.elim fun _ h=>cp h.1.oc rfl
theorem Ef(h:ej w G X r):w.cell? ⟨G.ob,16,none⟩=some (.bool r.is):=h.elim fun _ h=>cp h.1.oc rfl
theorem XC(h:ej w G X r):w.cell? ⟨G.ob,17,none⟩=some (.map (some G.pm)):=h.elim fun _ h=>cp h.1.oc rfl
theorem TW(h:ej w G X r):w.cell? ⟨G.ob,18,none⟩=some (.map (some G.mm)):=h.elim fun _ h=>cp h.1.oc rfl
theorem Wo(h:ej w G X r):w.cell? ⟨G.ob,19,none⟩=some G.reset:=h.elim fun _ h=>cp h.1.oc rfl
theorem o3(h:ej w G X r):∃ a c,w.cell? ⟨G.ob,3,none⟩=some (.slice a r.dy.length c):=h.elim fun D h=>⟨D.ma,D.mc,cp h.1.oc rfl⟩
theorem XD(h:ej w G X r):∃ a c,Wc w G.ob 3 a c r.dy:=h.elim fun D h=>⟨D.ma,D.mc,cp h.1.oc rfl,cB h.1.oc,h.1.A9,h.1.S7.2.2.1,cA h.1.oc⟩
theorem v0(h:ej w G X r):w.cell? ⟨G.K.mb,0,none⟩=some (cD G.K.s):=h.fv.m0
theorem v1(h:ej w G X r):w.cell? ⟨G.K.mb,1,none⟩=some (cD G.K.db):=h.fv.m1
theorem v2(h:ej w G X r):w.cell? ⟨G.K.mb,2,none⟩=some (cD G.K.rb):=h.fv.m2
theorem v8(h:ej w G X r):w.cell? ⟨G.K.mb,8,none⟩=some (I_ r.v.cF):=h.fv.m8
theorem Ss(h:ej w G X r):w.cell? ⟨G.K.mb,10,none⟩=some (I_ r.v.cI):=h.fv.m10
theorem UR(h:ej w G X r):w.cell? ⟨G.K.mb,13,none⟩=some (.bool r.v.dL):=h.fv.m13
theorem vs(h:ej w G X r):w.cell? ⟨G.K.s,0,none⟩=some (cD G.K.b):=h.fv.ms
theorem sV(h:ej w G X r):G.ob<w.heap.size/\G.K.mb<w.heap.size/\G.K.s<w.heap.size/\G.K.b<w.heap.size/\G.K.bb<w.heap.size/\G.K.db<w.heap.size/\G.K.rb<w.heap.size:=by
 have a:=h.fv.sV;exact h.elim fun _ h=>⟨h.1.sV.1,a.1,a.2.1,a.2.2.1,a.2.2.2.1,a.2.2.2.2.1,a.2.2.2.2.2.1⟩
theorem mE{r':Rd}(h:ej w G X r)(k:cq (fun g=>g=G.ob) w w')(d:∀ D,w.heap[G.ob]?=some (.cells (r.oc G D).cells 59 (0,0))->tp w' G.ob (r'.oc G D))(e:r'.v=r.v/\r'.pf=r.pf/\r'.src=r.src/\r'.cM=r.cM/\r'.eE=r.eE/\r'.dy=r.dy)(i:r'.Ok):ej w' G X r':=by
 obtain⟨D,a,b,c⟩:=h;exact⟨D,a.mE k (d D a.oc) e i,b,fun g f=>Nat.lt_of_lt_of_le (c g f) k.size⟩
theorem rN{r':Rd}(h:ej w G X r)(k:cq (fun g=>g=G.ob) w w')(f:∀ D,w.heap[G.ob]?=some (.cells (r.oc G D).cells 59 (0,0))->tp w' G.ob (r'.oc G { D with ma:=none,mc:=0 }))(e:r'.v=r.v/\r'.pf=r.pf/\r'.src=r.src/\r'.cM=r.cM/\r'.eE=r.eE/\r'.dy=[])(i:r'.Ok):ej w' G X r':=by
 obtain⟨D,c,b,d⟩:=h;refine⟨_,c.rN k (f D c.oc) e i,?_,fun g a=>Nat.lt_of_lt_of_le (d g a) k.size⟩;rintro g ((a | a | a | a | a | a) | a)
 . exact b g (.inl (.inl a))
 . exact b g (.inl (.inr (.inl a)))
 . exact b g (.inl (.inr (.inr (.inl a))))
 . cases a
 . exact b g (.inl (.inr (.inr (.inr (.inr (.inl a))))))
 . exact b g (.inl (.inr (.inr (.inr (.inr (.inr a))))))
 . exact b g (.inr a)
theorem cT(h:ej w G X r):∃ q,w.cell? ⟨G.ob,1,none⟩=some (cD q)/\jB w q r.src r.cM/\X q/\∀ w' n,jB w' q r.src n->cq (fun g=>g=q) w w'->ej w' G X { r with cM:=n }:=by
 obtain⟨D,a,c,d⟩:=h;refine⟨D.q,cp a.oc rfl,a.src,c _ (.inl (.inr (.inl rfl))),fun w' n f k=>⟨D,?_,c,fun g b=>Nat.lt_of_lt_of_le (d g b) k.size⟩⟩;obtain⟨i,j,l,m⟩:=a.qn;exact⟨a.ME k (fun g b=>.inl (.inr (.inl b))),a.oc.ct k (fun e=>a.S7.1 e.symm),f,a.eE.ct k (fun g b e=>i (by rw[b,e])),a.A9.ct k (fun g b e=>j (by rw[b,e])),a.pm.ct k l,a.mm.ct k m,a.ap,{ a.ok with }⟩
theorem TX{q:Nat}(a:X q)(k:cq (fun g=>g=q) w w'):ef w X w' X:=ef.of k (fun g e=>by rw[e];exact a)
theorem iG(h:ej w G X r):∃ a c,w.cell? ⟨G.ob,2,none⟩=some (.slice a r.eE.length c)/\∀ w',K_ w w'->fp w' 2 1 a r.eE.length c (r.eE.map (Value.int .i64)):=by
 obtain⟨D,b,d,e⟩:=h;exact⟨D.oa,D.oc,cp b.oc rfl,fun w' k=>b.eE.ct k (fun _ _=>id)⟩
end ej
theorem dZ.Su{w:World}{K:Bk}{v:VM}(h:dZ w K v){g:Nat}(a:K.all g):g<w.heap.size:=by
 obtain⟨b,c,d,e,f,i,j,k⟩:=h.sV;rcases a with (a | a | a | a | a) | a | a | a | a
 . omega
 . omega
 . omega
 . omega
 . omega
 . omega
 . omega
 . omega
 . exact h.xl g a
theorem ej.MH{w i:World}{G:Gk}{X:Nat->Prop}{r:Rd}{q:Nat}{t:List UInt8}(h:ej w G X r)(k:K_ w i)(z:w.heap.size<=q)(j:jB i q t 0)(n:t.length<=1000000) :
 ej (i.setCell ⟨G.ob,1,none⟩ (cD q)) G (fun g=>X g\/g=q) (r.again t)/\ef w X (i.setCell ⟨G.ob,1,none⟩ (cD q)) (fun g=>X g\/g=q):=by
 obtain⟨D,b,f,l⟩:=h;have d:=b.ct k (fun _ _ e=>e);have c:cq (fun g=>g=G.ob) i (i.setCell ⟨G.ob,1,none⟩ (cD q)):=cq.setCell _ _ _ (fun _=>rfl);obtain⟨A,o,p,s,u⟩:=d.S7;have y:=b.sV.1;have m:q≠G.ob:=by omega
 have x:=cA j.head;refine⟨⟨{ D with q:=q },⟨d.ME c (fun g a=>.inl (.inl a)),cz d.oc _,j.ct c m,d.eE.ct c (fun g a e=>o (by rw[a,e])),d.A9.ct c (fun g a e=>p (by rw[a,e])),d.pm.ct c s,d.mm.ct c u,?_,{ b.ok with src:=n }⟩,?_,?_⟩,?_⟩
 . rintro g (a | a | a | a | a | a)
   . exact b.ap g (.inl a)
   . intro e;have:=b.fv.Su e;have a:g=q:=a;omega
   . exact b.ap g (.inr (.inr (.inl a)))
   . exact b.ap g (.inr (.inr (.inr (.inl a))))
   . exact b.ap g (.inr (.inr (.inr (.inr (.inl a)))))
   . exact b.ap g (.inr (.inr (.inr (.inr (.inr a)))))
 . rintro g ((a | a | a | a | a | a) | a)
   . exact .inl (f g (.inl (.inl a)))
   . exact .inr a
   . exact .inl (f g (.inl (.inr (.inr (.inl a)))))
   . exact .inl (f g (.inl (.inr (.inr (.inr (.inl a))))))
   . exact .inl (f g (.inl (.inr (.inr (.inr (.inr (.inl a)))))))
   . exact .inl (f g (.inl (.inr (.inr (.inr (.inr (.inr a)))))))
   . exact .inl (f g (.inr a))
 . rintro g (a | a)
   . exact Nat.lt_of_lt_of_le (l g a) (Nat.le_trans k.size c.size)
   . have:=c.size;have a:g=q:=a;omega
 . refine⟨(k.mono (fun _ _ e=>e.elim)).trans (c.mono (fun g _ e=>?_)),fun g a=>a.imp id (fun e=>by have e:g=q:=e;omega)⟩
   rw[e];exact f _ (.inl (.inl rfl))
theorem ej.MI{w d c:World}{G:Gk}{X a:Nat->Prop}{r':Rd}{o:Obj}(j:¬ X w.heap.size)(h:ej d G a r')(E:ef (w.alloc o) X d a)(k:cq (fun g=>g=w.heap.size) d c):∃ f,ej c G f r'/\ef w X c f:=by
 have m:(w.alloc o).heap.size=w.heap.size+1:=World.size_alloc _ _;refine⟨a,h.ct k (fun g b e=>?_),⟨((cq.alloc _ w o).trans E.k).dh k (fun i l e=>by have e:i=w.heap.size:=e;omega),fun g b=>(E.n g b).imp id (fun e=>by omega)⟩⟩;have e:g=w.heap.size:=e;subst e;exact(E.n _ b).elim j (fun e=>by omega)
theorem ej.box{w a:World}{X b:Nat->Prop}{o:Obj}(c:¬ X w.heap.size)(E:ef (w.alloc o) X a b):a.heap[w.heap.size]?=some o:=E.k.heap (cx w o) c
theorem Sp.pI(k:Nat)(s:Sp):(Sp.fD k s).1.mem.size=s.mem.size:=by
 induction k generalizing s with
 | zero=>rfl
 | succ k a =>
  unfold Sp.fD;split
  . rfl
  . split
    . exact Sp.pq _ _
    . rw[a];exact Sp.pq _ _
section
variable (K:Bk) (w:World) (v:VM)
theorem MJ(n:Int)(h:dZ w K v):Calls prog 83 #[cD K.s,I_ n] w (PV K w (v.fB (v.x.cN n))) :=
 (eP w K.s K.b K.bb v.x n h.vm.sp).mono fun _ _ ⟨a,c,k⟩=>⟨a,h.qt k c (Sp.gL _ _),qu K k⟩
theorem MK(h:dZ w K v):Calls prog 147 #[cD K.s] w (PV K w (v.fB v.x.align)) :=
 (lC w K.s K.b K.bb v.x h.vm.sp).mono fun _ _ ⟨a,c,k⟩=>⟨a,h.qt k c (Sp.pI _ _),qu K k⟩
theorem P5(n:Int)(h:dZ w K v):Calls prog 84 #[cD K.s,I_ n] w (PV K w (v.fB (v.x.fN n))) :=
 (qR w K.s K.b K.bb v.x n h.vm.sp).mono fun _ _ ⟨a,c,k⟩=>⟨a,h.qt k c (congrArg Mem.size (Sp.kR _ _)),qu K k⟩
theorem zx(h:dZ w K v):Calls prog 35 #[cD K.s] w fun e w'=>e=.returned (I_ v.x.cu)/\w=w':=eJ w K.s K.b K.bb v.x h.vm.sp
theorem P6(d:Wd)(a:Int)(c:0<=d.cM)(e:d.cM<=4194304)(f:0<=a)(g:a<=255)(h:dZ w K v):Calls prog 37 #[cD K.b,d.val,I_ a] w (PV K w (v.mem (v.x.mem.iZ d.cM a).1,(v.x.mem.iZ d.cM a).2)) :=
 (H6 w K.b K.bb v.x.mem d a h.vm.sp.mem c e f g).mono fun _ _ ⟨i,j,k⟩=>⟨i,h.dI k j (by unfold Mem.iZ;(repeat' split) <;> first | rfl | exact Mem.cQ _ _ _),mf K k⟩
theorem FW(a:List UInt8)(c:Option Addr)(d:Nat)(ls:List Int)(i:a.length<=4194304)(g:fp w 2 1 c ls.length d (ls.map (Value.int .i64)))(f:ls.length<=1000000)(h:dZ w K v) :
 Calls prog 42 #[cD K.b,S_ a,.slice c ls.length d] w fun e w'=>e=.returned (ot (v.x.mem.find a ls))/\K_ w w' :=
 H3 w K.b K.bb v.x.mem a c ls.length d ls h.vm.sp.mem i g rfl f
theorem nj(r:Sp × Int)(f:Sp->Sp × Int)(n:Nat)(h:r.1.mem.size=n)(a:∀ x:Sp,x.mem.size=n->(f x).1.mem.size=n):(Sp.andThen r f).1.mem.size=n:=by
 unfold Sp.andThen;split
 . exact h
 . exact a _ h
theorem BM(x:Sp)(b:Int)(f:List UInt8)(d c:Int):(x.EI b f d c).1.mem.size=x.mem.size:=by
 have e:(x.wY b).1.mem.size=x.mem.size:=by unfold Sp.wY;split;exact Sp.pI _ _;rfl
 refine nj _ _ _ (nj _ _ _ (nj _ _ _ (nj _ _ _ (nj _ _ _ (nj _ _ _ e ?_) ?_) ?_) ?_) ?_) ?_
 . exact fun y a=>(Sp.gL _ _).trans a
 . exact fun y a=>(Sp.gL _ _).trans a
 . exact fun y a=>(Sp.Cp _ _).trans a
 . exact fun y a=>(Sp.pI _ _).trans a
 . exact fun y a=>(Sp.gL _ _).trans a
 . exact fun y a=>(Mem.cQ _ _ _).trans a
theorem tw(x:Sp)(c:Int)(d:List UInt8)(b a:Int):(x.cO c d b a).1.mem.size=x.mem.size:=by
 unfold Sp.cO;split
 . rfl
 . split
   . rw[Sp.kR];exact BM x c d b a
   . exact BM x c d b a
def ML(K:Bk)(w:World)(v:VM)(q:Sp × Wd × Int)(e:Ending)(w':World):Prop:=e=.returned (.tuple #[q.2.1.val,I_ q.2.2])/\dZ w' K { v with x:=q.1 }/\cq K.ey w w'
theorem Eg(l:Int)(d:List UInt8)(a c:Int)(e:0<=a)(f:a<=255)(i:(v.x.cO l d a c).2.2=0)(h:dZ w K v):Calls prog 82 #[cD K.s,I_ l,S_ d,I_ a,I_ c] w (ML K w v (v.x.cO l d a c)) :=
 (nQ w K.s K.b K.bb v.x l d a c h.vm.sp e f i).mono fun _ _ ⟨g,j,k⟩=>⟨g,h.qt k j (tw _ _ _ _ _),qu K k⟩
end
theorem MN(w:World):(zeroValue 2).run prog w=.ok (I_ 0) w:=by kernel_rfl
section
variable (G:Gk) (X:Nat->Prop) (w:World) (r:Rd)
theorem ej.Vo{G:Gk}{X:Nat->Prop}{w:World}{r:Rd}(h:ej w G X r):cX sk w G.pm G.np (fun s=>(r.pf s).map (Value.int .i64)):=h.elim fun _ h=>h.1.pm
theorem TY(s:List UInt8)(g:s.length<=1000000000)(h:ej w G X r):Calls prog 44 #[cD G.ob,S_ s] w fun e w'=>e=.returned (I_ (r.xt s))/\w=w':=by
 have b:=h_ h.Vo;have a:((r.pf s).map (Value.int .i64)).getD (I_ 0)=I_ (r.xt s):=by unfold Rd.xt;cases r.pf s <;> rfl
 have c:=h_ a;have d:=h_ h;have f:=h_ (ef.refl w X);have i:=d.out.XC;clear h a;go_enter func44,ntmps44
 go_wp2_with (first
  | (at_lookup;refine yN sk _ rfl _ _ 56 rfl _ underlying56 _ (MN _) G.pm G.np _ rfl b.out s (show s.length<=maxLen by unfold maxLen;omega) rfl _ rfl ?_;rw[c.out]))
 go_ret;exact⟨rfl,rfl⟩
theorem pg(n:Int)(h:ej w G X r):Calls prog 83 #[cD G.K.s,I_ n] w (PR G X w (r.cN n)) :=
 (MJ G.K w r.v n h.fv).mono fun _ _ ⟨a,b,k⟩=>⟨a,X,h.vm b k,h.uc k⟩
theorem zy(h:ej w G X r):∃ q,w.cell? ⟨G.ob,1,none⟩=some (cD q)/\Calls prog 76 #[cD q] w fun e w'=>e=.returned (S_ r.dt)/\∃ a,ej w' G a r.next/\ef w X w' a:=by
 obtain⟨q,d,g,i,f⟩:=h.cT;exact⟨q,d,(Lq w q r.src r.cM g).mono fun _ _ ⟨c,b,k⟩=>⟨c,X,f _ _ b k,ej.TX i k⟩⟩
theorem ud(h:ej w G X r):Calls prog 25 #[cD G.ob] w (MD wR G X w r.name):=by
 obtain⟨q,j,l⟩:=zy G X w r h;have f:=h_ l;have a:r.name=(r.next,if Rd.gH r.dt then([],-16)else(r.dt,0)):=rfl;generalize r.name=Q at a |-;have p:=h_ h;have i:=h_ (ef.refl w X);generalize r.dt=s at f a;clear h l;by_cases b:s=[]
 . subst b
   have d:=h_ (show Q=(r.next,[],-16) from a);clear a;go_enter func25,ntmps25;go_wp2_with fail;refine ir (f.out) i ?_;intro m k e c;try clear j
   go_wp2_with fail;go_ret2;rw[d.out];exact⟨rfl,_,e.out,c.out⟩
 . by_cases g:31<s.length
   . have d:=h_ (show Q=(r.next,[],-16) by rw[a];unfold Rd.gH;simp[g])
     have n:s.isEmpty=false:=by cases s with | nil=>exact absurd rfl b | cons=>rfl
     have o:decide ((31:Int)<(s.length:Int))=true:=decide_eq_true (by omega);clear a b g;go_enter func25,ntmps25;go_wp2_with fail;refine ir (f.out) i ?_;intro m k e c;try clear j
     go_wp2_with fail;go_ret2;rw[d.out];exact⟨rfl,_,e.out,c.out⟩
   . have d:=h_ (show Q=(r.next,s,0) by rw[a];unfold Rd.gH;simp[b,g])
     have n:s.isEmpty=false:=by cases s with | nil=>exact absurd rfl b | cons=>rfl
     have o:decide ((31:Int)<(s.length:Int))=false:=decide_eq_false (by omega);clear a b g;go_enter func25,ntmps25;go_wp2_with fail;refine ir (f.out) i ?_;intro m k e c;try clear j
     go_wp2_with fail;go_ret2;rw[d.out];exact⟨rfl,_,e.out,c.out⟩
theorem MO(t:List UInt8)(i:t.length<=1000000)(h:ej w G X r):Calls prog 26 #[cD G.ob,S_ t] w (Sr G X w (r.again t)):=by
 have j:=h_ (yV w t (by omega));have f:=h_ h;have l:=h_ (ef.refl w X);have b:∃ q,C_ w G.ob 1=some (cD q):=h.elim fun D h=>⟨D.q,cp h.1.oc rfl⟩;obtain⟨n,b⟩:=b;have k:=h_ i;clear h i;go_enter func26,ntmps26;go_wp2_with fail;refine j.out.mono ?_;rintro e p ⟨rfl,c,a⟩;have o:=a.cell b id;obtain⟨q,g⟩:∃ q,q=w.heap.size:=⟨_,rfl⟩;rw[<- g]at c |-;have m:=(f.out.cL a).er 1;have d:=h_ (f.out.MH a (by omega) c k.out);clear c a b g;go_wp2_with fail;go_end0;exact⟨rfl,_,d.out.1,d.out.2⟩
end
section
variable (G:Gk) (X:Nat->Prop) (w:World) (r:Rd)
theorem Rd.Eh(l:List Int)(r:Rd)(n:Int)(h:(r.cN n).2≠0):Rd.eR (n :: l) r=r.cN n:=by
 show Rd.bind _ _=_;unfold Rd.bind;rw[if_pos h]
theorem Rd.IJ(l:List Int)(r:Rd)(n:Int)(h:(r.cN n).2=0):Rd.eR (n :: l) r=Rd.eR l (r.cN n).1:=by
 show Rd.bind _ _=_;unfold Rd.bind;rw[if_neg (by simpa using h)]
def Rest(l:List Int)(q Q:Rd × Int):Prop:=if q.2=0 then Rd.eR l q.1=Q else q=Q
theorem Rest.TT{l:List Int}{q Q:Rd × Int}(h:Rest l q Q)(e:q.2≠0):q=Q:=by unfold Rest at h;rwa [if_neg e]at h
theorem Rest.ok{l:List Int}{q Q:Rd × Int}(h:Rest l q Q)(e:q.2=0):Rd.eR l q.1=Q:=by unfold Rest at h;rwa [if_pos e]at h
theorem Rest.step{n:Int}{l:List Int}{r:Rd}{Q:Rd × Int}(h:Rd.eR (n :: l) r=Q):Rest l (r.cN n) Q:=by
 unfold Rest;split
 . rename_i e;rw[<- h,Rd.IJ l r n e]
 . rename_i e;rw[<- h,Rd.Eh l r n e]
theorem Rest.done{q Q:Rd × Int}(h:Rest [] q Q):q=Q:=by
 unfold Rest at h;split at h
 . rename_i e;rw[<- h];show q=(q.1,0);rw[<- e]
 . exact h
theorem qG(s:List UInt8)(a:Option Addr)(c:Nat)(l:List Int)(hs:s.length<=1000000000)(J:iI w a l)(hl:l.length<=100000)(O:∀ g,dF a=some g->¬ X g/\g<w.heap.size)(h:ej w G X r) :
 Calls prog 33 #[cD G.ob,S_ s,.slice a l.length c] w (PR G X w (r.di s l)):=by
 have I:=h_ fun V (j:ej V G X r)=>TY G X V r s hs j;obtain⟨x,A⟩:∃ x,x=r.xt s:=⟨_,rfl⟩;have E:=h_ fun V (j:ej V G X r)=>pg G X V r x j;have aa:=h_ fun V Y u n (j:ej V G Y u)=>pg G Y V u n j;have z:Rd.eR (x :: l) r=r.di s l:=by rw[A];rfl
 generalize r.di s l=Q at z |-;rw[<- A]at I;have H:=h_ (Rest.step z);have v:=h_ h;have E0:=h_ (ef.refl w X);have C:=v.out.o0;have D:=v.out.v0;have HA:=h_ J;have ab:=h_ O;generalize r.cN x=q1 at E H;obtain⟨r1,e1⟩:=q1;clear h z A J O;go_enter func33,ntmps33;go_wp2_with fail
 go_region_held3 (fun w'=>C_ w' G.ob 0=some (cD G.K.mb)/\C_ w' G.K.mb 0=some (cD G.K.s))
  (first | go_keep | exact⟨T,U⟩)
  (first
    | (go_at_call 44;refine(I.out w.drew (v.out.cL (cq.drew _ _))).mono ?_;rintro e w9 ⟨rfl,rfl⟩;dsimp only)
    | (go_at_call 83;refine(E.out w.drew (v.out.cL (cq.drew _ _))).mono ?_;rintro e w1 ⟨rfl,X1,y,S⟩;dsimp only;have T:=y.o0;have U:=y.v0))
 have R1:=h_ y;have W:=h_ ((ef.kt (fw w)).trans S);clear T U y S C D;go_wp2_with fail
 go_loopw [7,23] (fun ev B wr=>∃ (i:Nat) (q:Rd × Int) (Y:Nat->Prop),ev=I_ q.2/\B=I_ i/\i<=l.length/\ej wr G Y q.1/\ef w X wr Y/\Rest (l.drop i) q Q) (fun _ B _=>l.length-(intOf B).toNat)
 case atStart=>exact⟨0,(r1,e1),X1,rfl,rfl,Nat.zero_le _,R1.out,W.out,H.out⟩
 case round =>
  obtain⟨i,⟨u,e⟩,Y,rfl,rfl,hi,P,M,R⟩:=hrel;have f:=h_ P;have p:=h_ M;have d:=h_ R;clear P M R;by_cases N:i<l.length
  . obtain⟨g,o,rfl,hc⟩:=HA.out.ct p.out.k (fun g hg=>(ab.out g hg).1) i N
    have L:l.drop i=l[i] :: l.drop (i+1):=List.drop_eq_getElem_cons N;have b:=d.out;rw[L]at b;replace d:=h_ b;generalize l[i]=n at hc d;have ad:(i:Int)<l.length:=by omega
    clear L b;by_cases m:e=0
    . subst m
      have t:=h_ (Rest.step (d.out.ok rfl));have F:=h_ (aa.out wr Y u n f.out);generalize u.cN n=q at t F;obtain⟨u3,e3⟩:=q;have C:=f.out.o0;have D:=f.out.v0;go_wp2_with fail;refine ir (F.out) p ?_;intro w3 X3 R3 Z;try clear C;try clear D
      go_wp2_with fail;go_roundw;case rel=>exact⟨i+1,(u3,e3),X3,rfl,by go_num,by omega,R3.out,Z.out,t.out⟩
      case measure=>simp[intOf];omega
    . have d1:(e == 0)=false:=by simp[m]
      have HB:=h_ (d.out.TT m);have t:Hid (Rest (l.drop (i+1)) (u,e) Q):=h_ (by unfold Rest;rw[if_neg m];exact HB.out);clear m;go_wp2_with fail;go_roundw;case rel=>exact⟨i+1,(u,e),Y,rfl,by go_num,by omega,f.out,p.out,t.out⟩
      case measure=>simp[intOf];omega
  . have ac:i=l.length:=by omega
    subst ac;have b:=d.out;rw[List.drop_length]at b;have HF:=h_ b.done;have ad:¬ ((l.length:Int)<l.length):=by omega
    clear b;go_wp2_with fail;go_ret;rw[<- HF.out];exact⟨rfl,_,f.out,p.out⟩
theorem Rd.Ei(l m:List Int)(r:Rd):Rd.eR (l++m) r=Rd.bind (Rd.eR l r) (Rd.eR m):=by
 induction l generalizing r with
 | nil=>rfl
 | cons n l a =>
  show Rd.bind _ _=Rd.bind (Rd.bind _ _) _;unfold Rd.bind;by_cases h:(r.cN n).2≠0
  . rw[if_pos h,if_pos h,if_pos h]
  . rw[if_neg h,if_neg h];exact a _
theorem Rd.IK(l:List Int)(r:Rd):(Rd.eR l r).1.pf=r.pf:=by
 induction l generalizing r with
 | nil=>rfl
 | cons n l a =>
  show(Rd.bind _ _).1.pf=_;unfold Rd.bind;split
  . rfl
  . rw[a];rfl
theorem P7(a:Option Addr)(c:Nat)(l:List Int)(j:iI w a l)(o:l.length<=100000)(i:∀ g,dF a=some g->¬ X g)(h:ej w G X r):Calls prog 80 #[cD G.K.db,.slice a l.length c] w (PR G X w (r.push l)):=by
 have k:∀ g,dF a=some g->g≠G.K.db/\g≠G.K.bb:=fun g f=>by
  obtain⟨D,m,d,n⟩:=h;exact⟨fun e=>i g f (d g (.inr (.inl (.inr (.inr (.inr (.inl e))))))),fun e=>i g f (d g (.inr (.inl (.inr (.inr (.inl e))))))⟩
 exact(FD G.K w r.v h.fv a c l j (by omega) k).mono fun _ _ b=>⟨b.pv.1,X,h.vm b.pv.2.1 b.pv.2.2,h.uc b.pv.2.2⟩
theorem tx(s:List UInt8)(n:Int)(i:s.length<=1000000000)(h:ej w G X r) :
 Calls prog 33 #[cD G.ob,S_ s,.slice (some ⟨w.heap.size,0,none⟩) 1 1] (w.alloc (.cells #[I_ n] 2)) (PR G X w (r.di s [n])):=by
 have a:=dR w (.cells #[I_ n] 2);refine(qG G X _ r s _ 1 [n] i (vw w n _) (by simp) (fun g f=>?_) (h.cL a)).mono ?_
 . cases f
   exact⟨h.zw,by show w.heap.size<_;rw[World.size_alloc];omega⟩
 . rintro e w' ⟨rfl,b,c,d⟩
   exact⟨rfl,b,c,(ef.kt a).trans d⟩
theorem tA(s:List UInt8)(c:s.length<=1000000000)(h:ej w G X r) :
 Calls prog 33 #[cD G.ob,S_ s,.slice none 0 0] w (PR G X w (r.di s [])) :=
 qG G X w r s none 0 [] c (fun i b=>absurd b (by simp)) (by decide) (fun g a=>by cases a) h
theorem Ej(a:Option Addr)(c:Nat)(l:List Int)(s:iI w a l)(hl:l.length<=100000)(x:∀ g,dF a=some g->¬ X g)(h:ej w G X r) :
 Calls prog 28 #[cD G.ob,.slice a l.length c] w (PR G X w (r.gX l)):=by
 have d:r.gX l=if r.comp then Rd.eR (l.flatMap fun n=>[r.xt [108,105,116],n]) r else r.push l:=rfl;generalize r.gX l=Q at d |-;cases t:r.comp with
 | false =>
  rw[t,if_neg (by simp)]at d;have K:=h_ (P7 G X w r a c l s hl x h);rw[<- d]at K;have j:=h_ h;have y:=h_ (ef.refl w X);have H:=j.out.o0;have e:=j.out.o4;have J:=j.out.v1;rw[t]at e;clear h s x d;go_enter func28,ntmps28;go_wp2_with fail;refine ir (K.out) y ?_;intro w1 X1 R1 W;try clear H;try clear e;try clear J
  go_wp2_with fail;go_ret;exact⟨rfl,_,R1.out,W.out⟩
 | true =>
  rw[t,if_pos rfl]at d;have HQ:=h_ d;have Z:=h_ s;have aa:=h_ x;have j:=h_ h;have y:=h_ (ef.refl w X);have e:=j.out.o4;rw[t]at e;clear h s x d;go_enter func28,ntmps28;go_wp2_with fail
  go_loopw [24] (fun F wr=>∃ (i:Nat) (u:Rd) (Y:Nat->Prop),F=I_ i/\i<=l.length/\ej wr G Y u/\ef w X wr Y/\u.pf=r.pf/\Q=Rd.eR ((l.drop i).flatMap fun n=>[r.xt [108,105,116],n]) u) (fun F _=>l.length-(intOf F).toNat)
  case atStart=>exact⟨0,r,X,rfl,Nat.zero_le _,j.out,y.out,rfl,HQ.out⟩
  case round =>
   obtain⟨i,u,Y,rfl,hi,T,P,S,U⟩:=hrel;have M:=h_ T;have p:=h_ P;have f:=h_ U;have L:=h_ S;clear T P U S e;by_cases R:i<l.length
   . obtain⟨g,o,rfl,ac⟩:=Z.out.ct p.out.k (fun g hg=>aa.out g hg) i R
     have O:l.drop i=l[i] :: l.drop (i+1):=List.drop_eq_getElem_cons R;have b:=f.out;rw[O,List.flatMap_cons,Rd.Ei]at b;generalize l[i]=n at ac b;have V:r.xt [108,105,116]=u.xt [108,105,116]:=by unfold Rd.xt;rw[L.out]
     have D:Rd.eR [r.xt [108,105,116],n] u=u.di [108,105,116] [n]:=by rw[V];rfl
     rw[D]at b;have A:=h_ (tx G Y wr u [108,105,116] n (by decide) M.out);have E:(u.di [108,105,116] [n]).1.pf=r.pf:=by rw[<- D,Rd.IK,L.out]
     generalize u.di [108,105,116] [n]=q at b A E;obtain⟨I,C⟩:=q;have ae:(i:Int)<l.length:=by omega
     have ab:=h_ E;clear O V D E;by_cases v:C=0
     . subst v
       have m:Q=Rd.eR ((l.drop (i+1)).flatMap fun n=>[r.xt [108,105,116],n]) I:=by
        rw[b];unfold Rd.bind;rw[if_neg (by simp)]
       replace f:=h_ m;clear b m;go_wp2_with fail;refine ir (A.out) p ?_;intro w3 N B z;try clear H;try clear e;try clear J
       go_wp2_with fail;go_roundw;case rel=>exact⟨i+1,I,N,by go_num,by omega,B.out,z.out,ab.out,f.out⟩
       case measure=>simp[intOf];omega
     . have m:Q=(I,C):=by rw[b];unfold Rd.bind;rw[if_pos (by simpa using v)]
       replace f:=h_ m;have d1:(C == 0)=false:=by simp[v]
       clear b m v;go_wp2_with fail;refine ir (A.out) p ?_;intro w3 N B z;try clear H;try clear e;try clear J
       go_wp2_with fail;go_ret;rw[f.out];exact⟨rfl,_,B.out,z.out⟩
   . have ad:i=l.length:=by omega
     subst ad;have b:=f.out;rw[List.drop_length]at b;have HF:=h_ (show Q=(u,0) from b);have ae:¬ ((l.length:Int)<l.length):=by omega
     clear b;go_wp2_with fail;go_ret;rw[HF.out];exact⟨rfl,_,M.out,p.out⟩
theorem tB(n:Int)(h:ej w G X r):Calls prog 28 #[cD G.ob,.slice (some ⟨w.heap.size,0,none⟩) 1 1] (w.alloc (.cells #[I_ n] 2)) (PR G X w (r.gX [n])):=by
 have a:=dR w (.cells #[I_ n] 2);refine(Ej G X _ r _ 1 [n] (vw w n _) (by simp) (fun g f=>?_) (h.cL a)).mono ?_
 . cases f;exact h.zw
 . rintro e w' ⟨rfl,b,c,d⟩
   exact⟨rfl,b,c,(ef.kt a).trans d⟩
end
section
variable (G:Gk) (X:Nat->Prop) (w:World) (r:Rd)
theorem fU(w:World)(g i j k:Nat)(a b c:Value):cq (fun h=>h=g) w (((w.setCell ⟨g,i,none⟩ a).setCell ⟨g,j,none⟩ b).setCell ⟨g,k,none⟩ c) :=
 ((cq.setCell (S:=fun h=>h=g) w ⟨g,i,none⟩ a (fun _=>rfl)).trans (cq.setCell _ ⟨g,j,none⟩ b (fun _=>rfl))).trans (cq.setCell _ ⟨g,k,none⟩ c (fun _=>rfl))
theorem ue(h:ej w G X r):Calls prog 38 #[cD G.ob] w (Sr G X w r.oB):=by
 have b:=fU w G.ob 14 15 16 (I_ 0) (I_ 0) (.bool false);have d:=h_ (h.mE (r':=r.oB) b (fun D e=>cz (cz (cz e _) _) _) ⟨rfl,rfl,rfl,rfl,rfl,rfl⟩ { h.ok with });have c:=h_ (h.pe b);have a:=h_ h;have f:=h_ (ef.refl w X);have k:=a.out.MG;have l:=a.out.II;have m:=a.out.Ef;have g:=h.er 14;have i:=h.er 15;have j:=h.er 16;clear h b;go_enter func38,ntmps38;go_wp2_with fail;go_end0;exact⟨rfl,_,d.out,c.out⟩
theorem BN(m:Bool)(h:ej w G X r):Calls prog 32 #[cD G.ob,.bool m] w (Sr G X w (r.start m)):=by
 have a:=fU w G.ob 4 5 3 (.bool true) (.bool m) (.slice none 0 0);have d:=h_ (h.rN (r':=r.start m) a (fun D e=>cz (cz (cz e _) _) _) ⟨rfl,rfl,rfl,rfl,rfl,rfl⟩ { h.ok with dy:=Nat.zero_le _ });have c:=h_ (h.pe a);have b:=h_ h;have f:=h_ (ef.refl w X);have n:=b.out.o4;have o:=b.out.o5;obtain⟨a3,g,l⟩:=h.o3;have j:=h.er 4;have k:=h.er 5;have i:=h.er 3;clear h a;go_enter func32,ntmps32;go_wp2_with fail;go_end0;exact⟨rfl,_,d.out,c.out⟩
theorem FX(h:ej w G X r):Calls prog 36 #[cD G.ob] w (PR G X w r.stop):=by
 have a:r.stop=if r.comp=false\/r.dy≠[] then(r,-22)else({ r with comp:=false },0):=rfl;generalize r.stop=Q at a |-;cases b:r.comp with
 | false =>
  rw[if_pos (.inl b)]at a;have d:=h_ a;have f:=h_ h;have l:=h_ (ef.refl w X);have n:=f.out.o4;rw[b]at n;clear h a;go_enter func36,ntmps36;go_wp2_with fail;go_ret;rw[d.out];exact⟨rfl,_,f.out,l.out⟩
 | true =>
  obtain⟨q,s,m⟩:=h.XD;have j:=h_ (DX G.ob 3 q s r.dy w m (by have:=h.ok.dy;omega));have k:cq (fun g=>g=G.ob) w (w.setCell ⟨G.ob,4,none⟩ (.bool false)):=cq.setCell _ _ _ (fun _=>rfl);have p:=h_ (h.mE (r':={ r with comp:=false }) k (fun D b=>cz b _) ⟨rfl,rfl,rfl,rfl,rfl,rfl⟩ { h.ok with });have o:=h_ (h.pe k);have f:=h_ h;have l:=h_ (ef.refl w X);have n:=f.out.o4;have t:=h.er 4;rw[b]at n;cases c:r.dy == [] with
  | true =>
   have i:r.dy=[]:=by simpa using c
   rw[if_neg (by rw[b,i];simp)]at a;have d:=h_ a;rw[c]at j;clear h a m k c i b;go_enter func36,ntmps36
   go_wp2_with (first
    | (refine j.out.mono ?_;rintro e w' ⟨rfl,rfl⟩))
   go_ret;rw[d.out];exact⟨rfl,_,p.out,o.out⟩
  | false =>
   have i:¬ r.dy=[]:=by simpa using c
   rw[if_pos (.inr i)]at a;have d:=h_ a;rw[c]at j;clear h a m k c i b;go_enter func36,ntmps36
   go_wp2_with (first
    | (refine j.out.mono ?_;rintro e w' ⟨rfl,rfl⟩))
   go_ret;rw[d.out];exact⟨rfl,_,f.out,l.out⟩
theorem FY(h:ej w G X r):Calls prog 30 #[cD G.ob] w (Sr G X w r.cY):=by
 cases c:r.is with
 | true =>
  have g:r.cY=r:=by unfold Rd.cY;rw[c];rfl
  rw[g];have a:=h_ h;have d:=h_ (ef.refl w X);have f:=a.out.Ef;rw[c]at f;clear h g c;go_enter func30,ntmps30;go_wp2_with fail;go_end0;exact⟨rfl,_,a.out,d.out⟩
 | false =>
  have g:r.cY={ r with cu:=r.v.x.cu,cF:=(r.v.cell r.v.cF).1,is:=true }:=by unfold Rd.cY;rw[c];rfl
  rw[g];have i:=h_ fun V (j:dZ V G.K r.v)=>jv G.K V r.v r.v.cF j;have l:=h_ fun V (j:dZ V G.K r.v)=>zx G.K V r.v j;generalize r.v.cell r.v.cF=p at i |-;obtain⟨n,H⟩:=p;simp only at i |-;generalize r.v.x.cu=m at l |-;have a:=h_ h;have d:=h_ (ef.refl w X);have o:=a.out.o0;have u:=a.out.v0;have E:=a.out.v8;have y:=a.out.vs;have q:=a.out.MG;have t:=a.out.II;have f:=a.out.Ef;rw[c]at f;have A:=h_ c;clear h g c;go_enter func30,ntmps30;go_wp2_with fail
  go_region_held3 (fun w'=>C_ w' G.ob 0=some (cD G.K.mb)/\C_ w' G.K.mb 0=some (cD G.K.s)/\C_ w' G.K.mb 8=some (I_ r.v.cF)/\C_ w' G.K.s 0=some (cD G.K.b))
   (first | go_keep)
   (first | (go_at_call 81;refine(i.out w.drew (a.out.cL (cq.drew _ _)).fv).mono ?_;rintro e M ⟨rfl,rfl⟩;dsimp only))
  try change wpList _ _ _ _ _ w.drew
  replace a:=h_ (a.out.cL (fw w));replace d:=h_ (d.out.trans (ef.kt (fw w)));try clear o;try clear q;try clear t;try clear f;try clear u;try clear E;try clear y
  generalize w.drew=F at a d |-;have o:=a.out.o0;have u:=a.out.v0;have y:=a.out.vs;have q:=a.out.MG;have t:=a.out.II;have f:=a.out.Ef;rw[A.out]at f;have I:=a.out.er 14;have J:=a.out.er 15;have L:=a.out.er 16;go_wp2_with fail;refine eD (l.out _ a.out.fv) ?_;have k:=fU F G.ob 14 15 16 (I_ m) (I_ n) (.bool true);have B:=h_ (a.out.mE (r':={ r with cu:=m,cF:=n,is:=true }) k (fun D C=>cz (cz (cz C _) _) _) ⟨rfl,rfl,rfl,rfl,rfl,rfl⟩ { a.out.ok with });have z:=h_ (d.out.trans (a.out.pe k));clear k;go_wp2_with fail;go_end0;exact⟨rfl,_,B.out,z.out⟩
end
theorem ya(x:Sp)(h:x.Ok)(k:x.mem.size<=4194304)(a:Int)(s:List UInt8)(c b:Int):0<=(x.cO a s c b).2.1.cM/\(x.cO a s c b).2.1.cM<=4194304:=by
 have d:(x.wY a).1.Ok/\(x.wY a).1.mem.size=x.mem.size:=by
  unfold Sp.wY;split
  . exact⟨Sp.zR h,Sp.pI _ _⟩
  . exact⟨h,rfl⟩
 obtain⟨⟨e,f,g,i⟩,j⟩:=d;unfold Sp.cO;split
 . exact⟨Int.le_refl _,by show(0:Int)<=_;decide⟩
 . split
   . exact⟨Int.le_refl _,by show(0:Int)<=_;decide⟩
   . refine⟨?_,?_⟩ <;> simp only <;> omega
section
variable (G:Gk) (X:Nat->Prop) (w:World) (r:Rd)
theorem kQ(w:World)(g i j k l:Nat)(a b c d:Value):cq (fun h=>h=g) w ((((w.setCell ⟨g,i,none⟩ a).setCell ⟨g,j,none⟩ b).setCell ⟨g,k,none⟩ c).setCell ⟨g,l,none⟩ d) :=
 (fU w g i j k a b c).trans (cq.setCell _ ⟨g,l,none⟩ d (fun _=>rfl))
theorem P8(n:Int)(h:ej w G X r):Calls prog 84 #[cD G.K.s,I_ n] w (PR G X w (r.vm (r.v.fB (r.v.x.fN n)))) :=
 (P5 G.K w r.v n h.fv).mono fun _ _ ⟨a,b,k⟩=>⟨a,X,h.vm b k,h.uc k⟩
theorem vQ(a n:Int)(h:ej w G X r):Calls prog 85 #[cD G.K.b,I_ a,I_ n] w (PR G X w (r.setCell a n)) :=
 (DO G.K w r.v a n h.fv).mono fun _ _ ⟨c,d,k⟩=>⟨c,X,h.vm d k,h.uc k⟩
end
section
variable (G:Gk) (X:Nat->Prop) (w:World) (r:Rd)
theorem BO(d:Wd)(h:ej w G X r):Calls prog 249 #[cD G.ob,d.val] w fun e w'=>e=.returned (I_ (r.oY d))/\K_ w w':=by
 have c:r.oY d=Rd.iU (fc (r.v.cell d.xt).1):=rfl;have l:=h_ fun V (R:dZ V G.K r.v)=>jv G.K V r.v d.xt R;generalize r.oY d=Q at c |-;generalize r.v.cell d.xt=p at c l;obtain⟨n,S⟩:=p;simp only at c l;have y:=h_ fun V=>JP n V;generalize fc n=j at c y;have g:=h_ c;have J:=h_ fun V=>GJ j V;have L:=h_ fun V=>uJ j V;have t:=dR w (.cells #[I_ d.cM,I_ d.xt,I_ d.cP,S_ d.name] 53);have f:=h_ (h.cL t);have B:=h_ t;have E:=f.out.o0;have F:=f.out.v0;have H:=f.out.vs;have I:(w.alloc (.cells #[I_ d.cM,I_ d.xt,I_ d.cP,S_ d.name] 53)).cell? ⟨w.heap.size,1,none⟩=some (I_ d.xt):=cp (cx w _) rfl;obtain⟨W,o⟩:∃ W,W=w.alloc (.cells #[I_ d.cM,I_ d.xt,I_ d.cP,S_ d.name] 53):=⟨_,rfl⟩;rw[<- o]at f B E F H I;have A:=h_ o;unfold Wd.val;clear h c t o;go_enter func249,ntmps249;go_upto_region 1 with fail;rw[<- A.out];clear A
 go_region_held3 (fun w'=>C_ w' G.ob 0=some (cD G.K.mb)/\C_ w' G.K.mb 0=some (cD G.K.s)/\C_ w' w.heap.size 1=some (I_ d.xt)/\C_ w' G.K.s 0=some (cD G.K.b))
  (first | go_keep)
  (first | (go_at_call 81;refine(l.out W.drew (f.out.cL (cq.drew _ _)).fv).mono ?_;rintro e Z ⟨rfl,rfl⟩;dsimp only))
 have N:=h_ (B.out.trans (fw W));clear E F H I;go_wp2_with fail;refine(y.out _).mono ?_;rintro e T ⟨rfl,C⟩;unfold nm;have O:=h_ (N.out.trans C);clear C;go_wp2_with fail;refine(J.out _).mono ?_;rintro e U ⟨rfl,D⟩;have i:=h_ (O.out.trans D);clear D;cases a:Tf j with
 | false =>
  go_wp2_with fail;go_ret;exact⟨congrArg (fun z=>Ending.returned (Value.int .i64 z)) (show(0:Int)=Q by rw[g.out];unfold Rd.iU;rw[if_pos a]),i.out⟩
 | true =>
  have u:=h_ a;clear a;go_wp2_with fail;refine(L.out _).mono ?_;rintro e Y ⟨rfl,rfl⟩;generalize q:inl j=k;have x:=h_ q;clear q;by_cases m:0<k
  . have M:=h_ (show(2:Int)=Q by rw[g.out];unfold Rd.iU;rw[if_neg (by rw[u.out];simp),if_pos (.inl (by rw[x.out];exact m))])
    have P:decide (0<k)=true:=decide_eq_true m;go_wp2_with fail;all_goals
     go_ret;exact⟨congrArg (fun z=>Ending.returned (Value.int .i64 z)) M.out,i.out⟩
  . have P:decide (0<k)=false:=decide_eq_false m
    go_wp2_with fail;all_goals
     have a:=u.out;have q:=x.out;go_ret
     first
      | exact⟨congrArg (fun z=>Ending.returned (Value.int .i64 z)) (show(2:Int)=Q by rw[g.out];unfold Rd.iU;rw[if_neg (by rw[a];simp),if_pos (by simp_all)]),i.out⟩
      | exact⟨congrArg (fun z=>Ending.returned (Value.int .i64 z)) (show(1:Int)=Q by rw[g.out];unfold Rd.iU;rw[if_neg (by rw[a];simp),if_neg (by simp_all)]),i.out⟩
end
section
variable (G:Gk) (X:Nat->Prop) (w:World) (r:Rd)
theorem FZ(d:Wd)(a:Int)(c:0<=d.cM)(e:d.cM<=4194304)(f:0<=a)(g:a<=255)(h:ej w G X r):Calls prog 37 #[cD G.K.b,d.val,I_ a] w (PR G X w (r.mark d a)) :=
 (P6 G.K w r.v d a c e f g h.fv).mono fun _ _ ⟨i,j,k⟩=>⟨i,X,h.vm j k,h.uc k⟩
end
section
variable (G:Gk) (X:Nat->Prop) (w:World) (r:Rd)
theorem P9(h:ej w G X r):Calls prog 35 #[cD G.K.s] w fun e w'=>e=.returned (I_ r.v.x.cu)/\w=w':=zx G.K w r.v h.fv
end
section
variable (G:Gk) (X:Nat->Prop) (w:World) (r:Rd)
theorem BQ(N:r.find.2.2=0)(h:ej w G X r):Calls prog 271 #[cD G.ob] w (MD Wd.val G X w r.find):=by
 have y:=h_ fun V (hV:ej V G X r)=>ud G X V r hV
 have t:r.find=if r.name.2.2≠0 then(r.next,Wd.none,r.name.2.2)else
  match r.v.x.mem.find r.name.2.1 r.eE with
  | some w=>(r.next,w,0)
  | none=>(r.next,Wd.none,-13):=rfl
 have aa:=h.ok.eE;have D:r.name.2.1.length<=31:=by
  unfold Rd.name Rd.gH;simp only;split
  . simp
  . rename_i l;simp at l;exact l.2
 have O:r.name.1=r.next:=rfl;generalize r.find=ai at t N |-;generalize r.name=ah at y t D O;obtain⟨r1,s,e1⟩:=ah;simp only at O t D;subst O;unfold MD at y;simp only at y;have U:=h_ h.zw;have R0:=h_ (h.cL (dR w (.cells #[I_ 0,I_ 0,I_ 0,.string ⟨#[]⟩] 53)));have E0:=h_ (ef.refl (w.alloc (.cells #[I_ 0,I_ 0,I_ 0,.string ⟨#[]⟩] 53)) X);replace y:=h_ (y.out _ R0.out);have T:=h_ N;clear h N;by_cases l:e1=0
 . subst l
   rw[if_neg (by simp)]at t;have u:=h_ t;have I:=h_ aa;have ae:=h_ D;have ab:r.next.eE=r.eE:=rfl;have ad:r.next.v=r.v:=rfl;rw[<- ab]at I u;rw[<- ad]at u;clear t aa D ab ad;generalize r.next=r at y u I;go_enter func271,ntmps271;go_wp2_with fail;refine ir (y.out) E0 ?_;intro w1 X1 z E1
   skip
   obtain⟨F,H,L,ac⟩:=z.out.iG;have af:=h_ ac;have J:=z.out.o0;have Q:=z.out.v0;have R:=z.out.vs;obtain⟨ak,aj,al,_⟩:=z.out.sV;obtain⟨a,ag⟩:∃ a,a=w1:=⟨_,rfl⟩;subst ag;have C:=h_ fun V (k:K_ a V)=>FW G.K V r.v s F H r.eE (by have:=ae.out;omega) (af.out V k) I.out (z.out.fv.cL k);clear ac;cases M:r.v.x.mem.find s r.eE with
   | none =>
    rw[M]at u;have l:=T.out;rw[u.out]at l;exact absurd (show(-13:Int)=0 from l) (by decide)
   | some d =>
    rw[M]at C u;clear M;obtain⟨n,q,o,p⟩:=d;go_upto_region 4 with fail
    go_cut [6,7] (fun v6 v7 wx=>∃ g:Nat,v6=cD g/\v7=.bool true/\eU g n q o p wx/\K_ a wx)
    case first =>
     go_region_held3 (fun w'=>C_ w' G.ob 0=some (cD G.K.mb)/\C_ w' G.ob 2=some (.slice F r.eE.length H)/\C_ w' G.K.mb 0=some (cD G.K.s)/\C_ w' G.K.s 0=some (cD G.K.b))
      (first | go_keep)
      (first
        | (go_at_call 42;refine(C.out (a.alloc (.cells #[I_ 0,I_ 0,I_ 0,.string ⟨#[]⟩] 53)).drew ((dR a (.cells #[I_ 0,I_ 0,I_ 0,.string ⟨#[]⟩] 53)).trans (cq.drew _ _))).mono ?_;rintro e c ⟨rfl,E⟩;dsimp only[ot,Wd.val]
           have f:=((dR a (.cells #[I_ 0,I_ 0,I_ 0,.string ⟨#[]⟩] 53)).trans (fw _)).trans E;have m:=E.heap (show((a.alloc (.cells #[I_ 0,I_ 0,I_ 0,.string ⟨#[]⟩] 53)).drew).heap[a.heap.size]?=_ from cx a _) id;have W:C_ c G.ob 0=some (cD G.K.mb):=f.cell J id;have e2:C_ c G.ob 2=some (.slice F r.eE.length H):=f.cell L id;have Y:C_ c G.K.mb 0=some (cD G.K.s):=f.cell Q id;have Z:C_ c G.K.s 0=some (cD G.K.b):=f.cell R id;have z0:C_ c a.heap.size 0=some (I_ 0):=cp m rfl;have z1:C_ c a.heap.size 1=some (I_ 0):=cp m rfl;have z2:C_ c a.heap.size 2=some (I_ 0):=cp m rfl;have z3:C_ c a.heap.size 3=some (.string ⟨#[]⟩):=cp m rfl;have q0:=cB (i:=0) m;have q1:=cB (i:=1) m;have q2:=cB (i:=2) m;have q3:=cB (i:=3) m;have n1:a.heap.size≠G.ob:=by omega
           have n2:a.heap.size≠G.K.mb:=by omega
           have n3:a.heap.size≠G.K.s:=by omega
           have am:G.ob≠a.heap.size:=by omega
           have an:G.K.mb≠a.heap.size:=by omega
           have ao:G.K.s≠a.heap.size:=by omega)
        | (go_at_call 42;refine(C.out a.drew (cq.drew _ _)).mono ?_;rintro e c ⟨rfl,E⟩;dsimp only[ot,Wd.val]
           have f:=(fw a).trans E;have W:C_ c G.ob 0=some (cD G.K.mb):=f.cell J id;have e2:C_ c G.ob 2=some (.slice F r.eE.length H):=f.cell L id;have Y:C_ c G.K.mb 0=some (cD G.K.s):=f.cell Q id;have Z:C_ c G.K.s 0=some (cD G.K.b):=f.cell R id;have l1:=World.block_lt_of_cell? c _ W;have l2:=World.block_lt_of_cell? c _ Y
           have l3:=World.block_lt_of_cell? c _ Z))
     all_goals
      go_wp2_with fail;go_meet;refine⟨_,rfl,rfl,?_⟩
      first
       | (have A:=lI (g:=a.heap.size) m (I_ n) (I_ q) (I_ o) (S_ p)
          have kB:=ei f a.heap.size (I_ n) (I_ q) (I_ o) (S_ p) (Nat.le_refl _)
          exact⟨A,kB⟩)
       | (have hA:=cx c (.cells #[(I_ n),(I_ q),(I_ o),(S_ p)] 53)
          have kA:=f.trans (dR c (.cells #[(I_ n),(I_ q),(I_ o),(S_ p)] 53))
          exact⟨hA,kA⟩)
    case rest =>
     obtain⟨g,rfl,rfl,B,P⟩:=hcut;have x0:C_ wc g 0=some (I_ n):=cp B rfl;have x1:C_ wc g 1=some (I_ q):=cp B rfl;have x2:C_ wc g 2=some (I_ o):=cp B rfl;have x3:C_ wc g 3=some (S_ p):=cp B rfl;have R2:=h_ (z.out.cL P);have S:=h_ (E1.out.trans (ef.kt P));have j:=h_ (ej.box U.out S.out);have a0:=cp (i:=0) j.out rfl;have a1:=cp (i:=1) j.out rfl;have a2:=cp (i:=2) j.out rfl;have a3:=cp (i:=3) j.out rfl;have f0:=cB (i:=0) j.out;have f1:=cB (i:=1) j.out;have f2:=cB (i:=2) j.out;have f3:=cB (i:=3) j.out;clear B P J L Q R C;go_wp2_with fail;have A:=lI j.out (I_ n) (I_ q) (I_ o) (S_ p);have g0:=cp (i:=0) A rfl;have g1:=cp (i:=1) A rfl;have g2:=cp (i:=2) A rfl;have g3:=cp (i:=3) A rfl;exact bodyPost_ret (v:=(.tuple #[Wd.val ⟨n,q,o,p⟩,I_ 0])) (by simp[results,results271,go_sem,Wd.val,Wd.none,g0,g1,g2,g3]) rfl (by rw[u.out];exact⟨rfl,ej.MI U.out R2.out S.out (fF _ _ _ _ _ _)⟩)
 . rw[if_pos (by simpa using l)]at t
   have h2:=T.out;rw[t]at h2;exact absurd h2 l
end
theorem Rest.zero{l:List Int}{u b:Rd}{e:Int}(h:Rest l (u,e) (b,0)):e=0:=Decidable.byContradiction fun a=>a (congrArg Prod.snd (h.TT a))
theorem Rd.Qe{r:Rd}{a:Int}{s:List UInt8}{n b:Int}{l:List Int}(h:(r.make a s n b l).2.2=0):(r.gI a s n b l).2=0/\(r.v.x.cO a s b n).2.2=0:=by
 have d:r.make a s n b l=if(r.gI a s n b l).2≠0 then((r.gI a s n b l).1.nU r.v.x.cu a (r.v.cell a).1,Wd.none,(r.gI a s n b l).2)
  else({ (r.gI a s n b l).1 with ea:=(r.v.x.cO a s b n).2.1 },(r.v.x.cO a s b n).2.1,0):=rfl
 have c:(r.gI a s n b l).2=0:=by
  by_cases e:(r.gI a s n b l).2=0
  . exact e
  . rw[d,if_pos e]at h
    exact absurd h e
 refine⟨c,Decidable.byContradiction fun e=>?_⟩;unfold Rd.gI at c;rw[if_pos e]at c;exact e c
section
variable (G:Gk) (X:Nat->Prop) (w:World) (r:Rd)
theorem vR(l:Int)(c:List UInt8)(a b:Int)(f:0<=a)(g:a<=255)(j:(r.v.x.cO l c a b).2.2=0)(h:ej w G X r):Calls prog 82 #[cD G.K.s,I_ l,S_ c,I_ a,I_ b] w
 fun e w'=>e=.returned (.tuple #[(r.v.x.cO l c a b).2.1.val,I_ (r.v.x.cO l c a b).2.2])/\∃ d,ej w' G d (r.kf l c b a)/\ef w X w' d :=
 (Eg G.K w r.v l c a b f g j h.fv).mono fun _ _ ⟨i,m,k⟩=>⟨i,X,h.vm m k,h.uc k⟩
theorem BR(b:Int)(s:List UInt8)(n d:Int)(a:Option Addr)(c:Nat)(l:List Int)(f0:0<=d)(f1:d<=255)(ha:iI w a l)(hl:l.length<=100000)(am:∀ g,dF a=some g->¬ X g/\g<w.heap.size)(an:(r.make b s n d l).2.2=0)(h:ej w G X r) :
 Calls prog 31 #[cD G.ob,I_ b,S_ s,I_ n,I_ d,.slice a l.length c] w (MD Wd.val G X w (r.make b s n d l)):=by
 have p:r.make b s n d l=if(r.gI b s n d l).2≠0 then((r.gI b s n d l).1.nU r.v.x.cu b (r.v.cell b).1,Wd.none,(r.gI b s n d l).2)
  else({ (r.gI b s n d l).1 with ea:=(r.v.x.cO b s d n).2.1 },(r.v.x.cO b s d n).2.1,0):=rfl
 have R:=ya r.v.x h.fv.vm.sp.ok h.fv.vm.sp.mem.le b s d n;have t:Rest l (r.kf b s n d,(r.v.x.cO b s d n).2.2) (r.gI b s n d l):=by
  unfold Rest Rd.gI;simp only;split
  . rename_i e;rw[if_neg (by simpa using e)]
  . rfl
 have aq:=h_ fun V Y u n (D:ej V G Y u)=>pg G Y V u n D;have HH:=h_ fun V (D:dZ V G.K r.v)=>zx G.K V r.v D;have Z:=h_ fun V (D:dZ V G.K r.v)=>jv G.K V r.v b D;obtain⟨m0,O⟩:=Rd.Qe an;have y:=h_ fun V (D:ej V G X r)=>vR G X V r b s d n f0 f1 O D;clear an;generalize r.make b s n d l=aw at p |-;generalize r.gI b s n d l=q2 at p t m0;generalize r.v.x.cO b s d n=cr at p t R y O;generalize r.kf b s n d=rm at t y;generalize r.v.x.cu=hh at p HH;generalize r.v.cell b=cc at p Z;obtain⟨aC,ax⟩:=cc;obtain⟨x1,⟨z,C,A,B⟩,ce⟩:=cr;obtain⟨u2,e2⟩:=q2;simp only at p t R y Z m0 O;subst m0 O;rw[if_neg (by simp)]at p;have HQ:=h_ p;have ai:=h_ t;have ae:=h_ R;have HA:=h_ ha;have aa:=h_ am;have ag:=h_ h.zw;have H:=h_ (h.cL (dR w (.cells #[I_ 0,I_ 0,I_ 0,.string ⟨#[]⟩] 53)));have E0:=h_ (ef.refl (w.alloc (.cells #[I_ 0,I_ 0,I_ 0,.string ⟨#[]⟩] 53)) X);clear h p t R ha am;have o0:=H.out.o0;have v0:=H.out.v0;have vs:=H.out.vs;go_enter func31,ntmps31;go_wp2_with fail;refine eD (HH.out _ H.out.fv) ?_;go_wp2_with fail;refine eD (Z.out _ H.out.fv) ?_;go_wp2_with fail;unfold Wd.val at y;simp only at y;refine ir (y.out _ H.out) E0 ?_;intro U X1 R1 E1;try clear o0;try clear v0;try clear vs
 go_upto_region 4 with fail;have ka:=dR U (.cells #[I_ z,I_ C,I_ A,S_ B] 53);have I:=h_ (cx U (.cells #[I_ z,I_ C,I_ A,S_ B] 53));have R2:=h_ (R1.out.cL ka);have L:=h_ (E1.out.trans (ef.kt ka));have ab:=h_ R1.out.zw;obtain⟨ac,ak⟩:∃ ac,ac=U.heap.size:=⟨_,rfl⟩;rw[<- ak]at I ab |-;generalize U.alloc (.cells #[I_ z,I_ C,I_ A,S_ B] 53)=w2 at I R2 L |-;clear ka ak y R1 E1;go_wp2_with fail
 go_loopw [18,61] (fun ev iv wr=>∃ (i:Nat) (q:Rd × Int) (Y:Nat->Prop),ev=I_ 0/\iv=I_ i/\i<=l.length/\ej wr G Y q.1/\ef w2 X1 wr Y/\Rest (l.drop i) q (u2,0)) (fun _ iv _=>l.length-(intOf iv).toNat)
 case atStart=>exact⟨0,(rm,0),X1,rfl,rfl,Nat.zero_le _,R2.out,ef.refl _ _,ai.out⟩
 case round =>
  obtain⟨i,⟨u,e⟩,Y,rfl,rfl,hi,hr,ad,t⟩:=hrel;have f:=h_ hr;have M:=h_ ad;have E3:=h_ (L.out.trans ad);have F:=h_ t;clear hr ad t;by_cases al:i<l.length
  . have aj:iI w2 a l:=(HA.out.ct (dR w _) (fun _ _=>id)).ct L.out.k (fun g S=>(aa.out g S).1)
    obtain⟨g,o,rfl,hc⟩:=aj.ct M.out.k (fun g S e=>(L.out.n g e).elim (aa.out g S).1 (fun e=>by have:=(aa.out g S).2;rw[World.size_alloc]at e;omega)) i al;have hd:l.drop i=l[i] :: l.drop (i+1):=List.drop_eq_getElem_cons al;have E:=F.out;rw[hd]at E;replace F:=h_ E;generalize l[i]=m at hc F;have au:(i:Int)<l.length:=by omega
    clear hd E aj;obtain rfl:e=0:=F.out.zero;have HS:=h_ (Rest.step (F.out.ok rfl));have af:=h_ (aq.out wr Y u m f.out);generalize u.cN m=q at HS af;obtain⟨u3,e3⟩:=q;obtain rfl:e3=0:=HS.out.zero;have o0:=f.out.o0;have v0:=f.out.v0;go_wp2_with fail;refine af.out.mono ?_;rintro e w4 ⟨rfl,X4,r4,k4⟩;have R4:=h_ r4;have W:=h_ (M.out.trans k4);clear r4 k4;try clear o0;try clear v0;try clear vs
    go_wp2_with fail;go_roundw;case rel=>exact⟨i+1,(u3,0),X4,rfl,by go_num,by omega,R4.out,W.out,HS.out⟩
    case measure=>simp[intOf];omega
  . have ar:i=l.length:=by omega
    subst ar;have E:=F.out;rw[List.drop_length]at E;have hf:=E.done;injection hf with hf1 hf2;subst hf1 hf2;have au:¬ ((l.length:Int)<l.length):=by omega
    have N:=h_ (M.out.k.heap I.out ab.out);have av:=h_ (show ¬ Y ac from fun J=>(M.out.n _ J).elim ab.out (fun h=>by have:=cA I.out;omega));clear E ai I;have T:=kQ wr G.ob 10 11 12 13 (I_ z) (I_ C) (I_ A) (S_ B);have R4:=h_ (f.out.mE (r':={ u with ea:=⟨z,C,A,B⟩ }) T (fun ao hc=>cz (cz (cz (cz hc _) _) _) _) ⟨rfl,rfl,rfl,rfl,rfl,rfl⟩ { f.out.ok with BK:=ae.out.1,BL:=ae.out.2 });have W:=h_ (E3.out.trans (f.out.pe T));have j:=h_ (ej.box ag.out E3.out)
    have ah:=h_ (show G.ob≠w.heap.size from fun J=>by
     have P:=f.out.heap;obtain⟨ao,P⟩:=P;rw[J,j.out]at P
     cases P)
    have a0:=cp (i:=0) j.out rfl;have a1:=cp (i:=1) j.out rfl;have a2:=cp (i:=2) j.out rfl;have a3:=cp (i:=3) j.out rfl;have f0:=cB (i:=0) j.out;have f1:=cB (i:=1) j.out;have f2:=cB (i:=2) j.out;have f3:=cB (i:=3) j.out;have y0:=cp (i:=0) N.out rfl;have y1:=cp (i:=1) N.out rfl;have y2:=cp (i:=2) N.out rfl;have y3:=cp (i:=3) N.out rfl;have ay:=f.out.S8;have az:=f.out.S9;have aA:=f.out.H';have aB:=f.out.Ta;have q0:=f.out.er 10;have q1:=f.out.er 11;have q2:=f.out.er 12;have q3:=f.out.er 13;have n1:=ah.out;have ap:=h_ (T.heap j.out (fun J=>ah.out J.symm));clear T;go_wp2_with fail;have Q:=lI ap.out (I_ z) (I_ C) (I_ A) (S_ B);have g0:=cp (i:=0) Q rfl;have g1:=cp (i:=1) Q rfl;have g2:=cp (i:=2) Q rfl;have g3:=cp (i:=3) Q rfl;exact bodyPost_ret (v:=(.tuple #[Wd.val ⟨z,C,A,B⟩,I_ 0])) (by simp[results,results31,go_sem,Wd.val,Wd.none,g0,g1,g2,g3]) rfl (by rw[HQ.out];exact⟨rfl,ej.MI ag.out R4.out W.out (fF _ _ _ _ _ _)⟩)
end
open Go.RowKit Go.Proofs.tI
namespace VM
def zL:VM->Int->VM × Int:=fun v _=>(v,-14)
def lP:Pk->Bool
 | .plain f=>decide (f=295) || decide (f=364) || decide (f=365)
 | .with_ n f=>decide (n=1) && decide (f=360)
 | .push f=>decide (f=297)
 | .moves _ _=>false
 | .look _=>false
 | .two _=>false
 | .one op=>decide (op=[49,43])
inductive jz(v:VM)(xt:Int):VM × Int->Prop
 | colon:v.cell xt=(1001,0)->jz v xt (v.fA xt)
 | value (n:Int):v.cell xt=(1003,0)->v.cell (xt+8)=(n,0)->jz v xt (v.push [n])
 | PH (c:Int) (pk:Pk):v.cell xt=(c,0)->ky (fc c)=some pk->lP pk=true->jz v xt (Fb zL pk v)
theorem jz.cI{v:VM}{xt:Int}{q:VM × Int}(h:jz v xt q):q.1.cI=v.cI:=by
 cases h with
 | colon h=>exact om _ _
 | value n h1 h2=>rfl
 | PH c pk h1 h2 h3=>exact Yu zL (fun _ _=>rfl) pk v
inductive sJ:VM × Int->VM × Int->Prop
 | stop (q:VM × Int):¬ (q.2=0/\q.1.ip≠0/\q.1.dL=false)->sJ q q
 | step (v v1:VM) (xt:Int) (q Q:VM × Int):v.ip≠0->v.dL=false->v.inline=(v1,xt,0)->0<v1.cI->jz { v1 with cI:=v1.cI-1 } xt q->q.2=0->sJ q Q->sJ (v,0) Q
 | err (v v1:VM) (xt:Int) (q:VM × Int):v.ip≠0->v.dL=false->v.inline=(v1,xt,0)->0<v1.cI->jz { v1 with cI:=v1.cI-1 } xt q->q.2≠0->q.1.cC<4->sJ (v,0) q
def Bt(v:VM)(xt:Int)(Q:VM × Int):Prop:=0<v.cI/\∃ q,jz { v with ip:=0,dU:=0,cC:=0,cI:=v.cI-1 } xt q/\q.2=0/\sJ q Q
end VM
def xV(r:Rd)(s:List UInt8)(n:Int)(Q:Rd × Int):Prop :=
 (r.comp=true/\r.di s [n]=Q) \/
 (r.comp=false/\∃ (r1 r2 r3 r4:Rd) (P:VM × Int),r.vm (r.v.fB r.v.x.align)=(r1,0)/\r1.cN 1001=(r2,0)/\r2.di s [n]=(r3,0)/\r3.di [101,120,105,116] []=(r4,0)/\VM.Bt r4.v r1.v.x.cu P/\r4.vm P=Q)
inductive ig(s:List UInt8)(q:Rd × Oo):(Rd × Oo) × Int->Prop
 | comp (d:Wd):gr (cG s)=none->il (cG s)=none->q.1.v.x.mem.find s q.1.eE=some d->q.1.comp=true->d.cP % 2=0->q.1.oY d≠2->ig s q (((q.1.cN d.xt).1,q.2),(q.1.cN d.xt).2)
 | run (d:Wd) (Q:VM × Int):gr (cG s)=none->il (cG s)=none->q.1.v.x.mem.find s q.1.eE=some d->q.1.comp=false->¬ 0<q.1.oY d->VM.Bt q.1.v d.xt Q->ig s q (((q.1.vm Q).1,q.2),Q.2)
 | num (n:Int):gr (cG s)=none->il (cG s)=none->q.1.v.x.mem.find s q.1.eE=none->dE.lH s q.1.v.oj=(n,true)->ig s q (((q.1.gX [n]).1,q.2),(q.1.gX [n]).2)
 | obj (k:Nat):gr (cG s)=some k->(k=160\/k=163\/k=164\/k=165\/k=170\/k=171)->ig s q (Oo.Wf k q)
 | Sm:gr (cG s)=some 161->q.2.eH=[]->ig s q (Oo.iS q)
 | send (Q:Rd × Int):gr (cG s)=some 168->(Oo.cR q).2.2=0->xV (Oo.cR q).1.1 [40,115,101,110,100,41] (Oo.cR q).2.1 Q->ig s q ((Q.1,(Oo.cR q).1.2),Q.2)
inductive TS(s:List UInt8)(q:Rd × Oo):(Rd × Oo) × Int->Prop
 | vy (Q:Rd × Int):gr (cG s)=some 168->(Oo.cR q).2.2=0->xV (Oo.cR q).1.1 [40,115,101,110,100,41] (Oo.cR q).2.1 Q->TS s q ((Q.1,(Oo.cR q).1.2),Q.2)
 | none_:gr (cG s)=none->il (cG s)=none->q.1.v.x.mem.find s q.1.eE=none->(dE.lH s q.1.v.oj).2=false->TS s q (q,-13)
def Oo.fail(q:Rd × Oo)(e:Int):Rd × Oo:=((Oo.reset (q.1.lM e,q.2)).1.skip,(Oo.reset (q.1.lM e,q.2)).2)
def Oo.cH(q:Rd × Oo):Rd × Oo:=({ q.1.next with v:={ q.1.v with cI:=q.1.v.cI-1 } },q.2)
inductive fH:(Rd × Oo) × Int->(Rd × Oo) × Int->Prop
 | done (q:Rd × Oo) (l:Int):q.1.v.dL=false->q.1.dt=[]->fH (q,l) ((q.1.next,q.2),l)
 | ok (q p:Rd × Oo) (l:Int) (Q:(Rd × Oo) × Int):q.1.v.dL=false->q.1.dt≠[]->0<q.1.v.cI->ig q.1.dt (Oo.cH q) (p,0)->p.1.v.cI<q.1.v.cI->fH (p,l) Q->fH (q,l) Q
 | TT (q p:Rd × Oo) (l e:Int) (Q:(Rd × Oo) × Int):q.1.v.dL=false->q.1.dt≠[]->0<q.1.v.cI->TS q.1.dt (Oo.cH q) (p,e)->e≠0->e ≠ -2053->(-9223372036854775808<=e/\e<=9223372036854775807)->(Oo.fail p e).1.v.cI<q.1.v.cI ->
  fH (Oo.fail p e,e) Q->fH (q,l) Q
def QR(D:Int)(en:VM->Int->VM × Int):Pk->Prop
 | .plain f=>pD f (VM.uZ f)
 | .with_ n f=>1<=n/\n<=8/\DR D n.toNat f (VM.OW en f)
 | .push f=>FF f (VM.Ho f)
 | .moves _ _=>False
 | .look f=>vz f (VM.Lg f)
 | .two _=>False
 | .one op=>op=[49,43]
theorem Sy(D:Int):L9 D 1 322 (S_ ([49,43]:List UInt8)) (VM.tg (fun k a _=>(Ay.pU k a,0)) [49,43]):=by
 refine⟨fun A w=>call322 A w,?_⟩;intro K w v I c g L h E S F m p o;obtain⟨x,rfl⟩:∃ x,L=[x]:=List.length_eq_one_iff.1 p;have J:C_ w I 0=some (I_ x):=m.cell (i:=0) (by simp);have r:VM.tg (fun k a _=>(Ay.pU k a,0)) [49,43] v [x]=v.push [Ay.pU [49,43] x]:=rfl;rw[r];have d:=h_ fun (q:fP w)=>(Go.Proofs.Ay.OY x q.1 (o x (by simp))).mono (fun e w' (h:_/\_)=>(⟨h.1,h.2 ▸ cq.refl (fun _=>False) _⟩:_/\K_ q.1 w'));generalize Ay.pU [49,43] x=n at d |-;have N:=fun (q:fP w)=>q.2.cell F id;have O:=fun (q:fP w)=>q.2.cell J id;have s:=h_ fun V (C:dZ V K v)=>jh K V v n 2 C;have y:=h_ h;have P:=h_ (cq.refl K.ey w);clear h E r m p o;go_enter func322,ntmps322;go_wp2_with fail;refine Go.Proofs.K.cW ?iX ?iY ?_;case iX=>kernel_rfl
 case iY=>kernel_rfl
 repeat ((with_reducible refine wpQuiet_step ?_);intro f b;go_simp;first | ((with_reducible refine b _ ?_);clear b f) | (refine b _ ?_;clear b f) | (apply Exists.intro;refine⟨fun _=>?_,b _ ?_⟩;(first | exact Go.Proofs.K.gO (d.out _));clear b f))
 with_reducible refine wpQuiet_nil ?_
 intro M G;obtain⟨⟨R,j⟩,H⟩:=G;subst H;have l:=h_ (y.out.cL j);have t:=h_ (lK K j);clear N O j d;have B:=l.out.m1;go_wp2_with fail;refine nv (s.out M l.out) t ?_;intro Q z u;try clear B
 go_wp2_with fail;go_ret;exact⟨rfl,z.out,u.out⟩
theorem IU(D:Int)(r:VM->Int->VM × Int)(q:Pk)(c:QR D r q)(K:Bk)(w:World)(v:VM)(h:dZ w K v)(x:v.d.depth<D+1)(u:Value)(o:Good K.X w q u):Sk K w (VM.Fb r q v) u:=by
 cases q with
 | plain f =>
  have c:pD f (VM.uZ f):=c;exact .inl ⟨f,o,c.L8,c.ok K w v h⟩
 | with_ n f =>
  obtain⟨G,H,E⟩:1<=n/\n<=8/\DR D n.toNat f (VM.OW r f):=c;obtain⟨a,b,rfl,⟨i,y,rfl,j,g⟩,⟨k,B,rfl,p,m⟩⟩:=o;have e:n=(n.toNat:Int):=by omega
  rw[e]at g;exact .inr (.inr ⟨_,_,_,rfl,mg,yq K w v D n.toNat f _ (by omega) (by omega) E i k h x (cp g rfl) (cp m rfl) j p⟩)
 | push f =>
  have c:FF f (VM.Ho f):=c;obtain⟨a,rfl,⟨i,y,rfl,j,g⟩⟩:=o;exact .inr (.inl ⟨_,_,rfl,Bm,Ic K w v f _ c i h (cp g rfl)⟩)
 | moves n l=>exact c.elim
 | look f =>
  have c:vz f (VM.Lg f):=c;obtain⟨C,⟨a,b,rfl,⟨i,y,rfl,j,g⟩,⟨k,B,rfl,p,m⟩⟩,⟨s,F,rfl,z,t⟩⟩:=o;exact .inr (.inr ⟨_,_,_,rfl,mg,Bi K w v D 1 _ (bY f) _ (by omega) (by omega) (look_ok D f _ c) i k s h x (cp g rfl) (cp m rfl) (cp t rfl) j p z⟩)
 | two A=>exact c.elim
 | one A =>
  have c:A=[49,43]:=c;subst c;obtain⟨C,⟨a,b,rfl,⟨i,y,rfl,j,g⟩,⟨k,B,rfl,p,m⟩⟩,⟨s,F,rfl,z,t⟩⟩:=o;exact .inr (.inr ⟨_,_,_,rfl,mg,Bi K w v D 1 _ (S_ ([49,43]:List UInt8)) _ (by omega) (by omega) (Sy D) i k s h x (cp g rfl) (cp m rfl) (cp t rfl) j p z⟩)
theorem Sz(D:Int)(pk:Pk)(h:VM.lP pk=true):QR D VM.zL pk:=by
 cases pk with
 | plain f =>
  unfold VM.lP at h;simp only[Bool.or_eq_true,decide_eq_true_eq]at h
  rcases h with (rfl | rfl) | rfl
  . exact DT
  . exact Bl
  . exact Bj
 | with_ n f =>
  unfold VM.lP at h;simp only[Bool.and_eq_true,Bool.or_eq_true,decide_eq_true_eq]at h
  obtain⟨rfl,rfl⟩:=h
  . exact⟨by decide,by decide,Py D⟩
 | push f =>
  unfold VM.lP at h;simp only[decide_eq_true_eq]at h
  subst h;exact DS
 | moves n l=>cases h
 | look f=>cases h
 | two op=>cases h
 | one op =>
  unfold VM.lP at h;simp only[decide_eq_true_eq]at h
  subst h;exact(rfl:([49,43]:List UInt8)=[49,43])
section
variable (K:Bk) (w:World) (v:VM)
theorem yc(xt c:Int)(pk:Pk)(q:VM × Int)(h:dZ w K v)(o:v.cell xt=(c,0))(j:ky (fc c)=some pk)(t:∀ u,Good K.X w pk u->Sk K w q u):Calls prog 310 #[cD K.mb,I_ xt] w (PV K w q):=by
 have s:fc c≠[]:=fun e=>by rw[e,xK]at j;cases j
 have I:1<=c/\c<=86:=by
  rcases Decidable.em (1<=c/\c<=86)with h | h
  . exact h
  . exact absurd (by unfold fc;rw[if_neg h]) s
 have k:=h_ (jv K w v xt h);rw[o]at k;simp only at k;have N:(c == 1001)=false:=by simp;omega
 have O:(c == 1002)=false:=by simp;omega
 have P:(c == 1003)=false:=by simp;omega
 have Q:(c == 1005)=false:=by simp;omega
 obtain⟨M,g,r,J,p,x,i⟩:=Pz h.vm.mB c;have A:=h_ p;have B:=h_ x;have L:=h_ (TH c (by unfold jD;omega));unfold Found at i;rw[j]at i;simp only at i;obtain⟨u,rfl,n⟩:=i;have y:=t u n;unfold Sk at y;have l:=h_ h;have C:=h_ (cq.refl K.ey w);have F:=l.out.m0;have G:=l.out.m17;have H:=l.out.ms;clear h o s I p t x j n J;rcases y with⟨f,rfl,m,d⟩ | ⟨f,a,rfl,m,d⟩ | ⟨f,a,b,rfl,m,d⟩;all_goals
  have z:=h_ d;unfold Enters at m;clear d;go_enter func310,ntmps310;go_wp2_with fail;refine eD (k.out) ?_
  go_wp2_with (first
   | (at_lookup;refine jd ik _ rfl _ _ 45 rfl _ underlying45 _ (Ps _) K.pb M g rfl A.out c L.out rfl _ B.out ?_;dsimp only[Option.getD_some,Option.isSome_some])
   | fail)
  refine nv (z.out) C ?_;intro R E D;try clear F;try clear G;try clear H
  go_wp2_with fail;go_ret;exact⟨rfl,E.out,D.out⟩
theorem BT(xt:Int)(h:dZ w K v)(b:v.cell xt=(1001,0)):Calls prog 310 #[cD K.mb,I_ xt] w (PV K w (v.fA xt)):=by
 have a:=h_ (jv K w v xt h);obtain⟨k,l⟩:=qy h xt (by rw[b]);rw[b]at a;simp only at a;have c:=h_ (wM K w v xt h k l);generalize v.fA xt=q at c |-;have d:=h_ h;have e:=h_ (cq.refl K.ey w);have i:=d.out.m0;have j:=d.out.ms;clear h b;go_enter func310,ntmps310;go_wp2_with fail;refine eD (a.out) ?_;go_wp2_with fail;refine nv (c.out) e ?_;intro m g f;try clear i;try clear j
 go_wp2_with fail;go_ret;exact⟨rfl,g.out,f.out⟩
theorem SB(xt:Int)(q:VM × Int)(h:dZ w K v)(hE:VM.jz v xt q):Calls Tryz.prog 310 #[cD K.mb,I_ xt] w (PV K w q):=by
 cases hE with
 | colon hc=>exact BT K w v xt h hc
 | value n hc hn =>
  have HC:=h_ (jv K w v xt h);have XV:=h_ (jv K w v (xt+8) h);obtain⟨x0,x1⟩:=qy h xt (by rw[hc])
  rw[hc]at HC;rw[hn]at XV;simp only at HC XV
  have HP:=h_ (jh K w v n 2 h);generalize v.push [n]=q at HP |-;have R0:=h_ h;have K0:=h_ (cq.refl K.ey w);have c0:=R0.out.m0;have c1:=R0.out.m1;have cs:=R0.out.ms;clear h hc hn
  go_enter Tryz.func310,Tryz.ntmps310
  go_wp2_with fail;refine eD (HC.out) ?_;go_wp2_with fail;refine eD (XV.out) ?_;go_wp2_with fail;refine nv (HP.out) K0 ?_;intro w1 R1 K1
  try clear c0;try clear c1;try clear cs
  go_wp2_with fail;go_ret
  exact⟨rfl,R1.out,K1.out⟩
 | PH c pk hc hk hs =>
  have h0:=h.vm.dk.ok.2.2.1;exact yc K w v xt c pk _ h hc hk fun u gd=>IU (v.d.depth+1) VM.zL pk (Sz _ pk hs) K w v h (by omega) u gd
end
section
variable (K:Bk) (w:World) (v:VM)
theorem sb(e:Int)(h:dZ w K v)(hok:e=0\/v.cC<4):Calls Tryz.prog 420 #[cD K.mb,I_ e] w (PV K w (v,e)):=by
 by_cases h1:e=0
 . subst h1
   have R0:=h_ h;have K0:=h_ (cq.refl K.ey w);clear h hok
   go_enter Tryz.func420,Tryz.ntmps420
   go_wp2_with fail;go_ret
   exact⟨rfl,R0.out,K0.out⟩
 . have HP:=h_ (rP K w v e h (.inl (hok.resolve_left h1)))
   have d1:(e == 0)=false:=by simp[h1]
   have R0:=h_ h;have K0:=h_ (cq.refl K.ey w);clear h h1 hok
   go_enter Tryz.func420,Tryz.ntmps420
   go_wp2_with fail;refine nv (HP.out) K0 ?_;intro w1 R1 K1
   skip
   go_wp2_with fail;go_ret
   exact⟨rfl,R1.out,K1.out⟩
theorem BU(xt:Int)(q:VM × Int)(h:dZ w K v)(hf:0<v.cI)(hE:VM.jz { v with cI:=v.cI-1 } xt q)(hok:q.2=0\/q.1.cC<4):Calls Tryz.prog 378 #[cD K.mb,I_ xt] w (PV K w q):=by
 have VF:=h.m10;have f10:=h.er 10;have hf1:=h.ok.Fy;have d1:decide (v.cI<=0)=false:=decide_eq_false (by omega)
 have R0:=h_ h;have K0:=h_ (cq.refl K.ey w);have R1:=h_ (h.Fz (v.cI-1) (by omega) (by omega))
 have K1:=h_ (gW K (gh w K.mb 10 (I_ (v.cI-1))));have HP:=h_ (SB K _ _ xt q R1.out hE);obtain⟨v1,e1⟩:=q;have HO:=h_ fun V (hV:dZ V K v1)=>sb K V v1 e1 hV hok
 clear h hE hok
 go_enter Tryz.func378,Tryz.ntmps378
 go_wp2_with fail;refine nv (HP.out) K1 ?_;intro w2 R2 K2
 try clear VF
 go_wp2_with fail;refine nv (HO.out w2 R2.out) K2 ?_;intro w3 R3 K3
 try clear VF
 go_wp2_with fail;go_ret
 exact⟨rfl,R3.out,K3.out⟩
theorem VM.BV{v a:VM}{xt:Int}(h:v.inline=(a,xt,0)):a.cI=v.cI/\jD xt:=by
 have e:v.inline.1.cI=v.cI:=rfl;have b:=v.xJ;rw[h]at e b;exact⟨e,b⟩
theorem Qf(xt:Int)(Q:VM × Int)(h:dZ w K v)(hR:VM.Bt v xt Q):Calls Tryz.prog 250 #[cD K.mb,I_ xt] w (PV K w Q):=by
 obtain⟨hf,q,hE,hok,hs⟩:=hR;have R1:=h_ (h.Sj 0 0 0 (by omega) (by omega))
 have K1:=h_ (gW K (qw w K.mb (I_ 0) (I_ 0) (I_ 0)));have c5:=h.m5;have c6:=h.m6;have c16:=h.m16;have f5:=h.er 5;have f6:=h.er 6;have f16:=h.er 16;have HP:=h_ (BU K _ _ xt q R1.out hf hE (.inl hok));clear hok;have HS:=h_ hs;have R0:=h_ h;have K0:=h_ (cq.refl K.ey w);clear h hs hE hf
 go_enter Tryz.func250,Tryz.ntmps250
 go_wp2_with fail;refine nv (HP.out) K1 ?_;intro w2 R2 K2
 try clear c5;try clear c6;try clear c16
 go_wp2_with fail
 go_loopw [5,6] (fun ev _ wr=>∃ q:VM × Int,ev=I_ q.2/\dZ wr K q.1/\cq K.ey w wr/\VM.sJ q Q)
  (fun ev _ wr=>match wr.cell? ⟨K.mb,10,none⟩with | some (.int _ n)=>PA (intOf ev) n | _=>0)
 case atStart=>exact⟨q,rfl,R2.out,K2.out,HS.out⟩
 case round =>
  obtain⟨q,rfl,hr,hk,hq⟩:=hrel
  cases hq with
  | stop _ hn =>
   obtain⟨u,e⟩:=Q;simp only at hr hn
   have R3:=h_ hr;have K3:=h_ hk;have c5:=hr.m5;have c13:=hr.m13;clear hr hk;by_cases h1:e=0
   . subst h1
     by_cases h2:u.ip=0
     . have d2:(u.ip != 0)=false:=by simp[h2]
       clear hn h2;go_wp2_with fail;go_ret
       exact⟨rfl,R3.out,K3.out⟩
     . have d2:(u.ip != 0)=true:=by simp[h2]
       have ho:u.dL=true:=by
        cases ho:u.dL with
        | true=>rfl
        | false=>exact absurd ⟨rfl,h2,ho⟩ hn
       rw[ho]at c13;clear hn h2 ho;go_wp2_with fail;go_ret
       exact⟨rfl,R3.out,K3.out⟩
   . have d1:(e == 0)=false:=by simp[h1]
     clear hn h1;go_wp2_with fail;go_ret
     exact⟨rfl,R3.out,K3.out⟩
  | step u u1 Xq r _ h2 ho hi hfl hE hok hs =>
   simp only at hr
   have R3:=h_ hr;have K3:=h_ hk;have c5:=hr.m5;have c13:=hr.m13;have VF:=h_ hr.m10;rw[ho]at c13;have d2:(u.ip != 0)=true:=by simp[h2]
   have HI:=h_ (kV K _ u R3.out);rw[hi]at HI;have hsm:=(VM.BV hi).1;have HST:=h_ fun V (hV:dZ V K u1)=>BU K V u1 Xq r hV hfl hE (.inl hok)
   have hof:r.1.cI=u.cI-1:=by
    rw[hE.cI]
    show u1.cI-1=_
    omega
   have HM:=h_ (show PA r.2 r.1.cI<PA 0 u.cI by
    unfold PA;rw[hof,if_pos rfl]
    split <;> omega)
   clear hok;have HS:=h_ hs;clear hr hk h2 ho hi hfl hE hs hof hsm;go_wp2_with fail;refine nv (HI.out) K3 ?_;intro w4 R4 K4
   try clear c5;try clear c6;try clear VF;try clear c13;try clear c16
   go_wp2_with fail;refine nv (HST.out _ R4.out) K4 ?_;intro w5 R5 K5
   try clear c5;try clear c6;try clear VF;try clear c13;try clear c16
   go_wp2_with fail
   go_roundw
   case rel=>exact⟨r,rfl,R5.out,K5.out,HS.out⟩
   case measure =>
    have EP:=R5.out.m10;simp only[VF.out,EP,intOf]
    exact HM.out
  | err u u1 Xq _ h2 ho hi hfl hE he hh =>
   simp only at hr
   have R3:=h_ hr;have K3:=h_ hk;have c5:=hr.m5;have c13:=hr.m13;have VF:=h_ hr.m10;rw[ho]at c13;have d2:(u.ip != 0)=true:=by simp[h2]
   have HI:=h_ (kV K _ u R3.out);rw[hi]at HI;have hsm:=(VM.BV hi).1;have HST:=h_ fun V (hV:dZ V K u1)=>BU K V u1 Xq Q hV hfl hE (.inr hh)
   have hof:Q.1.cI=u.cI-1:=by
    rw[hE.cI]
    show u1.cI-1=_
    omega
   have HM:=h_ (show PA Q.2 Q.1.cI<PA 0 u.cI by
    unfold PA;rw[hof,if_pos rfl]
    split <;> omega)
   have HS:=h_ (VM.sJ.stop Q (fun e=>he e.1))
   clear hr hk h2 ho hi hfl hE he hh hof hsm;go_wp2_with fail;refine nv (HI.out) K3 ?_;intro w4 R4 K4
   try clear c5;try clear c6;try clear VF;try clear c13;try clear c16
   go_wp2_with fail;refine nv (HST.out _ R4.out) K4 ?_;intro w5 R5 K5
   try clear c5;try clear c6;try clear VF;try clear c13;try clear c16
   go_wp2_with fail
   go_roundw
   case rel=>exact⟨Q,rfl,R5.out,K5.out,HS.out⟩
   case measure =>
    have EP:=R5.out.m10;simp only[VF.out,EP,intOf]
    exact HM.out
end
open Class (dG)
open Go.Proofs.tI
namespace Fo
abbrev Q:=Rd × Oo
structure St(pf:List UInt8->Option Int)(D:eF)(S:List (List UInt8))(o:Int)(m:Option (Int × Int × Int))(f:Int)(q:Q):Prop where
 fQ:D.In q.1.v.x
 dD:q.1.v.dD=16
 cF:q.1.v.cF=24
 root:q.1.v.root=8
 cy:q.1.v.cy=9
 dL:q.1.v.dL=false
 cV:q.1.v.cV=2824
 dd:q.1.v.d=⟨60000,60,0,-3,-4⟩
 rr:q.1.v.r=⟨60480,200,0,-5,-6⟩
 cI:q.1.v.cI=f
 Iu:q.1.pf=pf
 comp:q.1.comp=m.isSome
 eM:q.1.eM=m.isSome
 dy:q.1.dy=[]
 eE:∃ ls,q.1.eE=ls++[24]/\(∀ a ∈ ls,(a,0) ∈ D.fx)/\(o=0->m=none->ls=[])
 eN:q.2.eN=o
 dA:o≠0->∃ w ws,D.ws=w :: ws/\q.2.dA=w
 Wg:∀ c s t,m=some (c,s,t)->q.2.target=c/\q.2.cZ=s/\q.2.xt=t
 eH:q.2.eH=[]
 tO:∀ p l,q.2.dq p=some l->(l,0) ∈ D.fx
 UA:o=0->m=none->q.1.is=false
 eb:q.2.eb=S
def gY(q:Q)(t:List UInt8):Prop:=q.1.src.drop q.1.cM=t
theorem D8{D:eF}{x:Sp}(h:D.In x){a:Int}(b:(a,0) ∈ D.fx):x.mem.fR a=[]:=by
 rw[Mem.ur,h.cell b];simp only[ne_eq,not_true_eq_false,if_false];exact Mem.qg _ _ _ (by omega)
theorem nW{D:eF}{x:Sp}(h:D.In x)(s:List UInt8):∀ {ls:List Int},(∀ a ∈ ls,(a,0) ∈ D.fx)->x.mem.find s (ls++[24])=Mem.dv D.ws (cG s)
 | [],_=>by
  show x.mem.find s [24]=_
  unfold Mem.find;rw[h.fR]
  cases Mem.dv D.ws (cG s) <;> rfl
 | a :: ls,hl=>by
  show x.mem.find s (a :: (ls++[24]))=_
  rw[Mem.find,D8 h (hl a (by simp))]
  exact nW h s fun b hb=>hl b (by simp[hb])
theorem vH(m:Mem)(fl:Int × Int->Option Int)(root:Int):∀ (k:Nat) (c:Int),∀ a ∈ Oo.ku m fl root k c,∃ p,fl p=some a
 | 0,_,a,ha=>by cases ha
 | k+1,c,a,ha=>by
  unfold Oo.ku at ha;split at ha
  . cases ha
  . rcases List.mem_append.1 ha with h | h
    . cases hf:fl (root,c)with
      | none=>rw[hf]at h;cases h
      | some l =>
       rw[hf]at h;have:a=l:=by simpa using h
       subst this;exact⟨_,hf⟩
    . exact vH m fl root k _ a h
theorem Bv{q:Q}{s t:List UInt8}(c:gY q (s++32 :: t))(d:Src.d' s=true):q.1.dt=s/\gY (q.1.next,q.2) t/\∃ n,q.1.next={ q.1 with cM:=n }/\q.1.src.drop n=t:=by
 obtain⟨a,b⟩:=Src.mZ q.1.src s t q.1.cM d c;refine⟨by show(Src.dA q.1.src q.1.cM).1=s;rw[a],?_,q.1.cM+s.length+1,?_,b⟩
 . show q.1.src.drop (Src.dA q.1.src q.1.cM).2=t
   rw[a];exact b
 . show({ q.1 with cM:=(Src.dA q.1.src q.1.cM).2 }:Rd)=_
   rw[a]
end Fo
namespace Src
theorem PI(b s t:List UInt8)(a:Nat)(h:d' s=true)(e:b.drop a=s++10 :: t):dA b a=(s,a+s.length)/\b.drop (a+s.length)=10 :: t:=by
 have g:=qA b s _ a h e;have f:s.all (fun c=>!blank c)=true:=by unfold d' at h;simp only[Bool.and_eq_true]at h;exact h.2
 have i:(b.drop a).takeWhile (fun c=>!blank c)=s:=by rw[e];exact ch f (fun c r e=>by injection e with e _;subst e;rfl)
 have d:=vG b s _ a e;refine⟨?_,d⟩;unfold dA;simp only;rw[g,i,d,if_neg (show ¬ Option.any (fun c=>decide (c.toNat≠10)) ((10:UInt8) :: t).head?=true from fun e=>by cases e)]
end Src
namespace Fo
variable {pf:List UInt8->Option Int} {D:eF} {S:List (List UInt8)} {o f:Int} {m:Option (Int × Int × Int)} {q:Q}
theorem St.src(h:St pf D S o m f q)(s:List UInt8)(a:Nat):St pf D S o m f ({ q.1 with src:=s,cM:=a },q.2):={ h with }
theorem St.go(h:St pf D S o m f q){s t:List UInt8}(e:gY q (s++32 :: t))(g:Src.d' s=true):q.1.dt=s/\St pf D S o m (f-1) (Oo.cH q)/\gY (Oo.cH q) t:=by
 obtain⟨a,b,n,c,i⟩:=Bv e g;have d:=h.cI;refine⟨a,?_,b⟩;unfold Oo.cH;rw[c,d];exact { h with cI:=rfl }
theorem St.skip(h:St pf D S o m f q){s t:List UInt8}(d:gY q (s++32 :: t))(e:Src.d' s=true):q.1.dt=s/\St pf D S o m f (q.1.next,q.2)/\gY (q.1.next,q.2) t:=by
 obtain⟨a,b,n,c,g⟩:=Bv d e;refine⟨a,?_,b⟩;rw[c];exact { h with }
theorem Iv{s:List UInt8}(a:Src.d' s=true)(b:s.length<=31):Rd.gH s=false:=by
 unfold Rd.gH;have:s≠[]:=fun e=>by rw[e]at a;cases a
 simp[this,b]
theorem jZ{r:Rd}{s:List UInt8}(h:r.dt=s)(b:Src.d' s=true)(a:s.length<=31):r.name=(r.next,s,0):=by
 unfold Rd.name;rw[h,Iv b a];rfl
theorem vI{x:Sp}(h:D.In x){w:Wd}{i:Nat}(c:i<D.L.length)(a:(w.xt,1003) ∈ D.fx)(b:(w.xt+8,dG D.A i) ∈ D.fx):Oo.nV x.mem 8 w.xt=(dG D.A i,0):=by
 unfold Oo.nV;rw[h.cell a,h.cell b];simp only;rw[h.iE.is c];simp
structure pY(D:eF)(cn:List UInt8)(i:Nat):Prop where
 d':Src.d' cn=true
 len:cn.length<=31
 lt:i<D.L.length
 dA:∃ w,Mem.dv D.ws (cG cn)=some w/\(w.xt,1003) ∈ D.fx/\(w.xt+8,dG D.A i) ∈ D.fx
theorem qB(h:St pf D S o m f q){b t:List UInt8}{i:Nat}(a:pY D b i)(e:gY q (b++32 :: t)):Oo.cJ q.1=(q.1.next,dG D.A i,0):=by
 obtain⟨c,s,u⟩:=h.skip e a.d';obtain⟨w,n,p,r⟩:=a.dA;obtain⟨ls,k,l,_⟩:=h.eE;have d:q.1.find=(q.1.next,w,0):=by
  unfold Rd.find;rw[jZ c a.d' a.len];simp only[ne_eq,not_true_eq_false,if_false];rw[k,nW h.fQ b l,n]
 unfold Oo.cJ;rw[d,if_neg (by simp)];simp only;have g:q.1.next.v.root=8:=h.root;have j:q.1.next.v.x=q.1.v.x:=rfl;rw[g,j,vI h.fQ a.lt p r]
def Vg(D:eF)(pw:List UInt8):Option Nat->Prop
 | none=>pw=[45]
 | some i=>pY D pw i/\pw≠[45]
theorem Iw(h:St pf D S o m f q){b t:List UInt8}{k:Option Nat}(a:Vg D b k)(e:gY q (b++32 :: t)) :
 ∃ r,Oo.cE q.1=(r,Class.eO D.A k,0)/\St pf D S o m f (r,q.2)/\gY (r,q.2) t:=by
 cases k with
 | none =>
  have a:b=[45]:=a;subst a;obtain⟨c,d,g⟩:=h.skip e (by decide);refine⟨q.1.next,?_,d,g⟩;unfold Oo.cE;rw[c,if_pos rfl];rfl
 | some i =>
  obtain⟨a,s⟩:pY D b i/\b≠[45]:=a;obtain⟨c,d,g⟩:=h.skip e a.d';have j:St pf D S o m f (q.1.next.again (Oo.rest q.1),q.2):=d.src (Oo.rest q.1) 0;have l:gY (q.1.next.again (Oo.rest q.1),q.2) (b++32 :: t):=by
   show(q.1.src.drop q.1.cM).drop 0=_;rw[List.drop_zero];exact e
  obtain⟨u,n,p⟩:=j.skip l a.d';refine⟨(q.1.next.again (Oo.rest q.1)).next,?_,n,p⟩;unfold Oo.cE;rw[c,if_neg s];exact qB j a l
theorem FJ(r:Rd)(u:D.In r.v.x){nm:List UInt8}(i:Src.d' nm=true)(A:nm.length<=31)(c a n:Int)(y:dB c)(s:0<=a)(t:a<=255)(C:dB n)(I:r.v.x.cu+80<=60000) :
 ∃ (x':Sp) (w:Wd),r.make 24 nm c a [n]=({ r with v:={ r.v with x:=x' },ea:=w },w,0)/\w.name=cG nm/\w.cP=a/\r.v.x.cu<=x'.cu/\x'.cu<=r.v.x.cu+64 /\
  eF.In { D with ws:=w :: D.ws,fx:=(w.xt+8,n) :: (w.xt,c) :: D.fx } x':=by
 have E:nm≠[]:=fun e=>by rw[e]at i;cases i
 obtain⟨b,w,d,j,k,F,l,G,g⟩:=u.cO nm a c E A s t y (by omega);have J:=g.iQ w (by simp);obtain⟨p,H,h⟩:=g.cN n C (by omega);have B:r.gI 24 nm c a [n]=({ r with v:={ r.v with x:=b.wr [n] } },0):=by
  unfold Rd.gI Rd.kf;rw[d,if_neg (by simp)];unfold Rd.eR Rd.bind;have z:({ r with v:={ r.v with x:=b } }:Rd).cN n=({ r with v:={ r.v with x:=b.wr [n] } },0):=by
   show((({ r with v:={ r.v with x:=(b.cN n).1 } }:Rd),(b.cN n).2):Rd × Int)=_;rw[p]
  rw[z,if_neg (by simp)];rfl
 refine⟨b.wr [n],w,?_,j,k,by omega,by omega,?_⟩
 . unfold Rd.make
   rw[B,if_neg (by simp),d]
 . rw[<- l]at h
   exact h
theorem D9(q:Q)(s:List UInt8)(p:Int)(y:Sp)(a:Int)(b:Class.new q.1.cY.v.x q.1.cY.v.root p q.1.cY.v.cy=(y,a,0)) :
 Oo.rI q s p=Oo.mj ({ q.1.cY with v:={ q.1.cY.v with x:=y } },{ q.2 with root:=(q.1.cY.v.cell q.1.cY.v.root).1,eN:=a }) s:=by
 unfold Oo.rI;simp only;rw[b,if_neg (by simp)]
theorem Ea(q:Q)(s:List UInt8)(a:Rd)(w:Wd)(b:q.1.make q.1.v.cF s 1003 2 [q.2.eN]=(a,w,0)):Oo.mj q s=Oo.pF (a,{ q.2 with dA:=w }):=by
 unfold Oo.mj;simp only;rw[b,if_neg (by simp)]
theorem Eb(q:Q)(y:Sp)(a:Int)(b:q.1.v.x.cF=(y,a,0)) :
 Oo.pF q=(Oo.order ({ q.1 with v:={ q.1.v with x:=y } },{ q.2 with dq:=Oo.iz q.2.dq (q.1.v.root,q.2.eN) (some a) }) (Oo.iG ({ q.1 with v:={ q.1.v with x:=y } },{ q.2 with dq:=Oo.iz q.2.dq (q.1.v.root,q.2.eN) (some a) }) q.2.eN),0):=by
 unfold Oo.pF;simp only;rw[b,if_neg (by simp)]
theorem Mp(h:St pf D S 0 none f q){F Z t:List UInt8}{k:Option Nat}(M:Src.d' F=true)(X:F.length<=31)(hk:Vg D Z k)(ab:∀ j,k=some j->j<D.L.length)(K:gY q (F++32 :: (Z++32 :: t)))(hr:q.1.v.x.cu+400<=60000) :
 ∃ (p:Q) (w:Wd) (la:Int),Oo.pX q=(p,0)/\w.name=cG F/\w.cP=2/\gY p t/\p.1.v.x.cu<=q.1.v.x.cu+400 /\
  St pf ⟨D.A++[q.1.v.x.cu+232],D.T++[q.1.v.x.cu],Ref.new D.L (Class.cU k) 9,w :: D.ws,(la,0) :: (w.xt+8,q.1.v.x.cu+232) :: (w.xt,1003) :: D.fx⟩ S (q.1.v.x.cu+232) none f p:=by
 obtain⟨W,h2,h3⟩:=h.skip K M;obtain⟨r,O,g,h5⟩:=Iw h2 hk h3;have N:r.v.x=q.1.v.x:=by
  have:=congrArg (fun z=>z.1.v.x) O;simp only at this;rw[<- this];unfold Oo.cE;split
  . rfl
  . unfold Oo.cJ Rd.find Rd.again Rd.name
    repeat' split
    all_goals rfl
 have aa:Oo.apart q=true:=by
  unfold Oo.apart;rw[h.eN,h.comp];rfl
 obtain⟨y,R,g2,U⟩:=g.fQ.pX k ab (by rw[N];omega);have ag:=h.fQ.cu;rw[N]at R g2 U;have ah:(Ref.new D.L (Class.cU k) 9).length=D.L.length+1:=by unfold Ref.new;simp
 obtain⟨C,I⟩:∃ C:Rd,C={ r.cY with v:={ r.cY.v with x:=y } }:=⟨_,rfl⟩;have J:C.v.x=y:=by rw[I]
 obtain⟨B,w,Y,m2,m3,m4,m5,V⟩:=FJ C (by rw[J];exact U) M X 1003 2 (q.1.v.x.cu+232) (by unfold dB;omega) (by decide) (by decide) (by unfold dB;omega) (by rw[J];omega);rw[J]at m4 m5;have g5:=V.Ir (by omega);obtain⟨_,g6,g7⟩:=V.cN 0 (by unfold dB;omega) (by omega);have u:r.cY.v=r.v:=by unfold Rd.cY;split <;> rfl
 have ac:r.cY.src=r.src/\r.cY.cM=r.cM/\r.cY.pf=r.pf/\r.cY.comp=r.comp/\r.cY.eM=r.eM/\r.cY.dy=r.dy:=by unfold Rd.cY;split <;> exact⟨rfl,rfl,rfl,rfl,rfl,rfl⟩
 obtain⟨k1,k2,k3,k4,k5,k6⟩:=ac;obtain⟨H,af⟩:∃ H,H=(r.cY.v.cell r.cY.v.root).1:=⟨_,rfl⟩;obtain⟨b,i⟩:∃ b:Rd,b={ r.cY with v:={ r.cY.v with x:=B.wr [0] },ea:=w }:=⟨_,rfl⟩;obtain⟨n,G⟩:∃ n:Oo,n={ q.2 with root:=H,eN:=q.1.v.x.cu+232,dA:=w,dq:=Oo.iz q.2.dq (r.cY.v.root,q.1.v.x.cu+232) (some B.cu) }:=⟨_,rfl⟩;have hq:Oo.pX q=(Oo.order (b,n) (Oo.iG (b,n) (q.1.v.x.cu+232)),0):=by
  unfold Oo.pX;rw[if_neg (by rw[aa];simp),jZ W M X,if_neg (by simp),O];simp only;rw[if_neg (by simp),W];have hn:Class.new r.cY.v.x r.cY.v.root (Class.eO D.A k) r.cY.v.cy=(y,q.1.v.x.cu+232,0):=by
   rw[u,N];have a1:r.v.root=8:=g.root;have a2:r.v.cy=9:=g.cy;rw[a1,a2];exact R
  rw[D9 (r,q.2) F _ y _ hn];show Oo.mj (({ r.cY with v:={ r.cY.v with x:=y } }:Rd),{ q.2 with root:=(r.cY.v.cell r.cY.v.root).1,eN:=q.1.v.x.cu+232 }) F=_;rw[<- I,<- af];have ad:C.v.cF=24:=by rw[I];show r.cY.v.cF=24;rw[u];exact g.cF
  have ae:({ C with v:={ C.v with x:=B },ea:=w }:Rd)={ r.cY with v:={ r.cY.v with x:=B },ea:=w }:=by rw[I]
  rw[ae]at Y;rw[Ea (C,{ q.2 with root:=H,eN:=q.1.v.x.cu+232 }) F { r.cY with v:={ r.cY.v with x:=B },ea:=w } w ((congrArg (fun z=>C.make z F 1003 2 [q.1.v.x.cu+232]) ad).trans Y)];rw[Eb ({ r.cY with v:={ r.cY.v with x:=B },ea:=w },{ q.2 with root:=H,eN:=q.1.v.x.cu+232,dA:=w }) (B.wr [0]) B.cu g5,i,G]
 refine⟨_,w,B.cu,hq,m2,m3,?_,by show b.v.x.cu<=_;rw[i];show(B.wr [0]).cu<=_;omega,?_⟩
 . show b.src.drop b.cM=t
   rw[i];show r.cY.src.drop r.cY.cM=t;rw[k1,k2];exact h5
 . have P:∀ p l,n.dq p=some l->(l,0) ∈ (B.cu,(0:Int)) :: (w.xt+8,q.1.v.x.cu+232) :: (w.xt,1003) :: D.fx:=by
    intro p l E;rw[G]at E;have E:(if p=(r.cY.v.root,q.1.v.x.cu+232)then some B.cu else q.2.dq p)=some l:=E;split at E
    . injection E with E
      rw[<- E];simp
    . have:=h.tO p l E
      simp[this]
   refine⟨by show eF.In _ b.v.x;rw[i];exact g7,?_,?_,?_,?_,?_,?_,?_,?_,?_,?_,?_,?_,?_,?_,by show n.eN=_;rw[G],?_,?_,?_,P,fun e=>?_,?_⟩
   . show b.v.dD=16;rw[i];show r.cY.v.dD=16;rw[u];exact g.dD
   . show b.v.cF=24;rw[i];show r.cY.v.cF=24;rw[u];exact g.cF
   . show b.v.root=8;rw[i];show r.cY.v.root=8;rw[u];exact g.root
   . show b.v.cy=9;rw[i];show r.cY.v.cy=9;rw[u];exact g.cy
   . show b.v.dL=false;rw[i];show r.cY.v.dL=false;rw[u];exact g.dL
   . show b.v.cV=2824;rw[i];show r.cY.v.cV=2824;rw[u];exact g.cV
   . show b.v.d=_;rw[i];show r.cY.v.d=_;rw[u];exact g.dd
   . show b.v.r=_;rw[i];show r.cY.v.r=_;rw[u];exact g.rr
   . show b.v.cI=f;rw[i];show r.cY.v.cI=f;rw[u];exact g.cI
   . show b.pf=pf;rw[i];show r.cY.pf=pf;rw[k3];exact g.Iu
   . show b.comp=_;rw[i];show r.cY.comp=_;rw[k4];exact g.comp
   . show b.eM=_;rw[i];show r.cY.eM=_;rw[k5];exact g.eM
   . show b.dy=[];rw[i];show r.cY.dy=[];rw[k6];exact g.dy
   . refine⟨Oo.ku (Oo.mem (b,n)) n.dq b.v.root (Class.all (Oo.mem (b,n)) b.v.root).length (q.1.v.x.cu+232),?_,fun a ha=>?_,fun e=>by omega⟩
     . show Oo.iG (b,n) _=_
       unfold Oo.iG;have:b.v.cF=24:=by rw[i];show r.cY.v.cF=24;rw[u];exact g.cF
       simp only[this]
     . obtain⟨p,K⟩:=vH _ _ _ _ _ a ha
       exact P p a K
   . intro _
     exact⟨w,D.ws,rfl,by show n.dA=w;rw[G]⟩
   . intro c s t e
     cases e
   . show n.eH=[]
     rw[G];exact h.eH
   . omega
   . show n.eb=S
     rw[G];exact h.eb
end Fo
namespace eF
def fJ:eF->Int->List Int->eF
 | D,_,[]=>D
 | D,a,n :: l=>fJ { D with fx:=(a,n) :: D.fx } (a+8) l
theorem dO:∀ (l:List Int) (D:eF) (a:Int),(D.fJ a l).A=D.A/\(D.fJ a l).T=D.T/\(D.fJ a l).L=D.L/\(D.fJ a l).ws=D.ws
 | [],_,_=>⟨rfl,rfl,rfl,rfl⟩
 | n :: l,D,a=>dO l { D with fx:=(a,n) :: D.fx } (a+8)
theorem fI:∀ (l:List Int) (D:eF) (a:Int),∀ p ∈ D.fx,p ∈ (D.fJ a l).fx
 | [],_,_,_,h=>h
 | n :: l,D,a,p,h=>fI l { D with fx:=(a,n) :: D.fx } (a+8) p (by simp[h])
theorem lQ:∀ (l:List Int) (D:eF) (a:Int) (j:Nat) (hj:j<l.length),(a+8*(j:Int),l[j]) ∈ (D.fJ a l).fx
 | [],_,_,_,hj=>by cases hj
 | n :: l,D,a,0,_=>fI l { D with fx:=(a,n) :: D.fx } (a+8) _ (by simp)
 | n :: l,D,a,j+1,hj=>by
  have h:=lQ l { D with fx:=(a,n) :: D.fx } (a+8) j (by simpa using hj)
  rw[show a+8*((j+1:Nat):Int)=a+8+8*(j:Int) by omega]
  exact h
end eF
namespace Fo
variable {pf:List UInt8->Option Int} {D:eF} {S:List (List UInt8)} {o f:Int} {m:Option (Int × Int × Int)} {q:Q}
theorem kZ:∀ (l:List Int) {D:eF} (r:Rd),D.In r.v.x->(∀ n ∈ l,dB n)->r.v.x.cu+8*l.length<=60000 ->
 ∃ x':Sp,Rd.eR l r=({ r with v:={ r.v with x:=x' } },0)/\x'.cu=r.v.x.cu+8*l.length/\(D.fJ r.v.x.cu l).In x'
 | [],D,r,h,_,_=>⟨r.v.x,rfl,by simp,h⟩
 | n :: l,D,r,h,hl,hr=>by
  rw[List.length_cons]at hr;obtain⟨e1,e2,h1⟩:=h.cN n (hl n (by simp)) (by omega)
  obtain⟨r1,hr1⟩:∃ r1:Rd,r1={ r with v:={ r.v with x:=r.v.x.wr [n] } }:=⟨_,rfl⟩;have hx1:r1.v.x=r.v.x.wr [n]:=by rw[hr1]
  obtain⟨x',e3,e4,h2⟩:=kZ l r1 (by rw[hx1];exact h1) (fun k hk=>hl k (by simp[hk])) (by rw[hx1,e2];omega)
  have hc:r.cN n=(r1,0):=by
   show((({ r with v:={ r.v with x:=(r.v.x.cN n).1 } }:Rd),(r.v.x.cN n).2):Rd × Int)=_
   rw[e1,hr1]
  refine⟨x',?_,?_,?_⟩
  . unfold Rd.eR Rd.bind
    rw[hc,if_neg (by simp),e3,hr1]
  . rw[e4,hx1,e2,List.length_cons];omega
  . rw[hx1,e2]at h2
    exact h2
theorem St.put(h:St pf D S o m f q){l:List Int}{a:Int}{x':Sp}(d:(D.fJ a l).In x'):St pf (D.fJ a l) S o m f ({ q.1 with v:={ q.1.v with x:=x' } },q.2):=by
 obtain⟨s,t,u,r⟩:=eF.dO l D a;have c:=eF.fI l D a;obtain⟨ls,j,k,n⟩:=h.eE;exact { h with fQ:=d,eE:=⟨ls,j,fun b g=>c _ (k b g),n⟩,dA:=fun e=>by rw[r];exact h.dA e,tO:=fun p l i=>c _ (h.tO p l i) }
theorem Ec(r:Rd):r.cY.v=r.v/\r.cY.src=r.src/\r.cY.cM=r.cM/\r.cY.pf=r.pf/\r.cY.comp=r.comp/\r.cY.eM=r.eM/\r.cY.dy=r.dy:=by unfold Rd.cY;split <;> exact⟨rfl,rfl,rfl,rfl,rfl,rfl,rfl⟩
theorem Ix(h:St pf D S o none f q)(c n:Int){t:List UInt8}(C:gY q t)(U:q.1.v.x.cu+8<=60000) :
 ∃ p,Oo.sI q c n=(p,0)/\gY p t/\p.1.v.x.cu=q.1.v.x.cu+8/\St pf (D.fJ q.1.v.x.cu [1004]) S o (some (c,n,q.1.v.x.cu)) f p:=by
 obtain⟨s,I,J,K,X,Y,Z⟩:=Ec q.1;obtain⟨b,H⟩:∃ b,b=q.1.cY:=⟨_,rfl⟩;rw[<- H]at s I J K X Y Z;have N:b.v.x.align=(b.v.x,0):=Sp.mK (by rw[s];exact h.fQ.al.al);obtain⟨i,u⟩:∃ i:Oo,i={ q.2 with target:=c,cZ:=n,xt:=q.1.v.x.cu }:=⟨_,rfl⟩;obtain⟨g,j⟩:∃ g:Rd,g={ b with eE:=Oo.iG (b,i) c,comp:=true,eM:=true,dy:=[] }:=⟨_,rfl⟩;have F:g.v.x=q.1.v.x:=by rw[j];show b.v.x=_;rw[s]
 obtain⟨x',G,A,B⟩:=kZ [1004] g (by rw[F];exact h.fQ) (fun k R=>by
  have:k=1004:=by simpa using R
  subst this;unfold dB
  omega) (by rw[F];simpa using U)
 rw[F]at A B;have O:g.cN 1004=({ g with v:={ g.v with x:=x' } },0):=by
  have y:=G;unfold Rd.eR Rd.bind at y;by_cases z:(g.cN 1004).2≠0
  . rw[if_pos z]at y;exact y
  . rw[if_neg z]at y
    have z:(g.cN 1004).2=0:=by simpa using z
    exact Prod.ext (congrArg (fun aa=>aa.1) y) z
 have T:Oo.sI q c n=(({ g with v:={ g.v with x:=x' } },i),0):=by
  unfold Oo.sI;simp only;rw[<- H];have W:b.vm (b.v.fB b.v.x.align)=(b,0):=by rw[N];rfl
  rw[W,if_neg (by simp)];simp only;have P:b.v.x.cu=q.1.v.x.cu:=by rw[s]
  rw[P,<- u];have V:(Oo.order (b,i) (Oo.iG (b,i) c)).1.start true=g:=by rw[j];rfl
  rw[V,O];rfl
 have L:St pf D S o (some (c,n,q.1.v.x.cu)) f (g,i):=by
  refine⟨by show D.In g.v.x;rw[F];exact h.fQ,?_,?_,?_,?_,?_,?_,?_,?_,?_,?_,by show g.comp=true;rw[j],by show g.eM=true;rw[j],by show g.dy=[];rw[j],?_,by show i.eN=o;rw[u];exact h.eN,?_,?_,by show i.eH=[];rw[u];exact h.eH,?_,(fun _ e=>by cases e),by show i.eb=S;rw[u];exact h.eb⟩
  . show g.v.dD=16;rw[j];show b.v.dD=16;rw[s];exact h.dD
  . show g.v.cF=24;rw[j];show b.v.cF=24;rw[s];exact h.cF
  . show g.v.root=8;rw[j];show b.v.root=8;rw[s];exact h.root
  . show g.v.cy=9;rw[j];show b.v.cy=9;rw[s];exact h.cy
  . show g.v.dL=false;rw[j];show b.v.dL=false;rw[s];exact h.dL
  . show g.v.cV=2824;rw[j];show b.v.cV=2824;rw[s];exact h.cV
  . show g.v.d=_;rw[j];show b.v.d=_;rw[s];exact h.dd
  . show g.v.r=_;rw[j];show b.v.r=_;rw[s];exact h.rr
  . show g.v.cI=f;rw[j];show b.v.cI=f;rw[s];exact h.cI
  . show g.pf=pf;rw[j];show b.pf=pf;rw[K];exact h.Iu
  . refine⟨Oo.ku (Oo.mem (b,i)) i.dq b.v.root (Class.all (Oo.mem (b,i)) b.v.root).length c,?_,fun a M=>?_,(fun _ e=>by cases e)⟩
    . show g.eE=_
      rw[j];show Oo.iG (b,i) c=_;unfold Oo.iG;have:b.v.cF=24:=by rw[s];exact h.cF
      simp only[this]
    . obtain⟨p,C⟩:=vH _ _ _ _ _ a M
      rw[u]at C;exact h.tO p a C
  . intro e
    obtain⟨w,ws,w1,w2⟩:=h.dA e;exact⟨w,ws,w1,by show i.dA=w;rw[u];exact w2⟩
  . intro c' s' t' e
    injection e with e;injection e with G e;injection e with A B;subst G A B;show i.target=c/\i.cZ=n/\i.xt=_;rw[u];exact⟨rfl,rfl,rfl⟩
  . intro p l E
    have E:i.dq p=some l:=E;rw[u]at E;exact h.tO p l E
 refine⟨_,T,?_,A,L.put B⟩;show g.src.drop g.cM=t;rw[j];show b.src.drop b.cM=t;rw[I,J];exact C
theorem tu(h:St pf D S o m f q){nm t:List UInt8}{a:List (List UInt8)}{n:Int}(c:Src.d' nm=true)(g:nm.length<=31)(j:gY q (nm++32 :: t))(i:gu S nm=(a,n,0)) :
 Oo.cR q=((q.1.next,{ q.2 with eb:=a }),n,0)/\St pf D a o m f (q.1.next,{ q.2 with eb:=a })/\gY (q.1.next,{ q.2 with eb:=a }) t:=by
 obtain⟨b,d,e⟩:=h.skip j c;refine⟨?_,{ d with eb:=rfl },e⟩;unfold Oo.cR;rw[jZ b c g,if_neg (by simp),b,h.eb,i]
theorem Bw(h:St pf D S o none f q)(c:Int){nm t:List UInt8}{a:List (List UInt8)}{n:Int}(w:Src.d' nm=true)(l:nm.length<=31)(s:gY q (nm++32 :: t))(r:gu S nm=(a,n,0))(u:q.1.v.x.cu+8<=60000) :
 ∃ p,Oo.begin q c=(p,0)/\gY p t/\p.1.v.x.cu=q.1.v.x.cu+8/\St pf (D.fJ q.1.v.x.cu [1004]) a o (some (c,n,q.1.v.x.cu)) f p:=by
 obtain⟨b,e,g⟩:=tu h w l s r;have y:q.1.next.v=q.1.v:=rfl;obtain⟨p,d,i,j,k⟩:=Ix e c n g (by rw[show(q.1.next,({ q.2 with eb:=a }:Oo)).1.v=q.1.v from y];exact u);refine⟨p,?_,i,j,k⟩;unfold Oo.begin;rw[b,if_neg (by simp)];exact d
theorem Iy(h:St pf D S o none f q)(g:o≠0){nm t:List UInt8}{a:List (List UInt8)}{n:Int}(k:Src.d' nm=true)(d:nm.length<=31)(i:gY q (nm++32 :: t))(e:gu S nm=(a,n,0))(j:q.1.v.x.cu+8<=60000) :
 ∃ p,Oo.method q=(p,0)/\gY p t/\p.1.v.x.cu=q.1.v.x.cu+8/\St pf (D.fJ q.1.v.x.cu [1004]) a o (some (o,n,q.1.v.x.cu)) f p:=by
 have c:Oo.iK q=true:=by
  unfold Oo.iK;rw[h.eN,h.comp,decide_eq_true g];rfl
 have b:Oo.method q=Oo.begin q o:=by
  unfold Oo.method;rw[if_neg (by rw[c];simp),h.eN]
 rw[b];exact Bw h o k d i e j
theorem Bx(h:St pf D S 0 none f q){b nm t:List UInt8}{i:Nat}{a:List (List UInt8)}{n:Int}(c:pY D b i)(B:Src.d' nm=true)(w:nm.length<=31)(d:gY q (b++32 :: (nm++32 :: t)))(y:gu S nm=(a,n,0))(z:q.1.v.x.cu+8<=60000) :
 ∃ p,Oo.lO q=(p,0)/\gY p t/\p.1.v.x.cu=q.1.v.x.cu+8/\St pf (D.fJ q.1.v.x.cu [1004]) a 0 (some (dG D.A i,n,q.1.v.x.cu)) f p:=by
 have u:Oo.apart q=true:=by
  unfold Oo.apart;rw[h.eN,h.comp];rfl
 obtain⟨C,j,k⟩:=h.skip d c.d';have e:=qB h c d;obtain⟨p,g,l,r,s⟩:=Bw j (dG D.A i) B w k y z;refine⟨p,?_,l,r,s⟩;unfold Oo.lO;rw[if_neg (by rw[u];simp),e,if_neg (by simp)];exact g
theorem vJ(h:St pf D S o m f q){t:List UInt8}(j:gY q t){s:List UInt8}{k:Int}(e:pf s=some k)(g:dB k){l:List Int}(i:∀ n ∈ l,dB n)(u:q.1.v.x.cu+8*(l.length+1)<=60000) :
 ∃ r,q.1.di s l=(r,0)/\gY (r,q.2) t/\r.v.x.cu=q.1.v.x.cu+8*(l.length+1)/\St pf (D.fJ q.1.v.x.cu (k :: l)) S o m f (r,q.2):=by
 have p:q.1.xt s=k:=by unfold Rd.xt;rw[h.Iu,e];rfl
 obtain⟨x',b,c,d⟩:=kZ (k :: l) q.1 h.fQ (fun n a=>by rcases List.mem_cons.1 a with rfl | a;exact g;exact i n a) (by rw[List.length_cons];omega);refine⟨_,?_,?_,?_,h.put d⟩
 . unfold Rd.di
   rw[p];exact b
 . exact j
 . rw[List.length_cons]at c
   show x'.cu=_;omega
theorem Mq{c s x:Int}(h:St pf D S o (some (c,s,x)) f q){i:Nat}(d:i<D.L.length)(C:c=dG D.A i){nm t:List UInt8}{a:List (List UInt8)}{n k:Int}(P:Src.d' nm=true)(G:nm.length<=31)(K:gY q (nm++32 :: t))(I:gu S nm=(a,n,0))(J:dB n)
 (E:pf [40,115,117,112,101,114,41]=some k) (F:dB k) (N:q.1.v.x.cu+24<=60000) :
 ∃ p,Oo.xR q=(p,0)/\gY p t/\p.1.v.x.cu=q.1.v.x.cu+24/\St pf (D.fJ q.1.v.x.cu [k,Class.iq D.A (Ref.get D.L i).cE,n]) a o (some (c,s,x)) f p:=by
 obtain⟨g,j,u⟩:=tu h P G K I;have O:=h.fQ.iE.cT d;have M:dB (Class.iq D.A (Ref.get D.L i).cE):=by
  have:=Mem.fh q.1.v.x.mem (dG D.A i+8);rw[(h.fQ.iE.cells i d).2.1]at this;exact this
 obtain⟨r,b,w,y,B⟩:=vJ j u E F (l:=[Class.iq D.A (Ref.get D.L i).cE,n]) (by intro z e;simp only[List.mem_cons,List.not_mem_nil,or_false]at e;rcases e with rfl | rfl;exact M;exact J) (by simp only[List.length_cons,List.length_nil];exact N);refine⟨_,?_,w,by show r.v.x.cu=q.1.v.x.cu+24;exact y,B⟩;unfold Oo.xR;rw[if_neg (by rw[h.eM];simp),g,if_neg (by simp),(h.Wg c s x rfl).1];have H:Oo.mem (q.1.next,({ q.2 with eb:=a }:Oo))=q.1.v.x.mem:=rfl;simp only;rw[H,C,O];show Oo.rd _ (q.1.next.di _ [Class.iq D.A (Ref.get D.L i).cE,n])=_;have b:q.1.next.di [40,115,117,112,101,114,41] [Class.iq D.A (Ref.get D.L i).cE,n]=(r,0):=b;rw[b];rfl
end Fo
end Go.Proofs.dS
