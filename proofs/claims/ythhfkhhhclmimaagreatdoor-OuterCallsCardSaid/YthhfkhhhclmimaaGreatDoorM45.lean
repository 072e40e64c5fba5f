/- Of CallsG: WRd, WRdA, WRdB, WRdC, WRdD, WRdE, WRdF. No condition. -/
import Derived.Test.YthhfkhhhclmimaaGreatDoorM44
import Derived.Test.YthhfkhhhclmimaaGreatDoorM37
import Derived.Test.YthhfkhhhclmimaaGreatDoorM35
set_option linter.unusedVariables false
set_option linter.unusedSimpArgs false
set_option maxRecDepth 10000
set_option maxHeartbeats 4000000
namespace Go.Proofs.Shed
open Go Go.RowKit Go.Proofs.K Go.Proofs.Cod
structure Gk where
 K:Bk
 ob:Nat
 pm:Nat
 np:Nat
 mm:Nat
 nm:Nat
 fm:List UInt8→Option Value
 reset:Value
structure Dk where
 q:Nat
 oa:Option Addr
 oc:Nat
 ma:Option Addr
 mc:Nat
def Bk.all (K:Bk) (g:Nat):Prop:=K.foot g∨g=K.b∨g=K.hb∨g=K.pb∨K.X g
def Dk.own (D:Dk) (G:Gk) (g:Nat):Prop:=g=G.ob∨g=D.q∨blk D.oa=some g∨blk D.ma=some g∨g=G.pm∨g=G.mm
def Rd.oc (r:Rd) (G:Gk) (D:Dk):Oc:=⟨G.K.mb,D.q,.slice D.oa r.ord.length D.oc,.slice D.ma r.marks.length D.mc,r.comp,r.meth,r.open_,r.last,r.here,r.list,r.is,G.pm,G.mm,G.reset⟩
structure Rd.Ok (r:Rd):Prop where
 src:r.src.length≤1000000
 ord:r.ord.length≤1000000
 marks:r.marks.length≤100
 open0:0≤r.open_.at_
 open1:r.open_.at_≤4194304
 last0:0≤r.last.at_
 last1:r.last.at_≤4194304
structure RRd0 (w:World) (G:Gk) (D:Dk) (r:Rd):Prop where
 fv:RFv w G.K r.v
 oc:ROc w G.ob (r.oc G D)
 src:RSrc w D.q r.src r.at_
 ord:Own w 2 1 D.oa r.ord.length D.oc (r.ord.map (Value.int .i64))
 mks:Own w 380 2 D.ma r.marks.length D.mc (mkM r.marks)
 pm:MapIs sk w G.pm G.np (fun s=>(r.pf s).map (Value.int .i64))
 mm:MapIs sk w G.mm G.nm G.fm
 ap:∀ g,D.own G g→¬ G.K.all g
 ok:r.Ok
def RRd (w:World) (G:Gk) (X:Nat→Prop) (r:Rd):Prop:=∃ D,RRd0 w G D r∧(∀ g,D.own G g∨G.K.all g→X g)∧∀ g,X g→g<w.heap.size
structure Evo (w:World) (X:Nat→Prop) (w':World) (X':Nat→Prop):Prop where
 k:Keeps X w w'
 n:∀ g,X' g→X g∨w.heap.size≤g
theorem Evo.refl (w:World) (X:Nat→Prop):Evo w X w X:=⟨Keeps.refl _ _,fun _ h=>.inl h⟩
theorem Evo.trans {w w1 w2:World} {X X1 X2:Nat→Prop} (h:Evo w X w1 X1) (k:Evo w1 X1 w2 X2):Evo w X w2 X2 :=
 ⟨h.k.trans' k.k (fun i hi e=>(h.n i e).elim id (fun e=>absurd hi (by omega))),fun g hg=>(k.n g hg).elim (fun e=>h.n g e) (fun e=>.inr (Nat.le_trans h.k.size e))⟩
theorem Evo.of {w w':World} {X S:Nat→Prop} (k:Keeps S w w') (h:∀ g,S g→X g):Evo w X w' X:=⟨k.mono (fun g _ e=>h g e),fun _ h=>.inl h⟩
theorem Evo.of0 {w w':World} {X:Nat→Prop} (k:Keeps (fun _=>False) w w'):Evo w X w' X:=Evo.of k (fun _ e=>e.elim)
def PR (G:Gk) (X:Nat→Prop) (w:World) (q:Rd × Int) (e:Ending) (w':World):Prop:=e=.returned (.int .i64 q.2)∧∃ X',RRd w' G X' q.1∧Evo w X w' X'
def PRu (G:Gk) (X:Nat→Prop) (w:World) (r:Rd) (e:Ending) (w':World):Prop:=e=.returned (.tuple #[])∧∃ X',RRd w' G X' r∧Evo w X w' X'
def PRv {β:Type} (V:β→Value) (G:Gk) (X:Nat→Prop) (w:World) (q:Rd × β × Int) (e:Ending) (w':World):Prop:=e=.returned (.tuple #[V q.2.1,.int .i64 q.2.2])∧∃ X',RRd w' G X' q.1∧Evo w X w' X'
def strL (s:List UInt8):Value:=.string ⟨s.toArray⟩
theorem ne_own {w:World} {e:TypeId} {size n c:Nat} {a:Option Addr} {xs:List Value} (h:Own w e size a n c xs) {g:Nat} {cs:Array Value} {t:TypeId} {f:Nat × Nat} (hg:w.heap[g]?=some (.cells cs t f)) (hne:(e == t)=false):blk a≠some g:=by
 intro e1
 rcases h.form with ⟨e2,_⟩ | ⟨g2,cur,e2,h2,_⟩
 · rw [e2] at e1;cases e1
 · rw [e2] at e1
   have:g2=g:=by simpa [blk] using e1
   subst this;rw [h2] at hg;injection hg with hg
   injection hg with _ hg _
   subst hg;simp at hne
theorem ne_own2 {w:World} {e e':TypeId} {size size' n n' c c':Nat} {a a':Option Addr} {xs xs':List Value} (h:Own w e size a n c xs) (h':Own w e' size' a' n' c' xs') (hne:(e == e')=false) {g:Nat} (hg:blk a=some g):blk a'≠some g:=by
 rcases h.form with ⟨e2,_⟩ | ⟨g2,cur,e2,h2,_⟩
 · rw [e2] at hg;cases hg
 · rw [e2] at hg
   have:g2=g:=by simpa [blk] using hg
   subst this;intro e3;exact ne_own h' h2 (by simp at hne ⊢;exact fun e=>hne e.symm) e3
theorem ne_map {w:World} {g b n:Nat} {f:List UInt8→Option Value} {cs:Array Value} {t:TypeId} {fz:Nat × Nat} (hm:MapIs sk w b n f) (hg:w.heap[g]?=some (.cells cs t fz)):g≠b:=fun e=>MapIs.noRow hm cs t fz (e ▸ hg)
theorem ne_mapO {w:World} {b n:Nat} {f:List UInt8→Option Value} (hm:MapIs sk w b n f) {e:TypeId} {size k c:Nat} {a:Option Addr} {xs:List Value} (h:Own w e size a k c xs):blk a≠some b:=by
 intro e1
 rcases h.form with ⟨e2,_⟩ | ⟨g2,cur,e2,h2,_⟩
 · rw [e2] at e1;cases e1
 · rw [e2] at e1
   have:g2=b:=by simpa [blk] using e1
   subst this;exact ne_map hm h2 rfl
namespace RRd0
variable {w w':World} {G:Gk} {D:Dk} {r:Rd}
theorem keeps {S:Nat→Prop} (h:RRd0 w G D r) (k:Keeps S w w') (n:∀ g,D.own G g∨G.K.all g→¬ S g):RRd0 w' G D r :=
 ⟨h.fv.keeps k ⟨n _ (.inr (.inl (.inl rfl))),n _ (.inr (.inl (.inr (.inl rfl)))),n _ (.inr (.inr (.inl rfl))),n _ (.inr (.inl (.inr (.inr (.inl rfl))))),n _ (.inr (.inl (.inr (.inr (.inr (.inl rfl)))))),n _ (.inr (.inl (.inr (.inr (.inr (.inr rfl)))))),n _ (.inr (.inr (.inr (.inl rfl)))),n _ (.inr (.inr (.inr (.inr (.inl rfl)))))⟩ (fun g hg=>n g (.inr (.inr (.inr (.inr (.inr hg)))))),
  h.oc.keeps k (n _ (.inl (.inl rfl))),h.src.keeps k (n _ (.inl (.inr (.inl rfl)))),h.ord.keeps k (fun g hg=>n g (.inl (.inr (.inr (.inl hg))))),h.mks.keeps k (fun g hg=>n g (.inl (.inr (.inr (.inr (.inl hg)))))),h.pm.keeps k (n _ (.inl (.inr (.inr (.inr (.inr (.inl rfl))))))),h.mm.keeps k (n _ (.inl (.inr (.inr (.inr (.inr (.inr rfl))))))),h.ap,h.ok⟩
theorem vm {v':VM} (h:RRd0 w G D r) (hv:RFv w' G.K v') (k:Keeps G.K.foot w w'):RRd0 w' G D { r with v:=v' }:=by
 have n:∀ g,D.own G g→¬ G.K.foot g:=fun g hg e=>h.ap g hg (.inl e)
 exact ⟨hv,h.oc.keeps k (n _ (.inl rfl)),h.src.keeps k (n _ (.inr (.inl rfl))),h.ord.keeps k (fun g hg=>n g (.inr (.inr (.inl hg)))),h.mks.keeps k (fun g hg=>n g (.inr (.inr (.inr (.inl hg))))),h.pm.keeps k (n _ (.inr (.inr (.inr (.inr (.inl rfl)))))),h.mm.keeps k (n _ (.inr (.inr (.inr (.inr (.inr rfl)))))),h.ap,{ h.ok with }⟩
theorem obn (h:RRd0 w G D r):D.q≠G.ob∧blk D.oa≠some G.ob∧blk D.ma≠some G.ob∧G.pm≠G.ob∧G.mm≠G.ob :=
 ⟨ne_type' h.src.head h.oc rfl,ne_own h.ord h.oc rfl,ne_own h.mks h.oc rfl,fun e=>ne_map h.pm h.oc e.symm,fun e=>ne_map h.mm h.oc e.symm⟩
theorem qn (h:RRd0 w G D r):blk D.oa≠some D.q∧blk D.ma≠some D.q∧G.pm≠D.q∧G.mm≠D.q :=
 ⟨ne_own h.ord h.src.head rfl,ne_own h.mks h.src.head rfl,fun e=>ne_map h.pm h.src.head e.symm,fun e=>ne_map h.mm h.src.head e.symm⟩
theorem fvOb {S:Nat→Prop} (h:RRd0 w G D r) (k:Keeps S w w') (hS:∀ g,S g→D.own G g∨w.heap.size≤g):RFv w' G.K r.v:=by
 have hl:=h.fv.lts;have n:∀ g,G.K.all g→g<w.heap.size→¬ S g:=fun g hg hl e=>(hS g e).elim (fun e=>h.ap g e hg) (fun e=>by omega)
 exact h.fv.keeps k ⟨n _ (.inl (.inl rfl)) hl.1,n _ (.inl (.inr (.inl rfl))) hl.2.1,n _ (.inr (.inl rfl)) hl.2.2.1,n _ (.inl (.inr (.inr (.inl rfl)))) hl.2.2.2.1,n _ (.inl (.inr (.inr (.inr (.inl rfl))))) hl.2.2.2.2.1,n _ (.inl (.inr (.inr (.inr (.inr rfl))))) hl.2.2.2.2.2.1,n _ (.inr (.inr (.inl rfl))) hl.2.2.2.2.2.2.1,n _ (.inr (.inr (.inr (.inl rfl)))) hl.2.2.2.2.2.2.2⟩ (fun g hg=>n g (.inr (.inr (.inr (.inr hg)))) (h.fv.xl g hg))
theorem withOb {r':Rd} (h:RRd0 w G D r) (k:Keeps (fun g=>g=G.ob) w w') (hc:ROc w' G.ob (r'.oc G D)) (e:r'.v=r.v∧r'.pf=r.pf∧r'.src=r.src∧r'.at_=r.at_∧r'.ord=r.ord∧r'.marks=r.marks) (ok:r'.Ok):RRd0 w' G D r':=by
 obtain ⟨e1,e2,e3,e4,e5,e6⟩:=e;obtain ⟨n1,n2,n3,n4,n5⟩:=h.obn;refine ⟨?_,hc,?_,?_,?_,?_,h.mm.keeps k n5,h.ap,ok⟩
 · rw [e1];exact h.fvOb k (fun g hg=>.inl (.inl hg))
 · rw [e3,e4];exact h.src.keeps k n1
 · rw [e5];exact h.ord.keeps k (fun g hg e=>n2 (by rw [hg,e]))
 · rw [e6];exact h.mks.keeps k (fun g hg e=>n3 (by rw [hg,e]))
 · rw [e2];exact h.pm.keeps k n4
theorem withObM {r':Rd} (h:RRd0 w G D r) (k:Keeps (fun g=>g=G.ob) w w') (hc:ROc w' G.ob (r'.oc G { D with ma:=none,mc:=0 })) (e:r'.v=r.v∧r'.pf=r.pf∧r'.src=r.src∧r'.at_=r.at_∧r'.ord=r.ord∧r'.marks=[]) (ok:r'.Ok):RRd0 w' G { D with ma:=none,mc:=0 } r':=by
 obtain ⟨e1,e2,e3,e4,e5,e6⟩:=e;obtain ⟨n1,n2,n3,n4,n5⟩:=h.obn;refine ⟨?_,hc,?_,?_,?_,?_,h.mm.keeps k n5,?_,ok⟩
 · rw [e1];exact h.fvOb k (fun g hg=>.inl (.inl hg))
 · rw [e3,e4];exact h.src.keeps k n1
 · rw [e5];exact h.ord.keeps k (fun g hg e=>n2 (by rw [hg,e]))
 · rw [e6];exact Own.nil _ _ _
 · rw [e2];exact h.pm.keeps k n4
 · rintro g (hg | hg | hg | hg | hg | hg)
   · exact h.ap g (.inl hg)
   · exact h.ap g (.inr (.inl hg))
   · exact h.ap g (.inr (.inr (.inl hg)))
   · cases hg
   · exact h.ap g (.inr (.inr (.inr (.inr (.inl hg)))))
   · exact h.ap g (.inr (.inr (.inr (.inr (.inr hg)))))
theorem lts (h:RRd0 w G D r):G.ob<w.heap.size∧D.q<w.heap.size∧G.pm<w.heap.size∧G.mm<w.heap.size:=⟨lt_of_heap h.oc,lt_of_heap h.src.head,h.pm.lt,h.mm.lt⟩
end RRd0
namespace RRd
variable {w w':World} {G:Gk} {X:Nat→Prop} {r:Rd}
theorem ok (h:RRd w G X r):r.Ok:=h.elim fun _ h=>h.1.ok
theorem fv (h:RRd w G X r):RFv w G.K r.v:=h.elim fun _ h=>h.1.fv
theorem keeps {S:Nat→Prop} (h:RRd w G X r) (k:Keeps S w w') (n:∀ g,X g→¬ S g):RRd w' G X r:=by
 obtain ⟨D,h1,h2,h3⟩:=h;exact ⟨D,h1.keeps k (fun g hg=>n g (h2 g hg)),h2,fun g hg=>Nat.lt_of_lt_of_le (h3 g hg) k.size⟩
theorem keeps0 (h:RRd w G X r) (k:Keeps (fun _=>False) w w'):RRd w' G X r:=h.keeps k (fun _ _ e=>e)
theorem vm {v':VM} (h:RRd w G X r) (hv:RFv w' G.K v') (k:Keeps G.K.foot w w'):RRd w' G X { r with v:=v' }:=by
 obtain ⟨D,h1,h2,h3⟩:=h;exact ⟨D,h1.vm hv k,h2,fun g hg=>Nat.lt_of_lt_of_le (h3 g hg) k.size⟩
theorem evo (h:RRd w G X r) (k:Keeps G.K.foot w w'):Evo w X w' X:=by
 obtain ⟨D,h1,h2,h3⟩:=h;exact Evo.of k (fun g hg=>h2 g (.inr (.inl hg)))
theorem evoOb (h:RRd w G X r) (k:Keeps (fun g=>g=G.ob) w w'):Evo w X w' X:=by
 obtain ⟨D,h1,h2,h3⟩:=h;exact Evo.of k (fun g hg=>h2 g (.inl (.inl hg)))
theorem fnew (h:RRd w G X r):¬ X w.heap.size:=fun e=>h.elim fun _ h=>Nat.lt_irrefl _ (h.2.2 _ e)
theorem heap (h:RRd w G X r):∃ D,w.heap[G.ob]?=some (.cells (r.oc G D).cells 59 (0,0)):=h.elim fun D h=>⟨D,h.1.oc⟩
theorem free (h:RRd w G X r) (i:Nat):w.frozen? ⟨G.ob,i,none⟩=false:=h.elim fun _ h=>free_of h.1.oc
theorem o0 (h:RRd w G X r):w.cell? ⟨G.ob,0,none⟩=some (.pointer (some ⟨G.K.mb,0,none⟩)):=h.elim fun _ h=>cell_of h.1.oc rfl
theorem o4 (h:RRd w G X r):w.cell? ⟨G.ob,4,none⟩=some (.bool r.comp):=h.elim fun _ h=>cell_of h.1.oc rfl
theorem o5 (h:RRd w G X r):w.cell? ⟨G.ob,5,none⟩=some (.bool r.meth):=h.elim fun _ h=>cell_of h.1.oc rfl
theorem o6 (h:RRd w G X r):w.cell? ⟨G.ob,6,none⟩=some (.int .i64 r.open_.at_):=h.elim fun _ h=>cell_of h.1.oc rfl
theorem o7 (h:RRd w G X r):w.cell? ⟨G.ob,7,none⟩=some (.int .i64 r.open_.xt):=h.elim fun _ h=>cell_of h.1.oc rfl
theorem o8 (h:RRd w G X r):w.cell? ⟨G.ob,8,none⟩=some (.int .i64 r.open_.flags):=h.elim fun _ h=>cell_of h.1.oc rfl
theorem o9 (h:RRd w G X r):w.cell? ⟨G.ob,9,none⟩=some (.string ⟨r.open_.name.toArray⟩):=h.elim fun _ h=>cell_of h.1.oc rfl
theorem o10 (h:RRd w G X r):w.cell? ⟨G.ob,10,none⟩=some (.int .i64 r.last.at_):=h.elim fun _ h=>cell_of h.1.oc rfl
theorem o11 (h:RRd w G X r):w.cell? ⟨G.ob,11,none⟩=some (.int .i64 r.last.xt):=h.elim fun _ h=>cell_of h.1.oc rfl
theorem o12 (h:RRd w G X r):w.cell? ⟨G.ob,12,none⟩=some (.int .i64 r.last.flags):=h.elim fun _ h=>cell_of h.1.oc rfl
theorem o13 (h:RRd w G X r):w.cell? ⟨G.ob,13,none⟩=some (.string ⟨r.last.name.toArray⟩):=h.elim fun _ h=>cell_of h.1.oc rfl
theorem o14 (h:RRd w G X r):w.cell? ⟨G.ob,14,none⟩=some (.int .i64 r.here):=h.elim fun _ h=>cell_of h.1.oc rfl
theorem o15 (h:RRd w G X r):w.cell? ⟨G.ob,15,none⟩=some (.int .i64 r.list):=h.elim fun _ h=>cell_of h.1.oc rfl
theorem o16 (h:RRd w G X r):w.cell? ⟨G.ob,16,none⟩=some (.bool r.is):=h.elim fun _ h=>cell_of h.1.oc rfl
theorem o17 (h:RRd w G X r):w.cell? ⟨G.ob,17,none⟩=some (.map (some G.pm)):=h.elim fun _ h=>cell_of h.1.oc rfl
theorem o18 (h:RRd w G X r):w.cell? ⟨G.ob,18,none⟩=some (.map (some G.mm)):=h.elim fun _ h=>cell_of h.1.oc rfl
theorem o19 (h:RRd w G X r):w.cell? ⟨G.ob,19,none⟩=some G.reset:=h.elim fun _ h=>cell_of h.1.oc rfl
theorem o3 (h:RRd w G X r):∃ a c,w.cell? ⟨G.ob,3,none⟩=some (.slice a r.marks.length c):=h.elim fun D h=>⟨D.ma,D.mc,cell_of h.1.oc rfl⟩
theorem rmk (h:RRd w G X r):∃ a c,RMk w G.ob 3 a c r.marks:=h.elim fun D h=>⟨D.ma,D.mc,cell_of h.1.oc rfl,free_of h.1.oc,h.1.mks,h.1.obn.2.2.1,lt_of_heap h.1.oc⟩
theorem v0 (h:RRd w G X r):w.cell? ⟨G.K.mb,0,none⟩=some (.pointer (some ⟨G.K.s,0,none⟩)):=h.fv.m0
theorem v1 (h:RRd w G X r):w.cell? ⟨G.K.mb,1,none⟩=some (.pointer (some ⟨G.K.db,0,none⟩)):=h.fv.m1
theorem v2 (h:RRd w G X r):w.cell? ⟨G.K.mb,2,none⟩=some (.pointer (some ⟨G.K.rb,0,none⟩)):=h.fv.m2
theorem v8 (h:RRd w G X r):w.cell? ⟨G.K.mb,8,none⟩=some (.int .i64 r.v.list):=h.fv.m8
theorem v10 (h:RRd w G X r):w.cell? ⟨G.K.mb,10,none⟩=some (.int .i64 r.v.fuel):=h.fv.m10
theorem v13 (h:RRd w G X r):w.cell? ⟨G.K.mb,13,none⟩=some (.bool r.v.over):=h.fv.m13
theorem vs (h:RRd w G X r):w.cell? ⟨G.K.s,0,none⟩=some (.pointer (some ⟨G.K.b,0,none⟩)):=h.fv.ms
theorem lts (h:RRd w G X r):G.ob<w.heap.size∧G.K.mb<w.heap.size∧G.K.s<w.heap.size∧G.K.b<w.heap.size∧G.K.bb<w.heap.size∧G.K.db<w.heap.size∧G.K.rb<w.heap.size:=by
 have h1:=h.fv.lts;exact h.elim fun _ h=>⟨h.1.lts.1,h1.1,h1.2.1,h1.2.2.1,h1.2.2.2.1,h1.2.2.2.2.1,h1.2.2.2.2.2.1⟩
theorem withOb {r':Rd} (h:RRd w G X r) (k:Keeps (fun g=>g=G.ob) w w') (hc:∀ D,w.heap[G.ob]?=some (.cells (r.oc G D).cells 59 (0,0))→ROc w' G.ob (r'.oc G D)) (e:r'.v=r.v∧r'.pf=r.pf∧r'.src=r.src∧r'.at_=r.at_∧r'.ord=r.ord∧r'.marks=r.marks) (ok:r'.Ok):RRd w' G X r':=by
 obtain ⟨D,h1,h2,h3⟩:=h;exact ⟨D,h1.withOb k (hc D h1.oc) e ok,h2,fun g hg=>Nat.lt_of_lt_of_le (h3 g hg) k.size⟩
theorem withObM {r':Rd} (h:RRd w G X r) (k:Keeps (fun g=>g=G.ob) w w') (hc:∀ D,w.heap[G.ob]?=some (.cells (r.oc G D).cells 59 (0,0))→ROc w' G.ob (r'.oc G { D with ma:=none,mc:=0 })) (e:r'.v=r.v∧r'.pf=r.pf∧r'.src=r.src∧r'.at_=r.at_∧r'.ord=r.ord∧r'.marks=[]) (ok:r'.Ok):RRd w' G X r':=by
 obtain ⟨D,h1,h2,h3⟩:=h;refine ⟨_,h1.withObM k (hc D h1.oc) e ok,?_,fun g hg=>Nat.lt_of_lt_of_le (h3 g hg) k.size⟩
 rintro g ((hg | hg | hg | hg | hg | hg) | hg)
 · exact h2 g (.inl (.inl hg))
 · exact h2 g (.inl (.inr (.inl hg)))
 · exact h2 g (.inl (.inr (.inr (.inl hg))))
 · cases hg
 · exact h2 g (.inl (.inr (.inr (.inr (.inr (.inl hg))))))
 · exact h2 g (.inl (.inr (.inr (.inr (.inr (.inr hg))))))
 · exact h2 g (.inr hg)
theorem read (h:RRd w G X r):∃ q,w.cell? ⟨G.ob,1,none⟩=some (.pointer (some ⟨q,0,none⟩))∧RSrc w q r.src r.at_∧X q∧∀ w' n,RSrc w' q r.src n→Keeps (fun g=>g=q) w w'→RRd w' G X { r with at_:=n }:=by
 obtain ⟨D,h1,h2,h3⟩:=h;refine ⟨D.q,cell_of h1.oc rfl,h1.src,h2 _ (.inl (.inr (.inl rfl))),fun w' n hs k=>⟨D,?_,h2,fun g hg=>Nat.lt_of_lt_of_le (h3 g hg) k.size⟩⟩
 obtain ⟨n1,n2,n3,n4⟩:=h1.qn;exact ⟨h1.fvOb k (fun g hg=>.inl (.inr (.inl hg))),h1.oc.keeps k (fun e=>h1.obn.1 e.symm),hs,h1.ord.keeps k (fun g hg e=>n1 (by rw [hg,e])),h1.mks.keeps k (fun g hg e=>n2 (by rw [hg,e])),h1.pm.keeps k n3,h1.mm.keeps k n4,h1.ap,{ h1.ok with }⟩
theorem evoq {q:Nat} (hq:X q) (k:Keeps (fun g=>g=q) w w'):Evo w X w' X:=Evo.of k (fun g e=>by rw [e];exact hq)
theorem lists (h:RRd w G X r):∃ a c,w.cell? ⟨G.ob,2,none⟩=some (.slice a r.ord.length c)∧∀ w',Keeps (fun _=>False) w w'→Own w' 2 1 a r.ord.length c (r.ord.map (Value.int .i64)):=by
 obtain ⟨D,h1,h2,h3⟩:=h;exact ⟨D.oa,D.oc,cell_of h1.oc rfl,fun w' k=>h1.ord.keeps k (fun _ _=>id)⟩
end RRd
theorem RFv.all_lt {w:World} {K:Bk} {v:VM} (h:RFv w K v) {g:Nat} (hg:K.all g):g<w.heap.size:=by
 obtain ⟨l1,l2,l3,l4,l5,l6,l7,l8⟩:=h.lts
 rcases hg with (hg | hg | hg | hg | hg) | hg | hg | hg | hg
 · omega
 · omega
 · omega
 · omega
 · omega
 · omega
 · omega
 · omega
 · exact h.xl g hg
theorem RRd.newSrc {w w1:World} {G:Gk} {X:Nat→Prop} {r:Rd} {q:Nat} {t:List UInt8} (h:RRd w G X r) (k:Keeps (fun _=>False) w w1) (hq:w.heap.size≤q) (s1:RSrc w1 q t 0) (ht:t.length≤1000000) :
 RRd (w1.setCell ⟨G.ob,1,none⟩ (.pointer (some ⟨q,0,none⟩))) G (fun g=>X g∨g=q) (r.again t)∧Evo w X (w1.setCell ⟨G.ob,1,none⟩ (.pointer (some ⟨q,0,none⟩))) (fun g=>X g∨g=q):=by
 obtain ⟨D,h1,h2,h3⟩:=h;have h0:=h1.keeps k (fun _ _ e=>e)
 have ks:Keeps (fun g=>g=G.ob) w1 (w1.setCell ⟨G.ob,1,none⟩ (.pointer (some ⟨q,0,none⟩))):=Keeps.setCell _ _ _ (fun _=>rfl)
 obtain ⟨n1,n2,n3,n4,n5⟩:=h0.obn;have hob:=h1.lts.1;have hqo:q≠G.ob:=by omega
 have hl:=lt_of_heap s1.head;refine ⟨⟨{ D with q:=q },⟨h0.fvOb ks (fun g hg=>.inl (.inl hg)),hset_same h0.oc _,s1.keeps ks hqo,h0.ord.keeps ks (fun g hg e=>n2 (by rw [hg,e])),h0.mks.keeps ks (fun g hg e=>n3 (by rw [hg,e])),h0.pm.keeps ks n4,h0.mm.keeps ks n5,?_,{ h1.ok with src:=ht }⟩,?_,?_⟩,?_⟩
 · rintro g (hg | hg | hg | hg | hg | hg)
   · exact h1.ap g (.inl hg)
   · intro e;have:=h1.fv.all_lt e;have hg:g=q:=hg;omega
   · exact h1.ap g (.inr (.inr (.inl hg)))
   · exact h1.ap g (.inr (.inr (.inr (.inl hg))))
   · exact h1.ap g (.inr (.inr (.inr (.inr (.inl hg)))))
   · exact h1.ap g (.inr (.inr (.inr (.inr (.inr hg)))))
 · rintro g ((hg | hg | hg | hg | hg | hg) | hg)
   · exact .inl (h2 g (.inl (.inl hg)))
   · exact .inr hg
   · exact .inl (h2 g (.inl (.inr (.inr (.inl hg)))))
   · exact .inl (h2 g (.inl (.inr (.inr (.inr (.inl hg))))))
   · exact .inl (h2 g (.inl (.inr (.inr (.inr (.inr (.inl hg)))))))
   · exact .inl (h2 g (.inl (.inr (.inr (.inr (.inr (.inr hg)))))))
   · exact .inl (h2 g (.inr hg))
 · rintro g (hg | hg)
   · exact Nat.lt_of_lt_of_le (h3 g hg) (Nat.le_trans k.size ks.size)
   · have:=ks.size;have hg:g=q:=hg;omega
 · refine ⟨(k.mono (fun _ _ e=>e.elim)).trans (ks.mono (fun g _ e=>?_)),fun g hg=>hg.imp id (fun e=>by have e:g=q:=e;omega)⟩
   rw [e];exact h2 _ (.inl (.inl rfl))
theorem RRd.boxed {w wN wF:World} {G:Gk} {X XN:Nat→Prop} {r':Rd} {o:Obj} (hX:¬ X w.heap.size) (h:RRd wN G XN r') (E:Evo (w.alloc o) X wN XN) (k:Keeps (fun g=>g=w.heap.size) wN wF):∃ X',RRd wF G X' r'∧Evo w X wF X':=by
 have hs:(w.alloc o).heap.size=w.heap.size+1:=World.size_alloc _ _;refine ⟨XN,h.keeps k (fun g hg e=>?_),⟨((Keeps.alloc _ w o).trans E.k).trans' k (fun i hi e=>by have e:i=w.heap.size:=e;omega),fun g hg=>(E.n g hg).imp id (fun e=>by omega)⟩⟩
 have e:g=w.heap.size:=e;subst e;exact (E.n _ hg).elim hX (fun e=>by omega)
theorem RRd.box {w wN:World} {X XN:Nat→Prop} {o:Obj} (hX:¬ X w.heap.size) (E:Evo (w.alloc o) X wN XN):wN.heap[w.heap.size]?=some o:=E.k.heap (halloc_at w o) hX
theorem Sp.alignN_sz (k:Nat) (s:Sp):(Sp.alignN k s).1.mem.size=s.mem.size:=by
 induction k generalizing s with
 | zero=>rfl
 | succ k ih =>
  unfold Sp.alignN;split
  · rfl
  · split
    · exact Sp.char_size _ _
    · rw [ih];exact Sp.char_size _ _
section
variable (K:Bk) (w:World) (v:VM)
theorem fv_comma (n:Int) (h:RFv w K v):Calls Tryz.prog 83 #[.pointer (some ⟨K.s,0,none⟩),.int .i64 n] w (PV K w (v.setSp (v.x.comma n))) :=
 (sp_comma w K.s K.b K.bb v.x n h.vm.sp).mono fun _ _ ⟨he,hx,k⟩=>⟨he,h.withSp k hx (Sp.comma_size _ _),foot_s K k⟩
theorem fv_align (h:RFv w K v):Calls Tryz.prog 147 #[.pointer (some ⟨K.s,0,none⟩)] w (PV K w (v.setSp v.x.align)) :=
 (sp_align w K.s K.b K.bb v.x h.vm.sp).mono fun _ _ ⟨he,hx,k⟩=>⟨he,h.withSp k hx (Sp.alignN_sz _ _),foot_s K k⟩
theorem fv_chars (t:List UInt8) (ht:t.length≤4611686018427387904) (h:RFv w K v):Calls Tryz.prog 151 #[.pointer (some ⟨K.s,0,none⟩),.string ⟨t.toArray⟩] w (PV K w (v.setSp (v.x.chars t))) :=
 (sp_chars w K.s K.b K.bb v.x t ht h.vm.sp).mono fun _ _ ⟨he,hx,k⟩=>⟨he,h.withSp k hx (Sp.chars_size _ _),foot_s K k⟩
theorem fv_back (n:Int) (h:RFv w K v):Calls Tryz.prog 84 #[.pointer (some ⟨K.s,0,none⟩),.int .i64 n] w (PV K w (v.setSp (v.x.back n))) :=
 (sp_back w K.s K.b K.bb v.x n h.vm.sp).mono fun _ _ ⟨he,hx,k⟩=>⟨he,h.withSp k hx (congrArg Mem.size (Sp.back_size _ _)),foot_s K k⟩
theorem fv_here (h:RFv w K v):Calls Tryz.prog 35 #[.pointer (some ⟨K.s,0,none⟩)] w fun e w'=>e=.returned (.int .i64 v.x.here)∧w=w':=sp_here w K.s K.b K.bb v.x h.vm.sp
theorem fv_mark (d:Wd) (fl:Int) (a0:0≤d.at_) (a1:d.at_≤4194304) (f0:0≤fl) (f1:fl≤255) (h:RFv w K v):Calls Tryz.prog 37 #[.pointer (some ⟨K.b,0,none⟩),d.val,.int .i64 fl] w (PV K w (v.mem (v.x.mem.markWd d.at_ fl).1,(v.x.mem.markWd d.at_ fl).2)) :=
 (head_mark w K.b K.bb v.x.mem d fl h.vm.sp.mem a0 a1 f0 f1).mono fun _ _ ⟨he,hm,k⟩=>⟨he,h.withMem k hm (by unfold Mem.markWd;(repeat' split) <;> first | rfl | exact Mem.setCell_size _ _ _),foot_bb K k⟩
theorem fv_find (name:List UInt8) (la:Option Addr) (lc:Nat) (ls:List Int) (hn:name.length≤4194304) (hl:Own w 2 1 la ls.length lc (ls.map (Value.int .i64))) (h6:ls.length≤1000000) (h:RFv w K v) :
 Calls Tryz.prog 42 #[.pointer (some ⟨K.b,0,none⟩),.string ⟨name.toArray⟩,.slice la ls.length lc] w fun e w'=>e=.returned (findV (v.x.mem.find name ls))∧Keeps (fun _=>False) w w' :=
 head_find w K.b K.bb v.x.mem name la ls.length lc ls h.vm.sp.mem hn hl rfl h6
theorem and_size (r:Sp × Int) (f:Sp→Sp × Int) (n:Nat) (h:r.1.mem.size=n) (hf:∀ x:Sp,x.mem.size=n→(f x).1.mem.size=n):(Sp.andThen r f).1.mem.size=n:=by
 unfold Sp.andThen;split
 · exact h
 · exact hf _ h
theorem cr6_size (x:Sp) (list:Int) (name:List UInt8) (fl cd:Int):(x.cr6 list name fl cd).1.mem.size=x.mem.size:=by
 have h0:(x.cr0 list).1.mem.size=x.mem.size:=by unfold Sp.cr0;split;exact Sp.alignN_sz _ _;rfl
 refine and_size _ _ _ (and_size _ _ _ (and_size _ _ _ (and_size _ _ _ (and_size _ _ _ (and_size _ _ _ h0 ?_) ?_) ?_) ?_) ?_) ?_
 · exact fun y hy=>(Sp.comma_size _ _).trans hy
 · exact fun y hy=>(Sp.comma_size _ _).trans hy
 · exact fun y hy=>(Sp.chars_size _ _).trans hy
 · exact fun y hy=>(Sp.alignN_sz _ _).trans hy
 · exact fun y hy=>(Sp.comma_size _ _).trans hy
 · exact fun y hy=>(Mem.setCell_size _ _ _).trans hy
theorem create_size (x:Sp) (list:Int) (name:List UInt8) (fl cd:Int):(x.create list name fl cd).1.mem.size=x.mem.size:=by
 unfold Sp.create;split
 · rfl
 · split
   · rw [Sp.back_size];exact cr6_size x list name fl cd
   · exact cr6_size x list name fl cd
def CrPost (K:Bk) (w:World) (v:VM) (q:Sp × Wd × Int) (e:Ending) (w':World):Prop:=e=.returned (.tuple #[q.2.1.val,.int .i64 q.2.2])∧RFv w' K { v with x:=q.1 }∧Keeps K.foot w w'
theorem fv_create (l:Int) (name:List UInt8) (fl cd:Int) (f0:0≤fl) (f1:fl≤255) (h:RFv w K v):Calls Tryz.prog 82 #[.pointer (some ⟨K.s,0,none⟩),.int .i64 l,.string ⟨name.toArray⟩,.int .i64 fl,.int .i64 cd] w (CrPost K w v (v.x.create l name fl cd)) :=
 (head_create w K.s K.b K.bb v.x l name fl cd h.vm.sp f0 f1).mono fun _ _ ⟨he,hx,k⟩=>⟨he,h.withSp k hx (create_size _ _ _ _ _),foot_s K k⟩
end
theorem zero_i64 (w:World):(zeroValue 2).run Tryz.prog w=.ok (.int .i64 0) w:=by kernel_rfl
section
variable (G:Gk) (X:Nat→Prop) (w:World) (r:Rd)
theorem RRd.pmap {G:Gk} {X:Nat→Prop} {w:World} {r:Rd} (h:RRd w G X r):MapIs sk w G.pm G.np (fun s=>(r.pf s).map (Value.int .i64)):=h.elim fun _ h=>h.1.pm
theorem rd_xt (s:List UInt8) (hs:s.length≤1000000000) (h:RRd w G X r):Calls Tryz.prog 44 #[.pointer (some ⟨G.ob,0,none⟩),.string ⟨s.toArray⟩] w fun e w'=>e=.returned (.int .i64 (r.xt s))∧w=w':=by
 have HM:=h_ h.pmap;have hx:((r.pf s).map (Value.int .i64)).getD (.int .i64 0)=.int .i64 (r.xt s):=by unfold Rd.xt;cases r.pf s <;> rfl
 have HX:=h_ hx;have R0:=h_ h;have E0:=h_ (Evo.refl w X);have o17:=R0.out.o17;clear h hx
 go_enter Tryz.func44,Tryz.ntmps44
 go_wp2_with (first
  | (at_lookup;refine wpList_look1 sk _ rfl _ _ 56 rfl _ Tryz.underlying56 _ (zero_i64 _) G.pm G.np _ rfl HM.out s (show s.length≤maxLen by unfold maxLen;omega) rfl _ rfl ?_;rw [HX.out]))
 go_ret
 exact ⟨rfl,rfl⟩
theorem rd_comma (n:Int) (h:RRd w G X r):Calls Tryz.prog 83 #[.pointer (some ⟨G.K.s,0,none⟩),.int .i64 n] w (PR G X w (r.comma n)) :=
 (fv_comma G.K w r.v n h.fv).mono fun _ _ ⟨he,hv,k⟩=>⟨he,X,h.vm hv k,h.evo k⟩
theorem rd_word (h:RRd w G X r):∃ q,w.cell? ⟨G.ob,1,none⟩=some (.pointer (some ⟨q,0,none⟩))∧Calls Tryz.prog 76 #[.pointer (some ⟨q,0,none⟩)] w fun e w'=>e=.returned (.string ⟨r.nextW.toArray⟩)∧∃ X',RRd w' G X' r.next∧Evo w X w' X':=by
 obtain ⟨q,hq,hs,hx,hr⟩:=h.read;exact ⟨q,hq,(src_word w q r.src r.at_ hs).mono fun _ _ ⟨he,h1,k⟩=>⟨he,X,hr _ _ h1 k,RRd.evoq hx k⟩⟩
theorem rd_name (h:RRd w G X r):Calls Tryz.prog 25 #[.pointer (some ⟨G.ob,0,none⟩)] w (PRv strL G X w r.name):=by
 obtain ⟨q,o1,hw⟩:=rd_word G X w r h;have HW:=h_ hw;have hn:r.name=(r.next,if Rd.badName r.nextW then ([],-16) else (r.nextW,0)):=rfl
 generalize r.name=Q at hn ⊢;have R0:=h_ h;have E0:=h_ (Evo.refl w X);generalize r.nextW=s at HW hn;clear h hw;by_cases h1:s=[]
 · subst h1
   have HN:=h_ (show Q=(r.next,[],-16) from hn)
   clear hn
   go_enter Tryz.func25,Tryz.ntmps25
   go_wp2_with fail;refine (HW.out).mono ?_;rintro e w1 ⟨rfl,X1,r1,k1⟩;have R1:=h_ r1;have E1:=h_ (E0.out.trans k1);clear r1 k1
   try clear o1
   go_wp2_with fail;go_ret2
   rw [HN.out];exact ⟨rfl,_,R1.out,E1.out⟩
 · by_cases h2:31<s.length
   · have HN:=h_ (show Q=(r.next,[],-16) by rw [hn];unfold Rd.badName;simp [h2])
     have d1:s.isEmpty=false:=by cases s with | nil=>exact absurd rfl h1 | cons=>rfl
     have d2:decide ((31:Int)<(s.length:Int))=true:=decide_eq_true (by omega)
     clear hn h1 h2
     go_enter Tryz.func25,Tryz.ntmps25
     go_wp2_with fail;refine (HW.out).mono ?_;rintro e w1 ⟨rfl,X1,r1,k1⟩;have R1:=h_ r1;have E1:=h_ (E0.out.trans k1);clear r1 k1
     try clear o1
     go_wp2_with fail;go_ret2
     rw [HN.out];exact ⟨rfl,_,R1.out,E1.out⟩
   · have HN:=h_ (show Q=(r.next,s,0) by rw [hn];unfold Rd.badName;simp [h1,h2])
     have d1:s.isEmpty=false:=by cases s with | nil=>exact absurd rfl h1 | cons=>rfl
     have d2:decide ((31:Int)<(s.length:Int))=false:=decide_eq_false (by omega)
     clear hn h1 h2
     go_enter Tryz.func25,Tryz.ntmps25
     go_wp2_with fail;refine (HW.out).mono ?_;rintro e w1 ⟨rfl,X1,r1,k1⟩;have R1:=h_ r1;have E1:=h_ (E0.out.trans k1);clear r1 k1
     try clear o1
     go_wp2_with fail;go_ret2
     rw [HN.out];exact ⟨rfl,_,R1.out,E1.out⟩
theorem rd_again (t:List UInt8) (ht:t.length≤1000000) (h:RRd w G X r):Calls Tryz.prog 26 #[.pointer (some ⟨G.ob,0,none⟩),.string ⟨t.toArray⟩] w (PRu G X w (r.again t)):=by
 have HN:=h_ (src_new w t (by omega))
 have R0:=h_ h;have E0:=h_ (Evo.refl w X);have p1:∃ q,w.cell? ⟨G.ob,1,none⟩=some (.pointer (some ⟨q,0,none⟩)):=h.elim fun D h=>⟨D.q,cell_of h.1.oc rfl⟩
 obtain ⟨q0,p1⟩:=p1;have HT:=h_ ht;clear h ht
 go_enter Tryz.func26,Tryz.ntmps26
 go_wp2_with fail;refine HN.out.mono ?_;rintro e w1 ⟨rfl,s1,k1⟩;have q1:=k1.cell p1 id;obtain ⟨q,hq⟩:∃ q,q=w.heap.size:=⟨_,rfl⟩;rw [← hq] at s1 ⊢;have g1:=(R0.out.keeps0 k1).free 1;have HS:=h_ (R0.out.newSrc k1 (by omega) s1 HT.out)
 clear s1 k1 p1 hq;go_wp2_with fail;go_end0
 exact ⟨rfl,_,HS.out.1,HS.out.2⟩
theorem rd_find (h:RRd w G X r):Calls Tryz.prog 271 #[.pointer (some ⟨G.ob,0,none⟩)] w (PRv Wd.val G X w r.find):=by
 have HNM:=h_ fun V (hV:RRd V G X r)=>rd_name G X V r hV
 have hf:r.find=if r.name.2.2≠0 then (r.next,Wd.none,r.name.2.2) else
  match r.v.x.mem.find r.name.2.1 r.ord with
  | some w=>(r.next,w,0)
  | none=>(r.next,Wd.none,-13):=rfl
 have hok:=h.ok.ord
 have hnl:r.name.2.1.length≤31:=by
  unfold Rd.name Rd.badName;simp only
  split
  · simp
  · rename_i h1;simp at h1;exact h1.2
 have hnn:r.name.1=r.next:=rfl;generalize r.find=Q at hf ⊢;generalize r.name=nm0 at HNM hf hnl hnn;obtain ⟨r1,s,e1⟩:=nm0;simp only at hnn hf hnl
 subst hnn;unfold PRv at HNM;simp only at HNM
 have HNX:=h_ h.fnew;have R0:=h_ (h.keeps0 (ka_ w (.cells #[.int .i64 0,.int .i64 0,.int .i64 0,.string ⟨#[]⟩] 53)));have E0:=h_ (Evo.refl (w.alloc (.cells #[.int .i64 0,.int .i64 0,.int .i64 0,.string ⟨#[]⟩] 53)) X);replace HNM:=h_ (HNM.out _ R0.out);clear h;by_cases h1:e1=0
 · subst h1
   rw [if_neg (by simp)] at hf
   have HF:=h_ hf;have HOK:=h_ hok;have HNL:=h_ hnl;have hord:r.next.ord=r.ord:=rfl;have hvv:r.next.v=r.v:=rfl;rw [← hord] at HOK HF;rw [← hvv] at HF;clear hf hok hnl hord hvv;generalize r.next=r at HNM HF HOK
   go_enter Tryz.func271,Tryz.ntmps271
   go_wp2_with fail;refine (HNM.out).mono ?_;rintro e w1 ⟨rfl,X1,r1,k1⟩;have R1:=h_ r1;have E1:=h_ (E0.out.trans k1);clear r1 k1
   skip
   obtain ⟨la,lc,c2,hown⟩:=R1.out.lists;have HOW:=h_ hown;have c0:=R1.out.o0;have m0:=R1.out.v0;have s0:=R1.out.vs;obtain ⟨hob,hmb2,hsb,_⟩:=R1.out.lts;obtain ⟨wq,hwq⟩:∃ wq,wq=w1:=⟨_,rfl⟩;subst hwq;have HFI:=h_ fun V (k:Keeps (fun _=>False) wq V)=>fv_find G.K V r.v s la lc r.ord (by have:=HNL.out;omega) (HOW.out V k) HOK.out (R1.out.fv.keeps0 k)
   clear hown
   cases hd:r.v.x.mem.find s r.ord with
   | none =>
    rw [hd] at HFI HF;clear hd;go_upto_region 4 with fail
    go_cut [6,7] (fun v6 v7 wx=>∃ g:Nat,v6=.pointer (some ⟨g,0,none⟩)∧v7=.bool false∧WdCells g 0 0 0 [] wx∧Keeps (fun _=>False) wq wx)
    case first =>
     go_region_held3 (fun w'=>w'.cell? ⟨G.ob,0,none⟩=some (.pointer (some ⟨G.K.mb,0,none⟩))∧w'.cell? ⟨G.ob,2,none⟩=some (.slice la r.ord.length lc)∧w'.cell? ⟨G.K.mb,0,none⟩=some (.pointer (some ⟨G.K.s,0,none⟩))∧w'.cell? ⟨G.K.s,0,none⟩=some (.pointer (some ⟨G.K.b,0,none⟩)))
      (first | go_keep)
      (first
        | (go_at_call 42;refine (HFI.out (wq.alloc (.cells #[.int .i64 0,.int .i64 0,.int .i64 0,.string ⟨#[]⟩] 53)).drew ((ka_ wq (.cells #[.int .i64 0,.int .i64 0,.int .i64 0,.string ⟨#[]⟩] 53)).trans (Keeps.drew _ _))).mono ?_;rintro e w4 ⟨rfl,k4⟩;dsimp only [findV,Wd.val]
           have ks:=((ka_ wq (.cells #[.int .i64 0,.int .i64 0,.int .i64 0,.string ⟨#[]⟩] 53)).trans (kd_ _)).trans k4;have hz:=k4.heap (show ((wq.alloc (.cells #[.int .i64 0,.int .i64 0,.int .i64 0,.string ⟨#[]⟩] 53)).drew).heap[wq.heap.size]?=_ from halloc_at wq _) id
           have e0:w4.cell? ⟨G.ob,0,none⟩=some (.pointer (some ⟨G.K.mb,0,none⟩)):=ks.cell c0 id;have e2:w4.cell? ⟨G.ob,2,none⟩=some (.slice la r.ord.length lc):=ks.cell c2 id;have em:w4.cell? ⟨G.K.mb,0,none⟩=some (.pointer (some ⟨G.K.s,0,none⟩)):=ks.cell m0 id;have es:w4.cell? ⟨G.K.s,0,none⟩=some (.pointer (some ⟨G.K.b,0,none⟩)):=ks.cell s0 id;have z0:w4.cell? ⟨wq.heap.size,0,none⟩=some (.int .i64 0):=cell_of hz rfl;have z1:w4.cell? ⟨wq.heap.size,1,none⟩=some (.int .i64 0):=cell_of hz rfl;have z2:w4.cell? ⟨wq.heap.size,2,none⟩=some (.int .i64 0):=cell_of hz rfl;have z3:w4.cell? ⟨wq.heap.size,3,none⟩=some (.string ⟨#[]⟩):=cell_of hz rfl;have q0:=free_of (i:=0) hz;have q1:=free_of (i:=1) hz;have q2:=free_of (i:=2) hz;have q3:=free_of (i:=3) hz;have n1:wq.heap.size≠G.ob:=by omega
           have n2:wq.heap.size≠G.K.mb:=by omega
           have n3:wq.heap.size≠G.K.s:=by omega
           have n1':G.ob≠wq.heap.size:=by omega
           have n2':G.K.mb≠wq.heap.size:=by omega
           have n3':G.K.s≠wq.heap.size:=by omega)
        | (go_at_call 42;refine (HFI.out wq.drew (Keeps.drew _ _)).mono ?_;rintro e w4 ⟨rfl,k4⟩;dsimp only [findV,Wd.val]
           have ks:=(kd_ wq).trans k4;have e0:w4.cell? ⟨G.ob,0,none⟩=some (.pointer (some ⟨G.K.mb,0,none⟩)):=ks.cell c0 id;have e2:w4.cell? ⟨G.ob,2,none⟩=some (.slice la r.ord.length lc):=ks.cell c2 id;have em:w4.cell? ⟨G.K.mb,0,none⟩=some (.pointer (some ⟨G.K.s,0,none⟩)):=ks.cell m0 id;have es:w4.cell? ⟨G.K.s,0,none⟩=some (.pointer (some ⟨G.K.b,0,none⟩)):=ks.cell s0 id;have l1:=World.block_lt_of_cell? w4 _ e0;have l2:=World.block_lt_of_cell? w4 _ em
           have l3:=World.block_lt_of_cell? w4 _ es))
     all_goals
      go_wp2_with fail
      go_meet
      refine ⟨_,rfl,rfl,?_⟩
      first
       | (have hB:=set4 (g:=wq.heap.size) hz (.int .i64 0) (.int .i64 0) (.int .i64 0) (.string ⟨#[]⟩)
          have kB:=keeps_set4 ks wq.heap.size (.int .i64 0) (.int .i64 0) (.int .i64 0) (.string ⟨#[]⟩) (Nat.le_refl _)
          exact ⟨hB,kB⟩)
       | (have hA:=halloc_at w4 (.cells #[(.int .i64 0),(.int .i64 0),(.int .i64 0),(.string ⟨#[]⟩)] 53)
          have kA:=ks.trans (ka_ w4 (.cells #[(.int .i64 0),(.int .i64 0),(.int .i64 0),(.string ⟨#[]⟩)] 53))
          exact ⟨hA,kA⟩)
    case rest =>
     obtain ⟨g,rfl,rfl,hw,kc⟩:=hcut;have R2:=h_ (R1.out.keeps0 kc);have E2:=h_ (E1.out.trans (Evo.of0 kc));have HB:=h_ (RRd.box HNX.out E2.out);have a0:=cell_of (i:=0) HB.out rfl;have a1:=cell_of (i:=1) HB.out rfl;have a2:=cell_of (i:=2) HB.out rfl;have a3:=cell_of (i:=3) HB.out rfl;have f0:=free_of (i:=0) HB.out;have f1:=free_of (i:=1) HB.out;have f2:=free_of (i:=2) HB.out;have f3:=free_of (i:=3) HB.out;clear hw kc c0 c2 m0 s0 HFI;go_wp2_with fail;have hB:=set4 HB.out (.int .i64 0) (.int .i64 0) (.int .i64 0) (.string ⟨#[]⟩);have g0:=cell_of (i:=0) hB rfl;have g1:=cell_of (i:=1) hB rfl;have g2:=cell_of (i:=2) hB rfl;have g3:=cell_of (i:=3) hB rfl;exact bodyPost_ret (v:=(.tuple #[Wd.none.val,.int .i64 (-13)])) (by simp [results,Tryz.results271,go_sem,Wd.val,Wd.none,g0,g1,g2,g3]) rfl (by rw [HF.out];exact ⟨rfl,RRd.boxed HNX.out R2.out E2.out (keeps_set4g _ _ _ _ _ _)⟩)
   | some d =>
    rw [hd] at HFI HF;clear hd;obtain ⟨da,dx,df,dn⟩:=d;go_upto_region 4 with fail
    go_cut [6,7] (fun v6 v7 wx=>∃ g:Nat,v6=.pointer (some ⟨g,0,none⟩)∧v7=.bool true∧WdCells g da dx df dn wx∧Keeps (fun _=>False) wq wx)
    case first =>
     go_region_held3 (fun w'=>w'.cell? ⟨G.ob,0,none⟩=some (.pointer (some ⟨G.K.mb,0,none⟩))∧w'.cell? ⟨G.ob,2,none⟩=some (.slice la r.ord.length lc)∧w'.cell? ⟨G.K.mb,0,none⟩=some (.pointer (some ⟨G.K.s,0,none⟩))∧w'.cell? ⟨G.K.s,0,none⟩=some (.pointer (some ⟨G.K.b,0,none⟩)))
      (first | go_keep)
      (first
        | (go_at_call 42;refine (HFI.out (wq.alloc (.cells #[.int .i64 0,.int .i64 0,.int .i64 0,.string ⟨#[]⟩] 53)).drew ((ka_ wq (.cells #[.int .i64 0,.int .i64 0,.int .i64 0,.string ⟨#[]⟩] 53)).trans (Keeps.drew _ _))).mono ?_;rintro e w4 ⟨rfl,k4⟩;dsimp only [findV,Wd.val]
           have ks:=((ka_ wq (.cells #[.int .i64 0,.int .i64 0,.int .i64 0,.string ⟨#[]⟩] 53)).trans (kd_ _)).trans k4;have hz:=k4.heap (show ((wq.alloc (.cells #[.int .i64 0,.int .i64 0,.int .i64 0,.string ⟨#[]⟩] 53)).drew).heap[wq.heap.size]?=_ from halloc_at wq _) id
           have e0:w4.cell? ⟨G.ob,0,none⟩=some (.pointer (some ⟨G.K.mb,0,none⟩)):=ks.cell c0 id;have e2:w4.cell? ⟨G.ob,2,none⟩=some (.slice la r.ord.length lc):=ks.cell c2 id;have em:w4.cell? ⟨G.K.mb,0,none⟩=some (.pointer (some ⟨G.K.s,0,none⟩)):=ks.cell m0 id;have es:w4.cell? ⟨G.K.s,0,none⟩=some (.pointer (some ⟨G.K.b,0,none⟩)):=ks.cell s0 id;have z0:w4.cell? ⟨wq.heap.size,0,none⟩=some (.int .i64 0):=cell_of hz rfl;have z1:w4.cell? ⟨wq.heap.size,1,none⟩=some (.int .i64 0):=cell_of hz rfl;have z2:w4.cell? ⟨wq.heap.size,2,none⟩=some (.int .i64 0):=cell_of hz rfl;have z3:w4.cell? ⟨wq.heap.size,3,none⟩=some (.string ⟨#[]⟩):=cell_of hz rfl;have q0:=free_of (i:=0) hz;have q1:=free_of (i:=1) hz;have q2:=free_of (i:=2) hz;have q3:=free_of (i:=3) hz;have n1:wq.heap.size≠G.ob:=by omega
           have n2:wq.heap.size≠G.K.mb:=by omega
           have n3:wq.heap.size≠G.K.s:=by omega
           have n1':G.ob≠wq.heap.size:=by omega
           have n2':G.K.mb≠wq.heap.size:=by omega
           have n3':G.K.s≠wq.heap.size:=by omega)
        | (go_at_call 42;refine (HFI.out wq.drew (Keeps.drew _ _)).mono ?_;rintro e w4 ⟨rfl,k4⟩;dsimp only [findV,Wd.val]
           have ks:=(kd_ wq).trans k4;have e0:w4.cell? ⟨G.ob,0,none⟩=some (.pointer (some ⟨G.K.mb,0,none⟩)):=ks.cell c0 id;have e2:w4.cell? ⟨G.ob,2,none⟩=some (.slice la r.ord.length lc):=ks.cell c2 id;have em:w4.cell? ⟨G.K.mb,0,none⟩=some (.pointer (some ⟨G.K.s,0,none⟩)):=ks.cell m0 id;have es:w4.cell? ⟨G.K.s,0,none⟩=some (.pointer (some ⟨G.K.b,0,none⟩)):=ks.cell s0 id;have l1:=World.block_lt_of_cell? w4 _ e0;have l2:=World.block_lt_of_cell? w4 _ em
           have l3:=World.block_lt_of_cell? w4 _ es))
     all_goals
      go_wp2_with fail
      go_meet
      refine ⟨_,rfl,rfl,?_⟩
      first
       | (have hB:=set4 (g:=wq.heap.size) hz (.int .i64 da) (.int .i64 dx) (.int .i64 df) (.string ⟨dn.toArray⟩)
          have kB:=keeps_set4 ks wq.heap.size (.int .i64 da) (.int .i64 dx) (.int .i64 df) (.string ⟨dn.toArray⟩) (Nat.le_refl _)
          exact ⟨hB,kB⟩)
       | (have hA:=halloc_at w4 (.cells #[(.int .i64 da),(.int .i64 dx),(.int .i64 df),(.string ⟨dn.toArray⟩)] 53)
          have kA:=ks.trans (ka_ w4 (.cells #[(.int .i64 da),(.int .i64 dx),(.int .i64 df),(.string ⟨dn.toArray⟩)] 53))
          exact ⟨hA,kA⟩)
    case rest =>
     obtain ⟨g,rfl,rfl,hw,kc⟩:=hcut;have x0:wc.cell? ⟨g,0,none⟩=some (.int .i64 da):=cell_of hw rfl;have x1:wc.cell? ⟨g,1,none⟩=some (.int .i64 dx):=cell_of hw rfl;have x2:wc.cell? ⟨g,2,none⟩=some (.int .i64 df):=cell_of hw rfl;have x3:wc.cell? ⟨g,3,none⟩=some (.string ⟨dn.toArray⟩):=cell_of hw rfl;have R2:=h_ (R1.out.keeps0 kc);have E2:=h_ (E1.out.trans (Evo.of0 kc));have HB:=h_ (RRd.box HNX.out E2.out);have a0:=cell_of (i:=0) HB.out rfl;have a1:=cell_of (i:=1) HB.out rfl;have a2:=cell_of (i:=2) HB.out rfl;have a3:=cell_of (i:=3) HB.out rfl;have f0:=free_of (i:=0) HB.out;have f1:=free_of (i:=1) HB.out;have f2:=free_of (i:=2) HB.out;have f3:=free_of (i:=3) HB.out;clear hw kc c0 c2 m0 s0 HFI;go_wp2_with fail;have hB:=set4 HB.out (.int .i64 da) (.int .i64 dx) (.int .i64 df) (.string ⟨dn.toArray⟩);have g0:=cell_of (i:=0) hB rfl;have g1:=cell_of (i:=1) hB rfl;have g2:=cell_of (i:=2) hB rfl;have g3:=cell_of (i:=3) hB rfl;exact bodyPost_ret (v:=(.tuple #[Wd.val ⟨da,dx,df,dn⟩,.int .i64 0])) (by simp [results,Tryz.results271,go_sem,Wd.val,Wd.none,g0,g1,g2,g3]) rfl (by rw [HF.out];exact ⟨rfl,RRd.boxed HNX.out R2.out E2.out (keeps_set4g _ _ _ _ _ _)⟩)
 · rw [if_pos (by simpa using h1)] at hf
   have HF:=h_ hf;have d1:(e1 == 0)=false:=by simp [h1]
   clear hf hok hnl h1
   go_enter Tryz.func271,Tryz.ntmps271
   go_wp2_with fail;refine (HNM.out).mono ?_;rintro e w1 ⟨rfl,X1,r1,k1⟩;have R1:=h_ r1;have E1:=h_ (E0.out.trans k1);clear r1 k1
   skip
   have HB:=h_ (RRd.box HNX.out E1.out);have a0:=cell_of (i:=0) HB.out rfl;have a1:=cell_of (i:=1) HB.out rfl;have a2:=cell_of (i:=2) HB.out rfl;have a3:=cell_of (i:=3) HB.out rfl;have f0:=free_of (i:=0) HB.out;have f1:=free_of (i:=1) HB.out;have f2:=free_of (i:=2) HB.out;have f3:=free_of (i:=3) HB.out;go_wp2_with fail;have hB:=set4 HB.out (.int .i64 0) (.int .i64 0) (.int .i64 0) (.string ⟨#[]⟩);have g0:=cell_of (i:=0) hB rfl;have g1:=cell_of (i:=1) hB rfl;have g2:=cell_of (i:=2) hB rfl;have g3:=cell_of (i:=3) hB rfl;exact bodyPost_ret (v:=(.tuple #[Wd.none.val,.int .i64 e1])) (by simp [results,Tryz.results271,go_sem,Wd.val,Wd.none,g0,g1,g2,g3]) rfl (by rw [HF.out];exact ⟨rfl,RRd.boxed HNX.out R1.out E1.out (keeps_set4g _ _ _ _ _ _)⟩)
end
section
variable (G:Gk) (X:Nat→Prop) (w:World) (r:Rd)
theorem Rd.commas_bad (l:List Int) (r:Rd) (n:Int) (h:(r.comma n).2≠0):Rd.commas (n :: l) r=r.comma n:=by
 show Rd.bind _ _=_
 unfold Rd.bind;rw [if_pos h]
theorem Rd.commas_ok (l:List Int) (r:Rd) (n:Int) (h:(r.comma n).2=0):Rd.commas (n :: l) r=Rd.commas l (r.comma n).1:=by
 show Rd.bind _ _=_
 unfold Rd.bind;rw [if_neg (by simpa using h)]
def Rest (l:List Int) (q Q:Rd × Int):Prop:=if q.2=0 then Rd.commas l q.1=Q else q=Q
theorem Rest.bad {l:List Int} {q Q:Rd × Int} (h:Rest l q Q) (e:q.2≠0):q=Q:=by unfold Rest at h;rwa [if_neg e] at h
theorem Rest.ok {l:List Int} {q Q:Rd × Int} (h:Rest l q Q) (e:q.2=0):Rd.commas l q.1=Q:=by unfold Rest at h;rwa [if_pos e] at h
theorem Rest.step {n:Int} {l:List Int} {r:Rd} {Q:Rd × Int} (h:Rd.commas (n :: l) r=Q):Rest l (r.comma n) Q:=by
 unfold Rest;split
 · rename_i e;rw [← h,Rd.commas_ok l r n e]
 · rename_i e;rw [← h,Rd.commas_bad l r n e]
theorem Rest.done {q Q:Rd × Int} (h:Rest [] q Q):q=Q:=by
 unfold Rest at h;split at h
 · rename_i e;rw [← h];show q=(q.1,0);rw [← e]
 · exact h
theorem rd_compile (s:List UInt8) (a:Option Addr) (c:Nat) (l:List Int) (hs:s.length≤1000000000) (ha:ArgI w a l) (hl:l.length≤100000) (hne:∀ g,blk a=some g→¬ X g∧g<w.heap.size) (h:RRd w G X r) :
 Calls Tryz.prog 33 #[.pointer (some ⟨G.ob,0,none⟩),.string ⟨s.toArray⟩,.slice a l.length c] w (PR G X w (r.compile s l)):=by
 have HXT:=h_ fun V (hV:RRd V G X r)=>rd_xt G X V r s hs hV
 obtain ⟨x,hx⟩:∃ x,x=r.xt s:=⟨_,rfl⟩;have HC:=h_ fun V (hV:RRd V G X r)=>rd_comma G X V r x hV
 have HCR:=h_ fun V Y u n (hV:RRd V G Y u)=>rd_comma G Y V u n hV
 have hq:Rd.commas (x :: l) r=r.compile s l:=by rw [hx];rfl
 generalize r.compile s l=Q at hq ⊢;rw [← hx] at HXT;have HRest:=h_ (Rest.step hq);have R0:=h_ h;have E0:=h_ (Evo.refl w X);have o0:=R0.out.o0;have v0:=R0.out.v0;have HA:=h_ ha;have HNE:=h_ hne;generalize r.comma x=q1 at HC HRest;obtain ⟨r1,e1⟩:=q1;clear h hq hx ha hne
 go_enter Tryz.func33,Tryz.ntmps33
 go_wp2_with fail
 go_region_held3 (fun w'=>w'.cell? ⟨G.ob,0,none⟩=some (.pointer (some ⟨G.K.mb,0,none⟩))∧w'.cell? ⟨G.K.mb,0,none⟩=some (.pointer (some ⟨G.K.s,0,none⟩)))
  (first | go_keep | exact ⟨t0,tv⟩)
  (first
    | (go_at_call 44;refine (HXT.out w.drew (R0.out.keeps0 (Keeps.drew _ _))).mono ?_;rintro e w9 ⟨rfl,rfl⟩;dsimp only)
    | (go_at_call 83;refine (HC.out w.drew (R0.out.keeps0 (Keeps.drew _ _))).mono ?_;rintro e w1 ⟨rfl,X1,rr1,k1⟩;dsimp only;have t0:=rr1.o0;have tv:=rr1.v0))
 have R1:=h_ rr1;have E1:=h_ ((Evo.of0 (kd_ w)).trans k1);clear t0 tv rr1 k1 o0 v0;go_wp2_with fail
 go_loopw [7,23] (fun ev iv wr=>∃ (i:Nat) (q:Rd × Int) (Y:Nat→Prop),ev=.int .i64 q.2∧iv=.int .i64 i∧i≤l.length∧RRd wr G Y q.1∧Evo w X wr Y∧Rest (l.drop i) q Q) (fun _ iv _=>l.length-(intOf iv).toNat)
 case atStart=>exact ⟨0,(r1,e1),X1,rfl,rfl,Nat.zero_le _,R1.out,E1.out,HRest.out⟩
 case round =>
  obtain ⟨i,⟨u,e⟩,Y,rfl,rfl,hi,hr,hev,hrest⟩:=hrel;have R2:=h_ hr;have E2:=h_ hev;have HR:=h_ hrest;clear hr hev hrest;by_cases hlt:i<l.length
  · obtain ⟨g,o,rfl,hc⟩:=HA.out.keeps E2.out.k (fun g hg=>(HNE.out g hg).1) i hlt
    have hd:l.drop i=l[i] :: l.drop (i+1):=List.drop_eq_getElem_cons hlt;have hr2:=HR.out;rw [hd] at hr2;replace HR:=h_ hr2;generalize l[i]=n at hc HR;have hi1:(i:Int)<l.length:=by omega
    clear hd hr2;by_cases he:e=0
    · subst he
      have HS:=h_ (Rest.step (HR.out.ok rfl));have HCC:=h_ (HCR.out wr Y u n R2.out);generalize u.comma n=q at HS HCC;obtain ⟨u3,e3⟩:=q;have o0:=R2.out.o0;have v0:=R2.out.v0;go_wp2_with fail;refine (HCC.out).mono ?_;rintro e w3 ⟨rfl,X3,r3,k3⟩;have R3:=h_ r3;have E3:=h_ (E2.out.trans k3);clear r3 k3
      try clear o0;try clear v0
      go_wp2_with fail
      go_roundw
      case rel=>exact ⟨i+1,(u3,e3),X3,rfl,by go_num,by omega,R3.out,E3.out,HS.out⟩
      case measure=>simp [intOf];omega
    · have d1:(e == 0)=false:=by simp [he]
      have HB:=h_ (HR.out.bad he);have HS:Hid (Rest (l.drop (i+1)) (u,e) Q):=h_ (by unfold Rest;rw [if_neg he];exact HB.out)
      clear he;go_wp2_with fail
      go_roundw
      case rel=>exact ⟨i+1,(u,e),Y,rfl,by go_num,by omega,R2.out,E2.out,HS.out⟩
      case measure=>simp [intOf];omega
  · have hge:i=l.length:=by omega
    subst hge;have hr2:=HR.out;rw [List.drop_length] at hr2;have HF:=h_ hr2.done;have hi1:¬ ((l.length:Int)<l.length):=by omega
    clear hr2;go_wp2_with fail;go_ret
    rw [← HF.out];exact ⟨rfl,_,R2.out,E2.out⟩
theorem Rd.commas_app (l m:List Int) (r:Rd):Rd.commas (l++m) r=Rd.bind (Rd.commas l r) (Rd.commas m):=by
 induction l generalizing r with
 | nil=>rfl
 | cons n l ih =>
  show Rd.bind _ _=Rd.bind (Rd.bind _ _) _
  unfold Rd.bind;by_cases h:(r.comma n).2≠0
  · rw [if_pos h,if_pos h,if_pos h]
  · rw [if_neg h,if_neg h];exact ih _
theorem Rd.commas_pf (l:List Int) (r:Rd):(Rd.commas l r).1.pf=r.pf:=by
 induction l generalizing r with
 | nil=>rfl
 | cons n l ih =>
  show (Rd.bind _ _).1.pf=_
  unfold Rd.bind;split
  · rfl
  · rw [ih];rfl
theorem rd_push (a:Option Addr) (c:Nat) (l:List Int) (ha:ArgI w a l) (hl:l.length≤100000) (hne:∀ g,blk a=some g→¬ X g) (h:RRd w G X r):Calls Tryz.prog 80 #[.pointer (some ⟨G.K.db,0,none⟩),.slice a l.length c] w (PR G X w (r.push l)):=by
 have hx:∀ g,blk a=some g→g≠G.K.db∧g≠G.K.bb:=fun g hg=>by
  obtain ⟨D,h1,h2,h3⟩:=h;exact ⟨fun e=>hne g hg (h2 g (.inr (.inl (.inr (.inr (.inr (.inl e))))))),fun e=>hne g hg (h2 g (.inr (.inl (.inr (.inr (.inl e))))))⟩
 exact (fv_push G.K w r.v h.fv a c l ha (by omega) hx).mono fun _ _ hp=>⟨hp.pv.1,X,h.vm hp.pv.2.1 hp.pv.2.2,h.evo hp.pv.2.2⟩
theorem rd_compile1 (s:List UInt8) (n:Int) (hs:s.length≤1000000000) (h:RRd w G X r) :
 Calls Tryz.prog 33 #[.pointer (some ⟨G.ob,0,none⟩),.string ⟨s.toArray⟩,.slice (some ⟨w.heap.size,0,none⟩) 1 1] (w.alloc (.cells #[.int .i64 n] 2)) (PR G X w (r.compile s [n])):=by
 have ka:=ka_ w (.cells #[.int .i64 n] 2);refine (rd_compile G X _ r s _ 1 [n] hs (argI_1 w n _) (by simp) (fun g hg=>?_) (h.keeps0 ka)).mono ?_
 · cases hg
   exact ⟨h.fnew,by show w.heap.size<_;rw [World.size_alloc];omega⟩
 · rintro e w' ⟨rfl,X',h1,h2⟩
   exact ⟨rfl,X',h1,(Evo.of0 ka).trans h2⟩
theorem rd_compile0 (s:List UInt8) (hs:s.length≤1000000000) (h:RRd w G X r) :
 Calls Tryz.prog 33 #[.pointer (some ⟨G.ob,0,none⟩),.string ⟨s.toArray⟩,.slice none 0 0] w (PR G X w (r.compile s [])) :=
 rd_compile G X w r s none 0 [] hs (fun i hi=>absurd hi (by simp)) (by decide) (fun g hg=>by cases hg) h
theorem rd_literal (a:Option Addr) (c:Nat) (l:List Int) (ha:ArgI w a l) (hl:l.length≤100000) (hne:∀ g,blk a=some g→¬ X g) (h:RRd w G X r) :
 Calls Tryz.prog 28 #[.pointer (some ⟨G.ob,0,none⟩),.slice a l.length c] w (PR G X w (r.literal l)):=by
 have hq:r.literal l=if r.comp then Rd.commas (l.flatMap fun n=>[r.xt [108,105,116],n]) r else r.push l:=rfl
 generalize r.literal l=Q at hq ⊢
 cases hc:r.comp with
 | false =>
  rw [hc,if_neg (by simp)] at hq
  have HP:=h_ (rd_push G X w r a c l ha hl hne h);rw [← hq] at HP;have R0:=h_ h;have E0:=h_ (Evo.refl w X);have o0:=R0.out.o0;have o4:=R0.out.o4;have v1:=R0.out.v1;rw [hc] at o4;clear h ha hne hq
  go_enter Tryz.func28,Tryz.ntmps28
  go_wp2_with fail;refine (HP.out).mono ?_;rintro e w1 ⟨rfl,X1,r1,k1⟩;have R1:=h_ r1;have E1:=h_ (E0.out.trans k1);clear r1 k1
  try clear o0;try clear o4;try clear v1
  go_wp2_with fail;go_ret
  exact ⟨rfl,_,R1.out,E1.out⟩
 | true =>
  rw [hc,if_pos rfl] at hq;have HQ:=h_ hq;have HA:=h_ ha;have HNE:=h_ hne;have R0:=h_ h;have E0:=h_ (Evo.refl w X);have o4:=R0.out.o4;rw [hc] at o4;clear h ha hne hq
  go_enter Tryz.func28,Tryz.ntmps28
  go_wp2_with fail
  go_loopw [24] (fun iv wr=>∃ (i:Nat) (u:Rd) (Y:Nat→Prop),iv=.int .i64 i∧i≤l.length∧RRd wr G Y u∧Evo w X wr Y∧u.pf=r.pf∧Q=Rd.commas ((l.drop i).flatMap fun n=>[r.xt [108,105,116],n]) u) (fun iv _=>l.length-(intOf iv).toNat)
  case atStart=>exact ⟨0,r,X,rfl,Nat.zero_le _,R0.out,E0.out,rfl,HQ.out⟩
  case round =>
   obtain ⟨i,u,Y,rfl,hi,hr,hev,hpf,hrest⟩:=hrel;have R2:=h_ hr;have E2:=h_ hev;have HR:=h_ hrest;have HPF:=h_ hpf;clear hr hev hrest hpf o4;by_cases hlt:i<l.length
   · obtain ⟨g,o,rfl,hcc⟩:=HA.out.keeps E2.out.k (fun g hg=>HNE.out g hg) i hlt
     have hd:l.drop i=l[i] :: l.drop (i+1):=List.drop_eq_getElem_cons hlt;have hr2:=HR.out;rw [hd,List.flatMap_cons,Rd.commas_app] at hr2;generalize l[i]=n at hcc hr2;have hxt:r.xt [108,105,116]=u.xt [108,105,116]:=by unfold Rd.xt;rw [HPF.out]
     have hcm:Rd.commas [r.xt [108,105,116],n] u=u.compile [108,105,116] [n]:=by rw [hxt];rfl
     rw [hcm] at hr2;have HCC:=h_ (rd_compile1 G Y wr u [108,105,116] n (by decide) R2.out)
     have hpc:(u.compile [108,105,116] [n]).1.pf=r.pf:=by rw [← hcm,Rd.commas_pf,HPF.out]
     generalize u.compile [108,105,116] [n]=q at hr2 HCC hpc;obtain ⟨u3,e3⟩:=q;have hi1:(i:Int)<l.length:=by omega
     have HPC:=h_ hpc;clear hd hxt hcm hpc;by_cases he:e3=0
     · subst he
       have hr3:Q=Rd.commas ((l.drop (i+1)).flatMap fun n=>[r.xt [108,105,116],n]) u3:=by
        rw [hr2];unfold Rd.bind;rw [if_neg (by simp)]
       replace HR:=h_ hr3;clear hr2 hr3;go_wp2_with fail;refine (HCC.out).mono ?_;rintro e w3 ⟨rfl,X3,r3,k3⟩;have R3:=h_ r3;have E3:=h_ (E2.out.trans k3);clear r3 k3
       try clear o0;try clear o4;try clear v1
       go_wp2_with fail
       go_roundw
       case rel=>exact ⟨i+1,u3,X3,by go_num,by omega,R3.out,E3.out,HPC.out,HR.out⟩
       case measure=>simp [intOf];omega
     · have hr3:Q=(u3,e3):=by rw [hr2];unfold Rd.bind;rw [if_pos (by simpa using he)]
       replace HR:=h_ hr3;have d1:(e3 == 0)=false:=by simp [he]
       clear hr2 hr3 he;go_wp2_with fail;refine (HCC.out).mono ?_;rintro e w3 ⟨rfl,X3,r3,k3⟩;have R3:=h_ r3;have E3:=h_ (E2.out.trans k3);clear r3 k3
       try clear o0;try clear o4;try clear v1
       go_wp2_with fail;go_ret
       rw [HR.out];exact ⟨rfl,_,R3.out,E3.out⟩
   · have hge:i=l.length:=by omega
     subst hge;have hr2:=HR.out;rw [List.drop_length] at hr2;have HF:=h_ (show Q=(u,0) from hr2)
     have hi1:¬ ((l.length:Int)<l.length):=by omega
     clear hr2;go_wp2_with fail;go_ret
     rw [HF.out];exact ⟨rfl,_,R2.out,E2.out⟩
theorem rd_literal1 (n:Int) (h:RRd w G X r):Calls Tryz.prog 28 #[.pointer (some ⟨G.ob,0,none⟩),.slice (some ⟨w.heap.size,0,none⟩) 1 1] (w.alloc (.cells #[.int .i64 n] 2)) (PR G X w (r.literal [n])):=by
 have ka:=ka_ w (.cells #[.int .i64 n] 2);refine (rd_literal G X _ r _ 1 [n] (argI_1 w n _) (by simp) (fun g hg=>?_) (h.keeps0 ka)).mono ?_
 · cases hg;exact h.fnew
 · rintro e w' ⟨rfl,X',h1,h2⟩
   exact ⟨rfl,X',h1,(Evo.of0 ka).trans h2⟩
theorem rd_literal2 (n m:Int) (h:RRd w G X r):Calls Tryz.prog 28 #[.pointer (some ⟨G.ob,0,none⟩),.slice (some ⟨w.heap.size,0,none⟩) 2 2] (w.alloc (.cells #[.int .i64 n,.int .i64 m] 2)) (PR G X w (r.literal [n,m])):=by
 have ka:=ka_ w (.cells #[.int .i64 n,.int .i64 m] 2);refine (rd_literal G X _ r _ 2 [n,m] (argI_2 w n m _) (by simp) (fun g hg=>?_) (h.keeps0 ka)).mono ?_
 · cases hg;exact h.fnew
 · rintro e w' ⟨rfl,X',h1,h2⟩
   exact ⟨rfl,X',h1,(Evo.of0 ka).trans h2⟩
theorem rd_push2 (n m:Int) (h:RRd w G X r):Calls Tryz.prog 80 #[.pointer (some ⟨G.K.db,0,none⟩),.slice (some ⟨w.heap.size,0,none⟩) 2 2] (w.alloc (.cells #[.int .i64 n,.int .i64 m] 2)) (PR G X w (r.push [n,m])):=by
 have ka:=ka_ w (.cells #[.int .i64 n,.int .i64 m] 2);refine (rd_push G X _ r _ 2 [n,m] (argI_2 w n m _) (by simp) (fun g hg=>?_) (h.keeps0 ka)).mono ?_
 · cases hg;exact h.fnew
 · rintro e w' ⟨rfl,X',h1,h2⟩
   exact ⟨rfl,X',h1,(Evo.of0 ka).trans h2⟩
end
section
variable (G:Gk) (X:Nat→Prop) (w:World) (r:Rd)
theorem keeps_cells3 (w:World) (g i j k:Nat) (a b c:Value):Keeps (fun h=>h=g) w (((w.setCell ⟨g,i,none⟩ a).setCell ⟨g,j,none⟩ b).setCell ⟨g,k,none⟩ c) :=
 ((Keeps.setCell (S:=fun h=>h=g) w ⟨g,i,none⟩ a (fun _=>rfl)).trans (Keeps.setCell _ ⟨g,j,none⟩ b (fun _=>rfl))).trans (Keeps.setCell _ ⟨g,k,none⟩ c (fun _=>rfl))
theorem rd_kept (h:RRd w G X r):Calls Tryz.prog 38 #[.pointer (some ⟨G.ob,0,none⟩)] w (PRu G X w r.kept):=by
 have ks:=keeps_cells3 w G.ob 14 15 16 (.int .i64 0) (.int .i64 0) (.bool false);have R1:=h_ (h.withOb (r':=r.kept) ks (fun D hc=>hset_same (hset_same (hset_same hc _) _) _) ⟨rfl,rfl,rfl,rfl,rfl,rfl⟩ { h.ok with })
 have E1:=h_ (h.evoOb ks);have R0:=h_ h;have E0:=h_ (Evo.refl w X);have o14:=R0.out.o14;have o15:=R0.out.o15;have o16:=R0.out.o16;have f14:=h.free 14;have f15:=h.free 15;have f16:=h.free 16;clear h ks
 go_enter Tryz.func38,Tryz.ntmps38
 go_wp2_with fail;go_end0
 exact ⟨rfl,_,R1.out,E1.out⟩
theorem rd_start (m:Bool) (h:RRd w G X r):Calls Tryz.prog 32 #[.pointer (some ⟨G.ob,0,none⟩),.bool m] w (PRu G X w (r.start m)):=by
 have ks:=keeps_cells3 w G.ob 4 5 3 (.bool true) (.bool m) (.slice none 0 0);have R1:=h_ (h.withObM (r':=r.start m) ks (fun D hc=>hset_same (hset_same (hset_same hc _) _) _) ⟨rfl,rfl,rfl,rfl,rfl,rfl⟩ { h.ok with marks:=Nat.zero_le _ })
 have E1:=h_ (h.evoOb ks);have R0:=h_ h;have E0:=h_ (Evo.refl w X);have o4:=R0.out.o4;have o5:=R0.out.o5;obtain ⟨a3,c3,o3⟩:=h.o3;have f4:=h.free 4;have f5:=h.free 5;have f3:=h.free 3;clear h ks
 go_enter Tryz.func32,Tryz.ntmps32
 go_wp2_with fail;go_end0
 exact ⟨rfl,_,R1.out,E1.out⟩
theorem rd_stop (h:RRd w G X r):Calls Tryz.prog 36 #[.pointer (some ⟨G.ob,0,none⟩)] w (PR G X w r.stop):=by
 have hq:r.stop=if r.comp=false∨r.marks≠[] then (r,-22) else ({ r with comp:=false },0):=rfl
 generalize r.stop=Q at hq ⊢
 cases hc:r.comp with
 | false =>
  rw [if_pos (.inl hc)] at hq;have HQ:=h_ hq;have R0:=h_ h;have E0:=h_ (Evo.refl w X);have o4:=R0.out.o4;rw [hc] at o4;clear h hq
  go_enter Tryz.func36,Tryz.ntmps36
  go_wp2_with fail;go_ret
  rw [HQ.out];exact ⟨rfl,_,R0.out,E0.out⟩
 | true =>
  obtain ⟨am,cm,hm⟩:=h.rmk;have HC:=h_ (closed_any G.ob 3 am cm r.marks w hm (by have:=h.ok.marks;omega))
  have ks:Keeps (fun g=>g=G.ob) w (w.setCell ⟨G.ob,4,none⟩ (.bool false)):=Keeps.setCell _ _ _ (fun _=>rfl)
  have R1:=h_ (h.withOb (r':={ r with comp:=false }) ks (fun D hc=>hset_same hc _) ⟨rfl,rfl,rfl,rfl,rfl,rfl⟩ { h.ok with })
  have E1:=h_ (h.evoOb ks);have R0:=h_ h;have E0:=h_ (Evo.refl w X);have o4:=R0.out.o4;have f4:=h.free 4;rw [hc] at o4
  cases hb:r.marks == [] with
  | true =>
   have hb2:r.marks=[]:=by simpa using hb
   rw [if_neg (by rw [hc,hb2];simp)] at hq
   have HQ:=h_ hq;rw [hb] at HC;clear h hq hm ks hb hb2 hc
   go_enter Tryz.func36,Tryz.ntmps36
   go_wp2_with (first
    | (refine HC.out.mono ?_;rintro e w' ⟨rfl,rfl⟩))
   go_ret
   rw [HQ.out];exact ⟨rfl,_,R1.out,E1.out⟩
  | false =>
   have hb2:¬ r.marks=[]:=by simpa using hb
   rw [if_pos (.inr hb2)] at hq;have HQ:=h_ hq;rw [hb] at HC;clear h hq hm ks hb hb2 hc
   go_enter Tryz.func36,Tryz.ntmps36
   go_wp2_with (first
    | (refine HC.out.mono ?_;rintro e w' ⟨rfl,rfl⟩))
   go_ret
   rw [HQ.out];exact ⟨rfl,_,R0.out,E0.out⟩
theorem rd_keep (h:RRd w G X r):Calls Tryz.prog 30 #[.pointer (some ⟨G.ob,0,none⟩)] w (PRu G X w r.keep):=by
 cases hi:r.is with
 | true =>
  have hq:r.keep=r:=by unfold Rd.keep;rw [hi];rfl
  rw [hq];have R0:=h_ h;have E0:=h_ (Evo.refl w X);have o16:=R0.out.o16;rw [hi] at o16;clear h hq hi
  go_enter Tryz.func30,Tryz.ntmps30
  go_wp2_with fail;go_end0
  exact ⟨rfl,_,R0.out,E0.out⟩
 | false =>
  have hq:r.keep={ r with here:=r.v.x.here,list:=(r.v.cell r.v.list).1,is:=true }:=by unfold Rd.keep;rw [hi];rfl
  rw [hq];have HC:=h_ fun V (hV:RFv V G.K r.v)=>fv_cell G.K V r.v r.v.list hV
  have HH:=h_ fun V (hV:RFv V G.K r.v)=>fv_here G.K V r.v hV
  generalize r.v.cell r.v.list=p at HC ⊢;obtain ⟨n,e0⟩:=p;simp only at HC ⊢
  generalize r.v.x.here=hh at HH ⊢;have R0:=h_ h;have E0:=h_ (Evo.refl w X);have o0:=R0.out.o0;have v0:=R0.out.v0;have v8:=R0.out.v8;have vs:=R0.out.vs;have o14:=R0.out.o14;have o15:=R0.out.o15;have o16:=R0.out.o16;rw [hi] at o16;have HI:=h_ hi;clear h hq hi
  go_enter Tryz.func30,Tryz.ntmps30
  go_wp2_with fail
  go_region_held3 (fun w'=>w'.cell? ⟨G.ob,0,none⟩=some (.pointer (some ⟨G.K.mb,0,none⟩))∧w'.cell? ⟨G.K.mb,0,none⟩=some (.pointer (some ⟨G.K.s,0,none⟩))∧w'.cell? ⟨G.K.mb,8,none⟩=some (.int .i64 r.v.list)∧w'.cell? ⟨G.K.s,0,none⟩=some (.pointer (some ⟨G.K.b,0,none⟩)))
   (first | go_keep)
   (first | (go_at_call 81;refine (HC.out w.drew (R0.out.keeps0 (Keeps.drew _ _)).fv).mono ?_;rintro e w9 ⟨rfl,rfl⟩;dsimp only))
  try change wpList _ _ _ _ _ w.drew
  replace R0:=h_ (R0.out.keeps0 (kd_ w));replace E0:=h_ (E0.out.trans (Evo.of0 (kd_ w)))
  try clear o0;try clear o14;try clear o15;try clear o16;try clear v0;try clear v8;try clear vs
  generalize w.drew=w1 at R0 E0 ⊢;have o0:=R0.out.o0;have v0:=R0.out.v0;have vs:=R0.out.vs;have o14:=R0.out.o14;have o15:=R0.out.o15;have o16:=R0.out.o16;rw [HI.out] at o16;have f14:=R0.out.free 14;have f15:=R0.out.free 15;have f16:=R0.out.free 16;go_wp2_with fail;refine (HH.out _ R0.out.fv).mono ?_;rintro e w' ⟨rfl,rfl⟩;have ks:=keeps_cells3 w1 G.ob 14 15 16 (.int .i64 hh) (.int .i64 n) (.bool true);have R1:=h_ (R0.out.withOb (r':={ r with here:=hh,list:=n,is:=true }) ks (fun D hc=>hset_same (hset_same (hset_same hc _) _) _) ⟨rfl,rfl,rfl,rfl,rfl,rfl⟩ { R0.out.ok with })
  have E1:=h_ (E0.out.trans (R0.out.evoOb ks));clear ks;go_wp2_with fail;go_end0
  exact ⟨rfl,_,R1.out,E1.out⟩
end
theorem create_at (x:Sp) (h:x.Ok) (hs:x.mem.size≤4194304) (list:Int) (s:List UInt8) (fl cd:Int):0≤(x.create list s fl cd).2.1.at_∧(x.create list s fl cd).2.1.at_≤4194304:=by
 have h0:(x.cr0 list).1.Ok∧(x.cr0 list).1.mem.size=x.mem.size:=by
  unfold Sp.cr0;split
  · exact ⟨Sp.align_ok h,Sp.alignN_sz _ _⟩
  · exact ⟨h,rfl⟩
 obtain ⟨⟨h1,h2,h3,h4⟩,h5⟩:=h0;unfold Sp.create;split
 · exact ⟨Int.le_refl _,by show (0:Int)≤_;decide⟩
 · split
   · exact ⟨Int.le_refl _,by show (0:Int)≤_;decide⟩
   · refine ⟨?_,?_⟩ <;> simp only <;> omega
section
variable (G:Gk) (X:Nat→Prop) (w:World) (r:Rd)
theorem keeps_cells4 (w:World) (g i j k l:Nat) (a b c d:Value):Keeps (fun h=>h=g) w ((((w.setCell ⟨g,i,none⟩ a).setCell ⟨g,j,none⟩ b).setCell ⟨g,k,none⟩ c).setCell ⟨g,l,none⟩ d) :=
 (keeps_cells3 w g i j k a b c).trans (Keeps.setCell _ ⟨g,l,none⟩ d (fun _=>rfl))
theorem rd_back (n:Int) (h:RRd w G X r):Calls Tryz.prog 84 #[.pointer (some ⟨G.K.s,0,none⟩),.int .i64 n] w (PR G X w (r.vm (r.v.setSp (r.v.x.back n)))) :=
 (fv_back G.K w r.v n h.fv).mono fun _ _ ⟨he,hv,k⟩=>⟨he,X,h.vm hv k,h.evo k⟩
theorem rd_setCell (a n:Int) (h:RRd w G X r):Calls Tryz.prog 85 #[.pointer (some ⟨G.K.b,0,none⟩),.int .i64 a,.int .i64 n] w (PR G X w (r.setCell a n)) :=
 (fv_setCell G.K w r.v a n h.fv).mono fun _ _ ⟨he,hv,k⟩=>⟨he,X,h.vm hv k,h.evo k⟩
theorem rd_headCreate (l:Int) (name:List UInt8) (fl cd:Int) (f0:0≤fl) (f1:fl≤255) (h:RRd w G X r):Calls Tryz.prog 82 #[.pointer (some ⟨G.K.s,0,none⟩),.int .i64 l,.string ⟨name.toArray⟩,.int .i64 fl,.int .i64 cd] w
 fun e w'=>e=.returned (.tuple #[(r.v.x.create l name fl cd).2.1.val,.int .i64 (r.v.x.create l name fl cd).2.2])∧∃ X',RRd w' G X' (r.made l name cd fl)∧Evo w X w' X' :=
 (fv_create G.K w r.v l name fl cd f0 f1 h.fv).mono fun _ _ ⟨he,hv,k⟩=>⟨he,X,h.vm hv k,h.evo k⟩
theorem rd_make (list:Int) (s:List UInt8) (n fl:Int) (a:Option Addr) (c:Nat) (l:List Int) (f0:0≤fl) (f1:fl≤255) (ha:ArgI w a l) (hl:l.length≤100000) (hne:∀ g,blk a=some g→¬ X g∧g<w.heap.size) (h:RRd w G X r) :
 Calls Tryz.prog 31 #[.pointer (some ⟨G.ob,0,none⟩),.int .i64 list,.string ⟨s.toArray⟩,.int .i64 n,.int .i64 fl,.slice a l.length c] w (PRv Wd.val G X w (r.make list s n fl l)):=by
 have hq:r.make list s n fl l=if (r.made2 list s n fl l).2≠0 then ((r.made2 list s n fl l).1.backTo r.v.x.here list (r.v.cell list).1,Wd.none,(r.made2 list s n fl l).2)
  else ({ (r.made2 list s n fl l).1 with last:=(r.v.x.create list s fl n).2.1 },(r.v.x.create list s fl n).2.1,0):=rfl
 have hbd:=create_at r.v.x h.fv.vm.sp.ok h.fv.vm.sp.mem.le list s fl n
 have hrest:Rest l (r.made list s n fl,(r.v.x.create list s fl n).2.2) (r.made2 list s n fl l):=by
  unfold Rest Rd.made2;simp only
  split
  · rename_i e;rw [if_neg (by simpa using e)]
  · rfl
 have HCR:=h_ fun V (hV:RRd V G X r)=>rd_headCreate G X V r list s fl n f0 f1 hV
 have HCM:=h_ fun V Y u n (hV:RRd V G Y u)=>rd_comma G Y V u n hV
 have HH:=h_ fun V (hV:RFv V G.K r.v)=>fv_here G.K V r.v hV
 have HC:=h_ fun V (hV:RFv V G.K r.v)=>fv_cell G.K V r.v list hV
 generalize r.make list s n fl l=Q at hq ⊢;generalize r.made2 list s n fl l=q2 at hq hrest;generalize r.v.x.create list s fl n=cr at hq hrest hbd HCR;generalize r.made list s n fl=rm at hrest HCR;generalize r.v.x.here=hh at hq HH;generalize r.v.cell list=cc at hq HC;obtain ⟨was,cce⟩:=cc;obtain ⟨x1,⟨da,dx,df,dn⟩,ce⟩:=cr;obtain ⟨u2,e2⟩:=q2;simp only at hq hrest hbd HCR HC
 have HQ:=h_ hq;have HRest:=h_ hrest;have HBD:=h_ hbd;have HA:=h_ ha;have HNE:=h_ hne;have HNX:=h_ h.fnew;have R0:=h_ (h.keeps0 (ka_ w (.cells #[.int .i64 0,.int .i64 0,.int .i64 0,.string ⟨#[]⟩] 53)));have E0:=h_ (Evo.refl (w.alloc (.cells #[.int .i64 0,.int .i64 0,.int .i64 0,.string ⟨#[]⟩] 53)) X);clear h hq hrest hbd ha hne;have o0:=R0.out.o0;have v0:=R0.out.v0;have vs:=R0.out.vs
 go_enter Tryz.func31,Tryz.ntmps31
 go_wp2_with fail;refine (HH.out _ R0.out.fv).mono ?_;rintro e w' ⟨rfl,rfl⟩;go_wp2_with fail;refine (HC.out _ R0.out.fv).mono ?_;rintro e w' ⟨rfl,rfl⟩;go_wp2_with fail;unfold Wd.val at HCR;simp only at HCR
 refine (HCR.out _ R0.out).mono ?_;rintro e w1 ⟨rfl,X1,r1,k1⟩;have R1:=h_ r1;have E1:=h_ (E0.out.trans k1);clear r1 k1
 try clear o0;try clear v0;try clear vs
 go_upto_region 4 with fail;have ka:=ka_ w1 (.cells #[.int .i64 da,.int .i64 dx,.int .i64 df,.string ⟨dn.toArray⟩] 53);have HZ:=h_ (halloc_at w1 (.cells #[.int .i64 da,.int .i64 dx,.int .i64 df,.string ⟨dn.toArray⟩] 53));have R2:=h_ (R1.out.keeps0 ka);have E2:=h_ (E1.out.trans (Evo.of0 ka));have NX17:=h_ R1.out.fnew;obtain ⟨g17,hg17⟩:∃ g17,g17=w1.heap.size:=⟨_,rfl⟩;rw [← hg17] at HZ NX17 ⊢;generalize w1.alloc (.cells #[.int .i64 da,.int .i64 dx,.int .i64 df,.string ⟨dn.toArray⟩] 53)=w2 at HZ R2 E2 ⊢;clear ka hg17 HCR R1 E1;go_wp2_with fail
 go_loopw [18,61] (fun ev iv wr=>∃ (i:Nat) (q:Rd × Int) (Y:Nat→Prop),ev=.int .i64 q.2∧iv=.int .i64 i∧i≤l.length∧RRd wr G Y q.1∧Evo w2 X1 wr Y∧Rest (l.drop i) q (u2,e2)) (fun _ iv _=>l.length-(intOf iv).toNat)
 case atStart=>exact ⟨0,(rm,ce),X1,rfl,rfl,Nat.zero_le _,R2.out,Evo.refl _ _,HRest.out⟩
 case round =>
  obtain ⟨i,⟨u,e⟩,Y,rfl,rfl,hi,hr,hev,hrest⟩:=hrel;have R3:=h_ hr;have EL:=h_ hev;have E3:=h_ (E2.out.trans hev);have HR:=h_ hrest;clear hr hev hrest;by_cases hlt:i<l.length
  · have hak:ArgI w2 a l:=(HA.out.keeps (ka_ w _) (fun _ _=>id)).keeps E2.out.k (fun g hg=>(HNE.out g hg).1)
    obtain ⟨g,o,rfl,hc⟩:=hak.keeps EL.out.k (fun g hg e=>(E2.out.n g e).elim (HNE.out g hg).1 (fun e=>by have:=(HNE.out g hg).2;rw [World.size_alloc] at e;omega)) i hlt
    have hd:l.drop i=l[i] :: l.drop (i+1):=List.drop_eq_getElem_cons hlt;have hr2:=HR.out;rw [hd] at hr2;replace HR:=h_ hr2;generalize l[i]=m at hc HR;have hi1:(i:Int)<l.length:=by omega
    clear hd hr2 hak;by_cases he:e=0
    · subst he
      have HS:=h_ (Rest.step (HR.out.ok rfl));have HCC:=h_ (HCM.out wr Y u m R3.out);generalize u.comma m=q at HS HCC;obtain ⟨u3,e3⟩:=q;have o0:=R3.out.o0;have v0:=R3.out.v0;go_wp2_with fail;refine HCC.out.mono ?_;rintro e w4 ⟨rfl,X4,r4,k4⟩;have R4:=h_ r4;have E4:=h_ (EL.out.trans k4);clear r4 k4
      try clear o0;try clear v0;try clear vs
      go_wp2_with fail
      go_roundw
      case rel=>exact ⟨i+1,(u3,e3),X4,rfl,by go_num,by omega,R4.out,E4.out,HS.out⟩
      case measure=>simp [intOf];omega
    · have d1:(e == 0)=false:=by simp [he]
      have HB:=h_ (HR.out.bad he);have HS:Hid (Rest (l.drop (i+1)) (u,e) (u2,e2)):=h_ (by unfold Rest;rw [if_neg he];exact HB.out)
      clear he;go_wp2_with fail
      go_roundw
      case rel=>exact ⟨i+1,(u,e),Y,rfl,by go_num,by omega,R3.out,EL.out,HS.out⟩
      case measure=>simp [intOf];omega
  · have hge:i=l.length:=by omega
    subst hge;have hr2:=HR.out;rw [List.drop_length] at hr2;have hf:=hr2.done;injection hf with hf1 hf2
    subst hf1 hf2;have hi1:¬ ((l.length:Int)<l.length):=by omega
    have Z3:=h_ (EL.out.k.heap HZ.out NX17.out);have NY17:=h_ (show ¬ Y g17 from fun e'=>(EL.out.n _ e').elim NX17.out (fun h=>by have:=lt_of_heap HZ.out;omega))
    clear hr2 HRest HZ;by_cases he:e=0
    · subst he
      rw [if_neg (by simp)] at HQ
      have ks:=keeps_cells4 wr G.ob 10 11 12 13 (.int .i64 da) (.int .i64 dx) (.int .i64 df) (.string ⟨dn.toArray⟩);have R4:=h_ (R3.out.withOb (r':={ u with last:=⟨da,dx,df,dn⟩ }) ks (fun D hc=>hset_same (hset_same (hset_same (hset_same hc _) _) _) _) ⟨rfl,rfl,rfl,rfl,rfl,rfl⟩ { R3.out.ok with last0:=HBD.out.1,last1:=HBD.out.2 })
      have E4:=h_ (E3.out.trans (R3.out.evoOb ks));have HB:=h_ (RRd.box HNX.out E3.out)
      have HOB:=h_ (show G.ob≠w.heap.size from fun e'=>by
       have h1:=R3.out.heap;obtain ⟨D,h1⟩:=h1;rw [e',HB.out] at h1
       cases h1)
      have a0:=cell_of (i:=0) HB.out rfl;have a1:=cell_of (i:=1) HB.out rfl;have a2:=cell_of (i:=2) HB.out rfl;have a3:=cell_of (i:=3) HB.out rfl;have f0:=free_of (i:=0) HB.out;have f1:=free_of (i:=1) HB.out;have f2:=free_of (i:=2) HB.out;have f3:=free_of (i:=3) HB.out;have y0:=cell_of (i:=0) Z3.out rfl;have y1:=cell_of (i:=1) Z3.out rfl;have y2:=cell_of (i:=2) Z3.out rfl;have y3:=cell_of (i:=3) Z3.out rfl;have o10:=R3.out.o10;have o11:=R3.out.o11;have o12:=R3.out.o12;have o13:=R3.out.o13;have q0:=R3.out.free 10;have q1:=R3.out.free 11;have q2:=R3.out.free 12;have q3:=R3.out.free 13;have n1:=HOB.out;have HB4:=h_ (ks.heap HB.out (fun e'=>HOB.out e'.symm))
      clear ks;go_wp2_with fail;have hB:=set4 HB4.out (.int .i64 da) (.int .i64 dx) (.int .i64 df) (.string ⟨dn.toArray⟩);have g0:=cell_of (i:=0) hB rfl;have g1:=cell_of (i:=1) hB rfl;have g2:=cell_of (i:=2) hB rfl;have g3:=cell_of (i:=3) hB rfl;exact bodyPost_ret (v:=(.tuple #[Wd.val ⟨da,dx,df,dn⟩,.int .i64 0])) (by simp [results,Tryz.results31,go_sem,Wd.val,Wd.none,g0,g1,g2,g3]) rfl (by rw [HQ.out];exact ⟨rfl,RRd.boxed HNX.out R4.out E4.out (keeps_set4g _ _ _ _ _ _)⟩)
    · rw [if_pos (by simpa using he)] at HQ
      have d1:(e == 0)=false:=by simp [he]
      have HBK:=h_ (rd_back G Y wr u hh R3.out);have HQ2:=h_ (show Q=((Rd.setCell (u.vm (u.v.setSp (u.v.x.back hh))).1 list was).1,Wd.none,e) from HQ.out)
      generalize u.vm (u.v.setSp (u.v.x.back hh))=q at HBK HQ2;obtain ⟨u4,e4⟩:=q;have HSC:=h_ fun V Y' (hV:RRd V G Y' u4)=>rd_setCell G Y' V u4 list was hV
      simp only at HQ2
      generalize u4.setCell list was=q at HSC HQ2;obtain ⟨u5,e5⟩:=q;have o0:=R3.out.o0;have v0:=R3.out.v0;clear he HQ;go_wp2_with fail;refine (HBK.out).mono ?_;rintro e w4 ⟨rfl,X4,r4,k4⟩;have R4:=h_ r4;have E4:=h_ (E3.out.trans k4);clear r4 k4
      try clear o0;try clear o10;try clear o11;try clear o12;try clear o13;try clear v0;try clear vs
      have o0:=R4.out.o0;have v0:=R4.out.v0;have vs:=R4.out.vs;go_wp2_with fail;refine (HSC.out _ _ R4.out).mono ?_;rintro e w5 ⟨rfl,X5,r5,k5⟩;have R5:=h_ r5;have E5:=h_ (E4.out.trans k5);clear r5 k5
      try clear o0;try clear o10;try clear o11;try clear o12;try clear o13;try clear v0;try clear vs
      have HB:=h_ (RRd.box HNX.out E5.out);have a0:=cell_of (i:=0) HB.out rfl;have a1:=cell_of (i:=1) HB.out rfl;have a2:=cell_of (i:=2) HB.out rfl;have a3:=cell_of (i:=3) HB.out rfl;have f0:=free_of (i:=0) HB.out;have f1:=free_of (i:=1) HB.out;have f2:=free_of (i:=2) HB.out;have f3:=free_of (i:=3) HB.out;go_wp2_with fail;have hB:=set4 HB.out (.int .i64 0) (.int .i64 0) (.int .i64 0) (.string ⟨#[]⟩);have g0:=cell_of (i:=0) hB rfl;have g1:=cell_of (i:=1) hB rfl;have g2:=cell_of (i:=2) hB rfl;have g3:=cell_of (i:=3) hB rfl;exact bodyPost_ret (v:=(.tuple #[Wd.none.val,.int .i64 e])) (by simp [results,Tryz.results31,go_sem,Wd.val,Wd.none,g0,g1,g2,g3]) rfl (by rw [HQ2.out];exact ⟨rfl,RRd.boxed HNX.out R5.out E5.out (keeps_set4g _ _ _ _ _ _)⟩)
theorem rd_create (n fl:Int) (a:Option Addr) (c:Nat) (l:List Int) (f0:0≤fl) (f1:fl≤255) (ha:ArgI w a l) (hl:l.length≤100000) (hne:∀ g,blk a=some g→¬ X g∧g<w.heap.size) (h:RRd w G X r) :
 Calls Tryz.prog 371 #[.pointer (some ⟨G.ob,0,none⟩),.int .i64 n,.int .i64 fl,.slice a l.length c] w (PRv Wd.val G X w (r.create n fl l)):=by
 have HNM:=h_ fun V (hV:RRd V G X r)=>rd_name G X V r hV
 have hq:r.create n fl l=if r.name.2.2≠0 then (r.next,Wd.none,r.name.2.2) else r.next.make r.v.list r.name.2.1 n fl l:=rfl
 have hnn:r.name.1=r.next:=rfl;have hlst:r.v.list=r.next.v.list:=rfl;rw [hlst] at hq;generalize r.create n fl l=Q at hq ⊢;generalize r.name=nm0 at HNM hq hnn;obtain ⟨r1,s,e1⟩:=nm0;simp only at hnn hq
 subst hnn;unfold PRv at HNM;simp only at HNM
 have HNX:=h_ h.fnew;have R0:=h_ (h.keeps0 (ka_ w (.cells #[.int .i64 0,.int .i64 0,.int .i64 0,.string ⟨#[]⟩] 53)));have E0:=h_ (Evo.refl (w.alloc (.cells #[.int .i64 0,.int .i64 0,.int .i64 0,.string ⟨#[]⟩] 53)) X);replace HNM:=h_ (HNM.out _ R0.out);generalize r.next=r at HNM hq;have HA:=h_ ha;have HNE:=h_ hne;clear h ha hne;by_cases h1:e1=0
 · subst h1
   rw [if_neg (by simp)] at hq
   have HM:=h_ fun V Y (hA:ArgI V a l) (hn:∀ g,blk a=some g→¬ Y g∧g<V.heap.size) (hV:RRd V G Y r)=>rd_make G Y V r r.v.list s n fl a c l f0 f1 hA hl hn hV
   rw [← hq] at HM;obtain ⟨q1,⟨da,dx,df,dn⟩,e2⟩:=Q;unfold PRv Wd.val at HM;simp only at HM
   clear hq
   go_enter Tryz.func371,Tryz.ntmps371
   go_wp2_with fail;refine (HNM.out).mono ?_;rintro e w1 ⟨rfl,X1,r1,k1⟩;have R1:=h_ r1;have E1:=h_ (E0.out.trans k1);clear r1 k1
   skip
   have o0:=R1.out.o0;have v8:=R1.out.v8;have hA1:ArgI w1 a l:=(HA.out.keeps (ka_ w _) (fun _ _=>id)).keeps E1.out.k (fun g hg=>(HNE.out g hg).1)
   have hn1:∀ g,blk a=some g→¬ X1 g∧g<w1.heap.size:=fun g hg=>by
    have h1:=HNE.out g hg;have h2:=E1.out.k.size;rw [World.size_alloc] at h2;exact ⟨fun e=>(E1.out.n g e).elim h1.1 (fun e=>by rw [World.size_alloc] at e;omega),by omega⟩
   have HMM:=h_ (HM.out w1 X1 hA1 hn1 R1.out);clear hA1 hn1 HM;go_wp2_with fail;refine (HMM.out).mono ?_;rintro e w2 ⟨rfl,X2,r2,k2⟩;have R2:=h_ r2;have E2:=h_ (E1.out.trans k2);clear r2 k2
   try clear o0;try clear v8
   have HB:=h_ (RRd.box HNX.out E2.out);have a0:=cell_of (i:=0) HB.out rfl;have a1:=cell_of (i:=1) HB.out rfl;have a2:=cell_of (i:=2) HB.out rfl;have a3:=cell_of (i:=3) HB.out rfl;have f0:=free_of (i:=0) HB.out;have f1:=free_of (i:=1) HB.out;have f2:=free_of (i:=2) HB.out;have f3:=free_of (i:=3) HB.out;go_wp2_with fail;have hrf:(q1,(⟨da,dx,df,dn⟩:Wd),e2)=(q1,⟨da,dx,df,dn⟩,e2):=rfl;have hB:=set4 HB.out (.int .i64 da) (.int .i64 dx) (.int .i64 df) (.string ⟨dn.toArray⟩);have g0:=cell_of (i:=0) hB rfl;have g1:=cell_of (i:=1) hB rfl;have g2:=cell_of (i:=2) hB rfl;have g3:=cell_of (i:=3) hB rfl;exact bodyPost_ret (v:=(.tuple #[Wd.val ⟨da,dx,df,dn⟩,.int .i64 e2])) (by simp [results,Tryz.results371,go_sem,Wd.val,Wd.none,g0,g1,g2,g3]) rfl (by rw [hrf];exact ⟨rfl,RRd.boxed HNX.out R2.out E2.out (keeps_set4g _ _ _ _ _ _)⟩)
 · rw [if_pos (by simpa using h1)] at hq
   have HF:=h_ hq;have d1:(e1 == 0)=false:=by simp [h1]
   clear hq h1
   go_enter Tryz.func371,Tryz.ntmps371
   go_wp2_with fail;refine (HNM.out).mono ?_;rintro e w1 ⟨rfl,X1,r1,k1⟩;have R1:=h_ r1;have E1:=h_ (E0.out.trans k1);clear r1 k1
   try clear o0;try clear v8
   have HB:=h_ (RRd.box HNX.out E1.out);have a0:=cell_of (i:=0) HB.out rfl;have a1:=cell_of (i:=1) HB.out rfl;have a2:=cell_of (i:=2) HB.out rfl;have a3:=cell_of (i:=3) HB.out rfl;have f0:=free_of (i:=0) HB.out;have f1:=free_of (i:=1) HB.out;have f2:=free_of (i:=2) HB.out;have f3:=free_of (i:=3) HB.out;go_wp2_with fail;have hB:=set4 HB.out (.int .i64 0) (.int .i64 0) (.int .i64 0) (.string ⟨#[]⟩);have g0:=cell_of (i:=0) hB rfl;have g1:=cell_of (i:=1) hB rfl;have g2:=cell_of (i:=2) hB rfl;have g3:=cell_of (i:=3) hB rfl;exact bodyPost_ret (v:=(.tuple #[Wd.none.val,.int .i64 e1])) (by simp [results,Tryz.results371,go_sem,Wd.val,Wd.none,g0,g1,g2,g3]) rfl (by rw [HF.out];exact ⟨rfl,RRd.boxed HNX.out R1.out E1.out (keeps_set4g _ _ _ _ _ _)⟩)
theorem rd_create0 (n fl:Int) (f0:0≤fl) (f1:fl≤255) (h:RRd w G X r) :
 Calls Tryz.prog 371 #[.pointer (some ⟨G.ob,0,none⟩),.int .i64 n,.int .i64 fl,.slice none 0 0] w (PRv Wd.val G X w (r.create n fl [])) :=
 rd_create G X w r n fl none 0 [] f0 f1 (fun i hi=>absurd hi (by simp)) (by simp) (fun g hg=>by cases hg) h
theorem rd_create1 (n fl m:Int) (f0:0≤fl) (f1:fl≤255) (h:RRd w G X r) :
 Calls Tryz.prog 371 #[.pointer (some ⟨G.ob,0,none⟩),.int .i64 n,.int .i64 fl,.slice (some ⟨w.heap.size,0,none⟩) 1 1] (w.alloc (.cells #[.int .i64 m] 2)) (PRv Wd.val G X w (r.create n fl [m])):=by
 have ka:=ka_ w (.cells #[.int .i64 m] 2);refine (rd_create G X _ r n fl _ 1 [m] f0 f1 (argI_1 w m _) (by simp) (fun g hg=>?_) (h.keeps0 ka)).mono ?_
 · cases hg
   exact ⟨h.fnew,by show w.heap.size<_;rw [World.size_alloc];omega⟩
 · rintro e w' ⟨rfl,X',h1,h2⟩
   exact ⟨rfl,X',h1,(Evo.of0 ka).trans h2⟩
end
theorem RRd0.withMk {w w1:World} {G:Gk} {D:Dk} {r:Rd} {l:List (Int × Int)} {a':Option Addr} {c':Nat} (h:RRd0 w G D r) (k0:Keeps (fun k=>blk D.ma=some k) w w1)
 (hm:RMk (w1.setCell ⟨G.ob,3,none⟩ (.slice a' l.length c')) G.ob 3 a' c' l) (hl:l.length≤100) (hb:blk a'=blk D.ma∨∃ k,blk a'=some k∧w.heap.size≤k) :
 RRd0 (w1.setCell ⟨G.ob,3,none⟩ (.slice a' l.length c')) G { D with ma:=a',mc:=c' } { r with marks:=l }:=by
 obtain ⟨n1,n2,n3,n4,n5⟩:=h.obn;obtain ⟨m1,m2,m3,m4⟩:=h.qn;have ks:Keeps (fun g=>g=G.ob) w1 (w1.setCell ⟨G.ob,3,none⟩ (.slice a' l.length c')):=Keeps.setCell _ _ _ (fun _=>rfl)
 have k:Keeps (fun g=>g=G.ob∨blk D.ma=some g) w (w1.setCell ⟨G.ob,3,none⟩ (.slice a' l.length c')):=(k0.mono (fun _ _ e=>.inr e)).trans (ks.mono (fun _ _ e=>.inl e))
 have no:∀ g,g≠G.ob→blk D.ma≠some g→¬ (g=G.ob∨blk D.ma=some g):=fun g h1 h2 e=>e.elim h1 h2
 refine ⟨h.fvOb k (fun g hg=>.inl (hg.elim .inl (fun e=>.inr (.inr (.inr (.inl e)))))),hset_same (k0.heap h.oc n3) _,h.src.keeps k (no _ n1 m2),h.ord.keeps k (fun g hg=>no g (fun e=>n2 (by rw [hg,e])) (fun e=>ne_own2 h.ord h.mks rfl hg e)),hm.own,h.pm.keeps k (no _ n4 (fun e=>ne_mapO h.pm h.mks e)),h.mm.keeps k (no _ n5 (fun e=>ne_mapO h.mm h.mks e)),?_,{ h.ok with marks:=hl }⟩
 rintro g (hg | hg | hg | hg | hg | hg)
 · exact h.ap g (.inl hg)
 · exact h.ap g (.inr (.inl hg))
 · exact h.ap g (.inr (.inr (.inl hg)))
 · rcases hb with hb | ⟨k,hb,hk⟩
   · exact h.ap g (.inr (.inr (.inr (.inl (hb ▸ hg)))))
   · intro e
     have:=h.fv.all_lt e;have:k=g:=by have hg:blk a'=some g:=hg;rw [hb] at hg;simpa using hg
     omega
 · exact h.ap g (.inr (.inr (.inr (.inr (.inl hg)))))
 · exact h.ap g (.inr (.inr (.inr (.inr (.inr hg)))))
theorem RRd.withMk {w w1:World} {G:Gk} {X:Nat→Prop} {D:Dk} {r:Rd} {l:List (Int × Int)} {a':Option Addr} {c':Nat} (h:RRd0 w G D r) (h2:∀ g,D.own G g∨G.K.all g→X g) (h3:∀ g,X g→g<w.heap.size) (k0:Keeps (fun k=>blk D.ma=some k) w w1)
 (hm:RMk (w1.setCell ⟨G.ob,3,none⟩ (.slice a' l.length c')) G.ob 3 a' c' l) (hl:l.length≤100) (hb:blk a'=blk D.ma∨∃ k,blk a'=some k∧w.heap.size≤k) :
 ∃ X',RRd (w1.setCell ⟨G.ob,3,none⟩ (.slice a' l.length c')) G X' { r with marks:=l }∧Evo w X (w1.setCell ⟨G.ob,3,none⟩ (.slice a' l.length c')) X':=by
 have ks:Keeps (fun g=>g=G.ob) w1 (w1.setCell ⟨G.ob,3,none⟩ (.slice a' l.length c')):=Keeps.setCell _ _ _ (fun _=>rfl)
 have k:Keeps (fun g=>g=G.ob∨blk D.ma=some g) w (w1.setCell ⟨G.ob,3,none⟩ (.slice a' l.length c')):=(k0.mono (fun _ _ e=>.inr e)).trans (ks.mono (fun _ _ e=>.inl e))
 refine ⟨fun g=>X g∨blk a'=some g,⟨_,h.withMk k0 hm hl hb,?_,?_⟩,⟨k.mono (fun g _ e=>e.elim (fun e=>h2 _ (.inl (.inl e))) (fun e=>h2 _ (.inl (.inr (.inr (.inr (.inl e))))))),?_⟩⟩
 · rintro g ((hg | hg | hg | hg | hg | hg) | hg)
   · exact .inl (h2 g (.inl (.inl hg)))
   · exact .inl (h2 g (.inl (.inr (.inl hg))))
   · exact .inl (h2 g (.inl (.inr (.inr (.inl hg)))))
   · exact .inr hg
   · exact .inl (h2 g (.inl (.inr (.inr (.inr (.inr (.inl hg)))))))
   · exact .inl (h2 g (.inl (.inr (.inr (.inr (.inr (.inr hg)))))))
   · exact .inl (h2 g (.inr hg))
 · rintro g (hg | hg)
   · exact Nat.lt_of_lt_of_le (h3 g hg) k.size
   · exact hm.own.lt hg
 · rintro g (hg | hg)
   · exact .inl hg
   · rcases hb with hb | ⟨k,hb,hk⟩
     · exact .inl (h2 g (.inl (.inr (.inr (.inr (.inl (hb ▸ hg)))))))
     · right
       rw [hb] at hg;have:k=g:=by simpa using hg
       omega
section
variable (G:Gk) (X:Nat→Prop) (w:World) (r:Rd)
theorem rd_mopen (k a:Int) (k0:0≤k) (k1:k≤3) (h:RRd w G X r):Calls Tryz.prog 233 #[.pointer (some ⟨G.ob,3,none⟩),.int .i64 k,.int .i64 a] w (PR G X w (r.mopen k a)):=by
 obtain ⟨D,h1,h2,h3⟩:=h;have hm:RMk w G.ob 3 D.ma D.mc r.marks:=⟨cell_of h1.oc rfl,free_of h1.oc,h1.mks,h1.obn.2.2.1,lt_of_heap h1.oc⟩;unfold Rd.mopen;have hml:=h1.ok.marks;by_cases hl:100≤r.marks.length
 · rw [if_pos hl]
   refine (open_bad G.ob 3 k a D.ma D.mc r.marks w hm k0 k1 hl (by omega)).mono ?_
   rintro e w' ⟨rfl,rfl⟩;exact ⟨rfl,X,⟨D,h1,h2,h3⟩,Evo.refl _ _⟩
 · rw [if_neg hl]
   refine (open_ok G.ob 3 k a D.ma D.mc r.marks w hm k0 k1 (by omega)).mono ?_
   rintro e w' ⟨rfl,a',c',w1,rfl,kk,hmk,hb,_⟩;exact ⟨rfl,RRd.withMk h1 h2 h3 kk hmk (by simp;omega) hb⟩
theorem rd_mclose (k:Int) (h:RRd w G X r):Calls Tryz.prog 373 #[.pointer (some ⟨G.ob,3,none⟩),.int .i64 k] w (PRv (Value.int .i64) G X w (r.mclose k)):=by
 obtain ⟨D,h1,h2,h3⟩:=h;have hm:RMk w G.ob 3 D.ma D.mc r.marks:=⟨cell_of h1.oc rfl,free_of h1.oc,h1.mks,h1.obn.2.2.1,lt_of_heap h1.oc⟩;have hr:RRd w G X r:=⟨D,h1,h2,h3⟩;have hml:=h1.ok.marks
 have hq:r.mclose k=match r.marks.getLast? with
  | none=>(r,0,-22)
  | some p=>if p.1≠k then (r,0,-22) else ({ r with marks:=r.marks.dropLast },p.2,0):=rfl
 rcases List.eq_nil_or_concat r.marks with hn | ⟨l,⟨k',a'⟩,hl⟩
 · rw [hn] at hm hq
   simp only [List.getLast?_nil] at hq
   rw [hq];refine (close_empty G.ob 3 k D.ma D.mc w hm).mono ?_;rintro e w' ⟨rfl,n,rfl⟩;exact ⟨rfl,X,hr.keeps0 (Keeps.drewN _ _ _),Evo.of0 (Keeps.drewN _ _ _)⟩
 · rw [List.concat_eq_append] at hl
   rw [hl] at hm hq hml;simp only [List.getLast?_append,List.getLast?_singleton,Option.some_or,List.dropLast_concat] at hq
   simp only [List.length_append,List.length_singleton] at hml
   rw [hq];by_cases hk:k'=k
   · subst hk
     rw [if_neg (by simp)]
     refine (close_ok G.ob 3 D.ma D.mc l k' a' w hm (by omega)).mono ?_
     rintro e w' ⟨rfl,⟨c',n,rfl,hmk⟩,_⟩;exact ⟨rfl,RRd.withMk h1 h2 h3 (Keeps.drewN _ _ _) hmk (by omega) (.inl rfl)⟩
   · rw [if_pos hk]
     refine (close_bad G.ob 3 k D.ma D.mc l k' a' w hm hk (by omega)).mono ?_
     rintro e w' ⟨rfl,n,rfl⟩;exact ⟨rfl,X,hr.keeps0 (Keeps.drewN _ _ _),Evo.of0 (Keeps.drewN _ _ _)⟩
end
section
variable (G:Gk) (X:Nat→Prop) (w:World) (r:Rd)
theorem rd_inner (d:Wd) (h:RRd w G X r):Calls Tryz.prog 249 #[.pointer (some ⟨G.ob,0,none⟩),d.val] w fun e w'=>e=.returned (.int .i64 (r.inner d))∧Keeps (fun _=>False) w w':=by
 have hq:r.inner d=Rd.innerOf (nameOf (r.v.cell d.xt).1):=rfl;have HC:=h_ fun V (hV:RFv V G.K r.v)=>fv_cell G.K V r.v d.xt hV
 generalize r.inner d=Q at hq ⊢;generalize r.v.cell d.xt=p at hq HC;obtain ⟨n,e0⟩:=p;simp only at hq HC
 have HN:=h_ fun V=>name_any n V
 generalize nameOf n=nm0 at hq HN;have HQ:=h_ hq;have HI:=h_ fun V=>inner_any nm0 V
 have HL:=h_ fun V=>inline_any nm0 V
 have ka:=ka_ w (.cells #[.int .i64 d.at_,.int .i64 d.xt,.int .i64 d.flags,.string ⟨d.name.toArray⟩] 53);have R0:=h_ (h.keeps0 ka);have K0:=h_ ka;have o0:=R0.out.o0;have v0:=R0.out.v0;have vs:=R0.out.vs;have y1:(w.alloc (.cells #[.int .i64 d.at_,.int .i64 d.xt,.int .i64 d.flags,.string ⟨d.name.toArray⟩] 53)).cell? ⟨w.heap.size,1,none⟩=some (.int .i64 d.xt):=cell_of (halloc_at w _) rfl;obtain ⟨W,hW⟩:∃ W,W=w.alloc (.cells #[.int .i64 d.at_,.int .i64 d.xt,.int .i64 d.flags,.string ⟨d.name.toArray⟩] 53):=⟨_,rfl⟩;rw [← hW] at R0 K0 o0 v0 vs y1;have HW:=h_ hW;unfold Wd.val;clear h hq ka hW
 go_enter Tryz.func249,Tryz.ntmps249
 go_upto_region 1 with fail;rw [← HW.out];clear HW
 go_region_held3 (fun w'=>w'.cell? ⟨G.ob,0,none⟩=some (.pointer (some ⟨G.K.mb,0,none⟩))∧w'.cell? ⟨G.K.mb,0,none⟩=some (.pointer (some ⟨G.K.s,0,none⟩))∧w'.cell? ⟨w.heap.size,1,none⟩=some (.int .i64 d.xt)∧w'.cell? ⟨G.K.s,0,none⟩=some (.pointer (some ⟨G.K.b,0,none⟩)))
  (first | go_keep)
  (first | (go_at_call 81;refine (HC.out W.drew (R0.out.keeps0 (Keeps.drew _ _)).fv).mono ?_;rintro e w9 ⟨rfl,rfl⟩;dsimp only))
 have K1:=h_ (K0.out.trans (kd_ W));clear o0 v0 vs y1;go_wp2_with fail;refine (HN.out _).mono ?_;rintro e w1 ⟨rfl,k1⟩;unfold nm;have K2:=h_ (K1.out.trans k1);clear k1;go_wp2_with fail;refine (HI.out _).mono ?_;rintro e w2 ⟨rfl,k2⟩;have K3:=h_ (K2.out.trans k2);clear k2
 cases hi:inn nm0 with
 | false =>
  go_wp2_with fail;go_ret
  exact ⟨congrArg (fun z=>Ending.returned (Value.int .i64 z)) (show (0:Int)=Q by rw [HQ.out];unfold Rd.innerOf;rw [if_pos hi]),K3.out⟩
 | true =>
  have HIT:=h_ hi;clear hi;go_wp2_with fail;refine (HL.out _).mono ?_;rintro e w3 ⟨rfl,rfl⟩;generalize hl:inl nm0=k;have HLK:=h_ hl;clear hl;by_cases h0:0<k
  · have HV:=h_ (show (2:Int)=Q by rw [HQ.out];unfold Rd.innerOf;rw [if_neg (by rw [HIT.out];simp),if_pos (.inl (by rw [HLK.out];exact h0))])
    have d0:decide (0<k)=true:=decide_eq_true h0;go_wp2_with fail
    all_goals
     go_ret
     exact ⟨congrArg (fun z=>Ending.returned (Value.int .i64 z)) HV.out,K3.out⟩
  · have d0:decide (0<k)=false:=decide_eq_false h0
    go_wp2_with fail
    all_goals
     have hi:=HIT.out;have hl:=HLK.out;go_ret
     first
      | exact ⟨congrArg (fun z=>Ending.returned (Value.int .i64 z)) (show (2:Int)=Q by rw [HQ.out];unfold Rd.innerOf;rw [if_neg (by rw [hi];simp),if_pos (by simp_all)]),K3.out⟩
      | exact ⟨congrArg (fun z=>Ending.returned (Value.int .i64 z)) (show (1:Int)=Q by rw [HQ.out];unfold Rd.innerOf;rw [if_neg (by rw [hi];simp),if_neg (by simp_all)]),K3.out⟩
theorem rd_run (xt:Int) (hx:Sixty xt) (h:RRd w G X r):Calls Tryz.prog 250 #[.pointer (some ⟨G.K.mb,0,none⟩),.int .i64 xt] w (PR G X w (r.vm (r.v.run xt))) :=
 (fv_run G.K w r.v xt h.fv hx).mono fun _ _ ⟨he,hv,k⟩=>⟨he,X,h.vm hv k,h.evo k⟩
theorem rd_found (d:Wd) (hx:Sixty d.xt) (h:RRd w G X r):Calls Tryz.prog 143 #[.pointer (some ⟨G.ob,0,none⟩),d.val] w (PR G X w (r.found d)):=by
 have hq:r.found d=if r.comp=true∧d.flags % 2=0 then (if r.inner d=2 then (r,-14) else r.comma d.xt) else if 0<r.inner d then (r,-14) else r.vm (r.v.run d.xt):=rfl
 have HI:=h_ fun V (hV:RRd V G X r)=>rd_inner G X V r d hV
 have HCM:=h_ fun V (hV:RRd V G X r)=>rd_comma G X V r d.xt hV
 have HRN:=h_ fun V (hV:RRd V G X r)=>rd_run G X V r d.xt hx hV
 generalize r.found d=Q at hq ⊢;generalize r.inner d=k at hq HI;generalize r.comma d.xt=qc at hq HCM;generalize r.vm (r.v.run d.xt)=qr at hq HRN;have ka:=ka_ w (.cells #[.int .i64 d.at_,.int .i64 d.xt,.int .i64 d.flags,.string ⟨d.name.toArray⟩] 53);have NX:=h_ h.fnew;have R0:=h_ (h.keeps0 ka);have E0:=h_ (Evo.of0 (X:=X) ka);have HA:=h_ (halloc_at w (.cells #[.int .i64 d.at_,.int .i64 d.xt,.int .i64 d.flags,.string ⟨d.name.toArray⟩] 53));obtain ⟨W,hW⟩:∃ W,W=w.alloc (.cells #[.int .i64 d.at_,.int .i64 d.xt,.int .i64 d.flags,.string ⟨d.name.toArray⟩] 53):=⟨_,rfl⟩;rw [← hW] at R0 E0 HA;have HW:=h_ hW;have HND:=h_ (and_1 d.flags);have y0:=cell_of (i:=0) HA.out rfl;have y1:=cell_of (i:=1) HA.out rfl;have y2:=cell_of (i:=2) HA.out rfl;have y3:=cell_of (i:=3) HA.out rfl;have HQ:=h_ hq;unfold Wd.val at HI ⊢;clear h hq ka hW hx
 go_enter Tryz.func143,Tryz.ntmps143
 go_upto_region 1 with fail;rw [← HW.out];clear HW;go_wp2_with fail;refine (HI.out _ R0.out).mono ?_;rintro e w1 ⟨rfl,k1⟩;have R1:=h_ (R0.out.keeps0 k1);have E1:=h_ (E0.out.trans (Evo.of0 k1));have HB:=h_ (k1.heap HA.out id);have z1:w1.cell? ⟨w.heap.size,1,none⟩=some (.int .i64 d.xt):=cell_of HB.out rfl;have z2:w1.cell? ⟨w.heap.size,2,none⟩=some (.int .i64 d.flags):=cell_of HB.out rfl;clear k1 y0 y1 y2 y3 HI R0 E0 HA;have o4:=R1.out.o4;have o0:=R1.out.o0;have v0:=R1.out.v0
 cases hc:r.comp with
 | false =>
  rw [hc] at o4;rw [if_neg (by rw [hc];simp)] at HQ
  by_cases hk:0<k
  · have d0:decide (0<k)=true:=decide_eq_true hk
    rw [if_pos hk] at HQ;clear hk hc;go_wp2_with fail;go_ret
    rw [HQ.out];exact ⟨rfl,_,R1.out,E1.out⟩
  · have d0:decide (0<k)=false:=decide_eq_false hk
    rw [if_neg hk] at HQ;rw [← HQ.out] at HRN;clear hk hc HQ;go_wp2_with fail
    go_still_tail 6,(by kernel_rfl)
    try change wpList _ _ _ _ _ w1.drew
    have R2:=h_ (R1.out.keeps0 (kd_ w1));have E2:=h_ (E1.out.trans (Evo.of0 (kd_ w1)))
    try clear o0;try clear o4;try clear v0
    generalize w1.drew=w2 at R2 E2 ⊢;go_wp2_with fail;refine (HRN.out _ R2.out).mono ?_;rintro e w3 ⟨rfl,X3,r3,k3⟩;have R3:=h_ r3;have E3:=h_ (E2.out.trans k3);clear r3 k3
    try clear o0;try clear o4;try clear v0
    go_wp2_with fail;go_ret
    exact ⟨rfl,_,R3.out,E3.out⟩
 | true =>
  rw [hc] at o4;by_cases hf:d.flags % 2=0
  · rw [if_pos ⟨hc,hf⟩] at HQ
    have hand:bits .and .i64 d.flags 1=0:=by rw [HND.out];exact hf
    clear hf hc HRN;by_cases hk:k=2
    · rw [if_pos hk] at HQ
      subst hk;go_wp2_with fail;go_ret
      rw [HQ.out];exact ⟨rfl,_,R1.out,E1.out⟩
    · rw [if_neg hk] at HQ
      rw [← HQ.out] at HCM;have d0:(k == 2)=false:=by simp [hk]
      clear hk HQ;go_wp2_with fail
      go_still_tail 9,(by kernel_rfl)
      try change wpList _ _ _ _ _ w1.drew
      have R2:=h_ (R1.out.keeps0 (kd_ w1));have E2:=h_ (E1.out.trans (Evo.of0 (kd_ w1)))
      try clear o0;try clear o4;try clear v0
      generalize w1.drew=w2 at R2 E2 ⊢;go_wp2_with fail;refine (HCM.out _ R2.out).mono ?_;rintro e w3 ⟨rfl,X3,r3,k3⟩;have R3:=h_ r3;have E3:=h_ (E2.out.trans k3);clear r3 k3
      try clear o0;try clear o4;try clear v0
      go_wp2_with fail;go_ret
      exact ⟨rfl,_,R3.out,E3.out⟩
  · rw [if_neg (fun e=>hf e.2)] at HQ
    have hand:bits .and .i64 d.flags 1=1:=by rw [HND.out];omega
    clear hf hc HCM;by_cases hk:0<k
    · have d0:decide (0<k)=true:=decide_eq_true hk
      rw [if_pos hk] at HQ;clear hk;go_wp2_with fail;go_ret
      rw [HQ.out];exact ⟨rfl,_,R1.out,E1.out⟩
    · have d0:decide (0<k)=false:=decide_eq_false hk
      rw [if_neg hk] at HQ;rw [← HQ.out] at HRN;clear hk HQ;go_wp2_with fail
      go_still_tail 6,(by kernel_rfl)
      try change wpList _ _ _ _ _ w1.drew
      have R2:=h_ (R1.out.keeps0 (kd_ w1));have E2:=h_ (E1.out.trans (Evo.of0 (kd_ w1)))
      try clear o0;try clear o4;try clear v0
      generalize w1.drew=w2 at R2 E2 ⊢;go_wp2_with fail;refine (HRN.out _ R2.out).mono ?_;rintro e w3 ⟨rfl,X3,r3,k3⟩;have R3:=h_ r3;have E3:=h_ (E2.out.trans k3);clear r3 k3
      try clear o0;try clear o4;try clear v0
      go_wp2_with fail;go_ret
      exact ⟨rfl,_,R3.out,E3.out⟩
end
end Go.Proofs.Shed
