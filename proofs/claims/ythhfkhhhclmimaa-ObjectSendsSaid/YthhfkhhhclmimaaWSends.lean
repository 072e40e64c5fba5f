/- ObjectSends: the loop's state, and its steps. -/
import Derived.Test.YthhfkhhhclmimaaWHold
import Derived.Test.YthhfkhhhclmimaaWFlag
import Derived.Test.YthhfkhhhclmimaaWWorldC
import Derived.Test.YthhfkhhhclmimaaWLivB
import Derived.Test.YthhfkhhhclmimaaWHeapE
import Derived.Test.YthhfkhhhclmimaaWObjC
import Derived.Test.YthhfkhhhclmimaaWMiss
set_option linter.unusedVariables false
set_option linter.unusedSimpArgs false
set_option maxRecDepth 10000
set_option maxHeartbeats 8000000
namespace Go.Proofs.Shed
open Go Go.RowKit Go.Proofs.K

/-- The space is another one, in a block of its own. -/
theorem RWorld.respace {X : Nat → Prop} {w : World} {wb s s2 b bb : Nat} {x y : Sp} {r : Int} {A : List Int} {L : List RCls} {aA : Option Addr} {cA : Nat} {aL : Option Addr} {cL : Nat} (h : RWorld X w wb s b bb x r A L aA cA aL cL)
    (hs : RSp w s2 b bb y) (hX : X s2) (hn : s2 ≠ wb) (hA : blk aA ≠ some s2) (hL : RefL (Out X wb s2 b bb aA) w aL L.length cL L) :
    RWorld X (w.setCell ⟨wb, 1, none⟩ (.pointer (some ⟨s2, 0, none⟩))) wb s2 b bb y r A L aA cA aL cL ∧ Keeps (fun g => g = wb) w (w.setCell ⟨wb, 1, none⟩ (.pointer (some ⟨s2, 0, none⟩))) := by
  have hne := h.ne
  have KS : Keeps (fun j => j = wb) w (w.setCell ⟨wb, 1, none⟩ (.pointer (some ⟨s2, 0, none⟩))) := Keeps.set (Keeps.refl _ _) _ _ rfl
  have hh := hset_same (i := 1) h.head (.pointer (some ⟨s2, 0, none⟩))
  refine ⟨⟨hh, hs.keeps KS (by omega) (by omega) (by omega), Own.keeps h.own KS (fun g hg e => (h.at_ g hg).2.1 e), hL.keeps KS (fun g hg e => hg.2.1 e), ⟨h.low.1, hX, h.low.2.2.1, h.low.2.2.2⟩, ⟨fun e => hn e.symm, hne.2.1, hne.2.2⟩, fun g hg => ?_⟩, KS⟩
  have := h.at_ g hg
  exact ⟨this.1, this.2.1, fun e => hA (e ▸ hg), this.2.2.2.1, this.2.2.2.2⟩
/-- Nothing that may be its own has changed. -/
theorem RWorld.away {X S : Nat → Prop} {w w' : World} {wb s b bb : Nat} {x : Sp} {r : Int} {A : List Int} {L : List RCls} {aA : Option Addr} {cA : Nat} {aL : Option Addr} {cL : Nat} (h : RWorld X w wb s b bb x r A L aA cA aL cL)
    (k : Keeps S w w') (hs : ∀ g, X g → ¬ S g) : RWorld X w' wb s b bb x r A L aA cA aL cL :=
  ⟨k.heap h.head (hs _ h.low.1), h.sp.keeps k (hs _ h.low.2.1) (hs _ h.low.2.2.1) (hs _ h.low.2.2.2), h.own.keeps k (fun g hg => hs _ (h.at_ g hg).1), h.ref.keeps k (fun g hg => hs _ hg.1), h.low, h.ne, h.at_⟩
/-- What may be its own is told otherwise. -/
theorem RWorld.monoX {X Y : Nat → Prop} {w : World} {wb s b bb : Nat} {x : Sp} {r : Int} {A : List Int} {L : List RCls} {aA : Option Addr} {cA : Nat} {aL : Option Addr} {cL : Nat} (h : RWorld X w wb s b bb x r A L aA cA aL cL)
    (hs : ∀ g, g < w.heap.size → X g → Y g) : RWorld Y w wb s b bb x r A L aA cA aL cL := by
  have l := h.sp.lts
  have lw := lt_of_heap h.head
  exact ⟨h.head, h.sp, h.own, h.ref.mono (fun g hg n => ⟨hs g hg n.1, n.2⟩), ⟨hs _ lw h.low.1, hs _ l.1 h.low.2.1, hs _ l.2.1 h.low.2.2.1, hs _ l.2.2 h.low.2.2.2⟩, h.ne, fun g hg => ⟨hs g (h.own.lt hg) (h.at_ g hg).1, (h.at_ g hg).2⟩⟩

/-- Blocks that may be the world's own: from B0 on, but the heap's head, the map, and the objects' slice. -/
def Xw (B0 h mb : Nat) (aT : Option Addr) (g : Nat) : Prop := B0 ≤ g ∧ g ≠ h ∧ g ≠ mb ∧ blk aT ≠ some g
/-- The loop's state: the memory's objects are P, its blocks B; the slice's objects O, the map's blocks C. -/
structure Sends (B0 : Nat) (w : World) (wb s b bb h mb i n : Nat) (x : Sp) (A T : List Int) (L : List RCls) (B C : List Blk) (P O : List Thing) (aA : Option Addr) (cA : Nat) (aL : Option Addr) (cL : Nat) (aT : Option Addr) (cT : Nat) (f : Int → Bool) : Prop where
  rw_ : RWorld (Xw B0 h mb aT) w wb s b bb x 8 A L aA cA aL cL
  hp : RHp w h b bb x.mem 16384 32768
  wd : Obj.Wd x A T L B P i
  own : ∀ y ∈ L, y.own.length ≤ i
  all : OwnT w aT cT O
  map : Flags w mb n f
  told : ∀ a, f a = true ↔ Obj.Used C a
  low : B0 ≤ w.heap.size ∧ B0 ≤ h ∧ B0 ≤ mb ∧ h ≠ mb ∧ ∀ g, blk aT = some g → B0 ≤ g ∧ g ≠ h ∧ g ≠ mb
theorem thing_news (w : World) (o : Thing) : ∀ j u, [Value.int .i64 o.at_, .int .i64 (o.cls : Int), strV o.text][j]? = some u → (w.alloc (.cells #[.int .i64 o.at_, .int .i64 (o.cls : Int), strV o.text] 90)).cell? ((⟨w.heap.size, 0, none⟩ : Addr).add j) = some u := by
  intro j u hj
  have hh := halloc_at w (.cells #[.int .i64 o.at_, .int .i64 (o.cls : Int), strV o.text] 90)
  rw [Addr.add_lit, Nat.zero_add]
  refine cell_of hh ?_
  rw [← hj, List.getElem?_toArray]
theorem thing_one (o : Thing) : ∀ u ∈ [Value.int .i64 o.at_, .int .i64 (o.cls : Int), strV o.text], u.oneCell' = true := by
  intro u hu
  simp only [List.mem_cons, List.not_mem_nil, or_false] at hu
  rcases hu with rfl | rfl | rfl <;> rfl
namespace Sends
variable {B0 : Nat} {w w' : World} {wb s b bb h mb i n : Nat} {x : Sp} {A T : List Int} {L : List RCls} {B C : List Blk} {P O : List Thing} {aA : Option Addr} {cA : Nat} {aL : Option Addr} {cL : Nat} {aT : Option Addr} {cT : Nat} {f : Int → Bool}
theorem fresh (S : Sends B0 w wb s b bb h mb i n x A T L B C P O aA cA aL cL aT cT f) : ∀ g, w.heap.size ≤ g → Xw B0 h mb aT g := fun g hg =>
  ⟨by have := S.low.1; omega, by have := lt_of_heap S.hp.head; omega, by have := S.map.lt; omega, fun e => by have := Own.lt S.all e; omega⟩
/-- The world alone is another one. -/
theorem other (S : Sends B0 w wb s b bb h mb i n x A T L B C P O aA cA aL cL aT cT f) {y : Sp} {A' T' : List Int} {L' : List RCls} {aA' aL' : Option Addr} {cA' cL' i' : Nat} {B' : List Blk} {P' : List Thing}
    (r : RWorld (Xw B0 h mb aT) w' wb s b bb y 8 A' L' aA' cA' aL' cL') (k : Keeps (Xw B0 h mb aT) w w') (hw : Obj.Wd y A' T' L' B' P' i') (ho : ∀ z ∈ L', z.own.length ≤ i') :
    Sends B0 w' wb s b bb h mb i' n y A' T' L' B' C P' O aA' cA' aL' cL' aT cT f :=
  ⟨r, ⟨k.heap S.hp.head (fun e => e.2.1 rfl), r.sp.mem, S.hp.ne1, S.hp.ne2, S.hp.lo0, S.hp.lt, hw.fit.top⟩, hw, ho, S.all.keeps k (fun _ hg e => e.2.2.2 hg), S.map.keeps k (fun e => e.2.2.1 rfl), S.told, by have := S.low; have := k.size; exact ⟨by omega, S.low.2⟩⟩
theorem keeps (S : Sends B0 w wb s b bb h mb i n x A T L B C P O aA cA aL cL aT cT f) (k : Keeps (fun _ => False) w w') : Sends B0 w' wb s b bb h mb i n x A T L B C P O aA cA aL cL aT cT f :=
  S.other (S.rw_.keeps9 k) (k.mono fun _ _ => False.elim) S.wd S.own
theorem more (S : Sends B0 w wb s b bb h mb i n x A T L B C P O aA cA aL cL aT cT f) : Sends B0 w wb s b bb h mb (i + 1) n x A T L B C P O aA cA aL cL aT cT f :=
  ⟨S.rw_, S.hp, S.wd.more, fun y hy => by have := S.own y hy; omega, S.all, S.map, S.told, S.low⟩
/-- The memory alone is another one. -/
theorem mem (S : Sends B0 w wb s b bb h mb i n x A T L B C P O aA cA aL cL aT cT f) {m : Mem} (hm : RMem w' b bb m) (hz : m.size = x.mem.size) (k : Keeps (fun j => j = bb) w w') {B' : List Blk} {P' : List Thing} (hw : Obj.Wd { x with mem := m } A T L B' P' i) :
    Sends B0 w' wb s b bb h mb i n { x with mem := m } A T L B' C P' O aA cA aL cL aT cT f :=
  S.other (S.rw_.space (S.rw_.sp.withMem' hm hz k) (k.mono fun _ _ e => .inr e)) (k.mono fun _ _ e => e ▸ S.rw_.low.2.2.2) hw S.own
/-- The space alone is another one. -/
theorem space (S : Sends B0 w wb s b bb h mb i n x A T L B C P O aA cA aL cL aT cT f) {y : Sp} (hy : RSp w' s b bb y) (k : Keeps (fun j => j = s ∨ j = bb) w w') {B' : List Blk} {P' : List Thing} (hw : Obj.Wd y A T L B' P' i) :
    Sends B0 w' wb s b bb h mb i n y A T L B' C P' O aA cA aL cL aT cT f :=
  S.other (S.rw_.space hy k) (k.mono fun _ _ e => by rcases e with rfl | rfl; exact S.rw_.low.2.1; exact S.rw_.low.2.2.2) hw S.own
/-- The map alone is another one. -/
theorem flag (S : Sends B0 w wb s b bb h mb i n x A T L B C P O aA cA aL cL aT cT f) {n' : Nat} {f' : Int → Bool} (hF : Flags w' mb n' f') (k : Keeps (fun j => j = mb) w w') {C' : List Blk} (ht : ∀ a, f' a = true ↔ Obj.Used C' a) :
    Sends B0 w' wb s b bb h mb i n' x A T L B C' P O aA cA aL cL aT cT f' := by
  have r := S.rw_.away k (fun g hg e => hg.2.2.1 e)
  have lo := S.low
  have sz := k.size
  exact ⟨r, ⟨k.heap S.hp.head lo.2.2.2.1, r.sp.mem, S.hp.ne1, S.hp.ne2, S.hp.lo0, S.hp.lt, S.hp.top⟩, S.wd, S.own, S.all.keeps k (fun g hg e => (lo.2.2.2.2 g hg).2.2 e), hF, ht, ⟨by omega, lo.2⟩⟩
/-- The slice is another one, new. -/
theorem slice (S : Sends B0 w wb s b bb h mb i n x A T L B C P O aA cA aL cL aT cT f) (k : Keeps (fun j => blk aT = some j) w w') {a' : Option Addr} {c' : Nat} {O' : List Thing} (o : OwnT w' a' c' O')
    (ha : ∀ g, blk a' = some g → blk aT = some g ∨ w.heap.size ≤ g) :
    Sends B0 w' wb s b bb h mb i n x A T L B C P O' aA cA aL cL a' c' f := by
  have r := S.rw_.away k (fun g hg e => hg.2.2.2 e)
  have lo := S.low
  have sz := k.size
  have lt1 := lt_of_heap S.hp.head
  have lt2 := S.map.lt
  have hlw := lt_of_heap S.rw_.head
  have hls := S.rw_.sp.lts
  have hla := fun g (hg : blk aA = some g) => S.rw_.own.lt hg
  have r0 : RWorld (fun g => Xw B0 h mb aT g ∧ g < w.heap.size) w' wb s b bb x 8 A L aA cA aL cL :=
    ⟨r.head, r.sp, r.own, (S.rw_.ref.mono (M := fun g => Out (Xw B0 h mb aT) wb s b bb aA g ∧ g < w.heap.size) (fun g hg n => ⟨n, hg⟩)).keeps k (fun g hg e => hg.1.1.2.2.2 e) |>.mono (fun g _ n => ⟨⟨n.1.1, n.2⟩, n.1.2⟩), ⟨⟨r.low.1, hlw⟩, ⟨r.low.2.1, hls.1⟩, ⟨r.low.2.2.1, hls.2.1⟩, ⟨r.low.2.2.2, hls.2.2⟩⟩, r.ne, fun g hg => ⟨⟨(r.at_ g hg).1, hla g hg⟩, (r.at_ g hg).2⟩⟩
  have r1 : RWorld (Xw B0 h mb a') w' wb s b bb x 8 A L aA cA aL cL := r0.monoX (fun g _ hg => ⟨hg.1.1, hg.1.2.1, hg.1.2.2.1, fun e => by
    rcases ha g e with e' | e'
    · exact hg.1.2.2.2 e'
    · have := hg.2; omega⟩)
  refine ⟨r1, ⟨k.heap S.hp.head (fun e => (lo.2.2.2.2 _ e).2.1 rfl), r.sp.mem, S.hp.ne1, S.hp.ne2, S.hp.lo0, S.hp.lt, S.hp.top⟩, S.wd, S.own, o, S.map.keeps k (fun e => (lo.2.2.2.2 _ e).2.2 rfl), S.told, ⟨by omega, lo.2.1, lo.2.2.1, lo.2.2.2.1, fun g hg => ?_⟩⟩
  rcases ha g hg with e | e
  · exact lo.2.2.2.2 g e
  · exact ⟨by omega, by omega, by omega⟩
end Sends
/-- A class more. -/
theorem sends_make {B0 : Nat} {w : World} {wb s b bb h mb i n : Nat} {x : Sp} {A T : List Int} {L : List RCls} {B C : List Blk} {P O : List Thing} {aA : Option Addr} {cA : Nat} {aL : Option Addr} {cL : Nat} {aT : Option Addr} {cT : Nat} {f : Int → Bool}
    (S : Sends B0 w wb s b bb h mb i n x A T L B C P O aA cA aL cL aT cT f) (hi : i ≤ 60) (p : Nat) (hp : p < 256) :
    Calls Try.prog 24 #[.pointer (some ⟨wb, 0, none⟩), .int .i64 (p : Int), .int .i64 5] w fun e w' => e = .returned (.bool true) ∧ (∃ x' A' T' L' aA' cA' aL' cL', Sends B0 w' wb s b bb h mb (i + 1) n x' A' T' L' B C P O aA' cA' aL' cL' aT cT f) ∧ Keeps (fun g => B0 ≤ g) w w' := by
  have hX := S.fresh
  have hAL : A.length = L.length := S.wd.good.nA
  have hLi := S.wd.len
  have hnew : ∀ (k : Option Nat) z, z ∈ Ref.new L (Class.parentNo k) 5 → z.own.length ≤ i + 1 := by
    intro k z hz
    rw [Class.new_last L k 5] at hz
    rcases List.mem_append.1 hz with hz | hz
    · have := S.own z hz; omega
    · rw [List.mem_singleton] at hz; subst hz; exact Nat.zero_le _
  have hover : ∀ (y : Sp) (q : Int), q = (if p < A.length then A.getD p 0 else 0) → -9223372036854775808 ≤ q → q ≤ 9223372036854775807 → Class.new x 8 q 5 = (y, 0, -8) → y.here = x.here → Obj.Wd y A T L B P (i + 1) →
      Calls Try.prog 24 #[.pointer (some ⟨wb, 0, none⟩), .int .i64 (p : Int), .int .i64 5] w fun e w' => e = .returned (.bool true) ∧ (∃ x' A' T' L' aA' cA' aL' cL', Sends B0 w' wb s b bb h mb (i + 1) n x' A' T' L' B C P O aA' cA' aL' cL' aT cT f) ∧ Keeps (fun g => B0 ≤ g) w w' := by
    intro y q hq q0 q1 e1 e2 e3
    refine (world_make_over (Xw B0 h mb aT) w wb s b bb x y 8 A L aA cA aL cL S.rw_ p 5 q hq q0 q1 (by omega) (by omega) e1 e2).mono ?_
    rintro e w' ⟨rfl, r', k'⟩
    have k2 : Keeps (Xw B0 h mb aT) w w' := k'.mono fun g _ e => by rcases e with rfl | rfl; exact S.rw_.low.2.1; exact S.rw_.low.2.2.2
    exact ⟨rfl, ⟨_, _, _, _, _, _, _, _, S.other r' k2 e3 (fun z hz => by have := S.own z hz; omega)⟩, k2.mono fun g _ e => e.1⟩
  by_cases hpl : p < L.length
  · have hbd := S.wd.good.pos hpl
    have htop := S.wd.here
    have hfs := S.wd.fit.small
    have hq : Class.nth A p = A.getD p 0 := rfl
    rcases S.wd.make hi (some p) (fun j hj => by cases hj; exact hpl) with ⟨y, e1, e2, e3⟩ | ⟨y, a, e1, e2, e3, e4⟩
    · exact hover y (Class.nth A p) (by rw [if_pos (by omega)]; rfl) (by omega) (by omega) e1 e2 e3
    · refine (world_make_at (Xw B0 h mb aT) w wb s b bb x y 8 A L aA cA aL cL S.rw_ hX p 5 (Class.nth A p) a (by omega) rfl (by omega) (by omega) (by omega) hAL e1).mono ?_
      rintro e w' ⟨rfl, ⟨aA', cA', aL', cL', r'⟩, k'⟩
      exact ⟨by rw [e3, decide_eq_true e2]; rfl, ⟨_, _, _, _, _, _, _, _, S.other r' k' e4 (hnew (some p))⟩, k'.mono fun g _ e => e.1⟩
  · rcases S.wd.make hi none (fun j hj => by cases hj) with ⟨y, e1, e2, e3⟩ | ⟨y, a, e1, e2, e3, e4⟩
    · exact hover y 0 (by rw [if_neg (by omega)]) (by omega) (by omega) e1 e2 e3
    · refine (world_make_no (Xw B0 h mb aT) w wb s b bb x y 8 A L aA cA aL cL S.rw_ hX p 5 (by omega) a (by omega) (by omega) hAL e1).mono ?_
      rintro e w' ⟨rfl, ⟨aA', cA', aL', cL', r'⟩, k'⟩
      exact ⟨by rw [e3, decide_eq_true e2]; rfl, ⟨_, _, _, _, _, _, _, _, S.other r' k' e4 (hnew none)⟩, k'.mono fun g _ e => e.1⟩
/-- A method more. -/
theorem sends_set {B0 : Nat} {w w1 : World} {wb s b bb h mb i n : Nat} {x : Sp} {A T : List Int} {L : List RCls} {B C : List Blk} {P O : List Thing} {aA : Option Addr} {cA : Nat} {aL : Option Addr} {cL : Nat} {aT : Option Addr} {cT : Nat} {f : Int → Bool}
    (S : Sends B0 w wb s b bb h mb i n x A T L B C P O aA cA aL cL aT cT f) {c : Nat} (hc : c < L.length) (sel xt : Int) (b1 : In64 sel) (b2 : In64 xt)
    (hm : RMem w1 b bb (Class.set x.mem 8 (Class.nth A c) sel xt).1) (k : Keeps (fun j => j = bb) w w1) {a5 : Option Addr} {c5 : Nat} (hr : RefL (Out (Xw B0 h mb aT) wb s b bb aA) w a5 (Ref.set L c sel xt).1.length c5 (Ref.set L c sel xt).1) :
    (∃ x' L', Sends B0 (w1.setCell ⟨wb, 4, none⟩ (.slice a5 (Ref.set L c sel xt).1.length c5)) wb s b bb h mb (i + 1) n x' A T L' B C P O aA cA a5 c5 aT cT f) ∧ Keeps (fun g => B0 ≤ g) w (w1.setCell ⟨wb, 4, none⟩ (.slice a5 (Ref.set L c sel xt).1.length c5)) := by
  obtain ⟨s1, s2⟩ := S.wd.set hc sel xt b1 b2
  have hsz := (S.wd.good.set hc sel xt b1 b2).2.1
  have hw1 := S.rw_.space (S.rw_.sp.withMem' hm hsz k) (k.mono fun _ _ e => .inr e)
  have hr1 := hr.keeps k (fun g hg e => hg.2.2.2.2.1 e)
  obtain ⟨hw2, k2⟩ := hw1.relist hr1
  have k3 : Keeps (Xw B0 h mb aT) w (w1.setCell ⟨wb, 4, none⟩ (.slice a5 (Ref.set L c sel xt).1.length c5)) := (k.mono fun g _ e => e ▸ S.rw_.low.2.2.2).trans (k2.mono fun g _ e => e ▸ S.rw_.low.1)
  exact ⟨⟨_, _, S.other hw2 k3 s2 (set_own L c sel xt i S.own)⟩, k3.mono fun g _ e => e.1⟩
/-- More bytes. -/
theorem sends_grow {B0 : Nat} {w w1 : World} {wb s b bb h mb i n : Nat} {x : Sp} {A T : List Int} {L : List RCls} {B C : List Blk} {P O : List Thing} {aA : Option Addr} {cA : Nat} {gL : Nat} {cL : Nat} {aT : Option Addr} {cT : Nat} {f : Int → Bool}
    (S : Sends B0 w wb s b bb h mb i n x A T L B C P O aA cA (some ⟨gL, 0, none⟩) cL aT cT f) (hi : i ≤ 60) {c : Nat} (hc : c < L.length) (v : Int) (v0 : 0 ≤ v) (v1 : v ≤ 255)
    (hm : RMem w1 b bb (Class.grow x.mem (Class.nth A c) v).1) (k : Keeps (fun j => j = bb) w w1) :
    (∃ x' L', Sends B0 (w1.setCell ⟨gL, c * 4 + 1, none⟩ (.int .i64 (((Ref.get L c).size + v + 7) / 8 * 8))) wb s b bb h mb (i + 1) n x' A T L' B C P O aA cA (some ⟨gL, 0, none⟩) cL aT cT f) ∧
      Keeps (fun g => B0 ≤ g) w (w1.setCell ⟨gL, c * 4 + 1, none⟩ (.int .i64 (((Ref.get L c).size + v + 7) / 8 * 8))) := by
  obtain ⟨m', e1, e2, e3⟩ := S.wd.grow hi hc v v0 v1
  rw [e1] at hm
  have hw1 := S.rw_.space (S.rw_.sp.withMem' hm e2 k) (k.mono fun _ _ e => .inr e)
  have hgc := S.rw_.ref.get hc
  obtain ⟨g, oa, on, oc, hg, hO, _⟩ := hgc
  cases hg
  have ks : Keeps (fun j => j = gL) w1 (w1.setCell ⟨gL, c * 4 + 1, none⟩ (.int .i64 (((Ref.get L c).size + v + 7) / 8 * 8))) := Keeps.set (Keeps.refl _ _) _ _ rfl
  have hr := hw1.ref.size hc (((Ref.get L c).size + v + 7) / 8 * 8)
  have hl : (L.set c { L[c] with size := ((Ref.get L c).size + v + 7) / 8 * 8 }) = Ref.resize L c (((Ref.get L c).size + v + 7) / 8 * 8) := by
    unfold Ref.resize
    rw [Ref.get_at L c hc]
  rw [hl] at hr
  have hlen : (Ref.resize L c (((Ref.get L c).size + v + 7) / 8 * 8)).length = L.length := Ref.resize_len _ _ _
  have r2 : RWorld (Xw B0 h mb aT) (w1.setCell ⟨gL, c * 4 + 1, none⟩ (.int .i64 (((Ref.get L c).size + v + 7) / 8 * 8))) wb s b bb { x with mem := m' } 8 A (Ref.resize L c (((Ref.get L c).size + v + 7) / 8 * 8)) aA cA (some ⟨gL, 0, none⟩) cL := by
    refine ⟨by rw [hlen]; exact ks.heap hw1.head (fun e => hO.2.1 e.symm), hw1.sp.keeps ks (fun e => hO.2.2.1 e.symm) (fun e => hO.2.2.2.1 e.symm) (fun e => hO.2.2.2.2.1 e.symm), hw1.own.keeps ks (fun g hg e => hO.2.2.2.2.2 (e ▸ hg)), by rw [hlen]; exact hr, hw1.low, hw1.ne, hw1.at_⟩
  have k3 : Keeps (Xw B0 h mb aT) w (w1.setCell ⟨gL, c * 4 + 1, none⟩ (.int .i64 (((Ref.get L c).size + v + 7) / 8 * 8))) := (k.mono fun g _ e => e ▸ S.rw_.low.2.2.2).trans (ks.mono fun g _ e => e ▸ hO.1)
  refine ⟨⟨_, _, S.other r2 k3 e3 (fun z hz => ?_)⟩, k3.mono fun g _ e => e.1⟩
  unfold Ref.resize at hz
  rcases List.mem_or_eq_of_mem_set hz with hz | rfl
  · have := S.own z hz; omega
  · simp only
    rw [Ref.get_at L c hc]
    have := S.own _ (List.getElem_mem hc); omega
/-- The loop's state, by the slice alone. -/
def SendsV (B0 : Nat) (w : World) (wb s b bb h mb i : Nat) (v : Value) : Prop :=
  ∃ n x A T L B O aA cA aL cL aT cT f, v = .slice aT O.length cT ∧ n ≤ i ∧ O.length ≤ i ∧ Sends B0 w wb s b bb h mb i n x A T L B B O O aA cA aL cL aT cT f
theorem sends_start {B0 : Nat} {wc w4 : World} {wb s b bb h : Nat} (R : RWorld (fun g => B0 ≤ g) wc wb s b bb ⟨Obj.y0.mem, 16, 16384, 16⟩ 8 [] [] none 0 none 0) (H : RHp w4 h b bb Obj.m1 16384 32768) (lh : wc.heap.size ≤ h) (k : Keeps (fun j => j = bb) wc w4) :
    SendsV B0 (w4.alloc (.map #[] 0)) wb s b bb h w4.heap.size 0 (.slice none 0 0) := by
  have hl := R.sp.lts
  have hlw := lt_of_heap R.head
  have lw := R.low
  have R0 : RWorld (fun g => B0 ≤ g ∧ g < wc.heap.size) wc wb s b bb ⟨Obj.y0.mem, 16, 16384, 16⟩ 8 [] [] none 0 none 0 := R.monoX fun g hg h => ⟨h, hg⟩
  have hz : Obj.m1.size = Obj.y0.mem.size := by rw [Obj.m1_size, Obj.y0_size]
  have R1 := R0.space (R0.sp.withMem' H.mem hz k) (k.mono fun _ _ e => .inr e)
  have R2 := R1.keeps9 (Keeps.alloc (fun _ => False) w4 (.map #[] 0))
  have sz := k.size
  have hh := lt_of_heap H.head
  refine ⟨0, ⟨Obj.m1, 16, 16384, 16⟩, [], [], [], [⟨16384, 16384, false⟩], [], none, 0, none, 0, none, 0, fun _ => false, rfl, Nat.le_refl _, Nat.le_refl _, ⟨R2.monoX fun g _ hg => ⟨hg.1, by omega, by omega, (fun e => nomatch e)⟩, H.keeps (Keeps.alloc (fun _ => False) w4 (.map #[] 0)) id id id, Obj.start, (fun y hy => nomatch hy), Own.nil _ _ _, Flags.made w4, fun a => ⟨(fun e => nomatch e), fun e => absurd e (Obj.used_start a)⟩, ⟨?_, by omega, by omega, by omega, (fun g e => nomatch e)⟩⟩⟩
  rw [World.size_alloc]; omega
end Go.Proofs.Shed
