/- IfaceMissing: of any acts, and any selectors, it returns true. Conditions: the acts and selectors lie in the world. -/
import Derived.Test.YthhfkhhhclmimaaWLiv
import Derived.Test.YthhfkhhhclmimaaWWorldC
import Derived.Test.YthhfkhhhclmimaaWRefF
import Derived.Test.YthhfkhhhclmimaaPC
set_option linter.unusedVariables false
set_option linter.unusedSimpArgs false
set_option maxRecDepth 10000
set_option maxHeartbeats 8000000
namespace Go.Proofs.Shed
open Go Go.RowKit Go.Proofs.K

/-- What comes in: a class more, or a method that is set. -/
structure Deed where
  kind : Nat
  p : Nat
  c : Nat
  sel : Int
  xt : Int
def Deed.Ok (d : Deed) : Prop := d.kind < 256 ∧ d.p < 256 ∧ d.c < 256 ∧ -32768 ≤ d.sel ∧ d.sel ≤ 32767 ∧ -32768 ≤ d.xt ∧ d.xt ≤ 32767
def ArgD (w : World) (a : Option Addr) (D : List Deed) : Prop :=
  ∀ i (h : i < D.length), ∃ g o, a = some ⟨g, o, none⟩ ∧ w.cell? ⟨g, o + i * 5, none⟩ = some (.int .u8 D[i].kind) ∧ w.cell? ⟨g, o + i * 5 + 1, none⟩ = some (.int .u8 D[i].p) ∧ w.cell? ⟨g, o + i * 5 + 2, none⟩ = some (.int .u8 D[i].c) ∧
    w.cell? ⟨g, o + i * 5 + 3, none⟩ = some (.int .i16 D[i].sel) ∧ w.cell? ⟨g, o + i * 5 + 4, none⟩ = some (.int .i16 D[i].xt) ∧ D[i].Ok
def ArgS (w : World) (a : Option Addr) (L : List Int) : Prop := ∀ i (h : i < L.length), ∃ g o, a = some ⟨g, o, none⟩ ∧ w.cell? ⟨g, o + i, none⟩ = some (.int .i16 L[i]) ∧ -32768 ≤ L[i] ∧ L[i] ≤ 32767
theorem root64 : ∃ y, Class.root ⟨Mem.zero (65536 : Int).toNat, 8, 65536, 8⟩ = (y, 8, 0) := by
  have : (Class.root ⟨Mem.zero (65536 : Int).toNat, 8, 65536, 8⟩).2 = (8, 0) := by decide +kernel
  exact ⟨_, Prod.ext rfl this⟩
/-- A world of classes of 6 slots, behind so many acts. -/
structure Miss (B : Nat) (w : World) (wb s b bb i : Nat) (x : Sp) (A : List Int) (L : List RCls) (aA : Option Addr) (cA : Nat) (aL : Option Addr) (cL : Nat) : Prop where
  rw_ : RWorld (fun g => B ≤ g) w wb s b bb x 8 A L aA cA aL cL
  six : Class.Six x A L
  len : A.length = L.length
  few : L.length ≤ i
  own : ∀ y ∈ L, y.own.length ≤ i
def Misses (B : Nat) (w : World) (wb s b bb i : Nat) : Prop := ∃ x A L aA cA aL cL, Miss B w wb s b bb i x A L aA cA aL cL
theorem Class.Six.nA {x : Sp} {A : List Int} {L : List RCls} (h : Class.Six x A L) : A.length = L.length := by
  obtain ⟨T, hg, _⟩ := h
  exact hg.nA
theorem Class.Six.ref {x : Sp} {A : List Int} {L : List RCls} (h : Class.Six x A L) : Ref.Ok L := by
  obtain ⟨T, hg, _⟩ := h
  exact hg.ref
theorem Class.Six.bd {x : Sp} {A : List Int} {L : List RCls} (h : Class.Six x A L) (c : Nat) (hc : c < L.length) : 0 < Class.nth A c ∧ Class.nth A c < 65536 := by
  obtain ⟨T, hg, _, _, _, h3, _⟩ := h
  have := hg.pos hc
  omega
theorem Class.Six.size {x : Sp} {A : List Int} {L : List RCls} (h : Class.Six x A L) : x.mem.size = 65536 := by
  obtain ⟨T, hg, _, _, _, h3, _⟩ := h
  exact h3
theorem RWorld.fresh {X : Nat → Prop} {w : World} {wb s b bb : Nat} {x : Sp} {r : Int} {A : List Int} {L : List RCls} {aA : Option Addr} {cA : Nat} {aL : Option Addr} {cL : Nat} (h : RWorld X w wb s b bb x r A L aA cA aL cL) (hX : ∀ g, w.heap.size ≤ g → X g) : ∀ g, w.heap.size ≤ g → Out X wb s b bb aA g := by
  have h2 := h.sp.lts
  have h3 := lt_of_heap h.head
  intro g hg
  exact ⟨hX g hg, by omega, by omega, by omega, by omega, fun e => by have := h.own.lt e; omega⟩
theorem RWorld.lts {B : Nat} {w : World} {wb s b bb : Nat} {x : Sp} {r : Int} {A : List Int} {L : List RCls} {aA : Option Addr} {cA : Nat} {aL : Option Addr} {cL : Nat} (h : RWorld (fun g => B ≤ g) w wb s b bb x r A L aA cA aL cL) : B ≤ wb ∧ B ≤ s ∧ B ≤ b ∧ B ≤ bb ∧ wb < w.heap.size ∧ s < w.heap.size ∧ b < w.heap.size ∧ bb < w.heap.size := by
  have h1 : B ≤ wb ∧ B ≤ s ∧ B ≤ b ∧ B ≤ bb := h.low
  have h2 := h.sp.lts
  have h3 := lt_of_heap h.head
  omega
/-- One class more. -/
theorem miss_make (B : Nat) (w : World) (wb s b bb i : Nat) (h : Misses B w wb s b bb i) (hi : i ≤ 40) (p : Nat) :
    Calls Try.prog 24 #[.pointer (some ⟨wb, 0, none⟩), .int .i64 (p : Int), .int .i64 6] w fun e w' => e = .returned (.bool true) ∧ Misses B w' wb s b bb (i + 1) ∧ Keeps (fun g => B ≤ g) w w' := by
  obtain ⟨x, A, L, aA, cA, aL, cL, hr, h6, hAL, hL, hO⟩ := h
  have hX : ∀ g, w.heap.size ≤ g → B ≤ g := fun g hg => by have := hr.lts; omega
  by_cases hp : p < L.length
  · obtain ⟨y, a, e1, e2, e3, e4⟩ := h6.make (by omega) (some p) (fun j hj => by cases hj; exact hp)
    have hb := h6.bd p hp
    refine (world_make_at (fun g => B ≤ g) w wb s b bb x y 8 A L aA cA aL cL hr hX p 6 (Class.nth A p) a (by omega) rfl (by omega) (by omega) (by omega) hAL e1).mono ?_
    rintro e w' ⟨rfl, ⟨aA', cA', aL', cL', r'⟩, k'⟩
    refine ⟨by rw [e4, decide_eq_true e3]; rfl, ⟨y, _, _, _, _, _, _, r', e2, ?_, ?_, ?_⟩, k'⟩
    · exact e2.nA
    · have := Class.new_last L (some p) 6
      unfold Class.parentNo at this
      rw [this, List.length_append, List.length_singleton]; omega
    · have := Class.new_last L (some p) 6
      unfold Class.parentNo at this
      rw [this]
      intro z hz
      rcases List.mem_append.1 hz with hz | hz
      · have := hO z hz; omega
      · rw [List.mem_singleton] at hz; subst hz; exact Nat.zero_le _
  · obtain ⟨y, a, e1, e2, e3, e4⟩ := h6.make (by omega) none (fun j hj => by cases hj)
    refine (world_make_no (fun g => B ≤ g) w wb s b bb x y 8 A L aA cA aL cL hr hX p 6 (by omega) a (by omega) (by omega) hAL e1).mono ?_
    rintro e w' ⟨rfl, ⟨aA', cA', aL', cL', r'⟩, k'⟩
    refine ⟨by rw [e4, decide_eq_true e3]; rfl, ⟨y, _, _, _, _, _, _, r', e2, ?_, ?_, ?_⟩, k'⟩
    · exact e2.nA
    · have := Class.new_last L none 6
      unfold Class.parentNo at this
      rw [this, List.length_append, List.length_singleton]; omega
    · have := Class.new_last L none 6
      unfold Class.parentNo at this
      rw [this]
      intro z hz
      rcases List.mem_append.1 hz with hz | hz
      · have := hO z hz; omega
      · rw [List.mem_singleton] at hz; subst hz; exact Nat.zero_le _
/-- The list alone is another one. -/
theorem RWorld.relist {X : Nat → Prop} {w : World} {wb s b bb : Nat} {x : Sp} {r : Int} {A : List Int} {L L' : List RCls} {aA : Option Addr} {cA : Nat} {aL a5 : Option Addr} {cL c5 : Nat} (h : RWorld X w wb s b bb x r A L aA cA aL cL)
    (hr : RefL (Out X wb s b bb aA) w a5 L'.length c5 L') :
    RWorld X (w.setCell ⟨wb, 4, none⟩ (.slice a5 L'.length c5)) wb s b bb x r A L' aA cA a5 c5 ∧ Keeps (fun g => g = wb) w (w.setCell ⟨wb, 4, none⟩ (.slice a5 L'.length c5)) := by
  have hne := h.ne
  have KS : Keeps (fun j => j = wb) w (w.setCell ⟨wb, 4, none⟩ (.slice a5 L'.length c5)) := Keeps.set (Keeps.refl _ _) _ _ rfl
  have hh4 := hset_same (i := 4) h.head (.slice a5 L'.length c5)
  refine ⟨⟨hh4, ?_, ?_, ?_, h.low, hne, h.at_⟩, KS⟩
  · exact h.sp.keeps KS (by omega) (by omega) (by omega)
  · exact Own.keeps h.own KS (fun g hg e => (h.at_ g hg).2.1 e)
  · exact hr.keeps KS (fun g hg e => hg.2.1 e)
theorem set_own (L : List RCls) (c : Nat) (sel xt : Int) (i : Nat) (h : ∀ y ∈ L, y.own.length ≤ i) : ∀ y ∈ (Ref.set L c sel xt).1, y.own.length ≤ i + 1 := by
  intro y hy
  unfold Ref.set at hy
  split at hy
  · have := h y hy; omega
  · split at hy
    · have := h y hy; omega
    · unfold Ref.put at hy
      rcases List.mem_or_eq_of_mem_set hy with hy | rfl
      · have := h y hy; omega
      · simp only
        rw [List.length_append, List.length_singleton]
        have h1 := List.length_filter_le (fun p : Int × Int => decide (p.1 ≠ sel)) (Ref.get L c).own
        have h2 : (Ref.get L c).own.length ≤ i := by
          unfold Ref.get
          rw [List.getD_eq_getElem?_getD]
          cases hq : L[(c : Int).toNat]? with
          | none => simp
          | some z => exact h z (List.mem_of_getElem? hq)
        omega
/-- The world behind a method that was set. -/
theorem miss_set {B : Nat} {w w1 : World} {wb s b bb i : Nat} {x : Sp} {A : List Int} {L : List RCls} {aA : Option Addr} {cA : Nat} {aL : Option Addr} {cL : Nat} (h : Miss B w wb s b bb i x A L aA cA aL cL) {c : Nat} (hc : c < L.length) (sel xt : Int) (b1 : In64 sel) (b2 : In64 xt)
    (hm : RMem w1 b bb (Class.set x.mem 8 (Class.nth A c) sel xt).1) (k : Keeps (fun j => j = bb) w w1) {a5 : Option Addr} {c5 : Nat} (hr : RefL (Out (fun g => B ≤ g) wb s b bb aA) w a5 (Ref.set L c sel xt).1.length c5 (Ref.set L c sel xt).1) :
    Misses B (w1.setCell ⟨wb, 4, none⟩ (.slice a5 (Ref.set L c sel xt).1.length c5)) wb s b bb (i + 1) ∧ Keeps (fun g => B ≤ g) w (w1.setCell ⟨wb, 4, none⟩ (.slice a5 (Ref.set L c sel xt).1.length c5)) := by
  obtain ⟨hw, h6, hAL, hL, hO⟩ := h
  obtain ⟨s1, s2⟩ := h6.set hc sel xt b1 b2
  have hsz : (Class.set x.mem 8 (Class.nth A c) sel xt).1.size = x.mem.size := s2.size.trans h6.size.symm
  have s3 := hw.sp.withMem' hm hsz k
  have hw1 := hw.space s3 (k.mono fun _ _ e => .inr e)
  have hr1 := hr.keeps k (fun g hg e => hg.2.2.2.2.1 e)
  obtain ⟨hw2, k2⟩ := hw1.relist hr1
  have low := hw.lts
  refine ⟨⟨_, A, _, aA, cA, a5, c5, hw2, s2, by rw [Class.set_length]; exact hAL, by rw [Class.set_length]; omega, set_own L c sel xt i hO⟩, ?_⟩
  exact (k.mono fun g _ e => by omega).trans (k2.mono fun g _ e => by omega)
end Go.Proofs.Shed
