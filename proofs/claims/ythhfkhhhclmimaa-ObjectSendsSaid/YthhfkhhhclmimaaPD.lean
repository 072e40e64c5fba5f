/- The plain law's heap: blocks one behind the other; one that is given, one that is given back. No program in sight; no condition. The plain law's heap: a block that is given back. No program in sight; no condition. The plain law's objects: texts that stay, an object that is made, what it is sent. No program in sight; no condition. The plain law of objects: classes, a heap, and objects of them, behind each step. No program in sight; no condition. The plain law of objects: one more in the heap, or in the dictionary; one that is filled, or freed. No program in sight; no condition. The plain law of objects: how it begins. No program in sight; no condition. -/
import Derived.Test.YthhfkhhhclmimaaPB
import Derived.Test.YthhfkhhhclmimaaPA
import Derived.Test.YthhfkhhhclmimaaPC
set_option linter.unusedVariables false
set_option linter.unusedSimpArgs false
namespace Go.Proofs.Shed
namespace Heap
def hd (b : Blk) : Int := if b.used then b.size + 1 else b.size
/-- Blocks from a place on, up to another one. -/
def Chain (m : Mem) : Int → List Blk → Int → Prop
  | a, [], z => a = z
  | a, b :: l, z => b.at_ = a ∧ 16 ≤ b.size ∧ b.size % 8 = 0 ∧ m.cell a = (hd b, 0) ∧ Chain m (a + b.size) l z
theorem Chain.le {m : Mem} {a z : Int} {l : List Blk} (h : Chain m a l z) : a ≤ z := by
  induction l generalizing a with
  | nil => exact Int.le_of_eq h
  | cons b l ih =>
    obtain ⟨h1, h2, h3, h4, h5⟩ := h
    have := ih h5
    omega
theorem Chain.mem {m : Mem} {a z : Int} {l : List Blk} (h : Chain m a l z) (a8 : a % 8 = 0) {b : Blk} (hb : b ∈ l) : a ≤ b.at_ ∧ b.at_ + b.size ≤ z ∧ b.at_ % 8 = 0 ∧ 16 ≤ b.size ∧ b.size % 8 = 0 ∧ m.cell b.at_ = (hd b, 0) := by
  induction l generalizing a with
  | nil => cases hb
  | cons c l ih =>
    obtain ⟨h1, h2, h3, h4, h5⟩ := h
    rcases List.mem_cons.1 hb with rfl | hb
    · have := h5.le
      refine ⟨by omega, by omega, by omega, h2, h3, by rw [h1]; exact h4⟩
    · have := ih h5 (by omega) hb
      refine ⟨by omega, this.2.1, this.2.2⟩
theorem Chain.append {m : Mem} {a z : Int} {l r : List Blk} : Chain m a (l ++ r) z ↔ ∃ y, Chain m a l y ∧ Chain m y r z := by
  induction l generalizing a with
  | nil =>
    constructor
    · intro h; exact ⟨a, rfl, h⟩
    · rintro ⟨y, rfl, h⟩; exact h
  | cons b l ih =>
    constructor
    · rintro ⟨h1, h2, h3, h4, h5⟩
      obtain ⟨y, hy, hr⟩ := ih.1 h5
      exact ⟨y, ⟨h1, h2, h3, h4, hy⟩, hr⟩
    · rintro ⟨y, ⟨h1, h2, h3, h4, h5⟩, hr⟩
      exact ⟨h1, h2, h3, h4, ih.2 ⟨y, h5, hr⟩⟩
theorem Chain.frame {m m' : Mem} {a z : Int} {l : List Blk} (h : Chain m a l z) (hc : ∀ b ∈ l, m'.cell b.at_ = m.cell b.at_) : Chain m' a l z := by
  induction l generalizing a with
  | nil => exact h
  | cons b l ih =>
    obtain ⟨h1, h2, h3, h4, h5⟩ := h
    exact ⟨h1, h2, h3, by rw [← h1, hc b (by simp), h1]; exact h4, ih h5 (fun b hb => hc b (by simp [hb]))⟩
theorem Chain.apart {m : Mem} {a z : Int} {l : List Blk} (h : Chain m a l z) (a8 : a % 8 = 0) {b c : Blk} (hb : b ∈ l) (hc : c ∈ l) : b = c ∨ b.at_ + b.size ≤ c.at_ ∨ c.at_ + c.size ≤ b.at_ := by
  induction l generalizing a with
  | nil => cases hb
  | cons d l ih =>
    obtain ⟨h1, h2, h3, h4, h5⟩ := h
    rcases List.mem_cons.1 hb with eb | mb
    · rcases List.mem_cons.1 hc with ec | mc
      · exact .inl (by rw [eb, ec])
      · have := h5.mem (by omega) mc
        rw [eb]
        exact .inr (.inl (by omega))
    · rcases List.mem_cons.1 hc with ec | mc
      · have := h5.mem (by omega) mb
        rw [ec]
        exact .inr (.inr (by omega))
      · exact ih h5 (by omega) mb mc
theorem blk_hd (a : Int) (b : Blk) (h1 : b.at_ = a) (h3 : b.size % 8 = 0) : blk a (hd b) = b := by
  obtain ⟨at_, size, used⟩ := b
  simp only at h1 h3
  subst h1
  unfold blk hd
  cases used with
  | true =>
    simp only [if_true]
    congr 1
    · omega
    · exact decide_eq_true (by omega)
  | false =>
    simp only [Bool.false_eq_true, if_false]
    congr 1
    · omega
    · exact decide_eq_false (by omega)
theorem blocksN_law (m : Mem) (k : Nat) (a z : Int) (l : List Blk) (h : Chain m a l z) (hk : z - a ≤ k) : blocksN m z k a = some l := by
  induction k generalizing a l with
  | zero =>
    cases l with
    | nil => rfl
    | cons b l =>
      exfalso
      obtain ⟨h1, h2, h3, h4, h5⟩ := h
      have := h5.le
      omega
  | succ k ih =>
    rw [blocksN]
    cases l with
    | nil =>
      have h : a = z := h
      rw [if_neg (by omega)]
    | cons b l =>
      obtain ⟨h1, h2, h3, h4, h5⟩ := h
      have := h5.le
      rw [if_pos (by omega), h4]
      simp only
      rw [blk_hd a b h1 h3, if_neg (by simp; omega), ih _ _ h5 (by omega)]
      rfl
theorem blocks_law {m : Mem} {lo z : Int} {l : List Blk} (h : Chain m lo l z) : blocks m lo z = some l := blocksN_law m _ _ _ l h (by have := h.le; omega)
theorem need_bd (n : Int) (h : 0 ≤ n) : 16 ≤ need n ∧ n + 8 ≤ need n ∧ need n % 8 = 0 ∧ need n ≤ n + 16 := by
  unfold need
  split <;> omega
theorem pick_some {size : Int} {l : List Blk} {b : Blk} (h : pick size l = some b) : ∃ p r, l = p ++ b :: r ∧ b.used = false ∧ size ≤ b.size := by
  induction l with
  | nil => cases h
  | cons c l ih =>
    rw [pick] at h
    split at h
    · obtain ⟨p, r, e, h1, h2⟩ := ih h
      exact ⟨c :: p, r, by rw [e]; rfl, h1, h2⟩
    · rename_i hc
      cases h
      refine ⟨[], l, rfl, ?_, by omega⟩
      cases hu : b.used with
      | true => exact absurd (.inl hu) hc
      | false => rfl
/-- A heap in a memory. -/
structure Fit (m : Mem) (lo : Int) (l : List Blk) (to : Int) : Prop where
  ch : Chain m lo l to
  lo0 : 0 ≤ lo
  lo8 : lo % 8 = 0
  top : to ≤ m.size
  small : m.size ≤ 1048576
theorem Fit.at_ {m : Mem} {lo to : Int} {l : List Blk} (h : Fit m lo l to) {a : Int} (h0 : lo ≤ a) (h1 : a + 8 ≤ to) (h8 : a % 8 = 0) : m.at_ a = 0 := by
  have := h.lo0
  have := h.top
  rw [Mem.at_zero]
  omega
theorem put_cells {m : Mem} {lo to : Int} {l : List Blk} (h : Fit m lo l to) (b : Blk) (h0 : lo ≤ b.at_) (h1 : b.at_ + b.size ≤ to) (h2 : 8 ≤ b.size) (h8 : b.at_ % 8 = 0) :
    (put m b).2 = 0 ∧ (put m b).1.size = m.size ∧ (put m b).1.cell b.at_ = (hd b, 0) ∧ ∀ a, a ≠ b.at_ → (put m b).1.cell a = m.cell a := by
  have ha := h.at_ h0 (by omega) h8
  have := h.top
  have := h.small
  have := h.lo0
  refine ⟨by unfold put; rw [Mem.setCell_code]; exact ha, Mem.setCell_size _ _ _, ?_, fun a hne => Mem.cell_set_apart _ _ _ _ hne⟩
  exact Mem.cell_set_same _ _ _ ha (by split <;> omega) (by split <;> omega)
/-- What is given: a used block with room, all others that are used as before. -/
theorem alloc_law {m : Mem} {lo to : Int} {l : List Blk} (h : Fit m lo l to) (n : Int) (n0 : 0 ≤ n) (n1 : n ≤ 1048576) :
    alloc m lo to n = (m, 0, -59) ∨
    ∃ (m' : Mem) (l' : List Blk) (b : Blk), alloc m lo to n = (m', b.at_ + 8, 0) ∧ Fit m' lo l' to ∧ m'.size = m.size ∧ b ∈ l' ∧ b.used = true ∧ n + 8 ≤ b.size ∧
      (∀ u ∈ l, u.used = true → u ∈ l' ∧ (u.at_ + u.size ≤ b.at_ ∨ b.at_ + b.size ≤ u.at_)) ∧
      (∀ u ∈ l', u.used = true → u = b ∨ u ∈ l) ∧
      ∀ c, (c < lo ∨ to ≤ c ∨ ∃ u ∈ l, u.used = true ∧ u.at_ ≤ c ∧ c < u.at_ + u.size) → m'.cell c = m.cell c := by
  unfold alloc
  rw [if_neg (by omega), blocks_law h.ch]
  simp only
  cases hp : pick (need n) l with
  | none => exact .inl rfl
  | some b =>
    right
    obtain ⟨p, r, e, hu, hs⟩ := pick_some hp
    have hn := need_bd n n0
    have hl8 := h.lo8
    have hch := h.ch
    rw [e, Chain.append] at hch
    obtain ⟨y, hcp, hb1, hb2, hb3, hb4, hcr⟩ := hch
    have hy8 : y % 8 = 0 := by
      have := h.ch.mem hl8 (b := b) (by rw [e]; simp)
      omega
    have hyl := hcp.le
    have hrl := hcr.le
    have hcp' := fun u (hu : u ∈ p) => hcp.mem hl8 hu
    have hcr' := fun u (hu : u ∈ r) => hcr.mem (by omega) hu
    simp only
    unfold give
    by_cases hsp : 16 ≤ b.size - need n
    · rw [if_pos hsp]
      obtain ⟨c1, c2, c3, c4⟩ := put_cells h ⟨b.at_ + need n, b.size - need n, false⟩ (by simp only; omega) (by simp only; omega) (by simp only; omega) (by simp only; omega)
      generalize put m ⟨b.at_ + need n, b.size - need n, false⟩ = q at c1 c2 c3 c4
      simp only at c3 c4
      have hm1 : Chain q.1 lo p y := hcp.frame fun u hu => c4 _ (by have := hcp' u hu; omega)
      have hf1 : Fit q.1 lo (p ++ []) y := ⟨by rw [List.append_nil]; exact hm1, h.lo0, hl8, by have := h.top; rw [c2]; omega, by rw [c2]; exact h.small⟩
      have ha : q.1.at_ b.at_ = 0 := by
        rw [Mem.at_size c2]
        exact h.at_ (by omega) (by omega) (by omega)
      have d1 : (put q.1 ⟨b.at_, need n, true⟩).2 = 0 := by unfold put; rw [Mem.setCell_code]; exact ha
      have d2 : (put q.1 ⟨b.at_, need n, true⟩).1.size = q.1.size := Mem.setCell_size _ _ _
      have d3 : (put q.1 ⟨b.at_, need n, true⟩).1.cell b.at_ = (need n + 1, 0) := Mem.cell_set_same _ _ _ ha (by simp only [if_true]; omega) (by simp only [if_true]; omega)
      have d4 : ∀ a, a ≠ b.at_ → (put q.1 ⟨b.at_, need n, true⟩).1.cell a = q.1.cell a := fun a hne => Mem.cell_set_apart _ _ _ _ hne
      generalize put q.1 ⟨b.at_, need n, true⟩ = s at d1 d2 d3 d4
      have keep : ∀ c, c ≠ b.at_ → c ≠ b.at_ + need n → s.1.cell c = m.cell c := fun c h1 h2 => by rw [d4 c h1, c4 c h2]
      have hsz : s.1.size = m.size := by rw [d2, c2]
      have hne : ∀ u ∈ l, u.used = true → u ∈ p ∨ u ∈ r := by
        intro u hu1 hu2
        rw [e] at hu1
        rcases List.mem_append.1 hu1 with h1 | h1
        · exact .inl h1
        · rcases List.mem_cons.1 h1 with rfl | h1
          · rw [hu] at hu2; cases hu2
          · exact .inr h1
      refine ⟨s.1, p ++ (⟨b.at_, need n, true⟩ :: ⟨b.at_ + need n, b.size - need n, false⟩ :: r), ⟨b.at_, need n, true⟩, by rw [d1], ⟨?_, h.lo0, hl8, by rw [hsz]; exact h.top, by rw [hsz]; exact h.small⟩, hsz, by simp, rfl, hn.2.1, ?_, ?_, ?_⟩
      · rw [Chain.append]
        refine ⟨y, hcp.frame (fun u hu => keep _ (by have := hcp' u hu; omega) (by have := hcp' u hu; omega)), hb1, hn.1, hn.2.2.1, ?_, ?_, by simp only; omega, by simp only; omega, ?_, ?_⟩
        · rw [← hb1]; exact d3
        · simp only; omega
        · have : y + need n = b.at_ + need n := by omega
          simp only
          rw [this, d4 _ (by omega)]
          exact c3
        · simp only
          rw [show y + need n + (b.size - need n) = y + b.size by omega]
          exact hcr.frame (fun u hu => keep _ (by have := hcr' u hu; omega) (by have := hcr' u hu; omega))
      · intro u hu1 hu2
        rcases hne u hu1 hu2 with h1 | h1
        · have := hcp' u h1
          exact ⟨by simp [h1], .inl (by simp only; omega)⟩
        · have := hcr' u h1
          exact ⟨by simp [h1], .inr (by simp only; omega)⟩
      · intro u hu1 hu2
        rcases List.mem_append.1 hu1 with h1 | h1
        · exact .inr (by rw [e]; simp [h1])
        · rcases List.mem_cons.1 h1 with rfl | h1
          · exact .inl rfl
          · rcases List.mem_cons.1 h1 with rfl | h1
            · cases hu2
            · exact .inr (by rw [e]; simp [h1])
      · intro c hc
        have hin : c ≠ b.at_ ∧ c ≠ b.at_ + need n := by
          rcases hc with h1 | h1 | ⟨u, hu1, hu2, h1, h2⟩
          · omega
          · omega
          · rcases hne u hu1 hu2 with h3 | h3
            · have := hcp' u h3; omega
            · have := hcr' u h3; omega
        exact keep c hin.1 hin.2
    · rw [if_neg hsp]
      obtain ⟨c1, c2, c3, c4⟩ := put_cells h ⟨b.at_, b.size, true⟩ (by simp only; omega) (by simp only; omega) (by simp only; omega) (by simp only; omega)
      generalize put m ⟨b.at_, b.size, true⟩ = q at c1 c2 c3 c4
      simp only at c3 c4
      have hne : ∀ u ∈ l, u.used = true → u ∈ p ∨ u ∈ r := by
        intro u hu1 hu2
        rw [e] at hu1
        rcases List.mem_append.1 hu1 with h1 | h1
        · exact .inl h1
        · rcases List.mem_cons.1 h1 with rfl | h1
          · rw [hu] at hu2; cases hu2
          · exact .inr h1
      refine ⟨q.1, p ++ (⟨b.at_, b.size, true⟩ :: r), ⟨b.at_, b.size, true⟩, by rw [c1], ⟨?_, h.lo0, hl8, by rw [c2]; exact h.top, by rw [c2]; exact h.small⟩, c2, by simp, rfl, by simp only; omega, ?_, ?_, ?_⟩
      · rw [Chain.append]
        refine ⟨y, hcp.frame (fun u hu => c4 _ (by have := hcp' u hu; omega)), hb1, hb2, hb3, ?_, ?_⟩
        · rw [← hb1]; exact c3
        · exact hcr.frame (fun u hu => c4 _ (by have := hcr' u hu; omega))
      · intro u hu1 hu2
        rcases hne u hu1 hu2 with h1 | h1
        · have := hcp' u h1
          exact ⟨by simp [h1], .inl (by simp only; omega)⟩
        · have := hcr' u h1
          exact ⟨by simp [h1], .inr (by simp only; omega)⟩
      · intro u hu1 hu2
        rcases List.mem_append.1 hu1 with h1 | h1
        · exact .inr (by rw [e]; simp [h1])
        · rcases List.mem_cons.1 h1 with rfl | h1
          · exact .inl rfl
          · exact .inr (by rw [e]; simp [h1])
      · intro c hc
        refine c4 c ?_
        rcases hc with h1 | h1 | ⟨u, hu1, hu2, h1, h2⟩
        · omega
        · omega
        · rcases hne u hu1 hu2 with h3 | h3
          · have := hcp' u h3; omega
          · have := hcr' u h3; omega
end Heap
end Go.Proofs.Shed
set_option linter.unusedVariables false
set_option linter.unusedSimpArgs false
namespace Go.Proofs.Shed
namespace Heap
theorem findN_law (a : Int) (l : List Blk) (i : Nat) : (findN a i l = -1 ∧ ∀ b ∈ l, ¬ (b.used = true ∧ b.at_ + 8 = a)) ∨ ∃ p b r, l = p ++ b :: r ∧ findN a i l = (i : Int) + p.length ∧ b.used = true ∧ b.at_ + 8 = a := by
  induction l generalizing i with
  | nil => exact .inl ⟨rfl, fun b hb => absurd hb (by simp)⟩
  | cons c l ih =>
    rw [findN]
    by_cases h : c.used = true ∧ c.at_ + 8 = a
    · rw [if_pos h]
      exact .inr ⟨[], c, l, rfl, by simp, h.1, h.2⟩
    · rw [if_neg h]
      rcases ih (i + 1) with ⟨h1, h2⟩ | ⟨p, b, r, e, h1, h2, h3⟩
      · refine .inl ⟨h1, fun b hb => ?_⟩
        rcases List.mem_cons.1 hb with rfl | hb
        · exact h
        · exact h2 b hb
      · exact .inr ⟨c :: p, b, r, by rw [e]; rfl, by rw [h1, List.length_cons]; omega, h2, h3⟩
/-- What a block is one with. -/
theorem join_law (p : List Blk) (b : Blk) (r : List Blk) : ∃ p' q q' r' : List Blk, p = p' ++ q ∧ r = q' ++ r' ∧ (∀ u ∈ q, u.used = false) ∧ (∀ u ∈ q', u.used = false) ∧
    ((q = [] ∧ (join (p ++ b :: r) p.length).at_ = b.at_ ∧ ((q' = [] ∧ (join (p ++ b :: r) p.length).size = b.size) ∨ ∃ n, q' = [n] ∧ (join (p ++ b :: r) p.length).size = b.size + n.size)) ∨
     ∃ v, q = [v] ∧ (join (p ++ b :: r) p.length).at_ = v.at_ ∧ ((q' = [] ∧ (join (p ++ b :: r) p.length).size = b.size + v.size) ∨ ∃ n, q' = [n] ∧ (join (p ++ b :: r) p.length).size = b.size + n.size + v.size)) ∧ (join (p ++ b :: r) p.length).used = false := by
  have hb : (p ++ b :: r).getD p.length ⟨0, 0, false⟩ = b := by rw [List.getD_eq_getElem?_getD]; simp
  have hnx : (p ++ b :: r).getD (p.length + 1) ⟨0, 0, true⟩ = r.getD 0 ⟨0, 0, true⟩ := by
    rw [List.getD_eq_getElem?_getD, List.getD_eq_getElem?_getD, List.getElem?_append_right (by omega), show p.length + 1 - p.length = 1 by omega]
    rfl
  have hlen : p.length + 1 < (p ++ b :: r).length ↔ r ≠ [] := by
    rw [List.length_append, List.length_cons]
    cases r with
    | nil => simp
    | cons x r => simp
  have hpr : 0 < p.length → (p ++ b :: r).getD (p.length - 1) ⟨0, 0, true⟩ = p.getD (p.length - 1) ⟨0, 0, true⟩ := by
    intro h
    rw [List.getD_eq_getElem?_getD, List.getD_eq_getElem?_getD, List.getElem?_append_left (by omega)]
  unfold join
  rw [hb, hnx]
  simp only [hlen]
  -- behind
  obtain ⟨q', r', hr, hq', s, hs, hs'⟩ : ∃ q' r' : List Blk, r = q' ++ r' ∧ (∀ u ∈ q', u.used = false) ∧ ∃ s, s = (if r ≠ [] ∧ (r.getD 0 ⟨0, 0, true⟩).used = false then b.size + (r.getD 0 ⟨0, 0, true⟩).size else b.size) ∧ ((q' = [] ∧ s = b.size) ∨ ∃ n, q' = [n] ∧ s = b.size + n.size) := by
    cases r with
    | nil => exact ⟨[], [], rfl, fun u hu => absurd hu (by simp), b.size, by simp, .inl ⟨rfl, rfl⟩⟩
    | cons x r =>
      by_cases hx : x.used = false
      · refine ⟨[x], r, rfl, fun u hu => by rw [List.mem_singleton] at hu; rw [hu]; exact hx, b.size + x.size, ?_, .inr ⟨x, rfl, rfl⟩⟩
        rw [if_pos ⟨by simp, hx⟩]
        rfl
      · refine ⟨[], x :: r, rfl, fun u hu => absurd hu (by simp), b.size, ?_, .inl ⟨rfl, rfl⟩⟩
        rw [if_neg (fun e => hx e.2)]
  rw [← hs]
  by_cases hp : 0 < p.length ∧ ((p ++ b :: r).getD (p.length - 1) ⟨0, 0, true⟩).used = false
  · rw [if_pos hp]
    obtain ⟨p', v, rfl⟩ : ∃ p' v, p = p' ++ [v] := by
      have hne : p ≠ [] := by intro e; rw [e] at hp; exact absurd hp.1 (by simp)
      exact ⟨p.dropLast, p.getLast hne, (List.dropLast_concat_getLast hne).symm⟩
    have hv : ((p' ++ [v]) ++ b :: r).getD ((p' ++ [v]).length - 1) ⟨0, 0, true⟩ = v := by
      rw [hpr hp.1, List.getD_eq_getElem?_getD]
      simp
    rw [hv] at hp ⊢
    refine ⟨p', [v], q', r', rfl, hr, fun u hu => by rw [List.mem_singleton] at hu; rw [hu]; exact hp.2, hq', .inr ⟨v, rfl, rfl, ?_⟩, rfl⟩
    rcases hs' with ⟨h1, h2⟩ | ⟨n, h1, h2⟩
    · exact .inl ⟨h1, by rw [h2]⟩
    · exact .inr ⟨n, h1, by rw [h2]⟩
  · rw [if_neg hp]
    refine ⟨p, [], q', r', by simp, hr, fun u hu => absurd hu (by simp), hq', .inl ⟨rfl, rfl, ?_⟩, rfl⟩
    rcases hs' with ⟨h1, h2⟩ | ⟨n, h1, h2⟩
    · exact .inl ⟨h1, h2⟩
    · exact .inr ⟨n, h1, h2⟩
/-- What is no block stays; a block that is given back is no one's, and all others are as before. -/
theorem free_law {m : Mem} {lo to : Int} {l : List Blk} (h : Fit m lo l to) (a : Int) :
    (free m lo to a = (m, -60) ∧ ∀ b ∈ l, ¬ (b.used = true ∧ b.at_ + 8 = a)) ∨
    ∃ (m' : Mem) (l' : List Blk), free m lo to a = (m', 0) ∧ Fit m' lo l' to ∧ m'.size = m.size ∧ (∃ b ∈ l, b.used = true ∧ b.at_ + 8 = a) ∧
      (∀ u, u ∈ l' ∧ u.used = true ↔ u ∈ l ∧ u.used = true ∧ u.at_ + 8 ≠ a) ∧
      ∀ c, (c < lo ∨ to ≤ c ∨ ∃ u ∈ l, u.used = true ∧ u.at_ + 8 ≠ a ∧ u.at_ ≤ c ∧ c < u.at_ + u.size) → m'.cell c = m.cell c := by
  unfold free
  rw [blocks_law h.ch]
  simp only
  rcases findN_law a l 0 with ⟨h1, h2⟩ | ⟨p, b, r, e, h1, h2, h3⟩
  · left
    refine ⟨?_, h2⟩
    unfold find
    rw [h1, if_pos (by omega)]
  · right
    have hi : find l a = (p.length : Int) := by unfold find; rw [h1]; simp
    rw [hi, if_neg (by omega), show ((p.length : Int)).toNat = p.length by omega, e]
    obtain ⟨p', q, q', r', hp, hr, hq, hq', hj, hju⟩ := join_law p b r
    generalize join (p ++ b :: r) p.length = j at hj hju
    have hl8 := h.lo8
    have hch := h.ch
    rw [e, hp, hr, Chain.append] at hch
    obtain ⟨y, hcp, hb1, hb2, hb3, hb4, hcr⟩ := hch
    rw [Chain.append] at hcp hcr
    obtain ⟨x, hcp', hcq⟩ := hcp
    obtain ⟨z, hcq', hcr'⟩ := hcr
    have lx := hcp'.le
    have ly := hcq.le
    have lz := hcq'.le
    have lt := hcr'.le
    have hb8 := h.ch.mem hl8 (b := b) (by rw [e]; simp)
    -- the block that comes of it goes from x to z
    have hx8 : x % 8 = 0 := by
      rcases hj with ⟨rfl, _⟩ | ⟨v, rfl, _⟩
      · have : x = y := hcq
        omega
      · obtain ⟨v1, v2, v3, _, v5⟩ := hcq
        have : x + v.size = y := v5
        omega
    have hjx : j.at_ = x ∧ j.size = z - x ∧ (z - x) % 8 = 0 ∧ 16 ≤ z - x := by
      rcases hj with ⟨rfl, j1, ⟨rfl, j2⟩ | ⟨n, rfl, j2⟩⟩ | ⟨v, rfl, j1, ⟨rfl, j2⟩ | ⟨n, rfl, j2⟩⟩
      · have e1 : x = y := hcq
        have e2 : y + b.size = z := hcq'
        omega
      · have e1 : x = y := hcq
        obtain ⟨n1, n2, n3, _, n5⟩ := hcq'
        have n5 : y + b.size + n.size = z := n5
        omega
      · obtain ⟨v1, v2, v3, _, v5⟩ := hcq
        have v5 : x + v.size = y := v5
        have e2 : y + b.size = z := hcq'
        omega
      · obtain ⟨v1, v2, v3, _, v5⟩ := hcq
        have v5 : x + v.size = y := v5
        obtain ⟨n1, n2, n3, _, n5⟩ := hcq'
        have n5 : y + b.size + n.size = z := n5
        omega
    obtain ⟨c1, c2, c3, c4⟩ := put_cells h j (by omega) (by omega) (by omega) (by omega)
    generalize put m j = s at c1 c2 c3 c4
    have hhd : hd j = z - x := by unfold hd; rw [hju]; simp only [Bool.false_eq_true, if_false]; exact hjx.2.1
    have hp'm := fun u (hu : u ∈ p') => hcp'.mem hl8 hu
    have hr'm := fun u (hu : u ∈ r') => hcr'.mem (by omega) hu
    have hrest : ∀ u ∈ l, u.used = true → u.at_ + 8 ≠ a → u ∈ p' ∨ u ∈ r' := by
      intro u hu1 hu2 hu3
      rw [e, hp, hr] at hu1
      simp only [List.mem_append, List.mem_cons] at hu1
      rcases hu1 with (h4 | h4) | rfl | h4 | h4
      · exact .inl h4
      · rw [hq u h4] at hu2; cases hu2
      · exact absurd h3 hu3
      · rw [hq' u h4] at hu2; cases hu2
      · exact .inr h4
    refine ⟨s.1, p' ++ j :: r', by rw [← c1], ⟨?_, h.lo0, hl8, by rw [c2]; exact h.top, by rw [c2]; exact h.small⟩, c2, ⟨b, by simp, h2, h3⟩, ?_, ?_⟩
    · rw [Chain.append]
      refine ⟨x, hcp'.frame (fun u hu => c4 _ (by have := hp'm u hu; omega)), hjx.1, by omega, by omega, ?_, ?_⟩
      · rw [← hjx.1]; exact c3
      · rw [show x + j.size = z by omega]
        exact hcr'.frame (fun u hu => c4 _ (by have := hr'm u hu; omega))
    · intro u
      constructor
      · rintro ⟨hu1, hu2⟩
        rcases List.mem_append.1 hu1 with h4 | h4
        · have := hp'm u h4
          exact ⟨by rw [hp]; simp [h4], hu2, by omega⟩
        · rcases List.mem_cons.1 h4 with rfl | h4
          · rw [hju] at hu2; cases hu2
          · have := hr'm u h4
            exact ⟨by rw [hr]; simp [h4], hu2, by omega⟩
      · rintro ⟨hu1, hu2, hu3⟩
        refine ⟨?_, hu2⟩
        rcases hrest u (by rw [e]; exact hu1) hu2 hu3 with h4 | h4
        · simp [h4]
        · simp [h4]
    · intro c hc
      refine c4 c ?_
      rcases hc with h5 | h5 | ⟨u, hu1, hu2, hu3, h5, h6⟩
      · omega
      · omega
      · rcases hrest u (by rw [e]; exact hu1) hu2 hu3 with h4 | h4
        · have := hp'm u h4; omega
        · have := hr'm u h4; omega
end Heap
end Go.Proofs.Shed
set_option linter.unusedVariables false
set_option linter.unusedSimpArgs false
namespace Go.Proofs.Shed
namespace Mem
theorem s64_inj (a b : Nat) (ha : a < 18446744073709551616) (hb : b < 18446744073709551616) (h : s64 a = s64 b) : a = b := by
  rw [← u64_s64 a ha, ← u64_s64 b hb, h]
theorem get_of_cell {m m' : Mem} {a : Int} (hz : m'.size = m.size) (h : m'.cell a = m.cell a) (h0 : m.at_ a = 0) : m'.get a.toNat 8 = m.get a.toNat 8 := by
  rw [cell_at m a h0, cell_at m' a (by rw [at_size hz]; exact h0)] at h
  have h1 := m.get_lt a.toNat 8
  have h2 := m'.get_lt a.toNat 8
  exact s64_inj _ _ (by simpa using h2) (by simpa using h1) (Prod.mk.inj h).1
theorem get_cells (m m' : Mem) (a k : Nat) (h : ∀ j, j < k → m'.get (a + 8 * j) 8 = m.get (a + 8 * j) 8) : m'.get a (8 * k) = m.get a (8 * k) := by
  apply Nat.eq_of_testBit_eq
  intro i
  rw [get_bit, get_bit]
  by_cases hi : i < 8 * (8 * k)
  · have := congrArg (fun n => n.testBit (i % 64)) (h (i / 64) (by omega))
    simp only [get_bit] at this
    rw [show 8 * (a + 8 * (i / 64)) + i % 64 = 8 * a + i by omega, show decide (i % 64 < 8 * 8) = true from decide_eq_true (by omega)] at this
    simp only [Bool.true_and] at this
    rw [this]
  · simp [hi]
/-- A text whose cells are as before. -/
theorem text_frame {m m' : Mem} {a n : Int} (hz : m'.size = m.size) (a8 : a % 8 = 0) (n8 : n % 8 = 0) (hc : ∀ b, a ≤ b → b < a + n → m'.cell b = m.cell b) : m'.text a n = m.text a n := by
  unfold text
  have hh : m'.has a n = m.has a n := by unfold has; rw [hz]
  rw [hh]
  by_cases h : m.has a n = true
  · rw [if_pos h, if_pos h]
    rw [has_iff] at h
    obtain ⟨k, hk⟩ : ∃ k : Nat, n.toNat = 8 * k := ⟨n.toNat / 8, by omega⟩
    rw [hk, get_cells m m' a.toNat k fun j hj => ?_]
    have e : a.toNat + 8 * j = (a + 8 * j).toNat := by omega
    rw [e]
    exact get_of_cell hz (hc _ (by omega) (by omega)) (by rw [at_zero]; omega)
  · rw [if_neg h, if_neg h]
theorem setText_code (m : Mem) (a : Int) (s : List UInt8) (h : m.has a s.length = true) : (m.setText a s).2 = 0 := by
  unfold setText
  rw [if_pos h]
theorem setText_text (m : Mem) (a : Int) (s : List UInt8) (h : m.has a s.length = true) : (m.setText a s).1.text a s.length = (s, 0) := by
  have hz := m.setText_size a s
  rw [text_code _ _ _ (by unfold has at *; rw [hz]; exact h)]
  unfold setText
  rw [if_pos h]
  simp only
  rw [show ((s.length : Int)).toNat = s.length by omega, get_put_same, Nat.mod_eq_of_lt (leN_lt s), bytesN_leN]
theorem setText_out (m : Mem) (a : Int) (s : List UInt8) (b : Int) (hb : b + 8 ≤ a ∨ a + s.length ≤ b) : (m.setText a s).1.cell b = m.cell b := by
  apply cell_of_get (m.setText_size _ _)
  intro h0
  unfold setText
  split
  · rename_i h
    rw [has_iff] at h
    rw [at_zero] at h0
    simp only
    rw [get_put_apart _ _ _ _ _ _ (by omega)]
  · rfl
theorem leN_zeros (n : Nat) : leN (List.replicate n 0) = 0 := by
  induction n with
  | zero => rfl
  | succ n ih => rw [List.replicate_succ, leN, ih]; rfl
theorem bytesN_zero (n : Nat) : bytesN n 0 = List.replicate n 0 := by
  induction n with
  | zero => rfl
  | succ n ih => rw [bytesN, List.replicate_succ, Nat.zero_div, ih]; rfl
/-- A part of zeros is zeros. -/
theorem zeros_in (m : Mem) (a : Int) (n : Nat) (h : m.has a n = true) (i : Nat) (hi : i ≤ n) : (m.setText a (List.replicate n 0)).1.text (a + i) ((n - i : Nat) : Int) = (List.replicate (n - i) 0, 0) := by
  have hz := m.setText_size a (List.replicate n 0)
  have h' := h
  rw [has_iff] at h'
  rw [text_code _ _ _ (by rw [has_iff, hz]; omega)]
  unfold setText
  rw [List.length_replicate, if_pos h, leN_zeros]
  simp only
  rw [show (((n - i : Nat) : Int)).toNat = n - i by omega, get_put_in _ _ _ _ _ _ (by omega) (by omega), Nat.zero_shiftRight, Nat.zero_mod, bytesN_zero]
end Mem
namespace Obj
/-- An object that is made. -/
theorem make_law {m : Mem} {a c n : Int} (hs : size m c = (n, 0)) (n8 : n % 8 = 0) (n1 : 8 ≤ n) (a8 : a % 8 = 0) (a0 : 0 ≤ a) (ha : a + n ≤ m.size) (hc : In64 c) :
    ∃ m' : Mem, make m a c = (m', 0) ∧ m'.size = m.size ∧ m'.cell a = (c, 0) ∧ m'.text (a + 8) (n - 8) = (List.replicate (n - 8).toNat 0, 0) ∧ ∀ b, (b < a ∨ a + n ≤ b) → b % 8 = 0 → m'.cell b = m.cell b := by
  have hat : m.at_ a = 0 := by rw [Mem.at_zero]; omega
  have hh : m.has a ((n.toNat : Nat) : Int) = true := by rw [Mem.has_iff]; omega
  have hh' : m.has a ((List.replicate n.toNat (0 : UInt8)).length : Int) = true := by rw [List.length_replicate]; exact hh
  have h1 := m.setText_code a (List.replicate n.toNat 0) hh'
  have h2 := m.setText_size a (List.replicate n.toNat 0)
  have h3 := m.zeros_in a n.toNat hh 8 (by omega)
  have h4 := fun b hb => m.setText_out a (List.replicate n.toNat 0) b hb
  rw [List.length_replicate] at h4
  have hm : make m a c = (m.setText a (List.replicate n.toNat 0)).1.setCell a c := by
    unfold make
    rw [hs]
    simp only
    rw [if_neg (by simp), Mem.cell_ok, hat, if_neg (by simp), h1, if_neg (by simp)]
  generalize (m.setText a (List.replicate n.toNat 0)).1 = q at hm h2 h3 h4
  have hq : q.at_ a = 0 := by rw [Mem.at_size h2]; exact hat
  refine ⟨(q.setCell a c).1, ?_, by rw [Mem.setCell_size, h2], Mem.cell_set_same _ _ _ hq hc.1 hc.2, ?_, fun b hb b8 => ?_⟩
  · rw [hm]
    have := q.setCell_code a c
    rw [hq] at this
    exact Prod.ext rfl this
  · rw [Mem.text_frame (m := q) (Mem.setCell_size _ _ _) (by omega) (by omega) (fun b b0 b1 => Mem.cell_set_apart _ _ _ _ (by omega))]
    rw [show a + ((8 : Nat) : Int) = a + 8 by omega, show ((n.toNat - 8 : Nat) : Int) = n - 8 by omega] at h3
    rw [h3, show n.toNat - 8 = (n - 8).toNat by omega]
  · rw [Mem.cell_set_apart _ _ _ _ (by omega), h4 b (by omega)]
theorem size_law {m : Mem} {root : Int} {A T : List Int} {L : List RCls} {hi : Int} (h : Class.Good m root A T L hi) {c : Nat} (hc : c < L.length) (h0 : 8 ≤ (Ref.get L c).size) (h1 : (Ref.get L c).size ≤ 1048576) : size m (Class.nth A c) = ((Ref.get L c).size, 0) := by
  unfold size
  rw [h.read hc, if_neg (by simp)]
  show (if (Ref.get L c).size < 8 ∨ 1048576 < (Ref.get L c).size then _ else ((Ref.get L c).size, (0 : Int))) = _
  rw [if_neg (by omega)]
theorem cls_law {m : Mem} {root : Int} {A T : List Int} {L : List RCls} {hi : Int} (h : Class.Good m root A T L hi) {c : Nat} (hc : c < L.length) {a : Int} (ha : m.cell a = (Class.nth A c, 0)) : cls m root a = (Class.nth A c, 0) := by
  unfold cls
  rw [ha]
  simp only
  rw [h.is hc, if_neg (by simp)]
theorem probeN_count (m : Mem) (t s n : Int) (k : Nat) (i : Int) (h : i + k ≤ n) : (Tab.probeN m t s n k i).2 ≤ n := by
  induction k generalizing i with
  | zero => exact Int.le_refl _
  | succ k ih =>
    rw [Tab.probeN]
    split
    · simp only; omega
    · exact ih _ (by omega)
theorem get_count (m : Mem) (t s : Int) : (Tab.get m t s).2.1 ≤ Tab.slots m t := by
  have hb := Tab.slots_bd m t
  have := probeN_count m t s (Tab.slots m t) (Tab.slots m t).toNat 0 (by omega)
  unfold Tab.get Tab.probe
  split
  · exact this
  · split <;> exact this
theorem send_law {m : Mem} {root : Int} {A T : List Int} {L : List RCls} {hi : Int} (h : Class.Good m root A T L hi) {c : Nat} (hc : c < L.length) {a : Int} (ha : m.cell a = (Class.nth A c, 0)) (s : Int) :
    (send m root a s).2.1 ≤ (Ref.get L c).slots ∧ (∀ p, Ref.walk L c s = some p → (send m root a s).1 = p.1 ∧ (send m root a s).2.2 = 0) ∧ (Ref.walk L c s = none → (send m root a s).1 = 0 ∧ (send m root a s).2.2 = -2049) := by
  obtain ⟨l1, l2⟩ := h.lookup hc s
  have hn : (Class.lookup m (Class.nth A c) s).2.1 ≤ (Ref.get L c).slots := by
    rw [← (h.fine c hc).1]
    unfold Class.lookup
    rw [h.read hc, if_neg (by simp)]
    exact get_count m _ s
  unfold send
  rw [cls_law h hc ha, if_neg (by simp)]
  simp only
  cases hw : Ref.walk L c s with
  | none =>
    rw [hw] at l1
    simp only [Option.isSome_none] at l1
    rw [if_pos l1]
    exact ⟨hn, fun p hp => absurd hp (by simp), fun _ => ⟨rfl, rfl⟩⟩
  | some p =>
    rw [hw] at l1
    simp only [Option.isSome_some] at l1
    rw [if_neg (by rw [l1]; simp)]
    refine ⟨hn, fun q hq => ?_, fun hq => absurd hq (by simp)⟩
    have := l2 p hw
    simp only [Option.some.injEq] at hq
    subst hq
    exact ⟨by simp only; rw [this], rfl⟩
end Obj
end Go.Proofs.Shed
set_option linter.unusedVariables false
set_option linter.unusedSimpArgs false
namespace Go.Proofs.Shed
structure Thing where
  at_ : Int
  cls : Nat
  text : List UInt8
  deriving DecidableEq
namespace Obj
open Class (nth Good parentAt parentNo)
def till (o : Thing) : Int := o.at_ + 8 + o.text.length
/-- An object's class, and its bytes. -/
structure Lives (m : Mem) (A : List Int) (n : Nat) (o : Thing) : Prop where
  cls : o.cls < n
  a8 : o.at_ % 8 = 0
  a0 : 0 ≤ o.at_
  t8 : (o.text.length : Int) % 8 = 0
  cell : m.cell o.at_ = (nth A o.cls, 0)
  text : m.text (o.at_ + 8) o.text.length = (o.text, 0)
def InDict (x : Sp) (A T : List Int) (n : Nat) (o : Thing) : Prop := 16 ≤ o.at_ ∧ till o ≤ x.here ∧ ∀ i : Nat, i < n → till o ≤ nth T i ∨ nth A i + 40 ≤ o.at_
def InHeap (B : List Blk) (o : Thing) : Prop := ∃ b ∈ B, b.used = true ∧ b.at_ + 8 = o.at_ ∧ till o ≤ b.at_ + b.size
theorem Lives.frame {m m' : Mem} {A A' : List Int} {n n' : Nat} {o : Thing} (h : Lives m A n o) (hz : m'.size = m.size) (hn : n ≤ n') (hA : ∀ i, i < n → nth A' i = nth A i) (hc : ∀ b, o.at_ ≤ b → b < till o → m'.cell b = m.cell b) : Lives m' A' n' o := by
  have ht : till o = o.at_ + 8 + o.text.length := rfl
  have h0 := h.cls
  refine ⟨by omega, h.a8, h.a0, h.t8, ?_, ?_⟩
  · rw [hc _ (Int.le_refl _) (by omega), hA _ h.cls]; exact h.cell
  · rw [Mem.text_frame hz (by have := h.a8; omega) h.t8 (fun b b0 b1 => hc b (by omega) (by omega))]; exact h.text
structure Wd (x : Sp) (A T : List Int) (L : List RCls) (B : List Blk) (O : List Thing) (i : Nat) : Prop where
  good : Good x.mem 8 A T L x.here
  al : x.Al
  to_ : x.to = 16384
  low : 16 ≤ x.lo
  fit : Heap.Fit x.mem 16384 B 32768
  sl : ∀ j : Nat, j < L.length → (Ref.get L j).slots = 5
  sz : ∀ j : Nat, j < L.length → 8 ≤ (Ref.get L j).size ∧ (Ref.get L j).size ≤ 8 + 262 * i ∧ (Ref.get L j).size % 8 = 0
  len : L.length ≤ i
  obj : ∀ o ∈ O, Lives x.mem A L.length o ∧ (InDict x A T L.length o ∨ InHeap B o)
  apart : O.Pairwise fun a b => till a ≤ b.at_ ∨ till b ≤ a.at_
namespace Wd
variable {x : Sp} {A T : List Int} {L : List RCls} {B : List Blk} {O : List Thing} {i : Nat}
theorem here (h : Wd x A T L B O i) : 16 ≤ x.here ∧ x.here ≤ 16384 ∧ x.to ≤ x.mem.size := by
  have o := h.al.ok
  unfold Sp.Ok at o
  have := h.low
  have := h.to_
  omega
theorem blk (h : Wd x A T L B O i) {b : Blk} (hb : b ∈ B) : 16384 ≤ b.at_ ∧ b.at_ + b.size ≤ 32768 ∧ b.at_ % 8 = 0 ∧ 16 ≤ b.size ∧ b.size % 8 = 0 := by
  have := h.fit.ch.mem h.fit.lo8 hb
  exact ⟨this.1, this.2.1, this.2.2.1, this.2.2.2.1, this.2.2.2.2.1⟩
/-- Where an object's bytes lie. -/
theorem lies (h : Wd x A T L B O i) {o : Thing} (ho : InDict x A T L.length o ∨ InHeap B o) : (16 ≤ o.at_ ∧ till o ≤ 16384) ∨ (16384 + 8 ≤ o.at_ ∧ till o ≤ 32768) := by
  have := h.here
  rcases ho with ⟨h1, h2, _⟩ | ⟨b, hb, _, h3, h4⟩
  · exact .inl ⟨h1, by omega⟩
  · have := h.blk hb
    exact .inr ⟨by omega, by omega⟩
theorem more (h : Wd x A T L B O i) : Wd x A T L B O (i + 1) :=
  ⟨h.good, h.al, h.to_, h.low, h.fit, h.sl, fun j hj => by have := h.sz j hj; refine ⟨this.1, by omega, this.2.2⟩, by have := h.len; omega, h.obj, h.apart⟩
/-- One more class. -/
theorem make (h : Wd x A T L B O i) (hi : i ≤ 60) (k : Option Nat) (hk : ∀ j, k = some j → j < L.length) :
    (∃ y : Sp, Class.new x 8 (parentAt A k) 5 = (y, 0, -8) ∧ y.here = x.here ∧ Wd y A T L B O (i + 1)) ∨
    ∃ (y : Sp) (a : Int), Class.new x 8 (parentAt A k) 5 = (y, a, 0) ∧ x.here < a ∧ Class.is y.mem 8 a = true ∧ Wd y (A ++ [a]) (T ++ [x.here]) (Ref.new L (parentNo k) 5) B O (i + 1) := by
  have h5 : (5 : Int) = Class.slotsOf L k 5 := by
    cases k with
    | none => rfl
    | some j => exact (h.sl j (hk j rfl)).symm
  have hh := h.here
  have hto := h.to_
  have hlow := h.low
  by_cases hr : x.here + (2 + 5 * 3) * 8 + 40 ≤ x.to
  · right
    obtain ⟨y, e, y0, y1, y2, y3, y4, y5, y6⟩ := h.good.new h.al (Int.le_refl _) k hk 5 5 h5 (by omega) (by omega) hr
    have hn := Class.new_last L k 5
    rw [← h5] at hn
    have hlen : (Ref.new L (parentNo k) 5).length = L.length + 1 := by rw [hn]; simp
    have yo := y0.ok
    unfold Sp.Ok at yo
    refine ⟨y, _, e, by omega, ?_, ⟨y6, y0, by omega, by omega, ?_, ?_, ?_, ?_, ?_, h.apart⟩⟩
    · have := y6.is (i := L.length) (by omega)
      rw [← h.good.nA, Class.nth_last] at this
      exact this
    · exact ⟨h.fit.ch.frame (fun b hb => y5 _ (by have := h.blk hb; omega) (by have := h.blk hb; omega)), h.fit.lo0, h.fit.lo8, by rw [y4]; exact h.fit.top, by rw [y4]; exact h.fit.small⟩
    · intro j hj
      rw [hlen] at hj
      rw [hn]
      by_cases hj' : j < L.length
      · rw [Ref.snoc_get L _ j hj']; exact h.sl j hj'
      · have : j = L.length := by omega
        subst this
        rw [Ref.snoc_last]
    · intro j hj
      rw [hlen] at hj
      rw [hn]
      by_cases hj' : j < L.length
      · rw [Ref.snoc_get L _ j hj']
        have := h.sz j hj'
        exact ⟨this.1, by omega, this.2.2⟩
      · have : j = L.length := by omega
        subst this
        rw [Ref.snoc_last]
        show 8 ≤ Class.sizeOf L k ∧ Class.sizeOf L k ≤ _ ∧ Class.sizeOf L k % 8 = 0
        cases k with
        | none => show (8 : Int) ≤ 8 ∧ (8 : Int) ≤ _ ∧ (8 : Int) % 8 = 0; omega
        | some j =>
          have := h.sz j (hk j rfl)
          show 8 ≤ (Ref.get L j).size ∧ (Ref.get L j).size ≤ _ ∧ (Ref.get L j).size % 8 = 0
          omega
    · rw [hlen]; have := h.len; omega
    · intro o ho
      obtain ⟨h1, h2⟩ := h.obj o ho
      have hl := h.lies h2
      refine ⟨h1.frame y4 (by rw [hlen]; omega) (fun j hj => Class.nth_snoc _ _ _ (by rw [h.good.nA]; exact hj)) (fun b b0 b1 => y5 b ?_ (by omega)), ?_⟩
      · rcases h2 with ⟨h3, h4, _⟩ | ⟨b', hb, _, h3, h4⟩
        · omega
        · have := h.blk hb; omega
      · rcases h2 with ⟨h3, h4, h6⟩ | h2
        · refine .inl ⟨h3, by omega, fun j hj => ?_⟩
          rw [hlen] at hj
          by_cases hj' : j < L.length
          · rw [Class.nth_snoc T _ _ (by rw [h.good.nT]; exact hj'), Class.nth_snoc A _ _ (by rw [h.good.nA]; exact hj')]
            exact h6 j hj'
          · have : j = L.length := by omega
            subst this
            have e2 : nth (T ++ [x.here]) L.length = x.here := by rw [← h.good.nT]; exact Class.nth_last _ _
            rw [e2]
            exact .inl h4
        · exact .inr h2
  · left
    obtain ⟨y, e, y0, y1, y2, y3, y4, y5⟩ := h.good.full h.al (Int.le_refl _) k hk 5 5 h5 (by omega) (by omega) hr
    refine ⟨y, e, y3, ⟨?_, y0, by omega, by omega, ?_, h.sl, ?_, ?_, ?_, h.apart⟩⟩
    · have := h.good.frame y4 (fun a ha => y5 a (.inl ha)) (Int.le_refl _) h.good.top.1
      rwa [y3]
    · exact ⟨h.fit.ch.frame (fun b hb => y5 _ (by have := h.blk hb; omega)), h.fit.lo0, h.fit.lo8, by rw [y4]; exact h.fit.top, by rw [y4]; exact h.fit.small⟩
    · intro j hj
      have := h.sz j hj
      exact ⟨this.1, by omega, this.2.2⟩
    · have := h.len; omega
    · intro o ho
      obtain ⟨h1, h2⟩ := h.obj o ho
      have hl := h.lies h2
      refine ⟨h1.frame y4 (Nat.le_refl _) (fun _ _ => rfl) (fun b b0 b1 => y5 b ?_), ?_⟩
      · rcases h2 with ⟨h3, h4, _⟩ | ⟨b', hb, _, h3, h4⟩
        · omega
        · have := h.blk hb; omega
      · rcases h2 with ⟨h3, h4, h6⟩ | h2
        · exact .inl ⟨h3, by omega, h6⟩
        · exact .inr h2
/-- The same, but the memory, of which only some cells are others. -/
theorem write (h : Wd x A T L B O i) {m' : Mem} {L' : List RCls} {B' : List Blk} {O' : List Thing} (hz : m'.size = x.mem.size) (hg : Good m' 8 A T L' x.here) (hf : Heap.Fit m' 16384 B' 32768) (hlen : L'.length = L.length)
    (sl : ∀ j : Nat, j < L.length → (Ref.get L' j).slots = 5) (sz : ∀ j : Nat, j < L.length → 8 ≤ (Ref.get L' j).size ∧ (Ref.get L' j).size ≤ 8 + 262 * (i + 1 : Nat) ∧ (Ref.get L' j).size % 8 = 0)
    (ho : ∀ o ∈ O', Lives m' A L.length o ∧ (InDict x A T L.length o ∨ InHeap B' o)) (ha : O'.Pairwise fun a b => till a ≤ b.at_ ∨ till b ≤ a.at_) : Wd { x with mem := m' } A T L' B' O' (i + 1) := by
  have o := h.al.ok
  refine ⟨hg, ⟨⟨o.1, o.2.1, o.2.2.1, ?_⟩, h.al.al⟩, h.to_, h.low, hf, fun j hj => sl j (by omega), fun j hj => sz j (by omega), by have := h.len; omega, ?_, ha⟩
  · show x.to ≤ m'.size; rw [hz]; exact o.2.2.2
  · rw [hlen]; exact ho
theorem fitf (h : Wd x A T L B O i) {m' : Mem} (hz : m'.size = x.mem.size) (hc : ∀ b ∈ B, m'.cell b.at_ = x.mem.cell b.at_) : Heap.Fit m' 16384 B 32768 :=
  ⟨h.fit.ch.frame hc, h.fit.lo0, h.fit.lo8, by rw [hz]; exact h.fit.top, by rw [hz]; exact h.fit.small⟩
/-- A method that is set. -/
theorem set (h : Wd x A T L B O i) {c : Nat} (hc : c < L.length) (sel xt : Int) (b1 : In64 sel) (b2 : In64 xt) :
    (Class.set x.mem 8 (nth A c) sel xt).2 = (Ref.set L c sel xt).2 ∧ Wd { x with mem := (Class.set x.mem 8 (nth A c) sel xt).1 } A T (Ref.set L c sel xt).1 B O (i + 1) := by
  obtain ⟨s1, s2, s3, s4⟩ := h.good.set hc sel xt b1 b2
  have hh := h.here
  have tab : ∀ j : Nat, j < L.length → nth T j + (2 + (Ref.get L j).slots * 3) * 8 ≤ nth A j ∧ nth A j + 40 ≤ x.here := fun j hj => by have := h.good.lay j hj; omega
  refine ⟨s1, h.write s2 s4 (h.fitf s2 fun b hb => s3 _ fun j hj => ?_) (Class.set_length _ _ _ _) (fun j hj => by rw [Class.set_slots L c hc sel xt j hj]; exact h.sl j hj) (fun j hj => ?_) (fun o ho => ?_) h.apart⟩
  · have := tab j hj
    have := h.blk hb
    omega
  · have := h.sz j hj
    have e : (Ref.get (Ref.set L c sel xt).1 j).size = (Ref.get L j).size := by
      unfold Ref.set
      split
      · rfl
      · split
        · rfl
        · exact (Ref.put_parent L c sel xt hc j hj).2.2
    rw [e]
    omega
  · obtain ⟨h1, h2⟩ := h.obj o ho
    refine ⟨h1.frame s2 (Nat.le_refl _) (fun _ _ => rfl) (fun b b0 b1 => s3 b fun j hj => ?_), h2⟩
    have := tab j hj
    rcases h2 with ⟨h3, h4, h6⟩ | ⟨b', hb, _, h3, h4⟩
    · rcases h6 j hj with h7 | h7
      · omega
      · omega
    · have := h.blk hb
      omega
/-- A class whose objects have more bytes. -/
theorem grow (h : Wd x A T L B O i) (hi : i ≤ 60) {c : Nat} (hc : c < L.length) (n : Int) (n0 : 0 ≤ n) (n1 : n ≤ 255) :
    ∃ m' : Mem, Class.grow x.mem (nth A c) n = (m', (Ref.get L c).size, 0) ∧ m'.size = x.mem.size ∧ Wd { x with mem := m' } A T (Ref.resize L c (((Ref.get L c).size + n + 7) / 8 * 8)) B O (i + 1) := by
  have hs := h.sz c hc
  have hh := h.here
  obtain ⟨m', e, e1, e2, e3⟩ := h.good.grow hc n n0 (by omega) (by omega) (by omega)
  have hl := h.good.lay c hc
  have hsl := h.good.slots c hc
  refine ⟨m', e, e1, h.write e1 e3 (h.fitf e1 fun b hb => e2 _ (by have := h.blk hb; omega)) (Ref.resize_len _ _ _) (fun j hj => by rw [(Ref.resize_same L c _ j hj).2.1]; exact h.sl j hj) (fun j hj => ?_) (fun o ho => ?_) h.apart⟩
  · rw [(Ref.resize_same L c _ j hj).2.2.2]
    have := h.sz j hj
    split
    · omega
    · omega
  · obtain ⟨h1, h2⟩ := h.obj o ho
    refine ⟨h1.frame e1 (Nat.le_refl _) (fun _ _ => rfl) (fun b b0 b1 => e2 b ?_), h2⟩
    rcases h2 with ⟨h3, h4, h6⟩ | ⟨b', hb, _, h3, h4⟩
    · have := h6 c hc
      omega
    · have := h.blk hb
      omega
end Wd
end Obj
end Go.Proofs.Shed
set_option linter.unusedVariables false
set_option linter.unusedSimpArgs false
namespace Go.Proofs.Shed
namespace Obj
open Class (nth Good)
/-- Is a place one of a used block's bytes' beginning? -/
def Used (B : List Blk) (a : Int) : Prop := ∃ b ∈ B, b.used = true ∧ b.at_ + 8 = a
namespace Wd
variable {x : Sp} {A T : List Int} {L : List RCls} {B : List Blk} {O : List Thing} {i : Nat}
/-- Other cells, of no class. -/
theorem put (h : Wd x A T L B O i) {m' : Mem} {hi : Int} {B' : List Blk} {O' : List Thing} (hz : m'.size = x.mem.size) (h1 : x.here ≤ hi) (h2 : hi ≤ x.to) (h8 : hi % 8 = 0)
    (hc : ∀ a, (a < 16 ∨ ∃ j : Nat, j < L.length ∧ nth T j ≤ a ∧ a < nth A j + 40) → m'.cell a = x.mem.cell a) (hf : Heap.Fit m' 16384 B' 32768)
    (ho : ∀ o ∈ O', Lives m' A L.length o ∧ (InDict { x with mem := m', here := hi } A T L.length o ∨ InHeap B' o)) (ha : O'.Pairwise fun a b => till a ≤ b.at_ ∨ till b ≤ a.at_) : Wd { x with mem := m', here := hi } A T L B' O' i := by
  have o := h.al.ok
  unfold Sp.Ok at o
  refine ⟨h.good.framed hz hc (hi' := hi) h1 (by omega), ⟨⟨o.1, ?_, h2, ?_⟩, h8⟩, h.to_, h.low, hf, h.sl, h.sz, h.len, ho, ha⟩
  · show x.lo ≤ hi; omega
  · show x.to ≤ m'.size; rw [hz]; exact o.2.2.2
theorem tab (h : Wd x A T L B O i) {j : Nat} (hj : j < L.length) : 16 ≤ nth T j ∧ nth T j < nth A j ∧ nth A j + 40 ≤ x.here := by
  have := h.good.lay j hj
  have := h.good.slots j hj
  omega
/-- One more object, behind all, whose bytes lie apart. -/
theorem snoc_apart (hp : O.Pairwise fun a b => till a ≤ b.at_ ∨ till b ≤ a.at_) (o : Thing) (ho : ∀ u ∈ O, till u ≤ o.at_ ∨ till o ≤ u.at_) : (O ++ [o]).Pairwise fun a b => till a ≤ b.at_ ∨ till b ≤ a.at_ := by
  rw [List.pairwise_append]
  refine ⟨hp, List.pairwise_singleton _ _, fun a ha b hb => ?_⟩
  rw [List.mem_singleton] at hb
  subst hb
  exact ho a ha
theorem zlen (n : Int) (h : 8 ≤ n) : (((List.replicate (n - 8).toNat (0 : UInt8)).length : Nat) : Int) = n - 8 := by rw [List.length_replicate]; omega
/-- An object in the heap. -/
theorem heap (h : Wd x A T L B O i) (hi : i ≤ 60) {c : Nat} (hc : c < L.length) :
    Obj.heap x.mem 16384 32768 (nth A c) = (x.mem, 0, -59) ∨
    ∃ (m' : Mem) (B' : List Blk) (a : Int), Obj.heap x.mem 16384 32768 (nth A c) = (m', a, 0) ∧ m'.size = x.mem.size ∧ (∀ v, Used B' v ↔ v = a ∨ Used B v) ∧ ¬ Used B a ∧
      Wd { x with mem := m' } A T L B' (O ++ [⟨a, c, List.replicate ((Ref.get L c).size - 8).toNat 0⟩]) i := by
  have hs := h.sz c hc
  have hh := h.here
  have hto := h.to_
  have hsz := size_law h.good hc hs.1 (by omega)
  have hp := h.good.pos hc
  have hz64 := h.good.top
  unfold Obj.heap
  rw [hsz, if_neg (by simp)]
  simp only
  rcases Heap.alloc_law h.fit (Ref.get L c).size (by omega) (by omega) with e | ⟨m1, B', b, e, f1, f2, f3, f4, f5, f6, f7, f8⟩
  · left
    rw [e, if_pos (by simp)]
  · right
    rw [e, if_neg (by simp)]
    simp only
    have hb := f1.ch.mem f1.lo8 f3
    have htop := h.fit.top
    have hfr : ∀ a, a < 16384 → m1.cell a = x.mem.cell a := fun a ha => f8 a (.inl ha)
    have hg1 : Good m1 8 A T L x.here := h.good.frame f2 (fun a ha => hfr a (by omega)) (Int.le_refl _) (by omega)
    have hsz1 := size_law hg1 hc hs.1 (by omega)
    obtain ⟨m2, g0, g1, g2, g3, g4⟩ := make_law (a := b.at_ + 8) (c := nth A c) hsz1 hs.2.2 hs.1 (by omega) (by omega) (by omega) (by unfold In64; omega)
    rw [g0]
    have g4' : ∀ v, v % 8 = 0 ∨ v < 16384 → (v < b.at_ + 8 ∨ b.at_ + 8 + (Ref.get L c).size ≤ v) → m2.cell v = m1.cell v := by
      intro v hv hv2
      by_cases h8 : v % 8 = 0
      · exact g4 v hv2 h8
      · have e1 : m1.at_ v ≠ 0 := by rw [Ne, Mem.at_zero]; omega
        have e2 : m2.at_ v = m1.at_ v := Mem.at_size g1 v
        rw [Mem.cell_bad _ _ e1, Mem.cell_bad _ _ (by rw [e2]; exact e1), e2]
    have hother : ∀ u ∈ B, u.used = true → (u.at_ + u.size ≤ b.at_ ∨ b.at_ + b.size ≤ u.at_) := fun u h1 h2 => (f6 u h1 h2).2
    have hzl := zlen (Ref.get L c).size hs.1
    have hnew : till ⟨b.at_ + 8, c, List.replicate ((Ref.get L c).size - 8).toNat 0⟩ = b.at_ + 8 + (Ref.get L c).size := by
      unfold till
      simp only
      rw [hzl]
      omega
    have hlies : ∀ o ∈ O, till o ≤ b.at_ ∨ b.at_ + b.size ≤ o.at_ := by
      intro o ho
      obtain ⟨h1, h2⟩ := h.obj o ho
      rcases h2 with ⟨h3, h4, h6⟩ | ⟨u, hu, hu2, h3, h4⟩
      · exact .inl (by omega)
      · have := hother u hu hu2
        have := h.blk hu
        omega
    refine ⟨m2, B', b.at_ + 8, rfl, by rw [g1, f2], ?_, ?_, ?_⟩
    · intro v
      constructor
      · rintro ⟨u, hu, hu2, rfl⟩
        rcases f7 u hu hu2 with rfl | h1
        · exact .inl rfl
        · exact .inr ⟨u, h1, hu2, rfl⟩
      · rintro (rfl | ⟨u, hu, hu2, rfl⟩)
        · exact ⟨b, f3, f4, rfl⟩
        · exact ⟨u, (f6 u hu hu2).1, hu2, rfl⟩
    · rintro ⟨u, hu, hu2, h3⟩
      have := hother u hu hu2
      have := h.blk hu
      omega
    · refine h.put (hi := x.here) (by rw [g1, f2]) (Int.le_refl _) (by omega) h.al.al (fun a ha => ?_) ⟨f1.ch.frame (fun u hu => ?_), f1.lo0, f1.lo8, by rw [g1]; exact f1.top, by rw [g1]; exact f1.small⟩ (fun o ho => ?_) (snoc_apart h.apart _ fun u hu => ?_)
      · have ha' : a < 16384 := by
          rcases ha with ha | ⟨j, hj, a0, a1⟩
          · omega
          · have := h.tab hj; omega
        rw [g4' a (.inr ha') (.inl (by omega)), hfr a ha']
      · have hu' := f1.ch.mem f1.lo8 hu
        refine g4 _ ?_ hu'.2.2.1
        rcases f1.ch.apart f1.lo8 hu f3 with rfl | h1 | h1
        · omega
        · omega
        · omega
      · rcases List.mem_append.1 ho with ho | ho
        · obtain ⟨h1, h2⟩ := h.obj o ho
          have hl := hlies o ho
          refine ⟨⟨h1.cls, h1.a8, h1.a0, h1.t8, ?_, ?_⟩, ?_⟩
          · have hk : m1.cell o.at_ = x.mem.cell o.at_ := by
              rcases h2 with ⟨h3, h4, h6⟩ | ⟨u, hu, hu2, h3, h4⟩
              · exact hfr _ (by unfold till at h4; omega)
              · have := h.blk hu
                exact f8 _ (.inr (.inr ⟨u, hu, hu2, by omega, by unfold till at h4; omega⟩))
            rw [g4 _ (by unfold till at hl; omega) h1.a8, hk]
            exact h1.cell
          · have ht : till o = o.at_ + 8 + o.text.length := rfl
            have hk : m1.text (o.at_ + 8) o.text.length = x.mem.text (o.at_ + 8) o.text.length := by
              refine Mem.text_frame f2 (by have := h1.a8; omega) h1.t8 fun v v0 v1 => ?_
              rcases h2 with ⟨h3, h4, h6⟩ | ⟨u, hu, hu2, h3, h4⟩
              · exact hfr _ (by omega)
              · have := h.blk hu
                exact f8 _ (.inr (.inr ⟨u, hu, hu2, by omega, by omega⟩))
            have hk2 : m2.text (o.at_ + 8) o.text.length = m1.text (o.at_ + 8) o.text.length := by
              refine Mem.text_frame g1 (by have := h1.a8; omega) h1.t8 fun v v0 v1 => ?_
              by_cases h8 : v % 8 = 0
              · exact g4 v (by omega) h8
              · have e1 : m1.at_ v ≠ 0 := by rw [Ne, Mem.at_zero]; omega
                have e2 : m2.at_ v = m1.at_ v := Mem.at_size g1 v
                rw [Mem.cell_bad _ _ e1, Mem.cell_bad _ _ (by rw [e2]; exact e1), e2]
            rw [hk2, hk]
            exact h1.text
          · rcases h2 with h2 | ⟨u, hu, hu2, h3, h4⟩
            · exact .inl h2
            · exact .inr ⟨u, (f6 u hu hu2).1, hu2, h3, h4⟩
        · rw [List.mem_singleton] at ho
          subst ho
          refine ⟨⟨hc, by simp only; omega, by simp only; omega, by rw [hzl]; omega, g2, ?_⟩, .inr ⟨b, f3, f4, rfl, by rw [hnew]; omega⟩⟩
          simp only
          rw [hzl]
          exact g3
      · rw [hnew]
        have := hlies u hu
        show till u ≤ b.at_ + 8 ∨ _
        omega
/-- A place that is given back. -/
theorem free (h : Wd x A T L B O i) (a : Int) :
    (Heap.free x.mem 16384 32768 a = (x.mem, -60) ∧ ¬ Used B a) ∨
    ∃ (m' : Mem) (B' : List Blk), Heap.free x.mem 16384 32768 a = (m', 0) ∧ m'.size = x.mem.size ∧ Used B a ∧ (∀ v, Used B' v ↔ Used B v ∧ v ≠ a) ∧
      ∀ O', (∀ o ∈ O', o ∈ O ∧ o.at_ ≠ a) → (O'.Pairwise fun a b => till a ≤ b.at_ ∨ till b ≤ a.at_) → Wd { x with mem := m' } A T L B' O' i := by
  have hh := h.here
  have hto := h.to_
  rcases Heap.free_law h.fit a with ⟨e, h1⟩ | ⟨m', B', e, f1, f2, ⟨b, hb1, hb2, hb3⟩, f4, f5⟩
  · left
    exact ⟨e, fun ⟨b, hb, hu, hv⟩ => h1 b hb ⟨hu, hv⟩⟩
  · right
    refine ⟨m', B', e, f2, ⟨b, hb1, hb2, hb3⟩, fun v => ⟨fun ⟨u, hu, hu2, hv⟩ => ?_, fun ⟨⟨u, hu, hu2, hv⟩, hne⟩ => ?_⟩, fun O' hO hp => ?_⟩
    · have := (f4 u).1 ⟨hu, hu2⟩
      exact ⟨⟨u, this.1, hu2, hv⟩, by omega⟩
    · exact ⟨u, ((f4 u).2 ⟨hu, hu2, by omega⟩).1, hu2, hv⟩
    · refine h.put (hi := x.here) f2 (Int.le_refl _) (by omega) h.al.al (fun v hv => f5 v (.inl ?_)) f1 (fun o ho => ?_) hp
      · rcases hv with hv | ⟨j, hj, a0, a1⟩
        · omega
        · have := h.tab hj; omega
      · obtain ⟨ho1, ho2⟩ := hO o ho
        obtain ⟨h1, h2⟩ := h.obj o ho1
        have hl := h.lies h2
        refine ⟨h1.frame f2 (Nat.le_refl _) (fun _ _ => rfl) (fun v v0 v1 => f5 v ?_), ?_⟩
        · rcases h2 with ⟨h3, h4, h6⟩ | ⟨u, hu, hu2, h3, h4⟩
          · exact .inl (by omega)
          · have := h.blk hu
            exact .inr (.inr ⟨u, hu, hu2, by omega, by omega, by omega⟩)
        · rcases h2 with h2 | ⟨u, hu, hu2, h3, h4⟩
          · exact .inl h2
          · exact .inr ⟨u, ((f4 u).2 ⟨hu, hu2, by omega⟩).1, hu2, h3, h4⟩
/-- An object in the dictionary. -/
theorem dict (h : Wd x A T L B O i) (hi : i ≤ 60) {c : Nat} (hc : c < L.length) :
    Obj.dict x (nth A c) = (x, 0, -8) ∨
    ∃ (y : Sp), Obj.dict x (nth A c) = (y, x.here, 0) ∧ Wd y A T L B (O ++ [⟨x.here, c, List.replicate ((Ref.get L c).size - 8).toNat 0⟩]) i := by
  have hs := h.sz c hc
  have hh := h.here
  have hto := h.to_
  have o := h.al.ok
  unfold Sp.Ok at o
  have hsz := size_law h.good hc hs.1 (by omega)
  have hp := h.good.pos hc
  have htop := h.good.top
  have h8 := h.al.al
  unfold Obj.dict
  rw [hsz, if_neg (by simp)]
  simp only
  have hd : dictR x (Ref.get L c).size = x.allot (Ref.get L c).size := by
    unfold dictR
    rw [Sp.align_al h8, if_neg (by simp)]
  rw [hd, Sp.align_al h8]
  simp only
  by_cases hr : x.here + (Ref.get L c).size ≤ x.to
  · right
    have hal : x.allot (Ref.get L c).size = ({ x with here := x.here + (Ref.get L c).size }, 0) := by
      unfold Sp.allot
      rw [if_neg (by omega)]
    rw [hal, if_neg (by simp)]
    simp only
    obtain ⟨m2, g0, g1, g2, g3, g4⟩ := make_law (a := x.here) (c := nth A c) hsz hs.2.2 hs.1 h8 (by omega) (by omega) (by unfold In64; omega)
    rw [g0]
    have hzl := zlen (Ref.get L c).size hs.1
    have hnew : till ⟨x.here, c, List.replicate ((Ref.get L c).size - 8).toNat 0⟩ = x.here + (Ref.get L c).size := by
      unfold till
      simp only
      rw [hzl]
      omega
    have g4' : ∀ v, (v < x.here ∨ x.here + (Ref.get L c).size ≤ v) → m2.cell v = x.mem.cell v := by
      intro v hv
      by_cases h8 : v % 8 = 0
      · exact g4 v hv h8
      · have e1 : x.mem.at_ v ≠ 0 := by rw [Ne, Mem.at_zero]; omega
        have e2 : m2.at_ v = x.mem.at_ v := Mem.at_size g1 v
        rw [Mem.cell_bad _ _ e1, Mem.cell_bad _ _ (by rw [e2]; exact e1), e2]
    refine ⟨_, rfl, h.put (hi := x.here + (Ref.get L c).size) g1 (by omega) (by omega) (by omega) (fun a ha => g4' a ?_) (h.fitf g1 fun b hb => g4' _ (by have := h.blk hb; omega)) (fun o ho => ?_) (snoc_apart h.apart _ fun u hu => ?_)⟩
    · rcases ha with ha | ⟨j, hj, a0, a1⟩
      · omega
      · have := h.tab hj; omega
    · rcases List.mem_append.1 ho with ho | ho
      · obtain ⟨h1, h2⟩ := h.obj o ho
        have hl := h.lies h2
        refine ⟨h1.frame g1 (Nat.le_refl _) (fun _ _ => rfl) (fun v v0 v1 => g4' v ?_), ?_⟩
        · rcases h2 with ⟨h3, h4, h6⟩ | ⟨u, hu, hu2, h3, h4⟩
          · omega
          · have := h.blk hu; omega
        · rcases h2 with ⟨h3, h4, h6⟩ | h2
          · exact .inl ⟨h3, by show till o ≤ x.here + _; omega, h6⟩
          · exact .inr h2
      · rw [List.mem_singleton] at ho
        subst ho
        refine ⟨⟨hc, h8, by simp only; omega, by rw [hzl]; omega, g2, ?_⟩, .inl ⟨by simp only; omega, by rw [hnew]; exact Int.le_refl _, fun j hj => .inr ?_⟩⟩
        · simp only
          rw [hzl]
          exact g3
        · have := h.tab hj
          exact this.2.2
    · rw [hnew]
      obtain ⟨h1, h2⟩ := h.obj u hu
      have hl := h.lies h2
      rcases h2 with ⟨h3, h4, h6⟩ | ⟨b, hb, hb2, h3, h4⟩
      · exact .inl h4
      · have := h.blk hb
        exact .inr (by omega)
  · left
    have hal : x.allot (Ref.get L c).size = (x, -8) := by
      unfold Sp.allot
      rw [if_pos (by omega)]
    rw [hal, if_pos (by simp)]
    simp only
    rw [Class.back_law x x.here (by omega)]
/-- An object that is filled. -/
theorem fill (h : Wd x A T L B O i) {P R : List Thing} {o : Thing} (hO : O = P ++ o :: R) (v : UInt8) :
    ∃ m' : Mem, (x.mem.setText (o.at_ + 8) (List.replicate o.text.length v)).1 = m' ∧ m'.size = x.mem.size ∧ Wd { x with mem := m' } A T L B (P ++ { o with text := List.replicate o.text.length v } :: R) i := by
  have hh := h.here
  have hto := h.to_
  have ho : o ∈ O := by rw [hO]; simp
  obtain ⟨l1, l2⟩ := h.obj o ho
  have hli := h.lies l2
  have ht : till o = o.at_ + 8 + o.text.length := rfl
  have hl8 := h.fit.top
  have hhas : x.mem.has (o.at_ + 8) ((List.replicate o.text.length v).length : Int) = true := by
    rw [List.length_replicate, Mem.has_iff]
    omega
  have h1 := x.mem.setText_size (o.at_ + 8) (List.replicate o.text.length v)
  have h2 := x.mem.setText_text (o.at_ + 8) (List.replicate o.text.length v) hhas
  have h3 := fun b hb => x.mem.setText_out (o.at_ + 8) (List.replicate o.text.length v) b hb
  rw [List.length_replicate] at h2 h3
  refine ⟨_, rfl, h1, ?_⟩
  generalize (x.mem.setText (o.at_ + 8) (List.replicate o.text.length v)).1 = m' at h1 h2 h3
  have h3' : ∀ b, (b < o.at_ + 8 ∨ till o ≤ b) → m'.cell b = x.mem.cell b := by
    intro b hb
    by_cases h8 : b % 8 = 0
    · exact h3 b (by have := l1.a8; omega)
    · have e1 : x.mem.at_ b ≠ 0 := by rw [Ne, Mem.at_zero]; omega
      have e2 : m'.at_ b = x.mem.at_ b := Mem.at_size h1 b
      rw [Mem.cell_bad _ _ e1, Mem.cell_bad _ _ (by rw [e2]; exact e1), e2]
  have htn : till { o with text := List.replicate o.text.length v } = till o := by
    unfold till
    simp only
    rw [List.length_replicate]
  have hap := h.apart
  rw [hO, List.pairwise_append, List.pairwise_cons] at hap
  obtain ⟨a1, ⟨a2, a3⟩, a4⟩ := hap
  refine h.put (hi := x.here) h1 (Int.le_refl _) (by omega) h.al.al (fun a ha => h3' a ?_) (h.fitf h1 fun b hb => h3' _ ?_) (fun u hu => ?_) ?_
  · rcases ha with ha | ⟨j, hj, a0, a1⟩
    · omega
    · have := h.tab hj
      rcases l2 with ⟨q1, q2, q3⟩ | ⟨b, hb, _, q1, q2⟩
      · have := q3 j hj; omega
      · have := h.blk hb; omega
  · have hb' := h.blk hb
    rcases l2 with ⟨q1, q2, q3⟩ | ⟨u, hu, _, q1, q2⟩
    · omega
    · rcases h.fit.ch.apart h.fit.lo8 hb hu with rfl | q | q
      · omega
      · omega
      · omega
  · have hcase : u = { o with text := List.replicate o.text.length v } ∨ (u ∈ O ∧ (till u ≤ o.at_ ∨ till o ≤ u.at_)) := by
      rcases List.mem_append.1 hu with hu | hu
      · exact .inr ⟨by rw [hO]; simp [hu], a4 u hu o (by simp)⟩
      · rcases List.mem_cons.1 hu with rfl | hu
        · exact .inl rfl
        · exact .inr ⟨by rw [hO]; simp [hu], by have := a2 u hu; omega⟩
    rcases hcase with rfl | ⟨hu, hap⟩
    · refine ⟨⟨l1.cls, l1.a8, l1.a0, ?_, ?_, ?_⟩, ?_⟩
      · simp only; rw [List.length_replicate]; exact l1.t8
      · simp only; rw [h3' _ (.inl (by omega))]; exact l1.cell
      · simp only; rw [List.length_replicate]; exact h2
      · rcases l2 with ⟨q1, q2, q3⟩ | ⟨b, hb, q0, q1, q2⟩
        · exact .inl ⟨q1, by rw [htn]; exact q2, fun j hj => by rw [htn]; exact q3 j hj⟩
        · exact .inr ⟨b, hb, q0, q1, by rw [htn]; exact q2⟩
    · obtain ⟨k1, k2⟩ := h.obj u hu
      exact ⟨k1.frame h1 (Nat.le_refl _) (fun _ _ => rfl) (fun b b0 b1 => h3' b (by omega)), k2⟩
  · rw [List.pairwise_append, List.pairwise_cons]
    refine ⟨a1, ⟨fun u hu => ?_, a3⟩, fun u hu w hw => ?_⟩
    · rw [htn]; exact a2 u hu
    · rcases List.mem_cons.1 hw with rfl | hw
      · rw [htn]; exact a4 u hu o (by simp)
      · exact a4 u hu w (by simp [hw])
end Wd
end Obj
end Go.Proofs.Shed
set_option linter.unusedVariables false
set_option linter.unusedSimpArgs false
namespace Go.Proofs.Shed
namespace Obj
def y0 : Sp := (Class.root ⟨Mem.zero (32768 : Int).toNat, 8, 32768, 8⟩).1
theorem root_is : Class.root ⟨Mem.zero (32768 : Int).toNat, 8, 32768, 8⟩ = (y0, 8, 0) := by
  have : (Class.root ⟨Mem.zero (32768 : Int).toNat, 8, 32768, 8⟩).2 = (8, 0) := by decide +kernel
  exact Prod.ext rfl this
theorem y0_here : y0.here = 16 := by decide +kernel
theorem y0_size : y0.mem.size = 32768 := by decide +kernel
def m1 : Mem := (Heap.put y0.mem ⟨16384, 16384, false⟩).1
theorem put_is : Heap.put y0.mem ⟨16384, 16384, false⟩ = (m1, 0) := by
  have : (Heap.put y0.mem ⟨16384, 16384, false⟩).2 = 0 := by decide +kernel
  exact Prod.ext rfl this
theorem m1_size : m1.size = 32768 := by decide +kernel
theorem m1_root : m1.cell 8 = (0, 0) := by decide +kernel
theorem m1_head : m1.cell 16384 = (16384, 0) := by decide +kernel
theorem start : Wd ⟨m1, 16, 16384, 16⟩ [] [] [] [⟨16384, 16384, false⟩] [] 0 := by
  refine ⟨?_, ⟨⟨by decide, by decide, by decide, by show (16384 : Int) ≤ m1.size; rw [m1_size]; decide⟩, by decide⟩, rfl, by decide, ?_, ?_, ?_, by decide, ?_, List.Pairwise.nil⟩
  · exact ⟨rfl, rfl, fun i hi => absurd hi (by simp), fun i hi => absurd hi (by simp), by decide, by show (16 : Int) ≤ m1.size ∧ _; rw [m1_size]; decide, fun i hi => absurd hi (by simp), fun i j _ hi => absurd hi (by simp), m1_root, fun i hi => absurd hi (by simp), fun i hi => absurd hi (by simp), fun i hi => absurd hi (by simp)⟩
  · refine ⟨?_, by decide, by decide, by rw [m1_size]; decide, by rw [m1_size]; decide⟩
    exact ⟨rfl, by decide, by decide, m1_head, rfl⟩
  · intro j hj; exact absurd hj (by simp)
  · intro j hj; exact absurd hj (by simp)
  · intro o ho; cases ho
theorem used_start (a : Int) : ¬ Used [⟨16384, 16384, false⟩] a := by
  rintro ⟨b, hb, hu, _⟩
  rw [List.mem_singleton] at hb
  subst hb
  cases hu
end Obj
end Go.Proofs.Shed
