/- The plain law's spaces: numbers one behind the other, tables that are new, copied, put into. No program in sight; no condition. -/
import Derived.Test.YthhfkhhhclmimaaTabP
set_option linter.unusedVariables false
set_option linter.unusedSimpArgs false
namespace Go.Proofs.Shed
/-- 64 bits, signed. -/
def In64 (n : Int) : Prop := -9223372036854775808 ≤ n ∧ n ≤ 9223372036854775807
namespace Mem
/-- Numbers, from a place on. -/
def wcells (m : Mem) (a : Int) : List Int → Mem
  | [] => m
  | n :: l => wcells (m.setCell a n).1 (a + 8) l
theorem wcells_size (m : Mem) (a : Int) (l : List Int) : (m.wcells a l).size = m.size := by
  induction l generalizing m a with
  | nil => rfl
  | cons n l ih => rw [wcells, ih, setCell_size]
theorem wcells_out (m : Mem) (a : Int) (l : List Int) (b : Int) (h : b < a ∨ a + 8 * l.length ≤ b) : (m.wcells a l).cell b = m.cell b := by
  induction l generalizing m a with
  | nil => rfl
  | cons n l ih =>
    rw [List.length_cons] at h
    rw [wcells, ih _ _ (by omega), cell_set_apart _ _ _ _ (by omega)]
theorem wcells_in (m : Mem) (a : Int) (l : List Int) (a8 : a % 8 = 0) (a0 : 0 ≤ a) (ha : a + 8 * l.length ≤ m.size) (hb : ∀ n ∈ l, In64 n) (j : Nat) (hj : j < l.length) : (m.wcells a l).cell (a + 8 * j) = (l[j], 0) := by
  induction l generalizing m a j with
  | nil => cases hj
  | cons n l ih =>
    rw [List.length_cons] at ha hj
    rw [wcells]
    cases j with
    | zero =>
      rw [wcells_out _ _ _ _ (by omega)]
      have := hb n (by simp)
      simp only [Int.natCast_zero, Int.mul_zero, Int.add_zero, List.getElem_cons_zero]
      exact cell_set_same _ _ _ (by rw [at_zero]; omega) this.1 this.2
    | succ j =>
      rw [show a + 8 * ((j + 1 : Nat) : Int) = a + 8 + 8 * j by omega]
      rw [ih _ _ (by omega) (by omega) (by rw [setCell_size]; omega) (fun n hn => hb n (by simp [hn])) j (by omega)]
      rfl
end Mem
namespace Sp
/-- Numbers behind the end. -/
def wr (x : Sp) (l : List Int) : Sp := ⟨x.mem.wcells x.here l, x.lo, x.to, x.here + 8 * l.length⟩
/-- Aligned, with a memory. -/
structure Al (x : Sp) : Prop where
  ok : x.Ok
  al : x.here % 8 = 0
theorem wr_nil (x : Sp) : x.wr [] = x := by unfold wr; simp [Mem.wcells]
theorem wr_cons (x : Sp) (n : Int) (l : List Int) : x.wr (n :: l) = (x.wr [n]).wr l := by
  unfold wr
  simp only [Mem.wcells, List.length_cons, List.length_nil]
  congr 1
  omega
theorem Al.wr {x : Sp} (h : x.Al) {l : List Int} (hr : x.here + 8 * l.length ≤ x.to) : (x.wr l).Al := by
  obtain ⟨⟨h1, h2, h3, h4⟩, h5⟩ := h
  refine ⟨⟨h1, ?_, hr, ?_⟩, ?_⟩
  · show x.lo ≤ x.here + 8 * l.length; omega
  · show x.to ≤ (x.mem.wcells x.here l).size; rw [Mem.wcells_size]; exact h4
  · show (x.here + 8 * l.length) % 8 = 0; omega
theorem align_al {x : Sp} (h : x.here % 8 = 0) : x.align = (x, 0) := by
  unfold align alignN
  rw [if_pos h]
theorem comma_room {x : Sp} (h : x.Al) (hr : x.here + 8 ≤ x.to) (n : Int) : x.comma n = (x.wr [n], 0) := by
  obtain ⟨⟨h1, h2, h3, h4⟩, h5⟩ := h
  have ha : x.mem.at_ x.here = 0 := by rw [Mem.at_zero]; omega
  unfold comma put
  rw [if_pos (by omega), Mem.setCell_code, if_neg (by omega)]
  unfold allot
  simp only
  rw [if_neg (by omega)]
  rfl
theorem comma_full {x : Sp} (hr : ¬ x.here + 8 ≤ x.to) (n : Int) : x.comma n = (x, -8) := by
  unfold comma put
  rw [if_neg (by omega)]
  unfold allot
  rw [if_pos (by omega)]
end Sp
namespace Iface
theorem cells_err (l : List Int) (x : Sp) (e : Int) (h : e ≠ 0) : cells l (x, e) = (x, e) := by
  induction l with
  | nil => rfl
  | cons n l ih => rw [cells, if_neg h, ih]
theorem cells_room (l : List Int) {x : Sp} (h : x.Al) (hr : x.here + 8 * l.length ≤ x.to) : cells l (x, 0) = (x.wr l, 0) := by
  induction l generalizing x with
  | nil => rw [Sp.wr_nil]; rfl
  | cons n l ih =>
    rw [List.length_cons] at hr
    rw [cells, if_pos rfl]
    simp only
    have h8 : (x.wr [n]).here = x.here + 8 := by show x.here + 8 * _ = _; simp
    have hto : (x.wr [n]).to = x.to := rfl
    rw [Sp.comma_room h (by omega), Sp.wr_cons x n l]
    exact ih (h.wr (l := [n]) (by rw [List.length_cons, List.length_nil]; omega)) (by rw [h8, hto]; omega)
theorem cells_full (l : List Int) {x : Sp} (h : x.Al) (hr : ¬ x.here + 8 * l.length ≤ x.to) : ∃ y : Sp, cells l (x, 0) = (y, -8) ∧ y.mem.size = x.mem.size ∧ y.lo = x.lo ∧ y.to = x.to ∧ x.here ≤ y.here ∧ y.here ≤ y.to ∧ ∀ b, (b < x.here ∨ x.to ≤ b) → y.mem.cell b = x.mem.cell b := by
  induction l generalizing x with
  | nil => exfalso; have := h.ok.2.2.1; simp at hr; omega
  | cons n l ih =>
    rw [List.length_cons] at hr
    rw [cells, if_pos rfl]
    simp only
    by_cases h1 : x.here + 8 ≤ x.to
    · have h8 : (x.wr [n]).here = x.here + 8 := by show x.here + 8 * _ = _; simp
      have hto : (x.wr [n]).to = x.to := rfl
      rw [Sp.comma_room h h1]
      obtain ⟨y, e, y1, y2, y3, y4, y6, y5⟩ := ih (h.wr (l := [n]) (by rw [List.length_cons, List.length_nil]; omega)) (by rw [h8, hto]; omega)
      refine ⟨y, e, ?_, y2, y3, by omega, y6, fun b hb => ?_⟩
      · rw [y1]; exact Mem.wcells_size _ _ _
      · rw [y5 b (by omega)]
        exact Mem.wcells_out _ _ _ _ (by simp only [List.length_cons, List.length_nil]; omega)
    · rw [Sp.comma_full h1, cells_err _ _ _ (by decide)]
      exact ⟨x, rfl, rfl, rfl, rfl, Int.le_refl _, h.ok.2.2.1, fun _ _ => rfl⟩
end Iface
namespace Class
theorem cells_room (l : List Int) {x : Sp} (h : x.Al) (hr : x.here + 8 * l.length ≤ x.to) (a : Int) : make5.cells x l a = (x.wr l, a, 0) := by
  induction l generalizing x with
  | nil => rw [Sp.wr_nil]; rfl
  | cons n l ih =>
    rw [List.length_cons] at hr
    rw [make5.cells]
    have h8 : (x.wr [n]).here = x.here + 8 := by show x.here + 8 * _ = _; simp
    have hto : (x.wr [n]).to = x.to := rfl
    rw [Sp.comma_room h (by omega), if_neg (by simp), Sp.wr_cons x n l]
    exact ih (h.wr (l := [n]) (by rw [List.length_cons, List.length_nil]; omega)) (by rw [h8, hto]; omega)
end Class
namespace Tab
def zeros (slots : Int) (k : Nat) (i : Int) : List Int := (List.range k).map fun (j : Nat) => if i + j = 0 then slots else 0
theorem zeros_len (slots : Int) (k : Nat) (i : Int) : (zeros slots k i).length = k := by simp [zeros]
theorem zeros_succ (slots : Int) (k : Nat) (i : Int) : zeros slots (k + 1) i = (if i = 0 then slots else 0) :: zeros slots k (i + 1) := by
  unfold zeros
  rw [List.range_succ_eq_map, List.map_cons, List.map_map]
  congr 1
  · simp
  · apply List.map_congr_left
    intro j _
    show (if i + ((j + 1 : Nat) : Int) = 0 then slots else 0) = _
    rw [show i + ((j + 1 : Nat) : Int) = i + 1 + j by omega]
theorem newN_room (slots : Int) (k : Nat) (i : Int) {x : Sp} (h : x.Al) (hr : x.here + 8 * k ≤ x.to) : newN slots k i x = (x.wr (zeros slots k i), 0) := by
  induction k generalizing x i with
  | zero => rw [newN]; show (x, 0) = (x.wr [], 0); rw [Sp.wr_nil]
  | succ k ih =>
    rw [newN, zeros_succ]
    generalize (if i = 0 then slots else 0) = n
    have h8 : (x.wr [n]).here = x.here + 8 := by show x.here + 8 * _ = _; simp
    have hto : (x.wr [n]).to = x.to := rfl
    rw [Sp.comma_room h (by omega), if_neg (by simp), Sp.wr_cons x n (zeros slots k (i + 1))]
    exact ih _ (h.wr (l := [n]) (by rw [List.length_cons, List.length_nil]; omega)) (by rw [h8, hto]; omega)
/-- A table that is new: nothing is in it. -/
theorem new_law {x : Sp} (h : x.Al) (slots : Int) (s1 : 1 ≤ slots) (s2 : slots ≤ 1024) (hr : x.here + (2 + slots * 3) * 8 ≤ x.to) :
    ∃ y : Sp, new x slots = (y, x.here, 0) ∧ y.Al ∧ y.lo = x.lo ∧ y.to = x.to ∧ y.here = x.here + (2 + slots * 3) * 8 ∧ y.mem.size = x.mem.size ∧
      (∀ b, (b < x.here ∨ y.here ≤ b) → y.mem.cell b = x.mem.cell b) ∧ Fine y.mem x.here slots ∧ ∀ s, look y.mem x.here s = none := by
  have hk : ((2 + slots * 3).toNat : Int) = 2 + slots * 3 := by omega
  obtain ⟨⟨o1, o2, o3, o4⟩, o5⟩ := h
  have hrr : x.here + 8 * ((2 + slots * 3).toNat : Int) ≤ x.to := by omega
  have hN := newN_room slots (2 + slots * 3).toNat 0 ⟨⟨o1, o2, o3, o4⟩, o5⟩ hrr
  have hlen := zeros_len slots (2 + slots * 3).toNat 0
  have hin : ∀ j, 0 ≤ j → j < 2 + slots * 3 → (x.wr (zeros slots (2 + slots * 3).toNat 0)).mem.cell (x.here + 8 * j) = (if j = 0 then slots else 0, 0) := by
    intro j j0 j1
    have := Mem.wcells_in x.mem x.here (zeros slots (2 + slots * 3).toNat 0) o5 (by omega) (by rw [hlen]; omega) (by
      intro n hn
      unfold zeros at hn
      rw [List.mem_map] at hn
      obtain ⟨i, _, rfl⟩ := hn
      unfold In64
      split <;> omega) j.toNat (by rw [hlen]; omega)
    rw [show ((j.toNat : Nat) : Int) = j by omega] at this
    show (x.mem.wcells x.here _).cell _ = _
    rw [this]
    unfold zeros
    rw [List.getElem_map, List.getElem_range, show (0 : Int) + ((j.toNat : Nat) : Int) = j by omega]
  refine ⟨x.wr (zeros slots (2 + slots * 3).toNat 0), ?_, Sp.Al.wr ⟨⟨o1, o2, o3, o4⟩, o5⟩ (by rw [hlen]; exact hrr), rfl, rfl, ?_, Mem.wcells_size _ _ _, fun b hb => Mem.wcells_out _ _ _ _ hb, ?_⟩
  · unfold new
    rw [if_neg (by omega), Sp.align_al o5, if_neg (by simp)]
    simp only
    rw [hN, if_neg (by simp)]
  · show x.here + 8 * ((zeros slots (2 + slots * 3).toNat 0).length : Int) = _
    rw [hlen]; omega
  · have hz : (x.wr (zeros slots (2 + slots * 3).toNat 0)).mem.size = x.mem.size := Mem.wcells_size _ _ _
    generalize x.wr (zeros slots (2 + slots * 3).toNat 0) = y at hin hN hz
    have hsl : Tab.slots y.mem x.here = slots := by
      refine slots_of ?_ s1 s2 (by rw [hz]; omega)
      have := hin 0 (by omega) (by omega)
      simpa using this
    have hrd : ∀ k, 0 ≤ k → k < slots → (read y.mem x.here k).sel = 0 := by
      intro k k0 k1
      unfold read pos
      have := hin (2 + k * 3) (by omega) (by omega)
      rw [show x.here + (2 + k * 3) * 8 = x.here + 8 * (2 + k * 3) by omega, this, if_neg (by omega)]
    refine ⟨⟨hsl, s1, fun k k0 k1 hk => absurd (hrd k k0 k1) hk⟩, fun s => ?_⟩
    by_cases hs : s < 1
    · exact look_low _ _ _ hs
    · exact look_none hsl fun k k0 k1 => by rw [hrd k k0 k1]; omega
theorem pos_in {m : Mem} {t n : Int} (hn : slots m t = n) (n1 : 1 ≤ n) (k j : Int) (k0 : 0 ≤ k) (k1 : k < n) (j0 : 0 ≤ j) (j1 : j < 3) : m.at_ (pos t k + 8 * j) = 0 := by
  have := slots_in m t (by omega)
  rw [hn] at this
  rw [Mem.at_zero]
  unfold pos
  omega
/-- What was put is found, and the rest is as before. -/
theorem put_law {m : Mem} {t n : Int} (h : Fine m t n) (x : Ent) (x1 : 1 ≤ x.sel) (b1 : In64 x.sel) (b2 : In64 x.xt) (b3 : In64 x.cls) (hm : may m t x.sel = true) :
    (put m t x).2 = 0 ∧ (put m t x).1.size = m.size ∧ (∀ a, (a < t + 8 ∨ t + (2 + n * 3) * 8 ≤ a) → (put m t x).1.cell a = m.cell a) ∧
      Fine (put m t x).1 t n ∧ ∀ s, look (put m t x).1 t s = if s = x.sel then some x else look m t s := by
  have hn := h.1
  have n1 := h.2.1
  have hi := slots_in m t (by omega)
  rw [hn] at hi
  have r0 : 0 ≤ (probe m t x.sel).1 := by
    unfold may at hm
    rw [Bool.and_eq_true, decide_eq_true_eq] at hm
    exact hm.1
  have r1 : (probe m t x.sel).1 < n := by
    have := probe_bd m t x.sel
    omega
  obtain ⟨r, hr⟩ : ∃ r, (probe m t x.sel).1 = r := ⟨_, rfl⟩
  have hput : put m t x = ((((((bump m t r).setCell (pos t r) x.sel).1).setCell (pos t r + 8) x.xt).1.setCell (pos t r + 16) x.cls).1, 0) := by
    unfold put
    rw [if_neg (by omega), hr, if_neg (by omega)]
  rw [hr] at r0 r1
  rw [hput]
  simp only
  have hbz : (bump m t r).size = m.size := by unfold bump; split; exact Mem.setCell_size _ _ _; rfl
  have hbc : ∀ a, a ≠ t + 8 → (bump m t r).cell a = m.cell a := by
    intro a ha
    unfold bump
    split
    · exact Mem.cell_set_apart _ _ _ _ ha
    · rfl
  have hp : pos t r = t + (2 + r * 3) * 8 := rfl
  have hz : ((((bump m t r).setCell (pos t r) x.sel).1.setCell (pos t r + 8) x.xt).1.setCell (pos t r + 16) x.cls).1.size = m.size := by
    rw [Mem.setCell_size, Mem.setCell_size, Mem.setCell_size, hbz]
  have hout : ∀ a, a ≠ t + 8 → a ≠ pos t r → a ≠ pos t r + 8 → a ≠ pos t r + 16 → ((((bump m t r).setCell (pos t r) x.sel).1.setCell (pos t r + 8) x.xt).1.setCell (pos t r + 16) x.cls).1.cell a = m.cell a := by
    intro a a1 a2 a3 a4
    rw [Mem.cell_set_apart _ _ _ _ a4, Mem.cell_set_apart _ _ _ _ a3, Mem.cell_set_apart _ _ _ _ a2, hbc a a1]
  have hat : ∀ j, 0 ≤ j → j < 3 → (bump m t r).at_ (pos t r + 8 * j) = 0 := by
    intro j j0 j1
    rw [Mem.at_size hbz]
    exact pos_in hn n1 r j r0 r1 j0 j1
  have hc0 : ((((bump m t r).setCell (pos t r) x.sel).1.setCell (pos t r + 8) x.xt).1.setCell (pos t r + 16) x.cls).1.cell (pos t r) = (x.sel, 0) := by
    rw [Mem.cell_set_apart _ _ _ _ (by omega), Mem.cell_set_apart _ _ _ _ (by omega)]
    exact Mem.cell_set_same _ _ _ (by have := hat 0 (by omega) (by omega); simpa using this) b1.1 b1.2
  have hc1 : ((((bump m t r).setCell (pos t r) x.sel).1.setCell (pos t r + 8) x.xt).1.setCell (pos t r + 16) x.cls).1.cell (pos t r + 8) = (x.xt, 0) := by
    rw [Mem.cell_set_apart _ _ _ _ (by omega)]
    exact Mem.cell_set_same _ _ _ (by rw [Mem.setCell_at]; have := hat 1 (by omega) (by omega); simpa using this) b2.1 b2.2
  have hc2 : ((((bump m t r).setCell (pos t r) x.sel).1.setCell (pos t r + 8) x.xt).1.setCell (pos t r + 16) x.cls).1.cell (pos t r + 16) = (x.cls, 0) :=
    Mem.cell_set_same _ _ _ (by rw [Mem.setCell_at, Mem.setCell_at]; have := hat 2 (by omega) (by omega); simpa using this) b3.1 b3.2
  generalize ((((bump m t r).setCell (pos t r) x.sel).1.setCell (pos t r + 8) x.xt).1.setCell (pos t r + 16) x.cls).1 = m' at hz hout hc0 hc1 hc2
  have hsl : slots m' t = n := by
    refine slots_of ?_ n1 (by have := slots_bd m t; omega) (by omega)
    rw [hout t (by omega) (by omega) (by omega) (by omega)]
    exact slots_cell hn n1
  have hrd : read m' t r = x := by
    unfold read
    rw [hc0, hc1, hc2]
  have hro : ∀ k, 0 ≤ k → k < n → k ≠ r → read m' t k = read m t k := by
    intro k k0 k1 hk
    unfold read
    have e : pos t k = t + (2 + k * 3) * 8 := rfl
    rw [hout (pos t k) (by omega) (by omega) (by omega) (by omega), hout (pos t k + 8) (by omega) (by omega) (by omega) (by omega), hout (pos t k + 16) (by omega) (by omega) (by omega) (by omega)]
  exact ⟨trivial, hz, fun a ha => hout a (by omega) (by omega) (by omega) (by omega), put_fine h hsl x1 hr r0 hrd hro⟩
/-- A table that is a copy: the same is in it. -/
theorem copy_law {x : Sp} (h : x.Al) {t n : Int} (ht : Fine x.mem t n) (hlo : t + (2 + n * 3) * 8 ≤ x.here) (hr : x.here + (2 + n * 3) * 8 ≤ x.to) :
    ∃ y : Sp, copy x t = (y, x.here, 0) ∧ y.Al ∧ y.lo = x.lo ∧ y.to = x.to ∧ y.here = x.here + (2 + n * 3) * 8 ∧ y.mem.size = x.mem.size ∧
      (∀ b, (b < x.here ∨ y.here ≤ b) → y.mem.cell b = x.mem.cell b) ∧ Fine y.mem x.here n ∧ ∀ s, look y.mem x.here s = look x.mem t s := by
  have n2 := slots_bd x.mem t
  have hn := ht.1
  have n1 := ht.2.1
  have hin := slots_in x.mem t (by omega)
  rw [hn] at hin n2
  obtain ⟨y, e, hy, y1, y2, y3, y4, y5, y6, y7⟩ := new_law h n n1 n2.2 hr
  have h1 := h.ok.1
  have h2 := h.ok.2.1
  have h4 := h.ok.2.2.2
  have hx8 := h.al
  have hht : y.mem.has t ((2 + n * 3) * 8) = true := by rw [Mem.has_iff]; omega
  have hhu : y.mem.has x.here ((2 + n * 3) * 8) = true := by rw [Mem.has_iff]; omega
  have hcode := Mem.copy_code y.mem t x.here _ hht hhu
  have hci := fun i h0 h1 h8 => Mem.copy_in y.mem t x.here ((2 + n * 3) * 8) i hht hhu hin.2.1 hx8 h8 h0 h1
  have hco := fun b hb => Mem.copy_out y.mem t x.here ((2 + n * 3) * 8) b hht hb
  have hcz : (y.mem.setText x.here (y.mem.text t ((2 + n * 3) * 8)).1).1.size = y.mem.size := Mem.setText_size _ _ _
  have hcopy : copy x t = ({ y with mem := (y.mem.setText x.here (y.mem.text t ((2 + n * 3) * 8)).1).1 }, x.here, 0) := by
    unfold copy
    rw [hn, e, if_neg (by simp)]
    simp only
    rw [hcode]
  generalize (y.mem.setText x.here (y.mem.text t ((2 + n * 3) * 8)).1).1 = m' at hci hco hcz hcopy
  have hcell : ∀ i, 0 ≤ i → i + 8 ≤ (2 + n * 3) * 8 → i % 8 = 0 → m'.cell (x.here + i) = x.mem.cell (t + i) := by
    intro i i0 i1 i8
    rw [hci i i0 i1 i8, y5 _ (.inl (by omega))]
  have hsl : slots m' x.here = slots x.mem t := by
    rw [hn]
    refine slots_of ?_ n1 n2.2 (by omega)
    have := hcell 0 (by omega) (by omega) (by omega)
    rw [Int.add_zero, Int.add_zero] at this
    rw [this]
    exact slots_cell hn n1
  have hrd : ∀ k, 0 ≤ k → k < slots x.mem t → read m' x.here k = read x.mem t k := by
    intro k k0 k1
    rw [hn] at k1
    have e0 : ∀ j, pos x.here k + j = x.here + ((2 + k * 3) * 8 + j) := by intro j; unfold pos; omega
    have e1 : ∀ j, pos t k + j = t + ((2 + k * 3) * 8 + j) := by intro j; unfold pos; omega
    have c : ∀ j, 0 ≤ j → j ≤ 16 → j % 8 = 0 → m'.cell (pos x.here k + j) = x.mem.cell (pos t k + j) := by
      intro j j0 j1 j8
      rw [e0, e1]
      exact hcell _ (by omega) (by omega) (by omega)
    have c0 := c 0 (by omega) (by omega) (by omega)
    rw [Int.add_zero, Int.add_zero] at c0
    unfold read
    rw [c0, c 8 (by omega) (by omega) (by omega), c 16 (by omega) (by omega) (by omega)]
  refine ⟨_, hcopy, ⟨⟨?_, ?_, ?_, ?_⟩, ?_⟩, y1, y2, y3, ?_, ?_, fine_congr hsl hrd ht, look_congr hsl hrd⟩
  · exact hy.ok.1
  · exact hy.ok.2.1
  · exact hy.ok.2.2.1
  · show y.to ≤ m'.size; rw [hcz]; exact hy.ok.2.2.2
  · exact hy.al
  · show m'.size = _; rw [hcz, y4]
  · intro b hb
    show m'.cell b = _
    by_cases h8 : b + 8 ≤ x.here
    · rw [hco b (.inl h8), y5 b hb]
    · by_cases hbu : y.here ≤ b
      · rw [hco b (.inr (by omega)), y5 b (.inr hbu)]
      have hb : b < x.here := hb.resolve_right hbu
      have hb8 : b % 8 ≠ 0 := by omega
      have : x.mem.at_ b ≠ 0 := by rw [Ne, Mem.at_zero]; omega
      have e2 : m'.at_ b = x.mem.at_ b := Mem.at_size (by rw [hcz, y4]) b
      rw [Mem.cell_bad _ _ this, Mem.cell_bad m' b (by rw [e2]; exact this), e2]
end Tab
end Go.Proofs.Shed
