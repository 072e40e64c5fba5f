/- The plain law's tables: what is found behind an entry that was put. No program in sight; no condition. The plain law's spaces: numbers one behind the other, tables that are new, copied, put into. No program in sight; no condition. The plain law's reference: walks, heirs, and what a class knows, behind a method that is set and a class that is new. No program in sight; no condition. The plain law's classes: a memory whose tables tell of all selectors what the walk tells; it stays so behind a method that is set, a class that is new, and what is written above. No program in sight; no condition. The plain law's classes: what is written above them, and a method that is set. No program in sight; no condition. The plain law's classes: a class that is new. No program in sight; no condition. -/
import Derived.Test.YthhfkhhhclmimaaPA
set_option linter.unusedVariables false
set_option linter.unusedSimpArgs false
namespace Go.Proofs.Shed
namespace Mem
theorem cell_ok (m : Mem) (a : Int) : (m.cell a).2 = m.at_ a := by
  unfold cell
  split
  · rename_i h; exact h.symm
  · rfl
theorem cell_at (m : Mem) (a : Int) (h : m.at_ a = 0) : m.cell a = (s64 (m.get a.toNat 8), 0) := by
  unfold cell
  rw [if_pos h]
theorem cell_bad (m : Mem) (a : Int) (h : m.at_ a ≠ 0) : m.cell a = (0, m.at_ a) := by
  unfold cell
  rw [if_neg h]
/-- Whether a place has a cell hangs on the size alone. -/
theorem at_size {m m' : Mem} (h : m'.size = m.size) (a : Int) : m'.at_ a = m.at_ a := by
  unfold at_ has
  rw [h]
theorem cell_of_get {m m' : Mem} (h : m'.size = m.size) (a : Int) (hg : m.at_ a = 0 → m'.get a.toNat 8 = m.get a.toNat 8) : m'.cell a = m.cell a := by
  by_cases h0 : m.at_ a = 0
  · rw [cell_at m a h0, cell_at m' a (by rw [at_size h]; exact h0), hg h0]
  · rw [cell_bad m a h0, cell_bad m' a (by rw [at_size h]; exact h0), at_size h]
theorem setCell_at (m : Mem) (a n b : Int) : (m.setCell a n).1.at_ b = m.at_ b := at_size (m.setCell_size a n) b
theorem cell_set_same (m : Mem) (a n : Int) (h : m.at_ a = 0) (h0 : -9223372036854775808 ≤ n) (h1 : n ≤ 9223372036854775807) : (m.setCell a n).1.cell a = (n, 0) := by
  rw [cell_at _ _ (by rw [setCell_at]; exact h)]
  unfold setCell
  rw [if_pos h]
  simp only
  rw [get_put_same, Nat.mod_eq_of_lt (by have := u64_lt n; omega), s64_u64 n h0 h1]
theorem cell_set_apart (m : Mem) (a n b : Int) (h : b ≠ a) : (m.setCell a n).1.cell b = m.cell b := by
  apply cell_of_get (m.setCell_size a n)
  intro hb
  unfold setCell
  split
  · rename_i ha
    rw [at_zero] at ha hb
    simp only
    rw [get_put_apart _ _ _ _ _ _ (by omega)]
  · rfl
theorem setCell_code (m : Mem) (a n : Int) : (m.setCell a n).2 = m.at_ a := by
  unfold setCell
  split
  · rename_i h; exact h.symm
  · rfl
theorem text_code (m : Mem) (a n : Int) (h : m.has a n = true) : m.text a n = (bytesN n.toNat (m.get a.toNat n.toNat), 0) := by
  unfold text
  rw [if_pos h]
theorem get_get (m : Mem) (a n i k : Nat) (h : i + k ≤ n) : ((m.get a n) >>> (8 * i)) % 2 ^ (8 * k) = m.get (a + i) k := by
  apply Nat.eq_of_testBit_eq
  intro j
  rw [Nat.testBit_mod_two_pow, Nat.testBit_shiftRight, get_bit, get_bit, show 8 * a + (8 * i + j) = 8 * (a + i) + j by omega]
  by_cases hj : j < 8 * k
  · have : 8 * i + j < 8 * n := by omega
    simp [hj, this]
  · simp [hj]
/-- A text that is copied: its code, and what is read behind it. -/
theorem copy_code (m : Mem) (t u n : Int) (ht : m.has t n = true) (hu : m.has u n = true) : (m.setText u (m.text t n).1).2 = 0 := by
  rw [text_code m t n ht]
  rw [has_iff] at ht
  unfold setText
  rw [bytesN_len, show ((n.toNat : Nat) : Int) = n by omega, if_pos hu]
theorem copy_in (m : Mem) (t u n i : Int) (ht : m.has t n = true) (hu : m.has u n = true) (t8 : t % 8 = 0) (u8 : u % 8 = 0) (i8 : i % 8 = 0) (h0 : 0 ≤ i) (h1 : i + 8 ≤ n) :
    (m.setText u (m.text t n).1).1.cell (u + i) = m.cell (t + i) := by
  rw [text_code m t n ht]
  rw [has_iff] at ht hu
  have hsz : (m.setText u (bytesN n.toNat (m.get t.toNat n.toNat))).1.size = m.size := m.setText_size _ _
  have ha : m.at_ (t + i) = 0 := by rw [at_zero]; omega
  have hb : m.at_ (u + i) = 0 := by rw [at_zero]; omega
  rw [cell_at _ _ ha, cell_at _ _ (by rw [at_size hsz]; exact hb)]
  unfold setText
  rw [bytesN_len, show ((n.toNat : Nat) : Int) = n by omega, if_pos (by rw [has_iff]; omega)]
  simp only
  rw [get_put_in _ _ _ _ _ _ (by omega) (by omega), leN_bytesN, Nat.mod_eq_of_lt (m.get_lt _ _), get_get _ _ _ _ _ (by omega)]
  rw [show t.toNat + ((u + i).toNat - u.toNat) = (t + i).toNat by omega]
theorem copy_out (m : Mem) (t u n b : Int) (ht : m.has t n = true) (hb : b + 8 ≤ u ∨ u + n ≤ b) : (m.setText u (m.text t n).1).1.cell b = m.cell b := by
  rw [text_code m t n ht]
  rw [has_iff] at ht
  apply cell_of_get (m.setText_size _ _)
  intro h0
  unfold setText
  split
  · rename_i hu
    rw [bytesN_len, has_iff] at hu
    rw [at_zero] at h0
    simp only
    rw [get_put_apart _ _ _ _ _ _ (by rw [bytesN_len]; omega)]
  · rfl
end Mem
end Go.Proofs.Shed

namespace Go.Proofs.Shed
namespace Tab

/-- What is found by a probe that begins at the slot h of n. -/
def Hit (f : Int → Int) (n h s i : Int) : Prop := 0 ≤ i ∧ i < n ∧ (f ((h + i) % n) = s ∨ f ((h + i) % n) = 0) ∧ ∀ j, 0 ≤ j → j < i → f ((h + j) % n) ≠ s ∧ f ((h + j) % n) ≠ 0
theorem probeN_spec (m : Mem) (t s n : Int) (k : Nat) (i : Int) (h0 : 0 ≤ i) (hk : i + k = n) (hb : ∀ j, 0 ≤ j → j < i → (read m t ((home s n + j) % n)).sel ≠ s ∧ (read m t ((home s n + j) % n)).sel ≠ 0) :
    ((probeN m t s n k i).1 = -1 ∧ ∀ j, 0 ≤ j → j < n → (read m t ((home s n + j) % n)).sel ≠ s ∧ (read m t ((home s n + j) % n)).sel ≠ 0) ∨
    (∃ j, (probeN m t s n k i).1 = (home s n + j) % n ∧ Hit (fun k => (read m t k).sel) n (home s n) s j) := by
  induction k generalizing i with
  | zero => exact .inl ⟨rfl, fun j h1 h2 => hb j h1 (by omega)⟩
  | succ k ih =>
    rw [probeN]
    split
    · rename_i h
      exact .inr ⟨i, rfl, h0, by omega, h, hb⟩
    · rename_i h
      refine ih (i + 1) (by omega) (by omega) fun j h1 h2 => ?_
      by_cases he : j = i
      · subst he; exact ⟨fun e => h (.inl e), fun e => h (.inr e)⟩
      · exact hb j h1 (by omega)
/-- Each slot is met. -/
theorem round_all (n h k : Int) (h0 : 0 ≤ k) (h1 : k < n) : ∃ j, 0 ≤ j ∧ j < n ∧ (h + j) % n = k := by
  refine ⟨(k - h) % n, Int.emod_nonneg _ (by omega), Int.emod_lt_of_pos _ (by omega), ?_⟩
  rw [Int.add_emod_emod, show h + (k - h) = k by omega, Int.emod_eq_of_lt h0 h1]
theorem round_one (n h i j : Int) (hi : 0 ≤ i) (hi' : i < n) (hj : 0 ≤ j) (hj' : j < n) (e : (h + i) % n = (h + j) % n) : i = j := by
  have h1 : (h + i - (h + j)) % n = 0 := by
    rw [Int.sub_emod, e]
    simp
  rw [show h + i - (h + j) = i - j by omega] at h1
  obtain ⟨q, hq⟩ := Int.dvd_of_emod_eq_zero h1
  by_cases h0 : q = 0
  · subst h0; omega
  · exfalso
    by_cases hp : 0 < q
    · have := Int.mul_le_mul_of_nonneg_left (show 1 ≤ q by omega) (show 0 ≤ n by omega)
      omega
    · have := Int.mul_le_mul_of_nonneg_left (show q ≤ -1 by omega) (show 0 ≤ n by omega)
      omega
theorem probe_spec (m : Mem) (t s n : Int) (hn : slots m t = n) :
    ((probe m t s).1 = -1 ∧ ∀ k, 0 ≤ k → k < n → (read m t k).sel ≠ s ∧ (read m t k).sel ≠ 0) ∨
    (∃ j, (probe m t s).1 = (home s n + j) % n ∧ Hit (fun k => (read m t k).sel) n (home s n) s j) := by
  have hb := slots_bd m t
  unfold probe
  rw [hn]
  rcases probeN_spec m t s n n.toNat 0 (Int.le_refl _) (by omega) (fun j h1 h2 => by omega) with ⟨h1, h2⟩ | h
  · refine .inl ⟨h1, fun k k0 k1 => ?_⟩
    obtain ⟨j, j0, j1, e⟩ := round_all n (home s n) k k0 k1
    have := h2 j j0 j1
    rwa [e] at this
  · exact .inr h
theorem probe_hit (m : Mem) (t s n j : Int) (hn : slots m t = n) (h : Hit (fun k => (read m t k).sel) n (home s n) s j) : (probe m t s).1 = (home s n + j) % n := by
  obtain ⟨j0, j1, hm, hb⟩ := h
  have hr0 := Int.emod_nonneg (home s n + j) (show n ≠ 0 by omega)
  have hr1 := Int.emod_lt_of_pos (home s n + j) (show 0 < n by omega)
  rcases probe_spec m t s n hn with ⟨_, h2⟩ | ⟨i, hi, i0, i1, hm', hb'⟩
  · have := h2 _ hr0 hr1
    simp only at hm
    omega
  · rw [hi]
    by_cases h1 : i < j
    · have := hb i i0 h1
      simp only at hm' this
      omega
    · by_cases h2 : j < i
      · have := hb' j j0 h2
        simp only at hm this
        omega
      · rw [show i = j by omega]

/-- A table of n slots in which each selector is found where it stands. -/
def Fine (m : Mem) (t n : Int) : Prop := slots m t = n ∧ 1 ≤ n ∧ ∀ k, 0 ≤ k → k < n → (read m t k).sel ≠ 0 → 1 ≤ (read m t k).sel ∧ (probe m t (read m t k).sel).1 = k
def look (m : Mem) (t s : Int) : Option Ent := if (get m t s).2.2 then some (get m t s).1 else none
theorem look_eq (m : Mem) (t s : Int) : look m t s = if (probe m t s).1 < 0 ∨ s < 1 then none else if (read m t (probe m t s).1).sel ≠ s then none else some (read m t (probe m t s).1) := by
  unfold look get
  by_cases h1 : (probe m t s).1 < 0 ∨ s < 1
  · rw [if_pos h1, if_pos h1]; rfl
  · rw [if_neg h1, if_neg h1]
    by_cases h2 : (read m t (probe m t s).1).sel ≠ s
    · rw [if_pos h2, if_pos h2]; rfl
    · rw [if_neg h2, if_neg h2]; rfl
theorem look_low (m : Mem) (t s : Int) (h : s < 1) : look m t s = none := by rw [look_eq, if_pos (.inr h)]
theorem look_some {m : Mem} {t n : Int} (h : Fine m t n) (k s : Int) (k0 : 0 ≤ k) (k1 : k < n) (hs : (read m t k).sel = s) (s1 : 1 ≤ s) : look m t s = some (read m t k) := by
  have hp := (h.2.2 k k0 k1 (by omega)).2
  rw [hs] at hp
  rw [look_eq, hp, if_neg (by omega), if_neg (by rw [hs]; simp)]
theorem look_cases {m : Mem} {t n : Int} (hn : slots m t = n) {s : Int} {e : Ent} (hl : look m t s = some e) : ∃ k, 0 ≤ k ∧ k < n ∧ read m t k = e ∧ e.sel = s ∧ 1 ≤ s := by
  rw [look_eq] at hl
  have hb := probe_bd m t s
  split at hl
  · cases hl
  · split at hl
    · cases hl
    · cases hl
      exact ⟨_, by omega, by omega, rfl, by omega, by omega⟩
theorem look_none {m : Mem} {t n : Int} (hn : slots m t = n) {s : Int} (h : ∀ k, 0 ≤ k → k < n → (read m t k).sel ≠ s) : look m t s = none := by
  cases hl : look m t s with
  | none => rfl
  | some e =>
    obtain ⟨k, k0, k1, he, hs, _⟩ := look_cases hn hl
    exact absurd (by rw [he]; exact hs) (h k k0 k1)
theorem look_get (m : Mem) (t s : Int) : (get m t s).2.2 = (look m t s).isSome := by
  unfold look
  cases (get m t s).2.2 <;> rfl
theorem look_ent {m : Mem} {t s : Int} {e : Ent} (h : look m t s = some e) : (get m t s).1 = e := by
  unfold look at h
  split at h
  · exact Option.some.inj h
  · cases h

/-- Another table with the same in it. -/
theorem probe_congr {m m' : Mem} {t t' : Int} (hs : slots m' t' = slots m t) (hr : ∀ k, 0 ≤ k → k < slots m t → (read m' t' k).sel = (read m t k).sel) (s : Int) : probe m' t' s = probe m t s := by
  have hb := slots_bd m t
  unfold probe
  rw [hs]
  by_cases h0 : slots m t = 0
  · rw [h0]; rfl
  · generalize (slots m t).toNat = k
    generalize (0 : Int) = i
    induction k generalizing i with
    | zero => rfl
    | succ k ih =>
      have := hr ((home s (slots m t) + i) % slots m t) (Int.emod_nonneg _ h0) (Int.emod_lt_of_pos _ (by omega))
      rw [probeN, probeN, this, ih]
theorem get_congr {m m' : Mem} {t t' : Int} (hs : slots m' t' = slots m t) (hr : ∀ k, 0 ≤ k → k < slots m t → read m' t' k = read m t k) (s : Int) : get m' t' s = get m t s := by
  unfold get
  rw [probe_congr hs (fun k h0 h1 => by rw [hr k h0 h1]) s]
  have hb := probe_bd m t s
  by_cases h1 : (probe m t s).1 < 0 ∨ s < 1
  · rw [if_pos h1, if_pos h1]
  · rw [if_neg h1, if_neg h1, hr _ (by omega) (by omega)]
theorem look_congr {m m' : Mem} {t t' : Int} (hs : slots m' t' = slots m t) (hr : ∀ k, 0 ≤ k → k < slots m t → read m' t' k = read m t k) (s : Int) : look m' t' s = look m t s := by
  unfold look
  rw [get_congr hs hr s]
theorem fine_congr {m m' : Mem} {t t' n : Int} (hs : slots m' t' = slots m t) (hr : ∀ k, 0 ≤ k → k < slots m t → read m' t' k = read m t k) (h : Fine m t n) : Fine m' t' n := by
  obtain ⟨h1, h2, h3⟩ := h
  refine ⟨by rw [hs, h1], h2, fun k k0 k1 => ?_⟩
  rw [hr k k0 (by omega), probe_congr hs (fun k h0 h1 => by rw [hr k h0 h1])]
  exact h3 k k0 k1
theorem slots_of {m : Mem} {t n : Int} (hc : m.cell t = (n, 0)) (n1 : 1 ≤ n) (n2 : n ≤ 1024) (h : t + (2 + n * 3) * 8 ≤ m.size) : slots m t = n := by
  have h0 : m.at_ t = 0 := by rw [← Mem.cell_ok, hc]
  rw [Mem.at_zero] at h0
  unfold slots
  rw [hc]
  simp only
  rw [if_neg (by omega), Mem.text_code _ _ _ (by rw [Mem.has_iff]; omega)]
  rfl
theorem slots_cell {m : Mem} {t n : Int} (h : slots m t = n) (n1 : 1 ≤ n) : m.cell t = (n, 0) := by
  unfold slots at h
  split at h
  · omega
  · rename_i h1
    split at h
    · omega
    · have : (m.cell t).2 = 0 := by omega
      rw [← h, ← this]
/-- The cells of a table tell what is in it. -/
theorem slots_frame {m m' : Mem} {t : Int} (hz : m'.size = m.size) (h1 : 1 ≤ slots m t) (hc : ∀ a, t ≤ a → a < t + (2 + slots m t * 3) * 8 → m'.cell a = m.cell a) : slots m' t = slots m t := by
  have hb := slots_bd m t
  have hi := slots_in m t (by omega)
  refine slots_of ?_ h1 hb.2 (by rw [hz]; exact hi.2.2)
  rw [hc t (Int.le_refl _) (by omega)]
  exact slots_cell rfl h1
theorem read_frame {m m' : Mem} {t n k : Int} (k0 : 0 ≤ k) (k1 : k < n) (hc : ∀ a, t ≤ a → a < t + (2 + n * 3) * 8 → m'.cell a = m.cell a) : read m' t k = read m t k := by
  unfold read pos
  rw [hc _ (by omega) (by omega), hc _ (by omega) (by omega), hc _ (by omega) (by omega)]

/-- The selectors that stand in a table. -/
def used (m : Mem) (t n : Int) : List Int := ((List.range n.toNat).filter (fun (k : Nat) => (read m t k).sel ≠ 0)).map (fun (k : Nat) => (read m t k).sel)
theorem used_mem {m : Mem} {t n : Int} (h : Fine m t n) (s : Int) : s ∈ used m t n ↔ (look m t s).isSome = true := by
  unfold used
  constructor
  · intro hm
    rw [List.mem_map] at hm
    obtain ⟨k, hk, he⟩ := hm
    rw [List.mem_filter, List.mem_range] at hk
    have hk2 := of_decide_eq_true hk.2
    have := h.2.2 k (by omega) (by omega) hk2
    rw [look_some h k s (by omega) (by omega) he (by omega)]
    rfl
  · intro hl
    obtain ⟨e, he⟩ := Option.isSome_iff_exists.1 hl
    obtain ⟨k, k0, k1, hr, hs, s1⟩ := look_cases h.1 he
    rw [List.mem_map]
    refine ⟨k.toNat, ?_, ?_⟩
    · rw [List.mem_filter, List.mem_range]
      refine ⟨by omega, ?_⟩
      rw [show ((k.toNat : Nat) : Int) = k by omega, hr]
      exact decide_eq_true (by omega)
    · rw [show ((k.toNat : Nat) : Int) = k by omega, hr, hs]
theorem used_nodup {m : Mem} {t n : Int} (h : Fine m t n) : (used m t n).Nodup := by
  unfold used
  have hf : ((List.range n.toNat).filter (fun (k : Nat) => (read m t k).sel ≠ 0)).Nodup := List.Nodup.sublist List.filter_sublist List.nodup_range
  rw [List.nodup_iff_pairwise_ne, List.pairwise_map]
  refine List.Pairwise.imp_of_mem ?_ hf
  intro a b ha hb hab e
  rw [List.mem_filter, List.mem_range] at ha hb
  have h1 := (h.2.2 a (by omega) (by omega) (of_decide_eq_true ha.2)).2
  have h2 := (h.2.2 b (by omega) (by omega) (of_decide_eq_true hb.2)).2
  rw [e, h2] at h1
  omega
theorem filter_lt {α : Type} (p : α → Bool) (l : List α) (x : α) (hx : x ∈ l) (hp : p x = false) : (l.filter p).length < l.length := by
  induction l with
  | nil => cases hx
  | cons a l ih =>
    rw [List.filter_cons]
    have hle := List.length_filter_le p l
    rcases List.mem_cons.1 hx with rfl | h
    · rw [hp, List.length_cons]
      simp only [Bool.false_eq_true, if_false]
      omega
    · have := ih h
      split <;> simp only [List.length_cons] <;> omega
theorem may_iff {m : Mem} {t n : Int} (h : Fine m t n) (s : Int) (s1 : 1 ≤ s) : may m t s = true ↔ (look m t s).isSome = true ∨ (used m t n).length < n := by
  have hlen : (used m t n).length = ((List.range n.toNat).filter (fun (k : Nat) => (read m t k).sel ≠ 0)).length := by unfold used; rw [List.length_map]
  have hmay : may m t s = true ↔ 0 ≤ (probe m t s).1 := by
    unfold may
    simp only [Bool.and_eq_true, decide_eq_true_eq]
    omega
  rw [hmay, hlen]
  rcases probe_spec m t s n h.1 with ⟨h1, h2⟩ | ⟨j, hj, j0, j1, hm, hb⟩
  · rw [look_none h.1 (fun k k0 k1 => (h2 k k0 k1).1)]
    have : (List.range n.toNat).filter (fun (k : Nat) => (read m t k).sel ≠ 0) = List.range n.toNat := by
      rw [List.filter_eq_self]
      intro k hk
      rw [List.mem_range] at hk
      exact decide_eq_true (h2 k (by omega) (by omega)).2
    rw [this, List.length_range]
    simp
    omega
  · have hr0 := Int.emod_nonneg (home s n + j) (show n ≠ 0 by omega)
    have hr1 := Int.emod_lt_of_pos (home s n + j) (show 0 < n by omega)
    rw [hj]
    refine ⟨fun _ => ?_, fun _ => hr0⟩
    rcases hm with hm | hm
    · left
      rw [look_some h _ s hr0 hr1 hm s1]
      rfl
    · right
      have := filter_lt (fun (k : Nat) => decide ((read m t k).sel ≠ 0)) (List.range n.toNat) ((home s n + j) % n).toNat (by rw [List.mem_range]; omega) (by
        rw [show ((((home s n + j) % n).toNat : Nat) : Int) = (home s n + j) % n by omega]
        exact decide_eq_false (by intro h; exact h hm))
      rw [List.length_range] at this
      omega

/-- A table in which one slot holds an entry of the selector that a probe found it for. -/
theorem put_fine {m m' : Mem} {t n r : Int} {x : Ent} (h : Fine m t n) (hs : slots m' t = n) (x1 : 1 ≤ x.sel) (hr : (probe m t x.sel).1 = r) (r0 : 0 ≤ r) (hx : read m' t r = x)
    (ho : ∀ k, 0 ≤ k → k < n → k ≠ r → read m' t k = read m t k) : Fine m' t n ∧ ∀ s, look m' t s = if s = x.sel then some x else look m t s := by
  have hn := h.2.1
  have hb := probe_bd m t x.sel
  have hr1 : r < n := by have := h.1; omega
  have fine : Fine m' t n := by
    refine ⟨hs, hn, fun k k0 k1 hk => ?_⟩
    rcases probe_spec m t x.sel n h.1 with ⟨h1, h2⟩ | ⟨i, hi, i0, i1, hm, hbi⟩
    · omega
    by_cases hkr : k = r
    · subst hkr
      rw [hx]
      refine ⟨x1, ?_⟩
      rw [hr] at hi
      rw [hi]
      refine probe_hit m' t x.sel n i hs ⟨i0, i1, .inl (by simp only; rw [← hi, hx]), fun j j0 j1 => ?_⟩
      have := hbi j j0 j1
      have hne : (home x.sel n + j) % n ≠ k := by
        rw [hi]
        intro e
        have := round_one n (home x.sel n) j i j0 (by omega) i0 i1 e
        omega
      simp only at this ⊢
      rw [ho _ (Int.emod_nonneg _ (by omega)) (Int.emod_lt_of_pos _ (by omega)) hne]
      exact this
    · rw [ho k k0 k1 hkr] at hk ⊢
      obtain ⟨k2, k3⟩ := h.2.2 k k0 k1 hk
      refine ⟨k2, ?_⟩
      have hne : (read m t k).sel ≠ x.sel := by intro e; rw [e, hr] at k3; omega
      rcases probe_spec m t (read m t k).sel n h.1 with ⟨h1, h2⟩ | ⟨j, hj, j0, j1, hmj, hbj⟩
      · omega
      · rw [k3] at hj
        conv => rhs; rw [hj]
        refine probe_hit m' t _ n j hs ⟨j0, j1, .inl (by simp only; rw [← hj, ho k k0 k1 hkr]), fun i' a0 a1 => ?_⟩
        have := hbj i' a0 a1
        simp only at this ⊢
        by_cases hir : (home (read m t k).sel n + i') % n = r
        · rw [hir, hx]
          exact ⟨fun e => hne e.symm, by omega⟩
        · rw [ho _ (Int.emod_nonneg _ (by omega)) (Int.emod_lt_of_pos _ (by omega)) hir]
          exact this
  refine ⟨fine, fun s => ?_⟩
  by_cases hsx : s = x.sel
  · rw [if_pos hsx, hsx, look_some fine r x.sel r0 hr1 (by rw [hx]) x1, hx]
  · rw [if_neg hsx]
    cases hl : look m t s with
    | some e =>
      obtain ⟨k, k0, k1, he, hse, s1⟩ := look_cases h.1 hl
      by_cases hkr : k = r
      · exfalso
        subst hkr
        have := (h.2.2 k k0 k1 (by rw [he]; omega)).2
        rcases probe_spec m t x.sel n h.1 with ⟨h1, h2⟩ | ⟨i, hi, i0, i1, hm, hbi⟩
        · omega
        · simp only at hm
          rw [← hi, hr, he] at hm
          omega
      · rw [look_some fine k s k0 k1 (by rw [ho k k0 k1 hkr, he]; exact hse) s1, ho k k0 k1 hkr, he]
    | none =>
      by_cases s1 : s < 1
      · exact look_low _ _ _ s1
      apply look_none fine.1
      intro k k0 k1 hk
      by_cases hkr : k = r
      · subst hkr; rw [hx] at hk; exact hsx hk.symm
      · rw [ho k k0 k1 hkr] at hk
        rw [look_some h k s k0 k1 hk (by omega)] at hl
        cases hl
end Tab
end Go.Proofs.Shed
set_option linter.unusedVariables false
set_option linter.unusedSimpArgs false
namespace Go.Proofs.Shed
/-- 64 bits, signed. -/
def In64 (n : Int) : Prop := -9223372036854775808 ≤ n ∧ n ≤ 9223372036854775807
namespace Mem
/-- Numbers, from a place on. -/
def wcells (m : Mem) (a : Int) : List Int → Mem
  | [] => m
  | n :: l => wcells (m.setCell a n).1 (a + 8) l
theorem wcells_size (m : Mem) (a : Int) (l : List Int) : (m.wcells a l).size = m.size := by
  induction l generalizing m a with
  | nil => rfl
  | cons n l ih => rw [wcells, ih, setCell_size]
theorem wcells_out (m : Mem) (a : Int) (l : List Int) (b : Int) (h : b < a ∨ a + 8 * l.length ≤ b) : (m.wcells a l).cell b = m.cell b := by
  induction l generalizing m a with
  | nil => rfl
  | cons n l ih =>
    rw [List.length_cons] at h
    rw [wcells, ih _ _ (by omega), cell_set_apart _ _ _ _ (by omega)]
theorem wcells_in (m : Mem) (a : Int) (l : List Int) (a8 : a % 8 = 0) (a0 : 0 ≤ a) (ha : a + 8 * l.length ≤ m.size) (hb : ∀ n ∈ l, In64 n) (j : Nat) (hj : j < l.length) : (m.wcells a l).cell (a + 8 * j) = (l[j], 0) := by
  induction l generalizing m a j with
  | nil => cases hj
  | cons n l ih =>
    rw [List.length_cons] at ha hj
    rw [wcells]
    cases j with
    | zero =>
      rw [wcells_out _ _ _ _ (by omega)]
      have := hb n (by simp)
      simp only [Int.natCast_zero, Int.mul_zero, Int.add_zero, List.getElem_cons_zero]
      exact cell_set_same _ _ _ (by rw [at_zero]; omega) this.1 this.2
    | succ j =>
      rw [show a + 8 * ((j + 1 : Nat) : Int) = a + 8 + 8 * j by omega]
      rw [ih _ _ (by omega) (by omega) (by rw [setCell_size]; omega) (fun n hn => hb n (by simp [hn])) j (by omega)]
      rfl
end Mem
namespace Sp
/-- Numbers behind the end. -/
def wr (x : Sp) (l : List Int) : Sp := ⟨x.mem.wcells x.here l, x.lo, x.to, x.here + 8 * l.length⟩
/-- Aligned, with a memory. -/
structure Al (x : Sp) : Prop where
  ok : x.Ok
  al : x.here % 8 = 0
theorem wr_nil (x : Sp) : x.wr [] = x := by unfold wr; simp [Mem.wcells]
theorem wr_cons (x : Sp) (n : Int) (l : List Int) : x.wr (n :: l) = (x.wr [n]).wr l := by
  unfold wr
  simp only [Mem.wcells, List.length_cons, List.length_nil]
  congr 1
  omega
theorem Al.wr {x : Sp} (h : x.Al) {l : List Int} (hr : x.here + 8 * l.length ≤ x.to) : (x.wr l).Al := by
  obtain ⟨⟨h1, h2, h3, h4⟩, h5⟩ := h
  refine ⟨⟨h1, ?_, hr, ?_⟩, ?_⟩
  · show x.lo ≤ x.here + 8 * l.length; omega
  · show x.to ≤ (x.mem.wcells x.here l).size; rw [Mem.wcells_size]; exact h4
  · show (x.here + 8 * l.length) % 8 = 0; omega
theorem align_al {x : Sp} (h : x.here % 8 = 0) : x.align = (x, 0) := by
  unfold align alignN
  rw [if_pos h]
theorem comma_room {x : Sp} (h : x.Al) (hr : x.here + 8 ≤ x.to) (n : Int) : x.comma n = (x.wr [n], 0) := by
  obtain ⟨⟨h1, h2, h3, h4⟩, h5⟩ := h
  have ha : x.mem.at_ x.here = 0 := by rw [Mem.at_zero]; omega
  unfold comma put
  rw [if_pos (by omega), Mem.setCell_code, if_neg (by omega)]
  unfold allot
  simp only
  rw [if_neg (by omega)]
  rfl
theorem comma_full {x : Sp} (hr : ¬ x.here + 8 ≤ x.to) (n : Int) : x.comma n = (x, -8) := by
  unfold comma put
  rw [if_neg (by omega)]
  unfold allot
  rw [if_pos (by omega)]
end Sp
namespace Iface
theorem cells_err (l : List Int) (x : Sp) (e : Int) (h : e ≠ 0) : cells l (x, e) = (x, e) := by
  induction l with
  | nil => rfl
  | cons n l ih => rw [cells, if_neg h, ih]
theorem cells_room (l : List Int) {x : Sp} (h : x.Al) (hr : x.here + 8 * l.length ≤ x.to) : cells l (x, 0) = (x.wr l, 0) := by
  induction l generalizing x with
  | nil => rw [Sp.wr_nil]; rfl
  | cons n l ih =>
    rw [List.length_cons] at hr
    rw [cells, if_pos rfl]
    simp only
    have h8 : (x.wr [n]).here = x.here + 8 := by show x.here + 8 * _ = _; simp
    have hto : (x.wr [n]).to = x.to := rfl
    rw [Sp.comma_room h (by omega), Sp.wr_cons x n l]
    exact ih (h.wr (l := [n]) (by rw [List.length_cons, List.length_nil]; omega)) (by rw [h8, hto]; omega)
theorem cells_full (l : List Int) {x : Sp} (h : x.Al) (hr : ¬ x.here + 8 * l.length ≤ x.to) : ∃ y : Sp, cells l (x, 0) = (y, -8) ∧ y.mem.size = x.mem.size ∧ y.lo = x.lo ∧ y.to = x.to ∧ x.here ≤ y.here ∧ y.here ≤ y.to ∧ ∀ b, (b < x.here ∨ x.to ≤ b) → y.mem.cell b = x.mem.cell b := by
  induction l generalizing x with
  | nil => exfalso; have := h.ok.2.2.1; simp at hr; omega
  | cons n l ih =>
    rw [List.length_cons] at hr
    rw [cells, if_pos rfl]
    simp only
    by_cases h1 : x.here + 8 ≤ x.to
    · have h8 : (x.wr [n]).here = x.here + 8 := by show x.here + 8 * _ = _; simp
      have hto : (x.wr [n]).to = x.to := rfl
      rw [Sp.comma_room h h1]
      obtain ⟨y, e, y1, y2, y3, y4, y6, y5⟩ := ih (h.wr (l := [n]) (by rw [List.length_cons, List.length_nil]; omega)) (by rw [h8, hto]; omega)
      refine ⟨y, e, ?_, y2, y3, by omega, y6, fun b hb => ?_⟩
      · rw [y1]; exact Mem.wcells_size _ _ _
      · rw [y5 b (by omega)]
        exact Mem.wcells_out _ _ _ _ (by simp only [List.length_cons, List.length_nil]; omega)
    · rw [Sp.comma_full h1, cells_err _ _ _ (by decide)]
      exact ⟨x, rfl, rfl, rfl, rfl, Int.le_refl _, h.ok.2.2.1, fun _ _ => rfl⟩
end Iface
namespace Class
theorem cells_room (l : List Int) {x : Sp} (h : x.Al) (hr : x.here + 8 * l.length ≤ x.to) (a : Int) : make5.cells x l a = (x.wr l, a, 0) := by
  induction l generalizing x with
  | nil => rw [Sp.wr_nil]; rfl
  | cons n l ih =>
    rw [List.length_cons] at hr
    rw [make5.cells]
    have h8 : (x.wr [n]).here = x.here + 8 := by show x.here + 8 * _ = _; simp
    have hto : (x.wr [n]).to = x.to := rfl
    rw [Sp.comma_room h (by omega), if_neg (by simp), Sp.wr_cons x n l]
    exact ih (h.wr (l := [n]) (by rw [List.length_cons, List.length_nil]; omega)) (by rw [h8, hto]; omega)
end Class
namespace Tab
def zeros (slots : Int) (k : Nat) (i : Int) : List Int := (List.range k).map fun (j : Nat) => if i + j = 0 then slots else 0
theorem zeros_len (slots : Int) (k : Nat) (i : Int) : (zeros slots k i).length = k := by simp [zeros]
theorem zeros_succ (slots : Int) (k : Nat) (i : Int) : zeros slots (k + 1) i = (if i = 0 then slots else 0) :: zeros slots k (i + 1) := by
  unfold zeros
  rw [List.range_succ_eq_map, List.map_cons, List.map_map]
  congr 1
  · simp
  · apply List.map_congr_left
    intro j _
    show (if i + ((j + 1 : Nat) : Int) = 0 then slots else 0) = _
    rw [show i + ((j + 1 : Nat) : Int) = i + 1 + j by omega]
theorem newN_room (slots : Int) (k : Nat) (i : Int) {x : Sp} (h : x.Al) (hr : x.here + 8 * k ≤ x.to) : newN slots k i x = (x.wr (zeros slots k i), 0) := by
  induction k generalizing x i with
  | zero => rw [newN]; show (x, 0) = (x.wr [], 0); rw [Sp.wr_nil]
  | succ k ih =>
    rw [newN, zeros_succ]
    generalize (if i = 0 then slots else 0) = n
    have h8 : (x.wr [n]).here = x.here + 8 := by show x.here + 8 * _ = _; simp
    have hto : (x.wr [n]).to = x.to := rfl
    rw [Sp.comma_room h (by omega), if_neg (by simp), Sp.wr_cons x n (zeros slots k (i + 1))]
    exact ih _ (h.wr (l := [n]) (by rw [List.length_cons, List.length_nil]; omega)) (by rw [h8, hto]; omega)
/-- A table that is new: nothing is in it. -/
theorem new_law {x : Sp} (h : x.Al) (slots : Int) (s1 : 1 ≤ slots) (s2 : slots ≤ 1024) (hr : x.here + (2 + slots * 3) * 8 ≤ x.to) :
    ∃ y : Sp, new x slots = (y, x.here, 0) ∧ y.Al ∧ y.lo = x.lo ∧ y.to = x.to ∧ y.here = x.here + (2 + slots * 3) * 8 ∧ y.mem.size = x.mem.size ∧
      (∀ b, (b < x.here ∨ y.here ≤ b) → y.mem.cell b = x.mem.cell b) ∧ Fine y.mem x.here slots ∧ ∀ s, look y.mem x.here s = none := by
  have hk : ((2 + slots * 3).toNat : Int) = 2 + slots * 3 := by omega
  obtain ⟨⟨o1, o2, o3, o4⟩, o5⟩ := h
  have hrr : x.here + 8 * ((2 + slots * 3).toNat : Int) ≤ x.to := by omega
  have hN := newN_room slots (2 + slots * 3).toNat 0 ⟨⟨o1, o2, o3, o4⟩, o5⟩ hrr
  have hlen := zeros_len slots (2 + slots * 3).toNat 0
  have hin : ∀ j, 0 ≤ j → j < 2 + slots * 3 → (x.wr (zeros slots (2 + slots * 3).toNat 0)).mem.cell (x.here + 8 * j) = (if j = 0 then slots else 0, 0) := by
    intro j j0 j1
    have := Mem.wcells_in x.mem x.here (zeros slots (2 + slots * 3).toNat 0) o5 (by omega) (by rw [hlen]; omega) (by
      intro n hn
      unfold zeros at hn
      rw [List.mem_map] at hn
      obtain ⟨i, _, rfl⟩ := hn
      unfold In64
      split <;> omega) j.toNat (by rw [hlen]; omega)
    rw [show ((j.toNat : Nat) : Int) = j by omega] at this
    show (x.mem.wcells x.here _).cell _ = _
    rw [this]
    unfold zeros
    rw [List.getElem_map, List.getElem_range, show (0 : Int) + ((j.toNat : Nat) : Int) = j by omega]
  refine ⟨x.wr (zeros slots (2 + slots * 3).toNat 0), ?_, Sp.Al.wr ⟨⟨o1, o2, o3, o4⟩, o5⟩ (by rw [hlen]; exact hrr), rfl, rfl, ?_, Mem.wcells_size _ _ _, fun b hb => Mem.wcells_out _ _ _ _ hb, ?_⟩
  · unfold new
    rw [if_neg (by omega), Sp.align_al o5, if_neg (by simp)]
    simp only
    rw [hN, if_neg (by simp)]
  · show x.here + 8 * ((zeros slots (2 + slots * 3).toNat 0).length : Int) = _
    rw [hlen]; omega
  · have hz : (x.wr (zeros slots (2 + slots * 3).toNat 0)).mem.size = x.mem.size := Mem.wcells_size _ _ _
    generalize x.wr (zeros slots (2 + slots * 3).toNat 0) = y at hin hN hz
    have hsl : Tab.slots y.mem x.here = slots := by
      refine slots_of ?_ s1 s2 (by rw [hz]; omega)
      have := hin 0 (by omega) (by omega)
      simpa using this
    have hrd : ∀ k, 0 ≤ k → k < slots → (read y.mem x.here k).sel = 0 := by
      intro k k0 k1
      unfold read pos
      have := hin (2 + k * 3) (by omega) (by omega)
      rw [show x.here + (2 + k * 3) * 8 = x.here + 8 * (2 + k * 3) by omega, this, if_neg (by omega)]
    refine ⟨⟨hsl, s1, fun k k0 k1 hk => absurd (hrd k k0 k1) hk⟩, fun s => ?_⟩
    by_cases hs : s < 1
    · exact look_low _ _ _ hs
    · exact look_none hsl fun k k0 k1 => by rw [hrd k k0 k1]; omega
theorem pos_in {m : Mem} {t n : Int} (hn : slots m t = n) (n1 : 1 ≤ n) (k j : Int) (k0 : 0 ≤ k) (k1 : k < n) (j0 : 0 ≤ j) (j1 : j < 3) : m.at_ (pos t k + 8 * j) = 0 := by
  have := slots_in m t (by omega)
  rw [hn] at this
  rw [Mem.at_zero]
  unfold pos
  omega
/-- What was put is found, and the rest is as before. -/
theorem put_law {m : Mem} {t n : Int} (h : Fine m t n) (x : Ent) (x1 : 1 ≤ x.sel) (b1 : In64 x.sel) (b2 : In64 x.xt) (b3 : In64 x.cls) (hm : may m t x.sel = true) :
    (put m t x).2 = 0 ∧ (put m t x).1.size = m.size ∧ (∀ a, (a < t + 8 ∨ t + (2 + n * 3) * 8 ≤ a) → (put m t x).1.cell a = m.cell a) ∧
      Fine (put m t x).1 t n ∧ ∀ s, look (put m t x).1 t s = if s = x.sel then some x else look m t s := by
  have hn := h.1
  have n1 := h.2.1
  have hi := slots_in m t (by omega)
  rw [hn] at hi
  have r0 : 0 ≤ (probe m t x.sel).1 := by
    unfold may at hm
    rw [Bool.and_eq_true, decide_eq_true_eq] at hm
    exact hm.1
  have r1 : (probe m t x.sel).1 < n := by
    have := probe_bd m t x.sel
    omega
  obtain ⟨r, hr⟩ : ∃ r, (probe m t x.sel).1 = r := ⟨_, rfl⟩
  have hput : put m t x = ((((((bump m t r).setCell (pos t r) x.sel).1).setCell (pos t r + 8) x.xt).1.setCell (pos t r + 16) x.cls).1, 0) := by
    unfold put
    rw [if_neg (by omega), hr, if_neg (by omega)]
  rw [hr] at r0 r1
  rw [hput]
  simp only
  have hbz : (bump m t r).size = m.size := by unfold bump; split; exact Mem.setCell_size _ _ _; rfl
  have hbc : ∀ a, a ≠ t + 8 → (bump m t r).cell a = m.cell a := by
    intro a ha
    unfold bump
    split
    · exact Mem.cell_set_apart _ _ _ _ ha
    · rfl
  have hp : pos t r = t + (2 + r * 3) * 8 := rfl
  have hz : ((((bump m t r).setCell (pos t r) x.sel).1.setCell (pos t r + 8) x.xt).1.setCell (pos t r + 16) x.cls).1.size = m.size := by
    rw [Mem.setCell_size, Mem.setCell_size, Mem.setCell_size, hbz]
  have hout : ∀ a, a ≠ t + 8 → a ≠ pos t r → a ≠ pos t r + 8 → a ≠ pos t r + 16 → ((((bump m t r).setCell (pos t r) x.sel).1.setCell (pos t r + 8) x.xt).1.setCell (pos t r + 16) x.cls).1.cell a = m.cell a := by
    intro a a1 a2 a3 a4
    rw [Mem.cell_set_apart _ _ _ _ a4, Mem.cell_set_apart _ _ _ _ a3, Mem.cell_set_apart _ _ _ _ a2, hbc a a1]
  have hat : ∀ j, 0 ≤ j → j < 3 → (bump m t r).at_ (pos t r + 8 * j) = 0 := by
    intro j j0 j1
    rw [Mem.at_size hbz]
    exact pos_in hn n1 r j r0 r1 j0 j1
  have hc0 : ((((bump m t r).setCell (pos t r) x.sel).1.setCell (pos t r + 8) x.xt).1.setCell (pos t r + 16) x.cls).1.cell (pos t r) = (x.sel, 0) := by
    rw [Mem.cell_set_apart _ _ _ _ (by omega), Mem.cell_set_apart _ _ _ _ (by omega)]
    exact Mem.cell_set_same _ _ _ (by have := hat 0 (by omega) (by omega); simpa using this) b1.1 b1.2
  have hc1 : ((((bump m t r).setCell (pos t r) x.sel).1.setCell (pos t r + 8) x.xt).1.setCell (pos t r + 16) x.cls).1.cell (pos t r + 8) = (x.xt, 0) := by
    rw [Mem.cell_set_apart _ _ _ _ (by omega)]
    exact Mem.cell_set_same _ _ _ (by rw [Mem.setCell_at]; have := hat 1 (by omega) (by omega); simpa using this) b2.1 b2.2
  have hc2 : ((((bump m t r).setCell (pos t r) x.sel).1.setCell (pos t r + 8) x.xt).1.setCell (pos t r + 16) x.cls).1.cell (pos t r + 16) = (x.cls, 0) :=
    Mem.cell_set_same _ _ _ (by rw [Mem.setCell_at, Mem.setCell_at]; have := hat 2 (by omega) (by omega); simpa using this) b3.1 b3.2
  generalize ((((bump m t r).setCell (pos t r) x.sel).1.setCell (pos t r + 8) x.xt).1.setCell (pos t r + 16) x.cls).1 = m' at hz hout hc0 hc1 hc2
  have hsl : slots m' t = n := by
    refine slots_of ?_ n1 (by have := slots_bd m t; omega) (by omega)
    rw [hout t (by omega) (by omega) (by omega) (by omega)]
    exact slots_cell hn n1
  have hrd : read m' t r = x := by
    unfold read
    rw [hc0, hc1, hc2]
  have hro : ∀ k, 0 ≤ k → k < n → k ≠ r → read m' t k = read m t k := by
    intro k k0 k1 hk
    unfold read
    have e : pos t k = t + (2 + k * 3) * 8 := rfl
    rw [hout (pos t k) (by omega) (by omega) (by omega) (by omega), hout (pos t k + 8) (by omega) (by omega) (by omega) (by omega), hout (pos t k + 16) (by omega) (by omega) (by omega) (by omega)]
  exact ⟨trivial, hz, fun a ha => hout a (by omega) (by omega) (by omega) (by omega), put_fine h hsl x1 hr r0 hrd hro⟩
/-- A table that is a copy: the same is in it. -/
theorem copy_law {x : Sp} (h : x.Al) {t n : Int} (ht : Fine x.mem t n) (hlo : t + (2 + n * 3) * 8 ≤ x.here) (hr : x.here + (2 + n * 3) * 8 ≤ x.to) :
    ∃ y : Sp, copy x t = (y, x.here, 0) ∧ y.Al ∧ y.lo = x.lo ∧ y.to = x.to ∧ y.here = x.here + (2 + n * 3) * 8 ∧ y.mem.size = x.mem.size ∧
      (∀ b, (b < x.here ∨ y.here ≤ b) → y.mem.cell b = x.mem.cell b) ∧ Fine y.mem x.here n ∧ ∀ s, look y.mem x.here s = look x.mem t s := by
  have n2 := slots_bd x.mem t
  have hn := ht.1
  have n1 := ht.2.1
  have hin := slots_in x.mem t (by omega)
  rw [hn] at hin n2
  obtain ⟨y, e, hy, y1, y2, y3, y4, y5, y6, y7⟩ := new_law h n n1 n2.2 hr
  have h1 := h.ok.1
  have h2 := h.ok.2.1
  have h4 := h.ok.2.2.2
  have hx8 := h.al
  have hht : y.mem.has t ((2 + n * 3) * 8) = true := by rw [Mem.has_iff]; omega
  have hhu : y.mem.has x.here ((2 + n * 3) * 8) = true := by rw [Mem.has_iff]; omega
  have hcode := Mem.copy_code y.mem t x.here _ hht hhu
  have hci := fun i h0 h1 h8 => Mem.copy_in y.mem t x.here ((2 + n * 3) * 8) i hht hhu hin.2.1 hx8 h8 h0 h1
  have hco := fun b hb => Mem.copy_out y.mem t x.here ((2 + n * 3) * 8) b hht hb
  have hcz : (y.mem.setText x.here (y.mem.text t ((2 + n * 3) * 8)).1).1.size = y.mem.size := Mem.setText_size _ _ _
  have hcopy : copy x t = ({ y with mem := (y.mem.setText x.here (y.mem.text t ((2 + n * 3) * 8)).1).1 }, x.here, 0) := by
    unfold copy
    rw [hn, e, if_neg (by simp)]
    simp only
    rw [hcode]
  generalize (y.mem.setText x.here (y.mem.text t ((2 + n * 3) * 8)).1).1 = m' at hci hco hcz hcopy
  have hcell : ∀ i, 0 ≤ i → i + 8 ≤ (2 + n * 3) * 8 → i % 8 = 0 → m'.cell (x.here + i) = x.mem.cell (t + i) := by
    intro i i0 i1 i8
    rw [hci i i0 i1 i8, y5 _ (.inl (by omega))]
  have hsl : slots m' x.here = slots x.mem t := by
    rw [hn]
    refine slots_of ?_ n1 n2.2 (by omega)
    have := hcell 0 (by omega) (by omega) (by omega)
    rw [Int.add_zero, Int.add_zero] at this
    rw [this]
    exact slots_cell hn n1
  have hrd : ∀ k, 0 ≤ k → k < slots x.mem t → read m' x.here k = read x.mem t k := by
    intro k k0 k1
    rw [hn] at k1
    have e0 : ∀ j, pos x.here k + j = x.here + ((2 + k * 3) * 8 + j) := by intro j; unfold pos; omega
    have e1 : ∀ j, pos t k + j = t + ((2 + k * 3) * 8 + j) := by intro j; unfold pos; omega
    have c : ∀ j, 0 ≤ j → j ≤ 16 → j % 8 = 0 → m'.cell (pos x.here k + j) = x.mem.cell (pos t k + j) := by
      intro j j0 j1 j8
      rw [e0, e1]
      exact hcell _ (by omega) (by omega) (by omega)
    have c0 := c 0 (by omega) (by omega) (by omega)
    rw [Int.add_zero, Int.add_zero] at c0
    unfold read
    rw [c0, c 8 (by omega) (by omega) (by omega), c 16 (by omega) (by omega) (by omega)]
  refine ⟨_, hcopy, ⟨⟨?_, ?_, ?_, ?_⟩, ?_⟩, y1, y2, y3, ?_, ?_, fine_congr hsl hrd ht, look_congr hsl hrd⟩
  · exact hy.ok.1
  · exact hy.ok.2.1
  · exact hy.ok.2.2.1
  · show y.to ≤ m'.size; rw [hcz]; exact hy.ok.2.2.2
  · exact hy.al
  · show m'.size = _; rw [hcz, y4]
  · intro b hb
    show m'.cell b = _
    by_cases h8 : b + 8 ≤ x.here
    · rw [hco b (.inl h8), y5 b hb]
    · by_cases hbu : y.here ≤ b
      · rw [hco b (.inr (by omega)), y5 b (.inr hbu)]
      have hb : b < x.here := hb.resolve_right hbu
      have hb8 : b % 8 ≠ 0 := by omega
      have : x.mem.at_ b ≠ 0 := by rw [Ne, Mem.at_zero]; omega
      have e2 : m'.at_ b = x.mem.at_ b := Mem.at_size (by rw [hcz, y4]) b
      rw [Mem.cell_bad _ _ this, Mem.cell_bad m' b (by rw [e2]; exact this), e2]
end Tab
end Go.Proofs.Shed
set_option linter.unusedVariables false
set_option linter.unusedSimpArgs false
namespace Go.Proofs.Shed
namespace Ref
theorem get_of (L : List RCls) (c : Nat) (h : c < L.length) : L[c] = get L c := (get_at L c h).symm
theorem walkGo (L : List RCls) (h : Ok L) (c : Nat) (sel : Int) (hc : c < L.length) : walk L c sel = match own (get L c).own sel with
    | some xt => some (xt, (c : Int))
    | none => walk L (get L c).parent sel := by rw [walk_step L h c sel hc, get_of]; rfl
theorem heir_go (L : List RCls) (h : Ok L) (c : Nat) (o sel : Int) (hc : c < L.length) (ho : (c : Int) ≠ o) : heir L c o sel = match own (get L c).own sel with
    | some _ => false
    | none => heir L (get L c).parent o sel := by rw [heir_step L h c o sel hc ho, get_of]; rfl
theorem seenA_go (L : List RCls) (h : Ok L) (c : Nat) (all : List Int) (hc : c < L.length) : seenA L c all = seenA L (get L c).parent (addAll all (get L c).own) := by
  rw [seenA_step L h c all hc, get_of]
theorem par (L : List RCls) (h : Ok L) (c : Nat) (hc : c < L.length) : -1 ≤ (get L c).parent ∧ (get L c).parent < c := by
  have := h c hc
  rwa [get_of] at this
/-- Over all classes, a class's parent first. -/
theorem climb (L : List RCls) (h : Ok L) {P : Int → Prop} (h0 : P (-1)) (hs : ∀ c : Nat, c < L.length → P (get L c).parent → P c) (c : Int) (c0 : -1 ≤ c) (hc : c < L.length) : P c := by
  by_cases hn : c = -1
  · rw [hn]; exact h0
  · obtain ⟨k, rfl⟩ : ∃ k : Nat, c = k := ⟨c.toNat, by omega⟩
    induction k using Nat.strongRecOn with
    | _ k ih =>
      refine hs k (by omega) ?_
      have hp := par L h k (by omega)
      by_cases hn' : (get L k).parent = -1
      · rw [hn']; exact h0
      · have := ih (get L k).parent.toNat (by omega) (by omega) (by omega) (by omega)
        rwa [show (((get L k).parent.toNat : Nat) : Int) = (get L k).parent by omega] at this
theorem walkIn (L : List RCls) (h : Ok L) (sel : Int) (c : Int) (c0 : -1 ≤ c) (hc : c < L.length) : ∀ p, walk L c sel = some p → 0 ≤ p.2 ∧ p.2 ≤ c := by
  refine climb L h (P := fun c => ∀ p, walk L c sel = some p → 0 ≤ p.2 ∧ p.2 ≤ c) ?_ ?_ c c0 hc
  · intro p hp
    rw [walk_neg L (-1) sel (by omega)] at hp
    cases hp
  · intro k hk ih p hp
    have := par L h k hk
    rw [walkGo L h k sel hk] at hp
    cases ho : own (get L k).own sel with
    | some xt => rw [ho] at hp; cases hp; simp only; omega
    | none =>
      rw [ho] at hp
      have := ih p hp
      omega
theorem addAll_mem (l : List (Int × Int)) (all : List Int) (s : Int) : s ∈ addAll all l ↔ s ∈ all ∨ (own l s).isSome = true := by
  induction l generalizing all with
  | nil => simp [addAll, own]
  | cons p l ih =>
    rw [addAll, ih, own]
    by_cases hm : p.1 ∈ all
    · rw [if_pos hm]
      by_cases hp : p.1 = s
      · rw [if_pos hp]; subst hp; simp [hm]
      · rw [if_neg hp]
    · rw [if_neg hm]
      by_cases hp : p.1 = s
      · rw [if_pos hp]; subst hp; simp
      · rw [if_neg hp]
        simp only [List.mem_append, List.mem_singleton]
        constructor
        · rintro ((h | h) | h)
          · exact .inl h
          · exact absurd h.symm hp
          · exact .inr h
        · rintro (h | h)
          · exact .inl (.inl h)
          · exact .inr h
theorem addAll_nodup (l : List (Int × Int)) (all : List Int) (h : all.Nodup) : (addAll all l).Nodup := by
  induction l generalizing all with
  | nil => exact h
  | cons p l ih =>
    rw [addAll]
    apply ih
    split
    · exact h
    · rename_i hm
      rw [List.nodup_append]
      refine ⟨h, by simp, ?_⟩
      intro a ha b hb
      rw [List.mem_singleton] at hb
      subst hb
      intro e
      subst e
      exact hm ha
theorem seenA_spec (L : List RCls) (h : Ok L) (c : Int) (c0 : -1 ≤ c) (hc : c < L.length) : ∀ all : List Int, all.Nodup → (seenA L c all).Nodup ∧ ∀ s, s ∈ seenA L c all ↔ s ∈ all ∨ (walk L c s).isSome = true := by
  refine climb L h (P := fun c => ∀ all : List Int, all.Nodup → (seenA L c all).Nodup ∧ ∀ s, s ∈ seenA L c all ↔ s ∈ all ∨ (walk L c s).isSome = true) ?_ ?_ c c0 hc
  · intro all ha
    rw [seenA_neg L (-1) all (by omega)]
    refine ⟨ha, fun s => ?_⟩
    rw [walk_neg L (-1) s (by omega)]
    simp
  · intro k hk ih all ha
    rw [seenA_go L h k all hk]
    obtain ⟨h1, h2⟩ := ih _ (addAll_nodup (get L k).own all ha)
    refine ⟨h1, fun s => ?_⟩
    rw [h2, addAll_mem, walkGo L h k s hk]
    cases ho : own (get L k).own s with
    | some x => simp
    | none => simp
theorem nodup_le : ∀ {a b : List Int}, a.Nodup → (∀ s ∈ a, s ∈ b) → a.length ≤ b.length
  | [], _, _, _ => by simp
  | x :: a, b, h, hs => by
    rw [List.nodup_cons] at h
    have := nodup_le (a := a) (b := b.erase x) h.2 (fun s hm => by
      have h1 := hs s (by simp [hm])
      have h2 : s ≠ x := by intro e; subst e; exact h.1 hm
      exact (List.mem_erase_of_ne h2).2 h1)
    have hx := hs x (by simp)
    rw [List.length_erase_of_mem hx] at this
    have := List.length_pos_of_mem hx
    rw [List.length_cons]
    omega
theorem nodup_len {a b : List Int} (ha : a.Nodup) (hb : b.Nodup) (h : ∀ s, s ∈ a ↔ s ∈ b) : a.length = b.length :=
  Nat.le_antisymm (nodup_le ha (fun s hs => (h s).1 hs)) (nodup_le hb (fun s hs => (h s).2 hs))

theorem own_put (l : List (Int × Int)) (sel xt s : Int) : own (l.filter (fun p => p.1 ≠ sel) ++ [(sel, xt)]) s = if s = sel then some xt else own l s := by
  induction l with
  | nil =>
    show own [(sel, xt)] s = _
    unfold own own
    by_cases h : s = sel
    · rw [if_pos h, if_pos h.symm]
    · rw [if_neg h, if_neg (fun e => h e.symm)]
  | cons p l ih =>
    rw [List.filter_cons]
    by_cases hp : p.1 = sel
    · rw [if_neg (by simp [hp]), ih]
      by_cases h : s = sel
      · rw [if_pos h, if_pos h]
      · rw [if_neg h, if_neg h, own, if_neg (by omega)]
    · rw [if_pos (by simp [hp]), List.cons_append, own, ih, own]
      by_cases h : s = sel
      · rw [if_pos h, if_pos h, if_neg (by omega)]
      · rw [if_neg h, if_neg h]
theorem put_len (L : List RCls) (c : Nat) (sel xt : Int) : (put L c sel xt).length = L.length := by unfold put; rw [List.length_set]
theorem put_get (L : List RCls) (c : Nat) (sel xt : Int) (_hc : c < L.length) (i : Nat) (hi : i < L.length) : get (put L c sel xt) i = if i = c then { get L c with own := (get L c).own.filter (fun p => p.1 ≠ sel) ++ [(sel, xt)] } else get L i := by
  rw [get_at _ i (by rw [put_len]; exact hi), get_at L i hi]
  unfold put
  rw [List.getElem_set]
  by_cases h : i = c
  · rw [if_pos h, if_pos h.symm]
  · rw [if_neg h, if_neg (fun e => h e.symm)]
theorem put_parent (L : List RCls) (c : Nat) (sel xt : Int) (hc : c < L.length) (i : Nat) (hi : i < L.length) : (get (put L c sel xt) i).parent = (get L i).parent ∧ (get (put L c sel xt) i).slots = (get L i).slots ∧ (get (put L c sel xt) i).size = (get L i).size := by
  rw [put_get L c sel xt hc i hi]
  split
  · rename_i h; subst h; exact ⟨rfl, rfl, rfl⟩
  · exact ⟨rfl, rfl, rfl⟩
theorem put_ok (L : List RCls) (h : Ok L) (c : Nat) (sel xt : Int) (hc : c < L.length) : Ok (put L c sel xt) := by
  intro i hi
  have hi' : i < L.length := by rwa [put_len] at hi
  rw [get_of, (put_parent L c sel xt hc i hi').1]
  exact par L h i hi'
theorem put_walk (L : List RCls) (h : Ok L) (c : Nat) (sel xt : Int) (hc : c < L.length) (s : Int) (i : Int) (i0 : -1 ≤ i) (hi : i < L.length) :
    walk (put L c sel xt) i s = if s = sel ∧ heir L i c sel = true then some (xt, (c : Int)) else walk L i s := by
  refine climb L h (P := fun i => walk (put L c sel xt) i s = if s = sel ∧ heir L i c sel = true then some (xt, (c : Int)) else walk L i s) ?_ ?_ i i0 hi
  · rw [walk_neg _ (-1) s (by omega), walk_neg _ (-1) s (by omega), heir_end L (-1) c sel (.inl (by omega)), decide_eq_false (by omega)]
    simp
  · intro k hk ih
    rw [walkGo _ (put_ok L h c sel xt hc) k s (by rw [put_len]; exact hk), (put_parent L c sel xt hc k hk).1, put_get L c sel xt hc k hk, walkGo L h k s hk]
    by_cases hkc : k = c
    · subst hkc
      rw [if_pos rfl]
      simp only
      rw [own_put, heir_end L k k sel (.inr rfl), decide_eq_true rfl]
      by_cases hs : s = sel
      · subst hs; simp
      · rw [if_neg hs, if_neg (fun e => hs e.1)]
        rw [if_neg (fun e => hs e.1)] at ih
        rw [ih]
    · rw [if_neg hkc, heir_go L h k c sel hk (by omega), ih]
      by_cases hs : s = sel
      · subst hs
        cases ho : own (get L k).own s with
        | some x => simp
        | none => simp
      · rw [if_neg (fun e => hs e.1), if_neg (fun e => hs e.1)]
/-- One class more. -/
theorem snoc_get (L : List RCls) (x : RCls) (i : Nat) (hi : i < L.length) : get (L ++ [x]) i = get L i := by
  rw [get_at _ i (by simp; omega), get_at L i hi, List.getElem_append_left hi]
theorem snoc_last (L : List RCls) (x : RCls) : get (L ++ [x]) (L.length : Nat) = x := by
  rw [get_at _ L.length (by simp)]
  simp
theorem snoc_ok (L : List RCls) (h : Ok L) (x : RCls) (hx : -1 ≤ x.parent ∧ x.parent < L.length) : Ok (L ++ [x]) := by
  intro i hi
  rw [get_of]
  by_cases hl : i < L.length
  · rw [snoc_get L x i hl]; exact par L h i hl
  · rw [List.length_append, List.length_singleton] at hi
    have : i = L.length := by omega
    subst this
    rw [snoc_last]
    exact hx
theorem snoc_walk (L : List RCls) (h : Ok L) (x : RCls) (hx : -1 ≤ x.parent ∧ x.parent < L.length) (s : Int) (i : Int) (i0 : -1 ≤ i) (hi : i < L.length) : walk (L ++ [x]) i s = walk L i s := by
  refine climb L h (P := fun i => walk (L ++ [x]) i s = walk L i s) ?_ ?_ i i0 hi
  · rw [walk_neg _ (-1) s (by omega), walk_neg _ (-1) s (by omega)]
  · intro k hk ih
    rw [walkGo _ (snoc_ok L h x hx) k s (by simp; omega), walkGo L h k s hk, snoc_get L x k hk, ih]
theorem snoc_walk_last (L : List RCls) (h : Ok L) (x : RCls) (hx : -1 ≤ x.parent ∧ x.parent < L.length) (ho : x.own = []) (s : Int) : walk (L ++ [x]) (L.length : Nat) s = walk L x.parent s := by
  rw [walkGo _ (snoc_ok L h x hx) L.length s (by simp), snoc_last, ho]
  exact snoc_walk L h x hx s _ hx.1 hx.2
end Ref
end Go.Proofs.Shed
set_option linter.unusedVariables false
set_option linter.unusedSimpArgs false
namespace Go.Proofs.Shed
namespace Class
def nth (A : List Int) (i : Nat) : Int := A.getD i 0
/-- The place of a class's number; of none 0. -/
def atOf (A : List Int) (k : Int) : Int := if k < 0 then 0 else nth A k.toNat
def prevAt (A : List Int) (i : Nat) : Int := if i = 0 then 0 else nth A (i - 1)
theorem nth_snoc (A : List Int) (a : Int) (i : Nat) (h : i < A.length) : nth (A ++ [a]) i = nth A i := by
  unfold nth
  rw [List.getD_eq_getElem?_getD, List.getD_eq_getElem?_getD, List.getElem?_append_left h]
theorem nth_last (A : List Int) (a : Int) : nth (A ++ [a]) A.length = a := by
  unfold nth
  rw [List.getD_eq_getElem?_getD]
  simp

structure Good (m : Mem) (root : Int) (A T : List Int) (L : List RCls) (hi : Int) : Prop where
  nA : A.length = L.length
  nT : T.length = L.length
  ref : Ref.Ok L
  slots : ∀ i : Nat, i < L.length → 1 ≤ (Ref.get L i).slots ∧ (Ref.get L i).slots ≤ 1024
  rt : 0 < root ∧ root % 8 = 0 ∧ root + 8 ≤ hi
  top : hi ≤ m.size ∧ m.size ≤ 1048576
  lay : ∀ i : Nat, i < L.length → nth T i % 8 = 0 ∧ root + 8 ≤ nth T i ∧ nth T i + (2 + (Ref.get L i).slots * 3) * 8 ≤ nth A i ∧ nth A i % 8 = 0 ∧ nth A i + 40 ≤ hi
  ord : ∀ i j : Nat, i < j → j < L.length → nth A i + 40 ≤ nth T j
  last : m.cell root = (prevAt A L.length, 0)
  cells : ∀ i : Nat, i < L.length → m.cell (nth A i) = (magic, 0) ∧ m.cell (nth A i + 8) = (atOf A (Ref.get L i).parent, 0) ∧ m.cell (nth A i + 16) = ((Ref.get L i).size, 0) ∧ m.cell (nth A i + 24) = (nth T i, 0) ∧ m.cell (nth A i + 32) = (prevAt A i, 0)
  fine : ∀ i : Nat, i < L.length → Tab.Fine m (nth T i) (Ref.get L i).slots
  agree : ∀ i : Nat, i < L.length → ∀ s, Tab.look m (nth T i) s = (Ref.walk L i s).map fun p => ⟨s, p.1, atOf A p.2⟩

def clsAt (A T : List Int) (L : List RCls) (i : Nat) : Cls := ⟨nth A i, atOf A (Ref.get L i).parent, (Ref.get L i).size, nth T i, prevAt A i⟩
namespace Good
variable {m : Mem} {root : Int} {A T : List Int} {L : List RCls} {hi : Int}
theorem pos (h : Good m root A T L hi) {i : Nat} (i1 : i < L.length) : root + 8 + 40 ≤ nth A i ∧ nth A i < m.size := by
  have h1 := h.lay i i1
  have h2 := h.slots i i1
  have h3 := h.top
  omega
theorem less (h : Good m root A T L hi) {i j : Nat} (hij : i < j) (j1 : j < L.length) : nth A i + 40 ≤ nth T j ∧ nth A i < nth A j := by
  have h1 := h.ord i j hij j1
  have h2 := h.lay j j1
  have h3 := h.slots j j1
  omega
theorem inj (h : Good m root A T L hi) {i j : Nat} (i1 : i < L.length) (j1 : j < L.length) (e : nth A i = nth A j) : i = j := by
  by_cases h1 : i < j
  · have := h.less h1 j1; omega
  · by_cases h2 : j < i
    · have := h.less h2 i1; omega
    · omega
theorem atOf_nat (k : Nat) : atOf A (k : Int) = nth A k := by
  unfold atOf
  rw [if_neg (by omega)]
  rfl
theorem read (h : Good m root A T L hi) {i : Nat} (i1 : i < L.length) : Class.read m (nth A i) = (clsAt A T L i, true) := by
  obtain ⟨c0, c1, c2, c3, c4⟩ := h.cells i i1
  unfold Class.read
  rw [c0, c1, c2, c3, c4]
  rfl
theorem walk (h : Good m root A T L hi) {i : Nat} (i1 : i < L.length) (last : Int) (hl : nth A i < last) : Class.walk m (nth A i) last = ((List.range (i + 1)).map (clsAt A T L)).reverse := by
  induction i generalizing last with
  | zero =>
    have hp := h.pos i1
    have hr := h.rt
    rw [walk_step m _ _ ⟨by omega, hl⟩ (by rw [h.read i1]), h.read i1]
    show _ :: Class.walk m (prevAt A 0) _ = _
    rw [show prevAt A 0 = 0 from rfl, walk_end _ _ _ (by omega)]
    rfl
  | succ i ih =>
    have hp := h.pos i1
    have hr := h.rt
    rw [walk_step m _ _ ⟨by omega, hl⟩ (by rw [h.read i1]), h.read i1]
    show clsAt A T L (i + 1) :: Class.walk m (nth A i) (nth A (i + 1)) = _
    rw [ih (by omega) _ (h.less (Nat.lt_succ_self i) i1).2, List.range_succ (n := i + 1), List.map_append, List.reverse_append]
    rfl
theorem all (h : Good m root A T L hi) : Class.all m root = (List.range L.length).map (clsAt A T L) := by
  unfold Class.all
  rw [h.last, if_pos rfl]
  simp only
  obtain ⟨n, hn⟩ : ∃ n, L.length = n := ⟨_, rfl⟩
  rw [hn]
  cases n with
  | zero =>
    rw [show prevAt A 0 = 0 from rfl, walk_end _ _ _ (by omega)]
    rfl
  | succ n =>
    show (Class.walk m (nth A n) m.size).reverse = _
    rw [h.walk (by omega) _ (h.pos (by omega)).2, List.reverse_reverse]
theorem is (h : Good m root A T L hi) {i : Nat} (i1 : i < L.length) : Class.is m root (nth A i) = true := by
  unfold Class.is
  rw [h.all, List.any_eq_true]
  exact ⟨clsAt A T L i, List.mem_map.2 ⟨i, List.mem_range.2 i1, rfl⟩, decide_eq_true rfl⟩
theorem not_is (h : Good m root A T L hi) {a : Int} (ha : ∀ i : Nat, i < L.length → nth A i ≠ a) : Class.is m root a = false := by
  rw [Bool.eq_false_iff]
  intro hc
  unfold Class.is at hc
  rw [h.all, List.any_eq_true] at hc
  obtain ⟨c, hc, hd⟩ := hc
  obtain ⟨i, hi, rfl⟩ := List.mem_map.1 hc
  exact ha i (List.mem_range.1 hi) (of_decide_eq_true hd)
theorem lookup (h : Good m root A T L hi) {i : Nat} (i1 : i < L.length) (s : Int) : (Class.lookup m (nth A i) s).2.2 = (Ref.walk L i s).isSome ∧ ∀ p, Ref.walk L i s = some p → (Class.lookup m (nth A i) s).1 = ⟨s, p.1, atOf A p.2⟩ := by
  unfold Class.lookup
  rw [h.read i1, if_neg (by simp)]
  have ha := h.agree i i1 s
  refine ⟨?_, fun p hp => ?_⟩
  · show (Tab.get m (nth T i) s).2.2 = _
    rw [Tab.look_get, ha, Option.isSome_map]
  · exact Tab.look_ent (by rw [show (clsAt A T L i).table = nth T i from rfl, ha, hp]; rfl)
theorem owns (h : Good m root A T L hi) {i : Nat} (i1 : i < L.length) (s : Int) : ((Tab.get m (nth T i) s).2.2 = true ∧ (Tab.get m (nth T i) s).1.cls = nth A i) ↔ (Ref.own (Ref.get L i).own s).isSome = true := by
  have ha := h.agree i i1 s
  rw [Ref.walkGo L h.ref i s i1] at ha
  rw [Tab.look_get]
  cases ho : Ref.own (Ref.get L i).own s with
  | some x =>
    rw [ho] at ha
    simp only [Option.map_some] at ha
    rw [ha, Tab.look_ent ha, atOf_nat]
    simp
  | none =>
    rw [ho] at ha
    simp only at ha
    rw [ha]
    cases hw : Ref.walk L (Ref.get L i).parent s with
    | none => simp
    | some p =>
      have hp := Ref.par L h.ref i i1
      have := Ref.walkIn L h.ref s (Ref.get L i).parent (by omega) (by omega) p hw
      rw [hw] at ha
      rw [Tab.look_ent ha]
      simp only [Option.map_some, Option.isSome_some, true_and, Option.isSome_none, Bool.false_eq_true, iff_false]
      intro e
      obtain ⟨k, hk⟩ : ∃ k : Nat, p.2 = k := ⟨p.2.toNat, by omega⟩
      rw [hk, atOf_nat] at e
      have := h.inj (by omega) i1 e
      omega
theorem heirs_from (h : Good m root A T L hi) {c : Nat} (hc : c < L.length) (sel : Int) (k i : Nat) (hik : i + k = L.length) (seen : List Int)
    (hs : ∀ v, v ∈ seen ↔ ∃ j : Nat, j < i ∧ v = nth A j ∧ Ref.heir L j c sel = true) :
    heirsL m (nth A c) sel ((List.range' i k).map (clsAt A T L)) seen = ((List.range' i k).filter (fun j : Nat => Ref.heir L j c sel)).map (clsAt A T L) := by
  induction k generalizing i seen with
  | zero => rfl
  | succ k ih =>
    have i1 : i < L.length := by omega
    rw [List.range'_succ, List.map_cons, heirsL, List.filter_cons]
    have hp := Ref.par L h.ref i i1
    have key : ((clsAt A T L i).at_ = nth A c ∨ ((clsAt A T L i).parent ∈ seen ∧ ¬ ((Tab.get m (clsAt A T L i).table sel).2.2 = true ∧ (Tab.get m (clsAt A T L i).table sel).1.cls = (clsAt A T L i).at_))) ↔ Ref.heir L i c sel = true := by
      show (nth A i = nth A c ∨ (atOf A (Ref.get L i).parent ∈ seen ∧ ¬ ((Tab.get m (nth T i) sel).2.2 = true ∧ (Tab.get m (nth T i) sel).1.cls = nth A i))) ↔ _
      rw [h.owns i1 sel]
      by_cases hic : i = c
      · subst hic
        rw [Ref.heir_end L i i sel (.inr rfl), decide_eq_true rfl]
        simp
      · rw [Ref.heir_go L h.ref i c sel i1 (by omega)]
        have hne : ¬ nth A i = nth A c := fun e => hic (h.inj i1 hc e)
        cases ho : Ref.own (Ref.get L i).own sel with
        | some x => simp [hne]
        | none =>
          simp only [hne, false_or, Option.isSome_none, Bool.false_eq_true, not_false_eq_true, and_true]
          rw [hs]
          by_cases hneg : (Ref.get L i).parent < 0
          · rw [Ref.heir_end L _ c sel (.inl hneg), decide_eq_false (by omega)]
            simp only [Bool.false_eq_true, iff_false]
            rintro ⟨j, hj, e, _⟩
            unfold atOf at e
            rw [if_pos hneg] at e
            have := h.pos (i := j) (by omega)
            have := h.rt
            omega
          · obtain ⟨q, hq⟩ : ∃ q : Nat, (Ref.get L i).parent = q := ⟨(Ref.get L i).parent.toNat, by omega⟩
            rw [hq, atOf_nat]
            constructor
            · rintro ⟨j, hj, e, hh⟩
              rw [h.inj (by omega) (by omega) e]
              exact hh
            · intro hh
              exact ⟨q, by omega, rfl, hh⟩
    by_cases hh : Ref.heir L i c sel = true
    · rw [if_pos (key.2 hh), if_pos hh, List.map_cons]
      congr 1
      refine ih (i + 1) (by omega) _ fun v => ?_
      rw [List.mem_cons, hs]
      constructor
      · rintro (e | ⟨j, hj, e, hq⟩)
        · exact ⟨i, by omega, e, hh⟩
        · exact ⟨j, by omega, e, hq⟩
      · rintro ⟨j, hj, e, hq⟩
        by_cases hji : j = i
        · subst hji; exact .inl e
        · exact .inr ⟨j, by omega, e, hq⟩
    · rw [if_neg (fun e => hh (key.1 e)), if_neg hh]
      refine ih (i + 1) (by omega) _ fun v => ?_
      rw [hs]
      constructor
      · rintro ⟨j, hj, e, hq⟩
        exact ⟨j, by omega, e, hq⟩
      · rintro ⟨j, hj, e, hq⟩
        by_cases hji : j = i
        · subst hji; exact absurd hq hh
        · exact ⟨j, by omega, e, hq⟩
theorem heirs (h : Good m root A T L hi) {c : Nat} (hc : c < L.length) (sel : Int) : Class.heirs m root (nth A c) sel = ((List.range L.length).filter (fun j : Nat => Ref.heir L j c sel)).map (clsAt A T L) := by
  unfold Class.heirs
  rw [h.all, List.range_eq_range']
  exact h.heirs_from hc sel L.length 0 (by omega) [] (fun v => ⟨fun e => absurd e (by simp), fun ⟨j, hj, _⟩ => absurd hj (by omega)⟩)
end Good
end Class
end Go.Proofs.Shed
set_option linter.unusedVariables false
set_option linter.unusedSimpArgs false
namespace Go.Proofs.Shed
namespace Class
/-- The tables of some classes, behind one entry. -/
theorem putL_law (T : List Int) (S : Nat → Int) (n : Nat) (x : Ent) (x1 : 1 ≤ x.sel) (b1 : In64 x.sel) (b2 : In64 x.xt) (b3 : In64 x.cls) (K : Nat → Cls) (hK : ∀ i, i < n → (K i).table = nth T i)
    (hord : ∀ i j, i < j → j < n → nth T i + (2 + S i * 3) * 8 ≤ nth T j) (J : List Nat) (hJ : J.Nodup) (hJn : ∀ i ∈ J, i < n) (m : Mem) (hf : ∀ i, i < n → Tab.Fine m (nth T i) (S i)) (hm : ∀ i ∈ J, Tab.may m (nth T i) x.sel = true) :
    (putL m x (J.map K)).2 = 0 ∧ (putL m x (J.map K)).1.size = m.size ∧ (∀ a, (∀ i ∈ J, a < nth T i + 8 ∨ nth T i + (2 + S i * 3) * 8 ≤ a) → (putL m x (J.map K)).1.cell a = m.cell a) ∧
      (∀ i, i < n → Tab.Fine (putL m x (J.map K)).1 (nth T i) (S i)) ∧ ∀ i, i < n → ∀ s, Tab.look (putL m x (J.map K)).1 (nth T i) s = if i ∈ J ∧ s = x.sel then some x else Tab.look m (nth T i) s := by
  induction J generalizing m with
  | nil => exact ⟨rfl, rfl, fun _ _ => rfl, hf, fun i _ s => by rw [if_neg (by simp)]; rfl⟩
  | cons j J ih =>
    rw [List.nodup_cons] at hJ
    have hj : j < n := hJn j (by simp)
    obtain ⟨p0, p1, p2, p3, p4⟩ := Tab.put_law (hf j hj) x x1 b1 b2 b3 (hm j (by simp))
    rw [List.map_cons, putL, hK j hj, if_neg (by rw [p0]; simp)]
    generalize (Tab.put m (nth T j) x).1 = m1 at p1 p2 p3 p4
    have hS : ∀ i, i < n → 1 ≤ S i ∧ Tab.slots m (nth T i) = S i := fun i hi => ⟨(hf i hi).2.1, (hf i hi).1⟩
    have other : ∀ i, i < n → i ≠ j → (∀ a, nth T i ≤ a → a < nth T i + (2 + S i * 3) * 8 → m1.cell a = m.cell a) := by
      intro i hi hne a a0 a1
      refine p2 a ?_
      have := hS i hi
      have := hS j hj
      by_cases h1 : i < j
      · have := hord i j h1 hj; omega
      · have := hord j i (by omega) hi; omega
    have osl : ∀ i, i < n → i ≠ j → Tab.slots m1 (nth T i) = Tab.slots m (nth T i) := fun i hi hne => Tab.slots_frame p1 (by rw [(hS i hi).2]; exact (hS i hi).1) (by rw [(hS i hi).2]; exact other i hi hne)
    have ord : ∀ i, i < n → i ≠ j → ∀ k, 0 ≤ k → k < Tab.slots m (nth T i) → Tab.read m1 (nth T i) k = Tab.read m (nth T i) k := fun i hi hne k k0 k1 => Tab.read_frame k0 (by rw [(hS i hi).2] at k1; exact k1) (other i hi hne)
    have of : ∀ i, i < n → Tab.Fine m1 (nth T i) (S i) := by
      intro i hi
      by_cases hne : i = j
      · subst hne; exact p3
      · exact Tab.fine_congr (osl i hi hne) (ord i hi hne) (hf i hi)
    obtain ⟨q0, q1, q2, q3, q4⟩ := ih hJ.2 (fun i hi => hJn i (by simp [hi])) m1 of (fun i hi => by
      have hne : i ≠ j := by intro e; subst e; exact hJ.1 hi
      have hin := hJn i (by simp [hi])
      have := hm i (by simp [hi])
      unfold Tab.may at this ⊢
      rw [Tab.probe_congr (osl i hin hne) (fun k k0 k1 => by rw [ord i hin hne k k0 k1])]
      exact this)
    refine ⟨q0, by rw [q1, p1], fun a ha => ?_, q3, fun i hi s => ?_⟩
    · rw [q2 a (fun i hi => ha i (by simp [hi])), p2 a (ha j (by simp))]
    · rw [q4 i hi s]
      by_cases hij : i = j
      · subst hij
        rw [if_neg (fun e => hJ.1 e.1), p4]
        simp
      · rw [Tab.look_congr (osl i hi hij) (ord i hi hij)]
        simp [hij]
namespace Good
variable {m : Mem} {root : Int} {A T : List Int} {L : List RCls} {hi : Int}
/-- What is written above the classes. -/
theorem framed (h : Good m root A T L hi) {m' : Mem} (hz : m'.size = m.size) (hc : ∀ a, (a < root + 8 ∨ ∃ i : Nat, i < L.length ∧ nth T i ≤ a ∧ a < nth A i + 40) → m'.cell a = m.cell a) {hi' : Int} (h1 : hi ≤ hi') (h2 : hi' ≤ m.size) : Good m' root A T L hi' := by
  have sl : ∀ i : Nat, i < L.length → Tab.slots m (nth T i) = (Ref.get L i).slots := fun i i1 => (h.fine i i1).1
  have cl : ∀ i : Nat, i < L.length → ∀ a, nth T i ≤ a → a < nth T i + (2 + Tab.slots m (nth T i) * 3) * 8 → m'.cell a = m.cell a := by
    intro i i1 a a0 a1
    rw [sl i i1] at a1
    have := h.lay i i1
    exact hc a (.inr ⟨i, i1, by omega, by omega⟩)
  have slf : ∀ i : Nat, i < L.length → Tab.slots m' (nth T i) = Tab.slots m (nth T i) := fun i i1 => Tab.slots_frame hz (by rw [sl i i1]; exact (h.slots i i1).1) (cl i i1)
  have rdf : ∀ i : Nat, i < L.length → ∀ k, 0 ≤ k → k < Tab.slots m (nth T i) → Tab.read m' (nth T i) k = Tab.read m (nth T i) k := fun i i1 k k0 k1 => Tab.read_frame k0 k1 (cl i i1)
  refine ⟨h.nA, h.nT, h.ref, h.slots, ⟨h.rt.1, h.rt.2.1, by have := h.rt; omega⟩, ⟨by rw [hz]; exact h2, by rw [hz]; exact h.top.2⟩, ?_, h.ord, ?_, ?_, ?_, ?_⟩
  · intro i i1
    have := h.lay i i1
    exact ⟨this.1, this.2.1, this.2.2.1, this.2.2.2.1, by omega⟩
  · rw [hc root (.inl (by omega))]; exact h.last
  · intro i i1
    have := h.lay i i1
    have := h.slots i i1
    rw [hc _ (.inr ⟨i, i1, by omega, by omega⟩), hc _ (.inr ⟨i, i1, by omega, by omega⟩), hc _ (.inr ⟨i, i1, by omega, by omega⟩), hc _ (.inr ⟨i, i1, by omega, by omega⟩), hc _ (.inr ⟨i, i1, by omega, by omega⟩)]
    exact h.cells i i1
  · intro i i1
    exact Tab.fine_congr (slf i i1) (rdf i i1) (h.fine i i1)
  · intro i i1 s
    rw [Tab.look_congr (slf i i1) (rdf i i1)]
    exact h.agree i i1 s
theorem frame (h : Good m root A T L hi) {m' : Mem} (hz : m'.size = m.size) (hc : ∀ a, a < hi → m'.cell a = m.cell a) {hi' : Int} (h1 : hi ≤ hi') (h2 : hi' ≤ m.size) : Good m' root A T L hi' := by
  refine h.framed hz (fun a ha => hc a ?_) h1 h2
  have := h.rt
  rcases ha with ha | ⟨i, i1, a0, a1⟩
  · omega
  · have := h.lay i i1
    omega
theorem may (h : Good m root A T L hi) {c : Nat} (sel : Int) (s1 : 1 ≤ sel) {i : Nat} (i1 : i < L.length) (hh : Ref.heir L i c sel = true) : Ref.full L c sel i = !Tab.may m (nth T i) sel := by
  have hm := Tab.may_iff (h.fine i i1) sel s1
  have hsp := Ref.seenA_spec L h.ref i (by omega) (by omega) [] (by simp)
  have hlen : (Tab.used m (nth T i) (Ref.get L i).slots).length = Ref.seen L i := by
    refine Ref.nodup_len (Tab.used_nodup (h.fine i i1)) hsp.1 fun s => ?_
    rw [Tab.used_mem (h.fine i i1), h.agree i i1 s, Option.isSome_map]
    refine Iff.trans ?_ (hsp.2 s).symm
    simp
  rw [h.agree i i1, Option.isSome_map, hlen] at hm
  unfold Ref.full
  rw [hh, Bool.true_and]
  have e := Option.isNone_iff_eq_none (o := Ref.walk L i sel)
  cases hw : Ref.walk L i sel with
  | some p =>
    rw [hm.2 (.inl (by rw [hw]; rfl))]
    rfl
  | none =>
    rw [hw] at hm
    simp only [Option.isSome_none, Bool.false_eq_true, false_or] at hm
    simp only [Option.isNone_none, Bool.true_and]
    by_cases hx : Tab.may m (nth T i) sel = true
    · have := hm.1 hx
      rw [hx, decide_eq_false (by omega)]
      rfl
    · have : ¬ ((Ref.seen L i : Int) < (Ref.get L i).slots) := fun e => hx (hm.2 e)
      rw [decide_eq_true (by omega), Bool.eq_false_iff.2 hx]
      rfl
/-- A method that is set: the same code, and all is as it should be. -/
theorem set (h : Good m root A T L hi) {c : Nat} (hc : c < L.length) (sel xt : Int) (b1 : In64 sel) (b2 : In64 xt) :
    (Class.set m root (nth A c) sel xt).2 = (Ref.set L c sel xt).2 ∧ (Class.set m root (nth A c) sel xt).1.size = m.size ∧ (∀ a, (∀ i : Nat, i < L.length → a < nth T i + 8 ∨ nth T i + (2 + (Ref.get L i).slots * 3) * 8 ≤ a) → (Class.set m root (nth A c) sel xt).1.cell a = m.cell a) ∧
      Good (Class.set m root (nth A c) sel xt).1 root A T (Ref.set L c sel xt).1 hi := by
  have hself : c ∈ (List.range L.length).filter (fun j : Nat => Ref.heir L j c sel) := by
    rw [List.mem_filter, List.mem_range]
    exact ⟨hc, by rw [Ref.heir_end L c c sel (.inr rfl)]; exact decide_eq_true rfl⟩
  unfold Class.set
  rw [h.heirs hc sel]
  obtain ⟨J, hJ⟩ : ∃ J, (List.range L.length).filter (fun j : Nat => Ref.heir L j c sel) = J := ⟨_, rfl⟩
  have hJm : ∀ i, i ∈ J ↔ i < L.length ∧ Ref.heir L i c sel = true := by
    intro i
    rw [← hJ, List.mem_filter, List.mem_range]
  have hJd : J.Nodup := by rw [← hJ]; exact List.Nodup.sublist List.filter_sublist List.nodup_range
  rw [hJ] at hself ⊢
  clear hJ
  have hne : J.map (clsAt A T L) ≠ [] := by
    intro e
    rw [List.map_eq_nil_iff] at e
    rw [e] at hself
    cases hself
  rw [if_neg hne]
  unfold Ref.set
  by_cases s1 : sel < 1
  · rw [if_pos s1, if_pos s1]
    exact ⟨rfl, rfl, fun _ _ => rfl, h⟩
  rw [if_neg s1, if_neg s1]
  have hany : (J.map (clsAt A T L)).any (fun c => !Tab.may m c.table sel) = (List.range L.length).any (Ref.full L c sel) := by
    rw [Bool.eq_iff_iff, List.any_eq_true, List.any_eq_true]
    constructor
    · rintro ⟨x, hx, hq⟩
      obtain ⟨i, hi, rfl⟩ := List.mem_map.1 hx
      have := (hJm i).1 hi
      exact ⟨i, List.mem_range.2 this.1, by rw [h.may sel (by omega) this.1 this.2]; exact hq⟩
    · rintro ⟨i, hi, hq⟩
      rw [List.mem_range] at hi
      have hh : Ref.heir L i c sel = true := by
        unfold Ref.full at hq
        rw [Bool.and_eq_true, Bool.and_eq_true] at hq
        exact hq.1.1
      exact ⟨clsAt A T L i, List.mem_map.2 ⟨i, (hJm i).2 ⟨hi, hh⟩, rfl⟩, by rw [h.may sel (by omega) hi hh] at hq; exact hq⟩
  rw [hany]
  by_cases hf : (List.range L.length).any (Ref.full L c sel) = true
  · rw [if_pos hf, if_pos hf]
    exact ⟨rfl, rfl, fun _ _ => rfl, h⟩
  rw [if_neg hf, if_neg hf]
  have hmay : ∀ i ∈ J, Tab.may m (nth T i) sel = true := by
    intro i hi
    have := (hJm i).1 hi
    cases hq : Tab.may m (nth T i) sel with
    | true => rfl
    | false =>
      exfalso
      apply hf
      rw [List.any_eq_true]
      exact ⟨i, List.mem_range.2 this.1, by rw [h.may sel (by omega) this.1 this.2, hq]; rfl⟩
  have hpc := h.pos hc
  have htop := h.top
  have hrt := h.rt
  obtain ⟨q0, q1, q2, q3, q4⟩ := putL_law T (fun i => (Ref.get L i).slots) L.length ⟨sel, xt, nth A c⟩ (by show 1 ≤ sel; omega) b1 b2 (by show In64 (nth A c); unfold In64; omega) (clsAt A T L) (fun _ _ => rfl)
    (fun i j hij hj => by have := h.ord i j hij hj; have := h.lay i (by omega); show nth T i + (2 + (Ref.get L i).slots * 3) * 8 ≤ _; omega) J hJd (fun i hi => ((hJm i).1 hi).1) m h.fine hmay
  generalize putL m ⟨sel, xt, nth A c⟩ (J.map (clsAt A T L)) = r at q0 q1 q2 q3 q4
  have keep : ∀ a, (∀ i : Nat, i < L.length → a < nth T i + 8 ∨ nth T i + (2 + (Ref.get L i).slots * 3) * 8 ≤ a) → r.1.cell a = m.cell a := fun a ha => q2 a (fun i hi => ha i ((hJm i).1 hi).1)
  have low : ∀ a, a < root + 8 → r.1.cell a = m.cell a := by
    intro a ha
    refine keep a fun i i1 => ?_
    have := h.lay i i1
    omega
  have mid : ∀ i : Nat, i < L.length → ∀ a, nth A i ≤ a → a < nth A i + 40 → r.1.cell a = m.cell a := by
    intro i i1 a a0 a1
    refine keep a fun j j1 => ?_
    have h1 := h.lay j j1
    by_cases hij : i < j
    · have := h.ord i j hij j1; omega
    · by_cases hji : j < i
      · have := h.ord j i hji i1
        have := h.lay i i1
        have := h.slots i i1
        omega
      · have : i = j := by omega
        subst this
        omega
  have hlen : (Ref.put L c sel xt).length = L.length := Ref.put_len L c sel xt
  refine ⟨q0, q1, keep, ⟨by rw [hlen]; exact h.nA, by rw [hlen]; exact h.nT, Ref.put_ok L h.ref c sel xt hc, ?_, h.rt, by rw [q1]; exact h.top, ?_, ?_, ?_, ?_, ?_, ?_⟩⟩
  · intro i i1
    rw [hlen] at i1
    rw [(Ref.put_parent L c sel xt hc i i1).2.1]
    exact h.slots i i1
  · intro i i1
    rw [hlen] at i1
    rw [(Ref.put_parent L c sel xt hc i i1).2.1]
    exact h.lay i i1
  · intro i j hij j1
    rw [hlen] at j1
    exact h.ord i j hij j1
  · rw [hlen, low root (by omega)]; exact h.last
  · intro i i1
    rw [hlen] at i1
    obtain ⟨e1, e2, e3⟩ := Ref.put_parent L c sel xt hc i i1
    rw [e1, e3, mid i i1 _ (by omega) (by omega), mid i i1 _ (by omega) (by omega), mid i i1 _ (by omega) (by omega), mid i i1 _ (by omega) (by omega), mid i i1 _ (by omega) (by omega)]
    exact h.cells i i1
  · intro i i1
    rw [hlen] at i1
    rw [(Ref.put_parent L c sel xt hc i i1).2.1]
    exact q3 i i1
  · intro i i1 s
    rw [hlen] at i1
    rw [q4 i i1 s, Ref.put_walk L h.ref c sel xt hc s i (by omega) (by omega)]
    by_cases hq : s = sel ∧ Ref.heir L i c sel = true
    · rw [if_pos ⟨(hJm i).2 ⟨i1, hq.2⟩, hq.1⟩, if_pos hq, hq.1]
      simp only [Option.map_some, atOf_nat]
    · rw [if_neg (fun e => hq ⟨e.2, ((hJm i).1 e.1).2⟩), if_neg hq]
      exact h.agree i i1 s
end Good
end Class
end Go.Proofs.Shed
set_option linter.unusedVariables false
set_option linter.unusedSimpArgs false
namespace Go.Proofs.Shed
namespace Class
/-- Behind a table: the class's cells, and the root's. -/
theorem rest_law (s : Sp) (root parent : Int) (t : Sp) (tb size prev : Int) (ht : t.Al) (hr : t.here + 40 ≤ t.to) (hp : (s.mem.cell root).1 = prev) :
    make5.rest s root parent (t, tb, 0) size = (t.wr [magic, parent, size, tb, prev], t.here, 0) := by
  unfold make5.rest
  rw [if_neg (by simp), hp]
  exact cells_room _ ht (by simpa using hr) _
def parentAt (A : List Int) (k : Option Nat) : Int := match k with | none => 0 | some k => nth A k
def parentNo (k : Option Nat) : Int := match k with | none => -1 | some k => k
def sizeOf (L : List RCls) (k : Option Nat) : Int := match k with | none => 8 | some k => (Ref.get L k).size
def slotsOf (L : List RCls) (k : Option Nat) (slots : Int) : Int := match k with | none => slots | some k => (Ref.get L k).slots
def lookOf (m : Mem) (T : List Int) (k : Option Nat) (s : Int) : Option Ent := match k with | none => none | some j => Tab.look m (nth T j) s
def tableOf (x : Sp) (T : List Int) (k : Option Nat) (slots : Int) : Sp × Int × Int := match k with | none => Tab.new x slots | some j => Tab.copy x (nth T j)
theorem new_last (L : List RCls) (k : Option Nat) (slots : Int) : Ref.new L (parentNo k) slots = L ++ [⟨parentNo k, sizeOf L k, slotsOf L k slots, []⟩] := by
  unfold Ref.new
  cases k with
  | none => rfl
  | some k => show L ++ [if 0 ≤ (k : Int) then _ else _] = _; rw [if_pos (by omega)]; rfl
namespace Good
variable {root : Int} {A T : List Int} {L : List RCls} {hi : Int}
/-- The memory behind a new class's cells. -/
theorem snoc {m m' : Mem} (h : Good m root A T L hi) (k : Option Nat) (hk : ∀ j, k = some j → j < L.length) (t n size : Int) (hz : m'.size = m.size) (ht : hi ≤ t) (t8 : t % 8 = 0) (n1 : 1 ≤ n) (n2 : n ≤ 1024)
    (htop : t + (2 + n * 3) * 8 + 40 ≤ m.size) (hlow : ∀ a, a < hi → a ≠ root → m'.cell a = m.cell a)
    (c0 : m'.cell root = (t + (2 + n * 3) * 8, 0))
    (c1 : m'.cell (t + (2 + n * 3) * 8) = (magic, 0) ∧ m'.cell (t + (2 + n * 3) * 8 + 8) = (parentAt A k, 0) ∧ m'.cell (t + (2 + n * 3) * 8 + 16) = (size, 0) ∧ m'.cell (t + (2 + n * 3) * 8 + 24) = (t, 0) ∧ m'.cell (t + (2 + n * 3) * 8 + 32) = (prevAt A L.length, 0))
    (hf : Tab.Fine m' t n) (hlook : ∀ s, Tab.look m' t s = lookOf m T k s) :
    Good m' root (A ++ [t + (2 + n * 3) * 8]) (T ++ [t]) (L ++ [⟨parentNo k, size, n, []⟩]) (t + (2 + n * 3) * 8 + 40) := by
  have hx : -1 ≤ parentNo k ∧ parentNo k < L.length := by
    cases k with
    | none => show (-1 : Int) ≤ -1 ∧ (-1 : Int) < L.length; omega
    | some j => have := hk j rfl; show (-1 : Int) ≤ j ∧ (j : Int) < L.length; omega
  have hrt := h.rt
  have h0 := h.top
  have hlen : ∀ i, i < (L ++ [(⟨parentNo k, size, n, []⟩ : RCls)]).length → i < L.length ∨ i = L.length := by
    intro i hi
    rw [List.length_append, List.length_singleton] at hi
    omega
  have eA : ∀ i, i < L.length → nth (A ++ [t + (2 + n * 3) * 8]) i = nth A i := fun i i1 => nth_snoc _ _ _ (by rw [h.nA]; exact i1)
  have eT : ∀ i, i < L.length → nth (T ++ [t]) i = nth T i := fun i i1 => nth_snoc _ _ _ (by rw [h.nT]; exact i1)
  have lA : nth (A ++ [t + (2 + n * 3) * 8]) L.length = t + (2 + n * 3) * 8 := by rw [← h.nA]; exact nth_last _ _
  have lT : nth (T ++ [t]) L.length = t := by rw [← h.nT]; exact nth_last _ _
  have eG : ∀ i : Nat, i < L.length → Ref.get (L ++ [(⟨parentNo k, size, n, []⟩ : RCls)]) i = Ref.get L i := fun i i1 => Ref.snoc_get L _ i i1
  have lG : Ref.get (L ++ [(⟨parentNo k, size, n, []⟩ : RCls)]) (L.length : Nat) = ⟨parentNo k, size, n, []⟩ := Ref.snoc_last L _
  have eAt : ∀ p : Int, p < L.length → atOf (A ++ [t + (2 + n * 3) * 8]) p = atOf A p := by
    intro p hp
    unfold atOf
    by_cases h1 : p < 0
    · rw [if_pos h1, if_pos h1]
    · rw [if_neg h1, if_neg h1, eA _ (by omega)]
  have ePr : ∀ i, i ≤ L.length → prevAt (A ++ [t + (2 + n * 3) * 8]) i = prevAt A i := by
    intro i hi
    unfold prevAt
    by_cases h1 : i = 0
    · rw [if_pos h1, if_pos h1]
    · rw [if_neg h1, if_neg h1, eA _ (by omega)]
  have sl : ∀ i : Nat, i < L.length → Tab.slots m (nth T i) = (Ref.get L i).slots := fun i i1 => (h.fine i i1).1
  have cl : ∀ i : Nat, i < L.length → ∀ a, nth T i ≤ a → a < nth T i + (2 + Tab.slots m (nth T i) * 3) * 8 → m'.cell a = m.cell a := by
    intro i i1 a a0 a1
    rw [sl i i1] at a1
    have := h.lay i i1
    exact hlow a (by omega) (by omega)
  have slf : ∀ i : Nat, i < L.length → Tab.slots m' (nth T i) = Tab.slots m (nth T i) := fun i i1 => Tab.slots_frame hz (by rw [sl i i1]; exact (h.slots i i1).1) (cl i i1)
  have rdf : ∀ i : Nat, i < L.length → ∀ k, 0 ≤ k → k < Tab.slots m (nth T i) → Tab.read m' (nth T i) k = Tab.read m (nth T i) k := fun i i1 k k0 k1 => Tab.read_frame k0 k1 (cl i i1)
  refine ⟨by simp [h.nA], by simp [h.nT], Ref.snoc_ok L h.ref _ hx, ?_, ⟨hrt.1, hrt.2.1, by omega⟩, ⟨by omega, by omega⟩, ?_, ?_, ?_, ?_, ?_, ?_⟩
  · intro i hi
    rcases hlen i hi with i1 | rfl
    · rw [eG i i1]; exact h.slots i i1
    · rw [lG]; exact ⟨n1, n2⟩
  · intro i hi
    rcases hlen i hi with i1 | rfl
    · rw [eA i i1, eT i i1, eG i i1]
      have := h.lay i i1
      exact ⟨this.1, this.2.1, this.2.2.1, this.2.2.2.1, by omega⟩
    · rw [lA, lT, lG]
      simp only
      omega
  · intro i j hij hj
    rcases hlen j hj with j1 | rfl
    · rw [eA i (by omega), eT j j1]; exact h.ord i j hij j1
    · rw [eA i hij, lT]
      have := h.lay i hij
      omega
  · rw [c0, List.length_append, List.length_singleton]
    show _ = ((if L.length + 1 = 0 then (0 : Int) else nth (A ++ [t + (2 + n * 3) * 8]) (L.length + 1 - 1)), (0 : Int))
    rw [if_neg (by omega), show L.length + 1 - 1 = L.length by omega, lA]
  · intro i hi
    rcases hlen i hi with i1 | rfl
    · have hl := h.lay i i1
      have hs := h.slots i i1
      have hp := Ref.par L h.ref i i1
      rw [eA i i1, eT i i1, eG i i1, eAt _ (by omega), ePr i (by omega), hlow _ (by omega) (by omega), hlow _ (by omega) (by omega), hlow _ (by omega) (by omega), hlow _ (by omega) (by omega), hlow _ (by omega) (by omega)]
      exact h.cells i i1
    · rw [lA, lT, lG, ePr _ (Nat.le_refl _)]
      simp only
      rw [eAt _ hx.2]
      have e : atOf A (parentNo k) = parentAt A k := by
        cases k with
        | none => rfl
        | some j => exact atOf_nat j
      rw [e]
      exact c1
  · intro i hi
    rcases hlen i hi with i1 | rfl
    · rw [eT i i1, eG i i1]
      exact Tab.fine_congr (slf i i1) (rdf i i1) (h.fine i i1)
    · rw [lT, lG]
      exact hf
  · intro i hi s
    rcases hlen i hi with i1 | rfl
    · rw [eT i i1, Ref.snoc_walk L h.ref _ hx s i (by omega) (by omega), Tab.look_congr (slf i i1) (rdf i i1), h.agree i i1 s]
      cases hw : Ref.walk L i s with
      | none => rfl
      | some p =>
        have := Ref.walkIn L h.ref s i (by omega) (by omega) p hw
        simp only [Option.map_some]
        rw [eAt _ (by omega)]
    · rw [lT, Ref.snoc_walk_last L h.ref _ hx rfl s, hlook]
      cases k with
      | none =>
        show none = (Ref.walk L (-1) s).map _
        rw [Ref.walk_neg L (-1) s (by omega)]
        rfl
      | some j =>
        have hj := hk j rfl
        show Tab.look m (nth T j) s = (Ref.walk L (j : Int) s).map _
        rw [h.agree j hj s]
        cases hw : Ref.walk L j s with
        | none => rfl
        | some p =>
          have := Ref.walkIn L h.ref s j (by omega) (by omega) p hw
          simp only [Option.map_some]
          rw [eAt _ (by omega)]
/-- A class that is new: where it stands, and all is as it should be. -/
theorem new {x : Sp} (h : Good x.mem root A T L hi) (hx : x.Al) (hhi : hi ≤ x.here) (k : Option Nat) (hk : ∀ j, k = some j → j < L.length) (slots n : Int)
    (hn : n = slotsOf L k slots) (n1 : 1 ≤ n) (n2 : n ≤ 1024) (hr : x.here + (2 + n * 3) * 8 + 40 ≤ x.to) :
    ∃ y : Sp, Class.new x root (parentAt A k) slots = (y, x.here + (2 + n * 3) * 8, 0) ∧ y.Al ∧ y.lo = x.lo ∧ y.to = x.to ∧ y.here = x.here + (2 + n * 3) * 8 + 40 ∧ y.mem.size = x.mem.size ∧ (∀ b, (b < x.here ∨ y.here ≤ b) → b ≠ root → y.mem.cell b = x.mem.cell b) ∧
      Good y.mem root (A ++ [x.here + (2 + n * 3) * 8]) (T ++ [x.here]) (Ref.new L (parentNo k) slots) y.here := by
  have o := hx.ok
  unfold Sp.Ok at o
  have hrt := h.rt
  have htop := h.top
  -- the table
  obtain ⟨y, e, hy, y1, y2, y3, y4, y5, y6, y7⟩ : ∃ y : Sp, tableOf x T k slots = (y, x.here, 0) ∧ y.Al ∧ y.lo = x.lo ∧ y.to = x.to ∧ y.here = x.here + (2 + n * 3) * 8 ∧ y.mem.size = x.mem.size ∧
      (∀ b, (b < x.here ∨ y.here ≤ b) → y.mem.cell b = x.mem.cell b) ∧ Tab.Fine y.mem x.here n ∧ ∀ s, Tab.look y.mem x.here s = lookOf x.mem T k s := by
    cases k with
    | none => obtain rfl : n = slots := hn; exact Tab.new_law hx n n1 n2 (by omega)
    | some j =>
      have hj := hk j rfl
      have hn : n = (Ref.get L j).slots := hn
      have hl := h.lay j hj
      exact Tab.copy_law hx (by rw [hn]; exact h.fine j hj) (by rw [hn]; omega) (by omega)
  obtain ⟨size, hsize⟩ : ∃ size : Int, size = sizeOf L k := ⟨_, rfl⟩
  have hs64 : In64 size := by
    cases k with
    | none => rw [hsize]; exact ⟨by show -_ ≤ (8 : Int); decide, by show (8 : Int) ≤ _; decide⟩
    | some j =>
      have hj := hk j rfl
      have := x.mem.cell_bd (nth A j + 16)
      rw [(h.cells j hj).2.2.1] at this
      rw [hsize]
      exact this
  have hroot : (x.mem.cell root).1 = prevAt A L.length := by rw [h.last]
  have hprev : In64 (prevAt A L.length) := by
    have := x.mem.cell_bd root
    rw [hroot] at this
    exact this
  have hpar : In64 (parentAt A k) := by
    cases k with
    | none => exact ⟨by show -_ ≤ (0 : Int); decide, by show (0 : Int) ≤ _; decide⟩
    | some j =>
      have hj := hk j rfl
      have := h.pos hj
      show In64 (nth A j)
      unfold In64
      omega
  have hm5 : make5 x root (parentAt A k) slots = (y.wr [magic, parentAt A k, size, x.here, prevAt A L.length], y.here, 0) := by
    unfold make5
    rw [h.last, if_neg (by simp)]
    cases k with
    | none =>
      rw [if_pos (show parentAt A none = 0 from rfl), show Tab.new x slots = (y, x.here, 0) from e, hsize]
      exact rest_law x root _ y x.here 8 _ hy (by omega) hroot
    | some j =>
      have hj := hk j rfl
      have hp := h.pos hj
      rw [if_neg (by show ¬ nth A j = 0; omega), if_neg (by show ¬ Class.is x.mem root (nth A j) = false; rw [h.is hj]; simp)]
      show make5.rest x root (nth A j) (Tab.copy x (Class.read x.mem (nth A j)).1.table) (Class.read x.mem (nth A j)).1.size = _
      rw [h.read hj]
      show make5.rest x root (nth A j) (Tab.copy x (nth T j)) (Ref.get L j).size = _
      rw [show Tab.copy x (nth T j) = (y, x.here, 0) from e, hsize]
      exact rest_law x root _ y x.here _ _ hy (by omega) hroot
  have hz5 : (y.wr [magic, parentAt A k, size, x.here, prevAt A L.length]).mem.size = x.mem.size := by rw [← y4]; exact Mem.wcells_size _ _ _
  have hin := Mem.wcells_in y.mem y.here [magic, parentAt A k, size, x.here, prevAt A L.length] hy.al (by omega) (by simp only [List.length_cons, List.length_nil]; omega) (by
    intro v hv
    simp only [List.mem_cons, List.not_mem_nil, or_false] at hv
    rcases hv with rfl | rfl | rfl | rfl | rfl
    · exact ⟨by decide, by decide⟩
    · exact hpar
    · exact hs64
    · unfold In64; omega
    · exact hprev)
  have hout := fun b hb => Mem.wcells_out y.mem y.here [magic, parentAt A k, size, x.here, prevAt A L.length] b hb
  have c0 := hin 0 (by simp)
  have c1 := hin 1 (by simp)
  have c2 := hin 2 (by simp)
  have c3 := hin 3 (by simp)
  have c4 := hin 4 (by simp)
  clear hin
  have hal5 : (y.wr [magic, parentAt A k, size, x.here, prevAt A L.length]).Al := hy.wr (by simp only [List.length_cons, List.length_nil]; omega)
  have hw : (y.wr [magic, parentAt A k, size, x.here, prevAt A L.length]).mem = y.mem.wcells y.here [magic, parentAt A k, size, x.here, prevAt A L.length] := rfl
  have hwh : (y.wr [magic, parentAt A k, size, x.here, prevAt A L.length]).here = y.here + 40 := by show y.here + 8 * _ = _; simp
  have hwl : (y.wr [magic, parentAt A k, size, x.here, prevAt A L.length]).lo = y.lo := rfl
  have hwt : (y.wr [magic, parentAt A k, size, x.here, prevAt A L.length]).to = y.to := rfl
  rw [← hw] at c0 c1 c2 c3 c4 hout
  generalize y.wr [magic, parentAt A k, size, x.here, prevAt A L.length] = z at hm5 hz5 c0 c1 c2 c3 c4 hout hal5 hwh hwl hwt
  have hra : z.mem.at_ root = 0 := by rw [Mem.at_zero]; omega
  have hnew : Class.new x root (parentAt A k) slots = ({ z with mem := (z.mem.setCell root y.here).1 }, y.here, 0) := by
    unfold Class.new
    rw [hm5, if_neg (by simp)]
    simp only
    rw [Mem.setCell_code, hra]
  have hset := fun b hb => Mem.cell_set_apart z.mem root y.here b hb
  have hsame := Mem.cell_set_same z.mem root y.here hra (by omega) (by omega)
  have hsz : (z.mem.setCell root y.here).1.size = x.mem.size := by rw [Mem.setCell_size, hz5]
  generalize (z.mem.setCell root y.here).1 = m' at hnew hset hsame hsz
  rw [y3] at hnew hsame
  refine ⟨_, hnew, ⟨⟨?_, ?_, ?_, ?_⟩, hal5.al⟩, ?_, ?_, ?_, hsz, ?_, ?_⟩
  · exact hal5.ok.1
  · exact hal5.ok.2.1
  · exact hal5.ok.2.2.1
  · show z.to ≤ m'.size; rw [hsz, ← hz5]; exact hal5.ok.2.2.2
  · show z.lo = _; omega
  · show z.to = _; omega
  · show z.here = _; omega
  · intro b hb hbr
    have hb : b < x.here ∨ z.here ≤ b := hb
    show m'.cell b = _
    rw [hset b hbr, hout b (by simp only [List.length_cons, List.length_nil]; omega), y5 b (by omega)]
  have hh : z.here = x.here + (2 + n * 3) * 8 + 40 := by omega
  rw [new_last]
  show Good m' root _ _ _ z.here
  rw [hh, ← hsize, ← hn]
  simp only [List.length_cons, List.length_nil] at hout
  have ne : ∀ b, hi ≤ b → b ≠ root := by intro b hb; omega
  have tabc : ∀ a, x.here ≤ a → a < x.here + (2 + n * 3) * 8 → m'.cell a = y.mem.cell a := by
    intro a a0 a1
    rw [hset a (by omega), hout a (by omega)]
  have slf : Tab.slots m' x.here = Tab.slots y.mem x.here := by
    have := y6.1
    exact Tab.slots_frame (by rw [hsz, y4]) (by omega) (by rw [this]; exact tabc)
  have rdf : ∀ k, 0 ≤ k → k < Tab.slots y.mem x.here → Tab.read m' x.here k = Tab.read y.mem x.here k := fun k k0 k1 => Tab.read_frame k0 k1 (by rw [y6.1]; exact tabc)
  simp only [List.getElem_cons_zero, List.getElem_cons_succ, y3] at c0 c1 c2 c3 c4
  refine h.snoc k hk x.here n size hsz hhi hx.al n1 n2 (by omega) ?_ hsame ⟨?_, ?_, ?_, ?_, ?_⟩ (Tab.fine_congr slf rdf y6) ?_
  · intro a a0 a1
    rw [hset a a1, hout a (by omega), y5 a (.inl (by omega))]
  · rw [hset _ (by omega)]; simpa using c0
  · rw [hset _ (by omega)]; exact c1
  · rw [hset _ (by omega)]; exact c2
  · rw [hset _ (by omega)]; exact c3
  · rw [hset _ (by omega)]; exact c4
  · intro s
    rw [Tab.look_congr slf rdf]
    exact y7 s
end Good
end Class
end Go.Proofs.Shed
