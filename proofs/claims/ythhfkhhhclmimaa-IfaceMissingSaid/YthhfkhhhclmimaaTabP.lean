/- The plain law's tables: what is found behind an entry that was put. No program in sight; no condition. -/
import Derived.Test.YthhfkhhhclmimaaRefS
set_option linter.unusedVariables false
set_option linter.unusedSimpArgs false
namespace Go.Proofs.Shed
namespace Mem
theorem cell_ok (m : Mem) (a : Int) : (m.cell a).2 = m.at_ a := by
  unfold cell
  split
  · rename_i h; exact h.symm
  · rfl
theorem cell_at (m : Mem) (a : Int) (h : m.at_ a = 0) : m.cell a = (s64 (m.get a.toNat 8), 0) := by
  unfold cell
  rw [if_pos h]
theorem cell_bad (m : Mem) (a : Int) (h : m.at_ a ≠ 0) : m.cell a = (0, m.at_ a) := by
  unfold cell
  rw [if_neg h]
/-- Whether a place has a cell hangs on the size alone. -/
theorem at_size {m m' : Mem} (h : m'.size = m.size) (a : Int) : m'.at_ a = m.at_ a := by
  unfold at_ has
  rw [h]
theorem cell_of_get {m m' : Mem} (h : m'.size = m.size) (a : Int) (hg : m.at_ a = 0 → m'.get a.toNat 8 = m.get a.toNat 8) : m'.cell a = m.cell a := by
  by_cases h0 : m.at_ a = 0
  · rw [cell_at m a h0, cell_at m' a (by rw [at_size h]; exact h0), hg h0]
  · rw [cell_bad m a h0, cell_bad m' a (by rw [at_size h]; exact h0), at_size h]
theorem setCell_at (m : Mem) (a n b : Int) : (m.setCell a n).1.at_ b = m.at_ b := at_size (m.setCell_size a n) b
theorem cell_set_same (m : Mem) (a n : Int) (h : m.at_ a = 0) (h0 : -9223372036854775808 ≤ n) (h1 : n ≤ 9223372036854775807) : (m.setCell a n).1.cell a = (n, 0) := by
  rw [cell_at _ _ (by rw [setCell_at]; exact h)]
  unfold setCell
  rw [if_pos h]
  simp only
  rw [get_put_same, Nat.mod_eq_of_lt (by have := u64_lt n; omega), s64_u64 n h0 h1]
theorem cell_set_apart (m : Mem) (a n b : Int) (h : b ≠ a) : (m.setCell a n).1.cell b = m.cell b := by
  apply cell_of_get (m.setCell_size a n)
  intro hb
  unfold setCell
  split
  · rename_i ha
    rw [at_zero] at ha hb
    simp only
    rw [get_put_apart _ _ _ _ _ _ (by omega)]
  · rfl
theorem setCell_code (m : Mem) (a n : Int) : (m.setCell a n).2 = m.at_ a := by
  unfold setCell
  split
  · rename_i h; exact h.symm
  · rfl
theorem text_code (m : Mem) (a n : Int) (h : m.has a n = true) : m.text a n = (bytesN n.toNat (m.get a.toNat n.toNat), 0) := by
  unfold text
  rw [if_pos h]
theorem get_get (m : Mem) (a n i k : Nat) (h : i + k ≤ n) : ((m.get a n) >>> (8 * i)) % 2 ^ (8 * k) = m.get (a + i) k := by
  apply Nat.eq_of_testBit_eq
  intro j
  rw [Nat.testBit_mod_two_pow, Nat.testBit_shiftRight, get_bit, get_bit, show 8 * a + (8 * i + j) = 8 * (a + i) + j by omega]
  by_cases hj : j < 8 * k
  · have : 8 * i + j < 8 * n := by omega
    simp [hj, this]
  · simp [hj]
/-- A text that is copied: its code, and what is read behind it. -/
theorem copy_code (m : Mem) (t u n : Int) (ht : m.has t n = true) (hu : m.has u n = true) : (m.setText u (m.text t n).1).2 = 0 := by
  rw [text_code m t n ht]
  rw [has_iff] at ht
  unfold setText
  rw [bytesN_len, show ((n.toNat : Nat) : Int) = n by omega, if_pos hu]
theorem copy_in (m : Mem) (t u n i : Int) (ht : m.has t n = true) (hu : m.has u n = true) (t8 : t % 8 = 0) (u8 : u % 8 = 0) (i8 : i % 8 = 0) (h0 : 0 ≤ i) (h1 : i + 8 ≤ n) :
    (m.setText u (m.text t n).1).1.cell (u + i) = m.cell (t + i) := by
  rw [text_code m t n ht]
  rw [has_iff] at ht hu
  have hsz : (m.setText u (bytesN n.toNat (m.get t.toNat n.toNat))).1.size = m.size := m.setText_size _ _
  have ha : m.at_ (t + i) = 0 := by rw [at_zero]; omega
  have hb : m.at_ (u + i) = 0 := by rw [at_zero]; omega
  rw [cell_at _ _ ha, cell_at _ _ (by rw [at_size hsz]; exact hb)]
  unfold setText
  rw [bytesN_len, show ((n.toNat : Nat) : Int) = n by omega, if_pos (by rw [has_iff]; omega)]
  simp only
  rw [get_put_in _ _ _ _ _ _ (by omega) (by omega), leN_bytesN, Nat.mod_eq_of_lt (m.get_lt _ _), get_get _ _ _ _ _ (by omega)]
  rw [show t.toNat + ((u + i).toNat - u.toNat) = (t + i).toNat by omega]
theorem copy_out (m : Mem) (t u n b : Int) (ht : m.has t n = true) (hb : b + 8 ≤ u ∨ u + n ≤ b) : (m.setText u (m.text t n).1).1.cell b = m.cell b := by
  rw [text_code m t n ht]
  rw [has_iff] at ht
  apply cell_of_get (m.setText_size _ _)
  intro h0
  unfold setText
  split
  · rename_i hu
    rw [bytesN_len, has_iff] at hu
    rw [at_zero] at h0
    simp only
    rw [get_put_apart _ _ _ _ _ _ (by rw [bytesN_len]; omega)]
  · rfl
end Mem
end Go.Proofs.Shed

namespace Go.Proofs.Shed
namespace Tab

/-- What is found by a probe that begins at the slot h of n. -/
def Hit (f : Int → Int) (n h s i : Int) : Prop := 0 ≤ i ∧ i < n ∧ (f ((h + i) % n) = s ∨ f ((h + i) % n) = 0) ∧ ∀ j, 0 ≤ j → j < i → f ((h + j) % n) ≠ s ∧ f ((h + j) % n) ≠ 0
theorem probeN_spec (m : Mem) (t s n : Int) (k : Nat) (i : Int) (h0 : 0 ≤ i) (hk : i + k = n) (hb : ∀ j, 0 ≤ j → j < i → (read m t ((home s n + j) % n)).sel ≠ s ∧ (read m t ((home s n + j) % n)).sel ≠ 0) :
    ((probeN m t s n k i).1 = -1 ∧ ∀ j, 0 ≤ j → j < n → (read m t ((home s n + j) % n)).sel ≠ s ∧ (read m t ((home s n + j) % n)).sel ≠ 0) ∨
    (∃ j, (probeN m t s n k i).1 = (home s n + j) % n ∧ Hit (fun k => (read m t k).sel) n (home s n) s j) := by
  induction k generalizing i with
  | zero => exact .inl ⟨rfl, fun j h1 h2 => hb j h1 (by omega)⟩
  | succ k ih =>
    rw [probeN]
    split
    · rename_i h
      exact .inr ⟨i, rfl, h0, by omega, h, hb⟩
    · rename_i h
      refine ih (i + 1) (by omega) (by omega) fun j h1 h2 => ?_
      by_cases he : j = i
      · subst he; exact ⟨fun e => h (.inl e), fun e => h (.inr e)⟩
      · exact hb j h1 (by omega)
/-- Each slot is met. -/
theorem round_all (n h k : Int) (h0 : 0 ≤ k) (h1 : k < n) : ∃ j, 0 ≤ j ∧ j < n ∧ (h + j) % n = k := by
  refine ⟨(k - h) % n, Int.emod_nonneg _ (by omega), Int.emod_lt_of_pos _ (by omega), ?_⟩
  rw [Int.add_emod_emod, show h + (k - h) = k by omega, Int.emod_eq_of_lt h0 h1]
theorem round_one (n h i j : Int) (hi : 0 ≤ i) (hi' : i < n) (hj : 0 ≤ j) (hj' : j < n) (e : (h + i) % n = (h + j) % n) : i = j := by
  have h1 : (h + i - (h + j)) % n = 0 := by
    rw [Int.sub_emod, e]
    simp
  rw [show h + i - (h + j) = i - j by omega] at h1
  obtain ⟨q, hq⟩ := Int.dvd_of_emod_eq_zero h1
  by_cases h0 : q = 0
  · subst h0; omega
  · exfalso
    by_cases hp : 0 < q
    · have := Int.mul_le_mul_of_nonneg_left (show 1 ≤ q by omega) (show 0 ≤ n by omega)
      omega
    · have := Int.mul_le_mul_of_nonneg_left (show q ≤ -1 by omega) (show 0 ≤ n by omega)
      omega
theorem probe_spec (m : Mem) (t s n : Int) (hn : slots m t = n) :
    ((probe m t s).1 = -1 ∧ ∀ k, 0 ≤ k → k < n → (read m t k).sel ≠ s ∧ (read m t k).sel ≠ 0) ∨
    (∃ j, (probe m t s).1 = (home s n + j) % n ∧ Hit (fun k => (read m t k).sel) n (home s n) s j) := by
  have hb := slots_bd m t
  unfold probe
  rw [hn]
  rcases probeN_spec m t s n n.toNat 0 (Int.le_refl _) (by omega) (fun j h1 h2 => by omega) with ⟨h1, h2⟩ | h
  · refine .inl ⟨h1, fun k k0 k1 => ?_⟩
    obtain ⟨j, j0, j1, e⟩ := round_all n (home s n) k k0 k1
    have := h2 j j0 j1
    rwa [e] at this
  · exact .inr h
theorem probe_hit (m : Mem) (t s n j : Int) (hn : slots m t = n) (h : Hit (fun k => (read m t k).sel) n (home s n) s j) : (probe m t s).1 = (home s n + j) % n := by
  obtain ⟨j0, j1, hm, hb⟩ := h
  have hr0 := Int.emod_nonneg (home s n + j) (show n ≠ 0 by omega)
  have hr1 := Int.emod_lt_of_pos (home s n + j) (show 0 < n by omega)
  rcases probe_spec m t s n hn with ⟨_, h2⟩ | ⟨i, hi, i0, i1, hm', hb'⟩
  · have := h2 _ hr0 hr1
    simp only at hm
    omega
  · rw [hi]
    by_cases h1 : i < j
    · have := hb i i0 h1
      simp only at hm' this
      omega
    · by_cases h2 : j < i
      · have := hb' j j0 h2
        simp only at hm this
        omega
      · rw [show i = j by omega]

/-- A table of n slots in which each selector is found where it stands. -/
def Fine (m : Mem) (t n : Int) : Prop := slots m t = n ∧ 1 ≤ n ∧ ∀ k, 0 ≤ k → k < n → (read m t k).sel ≠ 0 → 1 ≤ (read m t k).sel ∧ (probe m t (read m t k).sel).1 = k
def look (m : Mem) (t s : Int) : Option Ent := if (get m t s).2.2 then some (get m t s).1 else none
theorem look_eq (m : Mem) (t s : Int) : look m t s = if (probe m t s).1 < 0 ∨ s < 1 then none else if (read m t (probe m t s).1).sel ≠ s then none else some (read m t (probe m t s).1) := by
  unfold look get
  by_cases h1 : (probe m t s).1 < 0 ∨ s < 1
  · rw [if_pos h1, if_pos h1]; rfl
  · rw [if_neg h1, if_neg h1]
    by_cases h2 : (read m t (probe m t s).1).sel ≠ s
    · rw [if_pos h2, if_pos h2]; rfl
    · rw [if_neg h2, if_neg h2]; rfl
theorem look_low (m : Mem) (t s : Int) (h : s < 1) : look m t s = none := by rw [look_eq, if_pos (.inr h)]
theorem look_some {m : Mem} {t n : Int} (h : Fine m t n) (k s : Int) (k0 : 0 ≤ k) (k1 : k < n) (hs : (read m t k).sel = s) (s1 : 1 ≤ s) : look m t s = some (read m t k) := by
  have hp := (h.2.2 k k0 k1 (by omega)).2
  rw [hs] at hp
  rw [look_eq, hp, if_neg (by omega), if_neg (by rw [hs]; simp)]
theorem look_cases {m : Mem} {t n : Int} (hn : slots m t = n) {s : Int} {e : Ent} (hl : look m t s = some e) : ∃ k, 0 ≤ k ∧ k < n ∧ read m t k = e ∧ e.sel = s ∧ 1 ≤ s := by
  rw [look_eq] at hl
  have hb := probe_bd m t s
  split at hl
  · cases hl
  · split at hl
    · cases hl
    · cases hl
      exact ⟨_, by omega, by omega, rfl, by omega, by omega⟩
theorem look_none {m : Mem} {t n : Int} (hn : slots m t = n) {s : Int} (h : ∀ k, 0 ≤ k → k < n → (read m t k).sel ≠ s) : look m t s = none := by
  cases hl : look m t s with
  | none => rfl
  | some e =>
    obtain ⟨k, k0, k1, he, hs, _⟩ := look_cases hn hl
    exact absurd (by rw [he]; exact hs) (h k k0 k1)
theorem look_get (m : Mem) (t s : Int) : (get m t s).2.2 = (look m t s).isSome := by
  unfold look
  cases (get m t s).2.2 <;> rfl
theorem look_ent {m : Mem} {t s : Int} {e : Ent} (h : look m t s = some e) : (get m t s).1 = e := by
  unfold look at h
  split at h
  · exact Option.some.inj h
  · cases h

/-- Another table with the same in it. -/
theorem probe_congr {m m' : Mem} {t t' : Int} (hs : slots m' t' = slots m t) (hr : ∀ k, 0 ≤ k → k < slots m t → (read m' t' k).sel = (read m t k).sel) (s : Int) : probe m' t' s = probe m t s := by
  have hb := slots_bd m t
  unfold probe
  rw [hs]
  by_cases h0 : slots m t = 0
  · rw [h0]; rfl
  · generalize (slots m t).toNat = k
    generalize (0 : Int) = i
    induction k generalizing i with
    | zero => rfl
    | succ k ih =>
      have := hr ((home s (slots m t) + i) % slots m t) (Int.emod_nonneg _ h0) (Int.emod_lt_of_pos _ (by omega))
      rw [probeN, probeN, this, ih]
theorem get_congr {m m' : Mem} {t t' : Int} (hs : slots m' t' = slots m t) (hr : ∀ k, 0 ≤ k → k < slots m t → read m' t' k = read m t k) (s : Int) : get m' t' s = get m t s := by
  unfold get
  rw [probe_congr hs (fun k h0 h1 => by rw [hr k h0 h1]) s]
  have hb := probe_bd m t s
  by_cases h1 : (probe m t s).1 < 0 ∨ s < 1
  · rw [if_pos h1, if_pos h1]
  · rw [if_neg h1, if_neg h1, hr _ (by omega) (by omega)]
theorem look_congr {m m' : Mem} {t t' : Int} (hs : slots m' t' = slots m t) (hr : ∀ k, 0 ≤ k → k < slots m t → read m' t' k = read m t k) (s : Int) : look m' t' s = look m t s := by
  unfold look
  rw [get_congr hs hr s]
theorem fine_congr {m m' : Mem} {t t' n : Int} (hs : slots m' t' = slots m t) (hr : ∀ k, 0 ≤ k → k < slots m t → read m' t' k = read m t k) (h : Fine m t n) : Fine m' t' n := by
  obtain ⟨h1, h2, h3⟩ := h
  refine ⟨by rw [hs, h1], h2, fun k k0 k1 => ?_⟩
  rw [hr k k0 (by omega), probe_congr hs (fun k h0 h1 => by rw [hr k h0 h1])]
  exact h3 k k0 k1
theorem slots_of {m : Mem} {t n : Int} (hc : m.cell t = (n, 0)) (n1 : 1 ≤ n) (n2 : n ≤ 1024) (h : t + (2 + n * 3) * 8 ≤ m.size) : slots m t = n := by
  have h0 : m.at_ t = 0 := by rw [← Mem.cell_ok, hc]
  rw [Mem.at_zero] at h0
  unfold slots
  rw [hc]
  simp only
  rw [if_neg (by omega), Mem.text_code _ _ _ (by rw [Mem.has_iff]; omega)]
  rfl
theorem slots_cell {m : Mem} {t n : Int} (h : slots m t = n) (n1 : 1 ≤ n) : m.cell t = (n, 0) := by
  unfold slots at h
  split at h
  · omega
  · rename_i h1
    split at h
    · omega
    · have : (m.cell t).2 = 0 := by omega
      rw [← h, ← this]
/-- The cells of a table tell what is in it. -/
theorem slots_frame {m m' : Mem} {t : Int} (hz : m'.size = m.size) (h1 : 1 ≤ slots m t) (hc : ∀ a, t ≤ a → a < t + (2 + slots m t * 3) * 8 → m'.cell a = m.cell a) : slots m' t = slots m t := by
  have hb := slots_bd m t
  have hi := slots_in m t (by omega)
  refine slots_of ?_ h1 hb.2 (by rw [hz]; exact hi.2.2)
  rw [hc t (Int.le_refl _) (by omega)]
  exact slots_cell rfl h1
theorem read_frame {m m' : Mem} {t n k : Int} (k0 : 0 ≤ k) (k1 : k < n) (hc : ∀ a, t ≤ a → a < t + (2 + n * 3) * 8 → m'.cell a = m.cell a) : read m' t k = read m t k := by
  unfold read pos
  rw [hc _ (by omega) (by omega), hc _ (by omega) (by omega), hc _ (by omega) (by omega)]

/-- The selectors that stand in a table. -/
def used (m : Mem) (t n : Int) : List Int := ((List.range n.toNat).filter (fun (k : Nat) => (read m t k).sel ≠ 0)).map (fun (k : Nat) => (read m t k).sel)
theorem used_mem {m : Mem} {t n : Int} (h : Fine m t n) (s : Int) : s ∈ used m t n ↔ (look m t s).isSome = true := by
  unfold used
  constructor
  · intro hm
    rw [List.mem_map] at hm
    obtain ⟨k, hk, he⟩ := hm
    rw [List.mem_filter, List.mem_range] at hk
    have hk2 := of_decide_eq_true hk.2
    have := h.2.2 k (by omega) (by omega) hk2
    rw [look_some h k s (by omega) (by omega) he (by omega)]
    rfl
  · intro hl
    obtain ⟨e, he⟩ := Option.isSome_iff_exists.1 hl
    obtain ⟨k, k0, k1, hr, hs, s1⟩ := look_cases h.1 he
    rw [List.mem_map]
    refine ⟨k.toNat, ?_, ?_⟩
    · rw [List.mem_filter, List.mem_range]
      refine ⟨by omega, ?_⟩
      rw [show ((k.toNat : Nat) : Int) = k by omega, hr]
      exact decide_eq_true (by omega)
    · rw [show ((k.toNat : Nat) : Int) = k by omega, hr, hs]
theorem used_nodup {m : Mem} {t n : Int} (h : Fine m t n) : (used m t n).Nodup := by
  unfold used
  have hf : ((List.range n.toNat).filter (fun (k : Nat) => (read m t k).sel ≠ 0)).Nodup := List.Nodup.sublist List.filter_sublist List.nodup_range
  rw [List.nodup_iff_pairwise_ne, List.pairwise_map]
  refine List.Pairwise.imp_of_mem ?_ hf
  intro a b ha hb hab e
  rw [List.mem_filter, List.mem_range] at ha hb
  have h1 := (h.2.2 a (by omega) (by omega) (of_decide_eq_true ha.2)).2
  have h2 := (h.2.2 b (by omega) (by omega) (of_decide_eq_true hb.2)).2
  rw [e, h2] at h1
  omega
theorem filter_lt {α : Type} (p : α → Bool) (l : List α) (x : α) (hx : x ∈ l) (hp : p x = false) : (l.filter p).length < l.length := by
  induction l with
  | nil => cases hx
  | cons a l ih =>
    rw [List.filter_cons]
    have hle := List.length_filter_le p l
    rcases List.mem_cons.1 hx with rfl | h
    · rw [hp, List.length_cons]
      simp only [Bool.false_eq_true, if_false]
      omega
    · have := ih h
      split <;> simp only [List.length_cons] <;> omega
theorem may_iff {m : Mem} {t n : Int} (h : Fine m t n) (s : Int) (s1 : 1 ≤ s) : may m t s = true ↔ (look m t s).isSome = true ∨ (used m t n).length < n := by
  have hlen : (used m t n).length = ((List.range n.toNat).filter (fun (k : Nat) => (read m t k).sel ≠ 0)).length := by unfold used; rw [List.length_map]
  have hmay : may m t s = true ↔ 0 ≤ (probe m t s).1 := by
    unfold may
    simp only [Bool.and_eq_true, decide_eq_true_eq]
    omega
  rw [hmay, hlen]
  rcases probe_spec m t s n h.1 with ⟨h1, h2⟩ | ⟨j, hj, j0, j1, hm, hb⟩
  · rw [look_none h.1 (fun k k0 k1 => (h2 k k0 k1).1)]
    have : (List.range n.toNat).filter (fun (k : Nat) => (read m t k).sel ≠ 0) = List.range n.toNat := by
      rw [List.filter_eq_self]
      intro k hk
      rw [List.mem_range] at hk
      exact decide_eq_true (h2 k (by omega) (by omega)).2
    rw [this, List.length_range]
    simp
    omega
  · have hr0 := Int.emod_nonneg (home s n + j) (show n ≠ 0 by omega)
    have hr1 := Int.emod_lt_of_pos (home s n + j) (show 0 < n by omega)
    rw [hj]
    refine ⟨fun _ => ?_, fun _ => hr0⟩
    rcases hm with hm | hm
    · left
      rw [look_some h _ s hr0 hr1 hm s1]
      rfl
    · right
      have := filter_lt (fun (k : Nat) => decide ((read m t k).sel ≠ 0)) (List.range n.toNat) ((home s n + j) % n).toNat (by rw [List.mem_range]; omega) (by
        rw [show ((((home s n + j) % n).toNat : Nat) : Int) = (home s n + j) % n by omega]
        exact decide_eq_false (by intro h; exact h hm))
      rw [List.length_range] at this
      omega

/-- A table in which one slot holds an entry of the selector that a probe found it for. -/
theorem put_fine {m m' : Mem} {t n r : Int} {x : Ent} (h : Fine m t n) (hs : slots m' t = n) (x1 : 1 ≤ x.sel) (hr : (probe m t x.sel).1 = r) (r0 : 0 ≤ r) (hx : read m' t r = x)
    (ho : ∀ k, 0 ≤ k → k < n → k ≠ r → read m' t k = read m t k) : Fine m' t n ∧ ∀ s, look m' t s = if s = x.sel then some x else look m t s := by
  have hn := h.2.1
  have hb := probe_bd m t x.sel
  have hr1 : r < n := by have := h.1; omega
  have fine : Fine m' t n := by
    refine ⟨hs, hn, fun k k0 k1 hk => ?_⟩
    rcases probe_spec m t x.sel n h.1 with ⟨h1, h2⟩ | ⟨i, hi, i0, i1, hm, hbi⟩
    · omega
    by_cases hkr : k = r
    · subst hkr
      rw [hx]
      refine ⟨x1, ?_⟩
      rw [hr] at hi
      rw [hi]
      refine probe_hit m' t x.sel n i hs ⟨i0, i1, .inl (by simp only; rw [← hi, hx]), fun j j0 j1 => ?_⟩
      have := hbi j j0 j1
      have hne : (home x.sel n + j) % n ≠ k := by
        rw [hi]
        intro e
        have := round_one n (home x.sel n) j i j0 (by omega) i0 i1 e
        omega
      simp only at this ⊢
      rw [ho _ (Int.emod_nonneg _ (by omega)) (Int.emod_lt_of_pos _ (by omega)) hne]
      exact this
    · rw [ho k k0 k1 hkr] at hk ⊢
      obtain ⟨k2, k3⟩ := h.2.2 k k0 k1 hk
      refine ⟨k2, ?_⟩
      have hne : (read m t k).sel ≠ x.sel := by intro e; rw [e, hr] at k3; omega
      rcases probe_spec m t (read m t k).sel n h.1 with ⟨h1, h2⟩ | ⟨j, hj, j0, j1, hmj, hbj⟩
      · omega
      · rw [k3] at hj
        conv => rhs; rw [hj]
        refine probe_hit m' t _ n j hs ⟨j0, j1, .inl (by simp only; rw [← hj, ho k k0 k1 hkr]), fun i' a0 a1 => ?_⟩
        have := hbj i' a0 a1
        simp only at this ⊢
        by_cases hir : (home (read m t k).sel n + i') % n = r
        · rw [hir, hx]
          exact ⟨fun e => hne e.symm, by omega⟩
        · rw [ho _ (Int.emod_nonneg _ (by omega)) (Int.emod_lt_of_pos _ (by omega)) hir]
          exact this
  refine ⟨fine, fun s => ?_⟩
  by_cases hsx : s = x.sel
  · rw [if_pos hsx, hsx, look_some fine r x.sel r0 hr1 (by rw [hx]) x1, hx]
  · rw [if_neg hsx]
    cases hl : look m t s with
    | some e =>
      obtain ⟨k, k0, k1, he, hse, s1⟩ := look_cases h.1 hl
      by_cases hkr : k = r
      · exfalso
        subst hkr
        have := (h.2.2 k k0 k1 (by rw [he]; omega)).2
        rcases probe_spec m t x.sel n h.1 with ⟨h1, h2⟩ | ⟨i, hi, i0, i1, hm, hbi⟩
        · omega
        · simp only at hm
          rw [← hi, hr, he] at hm
          omega
      · rw [look_some fine k s k0 k1 (by rw [ho k k0 k1 hkr, he]; exact hse) s1, ho k k0 k1 hkr, he]
    | none =>
      by_cases s1 : s < 1
      · exact look_low _ _ _ s1
      apply look_none fine.1
      intro k k0 k1 hk
      by_cases hkr : k = r
      · subst hkr; rw [hx] at hk; exact hsx hk.symm
      · rw [ho k k0 k1 hkr] at hk
        rw [look_some h k s k0 k1 hk (by omega)] at hl
        cases hl
end Tab
end Go.Proofs.Shed
