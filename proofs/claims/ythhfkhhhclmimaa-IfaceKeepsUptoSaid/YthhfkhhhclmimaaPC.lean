/- Bits of a signed number: the lowest ones away, or alone. No program in sight; no condition but 64 bits. The plain law's interfaces: what was put is read; what is missing is what the walk doesn't find. No program in sight; no condition. The plain law's classes: a class for which there is no room. No program in sight; no condition. The plain law's classes: one whose objects have more bytes. No program in sight; no condition. The plain law of interfaces one behind the other: each stands there. No program in sight; no condition. The chapter's example of layer 12, step by step. No program in sight; no condition. The chapter's example of layer 13, step by step. No program in sight; no condition. -/
import Derived.Test.YthhfkhhhclmimaaPB
import Derived.Test.YthhfkhhhclmimaaPA
import Derived.Laws.BitsAllLaws
set_option linter.unusedVariables false
set_option linter.unusedSimpArgs false
namespace Go.Proofs.Shed
open Go
theorem ofInt_mod (n : Int) : (BitVec.ofInt 64 n).toNat = (n % 18446744073709551616).toNat := by
  rw [BitVec.toNat_ofInt]
  rfl
theorem nat_hi (u j : Nat) (hj : j ≤ 64) (hu : u < 2 ^ 64) : u &&& (2 ^ 64 - 2 ^ j) = u / 2 ^ j * 2 ^ j := by
  apply Nat.eq_of_testBit_eq
  intro i
  have e : 2 ^ 64 - 2 ^ j = (2 ^ (64 - j) - 1) <<< j := by
    rw [Nat.shiftLeft_eq, Nat.sub_mul, ← Nat.pow_add, Nat.one_mul, show 64 - j + j = 64 by omega]
  rw [e, Nat.testBit_and, Nat.testBit_shiftLeft, Nat.testBit_two_pow_sub_one, ← Nat.shiftRight_eq_div_pow, ← Nat.shiftLeft_eq, Nat.testBit_shiftLeft, Nat.testBit_shiftRight]
  by_cases h1 : j ≤ i
  · rw [show j + (i - j) = i by omega]
    by_cases h2 : i < 64
    · have : i - j < 64 - j := by omega
      simp [h1, this]
    · have h3 : u.testBit i = false := Nat.testBit_lt_two_pow (Nat.lt_of_lt_of_le hu (Nat.pow_le_pow_right (by omega) (by omega)))
      simp [h3]
  · simp [h1]
theorem wrap_s (n : Int) : IntKind.i64.wrap n = if n % 18446744073709551616 < 9223372036854775808 then n % 18446744073709551616 else n % 18446744073709551616 - 18446744073709551616 := by
  simp only [IntKind.wrap, IntKind.bits, IntKind.signed]
  show (if (true && decide _) = true then _ else _) = _
  by_cases h : n % 18446744073709551616 < 9223372036854775808
  · rw [if_pos h, if_neg]
    · rfl
    · simp
      show n % 18446744073709551616 < 9223372036854775808
      exact h
  · rw [if_neg h, if_pos]
    · rfl
    · simp
      show 9223372036854775808 ≤ n % 18446744073709551616
      omega
theorem andNot_1 (n : Int) (h0 : -9223372036854775808 ≤ n) (h1 : n ≤ 9223372036854775807) : bits .andNot .i64 n 1 = n - n % 2 := by
  show IntKind.i64.wrap ((BitVec.ofInt 64 n &&& ~~~BitVec.ofInt 64 ((1 : Nat) : Int)).toNat : Int) = _
  rw [BitVec.toNat_and, BitVec.toNat_not, ofInt_mod, ofInt_mod, show ((((1 : Nat) : Int) % 18446744073709551616).toNat) = 1 by rfl, show 2 ^ 64 - 1 - 1 = 2 ^ 64 - 2 ^ 1 by rfl, nat_hi _ 1 (by omega) (by omega), wrap_s]
  omega
theorem andNot_7 (n : Int) (h0 : -9223372036854775808 ≤ n) (h1 : n ≤ 9223372036854775807) : bits .andNot .i64 n 7 = n - n % 8 := by
  show IntKind.i64.wrap ((BitVec.ofInt 64 n &&& ~~~BitVec.ofInt 64 ((7 : Nat) : Int)).toNat : Int) = _
  rw [BitVec.toNat_and, BitVec.toNat_not, ofInt_mod, ofInt_mod, show ((((7 : Nat) : Int) % 18446744073709551616).toNat) = 7 by rfl, show 2 ^ 64 - 1 - 7 = 2 ^ 64 - 2 ^ 3 by rfl, nat_hi _ 3 (by omega) (by omega), wrap_s]
  omega
theorem and_1 (n : Int) : bits .and .i64 n 1 = n % 2 := by
  show IntKind.i64.wrap ((BitVec.ofInt 64 n &&& BitVec.ofInt 64 ((1 : Nat) : Int)).toNat : Int) = _
  rw [BitVec.toNat_and, ofInt_mod, ofInt_mod, show ((((1 : Nat) : Int) % 18446744073709551616).toNat) = 1 by rfl, nat_mask1, wrap_s]
  omega
end Go.Proofs.Shed
set_option linter.unusedVariables false
set_option linter.unusedSimpArgs false
namespace Go.Proofs.Shed
namespace Iface
theorem selsN_law (m : Mem) (a : Int) (l : List Int) (i : Nat) (k : Nat) (hk : i + k = l.length) (hc : ∀ j (h : j < l.length), m.cell (a + 8 * ((j : Nat) + 1)) = (l[j], 0)) : selsN m a k i = some (l.drop i) := by
  induction k generalizing i with
  | zero => rw [selsN, List.drop_eq_nil_of_le (by omega)]
  | succ k ih =>
    have hi : i < l.length := by omega
    rw [selsN, show a + ((i : Int) + 1) * 8 = a + 8 * (i + 1) by omega, hc i hi, if_neg (by simp)]
    have := ih (i + 1) (by omega)
    rw [show ((i + 1 : Nat) : Int) = (i : Int) + 1 by omega] at this
    rw [this, List.drop_eq_getElem_cons hi]
    rfl
theorem sels_law (m : Mem) (a : Int) (l : List Int) (hl : l.length ≤ 1024) (h0 : m.cell a = ((l.length : Int), 0)) (hc : ∀ j (h : j < l.length), m.cell (a + 8 * ((j : Nat) + 1)) = (l[j], 0)) : sels m a = some l := by
  unfold sels
  rw [h0, if_neg (by simp only; omega)]
  have := selsN_law m a l 0 l.length (by omega) hc
  simpa using this
theorem new_room {x : Sp} (h : x.Al) (l : List Int) (hl : l.length ≤ 1024) (hr : x.here + 8 * (l.length + 1) ≤ x.to) : new x l = (x.wr ((l.length : Int) :: l), x.here, 0) := by
  have hc := cells_room ((l.length : Int) :: l) h (by rw [List.length_cons]; omega)
  unfold new newR
  rw [if_neg (by omega), Sp.align_al h.al, hc, if_neg (by simp)]
theorem new_full {x : Sp} (h : x.Al) (l : List Int) (hl : l.length ≤ 1024) (hr : ¬ x.here + 8 * (l.length + 1) ≤ x.to) : ∃ y : Sp, new x l = (y, 0, -8) ∧ y.Al ∧ y.lo = x.lo ∧ y.to = x.to ∧ y.here = x.here ∧ y.mem.size = x.mem.size ∧ ∀ b, (b < x.here ∨ x.to ≤ b) → y.mem.cell b = x.mem.cell b := by
  obtain ⟨y, e, y1, y2, y3, y4, y6, y5⟩ := cells_full ((l.length : Int) :: l) h (by rw [List.length_cons]; omega)
  have o := h.ok
  unfold Sp.Ok at o
  have hb : (y.back x.here).1 = { y with here := x.here } := by
    unfold Sp.back
    rw [if_neg (by omega)]
  refine ⟨{ y with here := x.here }, ?_, ⟨⟨?_, ?_, ?_, ?_⟩, h.al⟩, y2, y3, rfl, y1, y5⟩
  · unfold new newR
    rw [if_neg (by omega), Sp.align_al h.al, e, if_pos (by simp), hb]
  · show 0 ≤ y.lo; omega
  · show y.lo ≤ x.here; omega
  · show x.here ≤ y.to; omega
  · show y.to ≤ y.mem.size; omega
theorem new_sels {x : Sp} (h : x.Al) (l : List Int) (hl : l.length ≤ 1024) (hb : ∀ n ∈ l, In64 n) (hr : x.here + 8 * (l.length + 1) ≤ x.to) (m : Mem) (hm : ∀ b, x.here ≤ b → b < x.here + 8 * (l.length + 1) → m.cell b = (x.wr ((l.length : Int) :: l)).mem.cell b) : sels m x.here = some l := by
  have o := h.ok
  unfold Sp.Ok at o
  have hin := Mem.wcells_in x.mem x.here ((l.length : Int) :: l) h.al (by omega) (by rw [List.length_cons]; omega) (by
    intro n hn
    rcases List.mem_cons.1 hn with rfl | hn
    · unfold In64; omega
    · exact hb n hn)
  refine sels_law m x.here l hl ?_ fun j hj => ?_
  · have := hin 0 (by simp)
    rw [hm _ (Int.le_refl _) (by omega)]
    rw [show x.here + 8 * ((0 : Nat) : Int) = x.here by simp] at this
    exact this
  · have := hin (j + 1) (by simp; omega)
    rw [hm _ (by omega) (by omega)]
    exact this
/-- The first one that isn't known. -/
def first (L : List RCls) (c : Int) (l : List Int) : Int × Int :=
  match l with
  | [] => (0, 0)
  | s :: l => if (Ref.walk L c s).isSome then first L c l else (s, -2050)
theorem missing_law {m : Mem} {root : Int} {A T : List Int} {L : List RCls} {hi : Int} (h : Class.Good m root A T L hi) {c : Nat} (hc : c < L.length) (l : List Int) : missingL m (Class.nth A c) l = first L c l := by
  induction l with
  | nil => rfl
  | cons s l ih => rw [missingL, first, (h.lookup hc s).1, ih]
end Iface
namespace Class
/-- Classes of 6 slots, one behind the other. -/
def Six (x : Sp) (A : List Int) (L : List RCls) : Prop :=
  ∃ T, Good x.mem 8 A T L x.here ∧ x.Al ∧ x.lo = 8 ∧ x.to = 65536 ∧ x.mem.size = 65536 ∧ x.here = 16 + 200 * L.length ∧ ∀ i : Nat, i < L.length → (Ref.get L i).slots = 6
theorem Six.make {x : Sp} {A : List Int} {L : List RCls} (h : Six x A L) (hl : L.length ≤ 100) (k : Option Nat) (hk : ∀ j, k = some j → j < L.length) :
    ∃ (y : Sp) (a : Int), Class.new x 8 (parentAt A k) 6 = (y, a, 0) ∧ Six y (A ++ [a]) (Ref.new L (parentNo k) 6) ∧ x.here < a ∧ Class.is y.mem 8 a = true := by
  obtain ⟨T, hg, ha, h1, h2, h3, h4, h5⟩ := h
  have h6 : (6 : Int) = slotsOf L k 6 := by
    cases k with
    | none => rfl
    | some j => exact (h5 j (hk j rfl)).symm
  obtain ⟨y, e, y0, y1, y2, y3, y4, _, y5⟩ := hg.new ha (Int.le_refl _) k hk 6 6 h6 (by omega) (by omega) (by omega)
  have hn := new_last L k 6
  rw [← h6] at hn
  refine ⟨y, _, e, ⟨_, y5, y0, by omega, by omega, by omega, ?_, ?_⟩, by omega, ?_⟩
  · rw [y3, hn, List.length_append, List.length_singleton]; omega
  · rw [hn]
    intro i hi
    rw [List.length_append, List.length_singleton] at hi
    by_cases hi' : i < L.length
    · rw [Ref.snoc_get L _ i hi']; exact h5 i hi'
    · have : i = L.length := by omega
      subst this
      rw [Ref.snoc_last]
  · have := y5.is (i := L.length) (by rw [hn]; simp)
    rw [← hg.nA, nth_last] at this
    exact this
theorem set_length (L : List RCls) (c : Nat) (sel xt : Int) : (Ref.set L c sel xt).1.length = L.length := by
  unfold Ref.set
  split
  · rfl
  · split
    · rfl
    · exact Ref.put_len _ _ _ _
theorem set_slots (L : List RCls) (c : Nat) (hc : c < L.length) (sel xt : Int) (i : Nat) (hi : i < L.length) : (Ref.get (Ref.set L c sel xt).1 i).slots = (Ref.get L i).slots := by
  unfold Ref.set
  split
  · rfl
  · split
    · rfl
    · exact (Ref.put_parent L c sel xt hc i hi).2.1
theorem Six.set {x : Sp} {A : List Int} {L : List RCls} (h : Six x A L) {c : Nat} (hc : c < L.length) (sel xt : Int) (b1 : In64 sel) (b2 : In64 xt) :
    (Class.set x.mem 8 (nth A c) sel xt).2 = (Ref.set L c sel xt).2 ∧ Six { x with mem := (Class.set x.mem 8 (nth A c) sel xt).1 } A (Ref.set L c sel xt).1 := by
  obtain ⟨T, hg, ha, h1, h2, h3, h4, h5⟩ := h
  obtain ⟨s1, s2, s3, s4⟩ := hg.set hc sel xt b1 b2
  have o := ha.ok
  unfold Sp.Ok at o
  refine ⟨s1, ⟨T, s4, ⟨⟨o.1, o.2.1, o.2.2.1, ?_⟩, ha.al⟩, h1, h2, ?_, ?_, ?_⟩⟩
  · show x.to ≤ (Class.set x.mem 8 (nth A c) sel xt).1.size; omega
  · show (Class.set x.mem 8 (nth A c) sel xt).1.size = 65536; omega
  · rw [set_length]; exact h4
  · intro i hi
    rw [set_length] at hi
    rw [set_slots L c hc sel xt i hi]
    exact h5 i hi
/-- An interface behind the classes, and what it misses. -/
theorem Six.iface {x : Sp} {A : List Int} {L : List RCls} (h : Six x A L) (hl : L.length ≤ 100) (l : List Int) (hb : ∀ n ∈ l, In64 n) (hn : l.length ≤ 100) :
    ∃ y : Sp, Iface.new x l = (y, x.here, 0) ∧ y.Ok ∧ y.mem.size = 65536 ∧ Iface.missing y.mem x.here 3 = (0, -2048) ∧ ∀ c : Nat, c < L.length → Iface.missing y.mem x.here (nth A c) = Iface.first L c l := by
  obtain ⟨T, hg, ha, h1, h2, h3, h4, h5⟩ := h
  have hr : x.here + 8 * (l.length + 1) ≤ x.to := by omega
  have hsz : (x.wr ((l.length : Int) :: l)).mem.size = 65536 := by rw [← h3]; exact Mem.wcells_size _ _ _
  have hal : (x.wr ((l.length : Int) :: l)).Al := ha.wr (by rw [List.length_cons]; omega)
  have hs := Iface.new_sels ha l (by omega) hb hr (x.wr ((l.length : Int) :: l)).mem (fun _ _ _ => rfl)
  have hg' : Good (x.wr ((l.length : Int) :: l)).mem 8 A T L x.here := hg.frame (hsz.trans h3.symm) (fun a ha => Mem.wcells_out _ _ _ _ (.inl ha)) (Int.le_refl _) (by have := hg.top; omega)
  refine ⟨_, Iface.new_room ha l (by omega) hr, hal.ok, hsz, ?_, fun c hc => ?_⟩
  · unfold Iface.missing
    rw [hs]
    have : (Class.read (x.wr ((l.length : Int) :: l)).mem 3).2 = false := by
      unfold Class.read
      rw [if_pos (.inl (by rw [Mem.cell_ok, Ne, Mem.at_zero]; omega))]
    simp only
    rw [this]
    rfl
  · unfold Iface.missing
    rw [hs]
    simp only
    rw [hg'.read hc, if_neg (by simp)]
    exact Iface.missing_law hg' hc l
/-- A space without classes. -/
theorem Six.start (y : Sp) (e : Class.root ⟨Mem.zero 65536, 8, 65536, 8⟩ = (y, 8, 0)) : Six y [] [] := by
  have ha : Sp.Al ⟨Mem.zero 65536, 8, 65536, 8⟩ := ⟨⟨by decide, by decide, by decide, by decide⟩, by decide⟩
  have hc := Sp.comma_room ha (by decide) 0
  unfold Class.root at e
  rw [Sp.align_al (by decide), if_neg (by simp)] at e
  simp only at e
  rw [hc, if_neg (by simp)] at e
  have hy : y = Sp.wr ⟨Mem.zero 65536, 8, 65536, 8⟩ [0] := (Prod.mk.inj e).1.symm
  have hal : y.Al := by rw [hy]; exact ha.wr (by decide)
  have hz : y.mem.size = 65536 := by rw [hy]; exact Mem.wcells_size _ _ _
  have hh : y.here = 16 := by rw [hy]; rfl
  refine ⟨[], ⟨rfl, rfl, fun i hi => absurd hi (by simp), fun i hi => absurd hi (by simp), by omega, by omega, fun i hi => absurd hi (by simp), fun i j _ hi => absurd hi (by simp), ?_, fun i hi => absurd hi (by simp), fun i hi => absurd hi (by simp), fun i hi => absurd hi (by simp)⟩, hal, by rw [hy]; rfl, by rw [hy]; rfl, hz, by rw [hh]; rfl, fun i hi => absurd hi (by simp)⟩
  rw [hy]
  exact Mem.cell_set_same _ _ _ (by decide) (by decide) (by decide)
end Class
end Go.Proofs.Shed
set_option linter.unusedVariables false
set_option linter.unusedSimpArgs false
namespace Go.Proofs.Shed
namespace Tab
theorem newN_cells (slots : Int) (k : Nat) (i : Int) (x : Sp) : newN slots k i x = Iface.cells (zeros slots k i) (x, 0) := by
  induction k generalizing x i with
  | zero => rfl
  | succ k ih =>
    rw [newN, zeros_succ, Iface.cells, if_pos rfl]
    simp only
    obtain ⟨r, hr⟩ : ∃ r, x.comma (if i = 0 then slots else 0) = r := ⟨_, rfl⟩
    rw [hr]
    obtain ⟨y, e⟩ := r
    by_cases he : e = 0
    · subst he
      rw [if_neg (by simp)]
      exact ih _ _
    · rw [if_pos (by simpa using he), Iface.cells_err _ _ _ he]
/-- Without room there is no table, and no less is taken. -/
theorem new_full {x : Sp} (h : x.Al) (slots : Int) (s1 : 1 ≤ slots) (s2 : slots ≤ 1024) (hr : ¬ x.here + (2 + slots * 3) * 8 ≤ x.to) :
    ∃ y : Sp, new x slots = (y, 0, -8) ∧ y.mem.size = x.mem.size ∧ y.lo = x.lo ∧ y.to = x.to ∧ y.here = x.here ∧ ∀ b, (b < x.here ∨ x.to ≤ b) → y.mem.cell b = x.mem.cell b := by
  obtain ⟨y, e, y1, y2, y3, y4, y6, y5⟩ := Iface.cells_full (zeros slots (2 + slots * 3).toNat 0) h (by rw [zeros_len]; omega)
  have o := h.ok
  unfold Sp.Ok at o
  have hb : (y.back x.here).1 = { y with here := x.here } := by
    unfold Sp.back
    rw [if_neg (by omega)]
  refine ⟨{ y with here := x.here }, ?_, y1, y2, y3, rfl, y5⟩
  unfold new
  rw [if_neg (by omega), Sp.align_al h.al, if_neg (by simp)]
  simp only
  rw [newN_cells, e, if_pos (by simp), hb]
end Tab
namespace Class
theorem cells_iface (l : List Int) (x : Sp) (a : Int) : make5.cells x l a = ((Iface.cells l (x, 0)).1, if (Iface.cells l (x, 0)).2 ≠ 0 then 0 else a, (Iface.cells l (x, 0)).2) := by
  induction l generalizing x with
  | nil => rfl
  | cons n l ih =>
    rw [make5.cells, Iface.cells, if_pos rfl]
    simp only
    obtain ⟨r, hr⟩ : ∃ r, x.comma n = r := ⟨_, rfl⟩
    rw [hr]
    obtain ⟨y, e⟩ := r
    by_cases he : e = 0
    · subst he
      rw [if_neg (by simp)]
      exact ih _
    · rw [if_pos (by simpa using he), Iface.cells_err _ _ _ he, if_pos (by simpa using he)]
theorem back_law (y : Sp) (here : Int) (h : y.lo ≤ here ∧ here ≤ y.here) : (y.back here).1 = { y with here := here } := by
  unfold Sp.back
  rw [if_neg (by omega)]
namespace Good
variable {root : Int} {A T : List Int} {L : List RCls} {hi : Int}
theorem full {x : Sp} (h : Good x.mem root A T L hi) (hx : x.Al) (hhi : hi ≤ x.here) (k : Option Nat) (hk : ∀ j, k = some j → j < L.length) (slots n : Int)
    (hn : n = slotsOf L k slots) (n1 : 1 ≤ n) (n2 : n ≤ 1024) (hr : ¬ x.here + (2 + n * 3) * 8 + 40 ≤ x.to) :
    ∃ y : Sp, Class.new x root (parentAt A k) slots = (y, 0, -8) ∧ y.Al ∧ y.lo = x.lo ∧ y.to = x.to ∧ y.here = x.here ∧ y.mem.size = x.mem.size ∧ ∀ b, (b < x.here ∨ x.to ≤ b) → y.mem.cell b = x.mem.cell b := by
  have o := hx.ok
  unfold Sp.Ok at o
  have hrt := h.rt
  have fin : ∀ (z : Sp) (q : Int), make5 x root (parentAt A k) slots = (z, q, -8) → z.mem.size = x.mem.size → z.lo = x.lo → z.to = x.to → x.here ≤ z.here → (∀ b, (b < x.here ∨ x.to ≤ b) → z.mem.cell b = x.mem.cell b) →
      ∃ y : Sp, Class.new x root (parentAt A k) slots = (y, 0, -8) ∧ y.Al ∧ y.lo = x.lo ∧ y.to = x.to ∧ y.here = x.here ∧ y.mem.size = x.mem.size ∧ ∀ b, (b < x.here ∨ x.to ≤ b) → y.mem.cell b = x.mem.cell b := by
    intro z q e z1 z2 z3 z4 z5
    refine ⟨{ z with here := x.here }, ?_, ⟨⟨?_, ?_, ?_, ?_⟩, hx.al⟩, z2, z3, rfl, z1, z5⟩
    · unfold Class.new
      rw [e, if_pos (by simp), back_law z x.here (by omega)]
    · show 0 ≤ z.lo; omega
    · show z.lo ≤ x.here; omega
    · show x.here ≤ z.to; omega
    · show z.to ≤ z.mem.size; omega
  have m5 : ∀ t size, tableOf x T k slots = t → size = sizeOf L k → make5 x root (parentAt A k) slots = make5.rest x root (parentAt A k) t size := by
    intro t size ht hs
    unfold make5
    rw [h.last, if_neg (by simp)]
    cases k with
    | none =>
      rw [if_pos (show parentAt A none = 0 from rfl), show Tab.new x slots = t from ht, hs]
      rfl
    | some j =>
      have hj := hk j rfl
      have hp := h.pos hj
      rw [if_neg (by show ¬ nth A j = 0; omega), if_neg (by show ¬ Class.is x.mem root (nth A j) = false; rw [h.is hj]; simp)]
      show make5.rest x root (nth A j) (Tab.copy x (Class.read x.mem (nth A j)).1.table) (Class.read x.mem (nth A j)).1.size = _
      rw [h.read hj]
      show make5.rest x root (nth A j) (Tab.copy x (nth T j)) (Ref.get L j).size = _
      rw [show Tab.copy x (nth T j) = t from ht, hs]
      rfl
  by_cases hr1 : x.here + (2 + n * 3) * 8 ≤ x.to
  · -- the table has room
    obtain ⟨y, e, hy, y1, y2, y3, y4, y5⟩ : ∃ y : Sp, tableOf x T k slots = (y, x.here, 0) ∧ y.Al ∧ y.lo = x.lo ∧ y.to = x.to ∧ y.here = x.here + (2 + n * 3) * 8 ∧ y.mem.size = x.mem.size ∧
        (∀ b, (b < x.here ∨ y.here ≤ b) → y.mem.cell b = x.mem.cell b) := by
      cases k with
      | none =>
        obtain rfl : n = slots := hn
        obtain ⟨y, e, hy, y1, y2, y3, y4, y5, _, _⟩ := Tab.new_law hx n n1 n2 (by omega)
        exact ⟨y, e, hy, y1, y2, y3, y4, y5⟩
      | some j =>
        have hj := hk j rfl
        have hn : n = (Ref.get L j).slots := hn
        have hl := h.lay j hj
        obtain ⟨y, e, hy, y1, y2, y3, y4, y5, _, _⟩ := Tab.copy_law hx (t := nth T j) (n := n) (by rw [hn]; exact h.fine j hj) (by rw [hn]; omega) (by omega)
        exact ⟨y, e, hy, y1, y2, y3, y4, y5⟩
    have hm := m5 _ _ e rfl
    unfold make5.rest at hm
    rw [if_neg (by simp)] at hm
    simp only at hm
    rw [cells_iface] at hm
    obtain ⟨z, ez, z1, z2, z3, z4, z6, z5⟩ := Iface.cells_full [magic, parentAt A k, sizeOf L k, x.here, (x.mem.cell root).1] hy (by simp only [List.length_cons, List.length_nil]; omega)
    rw [ez] at hm
    exact fin z _ hm (by omega) (by omega) (by omega) (by omega) (fun b hb => by rw [z5 b (by omega), y5 b (by omega)])
  · obtain ⟨y, c, e, y1, y2, y3, y4, y5⟩ : ∃ (y : Sp) (c : Int), tableOf x T k slots = (y, c, -8) ∧ y.mem.size = x.mem.size ∧ y.lo = x.lo ∧ y.to = x.to ∧ y.here = x.here ∧ ∀ b, (b < x.here ∨ x.to ≤ b) → y.mem.cell b = x.mem.cell b := by
      cases k with
      | none =>
        obtain rfl : n = slots := hn
        obtain ⟨y, e, q⟩ := Tab.new_full hx n n1 n2 hr1
        exact ⟨y, 0, e, q⟩
      | some j =>
        have hj := hk j rfl
        have hn : n = (Ref.get L j).slots := hn
        obtain ⟨y, e, q⟩ := Tab.new_full hx n n1 n2 hr1
        refine ⟨y, 0, ?_, q⟩
        show Tab.copy x (nth T j) = _
        unfold Tab.copy
        rw [(h.fine j hj).1, ← hn, e, if_pos (by simp)]
    have hm := m5 _ _ e rfl
    unfold make5.rest at hm
    rw [if_pos (by simp)] at hm
    exact fin y 0 hm y1 y2 y3 (by omega) y5
end Good
end Class
end Go.Proofs.Shed
set_option linter.unusedVariables false
set_option linter.unusedSimpArgs false
namespace Go.Proofs.Shed
namespace Ref
def resize (L : List RCls) (c : Nat) (n : Int) : List RCls := L.set c { get L c with size := n }
theorem resize_len (L : List RCls) (c : Nat) (n : Int) : (resize L c n).length = L.length := by unfold resize; rw [List.length_set]
theorem resize_get (L : List RCls) (c : Nat) (n : Int) (i : Nat) (hi : i < L.length) : get (resize L c n) i = if i = c then { get L c with size := n } else get L i := by
  rw [get_at _ i (by rw [resize_len]; exact hi), get_at L i hi]
  unfold resize
  rw [List.getElem_set]
  by_cases h : i = c
  · rw [if_pos h, if_pos h.symm]
  · rw [if_neg h, if_neg (fun e => h e.symm)]
theorem resize_same (L : List RCls) (c : Nat) (n : Int) (i : Nat) (hi : i < L.length) : (get (resize L c n) i).parent = (get L i).parent ∧ (get (resize L c n) i).slots = (get L i).slots ∧ (get (resize L c n) i).own = (get L i).own ∧ (get (resize L c n) i).size = if i = c then n else (get L i).size := by
  rw [resize_get L c n i hi]
  by_cases h : i = c
  · subst h; rw [if_pos rfl, if_pos rfl]; exact ⟨rfl, rfl, rfl, rfl⟩
  · rw [if_neg h, if_neg h]; exact ⟨rfl, rfl, rfl, rfl⟩
theorem resize_ok (L : List RCls) (h : Ok L) (c : Nat) (n : Int) : Ok (resize L c n) := by
  intro i hi
  have hi' : i < L.length := by rwa [resize_len] at hi
  rw [get_of, (resize_same L c n i hi').1]
  exact par L h i hi'
theorem resize_walk (L : List RCls) (h : Ok L) (c : Nat) (n : Int) (s : Int) (i : Int) (i0 : -1 ≤ i) (hi : i < L.length) : walk (resize L c n) i s = walk L i s := by
  refine climb L h (P := fun i => walk (resize L c n) i s = walk L i s) ?_ ?_ i i0 hi
  · rw [walk_neg _ (-1) s (by omega), walk_neg _ (-1) s (by omega)]
  · intro k hk ih
    have := resize_same L c n k hk
    rw [walkGo _ (resize_ok L h c n) k s (by rw [resize_len]; exact hk), walkGo L h k s hk, this.2.2.1, this.1, ih]
end Ref
namespace Class
namespace Good
variable {m : Mem} {root : Int} {A T : List Int} {L : List RCls} {hi : Int}
theorem grow (h : Good m root A T L hi) {c : Nat} (hc : c < L.length) (n : Int) (n0 : 0 ≤ n) (n1 : n ≤ 1048576) (s0 : 0 ≤ (Ref.get L c).size) (s1 : (Ref.get L c).size ≤ 1048576) :
    ∃ m' : Mem, Class.grow m (nth A c) n = (m', (Ref.get L c).size, 0) ∧ m'.size = m.size ∧ (∀ a, a ≠ nth A c + 16 → m'.cell a = m.cell a) ∧ Good m' root A T (Ref.resize L c (((Ref.get L c).size + n + 7) / 8 * 8)) hi := by
  have hl := h.lay c hc
  have hp := h.pos hc
  have hrt := h.rt
  have htop := h.top
  have hsl := h.slots c hc
  have hat : m.at_ (nth A c + 16) = 0 := by rw [Mem.at_zero]; omega
  have hg : Class.grow m (nth A c) n = ((m.setCell (nth A c + 16) (((Ref.get L c).size + n + 7) / 8 * 8)).1, (Ref.get L c).size, 0) := by
    unfold Class.grow
    rw [h.read hc, if_neg (by simp)]
    show (if n < 0 ∨ 1048576 < n ∨ (Ref.get L c).size < 0 ∨ 1048576 < (Ref.get L c).size then _ else _) = _
    rw [if_neg (by omega)]
    rfl
  have hsame := Mem.cell_set_same m (nth A c + 16) (((Ref.get L c).size + n + 7) / 8 * 8) hat (by omega) (by omega)
  have hout := fun a (ha : a ≠ nth A c + 16) => Mem.cell_set_apart m (nth A c + 16) (((Ref.get L c).size + n + 7) / 8 * 8) a ha
  have hz := Mem.setCell_size m (nth A c + 16) (((Ref.get L c).size + n + 7) / 8 * 8)
  refine ⟨_, hg, hz, hout, ?_⟩
  generalize (m.setCell (nth A c + 16) (((Ref.get L c).size + n + 7) / 8 * 8)).1 = m' at hsame hout hz
  generalize ((Ref.get L c).size + n + 7) / 8 * 8 = v at hsame
  clear hg
  have hlen := Ref.resize_len L c v
  have sl : ∀ i : Nat, i < L.length → Tab.slots m (nth T i) = (Ref.get L i).slots := fun i i1 => (h.fine i i1).1
  have sep : ∀ i : Nat, i < L.length → ∀ a, nth T i ≤ a → a < nth T i + (2 + (Ref.get L i).slots * 3) * 8 → a ≠ nth A c + 16 := by
    intro i i1 a a0 a1
    have := h.lay i i1
    by_cases hic : i < c
    · have := h.ord i c hic hc; omega
    · by_cases hci : c < i
      · have := h.ord c i hci i1; omega
      · have : i = c := by omega
        subst this
        omega
  have cl : ∀ i : Nat, i < L.length → ∀ a, nth T i ≤ a → a < nth T i + (2 + Tab.slots m (nth T i) * 3) * 8 → m'.cell a = m.cell a := by
    intro i i1 a a0 a1
    rw [sl i i1] at a1
    exact hout a (sep i i1 a a0 a1)
  have slf : ∀ i : Nat, i < L.length → Tab.slots m' (nth T i) = Tab.slots m (nth T i) := fun i i1 => Tab.slots_frame hz (by rw [sl i i1]; exact (h.slots i i1).1) (cl i i1)
  have rdf : ∀ i : Nat, i < L.length → ∀ k, 0 ≤ k → k < Tab.slots m (nth T i) → Tab.read m' (nth T i) k = Tab.read m (nth T i) k := fun i i1 k k0 k1 => Tab.read_frame k0 k1 (cl i i1)
  refine ⟨by rw [hlen]; exact h.nA, by rw [hlen]; exact h.nT, Ref.resize_ok L h.ref c v, ?_, h.rt, by rw [hz]; exact h.top, ?_, ?_, ?_, ?_, ?_, ?_⟩
  · intro i i1
    rw [hlen] at i1
    rw [(Ref.resize_same L c v i i1).2.1]
    exact h.slots i i1
  · intro i i1
    rw [hlen] at i1
    rw [(Ref.resize_same L c v i i1).2.1]
    exact h.lay i i1
  · intro i j hij j1
    rw [hlen] at j1
    exact h.ord i j hij j1
  · rw [hlen, hout root (by omega)]; exact h.last
  · intro i i1
    rw [hlen] at i1
    have e := Ref.resize_same L c v i i1
    obtain ⟨k0, k1, k2, k3, k4⟩ := h.cells i i1
    have hne : ∀ d, 0 ≤ d → d < 40 → d ≠ 16 → nth A i + d ≠ nth A c + 16 := by
      intro d d0 d1 d2
      by_cases hic : i < c
      · have := h.less hic hc
        have := h.lay c hc
        omega
      · by_cases hci : c < i
        · have := h.less hci i1
          have := h.lay i i1
          have := h.slots i i1
          omega
        · have : i = c := by omega
          subst this
          omega
    have n0 := hne 0 (by omega) (by omega) (by omega)
    rw [Int.add_zero] at n0
    rw [e.1, e.2.2.2, hout _ n0, hout _ (hne 8 (by omega) (by omega) (by omega)), hout _ (hne 24 (by omega) (by omega) (by omega)), hout _ (hne 32 (by omega) (by omega) (by omega))]
    refine ⟨k0, k1, ?_, k3, k4⟩
    by_cases hic : i = c
    · subst hic
      rw [if_pos rfl]
      exact hsame
    · rw [if_neg hic, hout _ (by intro e; exact hic (h.inj i1 hc (by omega)))]
      exact k2
  · intro i i1
    rw [hlen] at i1
    rw [(Ref.resize_same L c v i i1).2.1]
    exact Tab.fine_congr (slf i i1) (rdf i i1) (h.fine i i1)
  · intro i i1 s
    rw [hlen] at i1
    rw [Ref.resize_walk L h.ref c v s i (by omega) (by omega), Tab.look_congr (slf i i1) (rdf i i1)]
    exact h.agree i i1 s
end Good
end Class
end Go.Proofs.Shed
set_option linter.unusedVariables false
set_option linter.unusedSimpArgs false
namespace Go.Proofs.Shed
namespace Iface
/-- Numbers stand as an interface, below a space's end. -/
def Stood (x : Sp) (p : Int × List Int) : Prop :=
  p.2.length ≤ 1024 ∧ p.1 + 8 * (p.2.length + 1) ≤ x.here ∧ x.mem.cell p.1 = ((p.2.length : Int), 0) ∧ ∀ j (h : j < p.2.length), x.mem.cell (p.1 + 8 * ((j : Nat) + 1)) = (p.2[j], 0)
theorem Stood.more {x y : Sp} {p : Int × List Int} (h : Stood x p) (hm : ∀ b, b < x.here → y.mem.cell b = x.mem.cell b) (hh : x.here ≤ y.here) : Stood y p := by
  obtain ⟨h1, h2, h3, h4⟩ := h
  refine ⟨h1, by omega, by rw [hm _ (by omega)]; exact h3, fun j hj => ?_⟩
  rw [hm _ (by omega)]
  exact h4 j hj
theorem Stood.sels {x : Sp} {p : Int × List Int} (h : Stood x p) : Iface.sels x.mem p.1 = some p.2 := sels_law _ _ _ h.1 h.2.2.1 h.2.2.2
/-- A space on the whole of a memory. -/
def Whole (x : Sp) (size : Int) : Prop := x.Al ∧ x.lo = 0 ∧ x.to = size ∧ x.mem.size = size
theorem Whole.fits {x : Sp} {size : Int} (h : Whole x size) (l : List Int) (hl : l.length ≤ 1024) (hb : ∀ n ∈ l, In64 n) (hr : x.here + 8 * (l.length + 1) ≤ size) :
    ∃ y : Sp, new x l = (y, x.here, 0) ∧ Whole y size ∧ Stood y (x.here, l) ∧ ∀ p, Stood x p → Stood y p := by
  obtain ⟨ha, h1, h2, h3⟩ := h
  have o := ha.ok
  unfold Sp.Ok at o
  have hr' : x.here + 8 * (((l.length : Int) :: l).length : Int) ≤ x.to := by rw [List.length_cons]; omega
  have hin := Mem.wcells_in x.mem x.here ((l.length : Int) :: l) ha.al (by omega) (by omega) (by
    intro n hn
    rcases List.mem_cons.1 hn with rfl | hn
    · unfold In64; omega
    · exact hb n hn)
  have hh : (x.wr ((l.length : Int) :: l)).here = x.here + 8 * (l.length + 1) := by show x.here + 8 * _ = _; rw [List.length_cons]; omega
  refine ⟨_, new_room ha l hl (by omega), ⟨ha.wr hr', h1, h2, ?_⟩, ⟨hl, by rw [hh]; exact Int.le_refl _, ?_, fun j hj => ?_⟩, fun p hp => hp.more (fun b hb => Mem.wcells_out _ _ _ _ (.inl hb)) (by rw [hh]; omega)⟩
  · rw [← h3]
    exact congrArg Int.ofNat (Mem.wcells_size _ _ _)
  · have := hin 0 (by simp)
    rw [show x.here + 8 * ((0 : Nat) : Int) = x.here by simp] at this
    exact this
  · have := hin (j + 1) (by rw [List.length_cons]; show j + 1 < l.length + 1; have : j < l.length := hj; omega)
    exact this
theorem Whole.over {x : Sp} {size : Int} (h : Whole x size) (l : List Int) (hl : l.length ≤ 1024) (hr : ¬ x.here + 8 * (l.length + 1) ≤ size) :
    ∃ y : Sp, new x l = (y, 0, -8) ∧ Whole y size ∧ y.here = x.here ∧ ∀ p, Stood x p → Stood y p := by
  obtain ⟨ha, h1, h2, h3⟩ := h
  obtain ⟨y, e, y1, y2, y3, y4, y5, y6⟩ := new_full ha l hl (by omega)
  exact ⟨y, e, ⟨y1, by omega, by omega, by omega⟩, y4, fun p hp => hp.more (fun b hb => y6 b (.inl hb)) (by omega)⟩
theorem sels_bad (m : Mem) (a : Int) (h : m.at_ a ≠ 0) : sels m a = none := by
  unfold sels
  rw [if_pos (.inl (by rw [Mem.cell_ok]; exact h))]
end Iface
end Go.Proofs.Shed
set_option linter.unusedVariables false
set_option linter.unusedSimpArgs false
namespace Go.Proofs.Shed
namespace Liv
def r0 : Sp × Int × Int := Class.root ⟨Mem.zero 1024, 8, 1024, 8⟩
def x0 : Sp := r0.1
theorem root_is : Class.root ⟨Mem.zero 1024, 8, 1024, 8⟩ = (x0, 8, 0) := by
  have : (Class.root ⟨Mem.zero 1024, 8, 1024, 8⟩).2 = (8, 0) := by decide +kernel
  exact Prod.ext rfl this
def x1 : Sp := (Class.new x0 8 0 4).1
theorem new_is : Class.new x0 8 0 4 = (x1, 128, 0) := by
  have : (Class.new x0 8 0 4).2 = (128, 0) := by decide +kernel
  exact Prod.ext rfl this
theorem x0_here : x0.here = 16 := by decide +kernel
theorem x1_here : x1.here = 168 := by decide +kernel
theorem x0_size : x0.mem.size = 1024 := by decide +kernel
theorem x1_size : x1.mem.size = 1024 := by decide +kernel
theorem is_is : Class.is x1.mem 8 128 = true := by decide +kernel
def m2 : Mem := (Class.set x1.mem 8 128 1 8).1
theorem set_is : Class.set x1.mem 8 128 1 8 = (m2, 0) := by
  have : (Class.set x1.mem 8 128 1 8).2 = 0 := by decide +kernel
  exact Prod.ext rfl this
theorem m2_size : m2.size = 1024 := by decide +kernel
def x3 : Sp := (Iface.new { x1 with mem := m2 } [1, 2]).1
theorem iface_is : Iface.new { x1 with mem := m2 } [1, 2] = (x3, 168, 0) := by
  have : (Iface.new { x1 with mem := m2 } [1, 2]).2 = (168, 0) := by decide +kernel
  exact Prod.ext rfl this
theorem x3_size : x3.mem.size = 1024 := by decide +kernel
theorem missing_is : Iface.missing x3.mem 168 128 = (2, -2050) := by decide +kernel
end Liv
end Go.Proofs.Shed
set_option linter.unusedVariables false
set_option linter.unusedSimpArgs false
namespace Go.Proofs.Shed
namespace Liv
/-- A heap behind the class. -/
def h2 : Mem := (Heap.put x1.mem ⟨512, 512, false⟩).1
theorem heap_is : Heap.put x1.mem ⟨512, 512, false⟩ = (h2, 0) := by
  have : (Heap.put x1.mem ⟨512, 512, false⟩).2 = 0 := by decide +kernel
  exact Prod.ext rfl this
theorem heap_new : Heap.newCode x1.mem 512 1024 = 0 := by decide +kernel
def h3 : Mem := (Class.grow h2 128 8).1
theorem grow_is : Class.grow h2 128 8 = (h3, 8, 0) := by
  have : (Class.grow h2 128 8).2 = (8, 0) := by decide +kernel
  exact Prod.ext rfl this
def h4 : Mem := (Obj.heap h3 512 1024 128).1
theorem obj_is : Obj.heap h3 512 1024 128 = (h4, 520, 0) := by
  have : (Obj.heap h3 512 1024 128).2 = (520, 0) := by decide +kernel
  show Obj.heap h3 512 1024 128 = ((Obj.heap h3 512 1024 128).1, 520, 0)
  rw [← this]
theorem cell_is : h4.cell 528 = (0, 0) := by decide +kernel
theorem cls_is : Obj.cls h4 8 520 = (128, 0) := by decide +kernel
theorem h2_size : h2.size = 1024 := by decide +kernel
theorem h3_size : h3.size = 1024 := by decide +kernel
theorem h4_size : h4.size = 1024 := by decide +kernel
end Liv
end Go.Proofs.Shed
