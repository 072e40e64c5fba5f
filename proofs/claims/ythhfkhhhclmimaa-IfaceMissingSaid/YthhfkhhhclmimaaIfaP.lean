/- The plain law's interfaces: what was put is read; what is missing is what the walk doesn't find. No program in sight; no condition. -/
import Derived.Test.YthhfkhhhclmimaaClsR
set_option linter.unusedVariables false
set_option linter.unusedSimpArgs false
namespace Go.Proofs.Shed
namespace Iface
theorem selsN_law (m : Mem) (a : Int) (l : List Int) (i : Nat) (k : Nat) (hk : i + k = l.length) (hc : ∀ j (h : j < l.length), m.cell (a + 8 * ((j : Nat) + 1)) = (l[j], 0)) : selsN m a k i = some (l.drop i) := by
  induction k generalizing i with
  | zero => rw [selsN, List.drop_eq_nil_of_le (by omega)]
  | succ k ih =>
    have hi : i < l.length := by omega
    rw [selsN, show a + ((i : Int) + 1) * 8 = a + 8 * (i + 1) by omega, hc i hi, if_neg (by simp)]
    have := ih (i + 1) (by omega)
    rw [show ((i + 1 : Nat) : Int) = (i : Int) + 1 by omega] at this
    rw [this, List.drop_eq_getElem_cons hi]
    rfl
theorem sels_law (m : Mem) (a : Int) (l : List Int) (hl : l.length ≤ 1024) (h0 : m.cell a = ((l.length : Int), 0)) (hc : ∀ j (h : j < l.length), m.cell (a + 8 * ((j : Nat) + 1)) = (l[j], 0)) : sels m a = some l := by
  unfold sels
  rw [h0, if_neg (by simp only; omega)]
  have := selsN_law m a l 0 l.length (by omega) hc
  simpa using this
theorem new_room {x : Sp} (h : x.Al) (l : List Int) (hl : l.length ≤ 1024) (hr : x.here + 8 * (l.length + 1) ≤ x.to) : new x l = (x.wr ((l.length : Int) :: l), x.here, 0) := by
  have hc := cells_room ((l.length : Int) :: l) h (by rw [List.length_cons]; omega)
  unfold new newR
  rw [if_neg (by omega), Sp.align_al h.al, hc, if_neg (by simp)]
theorem new_full {x : Sp} (h : x.Al) (l : List Int) (hl : l.length ≤ 1024) (hr : ¬ x.here + 8 * (l.length + 1) ≤ x.to) : ∃ y : Sp, new x l = (y, 0, -8) ∧ y.Al ∧ y.lo = x.lo ∧ y.to = x.to ∧ y.here = x.here ∧ y.mem.size = x.mem.size ∧ ∀ b, (b < x.here ∨ x.to ≤ b) → y.mem.cell b = x.mem.cell b := by
  obtain ⟨y, e, y1, y2, y3, y4, y6, y5⟩ := cells_full ((l.length : Int) :: l) h (by rw [List.length_cons]; omega)
  have o := h.ok
  unfold Sp.Ok at o
  have hb : (y.back x.here).1 = { y with here := x.here } := by
    unfold Sp.back
    rw [if_neg (by omega)]
  refine ⟨{ y with here := x.here }, ?_, ⟨⟨?_, ?_, ?_, ?_⟩, h.al⟩, y2, y3, rfl, y1, y5⟩
  · unfold new newR
    rw [if_neg (by omega), Sp.align_al h.al, e, if_pos (by simp), hb]
  · show 0 ≤ y.lo; omega
  · show y.lo ≤ x.here; omega
  · show x.here ≤ y.to; omega
  · show y.to ≤ y.mem.size; omega
theorem new_sels {x : Sp} (h : x.Al) (l : List Int) (hl : l.length ≤ 1024) (hb : ∀ n ∈ l, In64 n) (hr : x.here + 8 * (l.length + 1) ≤ x.to) (m : Mem) (hm : ∀ b, x.here ≤ b → b < x.here + 8 * (l.length + 1) → m.cell b = (x.wr ((l.length : Int) :: l)).mem.cell b) : sels m x.here = some l := by
  have o := h.ok
  unfold Sp.Ok at o
  have hin := Mem.wcells_in x.mem x.here ((l.length : Int) :: l) h.al (by omega) (by rw [List.length_cons]; omega) (by
    intro n hn
    rcases List.mem_cons.1 hn with rfl | hn
    · unfold In64; omega
    · exact hb n hn)
  refine sels_law m x.here l hl ?_ fun j hj => ?_
  · have := hin 0 (by simp)
    rw [hm _ (Int.le_refl _) (by omega)]
    rw [show x.here + 8 * ((0 : Nat) : Int) = x.here by simp] at this
    exact this
  · have := hin (j + 1) (by simp; omega)
    rw [hm _ (by omega) (by omega)]
    exact this
/-- The first one that isn't known. -/
def first (L : List RCls) (c : Int) (l : List Int) : Int × Int :=
  match l with
  | [] => (0, 0)
  | s :: l => if (Ref.walk L c s).isSome then first L c l else (s, -2050)
theorem missing_law {m : Mem} {root : Int} {A T : List Int} {L : List RCls} {hi : Int} (h : Class.Good m root A T L hi) {c : Nat} (hc : c < L.length) (l : List Int) : missingL m (Class.nth A c) l = first L c l := by
  induction l with
  | nil => rfl
  | cons s l ih => rw [missingL, first, (h.lookup hc s).1, ih]
end Iface
namespace Class
/-- Classes of 6 slots, one behind the other. -/
def Six (x : Sp) (A : List Int) (L : List RCls) : Prop :=
  ∃ T, Good x.mem 8 A T L x.here ∧ x.Al ∧ x.lo = 8 ∧ x.to = 65536 ∧ x.mem.size = 65536 ∧ x.here = 16 + 200 * L.length ∧ ∀ i : Nat, i < L.length → (Ref.get L i).slots = 6
theorem Six.make {x : Sp} {A : List Int} {L : List RCls} (h : Six x A L) (hl : L.length ≤ 100) (k : Option Nat) (hk : ∀ j, k = some j → j < L.length) :
    ∃ (y : Sp) (a : Int), Class.new x 8 (parentAt A k) 6 = (y, a, 0) ∧ Six y (A ++ [a]) (Ref.new L (parentNo k) 6) ∧ x.here < a ∧ Class.is y.mem 8 a = true := by
  obtain ⟨T, hg, ha, h1, h2, h3, h4, h5⟩ := h
  have h6 : (6 : Int) = slotsOf L k 6 := by
    cases k with
    | none => rfl
    | some j => exact (h5 j (hk j rfl)).symm
  obtain ⟨y, e, y0, y1, y2, y3, y4, _, y5⟩ := hg.new ha (Int.le_refl _) k hk 6 6 h6 (by omega) (by omega) (by omega)
  have hn := new_last L k 6
  rw [← h6] at hn
  refine ⟨y, _, e, ⟨_, y5, y0, by omega, by omega, by omega, ?_, ?_⟩, by omega, ?_⟩
  · rw [y3, hn, List.length_append, List.length_singleton]; omega
  · rw [hn]
    intro i hi
    rw [List.length_append, List.length_singleton] at hi
    by_cases hi' : i < L.length
    · rw [Ref.snoc_get L _ i hi']; exact h5 i hi'
    · have : i = L.length := by omega
      subst this
      rw [Ref.snoc_last]
  · have := y5.is (i := L.length) (by rw [hn]; simp)
    rw [← hg.nA, nth_last] at this
    exact this
theorem set_length (L : List RCls) (c : Nat) (sel xt : Int) : (Ref.set L c sel xt).1.length = L.length := by
  unfold Ref.set
  split
  · rfl
  · split
    · rfl
    · exact Ref.put_len _ _ _ _
theorem set_slots (L : List RCls) (c : Nat) (hc : c < L.length) (sel xt : Int) (i : Nat) (hi : i < L.length) : (Ref.get (Ref.set L c sel xt).1 i).slots = (Ref.get L i).slots := by
  unfold Ref.set
  split
  · rfl
  · split
    · rfl
    · exact (Ref.put_parent L c sel xt hc i hi).2.1
theorem Six.set {x : Sp} {A : List Int} {L : List RCls} (h : Six x A L) {c : Nat} (hc : c < L.length) (sel xt : Int) (b1 : In64 sel) (b2 : In64 xt) :
    (Class.set x.mem 8 (nth A c) sel xt).2 = (Ref.set L c sel xt).2 ∧ Six { x with mem := (Class.set x.mem 8 (nth A c) sel xt).1 } A (Ref.set L c sel xt).1 := by
  obtain ⟨T, hg, ha, h1, h2, h3, h4, h5⟩ := h
  obtain ⟨s1, s2, s3, s4⟩ := hg.set hc sel xt b1 b2
  have o := ha.ok
  unfold Sp.Ok at o
  refine ⟨s1, ⟨T, s4, ⟨⟨o.1, o.2.1, o.2.2.1, ?_⟩, ha.al⟩, h1, h2, ?_, ?_, ?_⟩⟩
  · show x.to ≤ (Class.set x.mem 8 (nth A c) sel xt).1.size; omega
  · show (Class.set x.mem 8 (nth A c) sel xt).1.size = 65536; omega
  · rw [set_length]; exact h4
  · intro i hi
    rw [set_length] at hi
    rw [set_slots L c hc sel xt i hi]
    exact h5 i hi
/-- An interface behind the classes, and what it misses. -/
theorem Six.iface {x : Sp} {A : List Int} {L : List RCls} (h : Six x A L) (hl : L.length ≤ 100) (l : List Int) (hb : ∀ n ∈ l, In64 n) (hn : l.length ≤ 100) :
    ∃ y : Sp, Iface.new x l = (y, x.here, 0) ∧ y.Ok ∧ y.mem.size = 65536 ∧ Iface.missing y.mem x.here 3 = (0, -2048) ∧ ∀ c : Nat, c < L.length → Iface.missing y.mem x.here (nth A c) = Iface.first L c l := by
  obtain ⟨T, hg, ha, h1, h2, h3, h4, h5⟩ := h
  have hr : x.here + 8 * (l.length + 1) ≤ x.to := by omega
  have hsz : (x.wr ((l.length : Int) :: l)).mem.size = 65536 := by rw [← h3]; exact Mem.wcells_size _ _ _
  have hal : (x.wr ((l.length : Int) :: l)).Al := ha.wr (by rw [List.length_cons]; omega)
  have hs := Iface.new_sels ha l (by omega) hb hr (x.wr ((l.length : Int) :: l)).mem (fun _ _ _ => rfl)
  have hg' : Good (x.wr ((l.length : Int) :: l)).mem 8 A T L x.here := hg.frame (hsz.trans h3.symm) (fun a ha => Mem.wcells_out _ _ _ _ (.inl ha)) (Int.le_refl _) (by have := hg.top; omega)
  refine ⟨_, Iface.new_room ha l (by omega) hr, hal.ok, hsz, ?_, fun c hc => ?_⟩
  · unfold Iface.missing
    rw [hs]
    have : (Class.read (x.wr ((l.length : Int) :: l)).mem 3).2 = false := by
      unfold Class.read
      rw [if_pos (.inl (by rw [Mem.cell_ok, Ne, Mem.at_zero]; omega))]
    simp only
    rw [this]
    rfl
  · unfold Iface.missing
    rw [hs]
    simp only
    rw [hg'.read hc, if_neg (by simp)]
    exact Iface.missing_law hg' hc l
/-- A space without classes. -/
theorem Six.start (y : Sp) (e : Class.root ⟨Mem.zero 65536, 8, 65536, 8⟩ = (y, 8, 0)) : Six y [] [] := by
  have ha : Sp.Al ⟨Mem.zero 65536, 8, 65536, 8⟩ := ⟨⟨by decide, by decide, by decide, by decide⟩, by decide⟩
  have hc := Sp.comma_room ha (by decide) 0
  unfold Class.root at e
  rw [Sp.align_al (by decide), if_neg (by simp)] at e
  simp only at e
  rw [hc, if_neg (by simp)] at e
  have hy : y = Sp.wr ⟨Mem.zero 65536, 8, 65536, 8⟩ [0] := (Prod.mk.inj e).1.symm
  have hal : y.Al := by rw [hy]; exact ha.wr (by decide)
  have hz : y.mem.size = 65536 := by rw [hy]; exact Mem.wcells_size _ _ _
  have hh : y.here = 16 := by rw [hy]; rfl
  refine ⟨[], ⟨rfl, rfl, fun i hi => absurd hi (by simp), fun i hi => absurd hi (by simp), by omega, by omega, fun i hi => absurd hi (by simp), fun i j _ hi => absurd hi (by simp), ?_, fun i hi => absurd hi (by simp), fun i hi => absurd hi (by simp), fun i hi => absurd hi (by simp)⟩, hal, by rw [hy]; rfl, by rw [hy]; rfl, hz, by rw [hh]; rfl, fun i hi => absurd hi (by simp)⟩
  rw [hy]
  exact Mem.cell_set_same _ _ _ (by decide) (by decide) (by decide)
end Class
end Go.Proofs.Shed
