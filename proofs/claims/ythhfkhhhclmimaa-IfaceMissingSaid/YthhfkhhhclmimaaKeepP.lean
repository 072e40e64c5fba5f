/- The plain law of interfaces one behind the other: each stands there. No program in sight; no condition. -/
import Derived.Test.YthhfkhhhclmimaaIfaP
set_option linter.unusedVariables false
set_option linter.unusedSimpArgs false
namespace Go.Proofs.Shed
namespace Iface
/-- Numbers stand as an interface, below a space's end. -/
def Stood (x : Sp) (p : Int × List Int) : Prop :=
  p.2.length ≤ 1024 ∧ p.1 + 8 * (p.2.length + 1) ≤ x.here ∧ x.mem.cell p.1 = ((p.2.length : Int), 0) ∧ ∀ j (h : j < p.2.length), x.mem.cell (p.1 + 8 * ((j : Nat) + 1)) = (p.2[j], 0)
theorem Stood.more {x y : Sp} {p : Int × List Int} (h : Stood x p) (hm : ∀ b, b < x.here → y.mem.cell b = x.mem.cell b) (hh : x.here ≤ y.here) : Stood y p := by
  obtain ⟨h1, h2, h3, h4⟩ := h
  refine ⟨h1, by omega, by rw [hm _ (by omega)]; exact h3, fun j hj => ?_⟩
  rw [hm _ (by omega)]
  exact h4 j hj
theorem Stood.sels {x : Sp} {p : Int × List Int} (h : Stood x p) : Iface.sels x.mem p.1 = some p.2 := sels_law _ _ _ h.1 h.2.2.1 h.2.2.2
/-- A space on the whole of a memory. -/
def Whole (x : Sp) (size : Int) : Prop := x.Al ∧ x.lo = 0 ∧ x.to = size ∧ x.mem.size = size
theorem Whole.fits {x : Sp} {size : Int} (h : Whole x size) (l : List Int) (hl : l.length ≤ 1024) (hb : ∀ n ∈ l, In64 n) (hr : x.here + 8 * (l.length + 1) ≤ size) :
    ∃ y : Sp, new x l = (y, x.here, 0) ∧ Whole y size ∧ Stood y (x.here, l) ∧ ∀ p, Stood x p → Stood y p := by
  obtain ⟨ha, h1, h2, h3⟩ := h
  have o := ha.ok
  unfold Sp.Ok at o
  have hr' : x.here + 8 * (((l.length : Int) :: l).length : Int) ≤ x.to := by rw [List.length_cons]; omega
  have hin := Mem.wcells_in x.mem x.here ((l.length : Int) :: l) ha.al (by omega) (by omega) (by
    intro n hn
    rcases List.mem_cons.1 hn with rfl | hn
    · unfold In64; omega
    · exact hb n hn)
  have hh : (x.wr ((l.length : Int) :: l)).here = x.here + 8 * (l.length + 1) := by show x.here + 8 * _ = _; rw [List.length_cons]; omega
  refine ⟨_, new_room ha l hl (by omega), ⟨ha.wr hr', h1, h2, ?_⟩, ⟨hl, by rw [hh]; exact Int.le_refl _, ?_, fun j hj => ?_⟩, fun p hp => hp.more (fun b hb => Mem.wcells_out _ _ _ _ (.inl hb)) (by rw [hh]; omega)⟩
  · rw [← h3]
    exact congrArg Int.ofNat (Mem.wcells_size _ _ _)
  · have := hin 0 (by simp)
    rw [show x.here + 8 * ((0 : Nat) : Int) = x.here by simp] at this
    exact this
  · have := hin (j + 1) (by rw [List.length_cons]; show j + 1 < l.length + 1; have : j < l.length := hj; omega)
    exact this
theorem Whole.over {x : Sp} {size : Int} (h : Whole x size) (l : List Int) (hl : l.length ≤ 1024) (hr : ¬ x.here + 8 * (l.length + 1) ≤ size) :
    ∃ y : Sp, new x l = (y, 0, -8) ∧ Whole y size ∧ y.here = x.here ∧ ∀ p, Stood x p → Stood y p := by
  obtain ⟨ha, h1, h2, h3⟩ := h
  obtain ⟨y, e, y1, y2, y3, y4, y5, y6⟩ := new_full ha l hl (by omega)
  exact ⟨y, e, ⟨y1, by omega, by omega, by omega⟩, y4, fun p hp => hp.more (fun b hb => y6 b (.inl hb)) (by omega)⟩
theorem sels_bad (m : Mem) (a : Int) (h : m.at_ a ≠ 0) : sels m a = none := by
  unfold sels
  rw [if_pos (.inl (by rw [Mem.cell_ok]; exact h))]
end Iface
end Go.Proofs.Shed
