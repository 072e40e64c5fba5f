/- What the functions of layer 6 come to. No program in sight; no condition. -/
import Derived.Test.YthhfkhhhclmimaaMemS
set_option linter.unusedVariables false
set_option linter.unusedSimpArgs false
namespace Go.Proofs.Shed

/-- A space: its memory, from a place on, up to another one, and the first place that isn't taken. -/
structure Sp where
  mem : Mem
  lo : Int
  to : Int
  here : Int
  deriving DecidableEq

namespace Sp
/-- As New leaves it, and all others. -/
def Ok (s : Sp) : Prop := 0 ≤ s.lo ∧ s.lo ≤ s.here ∧ s.here ≤ s.to ∧ s.to ≤ s.mem.size
def newCode (m : Mem) (lo to : Int) : Int := if lo < 0 ∨ to < lo ∨ m.size < to then -256 else 0
def allot (s : Sp) (n : Int) : Sp × Int := if n > s.to - s.here ∨ n < s.lo - s.here then (s, -8) else ({ s with here := s.here + n }, 0)
/-- put, whose write comes to r. -/
def put (s : Sp) (n : Int) (r : Mem × Int) : Sp × Int :=
  if n ≤ s.to - s.here then (if r.2 ≠ 0 then ({ s with mem := r.1 }, r.2) else allot { s with mem := r.1 } n) else s.allot n
def comma (s : Sp) (n : Int) : Sp × Int := s.put 8 (s.mem.setCell s.here n)
def char (s : Sp) (n : Int) : Sp × Int := s.put 1 (s.mem.setByte s.here n)
def chars (s : Sp) (t : List UInt8) : Sp × Int := s.put t.length (s.mem.setText s.here t)
def back (s : Sp) (h : Int) : Sp × Int := if h < s.lo ∨ s.here < h then (s, -256) else ({ s with here := h }, 0)
/-- Align, in at most so many rounds. -/
def alignN : Nat → Sp → Sp × Int
  | 0, s => (s, 0)
  | k + 1, s => if s.here % 8 = 0 then (s, 0) else if (s.char 0).2 ≠ 0 then s.char 0 else alignN k (s.char 0).1
def align (s : Sp) : Sp × Int := alignN 8 s

theorem allot_ok {s : Sp} (h : s.Ok) (n : Int) : (s.allot n).1.Ok := by
  unfold allot
  split
  · exact h
  · obtain ⟨h1, h2, h3, h4⟩ := h
    refine ⟨h1, ?_, ?_, h4⟩ <;> simp only <;> omega
theorem allot_size (s : Sp) (n : Int) : (s.allot n).1.mem = s.mem := by unfold allot; split <;> rfl
theorem put_ok {s : Sp} (h : s.Ok) (n : Int) {r : Mem × Int} (hr : r.1.size = s.mem.size) : (s.put n r).1.Ok := by
  have h' : Ok { s with mem := r.1 } := ⟨h.1, h.2.1, h.2.2.1, by show s.to ≤ r.1.size; rw [hr]; exact h.2.2.2⟩
  unfold put
  split
  · split
    · exact h'
    · exact allot_ok h' n
  · exact allot_ok h n
theorem put_size (s : Sp) (n : Int) {r : Mem × Int} (hr : r.1.size = s.mem.size) : (s.put n r).1.mem.size = s.mem.size := by
  unfold put
  split
  · split
    · exact hr
    · rw [allot_size]; exact hr
  · rw [allot_size]
theorem comma_ok {s : Sp} (h : s.Ok) (n : Int) : (s.comma n).1.Ok := put_ok h _ (Mem.setCell_size _ _ _)
theorem char_ok {s : Sp} (h : s.Ok) (n : Int) : (s.char n).1.Ok := put_ok h _ (Mem.setByte_size _ _ _)
theorem chars_ok {s : Sp} (h : s.Ok) (t : List UInt8) : (s.chars t).1.Ok := put_ok h _ (Mem.setText_size _ _ _)
theorem back_ok {s : Sp} (h : s.Ok) (n : Int) : (s.back n).1.Ok := by
  unfold back
  split
  · exact h
  · obtain ⟨h1, h2, h3, h4⟩ := h
    refine ⟨h1, ?_, ?_, h4⟩ <;> simp only <;> omega
theorem comma_size (s : Sp) (n : Int) : (s.comma n).1.mem.size = s.mem.size := put_size _ _ (Mem.setCell_size _ _ _)
theorem char_size (s : Sp) (n : Int) : (s.char n).1.mem.size = s.mem.size := put_size _ _ (Mem.setByte_size _ _ _)
theorem chars_size (s : Sp) (t : List UInt8) : (s.chars t).1.mem.size = s.mem.size := put_size _ _ (Mem.setText_size _ _ _)
theorem back_size (s : Sp) (n : Int) : (s.back n).1.mem = s.mem := by unfold back; split <;> rfl
theorem alignN_ok (k : Nat) {s : Sp} (h : s.Ok) : (alignN k s).1.Ok := by
  induction k generalizing s with
  | zero => exact h
  | succ k ih =>
    unfold alignN
    split
    · exact h
    · split
      · exact char_ok h 0
      · exact ih (char_ok h 0)
theorem align_ok {s : Sp} (h : s.Ok) : s.align.1.Ok := alignN_ok 8 h

/-- A byte that was put: one place further. -/
theorem char_here {s : Sp} (n : Int) (h : (s.char n).2 = 0) : (s.char n).1.here = s.here + 1 := by
  unfold char put at *
  split at h
  · rename_i h1
    rw [if_pos h1]
    split at h
    · rename_i h2; exact absurd h h2
    · rename_i h2
      rw [if_neg h2]
      unfold allot at *
      split at h
      · simp at h
      · rename_i h3; rw [if_neg h3]
  · rename_i h1
    rw [if_neg h1]
    unfold allot at *
    split at h
    · simp at h
    · rename_i h3; rw [if_neg h3]
/-- More rounds change nothing. -/
theorem alignN_enough (k : Nat) (s : Sp) (h : (8 - s.here % 8) % 8 ≤ k) (j : Nat) (hj : k ≤ j) : alignN j s = alignN k s := by
  induction k generalizing s j with
  | zero =>
    have h0 : s.here % 8 = 0 := by omega
    cases j with
    | zero => rfl
    | succ j => unfold alignN; rw [if_pos h0]
  | succ k ih =>
    cases j with
    | zero => omega
    | succ j =>
      unfold alignN
      by_cases h0 : s.here % 8 = 0
      · rw [if_pos h0, if_pos h0]
      · rw [if_neg h0, if_neg h0]
        by_cases he : (s.char 0).2 ≠ 0
        · rw [if_pos he, if_pos he]
        · rw [if_neg he, if_neg he]
          have := char_here (s := s) 0 (by simpa using he)
          exact ih _ (by omega) j (by omega)
theorem align_step (s : Sp) (h : s.here % 8 ≠ 0) (he : (s.char 0).2 = 0) : s.align = (s.char 0).1.align := by
  unfold align
  rw [show alignN 8 s = alignN 7 (s.char 0).1 by rw [alignN, if_neg h, if_neg (by simpa using he)]]
  have := char_here (s := s) 0 he
  exact (alignN_enough 7 _ (by omega) 8 (by omega)).symm
end Sp
end Go.Proofs.Shed
