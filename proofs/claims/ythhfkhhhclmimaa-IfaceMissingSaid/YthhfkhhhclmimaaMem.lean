/- A memory of bytes as one number, and what is read behind a write. No program in sight; no condition. -/
namespace Go.Proofs.Shed

/-- A memory: how many bytes, and all bytes as one number, the lowest first. -/
structure Mem where
  size : Nat
  bits : Nat
  deriving DecidableEq

namespace Mem
/-- n bytes from a place on, as a number. -/
def get (m : Mem) (a n : Nat) : Nat := (m.bits >>> (8 * a)) % 2 ^ (8 * n)
/-- n bytes of a number, put at a place. -/
def put (m : Mem) (a n v : Nat) : Mem := { m with bits := m.bits ^^^ ((((m.bits >>> (8 * a)) % 2 ^ (8 * n)) ^^^ (v % 2 ^ (8 * n))) <<< (8 * a)) }
/-- One byte. -/
abbrev byte (m : Mem) (a : Nat) : Nat := m.get a 1

theorem put_size (m : Mem) (a n v : Nat) : (m.put a n v).size = m.size := rfl

theorem put_bit (m : Mem) (a n v j : Nat) : (m.put a n v).bits.testBit j = if 8 * a ≤ j ∧ j < 8 * a + 8 * n then v.testBit (j - 8 * a) else m.bits.testBit j := by
  simp only [put, Nat.testBit_xor, Nat.testBit_shiftLeft, Nat.testBit_mod_two_pow, Nat.testBit_shiftRight]
  by_cases h1 : 8 * a ≤ j
  · by_cases h2 : j < 8 * a + 8 * n
    · have h3 : j - 8 * a < 8 * n := by omega
      have h4 : 8 * a + (j - 8 * a) = j := by omega
      simp [h1, h2, h3, h4]
    · have h3 : ¬ j - 8 * a < 8 * n := by omega
      simp [h2, h3]
  · simp [h1]

theorem get_bit (m : Mem) (a n j : Nat) : (m.get a n).testBit j = (decide (j < 8 * n) && m.bits.testBit (8 * a + j)) := by
  simp only [get, Nat.testBit_mod_two_pow, Nat.testBit_shiftRight]

theorem get_lt (m : Mem) (a n : Nat) : m.get a n < 2 ^ (8 * n) := Nat.mod_lt _ (Nat.two_pow_pos _)
theorem byte_lt (m : Mem) (a : Nat) : m.byte a < 256 := m.get_lt a 1

/-- What was put there. -/
theorem get_put_same (m : Mem) (a n v : Nat) : (m.put a n v).get a n = v % 2 ^ (8 * n) := by
  apply Nat.eq_of_testBit_eq
  intro j
  rw [get_bit, put_bit, Nat.testBit_mod_two_pow]
  by_cases h : j < 8 * n
  · have h2 : 8 * a + j - 8 * a = j := by omega
    simp [h, h2]
  · simp [h]

/-- What lies apart. -/
theorem get_put_apart (m : Mem) (a n v b k : Nat) (h : b + k ≤ a ∨ a + n ≤ b) : (m.put a n v).get b k = m.get b k := by
  apply Nat.eq_of_testBit_eq
  intro j
  rw [get_bit, get_bit, put_bit]
  by_cases h1 : j < 8 * k
  · rw [if_neg (by omega)]
  · simp [h1]

/-- A part of what was put. -/
theorem get_put_in (m : Mem) (a n v b k : Nat) (h1 : a ≤ b) (h2 : b + k ≤ a + n) : (m.put a n v).get b k = (v >>> (8 * (b - a))) % 2 ^ (8 * k) := by
  apply Nat.eq_of_testBit_eq
  intro j
  rw [get_bit, put_bit, Nat.testBit_mod_two_pow, Nat.testBit_shiftRight]
  by_cases h : j < 8 * k
  · rw [if_pos (by omega)]
    have : 8 * b + j - 8 * a = 8 * (b - a) + j := by omega
    simp [h, this]
  · simp [h]

theorem get_zero (m : Mem) (a : Nat) : m.get a 0 = 0 := by simp [get, Nat.mod_one]
theorem put_zero (m : Mem) (a v : Nat) : m.put a 0 v = m := by
  have : m.bits ^^^ ((((m.bits >>> (8 * a)) % 2 ^ (8 * 0)) ^^^ (v % 2 ^ (8 * 0))) <<< (8 * a)) = m.bits := by simp [Nat.mod_one]
  unfold put
  rw [this]

/-- The bytes, one more. -/
theorem get_succ (m : Mem) (a n : Nat) : m.get a (n + 1) = m.get a n ||| (m.byte (a + n) <<< (8 * n)) := by
  apply Nat.eq_of_testBit_eq
  intro j
  rw [Nat.testBit_or, Nat.testBit_shiftLeft, get_bit, get_bit, get_bit]
  by_cases h1 : j < 8 * n
  · have h2 : j < 8 * (n + 1) := by omega
    have h3 : ¬ 8 * n ≤ j := by omega
    simp [h1, h2, h3]
  · by_cases h2 : j < 8 * (n + 1)
    · have h3 : 8 * n ≤ j := by omega
      have h4 : j - 8 * n < 8 := by omega
      have h5 : 8 * (a + n) + (j - 8 * n) = 8 * a + j := by omega
      simp [h1, h2, h3, h4, h5]
    · have h4 : ¬ j - 8 * n < 8 := by omega
      simp [h1, h2, h4]

theorem get_succ_add (m : Mem) (a n : Nat) : m.get a (n + 1) = m.get a n + m.byte (a + n) * 2 ^ (8 * n) := by
  have hb : m.get a (n + 1) % 2 ^ (8 * n) = m.get a n := by
    apply Nat.eq_of_testBit_eq
    intro j
    rw [Nat.testBit_mod_two_pow, get_bit, get_bit]
    by_cases h : j < 8 * n
    · have : j < 8 * (n + 1) := by omega
      simp [h, this]
    · simp [h]
  have hh : m.get a (n + 1) / 2 ^ (8 * n) = m.byte (a + n) := by
    apply Nat.eq_of_testBit_eq
    intro j
    rw [← Nat.shiftRight_eq_div_pow, Nat.testBit_shiftRight, get_bit, get_bit]
    have h5 : 8 * a + (8 * n + j) = 8 * (a + n) + j := by omega
    rw [h5]
    by_cases h : j < 8 * 1
    · have : 8 * n + j < 8 * (n + 1) := by omega
      simp [h, this]
    · have : ¬ 8 * n + j < 8 * (n + 1) := by omega
      simp [h, this]
  have := Nat.div_add_mod (m.get a (n + 1)) (2 ^ (8 * n))
  rw [hb, hh] at this
  rw [← this, Nat.mul_comm]
  omega

/-- Bytes put one by one. -/
theorem put_succ (m : Mem) (a n v : Nat) : m.put a (n + 1) v = (m.put a n v).put (a + n) 1 (v >>> (8 * n)) := by
  have : (m.put a (n + 1) v).bits = ((m.put a n v).put (a + n) 1 (v >>> (8 * n))).bits := by
    apply Nat.eq_of_testBit_eq
    intro j
    rw [put_bit, put_bit, put_bit, Nat.testBit_shiftRight]
    by_cases h1 : 8 * (a + n) ≤ j ∧ j < 8 * (a + n) + 8 * 1
    · rw [if_pos (by omega), if_pos h1]
      congr 1
      omega
    · rw [if_neg h1]
      by_cases h2 : 8 * a ≤ j ∧ j < 8 * a + 8 * n
      · rw [if_pos (by omega), if_pos h2]
      · rw [if_neg (by omega), if_neg h2]
  unfold put at *
  simpa using this

/-- Two memories with the same bytes, and nothing behind. -/
def Tight (m : Mem) : Prop := m.bits < 2 ^ (8 * m.size)
theorem put_tight {m : Mem} (h : m.Tight) {a n : Nat} (v : Nat) (han : a + n ≤ m.size) : (m.put a n v).Tight := by
  unfold Tight
  apply Nat.lt_pow_two_of_testBit
  intro j hj
  rw [put_size] at hj
  rw [put_bit, if_neg (by omega)]
  exact Nat.testBit_lt_two_pow (Nat.lt_of_lt_of_le h (Nat.pow_le_pow_right (by omega) hj))

end Mem
end Go.Proofs.Shed
