/- A memory of bytes as one number, and what is read behind a write. No program in sight; no condition. What the functions of layer 1 come to, over a memory as one number. No program in sight; no condition. What the functions of layer 6 come to. No program in sight; no condition. What the functions of layer 10 come to. No program in sight; no condition. What the functions of layer 11 come to. No program in sight; no condition. What the functions of layer 12 come to. No program in sight; no condition. What the document's functions for layers 11 to 13 come to. No program in sight; no condition. What the functions of layer 5 and of layer 13 come to. No program in sight; no condition. -/
namespace Go.Proofs.Shed

/-- A memory: how many bytes, and all bytes as one number, the lowest first. -/
structure Mem where
  size : Nat
  bits : Nat
  deriving DecidableEq

namespace Mem
/-- n bytes from a place on, as a number. -/
def get (m : Mem) (a n : Nat) : Nat := (m.bits >>> (8 * a)) % 2 ^ (8 * n)
/-- n bytes of a number, put at a place. -/
def put (m : Mem) (a n v : Nat) : Mem := { m with bits := m.bits ^^^ ((((m.bits >>> (8 * a)) % 2 ^ (8 * n)) ^^^ (v % 2 ^ (8 * n))) <<< (8 * a)) }
/-- One byte. -/
abbrev byte (m : Mem) (a : Nat) : Nat := m.get a 1

theorem put_size (m : Mem) (a n v : Nat) : (m.put a n v).size = m.size := rfl

theorem put_bit (m : Mem) (a n v j : Nat) : (m.put a n v).bits.testBit j = if 8 * a ≤ j ∧ j < 8 * a + 8 * n then v.testBit (j - 8 * a) else m.bits.testBit j := by
  simp only [put, Nat.testBit_xor, Nat.testBit_shiftLeft, Nat.testBit_mod_two_pow, Nat.testBit_shiftRight]
  by_cases h1 : 8 * a ≤ j
  · by_cases h2 : j < 8 * a + 8 * n
    · have h3 : j - 8 * a < 8 * n := by omega
      have h4 : 8 * a + (j - 8 * a) = j := by omega
      simp [h1, h2, h3, h4]
    · have h3 : ¬ j - 8 * a < 8 * n := by omega
      simp [h2, h3]
  · simp [h1]

theorem get_bit (m : Mem) (a n j : Nat) : (m.get a n).testBit j = (decide (j < 8 * n) && m.bits.testBit (8 * a + j)) := by
  simp only [get, Nat.testBit_mod_two_pow, Nat.testBit_shiftRight]

theorem get_lt (m : Mem) (a n : Nat) : m.get a n < 2 ^ (8 * n) := Nat.mod_lt _ (Nat.two_pow_pos _)
theorem byte_lt (m : Mem) (a : Nat) : m.byte a < 256 := m.get_lt a 1

/-- What was put there. -/
theorem get_put_same (m : Mem) (a n v : Nat) : (m.put a n v).get a n = v % 2 ^ (8 * n) := by
  apply Nat.eq_of_testBit_eq
  intro j
  rw [get_bit, put_bit, Nat.testBit_mod_two_pow]
  by_cases h : j < 8 * n
  · have h2 : 8 * a + j - 8 * a = j := by omega
    simp [h, h2]
  · simp [h]

/-- What lies apart. -/
theorem get_put_apart (m : Mem) (a n v b k : Nat) (h : b + k ≤ a ∨ a + n ≤ b) : (m.put a n v).get b k = m.get b k := by
  apply Nat.eq_of_testBit_eq
  intro j
  rw [get_bit, get_bit, put_bit]
  by_cases h1 : j < 8 * k
  · rw [if_neg (by omega)]
  · simp [h1]

/-- A part of what was put. -/
theorem get_put_in (m : Mem) (a n v b k : Nat) (h1 : a ≤ b) (h2 : b + k ≤ a + n) : (m.put a n v).get b k = (v >>> (8 * (b - a))) % 2 ^ (8 * k) := by
  apply Nat.eq_of_testBit_eq
  intro j
  rw [get_bit, put_bit, Nat.testBit_mod_two_pow, Nat.testBit_shiftRight]
  by_cases h : j < 8 * k
  · rw [if_pos (by omega)]
    have : 8 * b + j - 8 * a = 8 * (b - a) + j := by omega
    simp [h, this]
  · simp [h]

theorem get_zero (m : Mem) (a : Nat) : m.get a 0 = 0 := by simp [get, Nat.mod_one]
theorem put_zero (m : Mem) (a v : Nat) : m.put a 0 v = m := by
  have : m.bits ^^^ ((((m.bits >>> (8 * a)) % 2 ^ (8 * 0)) ^^^ (v % 2 ^ (8 * 0))) <<< (8 * a)) = m.bits := by simp [Nat.mod_one]
  unfold put
  rw [this]

/-- The bytes, one more. -/
theorem get_succ (m : Mem) (a n : Nat) : m.get a (n + 1) = m.get a n ||| (m.byte (a + n) <<< (8 * n)) := by
  apply Nat.eq_of_testBit_eq
  intro j
  rw [Nat.testBit_or, Nat.testBit_shiftLeft, get_bit, get_bit, get_bit]
  by_cases h1 : j < 8 * n
  · have h2 : j < 8 * (n + 1) := by omega
    have h3 : ¬ 8 * n ≤ j := by omega
    simp [h1, h2, h3]
  · by_cases h2 : j < 8 * (n + 1)
    · have h3 : 8 * n ≤ j := by omega
      have h4 : j - 8 * n < 8 := by omega
      have h5 : 8 * (a + n) + (j - 8 * n) = 8 * a + j := by omega
      simp [h1, h2, h3, h4, h5]
    · have h4 : ¬ j - 8 * n < 8 := by omega
      simp [h1, h2, h4]

theorem get_succ_add (m : Mem) (a n : Nat) : m.get a (n + 1) = m.get a n + m.byte (a + n) * 2 ^ (8 * n) := by
  have hb : m.get a (n + 1) % 2 ^ (8 * n) = m.get a n := by
    apply Nat.eq_of_testBit_eq
    intro j
    rw [Nat.testBit_mod_two_pow, get_bit, get_bit]
    by_cases h : j < 8 * n
    · have : j < 8 * (n + 1) := by omega
      simp [h, this]
    · simp [h]
  have hh : m.get a (n + 1) / 2 ^ (8 * n) = m.byte (a + n) := by
    apply Nat.eq_of_testBit_eq
    intro j
    rw [← Nat.shiftRight_eq_div_pow, Nat.testBit_shiftRight, get_bit, get_bit]
    have h5 : 8 * a + (8 * n + j) = 8 * (a + n) + j := by omega
    rw [h5]
    by_cases h : j < 8 * 1
    · have : 8 * n + j < 8 * (n + 1) := by omega
      simp [h, this]
    · have : ¬ 8 * n + j < 8 * (n + 1) := by omega
      simp [h, this]
  have := Nat.div_add_mod (m.get a (n + 1)) (2 ^ (8 * n))
  rw [hb, hh] at this
  rw [← this, Nat.mul_comm]
  omega

/-- Bytes put one by one. -/
theorem put_succ (m : Mem) (a n v : Nat) : m.put a (n + 1) v = (m.put a n v).put (a + n) 1 (v >>> (8 * n)) := by
  have : (m.put a (n + 1) v).bits = ((m.put a n v).put (a + n) 1 (v >>> (8 * n))).bits := by
    apply Nat.eq_of_testBit_eq
    intro j
    rw [put_bit, put_bit, put_bit, Nat.testBit_shiftRight]
    by_cases h1 : 8 * (a + n) ≤ j ∧ j < 8 * (a + n) + 8 * 1
    · rw [if_pos (by omega), if_pos h1]
      congr 1
      omega
    · rw [if_neg h1]
      by_cases h2 : 8 * a ≤ j ∧ j < 8 * a + 8 * n
      · rw [if_pos (by omega), if_pos h2]
      · rw [if_neg (by omega), if_neg h2]
  unfold put at *
  simpa using this

/-- Two memories with the same bytes, and nothing behind. -/
def Tight (m : Mem) : Prop := m.bits < 2 ^ (8 * m.size)
theorem put_tight {m : Mem} (h : m.Tight) {a n : Nat} (v : Nat) (han : a + n ≤ m.size) : (m.put a n v).Tight := by
  unfold Tight
  apply Nat.lt_pow_two_of_testBit
  intro j hj
  rw [put_size] at hj
  rw [put_bit, if_neg (by omega)]
  exact Nat.testBit_lt_two_pow (Nat.lt_of_lt_of_le h (Nat.pow_le_pow_right (by omega) hj))

end Mem
end Go.Proofs.Shed
set_option linter.unusedVariables false
set_option linter.unusedSimpArgs false
namespace Go.Proofs.Shed

/-- 64 bits as a signed number, and back. -/
def s64 (u : Nat) : Int := if u < 9223372036854775808 then (u : Int) else (u : Int) - 18446744073709551616
def u64 (n : Int) : Nat := (n % 18446744073709551616).toNat
theorem u64_lt (n : Int) : u64 n < 18446744073709551616 := by unfold u64; omega
theorem s64_u64 (n : Int) (h0 : -9223372036854775808 ≤ n) (h1 : n ≤ 9223372036854775807) : s64 (u64 n) = n := by
  unfold s64 u64
  split <;> omega
theorem s64_bd (u : Nat) (h : u < 18446744073709551616) : -9223372036854775808 ≤ s64 u ∧ s64 u ≤ 9223372036854775807 := by
  unfold s64
  split <;> omega
theorem u64_s64 (u : Nat) (h : u < 18446744073709551616) : u64 (s64 u) = u := by
  unfold s64 u64
  split <;> omega
theorem u64_nat (k : Nat) (h : k < 18446744073709551616) : u64 (k : Int) = k := by unfold u64; omega
theorem s64_nat (k : Nat) (h : k < 9223372036854775808) : s64 k = k := by unfold s64; rw [if_pos h]

/-- Bytes as a number, and back. -/
def leN : List UInt8 → Nat
  | [] => 0
  | b :: l => b.toNat + 256 * leN l
def bytesN : Nat → Nat → List UInt8
  | 0, _ => []
  | n + 1, v => UInt8.ofNat v :: bytesN n (v / 256)
theorem bytesN_len (n v : Nat) : (bytesN n v).length = n := by
  induction n generalizing v with
  | zero => rfl
  | succ n ih => simp [bytesN, ih]
theorem leN_lt (l : List UInt8) : leN l < 2 ^ (8 * l.length) := by
  induction l with
  | nil => decide
  | cons b l ih =>
    have := b.toNat_lt
    rw [leN, List.length_cons, show 8 * (l.length + 1) = 8 * l.length + 8 by omega, Nat.pow_add]
    omega
theorem bytesN_leN (l : List UInt8) : bytesN l.length (leN l) = l := by
  induction l with
  | nil => rfl
  | cons b l ih =>
    have := b.toNat_lt
    rw [List.length_cons, bytesN, leN]
    congr 1
    · apply UInt8.toNat_inj.1
      rw [UInt8.toNat_ofNat']
      omega
    · rw [show (b.toNat + 256 * leN l) / 256 = leN l by omega]
      exact ih
theorem leN_bytesN (n v : Nat) : leN (bytesN n v) = v % 2 ^ (8 * n) := by
  induction n generalizing v with
  | zero => simp [bytesN, leN, Nat.mod_one]
  | succ n ih =>
    rw [bytesN, leN, ih, UInt8.toNat_ofNat', show 8 * (n + 1) = 8 + 8 * n by omega, Nat.pow_add, Nat.mod_mul]
theorem bytesN_get (n v i : Nat) (h : i < (bytesN n v).length) : ((bytesN n v)[i]).toNat = (v >>> (8 * i)) % 256 := by
  induction n generalizing v i with
  | zero => simp [bytesN] at h
  | succ n ih =>
    cases i with
    | zero => simp [bytesN]
    | succ i =>
      have hi : i < (bytesN n (v / 256)).length := by simp [bytesN] at h; exact h
      have : (bytesN (n + 1) v)[i + 1] = (bytesN n (v / 256))[i] := rfl
      rw [this, ih _ _ hi, show 8 * (i + 1) = 8 + 8 * i by omega, Nat.shiftRight_add, Nat.shiftRight_eq_div_pow v 8]

namespace Mem
/-- So many bytes 0. -/
def zero (n : Nat) : Mem := ⟨n, 0⟩
def has (m : Mem) (a n : Int) : Bool := decide (0 ≤ n) && decide (0 ≤ a) && decide (n ≤ m.size) && decide (a ≤ m.size - n)
def at_ (m : Mem) (a : Int) : Int := if m.has a 8 then (if a % 8 = 0 then 0 else -23) else -9
def cell (m : Mem) (a : Int) : Int × Int := if m.at_ a = 0 then (s64 (m.get a.toNat 8), 0) else (0, m.at_ a)
def setCell (m : Mem) (a n : Int) : Mem × Int := if m.at_ a = 0 then (m.put a.toNat 8 (u64 n), 0) else (m, m.at_ a)
def byteAt (m : Mem) (a : Int) : Int × Int := if m.has a 1 then ((m.byte a.toNat : Int), 0) else (0, -9)
def setByte (m : Mem) (a n : Int) : Mem × Int := if m.has a 1 then (m.put a.toNat 1 (u64 n), 0) else (m, -9)
def text (m : Mem) (a n : Int) : List UInt8 × Int := if m.has a n then (bytesN n.toNat (m.get a.toNat n.toNat), 0) else ([], -9)
def setText (m : Mem) (a : Int) (s : List UInt8) : Mem × Int := if m.has a s.length then (m.put a.toNat s.length (leN s), 0) else (m, -9)
/-- New: of no memory the code. -/
def newCode (size : Int) : Int := if 0 ≤ size ∧ size ≤ 1048576 ∧ size % 8 = 0 then 0 else -256

theorem has_iff (m : Mem) (a n : Int) : m.has a n = true ↔ 0 ≤ n ∧ 0 ≤ a ∧ a + n ≤ m.size := by
  unfold has
  simp only [Bool.and_eq_true, decide_eq_true_eq]
  omega
theorem at_zero (m : Mem) (a : Int) : m.at_ a = 0 ↔ 0 ≤ a ∧ a + 8 ≤ m.size ∧ a % 8 = 0 := by
  unfold at_
  by_cases h : m.has a 8 = true
  · rw [if_pos h]
    rw [has_iff] at h
    split <;> omega
  · rw [if_neg h]
    rw [has_iff] at h
    omega
theorem at_cases (m : Mem) (a : Int) : m.at_ a = 0 ∨ m.at_ a = -23 ∨ m.at_ a = -9 := by
  unfold at_
  split
  · split
    · exact .inl rfl
    · exact .inr (.inl rfl)
  · exact .inr (.inr rfl)
theorem setCell_size (m : Mem) (a n : Int) : (m.setCell a n).1.size = m.size := by unfold setCell; split <;> rfl
theorem setByte_size (m : Mem) (a n : Int) : (m.setByte a n).1.size = m.size := by unfold setByte; split <;> rfl
theorem setText_size (m : Mem) (a : Int) (s : List UInt8) : (m.setText a s).1.size = m.size := by unfold setText; split <;> rfl
theorem cell_bd (m : Mem) (a : Int) : -9223372036854775808 ≤ (m.cell a).1 ∧ (m.cell a).1 ≤ 9223372036854775807 := by
  unfold cell
  split
  · exact s64_bd _ (by have := m.get_lt a.toNat 8; simpa using this)
  · simp
end Mem
end Go.Proofs.Shed
set_option linter.unusedVariables false
set_option linter.unusedSimpArgs false
namespace Go.Proofs.Shed

/-- A space: its memory, from a place on, up to another one, and the first place that isn't taken. -/
structure Sp where
  mem : Mem
  lo : Int
  to : Int
  here : Int
  deriving DecidableEq

namespace Sp
/-- As New leaves it, and all others. -/
def Ok (s : Sp) : Prop := 0 ≤ s.lo ∧ s.lo ≤ s.here ∧ s.here ≤ s.to ∧ s.to ≤ s.mem.size
def newCode (m : Mem) (lo to : Int) : Int := if lo < 0 ∨ to < lo ∨ m.size < to then -256 else 0
def allot (s : Sp) (n : Int) : Sp × Int := if n > s.to - s.here ∨ n < s.lo - s.here then (s, -8) else ({ s with here := s.here + n }, 0)
/-- put, whose write comes to r. -/
def put (s : Sp) (n : Int) (r : Mem × Int) : Sp × Int :=
  if n ≤ s.to - s.here then (if r.2 ≠ 0 then ({ s with mem := r.1 }, r.2) else allot { s with mem := r.1 } n) else s.allot n
def comma (s : Sp) (n : Int) : Sp × Int := s.put 8 (s.mem.setCell s.here n)
def char (s : Sp) (n : Int) : Sp × Int := s.put 1 (s.mem.setByte s.here n)
def chars (s : Sp) (t : List UInt8) : Sp × Int := s.put t.length (s.mem.setText s.here t)
def back (s : Sp) (h : Int) : Sp × Int := if h < s.lo ∨ s.here < h then (s, -256) else ({ s with here := h }, 0)
/-- Align, in at most so many rounds. -/
def alignN : Nat → Sp → Sp × Int
  | 0, s => (s, 0)
  | k + 1, s => if s.here % 8 = 0 then (s, 0) else if (s.char 0).2 ≠ 0 then s.char 0 else alignN k (s.char 0).1
def align (s : Sp) : Sp × Int := alignN 8 s

theorem allot_ok {s : Sp} (h : s.Ok) (n : Int) : (s.allot n).1.Ok := by
  unfold allot
  split
  · exact h
  · obtain ⟨h1, h2, h3, h4⟩ := h
    refine ⟨h1, ?_, ?_, h4⟩ <;> simp only <;> omega
theorem allot_size (s : Sp) (n : Int) : (s.allot n).1.mem = s.mem := by unfold allot; split <;> rfl
theorem put_ok {s : Sp} (h : s.Ok) (n : Int) {r : Mem × Int} (hr : r.1.size = s.mem.size) : (s.put n r).1.Ok := by
  have h' : Ok { s with mem := r.1 } := ⟨h.1, h.2.1, h.2.2.1, by show s.to ≤ r.1.size; rw [hr]; exact h.2.2.2⟩
  unfold put
  split
  · split
    · exact h'
    · exact allot_ok h' n
  · exact allot_ok h n
theorem put_size (s : Sp) (n : Int) {r : Mem × Int} (hr : r.1.size = s.mem.size) : (s.put n r).1.mem.size = s.mem.size := by
  unfold put
  split
  · split
    · exact hr
    · rw [allot_size]; exact hr
  · rw [allot_size]
theorem comma_ok {s : Sp} (h : s.Ok) (n : Int) : (s.comma n).1.Ok := put_ok h _ (Mem.setCell_size _ _ _)
theorem char_ok {s : Sp} (h : s.Ok) (n : Int) : (s.char n).1.Ok := put_ok h _ (Mem.setByte_size _ _ _)
theorem chars_ok {s : Sp} (h : s.Ok) (t : List UInt8) : (s.chars t).1.Ok := put_ok h _ (Mem.setText_size _ _ _)
theorem back_ok {s : Sp} (h : s.Ok) (n : Int) : (s.back n).1.Ok := by
  unfold back
  split
  · exact h
  · obtain ⟨h1, h2, h3, h4⟩ := h
    refine ⟨h1, ?_, ?_, h4⟩ <;> simp only <;> omega
theorem comma_size (s : Sp) (n : Int) : (s.comma n).1.mem.size = s.mem.size := put_size _ _ (Mem.setCell_size _ _ _)
theorem char_size (s : Sp) (n : Int) : (s.char n).1.mem.size = s.mem.size := put_size _ _ (Mem.setByte_size _ _ _)
theorem chars_size (s : Sp) (t : List UInt8) : (s.chars t).1.mem.size = s.mem.size := put_size _ _ (Mem.setText_size _ _ _)
theorem back_size (s : Sp) (n : Int) : (s.back n).1.mem = s.mem := by unfold back; split <;> rfl
theorem alignN_ok (k : Nat) {s : Sp} (h : s.Ok) : (alignN k s).1.Ok := by
  induction k generalizing s with
  | zero => exact h
  | succ k ih =>
    unfold alignN
    split
    · exact h
    · split
      · exact char_ok h 0
      · exact ih (char_ok h 0)
theorem align_ok {s : Sp} (h : s.Ok) : s.align.1.Ok := alignN_ok 8 h

/-- A byte that was put: one place further. -/
theorem char_here {s : Sp} (n : Int) (h : (s.char n).2 = 0) : (s.char n).1.here = s.here + 1 := by
  unfold char put at *
  split at h
  · rename_i h1
    rw [if_pos h1]
    split at h
    · rename_i h2; exact absurd h h2
    · rename_i h2
      rw [if_neg h2]
      unfold allot at *
      split at h
      · simp at h
      · rename_i h3; rw [if_neg h3]
  · rename_i h1
    rw [if_neg h1]
    unfold allot at *
    split at h
    · simp at h
    · rename_i h3; rw [if_neg h3]
/-- More rounds change nothing. -/
theorem alignN_enough (k : Nat) (s : Sp) (h : (8 - s.here % 8) % 8 ≤ k) (j : Nat) (hj : k ≤ j) : alignN j s = alignN k s := by
  induction k generalizing s j with
  | zero =>
    have h0 : s.here % 8 = 0 := by omega
    cases j with
    | zero => rfl
    | succ j => unfold alignN; rw [if_pos h0]
  | succ k ih =>
    cases j with
    | zero => omega
    | succ j =>
      unfold alignN
      by_cases h0 : s.here % 8 = 0
      · rw [if_pos h0, if_pos h0]
      · rw [if_neg h0, if_neg h0]
        by_cases he : (s.char 0).2 ≠ 0
        · rw [if_pos he, if_pos he]
        · rw [if_neg he, if_neg he]
          have := char_here (s := s) 0 (by simpa using he)
          exact ih _ (by omega) j (by omega)
theorem align_step (s : Sp) (h : s.here % 8 ≠ 0) (he : (s.char 0).2 = 0) : s.align = (s.char 0).1.align := by
  unfold align
  rw [show alignN 8 s = alignN 7 (s.char 0).1 by rw [alignN, if_neg h, if_neg (by simpa using he)]]
  have := char_here (s := s) 0 he
  exact (alignN_enough 7 _ (by omega) 8 (by omega)).symm
end Sp
end Go.Proofs.Shed
set_option linter.unusedVariables false
set_option linter.unusedSimpArgs false
namespace Go.Proofs.Shed

/-- What a selector has. -/
structure Ent where
  sel : Int
  xt : Int
  cls : Int
  deriving DecidableEq

namespace Tab
def slots (m : Mem) (t : Int) : Int :=
  if (m.cell t).2 ≠ 0 ∨ (m.cell t).1 < 1 ∨ 1024 < (m.cell t).1 then 0
  else if (m.text t ((2 + (m.cell t).1 * 3) * 8)).2 ≠ 0 then 0 else (m.cell t).1
def pos (t i : Int) : Int := t + (2 + i * 3) * 8
def read (m : Mem) (t i : Int) : Ent := ⟨(m.cell (pos t i)).1, (m.cell (pos t i + 8)).1, (m.cell (pos t i + 16)).1⟩
def home (sel n : Int) : Int := (sel % 4294967296 * 2654435761 % 4294967296) % n
/-- From the slot number i on, k slots that are left. -/
def probeN (m : Mem) (t sel n : Int) : Nat → Int → Int × Int
  | 0, _ => (-1, n)
  | k + 1, i =>
    if (read m t ((home sel n + i) % n)).sel = sel ∨ (read m t ((home sel n + i) % n)).sel = 0 then ((home sel n + i) % n, i + 1)
    else probeN m t sel n k (i + 1)
def probe (m : Mem) (t sel : Int) : Int × Int := probeN m t sel (slots m t) (slots m t).toNat 0
def get (m : Mem) (t sel : Int) : Ent × Int × Bool :=
  if (probe m t sel).1 < 0 ∨ sel < 1 then (⟨0, 0, 0⟩, (probe m t sel).2, false)
  else if (read m t (probe m t sel).1).sel ≠ sel then (⟨0, 0, 0⟩, (probe m t sel).2, false)
  else (read m t (probe m t sel).1, (probe m t sel).2, true)
def may (m : Mem) (t sel : Int) : Bool := decide (0 ≤ (probe m t sel).1) && decide (1 ≤ sel)
/-- The cell that counts. -/
def bump (m : Mem) (t i : Int) : Mem := if (read m t i).sel = 0 then (m.setCell (t + 8) ((m.cell (t + 8)).1 + 1)).1 else m
def put (m : Mem) (t : Int) (x : Ent) : Mem × Int :=
  if x.sel < 1 ∨ slots m t = 0 then (m, -256)
  else if (probe m t x.sel).1 < 0 then (m, -2051)
  else ((((((bump m t (probe m t x.sel).1).setCell (pos t (probe m t x.sel).1) x.sel).1).setCell (pos t (probe m t x.sel).1 + 8) x.xt).1.setCell (pos t (probe m t x.sel).1 + 16) x.cls).1, 0)
/-- New's cells: from the number i on, k cells that are left. -/
def newN (slots : Int) : Nat → Int → Sp → Sp × Int
  | 0, _, s => (s, 0)
  | k + 1, i, s =>
    if (s.comma (if i = 0 then slots else 0)).2 ≠ 0 then s.comma (if i = 0 then slots else 0)
    else newN slots k (i + 1) (s.comma (if i = 0 then slots else 0)).1
/-- New: the space, the table's place, the code. -/
def new (s : Sp) (slots : Int) : Sp × Int × Int :=
  if slots < 1 ∨ 1024 < slots then (s, 0, -256)
  else if s.align.2 ≠ 0 then ((s.align.1.back s.here).1, 0, s.align.2)
  else if (newN slots (2 + slots * 3).toNat 0 s.align.1).2 ≠ 0 then (((newN slots (2 + slots * 3).toNat 0 s.align.1).1.back s.here).1, 0, (newN slots (2 + slots * 3).toNat 0 s.align.1).2)
  else ((newN slots (2 + slots * 3).toNat 0 s.align.1).1, s.align.1.here, 0)
def copy (s : Sp) (t : Int) : Sp × Int × Int :=
  if (new s (slots s.mem t)).2.2 ≠ 0 then ((new s (slots s.mem t)).1, 0, (new s (slots s.mem t)).2.2)
  else ({ (new s (slots s.mem t)).1 with mem := ((new s (slots s.mem t)).1.mem.setText (new s (slots s.mem t)).2.1 ((new s (slots s.mem t)).1.mem.text t ((2 + slots s.mem t * 3) * 8)).1).1 },
    (new s (slots s.mem t)).2.1, ((new s (slots s.mem t)).1.mem.setText (new s (slots s.mem t)).2.1 ((new s (slots s.mem t)).1.mem.text t ((2 + slots s.mem t * 3) * 8)).1).2)

theorem slots_bd (m : Mem) (t : Int) : 0 ≤ slots m t ∧ slots m t ≤ 1024 := by
  unfold slots
  split
  · omega
  · split <;> omega
/-- A table with slots lies in the memory. -/
theorem slots_in (m : Mem) (t : Int) (h : slots m t ≠ 0) : 0 ≤ t ∧ t % 8 = 0 ∧ t + (2 + slots m t * 3) * 8 ≤ m.size := by
  unfold slots at *
  split at h
  · exact absurd rfl h
  · rename_i h1
    rw [if_neg h1]
    split at h
    · exact absurd rfl h
    · rename_i h2
      rw [if_neg h2]
      have c : (m.cell t).2 = 0 := by omega
      unfold Mem.cell at c
      split at c
      · rename_i h3
        rw [Mem.at_zero] at h3
        unfold Mem.text at h2
        split at h2
        · rename_i h4
          rw [Mem.has_iff] at h4
          omega
        · simp at h2
      · rename_i h3
        exact absurd c h3
theorem home_bd (sel n : Int) (h : 0 < n) : 0 ≤ home sel n ∧ home sel n < n := ⟨Int.emod_nonneg _ (by omega), Int.emod_lt_of_pos _ h⟩
theorem probeN_bd (m : Mem) (t sel n : Int) (hn : 0 < n) (k : Nat) (i : Int) : (probeN m t sel n k i).1 < n ∧ -1 ≤ (probeN m t sel n k i).1 := by
  induction k generalizing i with
  | zero => unfold probeN; simp only; omega
  | succ k ih =>
    unfold probeN
    split
    · simp only
      have h1 := Int.emod_nonneg (home sel n + i) (show n ≠ 0 by omega)
      have h2 := Int.emod_lt_of_pos (home sel n + i) hn
      omega
    · exact ih _
theorem probe_bd (m : Mem) (t sel : Int) : -1 ≤ (probe m t sel).1 ∧ ((probe m t sel).1 < slots m t ∨ (probe m t sel).1 = -1) := by
  unfold probe
  by_cases h : slots m t = 0
  · rw [h]
    simp [probeN]
  · have := slots_bd m t
    have := probeN_bd m t sel (slots m t) (by omega) (slots m t).toNat 0
    omega
end Tab
end Go.Proofs.Shed
set_option linter.unusedVariables false
set_option linter.unusedSimpArgs false
namespace Go.Proofs.Shed

/-- A class: its place, its parent, how many bytes its objects have, its table, the class made ahead. -/
structure Cls where
  at_ : Int
  parent : Int
  size : Int
  table : Int
  prev : Int
  deriving DecidableEq

namespace Class
def magic : Int := 357694784579
def root (s : Sp) : Sp × Int × Int :=
  if s.align.2 ≠ 0 then (s.align.1, 0, s.align.2)
  else if (s.align.1.comma 0).2 ≠ 0 then ((s.align.1.comma 0).1, 0, (s.align.1.comma 0).2)
  else ((s.align.1.comma 0).1, s.align.1.here, 0)
def read (m : Mem) (a : Int) : Cls × Bool :=
  if (m.cell a).2 ≠ 0 ∨ (m.cell (a + 8)).2 ≠ 0 ∨ (m.cell (a + 16)).2 ≠ 0 ∨ (m.cell (a + 24)).2 ≠ 0 ∨ (m.cell (a + 32)).2 ≠ 0 then (⟨0, 0, 0, 0, 0⟩, false)
  else (⟨a, (m.cell (a + 8)).1, (m.cell (a + 16)).1, (m.cell (a + 24)).1, (m.cell (a + 32)).1⟩, decide ((m.cell a).1 = magic))
/-- From a class on, in at most so many steps. -/
def walkN (m : Mem) : Nat → Int → Int → List Cls
  | 0, _, _ => []
  | k + 1, a, last => if 0 < a ∧ a < last then (if (read m a).2 then (read m a).1 :: walkN m k (read m a).1.prev a else []) else []
def walk (m : Mem) (a last : Int) : List Cls := walkN m last.toNat a last
def all (m : Mem) (root : Int) : List Cls := if (m.cell root).2 = 0 then (walk m (m.cell root).1 m.size).reverse else []
def is (m : Mem) (root a : Int) : Bool := (all m root).any fun c => decide (c.at_ = a)
/-- make5: the space, the place, the code. -/
def make5 (s : Sp) (root parent slots : Int) : Sp × Int × Int :=
  if (s.mem.cell root).2 ≠ 0 then (s, 0, (s.mem.cell root).2)
  else if parent = 0 then rest (Tab.new s slots) 8
  else if is s.mem root parent = false then (s, 0, -2048)
  else rest (Tab.copy s (read s.mem parent).1.table) (read s.mem parent).1.size
where
  rest (t : Sp × Int × Int) (size : Int) : Sp × Int × Int :=
    if t.2.2 ≠ 0 then (t.1, 0, t.2.2)
    else cells t.1 [magic, parent, size, t.2.1, (s.mem.cell root).1] t.1.here
  cells (x : Sp) (l : List Int) (a : Int) : Sp × Int × Int :=
    match l with
    | [] => (x, a, 0)
    | n :: l => if (x.comma n).2 ≠ 0 then ((x.comma n).1, 0, (x.comma n).2) else cells (x.comma n).1 l a
def new (s : Sp) (root parent slots : Int) : Sp × Int × Int :=
  if (make5 s root parent slots).2.2 ≠ 0 then (((make5 s root parent slots).1.back s.here).1, 0, (make5 s root parent slots).2.2)
  else ({ (make5 s root parent slots).1 with mem := ((make5 s root parent slots).1.mem.setCell root (make5 s root parent slots).2.1).1 }, (make5 s root parent slots).2.1, ((make5 s root parent slots).1.mem.setCell root (make5 s root parent slots).2.1).2)
/-- Grow: the memory, where the bytes begin, the code. -/
def grow (m : Mem) (a n : Int) : Mem × Int × Int :=
  if (read m a).2 = false then (m, 0, -2048)
  else if n < 0 ∨ 1048576 < n ∨ (read m a).1.size < 0 ∨ 1048576 < (read m a).1.size then (m, 0, -256)
  else ((m.setCell (a + 16) (((read m a).1.size + n + 7) / 8 * 8)).1, (read m a).1.size, 0)
def lookup (m : Mem) (a sel : Int) : Ent × Int × Bool :=
  if (read m a).2 = false then (⟨0, 0, 0⟩, 0, false) else Tab.get m (read m a).1.table sel
/-- heirs: of some classes, those that take a method. -/
def heirsL (m : Mem) (a sel : Int) : List Cls → List Int → List Cls
  | [], _ => []
  | c :: l, seen =>
    if c.at_ = a ∨ (c.parent ∈ seen ∧ ¬ ((Tab.get m c.table sel).2.2 = true ∧ (Tab.get m c.table sel).1.cls = c.at_)) then c :: heirsL m a sel l (c.at_ :: seen)
    else heirsL m a sel l seen
def heirs (m : Mem) (root a sel : Int) : List Cls := heirsL m a sel (all m root) []
/-- Set's writes. -/
def putL (m : Mem) (x : Ent) : List Cls → Mem × Int
  | [] => (m, 0)
  | c :: l => if (Tab.put m c.table x).2 ≠ 0 then Tab.put m c.table x else putL (Tab.put m c.table x).1 x l
def set (m : Mem) (root a sel xt : Int) : Mem × Int :=
  if heirs m root a sel = [] then (m, -2048)
  else if sel < 1 then (m, -256)
  else if (heirs m root a sel).any (fun c => !Tab.may m c.table sel) then (m, -2051)
  else putL m ⟨sel, xt, a⟩ (heirs m root a sel)

theorem walkN_enough (m : Mem) (k : Nat) (a last : Int) (h : last.toNat ≤ k) (j : Nat) (hj : last.toNat ≤ j) : walkN m k a last = walkN m j a last := by
  induction k generalizing a last j with
  | zero =>
    cases j with
    | zero => rfl
    | succ j =>
      rw [walkN, walkN, if_neg (by omega)]
  | succ k ih =>
    cases j with
    | zero => rw [walkN, walkN, if_neg (by omega)]
    | succ j =>
      rw [walkN, walkN]
      by_cases h1 : 0 < a ∧ a < last
      · rw [if_pos h1, if_pos h1]
        by_cases h2 : (read m a).2 = true
        · rw [if_pos h2, if_pos h2, ih _ a (by omega) j (by omega)]
        · rw [if_neg h2, if_neg h2]
      · rw [if_neg h1, if_neg h1]
theorem walk_step (m : Mem) (a last : Int) (h : 0 < a ∧ a < last) (h2 : (read m a).2 = true) : walk m a last = (read m a).1 :: walk m (read m a).1.prev a := by
  unfold walk
  obtain ⟨k, hk⟩ : ∃ k, last.toNat = k + 1 := ⟨last.toNat - 1, by omega⟩
  rw [hk, walkN, if_pos h, if_pos h2, walkN_enough m k _ a (by omega) a.toNat (Nat.le_refl _)]
theorem walk_end (m : Mem) (a last : Int) (h : ¬ (0 < a ∧ a < last)) : walk m a last = [] := by
  unfold walk
  cases last.toNat with
  | zero => rfl
  | succ k => rw [walkN, if_neg h]
theorem walk_bad (m : Mem) (a last : Int) (h2 : (read m a).2 = false) : walk m a last = [] := by
  unfold walk
  cases last.toNat with
  | zero => rfl
  | succ k =>
    rw [walkN]
    split
    · rw [h2]; rfl
    · rfl
theorem walk_len (m : Mem) (a last : Int) : (walk m a last).length ≤ last.toNat := by
  unfold walk
  generalize last.toNat = k
  induction k generalizing a last with
  | zero => simp [walkN]
  | succ k ih =>
    rw [walkN]
    split
    · split
      · have := ih (read m a).1.prev a; simp; omega
      · simp
    · simp
theorem all_len (m : Mem) (root : Int) : (all m root).length ≤ m.size := by
  unfold all
  split
  · have := walk_len m (m.cell root).1 m.size
    simp only [List.length_reverse]
    omega
  · simp
end Class
end Go.Proofs.Shed
set_option linter.unusedVariables false
set_option linter.unusedSimpArgs false
namespace Go.Proofs.Shed
namespace Iface
/-- So many numbers behind the space's end, as long as there is no error. -/
def cells : List Int → Sp × Int → Sp × Int
  | [], r => r
  | n :: l, r => cells l (if r.2 = 0 then r.1.comma n else r)
def newR (x : Sp) (l : List Int) : Sp × Int := cells ((l.length : Int) :: l) x.align
def new (x : Sp) (l : List Int) : Sp × Int × Int :=
  if 1024 < l.length then (x, 0, -256)
  else if (newR x l).2 ≠ 0 then (((newR x l).1.back x.here).1, 0, (newR x l).2)
  else ((newR x l).1, x.align.1.here, 0)
/-- The cells from a number on. -/
def selsN (m : Mem) (a : Int) : Nat → Int → Option (List Int)
  | 0, _ => some []
  | k + 1, i => if (m.cell (a + (i + 1) * 8)).2 ≠ 0 then none else (selsN m a k (i + 1)).map ((m.cell (a + (i + 1) * 8)).1 :: ·)
def sels (m : Mem) (a : Int) : Option (List Int) :=
  if (m.cell a).2 ≠ 0 ∨ (m.cell a).1 < 0 ∨ 1024 < (m.cell a).1 then none
  else selsN m a (m.cell a).1.toNat 0
def missingL (m : Mem) (c : Int) : List Int → Int × Int
  | [] => (0, 0)
  | s :: l => if (Class.lookup m c s).2.2 then missingL m c l else (s, -2050)
def missing (m : Mem) (a c : Int) : Int × Int :=
  match sels m a with
  | none => (0, -256)
  | some l => if (Class.read m c).2 = false then (0, -2048) else missingL m c l
theorem selsN_len (m : Mem) (a : Int) (k : Nat) (i : Int) (l : List Int) (h : selsN m a k i = some l) : l.length = k := by
  induction k generalizing i l with
  | zero => cases h; rfl
  | succ k ih =>
    rw [selsN] at h
    split at h
    · cases h
    · cases hs : selsN m a k (i + 1) with
      | none => rw [hs] at h; cases h
      | some l' => rw [hs] at h; cases h; simp [ih _ _ hs]
theorem sels_len (m : Mem) (a : Int) (l : List Int) (h : sels m a = some l) : l.length ≤ 1024 := by
  unfold sels at h
  split at h
  · cases h
  · rename_i hc
    rw [selsN_len _ _ _ _ _ h]
    omega
end Iface
end Go.Proofs.Shed
set_option linter.unusedVariables false
set_option linter.unusedSimpArgs false
namespace Go.Proofs.Shed
/-- A class, as the document has it. -/
structure RCls where
  parent : Int
  size : Int
  slots : Int
  own : List (Int × Int)
  deriving DecidableEq
namespace Ref
def own : List (Int × Int) → Int → Option Int
  | [], _ => none
  | p :: l, sel => if p.1 = sel then some p.2 else own l sel
def get (L : List RCls) (c : Int) : RCls := L.getD c.toNat ⟨-1, 0, 0, []⟩
/-- Each parent stands ahead. -/
def Ok (L : List RCls) : Prop := ∀ i (h : i < L.length), -1 ≤ L[i].parent ∧ L[i].parent < i
/-- In at most so many steps. -/
def walkN (L : List RCls) (sel : Int) : Nat → Int → Option (Int × Int)
  | 0, _ => none
  | k + 1, c => if c < 0 then none else
    match own (get L c).own sel with
    | some xt => some (xt, c)
    | none => walkN L sel k (get L c).parent
def walk (L : List RCls) (c sel : Int) : Option (Int × Int) := walkN L sel (c + 1).toNat c
def heirN (L : List RCls) (of sel : Int) : Nat → Int → Bool
  | 0, c => decide (c = of)
  | k + 1, c => if c < 0 ∨ c = of then decide (c = of) else
    match own (get L c).own sel with
    | some _ => false
    | none => heirN L of sel k (get L c).parent
def heir (L : List RCls) (c of sel : Int) : Bool := heirN L of sel (c + 1).toNat c
def addAll : List Int → List (Int × Int) → List Int
  | all, [] => all
  | all, p :: l => addAll (if p.1 ∈ all then all else all ++ [p.1]) l
def seenN (L : List RCls) : Nat → Int → List Int → List Int
  | 0, _, all => all
  | k + 1, c, all => if c < 0 then all else seenN L k (get L c).parent (addAll all (get L c).own)
def seen (L : List RCls) (c : Int) : Nat := (seenN L (c + 1).toNat c []).length
/-- Is a class without room? -/
def full (L : List RCls) (c sel : Int) (i : Nat) : Bool := heir L i c sel && (walk L i sel).isNone && decide ((get L i).slots ≤ seen L i)
def put (L : List RCls) (c : Nat) (sel xt : Int) : List RCls :=
  L.set c { get L c with own := (get L c).own.filter (fun p => p.1 ≠ sel) ++ [(sel, xt)] }
def set (L : List RCls) (c : Nat) (sel xt : Int) : List RCls × Int :=
  if sel < 1 then (L, -256)
  else if (List.range L.length).any (full L c sel) then (L, -2051)
  else (put L c sel xt, 0)
def new (L : List RCls) (parent slots : Int) : List RCls :=
  L ++ [if 0 ≤ parent then ⟨parent, (get L parent).size, (get L parent).slots, []⟩ else ⟨parent, 8, slots, []⟩]

theorem walkN_succ (L : List RCls) (sel : Int) (k : Nat) (c : Int) : walkN L sel (k + 1) c = if c < 0 then none else
    match own (get L c).own sel with
    | some xt => some (xt, c)
    | none => walkN L sel k (get L c).parent := rfl
theorem heirN_succ (L : List RCls) (o sel : Int) (k : Nat) (c : Int) : heirN L o sel (k + 1) c = if c < 0 ∨ c = o then decide (c = o) else
    match own (get L c).own sel with
    | some _ => false
    | none => heirN L o sel k (get L c).parent := rfl
theorem seenN_succ (L : List RCls) (k : Nat) (c : Int) (all : List Int) : seenN L (k + 1) c all = if c < 0 then all else seenN L k (get L c).parent (addAll all (get L c).own) := rfl
theorem walkN_more (L : List RCls) (h : Ok L) (sel : Int) (k : Nat) (c : Int) (hk : c < k) (hc : c < L.length) : walkN L sel (k + 1) c = walkN L sel k c := by
  induction k generalizing c with
  | zero => rw [walkN, walkN, if_pos (by omega)]
  | succ k ih =>
    rw [walkN_succ L sel (k + 1), walkN_succ L sel k c]
    by_cases h0 : c < 0
    · rw [if_pos h0, if_pos h0]
    · rw [if_neg h0, if_neg h0]
      cases own (get L c).own sel with
      | some x => rfl
      | none =>
        have hp := h c.toNat (by omega)
        have e : (get L c) = L[c.toNat]'(by omega) := by unfold get; rw [List.getD_eq_getElem?_getD, List.getElem?_eq_getElem (by omega)]; rfl
        rw [← e] at hp
        exact ih _ (by omega) (by omega)
theorem walkN_enough (L : List RCls) (h : Ok L) (sel : Int) (k : Nat) (c : Int) (hk : c < k) (hc : c < L.length) : walkN L sel k c = walk L c sel := by
  unfold walk
  obtain ⟨d, hd⟩ : ∃ d, k = (c + 1).toNat + d := ⟨k - (c + 1).toNat, by omega⟩
  subst hd
  clear hk
  induction d with
  | zero => rfl
  | succ d ih => rw [← Nat.add_assoc, walkN_more L h sel _ c (by omega) hc, ih]
theorem walk_neg (L : List RCls) (c sel : Int) (h : c < 0) : walk L c sel = none := by
  unfold walk
  rw [show (c + 1).toNat = 0 by omega]
  rfl
theorem get_at (L : List RCls) (c : Nat) (h : c < L.length) : get L c = L[c] := by
  unfold get
  rw [List.getD_eq_getElem?_getD, show (c : Int).toNat = c by omega, List.getElem?_eq_getElem h]
  rfl
theorem walk_step (L : List RCls) (h : Ok L) (c : Nat) (sel : Int) (hc : c < L.length) : walk L c sel = match own L[c].own sel with
    | some xt => some (xt, (c : Int))
    | none => walk L L[c].parent sel := by
  have hp := h c hc
  conv => lhs; unfold walk
  rw [show ((c : Int) + 1).toNat = c + 1 by omega, walkN, if_neg (by omega), get_at L c hc]
  cases own L[c].own sel with
  | some x => rfl
  | none => exact walkN_enough L h sel c _ (by omega) (by omega)
theorem heirN_more (L : List RCls) (h : Ok L) (o sel : Int) (k : Nat) (c : Int) (hk : c < k) (hc : c < L.length) : heirN L o sel (k + 1) c = heirN L o sel k c := by
  induction k generalizing c with
  | zero => rw [heirN, heirN, if_pos (by omega)]
  | succ k ih =>
    rw [heirN_succ L o sel (k + 1), heirN_succ L o sel k c]
    by_cases h0 : c < 0 ∨ c = o
    · rw [if_pos h0, if_pos h0]
    · rw [if_neg h0, if_neg h0]
      cases own (get L c).own sel with
      | some x => rfl
      | none =>
        have hp := h c.toNat (by omega)
        have e : (get L c) = L[c.toNat]'(by omega) := by unfold get; rw [List.getD_eq_getElem?_getD, List.getElem?_eq_getElem (by omega)]; rfl
        rw [← e] at hp
        exact ih _ (by omega) (by omega)
theorem heirN_enough (L : List RCls) (h : Ok L) (o sel : Int) (k : Nat) (c : Int) (hk : c < k) (hc : c < L.length) : heirN L o sel k c = heir L c o sel := by
  unfold heir
  obtain ⟨d, hd⟩ : ∃ d, k = (c + 1).toNat + d := ⟨k - (c + 1).toNat, by omega⟩
  subst hd
  clear hk
  induction d with
  | zero => rfl
  | succ d ih => rw [← Nat.add_assoc, heirN_more L h o sel _ c (by omega) hc, ih]
theorem heir_end (L : List RCls) (c o sel : Int) (h : c < 0 ∨ c = o) : heir L c o sel = decide (c = o) := by
  unfold heir
  cases (c + 1).toNat with
  | zero => rfl
  | succ k => rw [heirN, if_pos h]
theorem heir_step (L : List RCls) (h : Ok L) (c : Nat) (o sel : Int) (hc : c < L.length) (ho : (c : Int) ≠ o) : heir L c o sel = match own L[c].own sel with
    | some _ => false
    | none => heir L L[c].parent o sel := by
  have hp := h c hc
  conv => lhs; unfold heir
  rw [show ((c : Int) + 1).toNat = c + 1 by omega, heirN, if_neg (by omega), get_at L c hc]
  cases own L[c].own sel with
  | some x => rfl
  | none => exact heirN_enough L h o sel c _ (by omega) (by omega)
/-- What a class and those above it know, beside some. -/
def seenA (L : List RCls) (c : Int) (all : List Int) : List Int := seenN L (c + 1).toNat c all
theorem seenN_more (L : List RCls) (h : Ok L) (k : Nat) (c : Int) (all : List Int) (hk : c < k) (hc : c < L.length) : seenN L (k + 1) c all = seenN L k c all := by
  induction k generalizing c all with
  | zero => rw [seenN, seenN, if_pos (by omega)]
  | succ k ih =>
    rw [seenN_succ L (k + 1), seenN_succ L k c all]
    by_cases h0 : c < 0
    · rw [if_pos h0, if_pos h0]
    · rw [if_neg h0, if_neg h0]
      have hp := h c.toNat (by omega)
      have e : (get L c) = L[c.toNat]'(by omega) := by unfold get; rw [List.getD_eq_getElem?_getD, List.getElem?_eq_getElem (by omega)]; rfl
      rw [← e] at hp
      exact ih _ _ (by omega) (by omega)
theorem seenN_enough (L : List RCls) (h : Ok L) (k : Nat) (c : Int) (all : List Int) (hk : c < k) (hc : c < L.length) : seenN L k c all = seenA L c all := by
  unfold seenA
  obtain ⟨d, hd⟩ : ∃ d, k = (c + 1).toNat + d := ⟨k - (c + 1).toNat, by omega⟩
  subst hd
  clear hk
  induction d with
  | zero => rfl
  | succ d ih => rw [← Nat.add_assoc, seenN_more L h _ c all (by omega) hc, ih]
theorem seenA_neg (L : List RCls) (c : Int) (all : List Int) (h : c < 0) : seenA L c all = all := by
  unfold seenA
  rw [show (c + 1).toNat = 0 by omega]
  rfl
theorem seenA_step (L : List RCls) (h : Ok L) (c : Nat) (all : List Int) (hc : c < L.length) : seenA L c all = seenA L L[c].parent (addAll all L[c].own) := by
  have hp := h c hc
  conv => lhs; unfold seenA
  rw [show ((c : Int) + 1).toNat = c + 1 by omega, seenN, if_neg (by omega), get_at L c hc]
  exact seenN_enough L h c _ _ (by omega) (by omega)
end Ref
end Go.Proofs.Shed
set_option linter.unusedVariables false
set_option linter.unusedSimpArgs false
namespace Go.Proofs.Shed
/-- A block of a heap: where its header stands, its bytes with that, whether it is used. -/
structure Blk where
  at_ : Int
  size : Int
  used : Bool
  deriving DecidableEq
namespace Heap
def newCode (m : Mem) (lo to : Int) : Int := if lo < 0 ∨ lo % 8 ≠ 0 ∨ to % 8 ≠ 0 ∨ m.size < to ∨ to < lo ∨ to - lo < 16 then -256 else 0
def put (m : Mem) (b : Blk) : Mem × Int := m.setCell b.at_ (if b.used then b.size + 1 else b.size)
/-- A header's block. -/
def blk (a n : Int) : Blk := ⟨a, n - n % 2, decide (n % 2 = 1)⟩
/-- From a place on, in at most so many steps. -/
def blocksN (m : Mem) (to : Int) : Nat → Int → Option (List Blk)
  | 0, _ => some []
  | k + 1, a =>
    if a < to then
      (if (m.cell a).2 ≠ 0 ∨ (blk a (m.cell a).1).size < 16 ∨ (blk a (m.cell a).1).size % 8 ≠ 0 ∨ to - a < (blk a (m.cell a).1).size then none
       else (blocksN m to k (a + (blk a (m.cell a).1).size)).map (blk a (m.cell a).1 :: ·))
    else some []
def blocks (m : Mem) (lo to : Int) : Option (List Blk) := blocksN m to (to - lo).toNat lo
def need (n : Int) : Int := if 16 < (n + 15) / 8 * 8 then (n + 15) / 8 * 8 else 16
/-- The first block that is free and has room. -/
def pick (size : Int) : List Blk → Option Blk
  | [] => none
  | b :: l => if b.used = true ∨ b.size < size then pick size l else some b
def give (m : Mem) (b : Blk) (size : Int) : Mem × Int × Int :=
  if 16 ≤ b.size - size then ((put (put m ⟨b.at_ + size, b.size - size, false⟩).1 ⟨b.at_, size, true⟩).1, b.at_ + 8, (put (put m ⟨b.at_ + size, b.size - size, false⟩).1 ⟨b.at_, size, true⟩).2)
  else ((put m ⟨b.at_, b.size, true⟩).1, b.at_ + 8, (put m ⟨b.at_, b.size, true⟩).2)
def alloc (m : Mem) (lo to n : Int) : Mem × Int × Int :=
  if n < 0 ∨ 1048576 < n then (m, 0, -59)
  else match blocks m lo to with
    | none => (m, 0, -2052)
    | some l => match pick (need n) l with
      | none => (m, 0, -59)
      | some b => give m b (need n)
/-- The number of the used block whose bytes begin somewhere, from a number on. -/
def findN (a : Int) : Nat → List Blk → Int
  | _, [] => -1
  | i, b :: l => if b.used = true ∧ b.at_ + 8 = a then (i : Int) else findN a (i + 1) l
def find (l : List Blk) (a : Int) : Int := findN a 0 l
/-- A block that is given back, one with those that are free beside it. -/
def join (l : List Blk) (i : Nat) : Blk :=
  let b := l.getD i ⟨0, 0, false⟩
  let n := l.getD (i + 1) ⟨0, 0, true⟩
  let p := l.getD (i - 1) ⟨0, 0, true⟩
  let s := if i + 1 < l.length ∧ n.used = false then b.size + n.size else b.size
  if 0 < i ∧ p.used = false then ⟨p.at_, s + p.size, false⟩ else ⟨b.at_, s, false⟩
def free (m : Mem) (lo to a : Int) : Mem × Int :=
  match blocks m lo to with
  | none => (m, -2052)
  | some l => if find l a < 0 then (m, -60) else put m (join l (find l a).toNat)
end Heap
namespace Obj
def size (m : Mem) (c : Int) : Int × Int :=
  if (Class.read m c).2 = false then (0, -2048)
  else if (Class.read m c).1.size < 8 ∨ 1048576 < (Class.read m c).1.size then (0, -256)
  else ((Class.read m c).1.size, 0)
def make (m : Mem) (a c : Int) : Mem × Int :=
  if (size m c).2 ≠ 0 then (m, (size m c).2)
  else if (m.cell a).2 ≠ 0 then (m, (m.cell a).2)
  else if (m.setText a (List.replicate (size m c).1.toNat 0)).2 ≠ 0 then m.setText a (List.replicate (size m c).1.toNat 0)
  else (m.setText a (List.replicate (size m c).1.toNat 0)).1.setCell a c
def heap (m : Mem) (lo to c : Int) : Mem × Int × Int :=
  if (size m c).2 ≠ 0 then (m, 0, (size m c).2)
  else if (Heap.alloc m lo to (size m c).1).2.2 ≠ 0 then ((Heap.alloc m lo to (size m c).1).1, 0, (Heap.alloc m lo to (size m c).1).2.2)
  else ((make (Heap.alloc m lo to (size m c).1).1 (Heap.alloc m lo to (size m c).1).2.1 c).1, (Heap.alloc m lo to (size m c).1).2.1, (make (Heap.alloc m lo to (size m c).1).1 (Heap.alloc m lo to (size m c).1).2.1 c).2)
/-- Dict: behind Align, and Allot. -/
def dictR (x : Sp) (n : Int) : Sp × Int := if x.align.2 ≠ 0 then x.align else x.align.1.allot n
def dict (x : Sp) (c : Int) : Sp × Int × Int :=
  if (size x.mem c).2 ≠ 0 then (x, 0, (size x.mem c).2)
  else if (dictR x (size x.mem c).1).2 ≠ 0 then (((dictR x (size x.mem c).1).1.back x.here).1, 0, (dictR x (size x.mem c).1).2)
  else ({ (dictR x (size x.mem c).1).1 with mem := (make (dictR x (size x.mem c).1).1.mem x.align.1.here c).1 }, x.align.1.here, (make (dictR x (size x.mem c).1).1.mem x.align.1.here c).2)
def cls (m : Mem) (root a : Int) : Int × Int :=
  if (m.cell a).2 ≠ 0 ∨ Class.is m root (m.cell a).1 = false then (0, -2048) else ((m.cell a).1, 0)
def send (m : Mem) (root a sel : Int) : Int × Int × Int :=
  if (cls m root a).2 ≠ 0 then (0, 0, (cls m root a).2)
  else if (Class.lookup m (cls m root a).1 sel).2.2 = false then (0, (Class.lookup m (cls m root a).1 sel).2.1, -2049)
  else ((Class.lookup m (cls m root a).1 sel).1.xt, (Class.lookup m (cls m root a).1 sel).2.1, 0)
end Obj
end Go.Proofs.Shed
