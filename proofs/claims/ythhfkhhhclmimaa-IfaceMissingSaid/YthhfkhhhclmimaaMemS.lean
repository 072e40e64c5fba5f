/- What the functions of layer 1 come to, over a memory as one number. No program in sight; no condition. -/
import Derived.Test.YthhfkhhhclmimaaMem
set_option linter.unusedVariables false
set_option linter.unusedSimpArgs false
namespace Go.Proofs.Shed

/-- 64 bits as a signed number, and back. -/
def s64 (u : Nat) : Int := if u < 9223372036854775808 then (u : Int) else (u : Int) - 18446744073709551616
def u64 (n : Int) : Nat := (n % 18446744073709551616).toNat
theorem u64_lt (n : Int) : u64 n < 18446744073709551616 := by unfold u64; omega
theorem s64_u64 (n : Int) (h0 : -9223372036854775808 ≤ n) (h1 : n ≤ 9223372036854775807) : s64 (u64 n) = n := by
  unfold s64 u64
  split <;> omega
theorem s64_bd (u : Nat) (h : u < 18446744073709551616) : -9223372036854775808 ≤ s64 u ∧ s64 u ≤ 9223372036854775807 := by
  unfold s64
  split <;> omega
theorem u64_s64 (u : Nat) (h : u < 18446744073709551616) : u64 (s64 u) = u := by
  unfold s64 u64
  split <;> omega
theorem u64_nat (k : Nat) (h : k < 18446744073709551616) : u64 (k : Int) = k := by unfold u64; omega
theorem s64_nat (k : Nat) (h : k < 9223372036854775808) : s64 k = k := by unfold s64; rw [if_pos h]

/-- Bytes as a number, and back. -/
def leN : List UInt8 → Nat
  | [] => 0
  | b :: l => b.toNat + 256 * leN l
def bytesN : Nat → Nat → List UInt8
  | 0, _ => []
  | n + 1, v => UInt8.ofNat v :: bytesN n (v / 256)
theorem bytesN_len (n v : Nat) : (bytesN n v).length = n := by
  induction n generalizing v with
  | zero => rfl
  | succ n ih => simp [bytesN, ih]
theorem leN_lt (l : List UInt8) : leN l < 2 ^ (8 * l.length) := by
  induction l with
  | nil => decide
  | cons b l ih =>
    have := b.toNat_lt
    rw [leN, List.length_cons, show 8 * (l.length + 1) = 8 * l.length + 8 by omega, Nat.pow_add]
    omega
theorem bytesN_leN (l : List UInt8) : bytesN l.length (leN l) = l := by
  induction l with
  | nil => rfl
  | cons b l ih =>
    have := b.toNat_lt
    rw [List.length_cons, bytesN, leN]
    congr 1
    · apply UInt8.toNat_inj.1
      rw [UInt8.toNat_ofNat']
      omega
    · rw [show (b.toNat + 256 * leN l) / 256 = leN l by omega]
      exact ih
theorem leN_bytesN (n v : Nat) : leN (bytesN n v) = v % 2 ^ (8 * n) := by
  induction n generalizing v with
  | zero => simp [bytesN, leN, Nat.mod_one]
  | succ n ih =>
    rw [bytesN, leN, ih, UInt8.toNat_ofNat', show 8 * (n + 1) = 8 + 8 * n by omega, Nat.pow_add, Nat.mod_mul]
theorem bytesN_get (n v i : Nat) (h : i < (bytesN n v).length) : ((bytesN n v)[i]).toNat = (v >>> (8 * i)) % 256 := by
  induction n generalizing v i with
  | zero => simp [bytesN] at h
  | succ n ih =>
    cases i with
    | zero => simp [bytesN]
    | succ i =>
      have hi : i < (bytesN n (v / 256)).length := by simp [bytesN] at h; exact h
      have : (bytesN (n + 1) v)[i + 1] = (bytesN n (v / 256))[i] := rfl
      rw [this, ih _ _ hi, show 8 * (i + 1) = 8 + 8 * i by omega, Nat.shiftRight_add, Nat.shiftRight_eq_div_pow v 8]

namespace Mem
/-- So many bytes 0. -/
def zero (n : Nat) : Mem := ⟨n, 0⟩
def has (m : Mem) (a n : Int) : Bool := decide (0 ≤ n) && decide (0 ≤ a) && decide (n ≤ m.size) && decide (a ≤ m.size - n)
def at_ (m : Mem) (a : Int) : Int := if m.has a 8 then (if a % 8 = 0 then 0 else -23) else -9
def cell (m : Mem) (a : Int) : Int × Int := if m.at_ a = 0 then (s64 (m.get a.toNat 8), 0) else (0, m.at_ a)
def setCell (m : Mem) (a n : Int) : Mem × Int := if m.at_ a = 0 then (m.put a.toNat 8 (u64 n), 0) else (m, m.at_ a)
def byteAt (m : Mem) (a : Int) : Int × Int := if m.has a 1 then ((m.byte a.toNat : Int), 0) else (0, -9)
def setByte (m : Mem) (a n : Int) : Mem × Int := if m.has a 1 then (m.put a.toNat 1 (u64 n), 0) else (m, -9)
def text (m : Mem) (a n : Int) : List UInt8 × Int := if m.has a n then (bytesN n.toNat (m.get a.toNat n.toNat), 0) else ([], -9)
def setText (m : Mem) (a : Int) (s : List UInt8) : Mem × Int := if m.has a s.length then (m.put a.toNat s.length (leN s), 0) else (m, -9)
/-- New: of no memory the code. -/
def newCode (size : Int) : Int := if 0 ≤ size ∧ size ≤ 1048576 ∧ size % 8 = 0 then 0 else -256

theorem has_iff (m : Mem) (a n : Int) : m.has a n = true ↔ 0 ≤ n ∧ 0 ≤ a ∧ a + n ≤ m.size := by
  unfold has
  simp only [Bool.and_eq_true, decide_eq_true_eq]
  omega
theorem at_zero (m : Mem) (a : Int) : m.at_ a = 0 ↔ 0 ≤ a ∧ a + 8 ≤ m.size ∧ a % 8 = 0 := by
  unfold at_
  by_cases h : m.has a 8 = true
  · rw [if_pos h]
    rw [has_iff] at h
    split <;> omega
  · rw [if_neg h]
    rw [has_iff] at h
    omega
theorem at_cases (m : Mem) (a : Int) : m.at_ a = 0 ∨ m.at_ a = -23 ∨ m.at_ a = -9 := by
  unfold at_
  split
  · split
    · exact .inl rfl
    · exact .inr (.inl rfl)
  · exact .inr (.inr rfl)
theorem setCell_size (m : Mem) (a n : Int) : (m.setCell a n).1.size = m.size := by unfold setCell; split <;> rfl
theorem setByte_size (m : Mem) (a n : Int) : (m.setByte a n).1.size = m.size := by unfold setByte; split <;> rfl
theorem setText_size (m : Mem) (a : Int) (s : List UInt8) : (m.setText a s).1.size = m.size := by unfold setText; split <;> rfl
theorem cell_bd (m : Mem) (a : Int) : -9223372036854775808 ≤ (m.cell a).1 ∧ (m.cell a).1 ≤ 9223372036854775807 := by
  unfold cell
  split
  · exact s64_bd _ (by have := m.get_lt a.toNat 8; simpa using this)
  · simp
end Mem
end Go.Proofs.Shed
