/- Bits of a signed number: the lowest ones away, or alone. No program in sight; no condition but 64 bits. Words of a list: step by step. No program in sight; no condition. Scripts as texts: what Parse comes to, in the program's way and in the reference's. No program in sight; no condition. -/
import Derived.Test.YthhfkhhhclmimaaGreatDoorMPA
import Derived.Laws.BitsAllLaws
import Derived.Lib.ParseIntB
import Derived.Lib.IndexMore
set_option linter.unusedVariables false
set_option linter.unusedSimpArgs false
namespace Go.Proofs.Shed
open Go
theorem ofInt_mod (n : Int) : (BitVec.ofInt 64 n).toNat = (n % 18446744073709551616).toNat := by
  rw [BitVec.toNat_ofInt]
  rfl
theorem nat_hi (u j : Nat) (hj : j ≤ 64) (hu : u < 2 ^ 64) : u &&& (2 ^ 64 - 2 ^ j) = u / 2 ^ j * 2 ^ j := by
  apply Nat.eq_of_testBit_eq
  intro i
  have e : 2 ^ 64 - 2 ^ j = (2 ^ (64 - j) - 1) <<< j := by
    rw [Nat.shiftLeft_eq, Nat.sub_mul, ← Nat.pow_add, Nat.one_mul, show 64 - j + j = 64 by omega]
  rw [e, Nat.testBit_and, Nat.testBit_shiftLeft, Nat.testBit_two_pow_sub_one, ← Nat.shiftRight_eq_div_pow, ← Nat.shiftLeft_eq, Nat.testBit_shiftLeft, Nat.testBit_shiftRight]
  by_cases h1 : j ≤ i
  · rw [show j + (i - j) = i by omega]
    by_cases h2 : i < 64
    · have : i - j < 64 - j := by omega
      simp [h1, this]
    · have h3 : u.testBit i = false := Nat.testBit_lt_two_pow (Nat.lt_of_lt_of_le hu (Nat.pow_le_pow_right (by omega) (by omega)))
      simp [h3]
  · simp [h1]
theorem wrap_s (n : Int) : IntKind.i64.wrap n = if n % 18446744073709551616 < 9223372036854775808 then n % 18446744073709551616 else n % 18446744073709551616 - 18446744073709551616 := by
  simp only [IntKind.wrap, IntKind.bits, IntKind.signed]
  show (if (true && decide _) = true then _ else _) = _
  by_cases h : n % 18446744073709551616 < 9223372036854775808
  · rw [if_pos h, if_neg]
    · rfl
    · simp
      show n % 18446744073709551616 < 9223372036854775808
      exact h
  · rw [if_neg h, if_pos]
    · rfl
    · simp
      show 9223372036854775808 ≤ n % 18446744073709551616
      omega
theorem andNot_1 (n : Int) (h0 : -9223372036854775808 ≤ n) (h1 : n ≤ 9223372036854775807) : bits .andNot .i64 n 1 = n - n % 2 := by
  show IntKind.i64.wrap ((BitVec.ofInt 64 n &&& ~~~BitVec.ofInt 64 ((1 : Nat) : Int)).toNat : Int) = _
  rw [BitVec.toNat_and, BitVec.toNat_not, ofInt_mod, ofInt_mod, show ((((1 : Nat) : Int) % 18446744073709551616).toNat) = 1 by rfl, show 2 ^ 64 - 1 - 1 = 2 ^ 64 - 2 ^ 1 by rfl, nat_hi _ 1 (by omega) (by omega), wrap_s]
  omega
theorem andNot_7 (n : Int) (h0 : -9223372036854775808 ≤ n) (h1 : n ≤ 9223372036854775807) : bits .andNot .i64 n 7 = n - n % 8 := by
  show IntKind.i64.wrap ((BitVec.ofInt 64 n &&& ~~~BitVec.ofInt 64 ((7 : Nat) : Int)).toNat : Int) = _
  rw [BitVec.toNat_and, BitVec.toNat_not, ofInt_mod, ofInt_mod, show ((((7 : Nat) : Int) % 18446744073709551616).toNat) = 7 by rfl, show 2 ^ 64 - 1 - 7 = 2 ^ 64 - 2 ^ 3 by rfl, nat_hi _ 3 (by omega) (by omega), wrap_s]
  omega
theorem and_1 (n : Int) : bits .and .i64 n 1 = n % 2 := by
  show IntKind.i64.wrap ((BitVec.ofInt 64 n &&& BitVec.ofInt 64 ((1 : Nat) : Int)).toNat : Int) = _
  rw [BitVec.toNat_and, ofInt_mod, ofInt_mod, show ((((1 : Nat) : Int) % 18446744073709551616).toNat) = 1 by rfl, nat_mask1, wrap_s]
  omega
theorem and_255 (n : Int) : bits .and .i64 n 255 = n % 256 := by
  show IntKind.i64.wrap ((BitVec.ofInt 64 n &&& BitVec.ofInt 64 ((255 : Nat) : Int)).toNat : Int) = _
  rw [BitVec.toNat_and, ofInt_mod, ofInt_mod, show ((((255 : Nat) : Int) % 18446744073709551616).toNat) = 2 ^ 8 - 1 by rfl, Nat.and_two_pow_sub_one_eq_mod, wrap_s]
  omega
theorem and_2 (n : Int) : bits .and .i64 n 2 = n % 4 / 2 * 2 := by
  have h := Nat.and_two_pow_sub_one_eq_mod ((n % 18446744073709551616).toNat / 2) 1
  show IntKind.i64.wrap ((BitVec.ofInt 64 n &&& BitVec.ofInt 64 ((2 : Nat) : Int)).toNat : Int) = _
  rw [BitVec.toNat_and, ofInt_mod, ofInt_mod, show ((((2 : Nat) : Int) % 18446744073709551616).toNat) = 2 ^ 1 by rfl, wrap_s]
  have e : (n % 18446744073709551616).toNat &&& 2 ^ 1 = (n % 18446744073709551616).toNat / 2 % 2 * 2 := by
    apply Nat.eq_of_testBit_eq
    intro i
    rw [Nat.testBit_and, Nat.testBit_two_pow]
    by_cases hi : 1 = i
    · subst hi
      have : ((n % 18446744073709551616).toNat / 2 % 2 * 2).testBit 1 = decide ((n % 18446744073709551616).toNat / 2 % 2 = 1) := by
        rcases Nat.mod_two_eq_zero_or_one ((n % 18446744073709551616).toNat / 2) with h | h <;> rw [h] <;> decide
      rw [this, Nat.testBit_succ, Nat.testBit_zero]
      simp
    · have : ((n % 18446744073709551616).toNat / 2 % 2 * 2).testBit i = false := by
        rcases Nat.mod_two_eq_zero_or_one ((n % 18446744073709551616).toNat / 2) with h | h
        · rw [h]; simp
        · rw [h, show 1 * 2 = 2 ^ 1 by rfl, Nat.testBit_two_pow]; simp [hi]
      rw [this]
      simp [hi]
  rw [e]
  omega
end Go.Proofs.Shed
set_option linter.unusedVariables false
set_option linter.unusedSimpArgs false
namespace Go.Proofs.Shed
namespace Mem
theorem wordsN_enough (m : Mem) (k : Nat) : ∀ (last a : Int) (j : Nat), last ≤ k → k ≤ j → wordsN m j last a = wordsN m k last a := by
  induction k with
  | zero =>
    intro last a j h _
    cases j with
    | zero => rfl
    | succ j => rw [wordsN, wordsN, if_neg (by omega)]
  | succ k ih =>
    intro last a j h hj
    cases j with
    | zero => omega
    | succ j =>
      rw [wordsN, wordsN]
      by_cases hc : 0 < a ∧ a < last
      · rw [if_pos hc, if_pos hc]
        cases m.readWd a with
        | none => rfl
        | some p => simp only; rw [ih a p.2 j (by omega) (by omega)]
      · rw [if_neg hc, if_neg hc]
/-- From a place on, below another one. -/
def wordsL (m : Mem) (last a : Int) : List Wd := wordsN m last.toNat last a
theorem words_is (m : Mem) (list : Int) : m.words list = if (m.cell list).2 ≠ 0 then [] else wordsL m m.size (m.cell list).1 := by
  unfold words wordsL
  rw [Int.toNat_natCast]
theorem wordsL_end (m : Mem) (last a : Int) (h : ¬ (0 < a ∧ a < last)) : wordsL m last a = [] := by
  unfold wordsL
  cases last.toNat with
  | zero => rfl
  | succ k => rw [wordsN, if_neg h]
theorem wordsL_none (m : Mem) (last a : Int) (h : m.readWd a = none) : wordsL m last a = [] := by
  unfold wordsL
  cases last.toNat with
  | zero => rfl
  | succ k =>
    rw [wordsN]
    split
    · rw [h]
    · rfl
theorem wordsL_some (m : Mem) (last a : Int) (h : 0 < a ∧ a < last) {d : Wd} {l : Int} (e : m.readWd a = some (d, l)) : wordsL m last a = d :: wordsL m a l := by
  unfold wordsL
  obtain ⟨k, hk⟩ : ∃ k, last.toNat = k + 1 := ⟨last.toNat - 1, by omega⟩
  rw [hk, wordsN, if_pos h, e]
  simp only
  rw [wordsN_enough m a.toNat a l k (by omega) (by omega)]
theorem readWd_link {m : Mem} {a : Int} {d : Wd} {l : Int} (e : m.readWd a = some (d, l)) : l = (m.cell a).1 := by
  unfold readWd at e
  simp only at e
  split at e
  · cases e
  · split at e
    · cases e
    · injection e with e; injection e with _ e; exact e.symm
theorem wordsN_len (m : Mem) (k : Nat) : ∀ last a, (wordsN m k last a).length ≤ k := by
  induction k with
  | zero => intro _ _; exact Nat.le_refl _
  | succ k ih =>
    intro last a
    rw [wordsN]
    split
    · cases m.readWd a with
      | none => simp
      | some p => simp only [List.length_cons]; have := ih a p.2; omega
    · simp
theorem words_len (m : Mem) (list : Int) : (m.words list).length ≤ m.size := by
  unfold words
  split
  · simp
  · exact wordsN_len _ _ _ _
theorem wordsL_len (m : Mem) (last a : Int) : (wordsL m last a).length ≤ last.toNat := wordsN_len _ _ _ _
end Mem
namespace Sp
theorem andThen_ok {r : Sp × Int} (f : Sp → Sp × Int) (h : r.2 = 0) : andThen r f = f r.1 := by unfold andThen; rw [if_neg (by simpa using h)]
theorem andThen_bad {r : Sp × Int} (f : Sp → Sp × Int) (h : r.2 ≠ 0) : andThen r f = r := by unfold andThen; rw [if_pos h]
/-- Create, step by step. -/
theorem create_steps (x : Sp) (l : Int) (name : List UInt8) (fl cd : Int) (hn : ¬ (name = [] ∨ 31 < name.length)) : ∃ q0 q1 q2 q3 q4 q5 q6 : Sp × Int,
    (q0 = if (x.mem.cell l).2 = 0 then x.align else (x, (x.mem.cell l).2)) ∧
    (q0.2 = 0 → q1 = q0.1.comma (x.mem.cell l).1) ∧ (q1.2 = 0 → q2 = q1.1.comma (name.length + fl * 256)) ∧ (q2.2 = 0 → q3 = q2.1.chars (lower name)) ∧ (q3.2 = 0 → q4 = q3.1.align) ∧ (q4.2 = 0 → q5 = q4.1.comma cd) ∧ (q5.2 = 0 → q6 = q5.1.setCellAt l q0.1.here) ∧
    (q0.2 ≠ 0 → x.create l name fl cd = ((q0.1.back x.here).1, Wd.none, q0.2)) ∧ (q1.2 ≠ 0 → x.create l name fl cd = ((q1.1.back x.here).1, Wd.none, q1.2)) ∧ (q2.2 ≠ 0 → x.create l name fl cd = ((q2.1.back x.here).1, Wd.none, q2.2)) ∧
    (q3.2 ≠ 0 → x.create l name fl cd = ((q3.1.back x.here).1, Wd.none, q3.2)) ∧ (q4.2 ≠ 0 → x.create l name fl cd = ((q4.1.back x.here).1, Wd.none, q4.2)) ∧ (q5.2 ≠ 0 → x.create l name fl cd = ((q5.1.back x.here).1, Wd.none, q5.2)) ∧
    (q6.2 ≠ 0 → x.create l name fl cd = ((q6.1.back x.here).1, Wd.none, q6.2)) ∧ (q6.2 = 0 → x.create l name fl cd = (q6.1, ⟨q0.1.here, q4.1.here, fl, lower name⟩, 0)) := by
  have h6 : (cr6 x l name fl cd).2 ≠ 0 → x.create l name fl cd = (((cr6 x l name fl cd).1.back x.here).1, Wd.none, (cr6 x l name fl cd).2) := fun h => by unfold create; rw [if_neg hn, if_pos h]
  have b5 : (cr5 x l name fl cd).2 ≠ 0 → cr6 x l name fl cd = cr5 x l name fl cd := fun h => andThen_bad _ h
  have b4 : (cr4 x l name fl).2 ≠ 0 → cr5 x l name fl cd = cr4 x l name fl := fun h => andThen_bad _ h
  have b3 : (cr3 x l name fl).2 ≠ 0 → cr4 x l name fl = cr3 x l name fl := fun h => andThen_bad _ h
  have b2 : (cr2 x l name fl).2 ≠ 0 → cr3 x l name fl = cr2 x l name fl := fun h => andThen_bad _ h
  have b1 : (cr1 x l).2 ≠ 0 → cr2 x l name fl = cr1 x l := fun h => andThen_bad _ h
  have b0 : (cr0 x l).2 ≠ 0 → cr1 x l = cr0 x l := fun h => andThen_bad _ h
  have g5 : (cr5 x l name fl cd).2 ≠ 0 → x.create l name fl cd = (((cr5 x l name fl cd).1.back x.here).1, Wd.none, (cr5 x l name fl cd).2) := fun h => by rw [h6 (by rw [b5 h]; exact h), b5 h]
  have g4 : (cr4 x l name fl).2 ≠ 0 → x.create l name fl cd = (((cr4 x l name fl).1.back x.here).1, Wd.none, (cr4 x l name fl).2) := fun h => by rw [g5 (by rw [b4 h]; exact h), b4 h]
  have g3 : (cr3 x l name fl).2 ≠ 0 → x.create l name fl cd = (((cr3 x l name fl).1.back x.here).1, Wd.none, (cr3 x l name fl).2) := fun h => by rw [g4 (by rw [b3 h]; exact h), b3 h]
  have g2 : (cr2 x l name fl).2 ≠ 0 → x.create l name fl cd = (((cr2 x l name fl).1.back x.here).1, Wd.none, (cr2 x l name fl).2) := fun h => by rw [g3 (by rw [b2 h]; exact h), b2 h]
  have g1 : (cr1 x l).2 ≠ 0 → x.create l name fl cd = (((cr1 x l).1.back x.here).1, Wd.none, (cr1 x l).2) := fun h => by rw [g2 (by rw [b1 h]; exact h), b1 h]
  have g0 : (cr0 x l).2 ≠ 0 → x.create l name fl cd = (((cr0 x l).1.back x.here).1, Wd.none, (cr0 x l).2) := fun h => by rw [g1 (by rw [b0 h]; exact h), b0 h]
  refine ⟨cr0 x l, cr1 x l, cr2 x l name fl, cr3 x l name fl, cr4 x l name fl, cr5 x l name fl cd, cr6 x l name fl cd, rfl, fun h => andThen_ok _ h, fun h => andThen_ok _ h, fun h => andThen_ok _ h, fun h => andThen_ok _ h, fun h => andThen_ok _ h, fun h => andThen_ok _ h, g0, g1, g2, g3, g4, g5, h6, fun h => ?_⟩
  unfold create
  rw [if_neg hn, if_neg (by simpa using h)]
end Sp
end Go.Proofs.Shed
set_option linter.unusedVariables false
set_option linter.unusedSimpArgs false
namespace Go.Proofs.Shed
namespace Scr
structure Sc where
  dict : Int
  data : Int
  ret : Int
  heap : Int
  slots : Int
  fuel : Int
  text : List UInt8
  inp : List UInt8
  deriving DecidableEq
def Sc.zero : Sc := ⟨0, 0, 0, 0, 0, 0, [], []⟩
def Sc.first : Sc := ⟨16384, 64, 64, 4096, 16, 10000, [], []⟩
/-- Up to a byte, and what is behind. -/
def cutB : List UInt8 → UInt8 → List UInt8 × List UInt8 × Bool
  | [], _ => ([], [], false)
  | x :: s, c => if x = c then ([], s, true) else (x :: (cutB s c).1, (cutB s c).2.1, (cutB s c).2.2)
theorem cutB_len (s : List UInt8) (c : UInt8) (h : (cutB s c).2.2 = true) : (cutB s c).2.1.length < s.length := by
  induction s with
  | nil => simp [cutB] at h
  | cons x s ih =>
    unfold cutB at h ⊢
    by_cases e : x = c
    · rw [if_pos e]; simp
    · rw [if_neg e] at h ⊢
      have := ih h
      simp only [List.length_cons]
      omega
/-- Where the byte stands. -/
theorem cutB_at (s : List UInt8) (c : UInt8) (i : Nat) (hi : i < s.length) (hp : ∀ k (hk : k < s.length), k < i → s[k] ≠ c) (hc : s[i] = c) : cutB s c = (s.take i, s.drop (i + 1), true) := by
  induction s generalizing i with
  | nil => simp at hi
  | cons x s ih =>
    cases i with
    | zero =>
      have : x = c := hc
      unfold cutB
      rw [if_pos this]
      rfl
    | succ i =>
      have hx : x ≠ c := hp 0 (by simp) (by omega)
      unfold cutB
      rw [if_neg hx, ih i (by simpa using hi) (fun k hk hki => hp (k + 1) (by simpa using hk) (by omega)) hc]
      rfl
theorem cutB_none (s : List UInt8) (c : UInt8) (hp : ∀ k (hk : k < s.length), s[k] ≠ c) : cutB s c = (s, [], false) := by
  induction s with
  | nil => rfl
  | cons x s ih =>
    have hx : x ≠ c := hp 0 (by simp)
    unfold cutB
    rw [if_neg hx, ih (fun k hk => hp (k + 1) (by simpa using hk))]
theorem cutB_le (s : List UInt8) (c : UInt8) : (cutB s c).1.length ≤ s.length ∧ (cutB s c).2.1.length ≤ s.length := by
  induction s with
  | nil => simp [cutB]
  | cons x s ih =>
    unfold cutB
    by_cases e : x = c
    · rw [if_pos e]; simp
    · rw [if_neg e]
      simp only [List.length_cons]
      omega
/-- The place of a field. -/
def place (w : List UInt8) : Option Nat :=
  if w = [100, 105, 99, 116] then some 0 else if w = [100, 97, 116, 97] then some 1 else if w = [114, 101, 116, 117, 114, 110] then some 2 else
  if w = [104, 101, 97, 112] then some 3 else if w = [115, 108, 111, 116, 115] then some 4 else if w = [102, 117, 101, 108] then some 5 else none
def Sc.set (s : Sc) : Nat → Int → Sc
  | 0, k => { s with dict := k }
  | 1, k => { s with data := k }
  | 2, k => { s with ret := k }
  | 3, k => { s with heap := k }
  | 4, k => { s with slots := k }
  | _, k => { s with fuel := k }
/-- The reference's number of figures; -1: none. -/
def numL : List UInt8 → Nat → Option Nat
  | [], n => some n
  | c :: r, n => if c.toNat < 48 ∨ 57 < c.toNat ∨ 1048576 < n then none else numL r (10 * n + (c.toNat - 48))
def num (v : List UInt8) : Option Nat :=
  match numL v 0 with
  | none => none
  | some n => if 1048576 < n ∨ Lib.decDigits n ≠ v then none else some n
/-- A line, that isn't the text's. -/
def line (s : Sc) (w v : List UInt8) : Option Sc :=
  if w = [105, 110] then some { s with inp := v } else
  match place w, num v with
  | some i, some k => some (s.set i k)
  | _, _ => none
def parseN : Nat → Sc → List UInt8 → Int → Option Sc × Int
  | 0, _, _, n => (none, n)
  | k + 1, s, t, n =>
    let a := cutB t 10
    let b := cutB a.1 32
    if b.1 = [116, 101, 120, 116] ∧ b.2.1 = [] then (some { s with text := a.2.1 }, 0) else
    match line s b.1 b.2.1 with
    | none => (none, n + 1)
    | some s' => if a.2.2 then parseN k s' a.2.1 (n + 1) else (none, n + 2)
def parse (t : List UInt8) : Option Sc × Int := parseN (t.length + 1) Sc.first t 0
/-- More rounds change nothing. -/
theorem parseN_enough (j k : Nat) (s : Sc) (t : List UInt8) (n : Int) (hj : t.length < j) (hk : t.length < k) : parseN j s t n = parseN k s t n := by
  induction j generalizing k s t n with
  | zero => omega
  | succ j ih =>
    cases k with
    | zero => omega
    | succ k =>
      unfold parseN
      simp only
      split
      · rfl
      · split
        · rfl
        · split
          · rename_i hm
            have := cutB_len t 10 hm
            exact ih k _ _ _ (by omega) (by omega)
          · rfl
theorem parseN_code (k : Nat) (s : Sc) (t : List UInt8) (n : Int) (hk : t.length < k) (hn : 0 ≤ n) : (∃ s', parseN k s t n = (some s', 0)) ∨ ∃ m, parseN k s t n = (none, m) ∧ n < m ∧ m ≤ n + 1 + k := by
  induction k generalizing s t n with
  | zero => omega
  | succ k ih =>
    unfold parseN
    simp only
    split
    · exact .inl ⟨_, rfl⟩
    · split
      · exact .inr ⟨_, rfl, by omega, by omega⟩
      · split
        · rename_i hm
          have := cutB_len t 10 hm
          rcases ih _ (cutB t 10).2.1 (n + 1) (by omega) (by omega) with h | ⟨m, h, h1, h2⟩
          · exact .inl h
          · exact .inr ⟨m, h, by omega, by omega⟩
        · exact .inr ⟨_, rfl, by omega, by omega⟩
/-- The program's cut. -/
theorem lib_cut (s : List UInt8) (c : UInt8) : Lib.cut s [c] = cutB s c := by
  induction s with
  | nil => rfl
  | cons x s ih =>
    unfold Lib.cut at ih ⊢
    unfold Lib.index cutB
    by_cases e : x = c
    · subst e
      simp [List.isPrefixOf]
    · have hp : List.isPrefixOf [c] (x :: s) = false := by
        simp [List.isPrefixOf]
        exact fun h => e h.symm
      have hg := Lib.index_ge s [c]
      rw [if_neg e, ← ih]
      simp only [hp, Bool.false_eq_true, if_false]
      by_cases h0 : 0 ≤ Lib.index s [c]
      · have h1 : (Lib.index s [c] == -1) = false := by simp; omega
        simp only [h1, Bool.false_eq_true, if_false]
        rw [if_pos (by omega), if_pos h0]
        have h2 : (Lib.index s [c] + 1).toNat = (Lib.index s [c]).toNat + 1 := by omega
        rw [h2]
        simp only [List.take_succ_cons, List.length_cons, List.length_nil]
        congr 2
      · have h1 : (Lib.index s [c] == -1) = true := by simp; omega
        simp only [h1, if_true]
        rw [if_neg (by omega), if_neg h0]
theorem dig_nat (d : Nat) (h : d < 10) : (UInt8.ofNat (48 + d)).toNat = 48 + d := by
  rw [UInt8.toNat_ofNat']
  omega
theorem dec_head (n : Nat) : ∃ d r, d < 10 ∧ Lib.decDigits n = UInt8.ofNat (48 + d) :: r := by
  induction n using Nat.strongRecOn with
  | ind n ih =>
    by_cases h : n < 10
    · exact ⟨n, [], h, by rw [Lib.decDigits, dif_pos h]⟩
    · obtain ⟨d, r, hd, e⟩ := ih (n / 10) (by omega)
      exact ⟨d, r ++ [UInt8.ofNat (48 + n % 10)], hd, by rw [Lib.decDigits, dif_neg h, e]; rfl⟩
theorem numL_dec (n : Nat) (hn : n / 10 ≤ 1048576) (r : List UInt8) : numL (Lib.decDigits n ++ r) 0 = numL r n := by
  induction n using Nat.strongRecOn generalizing r with
  | ind n ih =>
    have step : ∀ (a d : Nat), a ≤ 1048576 → d < 10 → numL (UInt8.ofNat (48 + d) :: r) a = numL r (10 * a + d) := by
      intro a d ha hd
      rw [numL, dig_nat d hd, if_neg (by omega)]
      congr 1
      omega
    by_cases h : n < 10
    · rw [Lib.decDigits, dif_pos h]
      have := step 0 n (by omega) h
      simpa using this
    · rw [Lib.decDigits, dif_neg h, List.append_assoc, ih (n / 10) (by omega) (by omega)]
      have := step (n / 10) (n % 10) hn (by omega)
      rw [List.singleton_append, this]
      congr 1
      omega
theorem uint_dec (n : Nat) (hn : n ≤ 1048576) (r : List UInt8) : Lib.parseUintM (2 ^ 64 - 1) 0 (Lib.decDigits n ++ r) = Lib.parseUintM (2 ^ 64 - 1) n r := by
  induction n using Nat.strongRecOn generalizing r with
  | ind n ih =>
    have step : ∀ (a d : Nat), a ≤ 1048576 → d < 10 → Lib.parseUintM (2 ^ 64 - 1) a (UInt8.ofNat (48 + d) :: r) = Lib.parseUintM (2 ^ 64 - 1) (a * 10 + d) r := by
      intro a d ha hd
      have h2 : (2 : Nat) ^ 64 - 1 = 18446744073709551615 := by decide
      rw [Lib.parseUintM, dig_nat d hd, if_pos (by omega), if_neg (by omega), if_neg (by omega), show 48 + d - 48 = d by omega]
    by_cases h : n < 10
    · rw [Lib.decDigits, dif_pos h]
      have := step 0 n (by omega) h
      simpa using this
    · rw [Lib.decDigits, dif_neg h, List.append_assoc, ih (n / 10) (by omega) (by omega)]
      have := step (n / 10) (n % 10) (by omega) (by omega)
      rw [List.singleton_append, this]
      congr 1
      omega
theorem int_dec (n : Nat) (hn : n ≤ 1048576) : Lib.parseIntB 64 (Lib.decDigits n) = .ok (n : Int) := by
  obtain ⟨d, r, hd, e⟩ := dec_head n
  have hu : Lib.parseUintB 64 (Lib.decDigits n) = .ok n := by
    unfold Lib.parseUintB
    rw [if_neg (by rw [e]; simp)]
    have := uint_dec n hn []
    rw [List.append_nil] at this
    rw [this]
    rfl
  rw [e] at hu ⊢
  have hN := dig_nat d hd
  unfold Lib.parseIntB
  simp only [hN]
  rw [if_neg (by omega)]
  simp only [hu]
  have h2 : (2 : Nat) ^ (64 - 1) = 9223372036854775808 := by decide
  rw [if_neg (by omega), if_neg (by omega), if_neg (by omega)]
theorem int_bd (v : List UInt8) (k : Int) (h : Lib.parseIntB 64 v = .ok k) : -9223372036854775808 ≤ k ∧ k ≤ 9223372036854775807 := by
  have h2 : (2 : Nat) ^ (64 - 1) = 9223372036854775808 := by decide
  cases v with
  | nil => cases h
  | cons c r =>
    unfold Lib.parseIntB at h
    simp only at h
    split at h
    · cases h
    · cases h
    · split at h
      · cases h
      · split at h
        · cases h
        · injection h with h
          split at h <;> omega
theorem place_in : place [105, 110] = none := by decide
theorem place_lt (w : List UInt8) (i : Nat) (h : place w = some i) : i < 6 := by
  unfold place at h
  repeat (split at h; (cases h; decide))
  cases h
/-- The program's number. -/
theorem num_iff (v : List UInt8) (k : Nat) : num v = some k ↔ Lib.parseIntB 64 v = .ok (k : Int) ∧ Lib.itoa k = v ∧ k ≤ 1048576 := by
  have hi : Lib.itoa (k : Int) = Lib.decDigits k := by unfold Lib.itoa; rw [if_neg (by omega)]; simp
  constructor
  · intro h
    unfold num at h
    cases hn : numL v 0 with
    | none => rw [hn] at h; cases h
    | some n =>
      rw [hn] at h
      simp only at h
      split at h
      · cases h
      · rename_i hc
        cases h
        have h1 : k ≤ 1048576 := by omega
        have h2 : Lib.decDigits k = v := by
          by_cases e : Lib.decDigits k = v
          · exact e
          · exact absurd (.inr e) hc
        exact ⟨by rw [← h2]; exact int_dec k h1, by rw [hi, h2], h1⟩
  · rintro ⟨_, h2, h3⟩
    rw [hi] at h2
    unfold num
    have := numL_dec k (by omega) []
    rw [List.append_nil] at this
    rw [← h2, this]
    simp only [numL]
    rw [if_neg (by simp; omega)]
end Scr
end Go.Proofs.Shed
