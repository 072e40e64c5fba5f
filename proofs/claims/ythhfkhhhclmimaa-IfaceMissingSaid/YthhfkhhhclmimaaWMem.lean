/- Layer 1: each function of package mem does what MemS says. Conditions: the memory lies in two blocks, and has at most 4194304 bytes. -/
import Derived.Test.YthhfkhhhclmimaaProg
import Derived.Test.YthhfkhhhclmimaaKitB
import Derived.Test.YthhfkhhhclmimaaMemS
set_option linter.unusedVariables false
set_option linter.unusedSimpArgs false
set_option maxRecDepth 10000
namespace Go.Proofs.Shed
open Go Go.RowKit Go.Proofs.K

/-- The bytes as values. -/
def Mem.vals (m : Mem) : Array Value := ((List.range m.size).map fun i => Value.int .u8 (m.byte i)).toArray
theorem Mem.vals_size (m : Mem) : m.vals.size = m.size := by simp [Mem.vals]
theorem Mem.vals_get (m : Mem) (i : Nat) (h : i < m.size) : m.vals[i]? = some (.int .u8 (m.byte i)) := by simp [Mem.vals, h]
theorem Mem.vals_set (m : Mem) (i v : Nat) (hv : v < 256) : m.vals.setIfInBounds i (.int .u8 v) = (m.put i 1 v).vals := by
  apply Array.ext
  · simp [Mem.vals_size, Mem.put_size]
  · intro j h1 h2
    have hj : j < m.size := by simpa [Mem.vals_size] using h1
    rw [Array.getElem_setIfInBounds]
    · have e1 : m.vals[j]'(by simpa [Mem.vals_size] using hj) = .int .u8 (m.byte j) := by
        have := m.vals_get j hj
        rw [Array.getElem?_eq_getElem (by simpa [Mem.vals_size] using hj)] at this
        exact Option.some.inj this
      have e2 : (m.put i 1 v).vals[j] = .int .u8 ((m.put i 1 v).byte j) := by
        have := (m.put i 1 v).vals_get j hj
        rw [Array.getElem?_eq_getElem h2] at this
        exact Option.some.inj this
      rw [e2]
      by_cases hij : i = j
      · subst hij
        rw [if_pos rfl, Mem.byte, Mem.get_put_same]
        have : v % 2 ^ (8 * 1) = v := by omega
        rw [this]
      · rw [if_neg hij, e1, Mem.byte, Mem.byte, Mem.get_put_apart _ _ _ _ _ _ (by omega)]
    · simpa [Mem.vals_size] using hj

/-- A memory lies in a world: a struct at the head of block b, its bytes in block bb. -/
structure RMem (w : World) (b bb : Nat) (m : Mem) : Prop where
  head : w.heap[b]? = some (.cells #[.slice (some ⟨bb, 0, none⟩) m.size m.size] 127 (0, 0))
  rest : w.heap[bb]? = some (.cells m.vals 5 (0, 0))
  ne : b ≠ bb
  le : m.size ≤ 4194304

theorem RMem.cell {w : World} {b bb : Nat} {m : Mem} (h : RMem w b bb m) : w.cell? ⟨b, 0, none⟩ = some (.slice (some ⟨bb, 0, none⟩) m.size m.size) := cell_of h.head rfl
theorem RMem.byte {w : World} {b bb : Nat} {m : Mem} (h : RMem w b bb m) {i : Nat} (hi : i < m.size) : w.cell? ⟨bb, i, none⟩ = some (.int .u8 (m.byte i)) := cell_of h.rest (m.vals_get i hi)
theorem RMem.keeps {w w' : World} {b bb : Nat} {m : Mem} (h : RMem w b bb m) {S : Nat → Prop} (k : Keeps S w w') (h1 : ¬ S b) (h2 : ¬ S bb) : RMem w' b bb m := ⟨k.heap h.head h1, k.heap h.rest h2, h.ne, h.le⟩
theorem RMem.drewN {w : World} {b bb : Nat} {m : Mem} (h : RMem w b bb m) (n : Nat) : RMem (w.drewN n) b bb m := ⟨h.head, h.rest, h.ne, h.le⟩
theorem RMem.lt {w : World} {b bb : Nat} {m : Mem} (h : RMem w b bb m) : b < w.heap.size ∧ bb < w.heap.size := ⟨lt_of_heap h.head, lt_of_heap h.rest⟩

theorem ret_int {k : IntKind} {a b : Int} (h : a = b) : Ending.returned (.int k a) = .returned (.int k b) := by rw [h]

theorem mem_size (w : World) (b bb : Nat) (m : Mem) (h : RMem w b bb m) :
    Calls Try.prog 66 #[.pointer (some ⟨b, 0, none⟩)] w fun e w' => e = .returned (.int .i64 m.size) ∧ w = w' := by
  have h0 := h.cell
  go_enter Try.func66, Try.ntmps66
  go_wp2
  go_ret
  exact ⟨rfl, rfl⟩

theorem mem_size_nil (w : World) :
    Calls Try.prog 66 #[.pointer none] w fun e w' => e = .returned (.int .i64 0) ∧ w = w' := by
  go_enter Try.func66, Try.ntmps66
  go_wp2
  go_ret
  exact ⟨rfl, rfl⟩

theorem mem_has (w : World) (b bb : Nat) (m : Mem) (a n : Int) (h : RMem w b bb m) :
    Calls Try.prog 83 #[.pointer (some ⟨b, 0, none⟩), .int .i64 a, .int .i64 n] w fun e w' => e = .returned (.bool (m.has a n)) ∧ w = w' := by
  have H := Lib.hid h
  have hl := h.le
  clear h
  have HD : Hid (m.has a n = (decide (0 ≤ n) && decide (0 ≤ a) && decide (n ≤ m.size) && decide (a ≤ m.size - n))) := rfl
  generalize m.has a n = r at HD ⊢
  by_cases h1 : 0 ≤ n
  · by_cases h2 : 0 ≤ a
    · by_cases h3 : n ≤ m.size
      · go_enter Try.func83, Try.ntmps83
        go_wp2_with fail
        refine (mem_size _ _ _ _ H.out).mono ?_
        rintro e w1 ⟨rfl, rfl⟩
        go_wp2_with fail
        refine (mem_size _ _ _ _ H.out).mono ?_
        rintro e w1 ⟨rfl, rfl⟩
        go_wp2_with fail
        go_ret
        refine ⟨?_, rfl⟩
        rw [HD.out]
        simp [h1, h2, h3]
      · have h3' : (m.size : Int) < n := by omega
        go_enter Try.func83, Try.ntmps83
        go_wp2_with fail
        refine (mem_size _ _ _ _ H.out).mono ?_
        rintro e w1 ⟨rfl, rfl⟩
        go_wp2_with fail
        go_ret
        refine ⟨?_, rfl⟩
        rw [HD.out]
        simp
        omega
    · have h2' : a < 0 := by omega
      go_enter Try.func83, Try.ntmps83
      go_wp2_with fail
      go_ret
      refine ⟨?_, rfl⟩
      rw [HD.out]
      simp
      omega
  · have h1' : n < 0 := by omega
    go_enter Try.func83, Try.ntmps83
    go_wp2_with fail
    go_ret
    refine ⟨?_, rfl⟩
    rw [HD.out]
    simp
    omega

theorem mem_at (w : World) (b bb : Nat) (m : Mem) (a : Int) (h : RMem w b bb m) :
    Calls Try.prog 100 #[.pointer (some ⟨b, 0, none⟩), .int .i64 a] w fun e w' => e = .returned (.int .i64 (m.at_ a)) ∧ w = w' := by
  have H := Lib.hid h
  clear h
  have HD : Hid (m.at_ a = if m.has a 8 then (if a % 8 = 0 then 0 else -23) else -9) := rfl
  have HI := Lib.hid (m.has_iff a 8)
  have hc := fun w H => mem_has w b bb m a 8 H
  generalize m.at_ a = r at HD ⊢
  generalize m.has a 8 = q at hc HI HD
  have HC := Lib.hid hc
  clear hc
  cases q with
  | false =>
    go_enter Try.func100, Try.ntmps100
    go_wp2_with fail
    refine (HC.out _ H.out).mono ?_
    rintro e w1 ⟨rfl, rfl⟩
    go_wp2_with fail
    go_ret
    exact ⟨ret_int (by rw [HD.out]; rfl), rfl⟩
  | true =>
    have ha : 0 ≤ a := by have := HI.out.1 rfl; omega
    go_enter Try.func100, Try.ntmps100
    go_wp2_with fail
    refine (HC.out _ H.out).mono ?_
    rintro e w1 ⟨rfl, rfl⟩
    by_cases h8 : a % 8 = 0
    · have h8' : (a % 8 != 0) = false := by simp [h8]
      go_wp2_with fail
      go_ret
      exact ⟨ret_int (by rw [HD.out]; simp [h8]), rfl⟩
    · have h8' : (a % 8 != 0) = true := by simp [h8]
      go_wp2_with fail
      go_ret
      exact ⟨ret_int (by rw [HD.out]; simp [h8]), rfl⟩
end Go.Proofs.Shed
