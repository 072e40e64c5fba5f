/- Layer 1: each function of package mem does what MemS says. Conditions: the memory lies in two blocks, and has at most 4194304 bytes. Layer 1, reading and writing cells. Layer 1: bytes and texts. -/
import Derived.Test.YthhfkhhhclmimaaGreatDoorMWA
import Derived.Test.YthhfkhhhclmimaaGreatDoorMPA
import Derived.Test.YthhfkhhhclmimaaGreatDoorProg
set_option linter.unusedVariables false
set_option linter.unusedSimpArgs false
set_option maxRecDepth 10000
namespace Go.Proofs.Shed
open Go Go.RowKit Go.Proofs.K

/-- The bytes as values. -/
def Mem.vals (m : Mem) : Array Value := ((List.range m.size).map fun i => Value.int .u8 (m.byte i)).toArray
theorem Mem.vals_size (m : Mem) : m.vals.size = m.size := by simp [Mem.vals]
theorem Mem.vals_get (m : Mem) (i : Nat) (h : i < m.size) : m.vals[i]? = some (.int .u8 (m.byte i)) := by simp [Mem.vals, h]
theorem Mem.vals_set (m : Mem) (i v : Nat) (hv : v < 256) : m.vals.setIfInBounds i (.int .u8 v) = (m.put i 1 v).vals := by
  apply Array.ext
  · simp [Mem.vals_size, Mem.put_size]
  · intro j h1 h2
    have hj : j < m.size := by simpa [Mem.vals_size] using h1
    rw [Array.getElem_setIfInBounds]
    · have e1 : m.vals[j]'(by simpa [Mem.vals_size] using hj) = .int .u8 (m.byte j) := by
        have := m.vals_get j hj
        rw [Array.getElem?_eq_getElem (by simpa [Mem.vals_size] using hj)] at this
        exact Option.some.inj this
      have e2 : (m.put i 1 v).vals[j] = .int .u8 ((m.put i 1 v).byte j) := by
        have := (m.put i 1 v).vals_get j hj
        rw [Array.getElem?_eq_getElem h2] at this
        exact Option.some.inj this
      rw [e2]
      by_cases hij : i = j
      · subst hij
        rw [if_pos rfl, Mem.byte, Mem.get_put_same]
        have : v % 2 ^ (8 * 1) = v := by omega
        rw [this]
      · rw [if_neg hij, e1, Mem.byte, Mem.byte, Mem.get_put_apart _ _ _ _ _ _ (by omega)]
    · simpa [Mem.vals_size] using hj

/-- A memory lies in a world: a struct at the head of block b, its bytes in block bb. -/
structure RMem (w : World) (b bb : Nat) (m : Mem) : Prop where
  head : w.heap[b]? = some (.cells #[.slice (some ⟨bb, 0, none⟩) m.size m.size] 260 (0, 0))
  rest : w.heap[bb]? = some (.cells m.vals 5 (0, 0))
  ne : b ≠ bb
  le : m.size ≤ 4194304

theorem RMem.cell {w : World} {b bb : Nat} {m : Mem} (h : RMem w b bb m) : w.cell? ⟨b, 0, none⟩ = some (.slice (some ⟨bb, 0, none⟩) m.size m.size) := cell_of h.head rfl
theorem RMem.byte {w : World} {b bb : Nat} {m : Mem} (h : RMem w b bb m) {i : Nat} (hi : i < m.size) : w.cell? ⟨bb, i, none⟩ = some (.int .u8 (m.byte i)) := cell_of h.rest (m.vals_get i hi)
theorem RMem.keeps {w w' : World} {b bb : Nat} {m : Mem} (h : RMem w b bb m) {S : Nat → Prop} (k : Keeps S w w') (h1 : ¬ S b) (h2 : ¬ S bb) : RMem w' b bb m := ⟨k.heap h.head h1, k.heap h.rest h2, h.ne, h.le⟩
theorem RMem.drewN {w : World} {b bb : Nat} {m : Mem} (h : RMem w b bb m) (n : Nat) : RMem (w.drewN n) b bb m := ⟨h.head, h.rest, h.ne, h.le⟩
theorem RMem.lt {w : World} {b bb : Nat} {m : Mem} (h : RMem w b bb m) : b < w.heap.size ∧ bb < w.heap.size := ⟨lt_of_heap h.head, lt_of_heap h.rest⟩

theorem ret_int {k : IntKind} {a b : Int} (h : a = b) : Ending.returned (.int k a) = .returned (.int k b) := by rw [h]

theorem mem_size (w : World) (b bb : Nat) (m : Mem) (h : RMem w b bb m) :
    Calls Tryz.prog 93 #[.pointer (some ⟨b, 0, none⟩)] w fun e w' => e = .returned (.int .i64 m.size) ∧ w = w' := by
  have h0 := h.cell
  go_enter Tryz.func93, Tryz.ntmps93
  go_wp2
  go_ret
  exact ⟨rfl, rfl⟩

theorem mem_size_nil (w : World) :
    Calls Tryz.prog 93 #[.pointer none] w fun e w' => e = .returned (.int .i64 0) ∧ w = w' := by
  go_enter Tryz.func93, Tryz.ntmps93
  go_wp2
  go_ret
  exact ⟨rfl, rfl⟩

theorem mem_has (w : World) (b bb : Nat) (m : Mem) (a n : Int) (h : RMem w b bb m) :
    Calls Tryz.prog 158 #[.pointer (some ⟨b, 0, none⟩), .int .i64 a, .int .i64 n] w fun e w' => e = .returned (.bool (m.has a n)) ∧ w = w' := by
  have H := Lib.hid h
  have hl := h.le
  clear h
  have HD : Hid (m.has a n = (decide (0 ≤ n) && decide (0 ≤ a) && decide (n ≤ m.size) && decide (a ≤ m.size - n))) := rfl
  generalize m.has a n = r at HD ⊢
  by_cases h1 : 0 ≤ n
  · by_cases h2 : 0 ≤ a
    · by_cases h3 : n ≤ m.size
      · go_enter Tryz.func158, Tryz.ntmps158
        go_wp2_with fail
        refine (mem_size _ _ _ _ H.out).mono ?_
        rintro e w1 ⟨rfl, rfl⟩
        go_wp2_with fail
        refine (mem_size _ _ _ _ H.out).mono ?_
        rintro e w1 ⟨rfl, rfl⟩
        go_wp2_with fail
        go_ret
        refine ⟨?_, rfl⟩
        rw [HD.out]
        simp [h1, h2, h3]
      · have h3' : (m.size : Int) < n := by omega
        go_enter Tryz.func158, Tryz.ntmps158
        go_wp2_with fail
        refine (mem_size _ _ _ _ H.out).mono ?_
        rintro e w1 ⟨rfl, rfl⟩
        go_wp2_with fail
        go_ret
        refine ⟨?_, rfl⟩
        rw [HD.out]
        simp
        omega
    · have h2' : a < 0 := by omega
      go_enter Tryz.func158, Tryz.ntmps158
      go_wp2_with fail
      go_ret
      refine ⟨?_, rfl⟩
      rw [HD.out]
      simp
      omega
  · have h1' : n < 0 := by omega
    go_enter Tryz.func158, Tryz.ntmps158
    go_wp2_with fail
    go_ret
    refine ⟨?_, rfl⟩
    rw [HD.out]
    simp
    omega

theorem mem_at (w : World) (b bb : Nat) (m : Mem) (a : Int) (h : RMem w b bb m) :
    Calls Tryz.prog 146 #[.pointer (some ⟨b, 0, none⟩), .int .i64 a] w fun e w' => e = .returned (.int .i64 (m.at_ a)) ∧ w = w' := by
  have H := Lib.hid h
  clear h
  have HD : Hid (m.at_ a = if m.has a 8 then (if a % 8 = 0 then 0 else -23) else -9) := rfl
  have HI := Lib.hid (m.has_iff a 8)
  have hc := fun w H => mem_has w b bb m a 8 H
  generalize m.at_ a = r at HD ⊢
  generalize m.has a 8 = q at hc HI HD
  have HC := Lib.hid hc
  clear hc
  cases q with
  | false =>
    go_enter Tryz.func146, Tryz.ntmps146
    go_wp2_with fail
    refine (HC.out _ H.out).mono ?_
    rintro e w1 ⟨rfl, rfl⟩
    go_wp2_with fail
    go_ret
    exact ⟨ret_int (by rw [HD.out]; rfl), rfl⟩
  | true =>
    have ha : 0 ≤ a := by have := HI.out.1 rfl; omega
    go_enter Tryz.func146, Tryz.ntmps146
    go_wp2_with fail
    refine (HC.out _ H.out).mono ?_
    rintro e w1 ⟨rfl, rfl⟩
    by_cases h8 : a % 8 = 0
    · have h8' : (a % 8 != 0) = false := by simp [h8]
      go_wp2_with fail
      go_ret
      exact ⟨ret_int (by rw [HD.out]; simp [h8]), rfl⟩
    · have h8' : (a % 8 != 0) = true := by simp [h8]
      go_wp2_with fail
      go_ret
      exact ⟨ret_int (by rw [HD.out]; simp [h8]), rfl⟩
end Go.Proofs.Shed
set_option linter.unusedVariables false
set_option linter.unusedSimpArgs false
set_option maxRecDepth 10000
namespace Go.Proofs.Shed
open Go Go.RowKit Go.Proofs.K

theorem cell_step (m : Mem) (a k : Nat) (hk : k < 8) : bits .or .u64 (m.get a k : Int) (IntKind.u64.wrap (IntKind.u64.wrap (m.byte (a + k) : Int) * 2 ^ (8 * k))) = (m.get a (k + 1) : Nat) := by
  have h1 := m.byte_lt (a + k)
  have h2 : m.byte (a + k) * 2 ^ (8 * k) < 2 ^ 64 := by
    have : 2 ^ (8 * k) ≤ 2 ^ 56 := Nat.pow_le_pow_right (by omega) (by omega)
    calc m.byte (a + k) * 2 ^ (8 * k) ≤ 255 * 2 ^ 56 := Nat.mul_le_mul (by omega) this
      _ < 2 ^ 64 := by decide
  have h3 := m.get_lt a k
  have h4 : (2 : Nat) ^ (8 * k) ≤ 2 ^ 56 := Nat.pow_le_pow_right (by omega) (by omega)
  rw [IntWalk.u64_in (m.byte (a + k) : Int) (by omega)]
  have e : ((m.byte (a + k) : Nat) : Int) * 2 ^ (8 * k) = ((m.byte (a + k) * 2 ^ (8 * k) : Nat) : Int) := by
    rw [Int.natCast_mul, Int.natCast_pow]
    rfl
  rw [e, IntWalk.u64_in _ (by omega), bits_or_u64_nat _ _ (by omega) (by omega), Mem.get_succ, Nat.shiftLeft_eq]

theorem s64_wrap (u : Nat) (h : u < 18446744073709551616) : wrap64 (u : Int) = s64 u := by
  unfold wrap64 s64
  split <;> omega

theorem mem_cell (w : World) (b bb : Nat) (m : Mem) (a : Int) (h : RMem w b bb m) :
    Calls Tryz.prog 81 #[.pointer (some ⟨b, 0, none⟩), .int .i64 a] w fun e w' => e = .returned (.tuple #[.int .i64 (m.cell a).1, .int .i64 (m.cell a).2]) ∧ w = w' := by
  have H := Lib.hid h
  have h0 := h.cell
  have hle := h.le
  clear h
  have hca := fun w H => mem_at w b bb m a H
  have HD : Hid (m.cell a = if m.at_ a = 0 then (s64 (m.get a.toNat 8), 0) else (0, m.at_ a)) := rfl
  have HZ := Lib.hid (m.at_zero a)
  have hcs := m.at_cases a
  generalize m.at_ a = q at hca HD HZ hcs
  have HC := Lib.hid hca
  clear hca
  generalize m.cell a = r at HD ⊢
  obtain ⟨r1, r2⟩ := r
  by_cases hq : q = 0
  · obtain ⟨z1, z2, z3⟩ := HZ.out.1 hq
    obtain ⟨k0, rfl⟩ : ∃ k0 : Nat, a = k0 := ⟨a.toNat, by omega⟩
    have hr : (r1, r2) = (s64 (m.get k0 8), 0) := by rw [HD.out, if_pos hq]; rfl
    obtain ⟨rfl, rfl⟩ := Prod.mk.inj hr
    subst hq
    clear HD HZ hcs hr
    go_enter Tryz.func81, Tryz.ntmps81
    go_wp2_with fail
    refine (HC.out _ H.out).mono ?_
    rintro e w1 ⟨rfl, rfl⟩
    have b1 : (k0 : Int) + 8 ≤ m.size := by omega
    go_wp2_with fail
    go_loop [7, 25] (fun n i => ∃ k : Nat, k ≤ 8 ∧ i = .int .i64 k ∧ n = .int .u64 (m.get k0 k : Nat)) (fun _ i => 8 - (intOf i).toNat)
    case atStart => exact ⟨0, Nat.zero_le _, rfl, by rw [Mem.get_zero]; rfl⟩
    case round =>
      obtain ⟨k, hk, rfl, rfl⟩ := hrel
      by_cases hlt : k < 8
      · have c1 : w.cell? ⟨bb, k0 + k, none⟩ = some (.int .u8 (m.byte (k0 + k))) := H.out.byte (by omega)
        have c2 : (k : Int) < 8 := by omega
        go_wp2_with fail
        go_round
        case rel => exact ⟨k + 1, by omega, by go_num, by rw [cell_step m k0 k hlt]⟩
        case measure => simp [intOf]; omega
      · have e8 : k = 8 := by omega
        subst e8
        go_wp2_with fail
        go_ret2
        refine ⟨?_, rfl⟩
        show Ending.returned (.tuple #[.int .i64 (wrap64 _), .int .i64 0]) = _
        rw [s64_wrap _ (by have := m.get_lt k0 8; simpa using this)]
  · have hr : (r1, r2) = (0, q) := by rw [HD.out, if_neg hq]
    obtain ⟨rfl, rfl⟩ := Prod.mk.inj hr
    have hq' : (r2 != 0) = true := by simp [hq]
    go_enter Tryz.func81, Tryz.ntmps81
    go_wp2_with fail
    refine (HC.out _ H.out).mono ?_
    rintro e w1 ⟨rfl, rfl⟩
    go_wp2_with fail
    go_ret2
    exact ⟨rfl, rfl⟩

theorem RMem.put1 {w : World} {b bb : Nat} {m : Mem} (h : RMem w b bb m) (i v : Nat) (hv : v < 256) : RMem (w.setCell ⟨bb, i, none⟩ (.int .u8 v)) b bb (m.put i 1 v) :=
  ⟨(Below.heap_setCell _ _ _ _ h.ne).trans h.head, by rw [← Mem.vals_set m i v hv]; exact hset_same h.rest _, h.ne, h.le⟩
theorem shr_u8 (n : Int) (k : Nat) : IntKind.u64.wrap n / 2 ^ (8 * k) % 256 = (((u64 n >>> (8 * k)) % 256 : Nat) : Int) := by
  have hN : ((u64 n : Nat) : Int) = n % 18446744073709551616 := by unfold u64; omega
  rw [IntKind.wrap_u64, ← hN, Nat.shiftRight_eq_div_pow]
  norm_cast
theorem Mem.put_mod (m : Mem) (a n v : Nat) : m.put a n (v % 2 ^ (8 * n)) = m.put a n v := by
  unfold Mem.put
  rw [Nat.mod_mod]

/-- What becomes of a world in whose memory one has written. -/
def SetPost (b bb : Nat) (r : Mem × Int) (w : World) (e : Ending) (w' : World) : Prop :=
  e = .returned (.int .i64 r.2) ∧ RMem w' b bb r.1 ∧ Keeps (fun k => k = bb) w w'

theorem mem_setCell (w : World) (b bb : Nat) (m : Mem) (a n : Int) (h : RMem w b bb m) :
    Calls Tryz.prog 85 #[.pointer (some ⟨b, 0, none⟩), .int .i64 a, .int .i64 n] w (SetPost b bb (m.setCell a n) w) := by
  have H := Lib.hid h
  have hle := h.le
  clear h
  have hca := fun w H => mem_at w b bb m a H
  have HD : Hid (m.setCell a n = if m.at_ a = 0 then (m.put a.toNat 8 (u64 n), 0) else (m, m.at_ a)) := rfl
  have HZ := Lib.hid (m.at_zero a)
  have hcs := m.at_cases a
  generalize m.at_ a = q at hca HD HZ hcs
  have HC := Lib.hid hca
  clear hca
  generalize m.setCell a n = r at HD ⊢
  by_cases hq : q = 0
  · obtain ⟨z1, z2, z3⟩ := HZ.out.1 hq
    obtain ⟨k0, rfl⟩ : ∃ k0 : Nat, a = k0 := ⟨a.toNat, by omega⟩
    have hr : r = (m.put k0 8 (u64 n), 0) := by rw [HD.out, if_pos hq]; rfl
    subst hq
    subst hr
    clear HD HZ hcs
    have h0 := H.out.cell
    go_enter Tryz.func85, Tryz.ntmps85
    go_wp2_with fail
    refine (HC.out _ H.out).mono ?_
    rintro e w1 ⟨rfl, rfl⟩
    have b1 : (k0 : Int) + 8 ≤ m.size := by omega
    go_wp2_with fail
    go_loopw [24] (fun i wr => ∃ k : Nat, k ≤ 8 ∧ i = .int .i64 k ∧ RMem wr b bb (m.put k0 k (u64 n)) ∧ Keeps (fun k => k = bb) w wr) (fun i _ => 8 - (intOf i).toNat)
    case atStart => exact ⟨0, Nat.zero_le _, rfl, by rw [Mem.put_zero]; exact H.out, Keeps.refl _ _⟩
    case round =>
      obtain ⟨k, hk, rfl, hm, hw⟩ := hrel
      by_cases hlt : k < 8
      · have c0 : wr.cell? ⟨b, 0, none⟩ = some (.slice (some ⟨bb, 0, none⟩) m.size m.size) := hm.cell
        have c1 : wr.cell? ⟨bb, k0 + k, none⟩ = some (.int .u8 ((m.put k0 k (u64 n)).byte (k0 + k))) := hm.byte (by rw [Mem.put_size]; omega)
        have f1 : wr.frozen? ⟨bb, k0 + k, none⟩ = false := free_of hm.rest
        have c2 : (k : Int) < 8 := by omega
        have c3 : (0 : Int) ≤ k := by omega
        have c4 : (k0 : Int) + k < m.size := by omega
        have c5 : (0 : Int) ≤ (k0 : Int) + k := by omega
        have c6 : IntKind.i64.wrap ((k0 : Int) + k) = (k0 : Int) + k := IntWalk.i64_in _ (by omega)
        have c7 : IntKind.i64.wrap (8 * (k : Int)) = 8 * (k : Int) := IntWalk.i64_in _ (by omega)
        have c8 : ((k0 : Int) + k).toNat = k0 + k := by omega
        have HM := Lib.hid hm
        clear hm
        go_wp2_with fail
        go_region
        have hw2 := HM.out.put1 (k0 + k) ((u64 n >>> (8 * k)) % 256) (Nat.mod_lt _ (by decide))
        rw [← shr_u8, show (u64 n >>> (8 * k)) % 256 = (u64 n >>> (8 * k)) % 2 ^ (8 * 1) from rfl, Mem.put_mod, ← Mem.put_succ] at hw2
        have HW := Lib.hid hw2
        have HK : Hid (Keeps (fun k => k = bb) w (wr.setCell ⟨bb, k0 + k, none⟩ (.int .u8 (IntKind.u64.wrap n / 2 ^ (8 * k) % 256)))) := hw.trans (Keeps.setCell _ _ _ (fun _ => rfl))
        clear hw2 hw HM
        go_wp2_with fail
        go_roundw
        case rel => exact ⟨k + 1, by omega, by go_num, ⟨HW.out.head, HW.out.rest, HW.out.ne, HW.out.le⟩, HK.out.trans (Keeps.drew _ _)⟩
        case measure => simp [intOf]; omega
      · have e8 : k = 8 := by omega
        subst e8
        go_wp2_with fail
        go_ret
        exact ⟨rfl, hm, hw⟩
  · have hr : r = (m, q) := by rw [HD.out, if_neg hq]
    subst hr
    have hq' : (q != 0) = true := by simp [hq]
    go_enter Tryz.func85, Tryz.ntmps85
    go_wp2_with fail
    refine (HC.out _ H.out).mono ?_
    rintro e w1 ⟨rfl, rfl⟩
    go_wp2_with fail
    go_ret
    exact ⟨rfl, H.out, Keeps.refl _ _⟩
end Go.Proofs.Shed
set_option linter.unusedVariables false
set_option linter.unusedSimpArgs false
set_option maxRecDepth 10000
namespace Go.Proofs.Shed
open Go Go.RowKit Go.Proofs.K

theorem u8_of (n : Int) : (((u64 n) % 256 : Nat) : Int) = n % 256 := by unfold u64; omega
theorem mem_setByte (w : World) (b bb : Nat) (m : Mem) (a n : Int) (h : RMem w b bb m) :
    Calls Tryz.prog 329 #[.pointer (some ⟨b, 0, none⟩), .int .i64 a, .int .i64 n] w (SetPost b bb (m.setByte a n) w) := by
  have H := Lib.hid h
  have hle := h.le
  have h0 := h.cell
  have hf := fun i => free_of (i := i) h.rest
  have hby := fun i hi => h.byte (i := i) hi
  clear h
  have HD : Hid (m.setByte a n = if m.has a 1 then (m.put a.toNat 1 (u64 n), 0) else (m, -9)) := rfl
  have hc := fun w H => mem_has w b bb m a 1 H
  have HI := Lib.hid (m.has_iff a 1)
  generalize m.has a 1 = q at hc HI HD
  have HC := Lib.hid hc
  clear hc
  generalize m.setByte a n = r at HD ⊢
  cases q with
  | false =>
    have hr : r = (m, -9) := HD.out
    subst hr
    clear HD hby hf
    go_enter Tryz.func329, Tryz.ntmps329
    go_wp2_with fail
    refine (HC.out _ H.out).mono ?_
    rintro e w1 ⟨rfl, rfl⟩
    go_wp2_with fail
    go_ret
    exact ⟨rfl, H.out, Keeps.refl _ _⟩
  | true =>
    have ha := HI.out.1 rfl
    obtain ⟨k, rfl⟩ : ∃ k : Nat, a = k := ⟨a.toNat, by omega⟩
    have hr : r = (m.put k 1 (u64 n), 0) := HD.out
    subst hr
    have c1 := hby k (by omega)
    have f1 := hf k
    have b1 : (k : Int) < m.size := by omega
    have b2 : (0 : Int) ≤ k := by omega
    clear HD hby hf ha
    go_enter Tryz.func329, Tryz.ntmps329
    go_wp2_with fail
    refine (HC.out _ H.out).mono ?_
    rintro e w1 ⟨rfl, rfl⟩
    go_wp2_with fail
    go_ret
    refine ⟨rfl, ?_, Keeps.setCell _ _ _ (fun _ => rfl)⟩
    have h1 := H.out.put1 k (u64 n % 256) (Nat.mod_lt _ (by decide))
    rw [u8_of, show u64 n % 256 = u64 n % 2 ^ (8 * 1) from rfl, Mem.put_mod] at h1
    exact h1

theorem leN_shift (l : List UInt8) (i : Nat) (h : i < l.length) : (leN l >>> (8 * i)) % 256 = l[i].toNat := by
  have := bytesN_get l.length (leN l) i (by rw [bytesN_len]; exact h)
  rw [← this]
  congr 1
  have e := bytesN_leN l
  exact (List.getElem_of_eq e _)

/-- The bytes behind a text that was put. -/
theorem Mem.vals_text (m : Mem) (k : Nat) (s : List UInt8) (h : k + s.length ≤ m.size) :
    (m.vals.toList.take k ++ (s.map fun b => Value.int .u8 b.toNat) ++ m.vals.toList.drop (k + s.length)).toArray = (m.put k s.length (leN s)).vals := by
  apply Array.ext'
  apply List.ext_getElem?
  intro i
  have hv : ∀ (m : Mem) i, i < m.size → m.vals.toList[i]? = some (.int .u8 (m.byte i)) := fun m i hi => by rw [Array.getElem?_toList]; exact m.vals_get i hi
  have hn : ∀ (m : Mem) i, m.size ≤ i → m.vals.toList[i]? = none := fun m i hi => by rw [Array.getElem?_toList]; exact Array.getElem?_eq_none (by rw [Mem.vals_size]; exact hi)
  have hlen : m.vals.toList.length = m.size := by rw [Array.length_toList, Mem.vals_size]
  rw [List.getElem?_append, List.getElem?_append]
  simp only [List.length_append, List.length_take, List.length_map, hlen, Nat.min_eq_left (show k ≤ m.size by omega)]
  by_cases h1 : i < k
  · rw [if_pos (by omega), if_pos h1, List.getElem?_take_of_lt h1, hv _ _ (by omega), hv _ _ (by rw [Mem.put_size]; omega)]
    rw [Mem.byte, Mem.byte, Mem.get_put_apart _ _ _ _ _ _ (by omega)]
  · by_cases h2 : i < k + s.length
    · rw [if_pos h2, if_neg h1, List.getElem?_map, List.getElem?_eq_getElem (by omega), hv _ _ (by rw [Mem.put_size]; omega)]
      rw [Mem.byte, Mem.get_put_in _ _ _ _ _ _ (by omega) (by omega)]
      have := leN_shift s (i - k) (by omega)
      rw [show (2 : Nat) ^ (8 * 1) = 256 from rfl, this]
      rfl
    · rw [if_neg h2, List.getElem?_drop, show k + s.length + (i - (k + s.length)) = i by omega]
      by_cases h3 : i < m.size
      · rw [hv _ _ h3, hv _ _ (by rw [Mem.put_size]; exact h3)]
        rw [Mem.byte, Mem.byte, Mem.get_put_apart _ _ _ _ _ _ (by omega)]
      · rw [hn _ _ (by omega), hn _ _ (by rw [Mem.put_size]; omega)]

theorem mem_setText (w : World) (b bb : Nat) (m : Mem) (a : Int) (s : List UInt8) (h : RMem w b bb m) (hs : s.length ≤ 9223372036854775807) :
    Calls Tryz.prog 255 #[.pointer (some ⟨b, 0, none⟩), .int .i64 a, .string ⟨s.toArray⟩] w (SetPost b bb (m.setText a s) w) := by
  have H := Lib.hid h
  have hle := h.le
  have h0 := h.cell
  have hrest := h.rest
  clear h
  have HD : Hid (m.setText a s = if m.has a s.length then (m.put a.toNat s.length (leN s), 0) else (m, -9)) := rfl
  have hc := fun w H => mem_has w b bb m a s.length H
  have HI := Lib.hid (m.has_iff a s.length)
  generalize m.has a s.length = q at hc HI HD
  have HC := Lib.hid hc
  clear hc
  generalize m.setText a s = r at HD ⊢
  cases q with
  | false =>
    have hr : r = (m, -9) := HD.out
    subst hr
    clear HD
    go_enter Tryz.func255, Tryz.ntmps255
    go_wp2_with fail
    refine (HC.out _ H.out).mono ?_
    rintro e w1 ⟨rfl, rfl⟩
    go_wp2_with fail
    go_ret
    exact ⟨rfl, H.out, Keeps.refl _ _⟩
  | true =>
    have ha := HI.out.1 rfl
    obtain ⟨k, rfl⟩ : ∃ k : Nat, a = k := ⟨a.toNat, by omega⟩
    have hr : r = (m.put k s.length (leN s), 0) := HD.out
    subst hr
    have b1 : (k : Int) + s.length ≤ m.size := by omega
    have b2 : (0 : Int) ≤ k := by omega
    have b3 : k + s.length ≤ m.size := by omega
    clear HD ha
    go_enter Tryz.func255, Tryz.ntmps255
    go_wp2_with fail
    refine (HC.out _ H.out).mono ?_
    rintro e w1 ⟨rfl, rfl⟩
    by_cases hne : s = []
    · subst hne
      go_wp2_with fail
      go_ret
      refine ⟨rfl, ?_, Keeps.refl _ _⟩
      simp only [List.length_nil, Mem.put_zero]
      exact H.out
    · have hne' : s.isEmpty = false := by simpa using hne
      have hrun := run_copy_str (P := Tryz.prog) w 143 9 3 5 bb k (m.size - k) (m.size - k) ⟨s.toArray⟩ m.vals 5 Tryz.underlying143 (by kernel_rfl) hrest (by show s.length ≤ _; omega) (by show k + s.length ≤ _; rw [Mem.vals_size]; omega)
      have hk : ¬ m.size = k := by have := List.length_pos_iff.2 hne; omega
      have HV : Hid ((m.vals.toList.take k ++ ((s.map fun b => Value.int .u8 b.toNat) ++ m.vals.toList.drop (k + s.length))).toArray = (m.put k s.length (leN s)).vals) := by
        rw [← List.append_assoc]
        exact Mem.vals_text m k s b3
      go_wp2_with fail
      go_ret
      refine ⟨rfl, ⟨?_, ?_, H.out.ne, H.out.le⟩, ⟨rfl, rfl, rfl, by simp, fun j _ hj => setRow_other w bb j _ hj⟩⟩
      · exact (setRow_other w bb b _ H.out.ne).trans H.out.head
      · rw [← HV.out]
        exact setRow_heap w bb m.vals _ _ _ H.out.rest

theorem Mem.byte_in (m : Mem) (k l i : Nat) (h : i < l) : (m.get k l >>> (8 * i)) % 256 = m.byte (k + i) := by
  apply Nat.eq_of_testBit_eq
  intro j
  rw [show (256 : Nat) = 2 ^ (8 * 1) from rfl, Nat.testBit_mod_two_pow, Nat.testBit_shiftRight, Mem.get_bit, Mem.get_bit]
  by_cases hj : j < 8 * 1
  · have e1 : 8 * i + j < 8 * l := by omega
    have e2 : 8 * k + (8 * i + j) = 8 * (k + i) + j := by omega
    simp [hj, e1, e2]
  · simp [hj]
theorem str_text (m : Mem) (k l : Nat) : strOfNums ((List.range l).map fun i => (m.byte (k + i) : Int)) = ⟨(bytesN l (m.get k l)).toArray⟩ := by
  apply ByteArray.ext
  apply Array.ext'
  rw [strOfNums_data]
  apply List.ext_getElem
  · simp [bytesN_len]
  · intro i h1 h2
    have hi : i < l := by simpa using h1
    apply UInt8.toNat_inj.1
    have e := bytesN_get l (m.get k l) i (by simpa using h2)
    rw [Mem.byte_in m k l i hi] at e
    simp only [List.getElem_map, List.getElem_range]
    have hb := m.byte_lt (k + i)
    rw [show ((bytesN l (m.get k l)).toArray.toList)[i] = (bytesN l (m.get k l))[i]'(by simpa using h2) from rfl, e]
    simp
    omega
/-- What comes of a text that is read. -/
def strV (l : List UInt8) : Value := .string ⟨l.toArray⟩
theorem mem_text (w : World) (b bb : Nat) (m : Mem) (a n : Int) (h : RMem w b bb m) :
    Calls Tryz.prog 92 #[.pointer (some ⟨b, 0, none⟩), .int .i64 a, .int .i64 n] w fun e w' => e = .returned (.tuple #[strV (m.text a n).1, .int .i64 (m.text a n).2]) ∧ w = w' := by
  have H := Lib.hid h
  have hle := h.le
  have h0 := h.cell
  have hby := fun i hi => h.byte (i := i) hi
  clear h
  have HD : Hid (m.text a n = if m.has a n then (bytesN n.toNat (m.get a.toNat n.toNat), 0) else ([], -9)) := rfl
  have hc := fun w H => mem_has w b bb m a n H
  have HI := Lib.hid (m.has_iff a n)
  generalize m.has a n = q at hc HI HD
  have HC := Lib.hid hc
  clear hc
  generalize m.text a n = r at HD ⊢
  cases q with
  | false =>
    have hr : r = ([], -9) := HD.out
    subst hr
    clear HD hby
    go_enter Tryz.func92, Tryz.ntmps92
    go_wp2_with fail
    refine (HC.out _ H.out).mono ?_
    rintro e w1 ⟨rfl, rfl⟩
    go_wp2_with fail
    go_ret2
    exact ⟨rfl, rfl⟩
  | true =>
    have ha := HI.out.1 rfl
    obtain ⟨k, rfl⟩ : ∃ k : Nat, a = k := ⟨a.toNat, by omega⟩
    obtain ⟨l, rfl⟩ : ∃ l : Nat, n = l := ⟨n.toNat, by omega⟩
    have hr : r = (bytesN l (m.get k l), 0) := HD.out
    subst hr
    have b1 : (k : Int) + l ≤ m.size := by omega
    have b2 : (0 : Int) ≤ k := by omega
    have b3 : (0 : Int) ≤ l := by omega
    have hconv := run_convert_bytes_arg (P := Tryz.prog) w 143 5 Tryz.underlying143 Tryz.underlying5 bb k l (m.size - k) ((List.range l).map fun i => (m.byte (k + i) : Int)) (by simp) (fun i hi => by
      rw [hby (k + i) (by omega)]
      simp [List.getD_eq_getElem?_getD, hi]) 9 Tryz.underlying9
    clear HD ha hby
    go_enter Tryz.func92, Tryz.ntmps92
    go_wp2_with fail
    refine (HC.out _ H.out).mono ?_
    rintro e w1 ⟨rfl, rfl⟩
    by_cases hl0 : l = 0
    · subst hl0
      go_wp2_with fail
      go_ret2
      exact ⟨rfl, rfl⟩
    · have hl1 : ((l : Int) == 0) = false := by simp; omega
      have hk : ¬ m.size = k := by omega
      go_wp2_with fail
      go_ret2
      refine ⟨?_, rfl⟩
      show Ending.returned (.tuple #[.string _, .int .i64 0]) = _
      rw [str_text]
      rfl

theorem vals_zero (n : Nat) : madeCells #[.int .u8 0] (n * 1) = (Mem.zero n).vals := by
  unfold Mem.vals madeCells Mem.zero
  apply Array.ext'
  simp [Mem.get]
  intro a _
  rw [Nat.mod_one]
  rfl

/-- New: a memory of bytes 0, in two new blocks. -/
def NewPost (size : Int) (w : World) (e : Ending) (w' : World) : Prop :=
  if Mem.newCode size = 0 then ∃ b bb, e = .returned (.tuple #[.pointer (some ⟨b, 0, none⟩), .int .i64 0]) ∧ RMem w' b bb (Mem.zero size.toNat) ∧ w.heap.size ≤ b ∧ w.heap.size ≤ bb ∧ Keeps (fun _ => False) w w'
  else e = .returned (.tuple #[.pointer none, .int .i64 (-256)]) ∧ w = w'

theorem infoU8 : (Tryz.prog.info? 5).map (fun i => (i.zero, i.size, i.bytes)) = some (some (.int .u8 0), 1, 1) := by kernel_rfl

theorem mem_new (w : World) (size : Int) : Calls Tryz.prog 118 #[.int .i64 size] w (NewPost size w) := by
  by_cases hc : 0 ≤ size ∧ size ≤ 1048576 ∧ size % 8 = 0
  · have hn : NewPost size w = fun e w' => ∃ b bb, e = .returned (.tuple #[.pointer (some ⟨b, 0, none⟩), .int .i64 0]) ∧ RMem w' b bb (Mem.zero size.toNat) ∧ w.heap.size ≤ b ∧ w.heap.size ≤ bb ∧ Keeps (fun _ => False) w w' := by
      funext e w'
      unfold NewPost Mem.newCode
      rw [if_pos (by rw [if_pos hc])]
    rw [hn]
    obtain ⟨h0, h1, h2⟩ := hc
    obtain ⟨k, rfl⟩ : ∃ k : Nat, size = k := ⟨size.toNat, by omega⟩
    obtain ⟨i0, hi, hz0, hz1, hz2⟩ := info_parts infoU8
    have h3 : ((k : Int) % 8 != 0) = false := by simp; omega
    have hm := fun w => run_make (P := Tryz.prog) w 143 5 i0 (.int .u8 0) Tryz.underlying143 hi hz0 .i64 .i64 k k (by omega) (by omega) (by rw [hz2]; omega) (by omega)
    rw [hz1] at hm
    simp only [Int.toNat_natCast, Value.cells, vals_zero] at hm
    clear hn
    generalize hv : (Mem.zero k).vals = V at hm
    have HV := Lib.hid hv
    clear hv
    go_enter Tryz.func118, Tryz.ntmps118
    go_wp2_with fail
    go_ret2
    refine ⟨w.heap.size + 1, w.heap.size, by simp, ⟨?_, ?_, by omega, by show k ≤ _; omega⟩, by omega, by omega, (Keeps.alloc _ _ _).trans (Keeps.alloc _ _ _)⟩
    · have := halloc_at (w.alloc (.cells V 5)) (.cells #[.slice (some ⟨w.heap.size, 0, none⟩) k k] 260)
      rw [World.size_alloc] at this
      exact this
    · rw [show (Mem.zero (k : Int).toNat).vals = V from HV.out]
      exact (halloc_old _ _ (by simp)).trans (halloc_at w _)
  · have hn : NewPost size w = fun e w' => e = .returned (.tuple #[.pointer none, .int .i64 (-256)]) ∧ w = w' := by
      funext e w'
      unfold NewPost Mem.newCode
      rw [if_neg (by rw [if_neg hc]; decide)]
    rw [hn]
    have hc' : size < 0 ∨ (0 ≤ size ∧ 1048576 < size) ∨ (0 ≤ size ∧ size ≤ 1048576 ∧ (size % 8 != 0) = true) := by
      by_cases h1 : 0 ≤ size
      · by_cases h2 : size ≤ 1048576
        · exact .inr (.inr ⟨h1, h2, by simp; omega⟩)
        · exact .inr (.inl ⟨h1, by omega⟩)
      · exact .inl (by omega)
    clear hc hn
    rcases hc' with h | ⟨h1, h2⟩ | ⟨h1, h2, h3⟩
    all_goals
      go_enter Tryz.func118, Tryz.ntmps118
      go_wp2_with fail
      go_ret2
      exact ⟨rfl, rfl⟩
end Go.Proofs.Shed
