/- Layer 1, reading and writing cells. -/
import Derived.Test.YthhfkhhhclmimaaWMem
set_option linter.unusedVariables false
set_option linter.unusedSimpArgs false
set_option maxRecDepth 10000
namespace Go.Proofs.Shed
open Go Go.RowKit Go.Proofs.K

theorem cell_step (m : Mem) (a k : Nat) (hk : k < 8) : bits .or .u64 (m.get a k : Int) (IntKind.u64.wrap (IntKind.u64.wrap (m.byte (a + k) : Int) * 2 ^ (8 * k))) = (m.get a (k + 1) : Nat) := by
  have h1 := m.byte_lt (a + k)
  have h2 : m.byte (a + k) * 2 ^ (8 * k) < 2 ^ 64 := by
    have : 2 ^ (8 * k) ≤ 2 ^ 56 := Nat.pow_le_pow_right (by omega) (by omega)
    calc m.byte (a + k) * 2 ^ (8 * k) ≤ 255 * 2 ^ 56 := Nat.mul_le_mul (by omega) this
      _ < 2 ^ 64 := by decide
  have h3 := m.get_lt a k
  have h4 : (2 : Nat) ^ (8 * k) ≤ 2 ^ 56 := Nat.pow_le_pow_right (by omega) (by omega)
  rw [IntWalk.u64_in (m.byte (a + k) : Int) (by omega)]
  have e : ((m.byte (a + k) : Nat) : Int) * 2 ^ (8 * k) = ((m.byte (a + k) * 2 ^ (8 * k) : Nat) : Int) := by
    rw [Int.natCast_mul, Int.natCast_pow]
    rfl
  rw [e, IntWalk.u64_in _ (by omega), bits_or_u64_nat _ _ (by omega) (by omega), Mem.get_succ, Nat.shiftLeft_eq]

theorem s64_wrap (u : Nat) (h : u < 18446744073709551616) : wrap64 (u : Int) = s64 u := by
  unfold wrap64 s64
  split <;> omega

theorem mem_cell (w : World) (b bb : Nat) (m : Mem) (a : Int) (h : RMem w b bb m) :
    Calls Try.prog 67 #[.pointer (some ⟨b, 0, none⟩), .int .i64 a] w fun e w' => e = .returned (.tuple #[.int .i64 (m.cell a).1, .int .i64 (m.cell a).2]) ∧ w = w' := by
  have H := Lib.hid h
  have h0 := h.cell
  have hle := h.le
  clear h
  have hca := fun w H => mem_at w b bb m a H
  have HD : Hid (m.cell a = if m.at_ a = 0 then (s64 (m.get a.toNat 8), 0) else (0, m.at_ a)) := rfl
  have HZ := Lib.hid (m.at_zero a)
  have hcs := m.at_cases a
  generalize m.at_ a = q at hca HD HZ hcs
  have HC := Lib.hid hca
  clear hca
  generalize m.cell a = r at HD ⊢
  obtain ⟨r1, r2⟩ := r
  by_cases hq : q = 0
  · obtain ⟨z1, z2, z3⟩ := HZ.out.1 hq
    obtain ⟨k0, rfl⟩ : ∃ k0 : Nat, a = k0 := ⟨a.toNat, by omega⟩
    have hr : (r1, r2) = (s64 (m.get k0 8), 0) := by rw [HD.out, if_pos hq]; rfl
    obtain ⟨rfl, rfl⟩ := Prod.mk.inj hr
    subst hq
    clear HD HZ hcs hr
    go_enter Try.func67, Try.ntmps67
    go_wp2_with fail
    refine (HC.out _ H.out).mono ?_
    rintro e w1 ⟨rfl, rfl⟩
    have b1 : (k0 : Int) + 8 ≤ m.size := by omega
    go_wp2_with fail
    go_loop [7, 25] (fun n i => ∃ k : Nat, k ≤ 8 ∧ i = .int .i64 k ∧ n = .int .u64 (m.get k0 k : Nat)) (fun _ i => 8 - (intOf i).toNat)
    case atStart => exact ⟨0, Nat.zero_le _, rfl, by rw [Mem.get_zero]; rfl⟩
    case round =>
      obtain ⟨k, hk, rfl, rfl⟩ := hrel
      by_cases hlt : k < 8
      · have c1 : w.cell? ⟨bb, k0 + k, none⟩ = some (.int .u8 (m.byte (k0 + k))) := H.out.byte (by omega)
        have c2 : (k : Int) < 8 := by omega
        go_wp2_with fail
        go_round
        case rel => exact ⟨k + 1, by omega, by go_num, by rw [cell_step m k0 k hlt]⟩
        case measure => simp [intOf]; omega
      · have e8 : k = 8 := by omega
        subst e8
        go_wp2_with fail
        go_ret2
        refine ⟨?_, rfl⟩
        show Ending.returned (.tuple #[.int .i64 (wrap64 _), .int .i64 0]) = _
        rw [s64_wrap _ (by have := m.get_lt k0 8; simpa using this)]
  · have hr : (r1, r2) = (0, q) := by rw [HD.out, if_neg hq]
    obtain ⟨rfl, rfl⟩ := Prod.mk.inj hr
    have hq' : (r2 != 0) = true := by simp [hq]
    go_enter Try.func67, Try.ntmps67
    go_wp2_with fail
    refine (HC.out _ H.out).mono ?_
    rintro e w1 ⟨rfl, rfl⟩
    go_wp2_with fail
    go_ret2
    exact ⟨rfl, rfl⟩

theorem RMem.put1 {w : World} {b bb : Nat} {m : Mem} (h : RMem w b bb m) (i v : Nat) (hv : v < 256) : RMem (w.setCell ⟨bb, i, none⟩ (.int .u8 v)) b bb (m.put i 1 v) :=
  ⟨(Below.heap_setCell _ _ _ _ h.ne).trans h.head, by rw [← Mem.vals_set m i v hv]; exact hset_same h.rest _, h.ne, h.le⟩
theorem shr_u8 (n : Int) (k : Nat) : IntKind.u64.wrap n / 2 ^ (8 * k) % 256 = (((u64 n >>> (8 * k)) % 256 : Nat) : Int) := by
  have hN : ((u64 n : Nat) : Int) = n % 18446744073709551616 := by unfold u64; omega
  rw [IntKind.wrap_u64, ← hN, Nat.shiftRight_eq_div_pow]
  norm_cast
theorem Mem.put_mod (m : Mem) (a n v : Nat) : m.put a n (v % 2 ^ (8 * n)) = m.put a n v := by
  unfold Mem.put
  rw [Nat.mod_mod]

/-- What becomes of a world in whose memory one has written. -/
def SetPost (b bb : Nat) (r : Mem × Int) (w : World) (e : Ending) (w' : World) : Prop :=
  e = .returned (.int .i64 r.2) ∧ RMem w' b bb r.1 ∧ Keeps (fun k => k = bb) w w'

theorem mem_setCell (w : World) (b bb : Nat) (m : Mem) (a n : Int) (h : RMem w b bb m) :
    Calls Try.prog 70 #[.pointer (some ⟨b, 0, none⟩), .int .i64 a, .int .i64 n] w (SetPost b bb (m.setCell a n) w) := by
  have H := Lib.hid h
  have hle := h.le
  clear h
  have hca := fun w H => mem_at w b bb m a H
  have HD : Hid (m.setCell a n = if m.at_ a = 0 then (m.put a.toNat 8 (u64 n), 0) else (m, m.at_ a)) := rfl
  have HZ := Lib.hid (m.at_zero a)
  have hcs := m.at_cases a
  generalize m.at_ a = q at hca HD HZ hcs
  have HC := Lib.hid hca
  clear hca
  generalize m.setCell a n = r at HD ⊢
  by_cases hq : q = 0
  · obtain ⟨z1, z2, z3⟩ := HZ.out.1 hq
    obtain ⟨k0, rfl⟩ : ∃ k0 : Nat, a = k0 := ⟨a.toNat, by omega⟩
    have hr : r = (m.put k0 8 (u64 n), 0) := by rw [HD.out, if_pos hq]; rfl
    subst hq
    subst hr
    clear HD HZ hcs
    have h0 := H.out.cell
    go_enter Try.func70, Try.ntmps70
    go_wp2_with fail
    refine (HC.out _ H.out).mono ?_
    rintro e w1 ⟨rfl, rfl⟩
    have b1 : (k0 : Int) + 8 ≤ m.size := by omega
    go_wp2_with fail
    go_loopw [24] (fun i wr => ∃ k : Nat, k ≤ 8 ∧ i = .int .i64 k ∧ RMem wr b bb (m.put k0 k (u64 n)) ∧ Keeps (fun k => k = bb) w wr) (fun i _ => 8 - (intOf i).toNat)
    case atStart => exact ⟨0, Nat.zero_le _, rfl, by rw [Mem.put_zero]; exact H.out, Keeps.refl _ _⟩
    case round =>
      obtain ⟨k, hk, rfl, hm, hw⟩ := hrel
      by_cases hlt : k < 8
      · have c0 : wr.cell? ⟨b, 0, none⟩ = some (.slice (some ⟨bb, 0, none⟩) m.size m.size) := hm.cell
        have c1 : wr.cell? ⟨bb, k0 + k, none⟩ = some (.int .u8 ((m.put k0 k (u64 n)).byte (k0 + k))) := hm.byte (by rw [Mem.put_size]; omega)
        have f1 : wr.frozen? ⟨bb, k0 + k, none⟩ = false := free_of hm.rest
        have c2 : (k : Int) < 8 := by omega
        have c3 : (0 : Int) ≤ k := by omega
        have c4 : (k0 : Int) + k < m.size := by omega
        have c5 : (0 : Int) ≤ (k0 : Int) + k := by omega
        have c6 : IntKind.i64.wrap ((k0 : Int) + k) = (k0 : Int) + k := IntWalk.i64_in _ (by omega)
        have c7 : IntKind.i64.wrap (8 * (k : Int)) = 8 * (k : Int) := IntWalk.i64_in _ (by omega)
        have c8 : ((k0 : Int) + k).toNat = k0 + k := by omega
        have HM := Lib.hid hm
        clear hm
        go_wp2_with fail
        go_region
        have hw2 := HM.out.put1 (k0 + k) ((u64 n >>> (8 * k)) % 256) (Nat.mod_lt _ (by decide))
        rw [← shr_u8, show (u64 n >>> (8 * k)) % 256 = (u64 n >>> (8 * k)) % 2 ^ (8 * 1) from rfl, Mem.put_mod, ← Mem.put_succ] at hw2
        have HW := Lib.hid hw2
        have HK : Hid (Keeps (fun k => k = bb) w (wr.setCell ⟨bb, k0 + k, none⟩ (.int .u8 (IntKind.u64.wrap n / 2 ^ (8 * k) % 256)))) := hw.trans (Keeps.setCell _ _ _ (fun _ => rfl))
        clear hw2 hw HM
        go_wp2_with fail
        go_roundw
        case rel => exact ⟨k + 1, by omega, by go_num, ⟨HW.out.head, HW.out.rest, HW.out.ne, HW.out.le⟩, HK.out.trans (Keeps.drew _ _)⟩
        case measure => simp [intOf]; omega
      · have e8 : k = 8 := by omega
        subst e8
        go_wp2_with fail
        go_ret
        exact ⟨rfl, hm, hw⟩
  · have hr : r = (m, q) := by rw [HD.out, if_neg hq]
    subst hr
    have hq' : (q != 0) = true := by simp [hq]
    go_enter Try.func70, Try.ntmps70
    go_wp2_with fail
    refine (HC.out _ H.out).mono ?_
    rintro e w1 ⟨rfl, rfl⟩
    go_wp2_with fail
    go_ret
    exact ⟨rfl, H.out, Keeps.refl _ _⟩
end Go.Proofs.Shed
