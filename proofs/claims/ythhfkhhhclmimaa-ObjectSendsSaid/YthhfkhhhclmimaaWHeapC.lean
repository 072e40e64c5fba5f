/- Layer 5: New, need, find, Alloc. Conditions: the heap lies in three blocks. -/
import Derived.Test.YthhfkhhhclmimaaWHeapB
import Derived.Deep.RegionHeld3
set_option linter.unusedVariables false
set_option linter.unusedSimpArgs false
set_option maxRecDepth 10000
set_option maxHeartbeats 8000000
namespace Go.Proofs.Shed
open Go Go.RowKit Go.Proofs.K

namespace Heap
theorem from_mem (m : Mem) (hi : Int) (k : Nat) (a : Int) (l : List Blk) (h : blocksN m hi k a = some l) : ∀ b ∈ l, a ≤ b.at_ ∧ b.at_ + b.size ≤ hi ∧ 16 ≤ b.size := by
  induction k generalizing a l with
  | zero =>
    rw [blocksN] at h
    cases h
    intro b hb
    cases hb
  | succ k ih =>
    rw [blocksN] at h
    by_cases h1 : a < hi
    · rw [if_pos h1] at h
      by_cases h2 : (m.cell a).2 ≠ 0 ∨ (blk a (m.cell a).1).size < 16 ∨ (blk a (m.cell a).1).size % 8 ≠ 0 ∨ hi - a < (blk a (m.cell a).1).size
      · rw [if_pos h2] at h; cases h
      · rw [if_neg h2] at h
        cases hq : blocksN m hi k (a + (blk a (m.cell a).1).size) with
        | none => rw [hq] at h; cases h
        | some q =>
          rw [hq] at h
          simp only [Option.map_some, Option.some.injEq] at h
          subst h
          have e : (blk a (m.cell a).1).at_ = a := rfl
          intro b hb
          rcases List.mem_cons.1 hb with rfl | hb
          · omega
          · have := ih _ _ hq b hb
            omega
    · rw [if_neg h1] at h
      cases h
      intro b hb
      cases hb
theorem blocks_mem {m : Mem} {lo hi : Int} {l : List Blk} (h : blocks m lo hi = some l) : ∀ b ∈ l, lo ≤ b.at_ ∧ b.at_ + b.size ≤ hi ∧ 16 ≤ b.size := from_mem m hi _ lo l h
end Heap

def HpNewPost (b bb : Nat) (r : Mem × Int) (lo hi : Int) (w : World) (e : Ending) (w' : World) : Prop :=
  ∃ h, e = .returned (.tuple #[.pointer (some ⟨h, 0, none⟩), .int .i64 r.2]) ∧ RHp w' h b bb r.1 lo hi ∧ w.heap.size ≤ h ∧ Keeps (fun k => k = bb) w w'
theorem heap_new (w : World) (b bb : Nat) (m : Mem) (lo hi : Int) (H : RMem w b bb m) (h0 : 0 ≤ lo) (h1 : lo % 8 = 0) (h2 : hi % 8 = 0) (h3 : hi ≤ m.size) (h4 : 16 ≤ hi - lo) :
    Calls Try.prog 36 #[.pointer (some ⟨b, 0, none⟩), .int .i64 lo, .int .i64 hi] w (HpNewPost b bb (Heap.put m ⟨lo, hi - lo, false⟩) lo hi w) := by
  have hle := H.le
  have hlt := H.lt
  have e1 : (lo % 8 != 0) = false := by simp [h1]
  have e2 : (hi % 8 != 0) = false := by simp [h2]
  have e3 : decide ((m.size : Int) < hi) = false := decide_eq_false (by omega)
  have hA : RHp (w.alloc (.cells #[.pointer (some ⟨b, 0, none⟩), .int .i64 lo, .int .i64 hi] 132)) w.heap.size b bb m lo hi :=
    ⟨halloc_at _ _, H.allocd _, by omega, by omega, h0, by omega, h3⟩
  have hp := heap_put _ _ _ _ _ _ _ ⟨lo, hi - lo, false⟩ hA (by simp only; omega) (by simp only; omega)
  have hs := mem_size w b bb m H
  have hz := Mem.setCell_size m lo (hi - lo)
  have HD : Hid ((Heap.put m ⟨lo, hi - lo, false⟩).1.size = m.size) := hz
  have HA := Lib.hid hA
  unfold Blk.val at hp
  simp only at hp
  generalize Heap.put m ⟨lo, hi - lo, false⟩ = r at hp HD ⊢
  have HP := Lib.hid hp
  have HS := Lib.hid hs
  clear hA hp hs hz H h1 h2
  go_enter Try.func36, Try.ntmps36
  go_wp2_with fail
  refine HS.out.mono ?_
  rintro e w1 ⟨rfl, rfl⟩
  go_wp2_with fail
  refine HP.out.mono ?_
  rintro e w1 ⟨rfl, m1, k1⟩
  have M1 := Lib.hid m1
  have K1 := Lib.hid k1
  clear m1 k1
  go_wp2_with fail
  go_ret2
  exact ⟨w.heap.size, rfl, HA.out.with M1.out HD.out K1.out, Nat.le_refl _, ((Keeps.alloc _ _ _).trans K1.out)⟩
theorem heap_new_small (w : World) (b bb : Nat) (m : Mem) (lo hi : Int) (H : RMem w b bb m) (h0 : 0 ≤ lo) (h1 : lo % 8 = 0) (h2 : hi % 8 = 0) (h3 : hi ≤ m.size) (h5 : lo ≤ hi) (h4 : hi - lo < 16) :
    Calls Try.prog 36 #[.pointer (some ⟨b, 0, none⟩), .int .i64 lo, .int .i64 hi] w fun e w' => e = .returned (.tuple #[.pointer none, .int .i64 (-256)]) ∧ w = w' := by
  have hle := H.le
  have e1 : (lo % 8 != 0) = false := by simp [h1]
  have e2 : (hi % 8 != 0) = false := by simp [h2]
  have e3 : decide ((m.size : Int) < hi) = false := decide_eq_false (by omega)
  have HS := Lib.hid (mem_size w b bb m H)
  clear H h1 h2
  go_enter Try.func36, Try.ntmps36
  go_wp2_with fail
  refine HS.out.mono ?_
  rintro e w1 ⟨rfl, rfl⟩
  go_wp2_with fail
  go_ret2
  exact ⟨rfl, rfl⟩
theorem heap_need (w : World) (n : Int) (h0 : 0 ≤ n) (h1 : n ≤ 1048576) : Calls Try.prog 101 #[.int .i64 n] w fun e w' => e = .returned (.int .i64 (Heap.need n)) ∧ w = w' := by
  have e1 := andNot_7 (n + 15) (by omega) (by omega)
  have e2 : n + 15 - (n + 15) % 8 = (n + 15) / 8 * 8 := by omega
  rw [e2] at e1
  have HN : Hid (Heap.need n = if 16 < (n + 15) / 8 * 8 then (n + 15) / 8 * 8 else 16) := rfl
  have e3 : n + 16 - 1 = n + 15 := by omega
  clear e2
  generalize (n + 15) / 8 * 8 = q at e1 HN
  generalize Heap.need n = r at HN ⊢
  by_cases hq : 16 < q
  · have hr := HN.out
    rw [if_pos hq] at hr
    subst hr
    go_enter Try.func101, Try.ntmps101
    go_wp2_with fail
    go_ret
    exact ⟨rfl, rfl⟩
  · have hr := HN.out
    rw [if_neg hq] at hr
    subst hr
    go_enter Try.func101, Try.ntmps101
    go_wp2_with fail
    go_ret
    exact ⟨rfl, rfl⟩
end Go.Proofs.Shed
