/- Layer 5: a heap's blocks. Conditions: the heap lies in three blocks. -/
import Derived.Test.YthhfkhhhclmimaaWT
import Derived.Test.YthhfkhhhclmimaaPC
import Derived.Test.YthhfkhhhclmimaaPA
set_option linter.unusedVariables false
set_option linter.unusedSimpArgs false
set_option maxRecDepth 10000
set_option maxHeartbeats 2000000
namespace Go.Proofs.Shed
open Go Go.RowKit Go.Proofs.K

/-- A heap lies in a world: a struct at the head of block h, its memory in blocks b and bb. -/
structure RHp (w : World) (h b bb : Nat) (m : Mem) (lo hi : Int) : Prop where
  head : w.heap[h]? = some (.cells #[.pointer (some ⟨b, 0, none⟩), .int .i64 lo, .int .i64 hi] 132 (0, 0))
  mem : RMem w b bb m
  ne1 : h ≠ b
  ne2 : h ≠ bb
  lo0 : 0 ≤ lo
  lt : lo ≤ hi
  top : hi ≤ m.size
theorem RHp.keeps {w w' : World} {h b bb : Nat} {m : Mem} {lo hi : Int} (H : RHp w h b bb m lo hi) {S : Nat → Prop} (k : Keeps S w w') (h0 : ¬ S h) (h1 : ¬ S b) (h2 : ¬ S bb) : RHp w' h b bb m lo hi :=
  ⟨k.heap H.head h0, H.mem.keeps k h1 h2, H.ne1, H.ne2, H.lo0, H.lt, H.top⟩
theorem RHp.with {w w' : World} {h b bb : Nat} {m m' : Mem} {lo hi : Int} (H : RHp w h b bb m lo hi) (hm : RMem w' b bb m') (hs : m'.size = m.size) (k : Keeps (fun j => j = bb) w w') : RHp w' h b bb m' lo hi :=
  ⟨k.heap H.head H.ne2, hm, H.ne1, H.ne2, H.lo0, H.lt, by rw [hs]; exact H.top⟩
theorem RHp.c0 {w : World} {h b bb : Nat} {m : Mem} {lo hi : Int} (H : RHp w h b bb m lo hi) : w.cell? ⟨h, 0, none⟩ = some (.pointer (some ⟨b, 0, none⟩)) := cell_of H.head rfl
theorem RHp.c1 {w : World} {h b bb : Nat} {m : Mem} {lo hi : Int} (H : RHp w h b bb m lo hi) : w.cell? ⟨h, 1, none⟩ = some (.int .i64 lo) := cell_of H.head rfl
theorem RHp.c2 {w : World} {h b bb : Nat} {m : Mem} {lo hi : Int} (H : RHp w h b bb m lo hi) : w.cell? ⟨h, 2, none⟩ = some (.int .i64 hi) := cell_of H.head rfl

def Blk.val (x : Blk) : Value := .agg #[.int .i64 x.at_, .int .i64 x.size, .bool x.used]
def Blk.cells (x : Blk) : List Value := [.int .i64 x.at_, .int .i64 x.size, .bool x.used]
def blkV (L : List Blk) : List Value := L.flatMap Blk.cells
theorem blkV_len (L : List Blk) : (blkV L).length = L.length * 3 := by
  induction L with
  | nil => rfl
  | cons p L ih => simp [blkV, Blk.cells] at ih ⊢; omega
theorem blkV_app (P L : List Blk) : blkV (P ++ L) = blkV P ++ blkV L := by simp [blkV]
theorem blkV_get (L : List Blk) (i : Nat) (h : i < L.length) : (blkV L)[i * 3]? = some (.int .i64 L[i].at_) ∧ (blkV L)[i * 3 + 1]? = some (.int .i64 L[i].size) ∧ (blkV L)[i * 3 + 2]? = some (.bool L[i].used) := by
  induction L generalizing i with
  | nil => cases h
  | cons p L ih =>
    have e : blkV (p :: L) = .int .i64 p.at_ :: .int .i64 p.size :: .bool p.used :: blkV L := rfl
    rw [e]
    cases i with
    | zero => exact ⟨rfl, rfl, rfl⟩
    | succ i =>
      have := ih i (by simpa using h)
      rw [show (i + 1) * 3 = i * 3 + 3 by omega]
      exact this

theorem heap_put (w : World) (h b bb : Nat) (m : Mem) (lo hi : Int) (x : Blk) (H : RHp w h b bb m lo hi) (h0 : -4611686018427387904 ≤ x.size) (h1 : x.size ≤ 4611686018427387904) :
    Calls Try.prog 69 #[.pointer (some ⟨h, 0, none⟩), x.val] w (SetPost b bb (Heap.put m x) w) := by
  obtain ⟨at_, size, used⟩ := x
  have HM := Lib.hid H.mem
  have c0 := H.c0
  have hlt : h < w.heap.size := lt_of_heap H.head
  clear H
  have K0 := Lib.hid (Keeps.alloc (fun k => k = bb) w (.cells #[.int .i64 at_, .int .i64 size, .bool used] 135))
  have HM0 := Lib.hid (HM.out.allocd (.cells #[.int .i64 at_, .int .i64 size, .bool used] 135))
  have D0 := cell_of (i := 0) (halloc_at w (.cells #[.int .i64 at_, .int .i64 size, .bool used] 135)) rfl
  have C0 : (w.alloc (.cells #[.int .i64 at_, .int .i64 size, .bool used] 135)).cell? ⟨h, 0, none⟩ = some (.pointer (some ⟨b, 0, none⟩)) := (World.cell?_alloc_lt _ _ _ hlt).trans c0
  unfold Blk.val
  simp only at h0 h1
  cases used with
  | true =>
    have hs := fun w H => mem_setCell w b bb m at_ (size + 1) H
    have HD : Hid (Heap.put m ⟨at_, size, true⟩ = m.setCell at_ (size + 1)) := rfl
    generalize Heap.put m ⟨at_, size, true⟩ = r at HD ⊢
    rw [← HD.out] at hs
    have HS := Lib.hid hs
    clear hs HD
    go_enter Try.func69, Try.ntmps69
    go_wp2_with fail
    generalize w.alloc (.cells #[.int .i64 at_, .int .i64 size, .bool true] 135) = W1 at HM0 K0 D0 C0 ⊢
    go_still_tail 7, (by kernel_rfl)
    change wpList _ _ _ _ _ (World.drew _)
    go_wp2_with fail
    refine (HS.out _ HM0.out.drew).mono ?_
    rintro e w1 hp
    obtain ⟨rfl, m1, k1⟩ := hp.drew
    have K1 := Lib.hid (K0.out.trans k1)
    have M1 := Lib.hid m1
    clear m1 k1
    go_wp2_with fail
    go_ret
    exact ⟨rfl, M1.out, K1.out⟩
  | false =>
    have hs := fun w H => mem_setCell w b bb m at_ size H
    have HD : Hid (Heap.put m ⟨at_, size, false⟩ = m.setCell at_ size) := rfl
    generalize Heap.put m ⟨at_, size, false⟩ = r at HD ⊢
    rw [← HD.out] at hs
    have HS := Lib.hid hs
    clear hs HD
    go_enter Try.func69, Try.ntmps69
    go_wp2_with fail
    generalize w.alloc (.cells #[.int .i64 at_, .int .i64 size, .bool false] 135) = W1 at HM0 K0 D0 C0 ⊢
    go_still_tail 7, (by kernel_rfl)
    change wpList _ _ _ _ _ (World.drew _)
    go_wp2_with fail
    refine (HS.out _ HM0.out.drew).mono ?_
    rintro e w1 hp
    obtain ⟨rfl, m1, k1⟩ := hp.drew
    have K1 := Lib.hid (K0.out.trans k1)
    have M1 := Lib.hid m1
    clear m1 k1
    go_wp2_with fail
    go_ret
    exact ⟨rfl, M1.out, K1.out⟩
end Go.Proofs.Shed
