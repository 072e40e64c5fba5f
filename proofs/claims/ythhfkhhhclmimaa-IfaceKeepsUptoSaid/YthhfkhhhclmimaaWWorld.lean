/- The statements' world of classes: New. Condition: the size is one that a memory may have. -/
import Derived.Test.YthhfkhhhclmimaaWRefE
set_option linter.unusedVariables false
set_option linter.unusedSimpArgs false
set_option maxRecDepth 10000
set_option maxHeartbeats 2000000
namespace Go.Proofs.Shed
open Go Go.RowKit Go.Proofs.K

theorem Keeps.set {S : Nat → Prop} {w w1 : World} (k : Keeps S w w1) (p : Addr) (u : Value) (hp : S p.block) : Keeps S w (w1.setCell p u) := k.trans (Keeps.setCell w1 p u (fun _ => hp))
/-- A world that is new: its memory, its space, the root's place, no classes. -/
def WorldPost (B : Nat) (x : Sp) (r : Int) (w : World) (e : Ending) (w' : World) : Prop :=
  ∃ b bb s, e = .returned (.agg #[.pointer (some ⟨b, 0, none⟩), .pointer (some ⟨s, 0, none⟩), .int .i64 r, .slice none 0 0, .slice none 0 0]) ∧ RSp w' s b bb x ∧ B ≤ b ∧ B ≤ bb ∧ B ≤ s ∧ Keeps (fun _ => False) w w'

theorem world_new (w : World) (size : Int) (h0 : 8 ≤ size) (h1 : size ≤ 1048576) (h8 : size % 8 = 0) (x : Sp) (r c : Int) (hr : Class.root ⟨Mem.zero size.toNat, 8, size, 8⟩ = (x, r, c)) :
    Calls Try.prog 23 #[.int .i64 size] w (WorldPost w.heap.size x r w) := by
  have HM := Lib.hid (mem_new (w.alloc (.cells #[.pointer none, .pointer none, .int .i64 0, .slice none 0 0, .slice none 0 0] 49)) size)
  go_enter Try.func23, Try.ntmps23
  go_wp2_with fail
  refine HM.out.mono ?_
  intro e w1 hp
  unfold NewPost Mem.newCode at hp
  rw [if_pos (show 0 ≤ size ∧ size ≤ 1048576 ∧ size % 8 = 0 from ⟨by omega, h1, h8⟩), if_pos rfl] at hp
  obtain ⟨b, bb, rfl, m1, b1, bb1, k1⟩ := hp
  have hA := k1.heap (halloc_at w (.cells #[.pointer none, .pointer none, .int .i64 0, .slice none 0 0, .slice none 0 0] 49)) id
  have K1 := Lib.hid ((Keeps.alloc (fun _ => False) w (.cells #[.pointer none, .pointer none, .int .i64 0, .slice none 0 0, .slice none 0 0] 49)).trans k1)
  have hw1 := k1.size
  rw [World.size_alloc] at b1 bb1 hw1
  have hz : ((Mem.zero size.toNat).size : Int) = size := by show ((size.toNat : Nat) : Int) = size; omega
  have HSP := Lib.hid (sp_new w1 b bb (Mem.zero size.toNat) 8 size m1)
  have HZ := Lib.hid hz
  clear k1 m1 hz
  go_wp2_with fail
  refine HSP.out.mono ?_
  intro e w2 hp
  unfold SpNewPost Sp.newCode at hp
  rw [if_neg (show ¬ ((8 : Int) < 0 ∨ size < 8 ∨ ((Mem.zero size.toNat).size : Int) < size) by rw [HZ.out]; omega), if_pos rfl] at hp
  obtain ⟨s, rfl, s2, ls, k2⟩ := hp
  have hA2 := k2.heap hA id
  have K2 := Lib.hid (K1.out.trans k2)
  have hsz := K1.out.size
  have HR := Lib.hid (class_root w2 s b bb _ s2)
  rw [hr] at HR
  clear hA k2 s2
  have HA := Lib.hid hA2
  clear hA2
  have hws : w.heap.size < w2.heap.size := lt_of_heap HA.out
  go_wp2_with fail
  refine HR.out.mono ?_
  rintro e w3 ⟨rfl, s3, k3⟩
  have S3 := Lib.hid s3
  have HA3 := k3.heap HA.out (by omega)
  have c0 := cell_of (i := 0) HA3 rfl
  have c1 := cell_of (i := 1) HA3 rfl
  have c2 := cell_of (i := 2) HA3 rfl
  have c3 := cell_of (i := 3) HA3 rfl
  have c4 := cell_of (i := 4) HA3 rfl
  have f0 := free_of (i := 0) HA3
  have f1 := free_of (i := 1) HA3
  have f2 := free_of (i := 2) HA3
  have f3 := free_of (i := 3) HA3
  have f4 := free_of (i := 4) HA3
  have K3 := Lib.hid (K2.out.trans' k3 (T := fun k => k = s ∨ k = bb) (fun i hi e => by omega))
  have KS : Keeps (fun k => k = w.heap.size) w3 (((((w3.setCell ⟨w.heap.size, 0, none⟩ (.pointer (some ⟨b, 0, none⟩))).setCell ⟨w.heap.size, 1, none⟩ (.pointer (some ⟨s, 0, none⟩))).setCell ⟨w.heap.size, 2, none⟩ (.int .i64 r)).setCell ⟨w.heap.size, 3, none⟩ (.slice none 0 0)).setCell ⟨w.heap.size, 4, none⟩ (.slice none 0 0)) := by
    refine Keeps.set ?_ _ _ ?_
    refine Keeps.set ?_ _ _ ?_
    refine Keeps.set ?_ _ _ ?_
    refine Keeps.set ?_ _ _ ?_
    refine Keeps.set ?_ _ _ ?_
    exact Keeps.refl _ _
    all_goals rfl
  have KS' := Lib.hid KS
  clear s3 k3 KS
  go_wp2_with fail
  refine bodyPost_ret (v := .agg #[.pointer (some ⟨b, 0, none⟩), .pointer (some ⟨s, 0, none⟩), .int .i64 r, .slice none 0 0, .slice none 0 0]) (by simp [results, Try.results23, go_sem, c0, c1, c2, c3, c4]) rfl ⟨b, bb, s, rfl, S3.out.keeps KS'.out (by omega) (by omega) (by omega), by omega, by omega, by omega, K3.out.trans' KS'.out (fun i hi e => by omega)⟩
end Go.Proofs.Shed
