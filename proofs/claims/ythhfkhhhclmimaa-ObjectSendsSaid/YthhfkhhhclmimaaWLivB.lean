/- The chapter's example of layer 13: true. No condition. -/
import Derived.Test.YthhfkhhhclmimaaWLiv
import Derived.Test.YthhfkhhhclmimaaPC
import Derived.Test.YthhfkhhhclmimaaWObjB
import Derived.IntWalk
set_option linter.unusedVariables false
set_option linter.unusedSimpArgs false
set_option maxRecDepth 10000
set_option maxHeartbeats 8000000
namespace Go.Proofs.Shed
open Go Go.RowKit Go.Proofs.K

theorem lives13 (w : World) : Calls Try.prog 35 #[] w fun e w' => e = .returned (.bool true) ∧ Keeps (fun _ => False) w w' := by
  go_enter Try.func35, Try.ntmps35
  go_wp2_with fail
  refine (world_new w 1024 (by omega) (by omega) (by omega) Liv.x0 8 0 Liv.root_is).mono ?_
  rintro e w1 ⟨b, bb, s, rfl, s1, hb, hbb, hs, k1⟩
  have R1 := Lib.hid (RWorld.start (X := fun g => w.heap.size ≤ g) 8 s1 k1.size hb hbb hs)
  have K1 := Lib.hid (k1.trans (Keeps.alloc (fun _ => False) w1 (.cells #[.pointer (some ⟨b, 0, none⟩), .pointer (some ⟨s, 0, none⟩), .int .i64 8, .slice none 0 0, .slice none 0 0] 49)))
  clear s1 k1
  go_wp2_with fail
  generalize hwb : w1.heap.size = wb at R1 K1 ⊢
  refine (world_make_no (fun g => w.heap.size ≤ g) _ wb s b bb Liv.x0 Liv.x1 8 [] [] none 0 none 0 R1.out (fun g hg => Nat.le_trans K1.out.size hg) 0 4 (by omega) 128 (by simp) (by simp) rfl Liv.new_is).mono ?_
  rintro e w2 ⟨rfl, ⟨aA, cA, aL, cL, r2⟩, k2⟩
  have hok : (Class.is Liv.x1.mem 8 128 && decide (Liv.x0.here < 128)) = true := by rw [Liv.is_is, Liv.x0_here]; rfl
  rw [hok]
  have R2 := Lib.hid r2
  have K2 := Lib.hid (K1.out.trans' k2 (fun i hi e => by have : w.heap.size ≤ i := e; omega))
  clear k2 r2 hok
  go_wp2_with fail
  refine (mem_new w2 1024).mono ?_
  intro e w3 hp
  unfold NewPost Mem.newCode at hp
  rw [if_pos (by decide)] at hp
  obtain ⟨b9, bb9, rfl, m9, _, _, k3⟩ := hp
  have R3 := Lib.hid (R2.out.keeps9 k3)
  have K3 := Lib.hid (K2.out.trans k3)
  clear m9 k3
  have low : w.heap.size ≤ wb ∧ w.heap.size ≤ s ∧ w.heap.size ≤ b ∧ w.heap.size ≤ bb := R3.out.low
  obtain ⟨g, rfl, hg⟩ : ∃ g, aA = some ⟨g, 0, none⟩ ∧ w3.cell? ⟨g, 0, none⟩ = some (.int .i64 128) := by
    rcases Own.form R3.out.own with ⟨_, h0, _⟩ | ⟨g, cur, hx, _⟩
    · cases h0
    · have ho := R3.out.own
      rw [hx] at ho
      exact ⟨g, hx, Own.cell ho rfl⟩
  have hgne : w.heap.size ≤ g ∧ g ≠ wb ∧ g ≠ s ∧ g ≠ b ∧ g ≠ bb := R3.out.at_ g rfl
  have hnc : 1 ≤ cA := by
    rcases Own.form R3.out.own with ⟨hx, _⟩ | ⟨g', cur, hx, hh, hnc, _⟩
    · cases hx
    · exact hnc
  have hnw := R3.out.ne
  have NB := Lib.hid (show ¬ wb = bb by omega)
  have NG := Lib.hid (show ¬ g = bb by omega)
  have c0 : w3.cell? ⟨wb, 0, none⟩ = some (.pointer (some ⟨b, 0, none⟩)) := cell_of (i := 0) R3.out.head rfl
  have c2 : w3.cell? ⟨wb, 2, none⟩ = some (.int .i64 8) := cell_of (i := 2) R3.out.head rfl
  have c3 : w3.cell? ⟨wb, 3, none⟩ = some (.slice (some ⟨g, 0, none⟩) 1 cA) := cell_of (i := 3) R3.out.head rfl
  have hH := Lib.hid (heap_new w3 b bb Liv.x1.mem 512 1024 R3.out.sp.mem (by omega) (by omega) (by omega) (by rw [Liv.x1_size]; decide) (by omega))
  rw [show (1024 : Int) - 512 = 512 from rfl, Liv.heap_is] at hH
  go_wp2_with fail
  refine hH.out.mono ?_
  rintro e w4 ⟨h, rfl, r4, hh4, k4⟩
  have H4 := Lib.hid r4
  have K4 := Lib.hid (K3.out.trans' k4 (fun i hi e => by omega))
  have d0 := k4.cell c0 NB.out
  have d2 := k4.cell c2 NB.out
  have d3 := k4.cell c3 NB.out
  have dg := k4.cell hg NG.out
  have hG := Lib.hid (class_grow w4.drew b bb Liv.h2 128 8 (r4.mem.keeps (Keeps.drew (fun _ => False) _) id id) (by omega) (by omega))
  rw [Liv.grow_is] at hG
  clear r4 k4 c0 c2 c3 hg hH
  go_wp2_with fail
  go_region_held3 (fun w' => w'.cell? ⟨wb, 0, none⟩ = some (.pointer (some ⟨b, 0, none⟩)) ∧ w'.cell? ⟨wb, 3, none⟩ = some (.slice (some ⟨g, 0, none⟩) 1 cA) ∧ w'.cell? ⟨g, 0, none⟩ = some (.int .i64 128))
    (first | go_keep | exact ⟨k5.cell d0 NB.out, k5.cell d3 NB.out, k5.cell dg NG.out⟩)
    ((go_at_call 37; refine hG.out.mono ?_; rintro e w5 ⟨rfl, m5, k5⟩))
  have H5 := Lib.hid ((H4.out.keeps (Keeps.drew (fun _ => False) w4) id id id).with m5 (by rw [Liv.h3_size, Liv.h2_size]) k5)
  have K5 := Lib.hid (K4.out.trans' ((Keeps.drew (fun k => k = bb) w4).trans k5) (fun i hi e => by omega))
  have e0 := k5.cell d0 NB.out
  have e2 := k5.cell d2 NB.out
  have e3 := k5.cell d3 NB.out
  have eg := k5.cell dg NG.out
  have hO := Lib.hid (obj_heap w5.drew h b bb Liv.h3 512 1024 128 (H5.out.keeps (Keeps.drew (fun _ => False) _) id id id) (by omega) (by omega))
  rw [Liv.obj_is] at hO
  clear m5 k5 d0 d2 d3 dg hG
  go_wp2_with fail
  go_region_held3 (fun w' => w'.cell? ⟨wb, 0, none⟩ = some (.pointer (some ⟨b, 0, none⟩)) ∧ w'.cell? ⟨wb, 3, none⟩ = some (.slice (some ⟨g, 0, none⟩) 1 cA) ∧ w'.cell? ⟨g, 0, none⟩ = some (.int .i64 128))
    (first | go_keep | exact ⟨k6.cell e0 NB.out, k6.cell e3 NB.out, k6.cell eg NG.out⟩)
    ((go_at_call 38; refine hO.out.mono ?_; rintro e w6 ⟨rfl, r6, k6⟩))
  have H6 := Lib.hid r6
  have K6 := Lib.hid (K5.out.trans' ((Keeps.drew (fun k => k = bb) w5).trans k6) (fun i hi e => by omega))
  have f0 := k6.cell e0 NB.out
  have f2 := k6.cell e2 NB.out
  have f3 := k6.cell e3 NB.out
  have fg := k6.cell eg NG.out
  have hC := Lib.hid fun w H => mem_cell w b bb Liv.h4 528 H
  rw [Liv.cell_is] at hC
  have hK := Lib.hid fun w H => obj_class w b bb Liv.h4 8 520 H
  rw [Liv.cls_is] at hK
  clear r6 k6 e0 e2 e3 eg hO
  go_wp2_with fail
  refine (hC.out _ H6.out.mem).mono ?_
  rintro e w7 ⟨rfl, rfl⟩
  go_wp2_with fail
  refine (hK.out _ H6.out.mem).mono ?_
  rintro e w8 ⟨rfl, k8⟩
  have K8 := Lib.hid (K6.out.trans k8)
  have y3 := k8.cell f3 id
  have yg := k8.cell fg id
  clear k8 f0 f2 f3 fg
  go_wp2_with fail
  go_ret
  exact ⟨rfl, K8.out⟩
end Go.Proofs.Shed
