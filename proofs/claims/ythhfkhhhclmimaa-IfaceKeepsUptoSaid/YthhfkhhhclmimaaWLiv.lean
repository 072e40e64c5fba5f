/- The chapter's example of layer 12: true. No condition. -/
import Derived.Test.YthhfkhhhclmimaaWWorldB
import Derived.Test.YthhfkhhhclmimaaPC
import Derived.Deep.RegionHeld3
set_option linter.unusedVariables false
set_option linter.unusedSimpArgs false
set_option maxRecDepth 10000
set_option maxHeartbeats 8000000
namespace Go.Proofs.Shed
open Go Go.RowKit Go.Proofs.K

theorem RWorld.start {X : Nat → Prop} {w : World} {s b bb : Nat} {x : Sp} (r : Int) (h : RSp w s b bb x) (h0 : X w.heap.size) (h1 : X b) (h2 : X bb) (h3 : X s) :
    RWorld X (w.alloc (.cells #[.pointer (some ⟨b, 0, none⟩), .pointer (some ⟨s, 0, none⟩), .int .i64 r, .slice none 0 0, .slice none 0 0] 49)) w.heap.size s b bb x r [] [] none 0 none 0 := by
  have hl := h.lts
  exact ⟨halloc_at _ _, h.allocd _, Own.nil _ _ _, ⟨rfl, [], RefV.nil _ _⟩, ⟨h0, h3, h1, h2⟩, ⟨by omega, by omega, by omega⟩, fun g hg => by cases hg⟩

theorem lives12 (w : World) : Calls Try.prog 22 #[] w fun e w' => e = .returned (.bool true) ∧ Keeps (fun _ => False) w w' := by
  go_enter Try.func22, Try.ntmps22
  go_wp2_with fail
  refine (world_new w 1024 (by omega) (by omega) (by omega) Liv.x0 8 0 Liv.root_is).mono ?_
  rintro e w1 ⟨b, bb, s, rfl, s1, hb, hbb, hs, k1⟩
  have R1 := Lib.hid (RWorld.start (X := fun g => w.heap.size ≤ g) 8 s1 k1.size hb hbb hs)
  have K1 := Lib.hid (k1.trans (Keeps.alloc (fun _ => False) w1 (.cells #[.pointer (some ⟨b, 0, none⟩), .pointer (some ⟨s, 0, none⟩), .int .i64 8, .slice none 0 0, .slice none 0 0] 49)))
  clear s1 k1
  go_wp2_with fail
  generalize hwb : w1.heap.size = wb at R1 K1 ⊢
  refine (world_make_no (fun g => w.heap.size ≤ g) _ wb s b bb Liv.x0 Liv.x1 8 [] [] none 0 none 0 R1.out (fun g hg => Nat.le_trans K1.out.size hg) 0 4 (by omega) 128 (by simp) (by simp) rfl Liv.new_is).mono ?_
  rintro e w2 ⟨rfl, ⟨aA, cA, aL, cL, r2⟩, k2⟩
  have hok : (Class.is Liv.x1.mem 8 128 && decide (Liv.x0.here < 128)) = true := by rw [Liv.is_is, Liv.x0_here]; rfl
  rw [hok]
  have R2 := Lib.hid r2
  have K2 := Lib.hid (K1.out.trans' k2 (fun i hi e => by have : w.heap.size ≤ i := e; omega))
  obtain ⟨g, rfl, hg⟩ : ∃ g, aA = some ⟨g, 0, none⟩ ∧ w2.cell? ⟨g, 0, none⟩ = some (.int .i64 128) := by
    rcases Own.form r2.own with ⟨_, h0, _⟩ | ⟨g, cur, hx, _⟩
    · cases h0
    · have ho := r2.own
      rw [hx] at ho
      exact ⟨g, hx, Own.cell ho rfl⟩
  have hgne : w.heap.size ≤ g ∧ g ≠ wb ∧ g ≠ s ∧ g ≠ b ∧ g ≠ bb := r2.at_ g rfl
  have hnc : 1 ≤ cA := by
    rcases Own.form r2.own with ⟨hx, _⟩ | ⟨g', cur, hx, hh, hnc, _⟩
    · cases hx
    · exact hnc
  have c0 : w2.cell? ⟨wb, 0, none⟩ = some (.pointer (some ⟨b, 0, none⟩)) := cell_of (i := 0) r2.head rfl
  have c1 : w2.cell? ⟨wb, 1, none⟩ = some (.pointer (some ⟨s, 0, none⟩)) := cell_of (i := 1) r2.head rfl
  have c2 : w2.cell? ⟨wb, 2, none⟩ = some (.int .i64 8) := cell_of (i := 2) r2.head rfl
  have c3 : w2.cell? ⟨wb, 3, none⟩ = some (.slice (some ⟨g, 0, none⟩) 1 cA) := cell_of (i := 3) r2.head rfl
  have hnw := r2.ne
  have hS := Lib.hid (class_set w2.drew b bb Liv.x1.mem 8 128 1 8 r2.sp.mem.drew)
  rw [Liv.set_is] at hS
  have NB := Lib.hid (show ¬ wb = bb by omega)
  have NG := Lib.hid (show ¬ g = bb by omega)
  clear k2 r2 hok
  go_wp2_with fail
  go_region_held3 (fun w' => w'.cell? ⟨wb, 0, none⟩ = some (.pointer (some ⟨b, 0, none⟩)) ∧ w'.cell? ⟨wb, 2, none⟩ = some (.int .i64 8) ∧ w'.cell? ⟨wb, 3, none⟩ = some (.slice (some ⟨g, 0, none⟩) 1 cA) ∧ w'.cell? ⟨g, 0, none⟩ = some (.int .i64 128))
    (first | go_keep | exact ⟨k3.cell c0 NB.out, k3.cell c2 NB.out, k3.cell c3 NB.out, k3.cell hg NG.out⟩)
    ((go_at_call 26; refine hS.out.mono ?_; rintro e w3 ⟨rfl, m3, k3⟩))
  have hsz : Liv.m2.size = Liv.x1.mem.size := by rw [Liv.m2_size, Liv.x1_size]
  have low : w.heap.size ≤ wb ∧ w.heap.size ≤ s ∧ w.heap.size ≤ b ∧ w.heap.size ≤ bb := R2.out.low
  have s3 : RSp w3 s b bb { Liv.x1 with mem := Liv.m2 } := R2.out.sp.drew.withMem' m3 hsz k3
  have R3 := Lib.hid (R2.out.drew.space s3 (k3.mono (fun _ _ e => .inr e)))
  have K3 := Lib.hid (K2.out.trans' ((Keeps.drew (fun k => k = bb) w2).trans k3) (fun i hi e => by omega))
  have lt3 := s3.lts
  have ltw := lt_of_heap R3.out.head
  have ltg := Own.lt R3.out.own (g := g) rfl
  have d0 : w3.cell? ⟨wb, 0, none⟩ = some (.pointer (some ⟨b, 0, none⟩)) := k3.cell c0 NB.out
  have d1 : w3.cell? ⟨wb, 1, none⟩ = some (.pointer (some ⟨s, 0, none⟩)) := k3.cell c1 NB.out
  have d3 : w3.cell? ⟨wb, 3, none⟩ = some (.slice (some ⟨g, 0, none⟩) 1 cA) := k3.cell c3 NB.out
  have dg : w3.cell? ⟨g, 0, none⟩ = some (.int .i64 128) := k3.cell hg NG.out
  have hArg : ArgI (w3.alloc (.cells #[.int .i64 1, .int .i64 2] 2)) (some ⟨w3.heap.size, 0, none⟩) [1, 2] := by
    intro i hi
    refine ⟨w3.heap.size, 0, rfl, ?_⟩
    rw [Nat.zero_add]
    refine cell_of (halloc_at _ _) ?_
    match i, hi with
    | 0, _ => rfl
    | 1, _ => rfl
  have hI := Lib.hid (iface_new (w3.alloc (.cells #[.int .i64 1, .int .i64 2] 2)) s b bb { Liv.x1 with mem := Liv.m2 } (some ⟨w3.heap.size, 0, none⟩) 2 [1, 2] (s3.allocd _) hArg (by decide) (fun _ g' e => by have e' : w3.heap.size = g' := Option.some.inj e; omega))
  rw [Liv.iface_is] at hI
  have KV := Keeps.alloc (fun _ => False) w3 (.cells #[.int .i64 1, .int .i64 2] 2)
  have NS := Lib.hid (show ¬ (wb = s ∨ wb = bb) by omega)
  have NGS := Lib.hid (show ¬ (g = s ∨ g = bb) by omega)
  clear c0 c1 c2 c3 hg m3 k3 hS s3 hArg
  go_wp2_with fail
  refine hI.out.mono ?_
  rintro e w4 ⟨rfl, s4, k4⟩
  have e0 : w4.cell? ⟨wb, 0, none⟩ = some (.pointer (some ⟨b, 0, none⟩)) := k4.cell (KV.cell d0 id) NS.out
  have e3 : w4.cell? ⟨wb, 3, none⟩ = some (.slice (some ⟨g, 0, none⟩) 1 cA) := k4.cell (KV.cell d3 id) NS.out
  have eg : w4.cell? ⟨g, 0, none⟩ = some (.int .i64 128) := k4.cell (KV.cell dg id) NGS.out
  have K4 := Lib.hid (K3.out.trans' ((KV.mono (T := fun k => k = s ∨ k = bb) (fun _ _ => False.elim)).trans k4) (fun i hi e => by omega))
  have hM := Lib.hid fun (i : Stay w4) => iface_missing i.1 b bb Liv.x3.mem 168 128 (s4.mem.keeps i.2 id id) (by omega) (by omega)
  rw [Liv.missing_is] at hM
  have f0 := fun (i : Stay w4) => i.2.cell e0 id
  have f3 := fun (i : Stay w4) => i.2.cell e3 id
  have fg := fun (i : Stay w4) => i.2.cell eg id
  clear e0 e3 eg d0 d1 d3 dg k4
  go_wp2_with fail
  refine Go.Proofs.K.wp_region_calm ?calm1a ?calm1b ?_
  case calm1a => kernel_rfl
  case calm1b => kernel_rfl
  repeat ((with_reducible refine wpQuiet_step ?_); intro Kq hKq; go_simp; first | ((with_reducible refine hKq _ ?_); clear hKq Kq) | (refine hKq _ ?_; clear hKq Kq) | (apply Exists.intro; refine ⟨fun _ => ?_, hKq _ ?_⟩; (exact K.calm_of (hM.out _)); clear hKq Kq))
  with_reducible refine wpQuiet_nil ?_
  intro _ hw'
  obtain ⟨⟨wq, kq⟩, hw''⟩ := hw'
  subst hw''
  go_wp2_with fail
  go_ret
  exact ⟨rfl, K4.out.trans kq⟩
end Go.Proofs.Shed
