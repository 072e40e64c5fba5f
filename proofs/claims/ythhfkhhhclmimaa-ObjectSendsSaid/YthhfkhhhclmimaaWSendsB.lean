/- ObjectSends: the walk. UNDER WAY, NOT BUILT YET. Conditions: the acts lie in the world. -/
import Derived.Test.YthhfkhhhclmimaaSwL
import Derived.Deep.DeepCutAuto
set_option linter.unusedVariables false
set_option linter.unusedSimpArgs false
set_option maxRecDepth 10000
set_option maxHeartbeats 8000000
namespace Go.Proofs.Shed
open Go Go.RowKit Go.Proofs.K

theorem sends_long (w : World) (a : Option Addr) (n c : Nat) (h : 60 < n) :
    Calls Try.prog 7 #[.slice a n c] w fun e w' => e = .returned (.bool true) ∧ Keeps (fun _ => False) w w' := by
  have HL := Lib.hid lives13
  have hb : decide (60 < (n : Int)) = true := by simp; omega
  go_enter Try.func7, Try.ntmps7
  go_wp2_with fail
  refine (HL.out _).mono ?_
  rintro e w1 ⟨rfl, k1⟩
  have K1 := Lib.hid k1
  clear k1
  go_wp2_with fail
  refine (HL.out _).mono ?_
  rintro e w2 ⟨rfl, k2⟩
  have K2 := Lib.hid (K1.out.trans k2)
  clear k2
  go_wp2_with fail
  go_ret
  exact ⟨rfl, K2.out⟩
theorem sends_walk (w : World) (a : Option Addr) (c : Nat) (D : List Deed13) (hA : Arg13 w a D) (hD : D.length ≤ 60) :
    Calls Try.prog 7 #[.slice a D.length c] w fun e w' => e = .returned (.bool true) ∧ Keeps (fun _ => False) w w' := by
  have HL := Lib.hid lives13
  have HA := Lib.hid hA
  clear hA
  have hb : decide (60 < (D.length : Int)) = false := by simp; omega
  go_enter Try.func7, Try.ntmps7
  go_wp2_with fail
  refine (HL.out _).mono ?_
  rintro e w1 ⟨rfl, k1⟩
  have K1 := Lib.hid k1
  clear k1 HL
  go_wp2_with fail
  refine (world_new w1 32768 (by omega) (by omega) (by omega) Obj.y0 8 0 Obj.root_is).mono ?_
  rintro e w2 ⟨b, bb, s, rfl, s2, hb1, hbb, hs, k2⟩
  have R2 := Lib.hid (RWorld.start (X := fun g => w1.heap.size ≤ g) 8 s2 k2.size hb1 hbb hs)
  have K2 := Lib.hid (K1.out.trans (k2.trans (Keeps.alloc (fun _ => False) w2 (.cells #[.pointer (some ⟨b, 0, none⟩), .pointer (some ⟨s, 0, none⟩), .int .i64 8, .slice none 0 0, .slice none 0 0] 49))))
  have hB := K1.out.size
  clear s2 k2 hb1 hbb hs
  go_upto_region 4 with (fail)
  generalize hV : w2.alloc (.cells #[.pointer (some ⟨b, 0, none⟩), .pointer (some ⟨s, 0, none⟩), .int .i64 8, .slice none 0 0, .slice none 0 0] 49) = V at R2 K2 ⊢
  generalize hwb : w2.heap.size = wb at R2 ⊢
  clear hwb hV hb
  have c0 := cell_of (i := 0) R2.out.head rfl
  have c1 := cell_of (i := 1) R2.out.head rfl
  have f1 := free_of (i := 1) R2.out.head
  have M2 := Lib.hid R2.out.sp.mem
  have S2 := Lib.hid R2.out.sp
  have hN := Lib.hid fun W (hm : RMem W b bb Obj.y0.mem) => sp_new W b bb Obj.y0.mem 16 16384 hm
  go_cut [] (fun wx => ∃ s2, RWorld (fun g => w1.heap.size ≤ g) wx wb s2 b bb ⟨Obj.y0.mem, 16, 16384, 16⟩ 8 [] [] none 0 none 0 ∧ Keeps (fun _ => False) w wx)
  case first =>
    go_wp2_with fail
    go_region_law (first
      | (go_simp
         go_at_call 32
         refine (sp_here _ s b bb Obj.y0 (S2.out.keeps (Keeps.drew (fun _ => False) V) id id id)).mono ?_
         rintro e w3 ⟨rfl, rfl⟩
         rw [Obj.y0_here])
      | (go_simp
         go_at_call 31
         refine (hN.out _ (M2.out.keeps (Keeps.drew (fun _ => False) V) id id)).mono ?_
         intro e w3 hp
         unfold SpNewPost Sp.newCode at hp
         rw [if_neg (show ¬ ((16 : Int) < 0 ∨ (16384 : Int) < 16 ∨ (Obj.y0.mem.size : Int) < 16384) by rw [Obj.y0_size]; omega), if_pos rfl] at hp
         obtain ⟨s2, rfl, s3, ls, k3⟩ := hp
         have K3 := Lib.hid k3
         have S3 := Lib.hid s3
         have z1 := k3.cell (show V.drew.cell? ⟨wb, 1, none⟩ = _ from c1) id
         have zf := k3.frozen (show V.drew.frozen? ⟨wb, 1, none⟩ = false from f1) (show wb < V.heap.size from lt_of_heap R2.out.head) id
         clear k3 s3))
    all_goals
      go_wp2_with fail
      go_meet
      have hlt : wb < V.heap.size := lt_of_heap R2.out.head
      have hl : V.heap.size ≤ s2 := ls
      have hl0 : w1.heap.size ≤ wb := R2.out.low.1
      obtain ⟨q1, q2⟩ := (R2.out.drew.keeps9 K3.out).respace S3.out (show w1.heap.size ≤ s2 by omega) (by omega) (fun e => by cases e) ⟨rfl, [], RefV.nil _ _⟩
      exact ⟨s2, q1, (K2.out.trans ((Keeps.drew _ _).trans K3.out)).trans' q2 (fun j hj e => by omega)⟩
  case rest =>
    obtain ⟨s2, hR, hk⟩ := hcut
    have R3 := Lib.hid hR
    have K3 := Lib.hid hk
    have hNw := heap_new wc b bb Obj.y0.mem 16384 32768 hR.sp.mem (by omega) (by omega) (by omega) (by rw [Obj.y0_size]; omega) (by omega)
    rw [show ((32768 : Int) - 16384) = 16384 from rfl, Obj.put_is] at hNw
    have HN := Lib.hid hNw
    have c0 := cell_of (i := 0) R3.out.head rfl
    clear hR hk hNw hN S2 M2 c1 f1 K2 R2
    go_wp2_with fail
    refine HN.out.mono ?_
    rintro e w4 ⟨h, rfl, H4, lh, k4⟩
    have SS := Lib.hid (sends_start R3.out H4 lh k4)
    have K4 := Lib.hid ((K3.out.trans' k4 (fun j hj e => by have := R3.out.low.2.2.2; omega)).trans (Keeps.alloc (fun _ => False) w4 (.map #[] 0)))
    clear H4 lh k4 c0 HN
    have hmm := @run_makeMap Try.prog
    go_wp2_with fail
    clear hmm
    generalize hmb : w4.heap.size = mb at SS ⊢
    clear hmb
    change Code.wp Try.prog (Code.loop lb) _ _ _
    refine sends_loop HA hD hB SS.out K4 (fun x v w' hk => ?_)
    have HK := Lib.hid hk
    clear hk
    unfold lframe
    go_wp2_with fail
    go_ret
    exact ⟨rfl, HK.out⟩
end Go.Proofs.Shed
