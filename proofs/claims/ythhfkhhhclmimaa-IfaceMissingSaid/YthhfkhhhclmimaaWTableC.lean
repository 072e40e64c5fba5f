/- Layer 10: Put. Conditions: the memory lies in two blocks. -/
import Derived.Test.YthhfkhhhclmimaaWTableB
import Derived.LoopN
set_option linter.unusedVariables false
set_option linter.unusedSimpArgs false
set_option maxRecDepth 10000
set_option maxHeartbeats 1000000
namespace Go.Proofs.Shed
open Go Go.RowKit Go.Proofs.K

theorem u64_wrap (n : Int) : u64 (wrap64 n) = u64 n := by unfold u64 wrap64; omega
theorem Mem.setCell_wrap (m : Mem) (a n : Int) : m.setCell a (wrap64 n) = m.setCell a n := by unfold Mem.setCell; rw [u64_wrap]

/-- The last of Put: three cells. -/
def Tab.put3 (m : Mem) (p : Int) (x : Ent) : Mem := ((((m.setCell p x.sel).1).setCell (p + 8) x.xt).1.setCell (p + 16) x.cls).1

theorem tab_put (w : World) (b bb : Nat) (m : Mem) (t : Int) (x : Ent) (h : RMem w b bb m) :
    Calls Try.prog 59 #[.pointer (some ⟨b, 0, none⟩), .int .i64 t, x.val] w (SetPost b bb (Tab.put m t x) w) := by
  have H := Lib.hid h
  have hle := h.le
  have hbl := h.lt
  clear h
  have hin := Tab.slots_in m t
  obtain ⟨hs0, hs1⟩ := Tab.slots_bd m t
  obtain ⟨hp0, hp1⟩ := Tab.probe_bd m t x.sel
  have hP := fun w H => tab_probe w b bb m t x.sel H
  have hS := fun w H => tab_slots w b bb m t H
  have HD : Hid (Tab.put m t x = if x.sel < 1 ∨ Tab.slots m t = 0 then (m, -256) else if (Tab.probe m t x.sel).1 < 0 then (m, -2051) else (Tab.put3 (Tab.bump m t (Tab.probe m t x.sel).1) (Tab.pos t (Tab.probe m t x.sel).1) x, 0)) := rfl
  generalize Tab.put m t x = r at HD ⊢
  generalize Tab.slots m t = n at hin hs0 hs1 hp1 hS HD
  generalize Tab.probe m t x.sel = q at hp0 hp1 hP HD
  obtain ⟨x1, x2, x3⟩ := x
  obtain ⟨i, c⟩ := q
  have HP := Lib.hid hP
  have HS := Lib.hid hS
  clear hP hS
  simp only at hp0 hp1 HD HP
  unfold probeV at HP
  unfold Ent.val
  by_cases h1 : x1 < 1
  · have hr := HD.out
    rw [if_pos (.inl h1)] at hr
    subst hr
    clear HD hin
    go_enter Try.func59, Try.ntmps59
    go_wp2_with fail
    refine (HP.out _ (by exact H.out.allocd _)).mono ?_
    rintro e w1 ⟨rfl, k1⟩
    have hB : w1.heap[w.heap.size]? = some (.cells #[.int .i64 x1, .int .i64 x2, .int .i64 x3] 118 (0, 0)) := k1.heap (halloc_at _ _) id
    have c0 := cell_of (i := 0) hB rfl
    have M1 := Lib.hid ((H.out.allocd (.cells #[.int .i64 x1, .int .i64 x2, .int .i64 x3] 118)).keeps k1 id id)
    have K1 := Lib.hid (((Keeps.alloc (fun _ => False) w (.cells #[.int .i64 x1, .int .i64 x2, .int .i64 x3] 118)).trans k1).mono (T := fun k => k = bb) (fun _ _ e => e.elim))
    clear hB k1
    go_wp2_with fail
    go_ret
    exact ⟨rfl, M1.out, K1.out⟩
  · have h1' : 1 ≤ x1 := by omega
    by_cases h2 : n = 0
    · have hr := HD.out
      rw [if_pos (.inr h2)] at hr
      subst hr
      subst h2
      clear HD hin
      go_enter Try.func59, Try.ntmps59
      go_wp2_with fail
      refine (HP.out _ (by exact H.out.allocd _)).mono ?_
      rintro e w1 ⟨rfl, k1⟩
      have hB : w1.heap[w.heap.size]? = some (.cells #[.int .i64 x1, .int .i64 x2, .int .i64 x3] 118 (0, 0)) := k1.heap (halloc_at _ _) id
      have c0 := cell_of (i := 0) hB rfl
      have M1 := Lib.hid ((H.out.allocd (.cells #[.int .i64 x1, .int .i64 x2, .int .i64 x3] 118)).keeps k1 id id)
      have K1 := Lib.hid (((Keeps.alloc (fun _ => False) w (.cells #[.int .i64 x1, .int .i64 x2, .int .i64 x3] 118)).trans k1).mono (T := fun k => k = bb) (fun _ _ e => e.elim))
      clear hB k1
      go_wp2_with fail
      refine (HS.out _ M1.out).mono ?_
      rintro e w2 ⟨rfl, rfl⟩
      go_wp2_with fail
      go_ret
      exact ⟨rfl, M1.out, K1.out⟩
    · have h2' : ((n : Int) == 0) = false := by simp [h2]
      by_cases h3 : i < 0
      · have hr := HD.out
        rw [if_neg (by omega), if_pos h3] at hr
        subst hr
        clear HD hin
        go_enter Try.func59, Try.ntmps59
        go_wp2_with fail
        refine (HP.out _ (by exact H.out.allocd _)).mono ?_
        rintro e w1 ⟨rfl, k1⟩
        have hB : w1.heap[w.heap.size]? = some (.cells #[.int .i64 x1, .int .i64 x2, .int .i64 x3] 118 (0, 0)) := k1.heap (halloc_at _ _) id
        have c0 := cell_of (i := 0) hB rfl
        have M1 := Lib.hid ((H.out.allocd (.cells #[.int .i64 x1, .int .i64 x2, .int .i64 x3] 118)).keeps k1 id id)
        have K1 := Lib.hid (((Keeps.alloc (fun _ => False) w (.cells #[.int .i64 x1, .int .i64 x2, .int .i64 x3] 118)).trans k1).mono (T := fun k => k = bb) (fun _ _ e => e.elim))
        clear hB k1
        go_wp2_with fail
        refine (HS.out _ M1.out).mono ?_
        rintro e w2 ⟨rfl, rfl⟩
        go_wp2_with fail
        go_ret
        exact ⟨rfl, M1.out, K1.out⟩
      · have h3' : 0 ≤ i := by omega
        have hr := HD.out
        rw [if_neg (by omega), if_neg h3] at hr
        obtain ⟨t0, t1, t2⟩ := hin (by omega)
        clear HD hin h1 h2 h3 hp0
        have hin2 : i < n := by omega
        clear hp1
        have hat := fun w => tab_at w t i (by omega) (by omega) h3' (by omega)
        have hrd := fun w H => tab_read w b bb m t i H (by omega) (by omega) h3' (by omega)
        have hpb : 0 ≤ Tab.pos t i ∧ Tab.pos t i + 24 ≤ m.size := by unfold Tab.pos; omega
        have hbump : Tab.bump m t i = if (Tab.read m t i).sel = 0 then (m.setCell (t + 8) ((m.cell (t + 8)).1 + 1)).1 else m := rfl
        generalize Tab.pos t i = p at hat hpb hr
        generalize Tab.bump m t i = m1 at hbump hr
        generalize Tab.read m t i = y at hrd hbump
        obtain ⟨y1, y2, y3⟩ := y
        obtain ⟨hpb1, hpb2⟩ := hpb
        have HA := Lib.hid hat
        have HX := Lib.hid hrd
        have HR := Lib.hid hr
        have HB := Lib.hid hbump
        have hfd : ∀ w, (Instr.field 118 (.agg #[.int .i64 y1, .int .i64 y2, .int .i64 y3]) 0).run Try.prog w = .ok (.int .i64 y1) w := fun w => by kernel_rfl
        clear hat hrd hr hbump
        go_enter Try.func59, Try.ntmps59
        go_wp2_with fail
        refine (HP.out _ (by exact H.out.allocd _)).mono ?_
        rintro e w1 ⟨rfl, k1⟩
        have hB : w1.heap[w.heap.size]? = some (.cells #[.int .i64 x1, .int .i64 x2, .int .i64 x3] 118 (0, 0)) := k1.heap (halloc_at _ _) id
        have c0 := cell_of (i := 0) hB rfl
        have M1 := Lib.hid ((H.out.allocd (.cells #[.int .i64 x1, .int .i64 x2, .int .i64 x3] 118)).keeps k1 id id)
        have K1 := Lib.hid (((Keeps.alloc (fun _ => False) w (.cells #[.int .i64 x1, .int .i64 x2, .int .i64 x3] 118)).trans k1).mono (T := fun k => k = bb) (fun _ _ e => e.elim))
        have HB1 := Lib.hid hB
        clear hB k1
        go_wp2_with fail
        refine (HS.out _ M1.out).mono ?_
        rintro e w2 ⟨rfl, rfl⟩
        go_wp2_with fail
        refine (HA.out _).mono ?_
        rintro e w2 ⟨rfl, rfl⟩
        go_wp2_with fail
        refine (HX.out _ M1.out).mono ?_
        rintro e w2 ⟨rfl, k2⟩
        have hB := k2.heap HB1.out id
        have M2 := Lib.hid (M1.out.keeps k2 id id)
        have K2 := Lib.hid (K1.out.trans (k2.mono (T := fun k => k = bb) (fun _ _ e => e.elim)))
        clear k2 c0
        unfold Ent.val
        by_cases hy : y1 = 0
        · have hy' : (y1 == 0) = true := by simp [hy]
          have hb := HB.out
          rw [if_pos hy] at hb
          have hc8 := Lib.hid (mem_cell w2 b bb m (t + 8) M2.out)
          have hcb := m.cell_bd (t + 8)
          generalize m.cell (t + 8) = q8 at hc8 hb hcb
          obtain ⟨v8, e8⟩ := q8
          have HBB := Lib.hid hb
          have HB2 := Lib.hid hB
          clear hb hy hB
          simp only at hcb
          go_wp2_with fail
          refine hc8.out.mono ?_
          rintro e w3 ⟨rfl, rfl⟩
          go_wp2_with fail
          refine (mem_setCell _ b bb m (t + 8) _ M2.out).mono ?_
          rintro e wz ⟨rfl, m3, k3⟩
          have hB := k3.heap HB2.out (fun e => by omega)
          have MZ : Hid (RMem wz b bb m1) := by
            rw [HBB.out]
            first
              | exact m3
              | (rw [Mem.setCell_wrap] at m3; exact m3)
          have KZ := Lib.hid (K2.out.trans k3)
          clear m3 k3
          have c0 := cell_of (i := 0) hB rfl
          have c1 := cell_of (i := 1) hB rfl
          have c2 := cell_of (i := 2) hB rfl
          have hlt : w.heap.size < wz.heap.size := lt_of_heap hB
          have hz : bb < wz.heap.size := MZ.out.lt.2
          clear hB
          go_wp2_with fail
          have d0 : (wz.alloc (.cells #[.int .i64 x1, .int .i64 x2, .int .i64 x3] 2)).heap[wz.heap.size]? = some (.cells #[.int .i64 x1, .int .i64 x2, .int .i64 x3] 2 (0, 0)) := halloc_at _ _
          have M3 := Lib.hid (MZ.out.allocd (.cells #[.int .i64 x1, .int .i64 x2, .int .i64 x3] 2))
          have K3 := Lib.hid (KZ.out.trans (Keeps.alloc _ _ (.cells #[.int .i64 x1, .int .i64 x2, .int .i64 x3] 2)))
          refine wp_loop_rounds 4 ?_
          rw [rounds_succ]
          go_wp2_with fail
          refine (mem_setCell _ b bb m1 p x1 M3.out).mono ?_
          rintro e w4 ⟨rfl, m4, k4⟩
          have d1 := k4.heap d0 (by omega)
          have g1 := cell_of (i := 1) d1 rfl
          have M4 := Lib.hid m4
          have K4 := Lib.hid (K3.out.trans k4)
          clear m4 k4 d0
          go_wp2_with fail
          rw [rounds_succ]
          go_wp2_with fail
          refine (mem_setCell _ b bb _ (p + 8) x2 M4.out).mono ?_
          rintro e w5 ⟨rfl, m5, k5⟩
          have d2 := k5.heap d1 (by omega)
          have g2 := cell_of (i := 2) d2 rfl
          have M5 := Lib.hid m5
          have K5 := Lib.hid (K4.out.trans k5)
          clear m5 k5 d1 g1
          go_wp2_with fail
          rw [rounds_succ]
          go_wp2_with fail
          refine (mem_setCell _ b bb _ (p + 16) x3 M5.out).mono ?_
          rintro e w6 ⟨rfl, m6, k6⟩
          have M6 := Lib.hid m6
          have K6 := Lib.hid (K5.out.trans k6)
          clear m6 k6 d2 g2
          go_wp2_with fail
          rw [rounds_succ]
          go_wp2_with fail
          go_ret
          rw [HR.out]
          exact ⟨rfl, M6.out, K6.out⟩
        · have hy' : (y1 == 0) = false := by simp [hy]
          have hb := HB.out
          rw [if_neg hy] at hb
          subst hb
          obtain ⟨wz, rfl⟩ : ∃ wz, wz = w2 := ⟨_, rfl⟩
          have MZ := M2
          have KZ := K2
          have c0 := cell_of (i := 0) hB rfl
          have c1 := cell_of (i := 1) hB rfl
          have c2 := cell_of (i := 2) hB rfl
          have hlt : w.heap.size < wz.heap.size := lt_of_heap hB
          have hz : bb < wz.heap.size := MZ.out.lt.2
          clear hB
          go_wp2_with fail
          have d0 : (wz.alloc (.cells #[.int .i64 x1, .int .i64 x2, .int .i64 x3] 2)).heap[wz.heap.size]? = some (.cells #[.int .i64 x1, .int .i64 x2, .int .i64 x3] 2 (0, 0)) := halloc_at _ _
          have M3 := Lib.hid (MZ.out.allocd (.cells #[.int .i64 x1, .int .i64 x2, .int .i64 x3] 2))
          have K3 := Lib.hid (KZ.out.trans (Keeps.alloc _ _ (.cells #[.int .i64 x1, .int .i64 x2, .int .i64 x3] 2)))
          refine wp_loop_rounds 4 ?_
          rw [rounds_succ]
          go_wp2_with fail
          refine (mem_setCell _ b bb m1 p x1 M3.out).mono ?_
          rintro e w4 ⟨rfl, m4, k4⟩
          have d1 := k4.heap d0 (by omega)
          have g1 := cell_of (i := 1) d1 rfl
          have M4 := Lib.hid m4
          have K4 := Lib.hid (K3.out.trans k4)
          clear m4 k4 d0
          go_wp2_with fail
          rw [rounds_succ]
          go_wp2_with fail
          refine (mem_setCell _ b bb _ (p + 8) x2 M4.out).mono ?_
          rintro e w5 ⟨rfl, m5, k5⟩
          have d2 := k5.heap d1 (by omega)
          have g2 := cell_of (i := 2) d2 rfl
          have M5 := Lib.hid m5
          have K5 := Lib.hid (K4.out.trans k5)
          clear m5 k5 d1 g1
          go_wp2_with fail
          rw [rounds_succ]
          go_wp2_with fail
          refine (mem_setCell _ b bb _ (p + 16) x3 M5.out).mono ?_
          rintro e w6 ⟨rfl, m6, k6⟩
          have M6 := Lib.hid m6
          have K6 := Lib.hid (K5.out.trans k6)
          clear m6 k6 d2 g2
          go_wp2_with fail
          rw [rounds_succ]
          go_wp2_with fail
          go_ret
          rw [HR.out]
          exact ⟨rfl, M6.out, K6.out⟩
end Go.Proofs.Shed
