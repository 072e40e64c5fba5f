/- Layer 10: the functions of package table that read. Conditions: the memory lies in two blocks. Layer 10: Get, May, Put. Conditions: the memory lies in two blocks. Layer 10: Put. Conditions: the memory lies in two blocks. Layer 10: New, Copy. Conditions: the space lies in three blocks. -/
import Derived.Test.YthhfkhhhclmimaaGreatDoorMWS
import Derived.Test.YthhfkhhhclmimaaGreatDoorMPA
import Derived.LoopN
set_option linter.unusedVariables false
set_option linter.unusedSimpArgs false
set_option maxRecDepth 10000
namespace Go.Proofs.Shed
open Go Go.RowKit Go.Proofs.K

theorem RMem.allocd {w : World} {b bb : Nat} {m : Mem} (h : RMem w b bb m) (o : Obj) : RMem (w.alloc o) b bb m := h.keeps (Keeps.alloc (fun _ => False) w o) id id

theorem tab_slots (w : World) (b bb : Nat) (m : Mem) (t : Int) (h : RMem w b bb m) :
    Calls Tryz.prog 180 #[.pointer (some ⟨b, 0, none⟩), .int .i64 t] w fun e w' => e = .returned (.int .i64 (Tab.slots m t)) ∧ w = w' := by
  have H := Lib.hid h
  clear h
  have HD : Hid (Tab.slots m t = if (m.cell t).2 ≠ 0 ∨ (m.cell t).1 < 1 ∨ 1024 < (m.cell t).1 then 0 else if (m.text t ((2 + (m.cell t).1 * 3) * 8)).2 ≠ 0 then 0 else (m.cell t).1) := rfl
  have hc := Lib.hid (mem_cell w b bb m t H.out)
  generalize Tab.slots m t = r at HD ⊢
  generalize m.cell t = q at HD hc
  obtain ⟨n, e⟩ := q
  simp only at HD hc
  by_cases h1 : e = 0
  · subst h1
    by_cases h2 : n < 1
    · have hr : r = 0 := by rw [HD.out, if_pos (by omega)]
      subst hr
      clear HD
      go_enter Tryz.func180, Tryz.ntmps180
      go_wp2_with fail
      refine hc.out.mono ?_
      rintro e w1 ⟨rfl, rfl⟩
      go_wp2_with fail
      go_ret
      exact ⟨rfl, rfl⟩
    · by_cases h3 : 1024 < n
      · have hr : r = 0 := by rw [HD.out, if_pos (by omega)]
        subst hr
        clear HD
        have h2' : 1 ≤ n := by omega
        go_enter Tryz.func180, Tryz.ntmps180
        go_wp2_with fail
        refine hc.out.mono ?_
        rintro e w1 ⟨rfl, rfl⟩
        go_wp2_with fail
        go_ret
        exact ⟨rfl, rfl⟩
      · have hr : r = if (m.text t ((2 + n * 3) * 8)).2 ≠ 0 then 0 else n := by rw [HD.out, if_neg (by omega)]
        have HR := Lib.hid hr
        clear HD hr
        have h2' : 1 ≤ n := by omega
        have h3' : n ≤ 1024 := by omega
        have ht := Lib.hid (mem_text w b bb m t ((2 + n * 3) * 8) H.out)
        generalize m.text t ((2 + n * 3) * 8) = q at HR ht
        obtain ⟨s, e⟩ := q
        simp only at HR ht
        go_enter Tryz.func180, Tryz.ntmps180
        go_wp2_with fail
        refine hc.out.mono ?_
        rintro e w1 ⟨rfl, rfl⟩
        go_wp2_with fail
        refine ht.out.mono ?_
        rintro e w1 ⟨rfl, rfl⟩
        by_cases h4 : e = 0
        · have h4' : (e != 0) = false := by simp [h4]
          go_wp2_with fail
          go_ret
          exact ⟨ret_int (by rw [HR.out, if_neg (by simpa using h4)]), rfl⟩
        · have h4' : (e != 0) = true := by simp [h4]
          go_wp2_with fail
          go_ret
          exact ⟨ret_int (by rw [HR.out, if_pos h4]), rfl⟩
  · have hr : r = 0 := by rw [HD.out, if_pos (by omega)]
    subst hr
    clear HD
    have h1' : (e != 0) = true := by simp [h1]
    go_enter Tryz.func180, Tryz.ntmps180
    go_wp2_with fail
    refine hc.out.mono ?_
    rintro e w1 ⟨rfl, rfl⟩
    go_wp2_with fail
    go_ret
    exact ⟨rfl, rfl⟩

theorem tab_at (w : World) (t i : Int) (h0 : -4611686018427387904 ≤ t) (h1 : t ≤ 4611686018427387904) (h2 : 0 ≤ i) (h3 : i ≤ 4096) :
    Calls Tryz.prog 394 #[.int .i64 t, .int .i64 i] w fun e w' => e = .returned (.int .i64 (Tab.pos t i)) ∧ w = w' := by
  go_enter Tryz.func394, Tryz.ntmps394
  go_wp2
  go_ret
  exact ⟨rfl, rfl⟩

theorem tab_home (w : World) (sel n : Int) (h0 : 1 ≤ n) (h1 : n ≤ 4096) :
    Calls Tryz.prog 395 #[.int .i64 sel, .int .i64 n] w fun e w' => e = .returned (.int .i64 (Tab.home sel n)) ∧ w = w' := by
  go_enter Tryz.func395, Tryz.ntmps395
  go_wp2
  go_ret
  exact ⟨rfl, rfl⟩

def Ent.val (x : Ent) : Value := .agg #[.int .i64 x.sel, .int .i64 x.xt, .int .i64 x.cls]
theorem tab_read (w : World) (b bb : Nat) (m : Mem) (t i : Int) (h : RMem w b bb m) (h0 : -4611686018427387904 ≤ t) (h1 : t ≤ 4611686018427387904) (h2 : 0 ≤ i) (h3 : i ≤ 4096) :
    Calls Tryz.prog 282 #[.pointer (some ⟨b, 0, none⟩), .int .i64 t, .int .i64 i] w fun e w' => e = .returned (Tab.read m t i).val ∧ Keeps (fun _ => False) w w' := by
  have H := Lib.hid h
  clear h
  have hat := fun w => tab_at w t i h0 h1 h2 h3
  have hp : -4611686018427387904 ≤ Tab.pos t i ∧ Tab.pos t i ≤ 4611686018427487904 := by unfold Tab.pos; omega
  have HD : Hid (Tab.read m t i = ⟨(m.cell (Tab.pos t i)).1, (m.cell (Tab.pos t i + 8)).1, (m.cell (Tab.pos t i + 16)).1⟩) := rfl
  generalize Tab.read m t i = r at HD ⊢
  generalize Tab.pos t i = p at hp hat HD
  obtain ⟨hp1, hp2⟩ := hp
  have HA := Lib.hid hat
  have hc := Lib.hid fun w H => mem_cell w b bb m p H
  have hc1 := Lib.hid fun w H => mem_cell w b bb m (p + 8) H
  have hc2 := Lib.hid fun w H => mem_cell w b bb m (p + 16) H
  have hr := HD.out
  clear HD hat
  generalize m.cell p = q0 at hc hr
  generalize m.cell (p + 8) = q1 at hc1 hr
  generalize m.cell (p + 16) = q2 at hc2 hr
  obtain ⟨q00, q01⟩ := q0
  obtain ⟨q10, q11⟩ := q1
  obtain ⟨q20, q21⟩ := q2
  subst hr
  go_enter Tryz.func282, Tryz.ntmps282
  go_wp2_with fail
  refine (HA.out _).mono ?_
  rintro e w1 ⟨rfl, rfl⟩
  go_wp2_with fail
  refine (hc.out _ (by exact H.out.allocd _)).mono ?_
  rintro e w1 ⟨rfl, rfl⟩
  go_wp2_with fail
  refine (hc1.out _ (by exact H.out.allocd _)).mono ?_
  rintro e w1 ⟨rfl, rfl⟩
  go_wp2_with fail
  refine (hc2.out _ (by exact H.out.allocd _)).mono ?_
  rintro e w1 ⟨rfl, rfl⟩
  go_wp2_with fail
  exact bodyPost_ret (v := .agg #[.int .i64 q00, .int .i64 q10, .int .i64 q20]) (by simp [results, Tryz.results282, go_sem]) rfl ⟨rfl, Keeps.alloc _ _ _⟩

def probeV (r : Int × Int) : Ending := .returned (.tuple #[.int .i64 r.1, .int .i64 r.2])
theorem tab_probe (w : World) (b bb : Nat) (m : Mem) (t sel : Int) (h : RMem w b bb m) :
    Calls Tryz.prog 283 #[.pointer (some ⟨b, 0, none⟩), .int .i64 t, .int .i64 sel] w fun e w' => e = probeV (Tab.probe m t sel) ∧ Keeps (fun _ => False) w w' := by
  have H := Lib.hid h
  have hle := h.le
  clear h
  obtain ⟨hs0, hs1⟩ := Tab.slots_bd m t
  have hin := Tab.slots_in m t
  have hS := fun w H => tab_slots w b bb m t H
  have HD : Hid (Tab.probe m t sel = Tab.probeN m t sel (Tab.slots m t) (Tab.slots m t).toNat 0) := rfl
  generalize Tab.probe m t sel = r at HD ⊢
  generalize Tab.slots m t = n at hs0 hs1 hin hS HD
  have HS := Lib.hid hS
  have HI := Lib.hid hin
  clear hS hin
  go_enter Tryz.func283, Tryz.ntmps283
  go_wp2_with fail
  refine (HS.out _ H.out).mono ?_
  rintro e w1 ⟨rfl, rfl⟩
  go_wp2_with fail
  go_loopw [9] (fun v wr => ∃ i : Int, 0 ≤ i ∧ i ≤ n ∧ v = .int .i64 i ∧ RMem wr b bb m ∧ Keeps (fun _ => False) w wr ∧ r = Tab.probeN m t sel n (n - i).toNat i) (fun v _ => (n - intOf v).toNat)
  case atStart => exact ⟨0, Int.le_refl _, hs0, rfl, H.out, Keeps.refl _ _, by rw [HD.out, Int.sub_zero]⟩
  case round =>
    obtain ⟨i, hi0, hi1, rfl, hm, hw, hr⟩ := hrel
    have HM := Lib.hid hm
    have HR := Lib.hid hr
    have HW := Lib.hid hw
    clear hm hr hw HD
    by_cases hlt : i < n
    · have hn1 : 1 ≤ n := by omega
      obtain ⟨t0, t1, t2⟩ := HI.out (by omega)
      obtain ⟨hm0, hm1⟩ := Tab.home_bd sel n (by omega)
      have hh := fun w => tab_home w sel n hn1 (by omega)
      have hstep : Tab.probeN m t sel n (n - i).toNat i = if (Tab.read m t ((Tab.home sel n + i) % n)).sel = sel ∨ (Tab.read m t ((Tab.home sel n + i) % n)).sel = 0 then ((Tab.home sel n + i) % n, i + 1) else Tab.probeN m t sel n (n - (i + 1)).toNat (i + 1) := by
        rw [show (n - i).toNat = (n - (i + 1)).toNat + 1 by omega, Tab.probeN]
      generalize Tab.home sel n = h at hm0 hm1 hh hstep
      have HH := Lib.hid hh
      have k0 : 0 ≤ (h + i) % n := Int.emod_nonneg _ (by omega)
      have k1 : (h + i) % n < n := Int.emod_lt_of_pos _ (by omega)
      have hrd := fun w H => tab_read w b bb m t ((h + i) % n) H (by omega) (by omega) k0 (by omega)
      generalize hk : (h + i) % n = k at k0 k1 hrd hstep
      have HK := Lib.hid hk
      generalize Tab.read m t k = x at hrd hstep
      obtain ⟨x1, x2, x3⟩ := x
      have HX := Lib.hid hrd
      have HP := Lib.hid hstep
      clear hrd hstep hk hh
      go_wp2_with fail
      refine (HH.out _).mono ?_
      rintro e w1 ⟨rfl, rfl⟩
      go_wp2_with fail
      rw [HK.out]
      refine (HX.out _ HM.out).mono ?_
      rintro e w2 ⟨rfl, hk2⟩
      have HM2 := Lib.hid ((HM.out.keeps hk2 id id).allocd (.cells #[.int .i64 x1, .int .i64 x2, .int .i64 x3] 279))
      have HW2 := Lib.hid ((HW.out.trans hk2).trans (Keeps.alloc (fun _ => False) w2 (.cells #[.int .i64 x1, .int .i64 x2, .int .i64 x3] 279)))
      clear hk2
      unfold Ent.val
      by_cases hx1 : x1 = sel
      · have hx1' : (x1 == sel) = true := by simp [hx1]
        have hx1h := Lib.hid hx1
        clear hx1
        go_wp2_with fail
        go_ret2
        exact ⟨by rw [HR.out, HP.out, if_pos (.inl hx1h.out)]; rfl, HW2.out⟩
      · have hx1' : (x1 == sel) = false := by simp [hx1]
        by_cases hx2 : x1 = 0
        · have hx2' : (x1 == 0) = true := by simp [hx2]
          have hx2h := Lib.hid hx2
          clear hx2
          go_wp2_with fail
          go_ret2
          exact ⟨by rw [HR.out, HP.out, if_pos (.inr hx2h.out)]; rfl, HW2.out⟩
        · have hx2' : (x1 == 0) = false := by simp [hx2]
          go_wp2_with fail
          go_roundw
          case rel => exact ⟨i + 1, by omega, by omega, rfl, HM2.out, HW2.out, by rw [HR.out, HP.out, if_neg (by simp [hx1, hx2])]⟩
          case measure => simp [intOf]; omega
    · have hni : n ≤ i := by omega
      go_wp2_with fail
      go_ret2
      refine ⟨?_, HW.out⟩
      rw [HR.out, show (n - i).toNat = 0 by omega]
      rfl
end Go.Proofs.Shed
set_option linter.unusedVariables false
set_option linter.unusedSimpArgs false
set_option maxRecDepth 10000
set_option maxHeartbeats 1000000
namespace Go.Proofs.Shed
open Go Go.RowKit Go.Proofs.K

def getV (r : Ent × Int × Bool) : Ending := .returned (.tuple #[r.1.val, .int .i64 r.2.1, .bool r.2.2])
theorem tab_get (w : World) (b bb : Nat) (m : Mem) (t sel : Int) (h : RMem w b bb m) :
    Calls Tryz.prog 182 #[.pointer (some ⟨b, 0, none⟩), .int .i64 t, .int .i64 sel] w fun e w' => e = getV (Tab.get m t sel) ∧ Keeps (fun _ => False) w w' := by
  have H := Lib.hid h
  have hle := h.le
  clear h
  have hin := Tab.slots_in m t
  obtain ⟨hs0, hs1⟩ := Tab.slots_bd m t
  obtain ⟨hp0, hp1⟩ := Tab.probe_bd m t sel
  have hP := fun w H => tab_probe w b bb m t sel H
  have HD : Hid (Tab.get m t sel = if (Tab.probe m t sel).1 < 0 ∨ sel < 1 then (⟨0, 0, 0⟩, (Tab.probe m t sel).2, false) else if (Tab.read m t (Tab.probe m t sel).1).sel ≠ sel then (⟨0, 0, 0⟩, (Tab.probe m t sel).2, false) else (Tab.read m t (Tab.probe m t sel).1, (Tab.probe m t sel).2, true)) := rfl
  generalize Tab.get m t sel = r at HD ⊢
  generalize Tab.slots m t = n at hin hs0 hs1 hp1
  generalize Tab.probe m t sel = q at hp0 hp1 hP HD
  obtain ⟨i, c⟩ := q
  have HP := Lib.hid hP
  clear hP
  simp only at hp0 hp1 HD
  unfold probeV at HP
  by_cases h1 : i < 0 ∨ sel < 1
  · have hr := HD.out
    rw [if_pos h1] at hr
    subst hr
    clear HD hin
    have h1' : i < 0 ∨ (0 ≤ i ∧ sel < 1) := by omega
    clear h1 hp1
    rcases h1' with h1 | ⟨h1, h2⟩
    all_goals
      go_enter Tryz.func182, Tryz.ntmps182
      go_wp2_with fail
      refine (HP.out _ (by exact H.out.allocd _)).mono ?_
      rintro e w1 ⟨rfl, k1⟩
      have hB : w1.heap[w.heap.size]? = some (.cells #[.int .i64 0, .int .i64 0, .int .i64 0] 279 (0, 0)) := k1.heap (halloc_at _ _) id
      have c0 := cell_of (i := 0) hB rfl
      have c1 := cell_of (i := 1) hB rfl
      have c2 := cell_of (i := 2) hB rfl
      have f0 := free_of (i := 0) hB
      have f1 := free_of (i := 1) hB
      have f2 := free_of (i := 2) hB
      have hB2 := hset3 hB (.int .i64 0) (.int .i64 0) (.int .i64 0)
      have d0 := cell_of (i := 0) hB2 rfl
      have d1 := cell_of (i := 1) hB2 rfl
      have d2 := cell_of (i := 2) hB2 rfl
      have HK := Lib.hid (((((Keeps.alloc (fun _ => False) w _).trans k1).setNew ⟨w.heap.size, 0, none⟩ (.int .i64 0) (Nat.le_refl _)).setNew ⟨w.heap.size, 1, none⟩ (.int .i64 0) (Nat.le_refl _)).setNew ⟨w.heap.size, 2, none⟩ (.int .i64 0) (Nat.le_refl _))
      clear hB hB2 k1
      go_wp2_with fail
      exact bodyPost_ret (v := .tuple #[.agg #[.int .i64 0, .int .i64 0, .int .i64 0], .int .i64 c, .bool false]) (by simp [results, Tryz.results182, go_sem, d0, d1, d2]) rfl ⟨rfl, HK.out⟩
  · have h2 : 0 ≤ i := by omega
    have h3 : 1 ≤ sel := by omega
    have hr := HD.out
    rw [if_neg h1] at hr
    obtain ⟨t0, t1, t2⟩ := hin (by omega)
    have hrd := fun w H => tab_read w b bb m t i H (by omega) (by omega) h2 (by omega)
    generalize Tab.read m t i = x at hrd hr
    obtain ⟨x1, x2, x3⟩ := x
    have HX := Lib.hid hrd
    have HR := Lib.hid hr
    clear hrd hr HD hin h1 hp1
    go_enter Tryz.func182, Tryz.ntmps182
    go_wp2_with fail
    refine (HP.out _ (by exact H.out.allocd _)).mono ?_
    rintro e w1 ⟨rfl, k1⟩
    have M1 := Lib.hid ((H.out.allocd (.cells #[.int .i64 0, .int .i64 0, .int .i64 0] 279)).keeps k1 id id)
    have hB0 : w1.heap[w.heap.size]? = some (.cells #[.int .i64 0, .int .i64 0, .int .i64 0] 279 (0, 0)) := k1.heap (halloc_at _ _) id
    go_wp2_with fail
    refine (HX.out _ M1.out).mono ?_
    rintro e w2 ⟨rfl, k2⟩
    have M2 := Lib.hid ((M1.out.keeps k2 id id).allocd (.cells #[.int .i64 x1, .int .i64 x2, .int .i64 x3] 279))
    have hB : w2.heap[w.heap.size]? = some (.cells #[.int .i64 0, .int .i64 0, .int .i64 0] 279 (0, 0)) := k2.heap hB0 id
    have hlt : w.heap.size < w2.heap.size := lt_of_heap (k2.heap hB0 id)
    have HK0 := ((Keeps.alloc (fun _ => False) w (.cells #[.int .i64 0, .int .i64 0, .int .i64 0] 279)).trans k1).trans k2
    clear k1 k2 hB0
    unfold Ent.val
    have c0 := cell_of (i := 0) hB rfl
    have c1 := cell_of (i := 1) hB rfl
    have c2 := cell_of (i := 2) hB rfl
    have f0 := free_of (i := 0) hB
    have f1 := free_of (i := 1) hB
    have f2 := free_of (i := 2) hB
    by_cases hx : x1 = sel
    · have hx' : (x1 != sel) = false := by simp [hx]
      have hr := HR.out
      rw [if_neg (by simpa using hx)] at hr
      subst hr
      have hB2 := hset3 hB (.int .i64 x1) (.int .i64 x2) (.int .i64 x3)
      have d0 := cell_of (i := 0) hB2 rfl
      have d1 := cell_of (i := 1) hB2 rfl
      have d2 := cell_of (i := 2) hB2 rfl
      have HK := Lib.hid ((((HK0.setNew ⟨w.heap.size, 0, none⟩ (.int .i64 x1) (Nat.le_refl _)).setNew ⟨w.heap.size, 1, none⟩ (.int .i64 x2) (Nat.le_refl _)).setNew ⟨w.heap.size, 2, none⟩ (.int .i64 x3) (Nat.le_refl _)).trans (Keeps.alloc (fun _ => False) _ (.cells #[.int .i64 x1, .int .i64 x2, .int .i64 x3] 279)))
      clear hB hB2 HK0 hx
      go_wp2_with fail
      exact bodyPost_ret (v := .tuple #[.agg #[.int .i64 x1, .int .i64 x2, .int .i64 x3], .int .i64 c, .bool true]) (by simp [results, Tryz.results182, go_sem, d0, d1, d2, hlt]) rfl ⟨rfl, HK.out⟩
    · have hx' : (x1 != sel) = true := by simp [hx]
      have hr := HR.out
      rw [if_pos (by simpa using hx)] at hr
      subst hr
      have hB2 := hset3 hB (.int .i64 0) (.int .i64 0) (.int .i64 0)
      have d0 := cell_of (i := 0) hB2 rfl
      have d1 := cell_of (i := 1) hB2 rfl
      have d2 := cell_of (i := 2) hB2 rfl
      have HK := Lib.hid ((((HK0.setNew ⟨w.heap.size, 0, none⟩ (.int .i64 0) (Nat.le_refl _)).setNew ⟨w.heap.size, 1, none⟩ (.int .i64 0) (Nat.le_refl _)).setNew ⟨w.heap.size, 2, none⟩ (.int .i64 0) (Nat.le_refl _)).trans (Keeps.alloc (fun _ => False) _ (.cells #[.int .i64 x1, .int .i64 x2, .int .i64 x3] 279)))
      clear hB hB2 HK0 hx
      go_wp2_with fail
      exact bodyPost_ret (v := .tuple #[.agg #[.int .i64 0, .int .i64 0, .int .i64 0], .int .i64 c, .bool false]) (by simp [results, Tryz.results182, go_sem, d0, d1, d2, hlt]) rfl ⟨rfl, HK.out⟩

theorem tab_may (w : World) (b bb : Nat) (m : Mem) (t sel : Int) (h : RMem w b bb m) :
    Calls Tryz.prog 388 #[.pointer (some ⟨b, 0, none⟩), .int .i64 t, .int .i64 sel] w fun e w' => e = .returned (.bool (Tab.may m t sel)) ∧ Keeps (fun _ => False) w w' := by
  have H := Lib.hid h
  clear h
  have hP := fun w H => tab_probe w b bb m t sel H
  have HD : Hid (Tab.may m t sel = (decide (0 ≤ (Tab.probe m t sel).1) && decide (1 ≤ sel))) := rfl
  generalize Tab.may m t sel = r at HD ⊢
  generalize Tab.probe m t sel = q at hP HD
  obtain ⟨i, c⟩ := q
  have HP := Lib.hid hP
  clear hP
  simp only at HD
  unfold probeV at HP
  by_cases h1 : 0 ≤ i
  · have h1' : decide (0 ≤ i) = true := by simpa using h1
    go_enter Tryz.func388, Tryz.ntmps388
    go_wp2_with fail
    refine (HP.out _ H.out).mono ?_
    rintro e w1 ⟨rfl, k1⟩
    have K1 := Lib.hid k1
    clear k1
    go_wp2_with fail
    go_ret
    exact ⟨by rw [HD.out, h1', Bool.true_and]; rfl, K1.out⟩
  · have h1' : decide (0 ≤ i) = false := by simpa using h1
    have h1'' : i < 0 := by omega
    go_enter Tryz.func388, Tryz.ntmps388
    go_wp2_with fail
    refine (HP.out _ H.out).mono ?_
    rintro e w1 ⟨rfl, k1⟩
    have K1 := Lib.hid k1
    clear k1
    go_wp2_with fail
    go_ret
    exact ⟨by rw [HD.out, h1', Bool.false_and]; rfl, K1.out⟩

end Go.Proofs.Shed
set_option linter.unusedVariables false
set_option linter.unusedSimpArgs false
set_option maxRecDepth 10000
set_option maxHeartbeats 1000000
namespace Go.Proofs.Shed
open Go Go.RowKit Go.Proofs.K

theorem u64_wrap (n : Int) : u64 (wrap64 n) = u64 n := by unfold u64 wrap64; omega
theorem Mem.setCell_wrap (m : Mem) (a n : Int) : m.setCell a (wrap64 n) = m.setCell a n := by unfold Mem.setCell; rw [u64_wrap]

/-- The last of Put: three cells. -/
def Tab.put3 (m : Mem) (p : Int) (x : Ent) : Mem := ((((m.setCell p x.sel).1).setCell (p + 8) x.xt).1.setCell (p + 16) x.cls).1

theorem tab_put (w : World) (b bb : Nat) (m : Mem) (t : Int) (x : Ent) (h : RMem w b bb m) :
    Calls Tryz.prog 389 #[.pointer (some ⟨b, 0, none⟩), .int .i64 t, x.val] w (SetPost b bb (Tab.put m t x) w) := by
  have H := Lib.hid h
  have hle := h.le
  have hbl := h.lt
  clear h
  have hin := Tab.slots_in m t
  obtain ⟨hs0, hs1⟩ := Tab.slots_bd m t
  obtain ⟨hp0, hp1⟩ := Tab.probe_bd m t x.sel
  have hP := fun w H => tab_probe w b bb m t x.sel H
  have hS := fun w H => tab_slots w b bb m t H
  have HD : Hid (Tab.put m t x = if x.sel < 1 ∨ Tab.slots m t = 0 then (m, -256) else if (Tab.probe m t x.sel).1 < 0 then (m, -2051) else (Tab.put3 (Tab.bump m t (Tab.probe m t x.sel).1) (Tab.pos t (Tab.probe m t x.sel).1) x, 0)) := rfl
  generalize Tab.put m t x = r at HD ⊢
  generalize Tab.slots m t = n at hin hs0 hs1 hp1 hS HD
  generalize Tab.probe m t x.sel = q at hp0 hp1 hP HD
  obtain ⟨x1, x2, x3⟩ := x
  obtain ⟨i, c⟩ := q
  have HP := Lib.hid hP
  have HS := Lib.hid hS
  clear hP hS
  simp only at hp0 hp1 HD HP
  unfold probeV at HP
  unfold Ent.val
  by_cases h1 : x1 < 1
  · have hr := HD.out
    rw [if_pos (.inl h1)] at hr
    subst hr
    clear HD hin
    go_enter Tryz.func389, Tryz.ntmps389
    go_wp2_with fail
    refine (HP.out _ (by exact H.out.allocd _)).mono ?_
    rintro e w1 ⟨rfl, k1⟩
    have hB : w1.heap[w.heap.size]? = some (.cells #[.int .i64 x1, .int .i64 x2, .int .i64 x3] 279 (0, 0)) := k1.heap (halloc_at _ _) id
    have c0 := cell_of (i := 0) hB rfl
    have M1 := Lib.hid ((H.out.allocd (.cells #[.int .i64 x1, .int .i64 x2, .int .i64 x3] 279)).keeps k1 id id)
    have K1 := Lib.hid (((Keeps.alloc (fun _ => False) w (.cells #[.int .i64 x1, .int .i64 x2, .int .i64 x3] 279)).trans k1).mono (T := fun k => k = bb) (fun _ _ e => e.elim))
    clear hB k1
    go_wp2_with fail
    go_ret
    exact ⟨rfl, M1.out, K1.out⟩
  · have h1' : 1 ≤ x1 := by omega
    by_cases h2 : n = 0
    · have hr := HD.out
      rw [if_pos (.inr h2)] at hr
      subst hr
      subst h2
      clear HD hin
      go_enter Tryz.func389, Tryz.ntmps389
      go_wp2_with fail
      refine (HP.out _ (by exact H.out.allocd _)).mono ?_
      rintro e w1 ⟨rfl, k1⟩
      have hB : w1.heap[w.heap.size]? = some (.cells #[.int .i64 x1, .int .i64 x2, .int .i64 x3] 279 (0, 0)) := k1.heap (halloc_at _ _) id
      have c0 := cell_of (i := 0) hB rfl
      have M1 := Lib.hid ((H.out.allocd (.cells #[.int .i64 x1, .int .i64 x2, .int .i64 x3] 279)).keeps k1 id id)
      have K1 := Lib.hid (((Keeps.alloc (fun _ => False) w (.cells #[.int .i64 x1, .int .i64 x2, .int .i64 x3] 279)).trans k1).mono (T := fun k => k = bb) (fun _ _ e => e.elim))
      clear hB k1
      go_wp2_with fail
      refine (HS.out _ M1.out).mono ?_
      rintro e w2 ⟨rfl, rfl⟩
      go_wp2_with fail
      go_ret
      exact ⟨rfl, M1.out, K1.out⟩
    · have h2' : ((n : Int) == 0) = false := by simp [h2]
      by_cases h3 : i < 0
      · have hr := HD.out
        rw [if_neg (by omega), if_pos h3] at hr
        subst hr
        clear HD hin
        go_enter Tryz.func389, Tryz.ntmps389
        go_wp2_with fail
        refine (HP.out _ (by exact H.out.allocd _)).mono ?_
        rintro e w1 ⟨rfl, k1⟩
        have hB : w1.heap[w.heap.size]? = some (.cells #[.int .i64 x1, .int .i64 x2, .int .i64 x3] 279 (0, 0)) := k1.heap (halloc_at _ _) id
        have c0 := cell_of (i := 0) hB rfl
        have M1 := Lib.hid ((H.out.allocd (.cells #[.int .i64 x1, .int .i64 x2, .int .i64 x3] 279)).keeps k1 id id)
        have K1 := Lib.hid (((Keeps.alloc (fun _ => False) w (.cells #[.int .i64 x1, .int .i64 x2, .int .i64 x3] 279)).trans k1).mono (T := fun k => k = bb) (fun _ _ e => e.elim))
        clear hB k1
        go_wp2_with fail
        refine (HS.out _ M1.out).mono ?_
        rintro e w2 ⟨rfl, rfl⟩
        go_wp2_with fail
        go_ret
        exact ⟨rfl, M1.out, K1.out⟩
      · have h3' : 0 ≤ i := by omega
        have hr := HD.out
        rw [if_neg (by omega), if_neg h3] at hr
        obtain ⟨t0, t1, t2⟩ := hin (by omega)
        clear HD hin h1 h2 h3 hp0
        have hin2 : i < n := by omega
        clear hp1
        have hat := fun w => tab_at w t i (by omega) (by omega) h3' (by omega)
        have hrd := fun w H => tab_read w b bb m t i H (by omega) (by omega) h3' (by omega)
        have hpb : 0 ≤ Tab.pos t i ∧ Tab.pos t i + 24 ≤ m.size := by unfold Tab.pos; omega
        have hbump : Tab.bump m t i = if (Tab.read m t i).sel = 0 then (m.setCell (t + 8) ((m.cell (t + 8)).1 + 1)).1 else m := rfl
        generalize Tab.pos t i = p at hat hpb hr
        generalize Tab.bump m t i = m1 at hbump hr
        generalize Tab.read m t i = y at hrd hbump
        obtain ⟨y1, y2, y3⟩ := y
        obtain ⟨hpb1, hpb2⟩ := hpb
        have HA := Lib.hid hat
        have HX := Lib.hid hrd
        have HR := Lib.hid hr
        have HB := Lib.hid hbump
        have hfd : ∀ w, (Instr.field 279 (.agg #[.int .i64 y1, .int .i64 y2, .int .i64 y3]) 0).run Tryz.prog w = .ok (.int .i64 y1) w := fun w => by kernel_rfl
        clear hat hrd hr hbump
        go_enter Tryz.func389, Tryz.ntmps389
        go_wp2_with fail
        refine (HP.out _ (by exact H.out.allocd _)).mono ?_
        rintro e w1 ⟨rfl, k1⟩
        have hB : w1.heap[w.heap.size]? = some (.cells #[.int .i64 x1, .int .i64 x2, .int .i64 x3] 279 (0, 0)) := k1.heap (halloc_at _ _) id
        have c0 := cell_of (i := 0) hB rfl
        have M1 := Lib.hid ((H.out.allocd (.cells #[.int .i64 x1, .int .i64 x2, .int .i64 x3] 279)).keeps k1 id id)
        have K1 := Lib.hid (((Keeps.alloc (fun _ => False) w (.cells #[.int .i64 x1, .int .i64 x2, .int .i64 x3] 279)).trans k1).mono (T := fun k => k = bb) (fun _ _ e => e.elim))
        have HB1 := Lib.hid hB
        clear hB k1
        go_wp2_with fail
        refine (HS.out _ M1.out).mono ?_
        rintro e w2 ⟨rfl, rfl⟩
        go_wp2_with fail
        refine (HA.out _).mono ?_
        rintro e w2 ⟨rfl, rfl⟩
        go_wp2_with fail
        refine (HX.out _ M1.out).mono ?_
        rintro e w2 ⟨rfl, k2⟩
        have hB := k2.heap HB1.out id
        have M2 := Lib.hid (M1.out.keeps k2 id id)
        have K2 := Lib.hid (K1.out.trans (k2.mono (T := fun k => k = bb) (fun _ _ e => e.elim)))
        clear k2 c0
        unfold Ent.val
        by_cases hy : y1 = 0
        · have hy' : (y1 == 0) = true := by simp [hy]
          have hb := HB.out
          rw [if_pos hy] at hb
          have hc8 := Lib.hid (mem_cell w2 b bb m (t + 8) M2.out)
          have hcb := m.cell_bd (t + 8)
          generalize m.cell (t + 8) = q8 at hc8 hb hcb
          obtain ⟨v8, e8⟩ := q8
          have HBB := Lib.hid hb
          have HB2 := Lib.hid hB
          clear hb hy hB
          simp only at hcb
          go_wp2_with fail
          refine hc8.out.mono ?_
          rintro e w3 ⟨rfl, rfl⟩
          go_wp2_with fail
          refine (mem_setCell _ b bb m (t + 8) _ M2.out).mono ?_
          rintro e wz ⟨rfl, m3, k3⟩
          have hB := k3.heap HB2.out (fun e => by omega)
          have MZ : Hid (RMem wz b bb m1) := by
            rw [HBB.out]
            first
              | exact m3
              | (rw [Mem.setCell_wrap] at m3; exact m3)
          have KZ := Lib.hid (K2.out.trans k3)
          clear m3 k3
          have c0 := cell_of (i := 0) hB rfl
          have c1 := cell_of (i := 1) hB rfl
          have c2 := cell_of (i := 2) hB rfl
          have hlt : w.heap.size < wz.heap.size := lt_of_heap hB
          have hz : bb < wz.heap.size := MZ.out.lt.2
          clear hB
          go_wp2_with fail
          have d0 : (wz.alloc (.cells #[.int .i64 x1, .int .i64 x2, .int .i64 x3] 2)).heap[wz.heap.size]? = some (.cells #[.int .i64 x1, .int .i64 x2, .int .i64 x3] 2 (0, 0)) := halloc_at _ _
          have M3 := Lib.hid (MZ.out.allocd (.cells #[.int .i64 x1, .int .i64 x2, .int .i64 x3] 2))
          have K3 := Lib.hid (KZ.out.trans (Keeps.alloc _ _ (.cells #[.int .i64 x1, .int .i64 x2, .int .i64 x3] 2)))
          refine wp_loop_rounds 4 ?_
          rw [rounds_succ]
          go_wp2_with fail
          refine (mem_setCell _ b bb m1 p x1 M3.out).mono ?_
          rintro e w4 ⟨rfl, m4, k4⟩
          have d1 := k4.heap d0 (by omega)
          have g1 := cell_of (i := 1) d1 rfl
          have M4 := Lib.hid m4
          have K4 := Lib.hid (K3.out.trans k4)
          clear m4 k4 d0
          go_wp2_with fail
          rw [rounds_succ]
          go_wp2_with fail
          refine (mem_setCell _ b bb _ (p + 8) x2 M4.out).mono ?_
          rintro e w5 ⟨rfl, m5, k5⟩
          have d2 := k5.heap d1 (by omega)
          have g2 := cell_of (i := 2) d2 rfl
          have M5 := Lib.hid m5
          have K5 := Lib.hid (K4.out.trans k5)
          clear m5 k5 d1 g1
          go_wp2_with fail
          rw [rounds_succ]
          go_wp2_with fail
          refine (mem_setCell _ b bb _ (p + 16) x3 M5.out).mono ?_
          rintro e w6 ⟨rfl, m6, k6⟩
          have M6 := Lib.hid m6
          have K6 := Lib.hid (K5.out.trans k6)
          clear m6 k6 d2 g2
          go_wp2_with fail
          rw [rounds_succ]
          go_wp2_with fail
          go_ret
          rw [HR.out]
          exact ⟨rfl, M6.out, K6.out⟩
        · have hy' : (y1 == 0) = false := by simp [hy]
          have hb := HB.out
          rw [if_neg hy] at hb
          subst hb
          obtain ⟨wz, rfl⟩ : ∃ wz, wz = w2 := ⟨_, rfl⟩
          have MZ := M2
          have KZ := K2
          have c0 := cell_of (i := 0) hB rfl
          have c1 := cell_of (i := 1) hB rfl
          have c2 := cell_of (i := 2) hB rfl
          have hlt : w.heap.size < wz.heap.size := lt_of_heap hB
          have hz : bb < wz.heap.size := MZ.out.lt.2
          clear hB
          go_wp2_with fail
          have d0 : (wz.alloc (.cells #[.int .i64 x1, .int .i64 x2, .int .i64 x3] 2)).heap[wz.heap.size]? = some (.cells #[.int .i64 x1, .int .i64 x2, .int .i64 x3] 2 (0, 0)) := halloc_at _ _
          have M3 := Lib.hid (MZ.out.allocd (.cells #[.int .i64 x1, .int .i64 x2, .int .i64 x3] 2))
          have K3 := Lib.hid (KZ.out.trans (Keeps.alloc _ _ (.cells #[.int .i64 x1, .int .i64 x2, .int .i64 x3] 2)))
          refine wp_loop_rounds 4 ?_
          rw [rounds_succ]
          go_wp2_with fail
          refine (mem_setCell _ b bb m1 p x1 M3.out).mono ?_
          rintro e w4 ⟨rfl, m4, k4⟩
          have d1 := k4.heap d0 (by omega)
          have g1 := cell_of (i := 1) d1 rfl
          have M4 := Lib.hid m4
          have K4 := Lib.hid (K3.out.trans k4)
          clear m4 k4 d0
          go_wp2_with fail
          rw [rounds_succ]
          go_wp2_with fail
          refine (mem_setCell _ b bb _ (p + 8) x2 M4.out).mono ?_
          rintro e w5 ⟨rfl, m5, k5⟩
          have d2 := k5.heap d1 (by omega)
          have g2 := cell_of (i := 2) d2 rfl
          have M5 := Lib.hid m5
          have K5 := Lib.hid (K4.out.trans k5)
          clear m5 k5 d1 g1
          go_wp2_with fail
          rw [rounds_succ]
          go_wp2_with fail
          refine (mem_setCell _ b bb _ (p + 16) x3 M5.out).mono ?_
          rintro e w6 ⟨rfl, m6, k6⟩
          have M6 := Lib.hid m6
          have K6 := Lib.hid (K5.out.trans k6)
          clear m6 k6 d2 g2
          go_wp2_with fail
          rw [rounds_succ]
          go_wp2_with fail
          go_ret
          rw [HR.out]
          exact ⟨rfl, M6.out, K6.out⟩
end Go.Proofs.Shed
set_option linter.unusedVariables false
set_option linter.unusedSimpArgs false
set_option maxRecDepth 10000
set_option maxHeartbeats 1000000
namespace Go.Proofs.Shed
open Go Go.RowKit Go.Proofs.K

/-- What becomes of a world in whose space something was made: its place, the code. -/
def MkPost (s b bb : Nat) (r : Sp × Int × Int) (w : World) (e : Ending) (w' : World) : Prop :=
  e = .returned (.tuple #[.int .i64 r.2.1, .int .i64 r.2.2]) ∧ RSp w' s b bb r.1 ∧ Keeps (fun k => k = s ∨ k = bb) w w'

theorem tab_new_nil (w : World) (n : Int) : Calls Tryz.prog 422 #[.pointer none, .int .i64 n] w fun e w' => e = .returned (.tuple #[.int .i64 0, .int .i64 (-256)]) ∧ w = w' := by
  go_enter Tryz.func422, Tryz.ntmps422
  go_wp2
  go_ret2
  exact ⟨rfl, rfl⟩

theorem tab_new (w : World) (s b bb : Nat) (x : Sp) (n : Int) (h : RSp w s b bb x) :
    Calls Tryz.prog 422 #[.pointer (some ⟨s, 0, none⟩), .int .i64 n] w (MkPost s b bb (Tab.new x n) w) := by
  have H := Lib.hid h
  clear h
  have HD : Hid (Tab.new x n = if n < 1 ∨ 1024 < n then (x, 0, -256)
    else if x.align.2 ≠ 0 then ((x.align.1.back x.here).1, 0, x.align.2)
    else if (Tab.newN n (2 + n * 3).toNat 0 x.align.1).2 ≠ 0 then (((Tab.newN n (2 + n * 3).toNat 0 x.align.1).1.back x.here).1, 0, (Tab.newN n (2 + n * 3).toNat 0 x.align.1).2)
    else ((Tab.newN n (2 + n * 3).toNat 0 x.align.1).1, x.align.1.here, 0)) := rfl
  generalize Tab.new x n = r at HD ⊢
  by_cases h1 : n < 1 ∨ 1024 < n
  · have hr := HD.out
    rw [if_pos h1] at hr
    subst hr
    have h1' : n < 1 ∨ (1 ≤ n ∧ 1024 < n) := by omega
    clear HD h1
    rcases h1' with h1 | ⟨h1, h2⟩
    all_goals
      go_enter Tryz.func422, Tryz.ntmps422
      go_wp2_with fail
      go_ret2
      exact ⟨rfl, H.out, Keeps.refl _ _⟩
  · have hr := HD.out
    rw [if_neg h1] at hr
    have g1 : 1 ≤ n := by omega
    have g2 : n ≤ 1024 := by omega
    clear HD h1
    have hal := Lib.hid (sp_align w s b bb x H.out)
    have hbk := x.here
    generalize x.align = q at hal hr
    obtain ⟨y, e⟩ := q
    simp only at hr
    have HR := Lib.hid hr
    clear hr
    go_enter Tryz.func422, Tryz.ntmps422
    go_wp2_with fail
    refine (sp_here _ _ _ _ _ H.out).mono ?_
    rintro e w1 ⟨rfl, rfl⟩
    go_wp2_with fail
    refine hal.out.mono ?_
    rintro e0 w1 ⟨rfl, s1, k1⟩
    have S1 := Lib.hid s1
    have K1 := Lib.hid k1
    clear s1 k1
    go_wp2_with fail
    refine (sp_here _ _ _ _ _ S1.out).mono ?_
    rintro e0 w2 ⟨rfl, rfl⟩
    by_cases he : e = 0
    · have hr := HR.out
      rw [if_neg (by simp [he])] at hr
      have HR2 := Lib.hid hr
      clear hr HR
      subst he
      go_wp2_with fail
      go_loopw [7, 9] (fun ev iv wr => ∃ (i : Int) (z : Sp) (c : Int), 0 ≤ i ∧ i ≤ 2 + n * 3 ∧ iv = .int .i64 i ∧ ev = .int .i64 c ∧ RSp wr s b bb z ∧ Keeps (fun k => k = s ∨ k = bb) w wr ∧ (c = 0 → Tab.newN n (2 + n * 3).toNat 0 y = Tab.newN n (2 + n * 3 - i).toNat i z) ∧ (c ≠ 0 → Tab.newN n (2 + n * 3).toNat 0 y = (z, c)))
        (fun _ iv _ => (2 + n * 3 - intOf iv).toNat)
      case atStart => exact ⟨0, y, 0, Int.le_refl _, by omega, rfl, rfl, S1.out, K1.out, fun _ => by rw [Int.sub_zero], fun h => absurd rfl h⟩
      case round =>
        obtain ⟨i, z, c, hi0, hi1, rfl, rfl, hz, hk, hc0, hc1⟩ := hrel
        have HZ := Lib.hid hz
        have HK := Lib.hid hk
        have HC0 := Lib.hid hc0
        have HC1 := Lib.hid hc1
        clear hz hk hc0 hc1
        by_cases hc : c = 0
        · have hc' : (c == 0) = true := by simp [hc]
          have hc'' : (c != 0) = false := by simp [hc]
          have hn := HC0.out hc
          clear hc
          by_cases hlt : i < 2 + n * 3
          · have hst : Tab.newN n (2 + n * 3 - i).toNat i z = if (z.comma (if i = 0 then n else 0)).2 ≠ 0 then z.comma (if i = 0 then n else 0) else Tab.newN n (2 + n * 3 - (i + 1)).toNat (i + 1) (z.comma (if i = 0 then n else 0)).1 := by
              rw [show (2 + n * 3 - i).toNat = (2 + n * 3 - (i + 1)).toNat + 1 by omega, Tab.newN]
            have HST := Lib.hid (hn.trans hst)
            clear hn hst
            by_cases hi : i = 0
            · have hst := HST.out
              rw [if_pos hi] at hst
              have HS := Lib.hid hst
              have hi' : (i == 0) = true := by simp [hi]
              clear hst HST hi
              go_wp2_with fail
              refine (sp_comma _ _ _ _ _ _ HZ.out).mono ?_
              rintro e2 w2 ⟨rfl, g1, g2⟩
              have G1 := Lib.hid g1
              have G2 := Lib.hid (HK.out.trans g2)
              clear g1 g2
              go_wp2_with fail
              go_roundw
              case rel => exact ⟨i + 1, _, _, by omega, by omega, rfl, rfl, G1.out, G2.out, fun h => by rw [HS.out, if_neg (by simp [h])], fun h => by rw [HS.out, if_pos h]⟩
              case measure => simp [intOf]; omega
            · have hst := HST.out
              rw [if_neg hi] at hst
              have HS := Lib.hid hst
              have hi' : (i == 0) = false := by simp [hi]
              clear hst HST hi
              go_wp2_with fail
              refine (sp_comma _ _ _ _ _ _ HZ.out).mono ?_
              rintro e2 w2 ⟨rfl, g1, g2⟩
              have G1 := Lib.hid g1
              have G2 := Lib.hid (HK.out.trans g2)
              clear g1 g2
              go_wp2_with fail
              go_roundw
              case rel => exact ⟨i + 1, _, _, by omega, by omega, rfl, rfl, G1.out, G2.out, fun h => by rw [HS.out, if_neg (by simp [h])], fun h => by rw [HS.out, if_pos h]⟩
              case measure => simp [intOf]; omega
          · rw [show (2 + n * 3 - i).toNat = 0 by omega, Tab.newN] at hn
            have hr := HR2.out
            rw [hn, if_neg (by simp)] at hr
            have HE := Lib.hid hr
            have hge : 2 + n * 3 ≤ i := by omega
            clear hn hr
            go_wp2_with fail
            go_ret2
            exact ⟨by rw [HE.out]; rfl, by rw [HE.out]; exact HZ.out, HK.out⟩
        · have hc' : (c == 0) = false := by simp [hc]
          have hc'' : (c != 0) = true := by simp [hc]
          have hr := HR2.out
          rw [HC1.out hc, if_pos hc] at hr
          have HE := Lib.hid hr
          clear hr hc
          by_cases hlt : i < 2 + n * 3
          all_goals
            go_wp2_with fail
            refine (sp_back _ _ _ _ _ _ HZ.out).mono ?_
            rintro e2 w2 ⟨rfl, g1, g2⟩
            have G1 := Lib.hid g1
            have G2 := Lib.hid (HK.out.trans g2)
            clear g1 g2
            go_wp2_with fail
            go_ret2
            exact ⟨by rw [HE.out]; rfl, by rw [HE.out]; exact G1.out, G2.out⟩
    · have hr := HR.out
      rw [if_pos he] at hr
      have HE := Lib.hid hr
      have he' : (e == 0) = false := by simp [he]
      have he'' : (e != 0) = true := by simp [he]
      have hpos : (0 : Int) < 2 + n * 3 := by omega
      clear hr HR he
      go_wp2_with fail
      refine wp_loop_rounds 1 ?_
      rw [rounds_succ]
      go_wp2_with fail
      refine (sp_back _ _ _ _ _ _ S1.out).mono ?_
      rintro e2 w2 ⟨rfl, g1, g2⟩
      have G1 := Lib.hid g1
      have G2 := Lib.hid (K1.out.trans g2)
      clear g1 g2
      go_wp2_with fail
      go_ret2
      exact ⟨by rw [HE.out]; rfl, by rw [HE.out]; exact G1.out, G2.out⟩

theorem tab_copy_nil (w : World) (n : Int) : Calls Tryz.prog 423 #[.pointer none, .int .i64 n] w fun e w' => e = .returned (.tuple #[.int .i64 0, .int .i64 (-256)]) ∧ w = w' := by
  go_enter Tryz.func423, Tryz.ntmps423
  go_wp2
  go_ret2
  exact ⟨rfl, rfl⟩

theorem RSp.withMem' {w w' : World} {s b bb : Nat} {x : Sp} (h : RSp w s b bb x) {m : Mem} (hm : RMem w' b bb m) (hs : m.size = x.mem.size) (k : Keeps (fun j => j = bb) w w') : RSp w' s b bb ⟨m, x.lo, x.to, x.here⟩ := h.withMem hm hs k

theorem tab_copy (w : World) (s b bb : Nat) (x : Sp) (t : Int) (h : RSp w s b bb x) :
    Calls Tryz.prog 423 #[.pointer (some ⟨s, 0, none⟩), .int .i64 t] w (MkPost s b bb (Tab.copy x t) w) := by
  have H := Lib.hid h
  have h0 := h.c0
  clear h
  have hS := Lib.hid (tab_slots w b bb x.mem t H.out.mem)
  have hbd := Tab.slots_bd x.mem t
  have HD : Hid (Tab.copy x t = if (Tab.new x (Tab.slots x.mem t)).2.2 ≠ 0 then ((Tab.new x (Tab.slots x.mem t)).1, 0, (Tab.new x (Tab.slots x.mem t)).2.2)
    else ({ (Tab.new x (Tab.slots x.mem t)).1 with mem := ((Tab.new x (Tab.slots x.mem t)).1.mem.setText (Tab.new x (Tab.slots x.mem t)).2.1 ((Tab.new x (Tab.slots x.mem t)).1.mem.text t ((2 + Tab.slots x.mem t * 3) * 8)).1).1 },
      (Tab.new x (Tab.slots x.mem t)).2.1, ((Tab.new x (Tab.slots x.mem t)).1.mem.setText (Tab.new x (Tab.slots x.mem t)).2.1 ((Tab.new x (Tab.slots x.mem t)).1.mem.text t ((2 + Tab.slots x.mem t * 3) * 8)).1).2)) := rfl
  generalize Tab.copy x t = r at HD ⊢
  generalize Tab.slots x.mem t = n at hS hbd HD
  obtain ⟨n0, n1⟩ := hbd
  have hN := Lib.hid (tab_new w s b bb x n H.out)
  generalize Tab.new x n = q at hN HD
  obtain ⟨y, u, e⟩ := q
  simp only at HD
  unfold MkPost at hN
  simp only at hN
  go_enter Tryz.func423, Tryz.ntmps423
  go_wp2_with fail
  refine hS.out.mono ?_
  rintro e1 w1 ⟨rfl, rfl⟩
  go_wp2_with fail
  refine hN.out.mono ?_
  rintro e1 w1 ⟨rfl, s1, k1⟩
  have S1 := Lib.hid s1
  have K1 := Lib.hid k1
  have c0 := s1.c0
  have f0 := s1.f 0
  clear s1 k1 h0
  by_cases he : e = 0
  · have hr := HD.out
    rw [if_neg (by simpa using he)] at hr
    have he' : (e != 0) = false := by simp [he]
    have hT := Lib.hid (mem_text w1 b bb y.mem t ((2 + n * 3) * 8) S1.out.mem)
    have hlen : (y.mem.text t ((2 + n * 3) * 8)).1.length ≤ 9223372036854775807 := by
      unfold Mem.text
      split
      · rw [bytesN_len]; omega
      · simp
    generalize y.mem.text t ((2 + n * 3) * 8) = q at hT hr hlen
    obtain ⟨l, e2⟩ := q
    have HR := Lib.hid hr
    clear hr HD he
    unfold strV at hT
    simp only at hT
    go_wp2_with fail
    refine hT.out.mono ?_
    rintro e1 w2 ⟨rfl, rfl⟩
    go_wp2_with fail
    refine (mem_setText _ b bb y.mem u l S1.out.mem hlen).mono ?_
    rintro e1 w2 ⟨rfl, m2, k2⟩
    have S2 := Lib.hid (S1.out.withMem' m2 (Mem.setText_size _ _ _) k2)
    have K2 := Lib.hid (K1.out.trans (k2.mono (T := fun k => k = s ∨ k = bb) (fun _ _ e => .inr e)))
    clear m2 k2
    go_wp2_with fail
    go_ret2
    exact ⟨by rw [HR.out]; rfl, by rw [HR.out]; exact S2.out, K2.out⟩
  · have hr := HD.out
    rw [if_pos he] at hr
    have HR := Lib.hid hr
    have he' : (e != 0) = true := by simp [he]
    clear hr HD he
    go_wp2_with fail
    go_ret2
    exact ⟨by rw [HR.out]; rfl, by rw [HR.out]; exact S1.out, K1.out⟩
end Go.Proofs.Shed
