/- Layer 10: the functions of package table that read. Conditions: the memory lies in two blocks. -/
import Derived.Test.YthhfkhhhclmimaaWSpaceC
import Derived.Test.YthhfkhhhclmimaaTableS
set_option linter.unusedVariables false
set_option linter.unusedSimpArgs false
set_option maxRecDepth 10000
namespace Go.Proofs.Shed
open Go Go.RowKit Go.Proofs.K

theorem RMem.allocd {w : World} {b bb : Nat} {m : Mem} (h : RMem w b bb m) (o : Obj) : RMem (w.alloc o) b bb m := h.keeps (Keeps.alloc (fun _ => False) w o) id id

theorem tab_slots (w : World) (b bb : Nat) (m : Mem) (t : Int) (h : RMem w b bb m) :
    Calls Try.prog 94 #[.pointer (some ⟨b, 0, none⟩), .int .i64 t] w fun e w' => e = .returned (.int .i64 (Tab.slots m t)) ∧ w = w' := by
  have H := Lib.hid h
  clear h
  have HD : Hid (Tab.slots m t = if (m.cell t).2 ≠ 0 ∨ (m.cell t).1 < 1 ∨ 1024 < (m.cell t).1 then 0 else if (m.text t ((2 + (m.cell t).1 * 3) * 8)).2 ≠ 0 then 0 else (m.cell t).1) := rfl
  have hc := Lib.hid (mem_cell w b bb m t H.out)
  generalize Tab.slots m t = r at HD ⊢
  generalize m.cell t = q at HD hc
  obtain ⟨n, e⟩ := q
  simp only at HD hc
  by_cases h1 : e = 0
  · subst h1
    by_cases h2 : n < 1
    · have hr : r = 0 := by rw [HD.out, if_pos (by omega)]
      subst hr
      clear HD
      go_enter Try.func94, Try.ntmps94
      go_wp2_with fail
      refine hc.out.mono ?_
      rintro e w1 ⟨rfl, rfl⟩
      go_wp2_with fail
      go_ret
      exact ⟨rfl, rfl⟩
    · by_cases h3 : 1024 < n
      · have hr : r = 0 := by rw [HD.out, if_pos (by omega)]
        subst hr
        clear HD
        have h2' : 1 ≤ n := by omega
        go_enter Try.func94, Try.ntmps94
        go_wp2_with fail
        refine hc.out.mono ?_
        rintro e w1 ⟨rfl, rfl⟩
        go_wp2_with fail
        go_ret
        exact ⟨rfl, rfl⟩
      · have hr : r = if (m.text t ((2 + n * 3) * 8)).2 ≠ 0 then 0 else n := by rw [HD.out, if_neg (by omega)]
        have HR := Lib.hid hr
        clear HD hr
        have h2' : 1 ≤ n := by omega
        have h3' : n ≤ 1024 := by omega
        have ht := Lib.hid (mem_text w b bb m t ((2 + n * 3) * 8) H.out)
        generalize m.text t ((2 + n * 3) * 8) = q at HR ht
        obtain ⟨s, e⟩ := q
        simp only at HR ht
        go_enter Try.func94, Try.ntmps94
        go_wp2_with fail
        refine hc.out.mono ?_
        rintro e w1 ⟨rfl, rfl⟩
        go_wp2_with fail
        refine ht.out.mono ?_
        rintro e w1 ⟨rfl, rfl⟩
        by_cases h4 : e = 0
        · have h4' : (e != 0) = false := by simp [h4]
          go_wp2_with fail
          go_ret
          exact ⟨ret_int (by rw [HR.out, if_neg (by simpa using h4)]), rfl⟩
        · have h4' : (e != 0) = true := by simp [h4]
          go_wp2_with fail
          go_ret
          exact ⟨ret_int (by rw [HR.out, if_pos h4]), rfl⟩
  · have hr : r = 0 := by rw [HD.out, if_pos (by omega)]
    subst hr
    clear HD
    have h1' : (e != 0) = true := by simp [h1]
    go_enter Try.func94, Try.ntmps94
    go_wp2_with fail
    refine hc.out.mono ?_
    rintro e w1 ⟨rfl, rfl⟩
    go_wp2_with fail
    go_ret
    exact ⟨rfl, rfl⟩

theorem tab_at (w : World) (t i : Int) (h0 : -4611686018427387904 ≤ t) (h1 : t ≤ 4611686018427387904) (h2 : 0 ≤ i) (h3 : i ≤ 4096) :
    Calls Try.prog 95 #[.int .i64 t, .int .i64 i] w fun e w' => e = .returned (.int .i64 (Tab.pos t i)) ∧ w = w' := by
  go_enter Try.func95, Try.ntmps95
  go_wp2
  go_ret
  exact ⟨rfl, rfl⟩

theorem tab_home (w : World) (sel n : Int) (h0 : 1 ≤ n) (h1 : n ≤ 4096) :
    Calls Try.prog 110 #[.int .i64 sel, .int .i64 n] w fun e w' => e = .returned (.int .i64 (Tab.home sel n)) ∧ w = w' := by
  go_enter Try.func110, Try.ntmps110
  go_wp2
  go_ret
  exact ⟨rfl, rfl⟩

def Ent.val (x : Ent) : Value := .agg #[.int .i64 x.sel, .int .i64 x.xt, .int .i64 x.cls]
theorem tab_read (w : World) (b bb : Nat) (m : Mem) (t i : Int) (h : RMem w b bb m) (h0 : -4611686018427387904 ≤ t) (h1 : t ≤ 4611686018427387904) (h2 : 0 ≤ i) (h3 : i ≤ 4096) :
    Calls Try.prog 96 #[.pointer (some ⟨b, 0, none⟩), .int .i64 t, .int .i64 i] w fun e w' => e = .returned (Tab.read m t i).val ∧ Keeps (fun _ => False) w w' := by
  have H := Lib.hid h
  clear h
  have hat := fun w => tab_at w t i h0 h1 h2 h3
  have hp : -4611686018427387904 ≤ Tab.pos t i ∧ Tab.pos t i ≤ 4611686018427487904 := by unfold Tab.pos; omega
  have HD : Hid (Tab.read m t i = ⟨(m.cell (Tab.pos t i)).1, (m.cell (Tab.pos t i + 8)).1, (m.cell (Tab.pos t i + 16)).1⟩) := rfl
  generalize Tab.read m t i = r at HD ⊢
  generalize Tab.pos t i = p at hp hat HD
  obtain ⟨hp1, hp2⟩ := hp
  have HA := Lib.hid hat
  have hc := Lib.hid fun w H => mem_cell w b bb m p H
  have hc1 := Lib.hid fun w H => mem_cell w b bb m (p + 8) H
  have hc2 := Lib.hid fun w H => mem_cell w b bb m (p + 16) H
  have hr := HD.out
  clear HD hat
  generalize m.cell p = q0 at hc hr
  generalize m.cell (p + 8) = q1 at hc1 hr
  generalize m.cell (p + 16) = q2 at hc2 hr
  obtain ⟨q00, q01⟩ := q0
  obtain ⟨q10, q11⟩ := q1
  obtain ⟨q20, q21⟩ := q2
  subst hr
  go_enter Try.func96, Try.ntmps96
  go_wp2_with fail
  refine (HA.out _).mono ?_
  rintro e w1 ⟨rfl, rfl⟩
  go_wp2_with fail
  refine (hc.out _ (by exact H.out.allocd _)).mono ?_
  rintro e w1 ⟨rfl, rfl⟩
  go_wp2_with fail
  refine (hc1.out _ (by exact H.out.allocd _)).mono ?_
  rintro e w1 ⟨rfl, rfl⟩
  go_wp2_with fail
  refine (hc2.out _ (by exact H.out.allocd _)).mono ?_
  rintro e w1 ⟨rfl, rfl⟩
  go_wp2_with fail
  exact bodyPost_ret (v := .agg #[.int .i64 q00, .int .i64 q10, .int .i64 q20]) (by simp [results, Try.results96, go_sem]) rfl ⟨rfl, Keeps.alloc _ _ _⟩

def probeV (r : Int × Int) : Ending := .returned (.tuple #[.int .i64 r.1, .int .i64 r.2])
theorem tab_probe (w : World) (b bb : Nat) (m : Mem) (t sel : Int) (h : RMem w b bb m) :
    Calls Try.prog 93 #[.pointer (some ⟨b, 0, none⟩), .int .i64 t, .int .i64 sel] w fun e w' => e = probeV (Tab.probe m t sel) ∧ Keeps (fun _ => False) w w' := by
  have H := Lib.hid h
  have hle := h.le
  clear h
  obtain ⟨hs0, hs1⟩ := Tab.slots_bd m t
  have hin := Tab.slots_in m t
  have hS := fun w H => tab_slots w b bb m t H
  have HD : Hid (Tab.probe m t sel = Tab.probeN m t sel (Tab.slots m t) (Tab.slots m t).toNat 0) := rfl
  generalize Tab.probe m t sel = r at HD ⊢
  generalize Tab.slots m t = n at hs0 hs1 hin hS HD
  have HS := Lib.hid hS
  have HI := Lib.hid hin
  clear hS hin
  go_enter Try.func93, Try.ntmps93
  go_wp2_with fail
  refine (HS.out _ H.out).mono ?_
  rintro e w1 ⟨rfl, rfl⟩
  go_wp2_with fail
  go_loopw [9] (fun v wr => ∃ i : Int, 0 ≤ i ∧ i ≤ n ∧ v = .int .i64 i ∧ RMem wr b bb m ∧ Keeps (fun _ => False) w wr ∧ r = Tab.probeN m t sel n (n - i).toNat i) (fun v _ => (n - intOf v).toNat)
  case atStart => exact ⟨0, Int.le_refl _, hs0, rfl, H.out, Keeps.refl _ _, by rw [HD.out, Int.sub_zero]⟩
  case round =>
    obtain ⟨i, hi0, hi1, rfl, hm, hw, hr⟩ := hrel
    have HM := Lib.hid hm
    have HR := Lib.hid hr
    have HW := Lib.hid hw
    clear hm hr hw HD
    by_cases hlt : i < n
    · have hn1 : 1 ≤ n := by omega
      obtain ⟨t0, t1, t2⟩ := HI.out (by omega)
      obtain ⟨hm0, hm1⟩ := Tab.home_bd sel n (by omega)
      have hh := fun w => tab_home w sel n hn1 (by omega)
      have hstep : Tab.probeN m t sel n (n - i).toNat i = if (Tab.read m t ((Tab.home sel n + i) % n)).sel = sel ∨ (Tab.read m t ((Tab.home sel n + i) % n)).sel = 0 then ((Tab.home sel n + i) % n, i + 1) else Tab.probeN m t sel n (n - (i + 1)).toNat (i + 1) := by
        rw [show (n - i).toNat = (n - (i + 1)).toNat + 1 by omega, Tab.probeN]
      generalize Tab.home sel n = h at hm0 hm1 hh hstep
      have HH := Lib.hid hh
      have k0 : 0 ≤ (h + i) % n := Int.emod_nonneg _ (by omega)
      have k1 : (h + i) % n < n := Int.emod_lt_of_pos _ (by omega)
      have hrd := fun w H => tab_read w b bb m t ((h + i) % n) H (by omega) (by omega) k0 (by omega)
      generalize hk : (h + i) % n = k at k0 k1 hrd hstep
      have HK := Lib.hid hk
      generalize Tab.read m t k = x at hrd hstep
      obtain ⟨x1, x2, x3⟩ := x
      have HX := Lib.hid hrd
      have HP := Lib.hid hstep
      clear hrd hstep hk hh
      go_wp2_with fail
      refine (HH.out _).mono ?_
      rintro e w1 ⟨rfl, rfl⟩
      go_wp2_with fail
      rw [HK.out]
      refine (HX.out _ HM.out).mono ?_
      rintro e w2 ⟨rfl, hk2⟩
      have HM2 := Lib.hid ((HM.out.keeps hk2 id id).allocd (.cells #[.int .i64 x1, .int .i64 x2, .int .i64 x3] 118))
      have HW2 := Lib.hid ((HW.out.trans hk2).trans (Keeps.alloc (fun _ => False) w2 (.cells #[.int .i64 x1, .int .i64 x2, .int .i64 x3] 118)))
      clear hk2
      unfold Ent.val
      by_cases hx1 : x1 = sel
      · have hx1' : (x1 == sel) = true := by simp [hx1]
        have hx1h := Lib.hid hx1
        clear hx1
        go_wp2_with fail
        go_ret2
        exact ⟨by rw [HR.out, HP.out, if_pos (.inl hx1h.out)]; rfl, HW2.out⟩
      · have hx1' : (x1 == sel) = false := by simp [hx1]
        by_cases hx2 : x1 = 0
        · have hx2' : (x1 == 0) = true := by simp [hx2]
          have hx2h := Lib.hid hx2
          clear hx2
          go_wp2_with fail
          go_ret2
          exact ⟨by rw [HR.out, HP.out, if_pos (.inr hx2h.out)]; rfl, HW2.out⟩
        · have hx2' : (x1 == 0) = false := by simp [hx2]
          go_wp2_with fail
          go_roundw
          case rel => exact ⟨i + 1, by omega, by omega, rfl, HM2.out, HW2.out, by rw [HR.out, HP.out, if_neg (by simp [hx1, hx2])]⟩
          case measure => simp [intOf]; omega
    · have hni : n ≤ i := by omega
      go_wp2_with fail
      go_ret2
      refine ⟨?_, HW.out⟩
      rw [HR.out, show (n - i).toNat = 0 by omega]
      rfl
end Go.Proofs.Shed
