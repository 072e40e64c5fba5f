/- Layer 10: Get, May, Put. Conditions: the memory lies in two blocks. -/
import Derived.Test.YthhfkhhhclmimaaWTable
set_option linter.unusedVariables false
set_option linter.unusedSimpArgs false
set_option maxRecDepth 10000
set_option maxHeartbeats 1000000
namespace Go.Proofs.Shed
open Go Go.RowKit Go.Proofs.K

def getV (r : Ent × Int × Bool) : Ending := .returned (.tuple #[r.1.val, .int .i64 r.2.1, .bool r.2.2])
theorem tab_get (w : World) (b bb : Nat) (m : Mem) (t sel : Int) (h : RMem w b bb m) :
    Calls Try.prog 91 #[.pointer (some ⟨b, 0, none⟩), .int .i64 t, .int .i64 sel] w fun e w' => e = getV (Tab.get m t sel) ∧ Keeps (fun _ => False) w w' := by
  have H := Lib.hid h
  have hle := h.le
  clear h
  have hin := Tab.slots_in m t
  obtain ⟨hs0, hs1⟩ := Tab.slots_bd m t
  obtain ⟨hp0, hp1⟩ := Tab.probe_bd m t sel
  have hP := fun w H => tab_probe w b bb m t sel H
  have HD : Hid (Tab.get m t sel = if (Tab.probe m t sel).1 < 0 ∨ sel < 1 then (⟨0, 0, 0⟩, (Tab.probe m t sel).2, false) else if (Tab.read m t (Tab.probe m t sel).1).sel ≠ sel then (⟨0, 0, 0⟩, (Tab.probe m t sel).2, false) else (Tab.read m t (Tab.probe m t sel).1, (Tab.probe m t sel).2, true)) := rfl
  generalize Tab.get m t sel = r at HD ⊢
  generalize Tab.slots m t = n at hin hs0 hs1 hp1
  generalize Tab.probe m t sel = q at hp0 hp1 hP HD
  obtain ⟨i, c⟩ := q
  have HP := Lib.hid hP
  clear hP
  simp only at hp0 hp1 HD
  unfold probeV at HP
  by_cases h1 : i < 0 ∨ sel < 1
  · have hr := HD.out
    rw [if_pos h1] at hr
    subst hr
    clear HD hin
    have h1' : i < 0 ∨ (0 ≤ i ∧ sel < 1) := by omega
    clear h1 hp1
    rcases h1' with h1 | ⟨h1, h2⟩
    all_goals
      go_enter Try.func91, Try.ntmps91
      go_wp2_with fail
      refine (HP.out _ (by exact H.out.allocd _)).mono ?_
      rintro e w1 ⟨rfl, k1⟩
      have hB : w1.heap[w.heap.size]? = some (.cells #[.int .i64 0, .int .i64 0, .int .i64 0] 118 (0, 0)) := k1.heap (halloc_at _ _) id
      have c0 := cell_of (i := 0) hB rfl
      have c1 := cell_of (i := 1) hB rfl
      have c2 := cell_of (i := 2) hB rfl
      have f0 := free_of (i := 0) hB
      have f1 := free_of (i := 1) hB
      have f2 := free_of (i := 2) hB
      have hB2 := hset3 hB (.int .i64 0) (.int .i64 0) (.int .i64 0)
      have d0 := cell_of (i := 0) hB2 rfl
      have d1 := cell_of (i := 1) hB2 rfl
      have d2 := cell_of (i := 2) hB2 rfl
      have HK := Lib.hid (((((Keeps.alloc (fun _ => False) w _).trans k1).setNew ⟨w.heap.size, 0, none⟩ (.int .i64 0) (Nat.le_refl _)).setNew ⟨w.heap.size, 1, none⟩ (.int .i64 0) (Nat.le_refl _)).setNew ⟨w.heap.size, 2, none⟩ (.int .i64 0) (Nat.le_refl _))
      clear hB hB2 k1
      go_wp2_with fail
      exact bodyPost_ret (v := .tuple #[.agg #[.int .i64 0, .int .i64 0, .int .i64 0], .int .i64 c, .bool false]) (by simp [results, Try.results91, go_sem, d0, d1, d2]) rfl ⟨rfl, HK.out⟩
  · have h2 : 0 ≤ i := by omega
    have h3 : 1 ≤ sel := by omega
    have hr := HD.out
    rw [if_neg h1] at hr
    obtain ⟨t0, t1, t2⟩ := hin (by omega)
    have hrd := fun w H => tab_read w b bb m t i H (by omega) (by omega) h2 (by omega)
    generalize Tab.read m t i = x at hrd hr
    obtain ⟨x1, x2, x3⟩ := x
    have HX := Lib.hid hrd
    have HR := Lib.hid hr
    clear hrd hr HD hin h1 hp1
    go_enter Try.func91, Try.ntmps91
    go_wp2_with fail
    refine (HP.out _ (by exact H.out.allocd _)).mono ?_
    rintro e w1 ⟨rfl, k1⟩
    have M1 := Lib.hid ((H.out.allocd (.cells #[.int .i64 0, .int .i64 0, .int .i64 0] 118)).keeps k1 id id)
    have hB0 : w1.heap[w.heap.size]? = some (.cells #[.int .i64 0, .int .i64 0, .int .i64 0] 118 (0, 0)) := k1.heap (halloc_at _ _) id
    go_wp2_with fail
    refine (HX.out _ M1.out).mono ?_
    rintro e w2 ⟨rfl, k2⟩
    have M2 := Lib.hid ((M1.out.keeps k2 id id).allocd (.cells #[.int .i64 x1, .int .i64 x2, .int .i64 x3] 118))
    have hB : w2.heap[w.heap.size]? = some (.cells #[.int .i64 0, .int .i64 0, .int .i64 0] 118 (0, 0)) := k2.heap hB0 id
    have hlt : w.heap.size < w2.heap.size := lt_of_heap (k2.heap hB0 id)
    have HK0 := ((Keeps.alloc (fun _ => False) w (.cells #[.int .i64 0, .int .i64 0, .int .i64 0] 118)).trans k1).trans k2
    clear k1 k2 hB0
    unfold Ent.val
    have c0 := cell_of (i := 0) hB rfl
    have c1 := cell_of (i := 1) hB rfl
    have c2 := cell_of (i := 2) hB rfl
    have f0 := free_of (i := 0) hB
    have f1 := free_of (i := 1) hB
    have f2 := free_of (i := 2) hB
    by_cases hx : x1 = sel
    · have hx' : (x1 != sel) = false := by simp [hx]
      have hr := HR.out
      rw [if_neg (by simpa using hx)] at hr
      subst hr
      have hB2 := hset3 hB (.int .i64 x1) (.int .i64 x2) (.int .i64 x3)
      have d0 := cell_of (i := 0) hB2 rfl
      have d1 := cell_of (i := 1) hB2 rfl
      have d2 := cell_of (i := 2) hB2 rfl
      have HK := Lib.hid ((((HK0.setNew ⟨w.heap.size, 0, none⟩ (.int .i64 x1) (Nat.le_refl _)).setNew ⟨w.heap.size, 1, none⟩ (.int .i64 x2) (Nat.le_refl _)).setNew ⟨w.heap.size, 2, none⟩ (.int .i64 x3) (Nat.le_refl _)).trans (Keeps.alloc (fun _ => False) _ (.cells #[.int .i64 x1, .int .i64 x2, .int .i64 x3] 118)))
      clear hB hB2 HK0 hx
      go_wp2_with fail
      exact bodyPost_ret (v := .tuple #[.agg #[.int .i64 x1, .int .i64 x2, .int .i64 x3], .int .i64 c, .bool true]) (by simp [results, Try.results91, go_sem, d0, d1, d2, hlt]) rfl ⟨rfl, HK.out⟩
    · have hx' : (x1 != sel) = true := by simp [hx]
      have hr := HR.out
      rw [if_pos (by simpa using hx)] at hr
      subst hr
      have hB2 := hset3 hB (.int .i64 0) (.int .i64 0) (.int .i64 0)
      have d0 := cell_of (i := 0) hB2 rfl
      have d1 := cell_of (i := 1) hB2 rfl
      have d2 := cell_of (i := 2) hB2 rfl
      have HK := Lib.hid ((((HK0.setNew ⟨w.heap.size, 0, none⟩ (.int .i64 0) (Nat.le_refl _)).setNew ⟨w.heap.size, 1, none⟩ (.int .i64 0) (Nat.le_refl _)).setNew ⟨w.heap.size, 2, none⟩ (.int .i64 0) (Nat.le_refl _)).trans (Keeps.alloc (fun _ => False) _ (.cells #[.int .i64 x1, .int .i64 x2, .int .i64 x3] 118)))
      clear hB hB2 HK0 hx
      go_wp2_with fail
      exact bodyPost_ret (v := .tuple #[.agg #[.int .i64 0, .int .i64 0, .int .i64 0], .int .i64 c, .bool false]) (by simp [results, Try.results91, go_sem, d0, d1, d2, hlt]) rfl ⟨rfl, HK.out⟩

theorem tab_may (w : World) (b bb : Nat) (m : Mem) (t sel : Int) (h : RMem w b bb m) :
    Calls Try.prog 58 #[.pointer (some ⟨b, 0, none⟩), .int .i64 t, .int .i64 sel] w fun e w' => e = .returned (.bool (Tab.may m t sel)) ∧ Keeps (fun _ => False) w w' := by
  have H := Lib.hid h
  clear h
  have hP := fun w H => tab_probe w b bb m t sel H
  have HD : Hid (Tab.may m t sel = (decide (0 ≤ (Tab.probe m t sel).1) && decide (1 ≤ sel))) := rfl
  generalize Tab.may m t sel = r at HD ⊢
  generalize Tab.probe m t sel = q at hP HD
  obtain ⟨i, c⟩ := q
  have HP := Lib.hid hP
  clear hP
  simp only at HD
  unfold probeV at HP
  by_cases h1 : 0 ≤ i
  · have h1' : decide (0 ≤ i) = true := by simpa using h1
    go_enter Try.func58, Try.ntmps58
    go_wp2_with fail
    refine (HP.out _ H.out).mono ?_
    rintro e w1 ⟨rfl, k1⟩
    have K1 := Lib.hid k1
    clear k1
    go_wp2_with fail
    go_ret
    exact ⟨by rw [HD.out, h1', Bool.true_and]; rfl, K1.out⟩
  · have h1' : decide (0 ≤ i) = false := by simpa using h1
    have h1'' : i < 0 := by omega
    go_enter Try.func58, Try.ntmps58
    go_wp2_with fail
    refine (HP.out _ H.out).mono ?_
    rintro e w1 ⟨rfl, k1⟩
    have K1 := Lib.hid k1
    clear k1
    go_wp2_with fail
    go_ret
    exact ⟨by rw [HD.out, h1', Bool.false_and]; rfl, K1.out⟩

end Go.Proofs.Shed
