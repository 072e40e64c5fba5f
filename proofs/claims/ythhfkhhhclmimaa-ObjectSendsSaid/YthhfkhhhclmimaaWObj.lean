/- Layers 11 and 13: Grow; size, Class, Send. Conditions: the memory lies in two blocks. -/
import Derived.Test.YthhfkhhhclmimaaWCB
import Derived.Test.YthhfkhhhclmimaaWHeap
set_option linter.unusedVariables false
set_option linter.unusedSimpArgs false
set_option maxRecDepth 10000
set_option maxHeartbeats 4000000
namespace Go.Proofs.Shed
open Go Go.RowKit Go.Proofs.K

def GrowPost (b bb : Nat) (r : Mem × Int × Int) (w : World) (e : Ending) (w' : World) : Prop :=
  e = .returned (.tuple #[.int .i64 r.2.1, .int .i64 r.2.2]) ∧ RMem w' b bb r.1 ∧ Keeps (fun k => k = bb) w w'

theorem class_grow (w : World) (b bb : Nat) (m : Mem) (a n : Int) (h : RMem w b bb m) (ha0 : -4611686018427387904 ≤ a) (ha1 : a ≤ 4611686018427387904) :
    Calls Try.prog 37 #[.pointer (some ⟨b, 0, none⟩), .int .i64 a, .int .i64 n] w (GrowPost b bb (Class.grow m a n) w) := by
  have H := Lib.hid h
  clear h
  have HP := Lib.hid (class_read w b bb m a H.out (by omega) (by omega))
  have HD : Hid (Class.grow m a n = if (Class.read m a).2 = false then (m, 0, -2048)
  else if n < 0 ∨ 1048576 < n ∨ (Class.read m a).1.size < 0 ∨ 1048576 < (Class.read m a).1.size then (m, 0, -256)
  else ((m.setCell (a + 16) (((Class.read m a).1.size + n + 7) / 8 * 8)).1, (Class.read m a).1.size, 0)) := rfl
  generalize Class.grow m a n = r at HD ⊢
  generalize Class.read m a = q at HP HD
  obtain ⟨⟨xa, xp, xs, xt, xv⟩, ok⟩ := q
  have hr := HD.out
  simp only at hr
  unfold readV Cls.val at HP
  simp only at HP
  clear HD
  cases ok with
  | false =>
    rw [if_pos rfl] at hr
    have HR := Lib.hid hr
    clear hr
    go_enter Try.func37, Try.ntmps37
    go_wp2_with fail
    refine HP.out.mono ?_
    rintro e w1 ⟨rfl, k1⟩
    have K1 := Lib.hid k1
    clear k1
    go_wp2_with fail
    go_ret2
    rw [HR.out]
    exact ⟨rfl, (H.out.keeps K1.out id id).allocd _, (K1.out.mono (fun _ _ => False.elim)).trans (Keeps.alloc _ _ _)⟩
  | true =>
    rw [if_neg (by simp)] at hr
    by_cases hbad : n < 0 ∨ 1048576 < n ∨ xs < 0 ∨ 1048576 < xs
    · rw [if_pos hbad] at hr
      have HR := Lib.hid hr
      clear hr
      have hfin : ∀ w1, Keeps (fun _ => False) w w1 → ∀ o, GrowPost b bb r w (.returned (.tuple #[.int .i64 0, .int .i64 (-256)])) (w1.alloc o) := fun w1 k1 o => by
        rw [HR.out]
        exact ⟨rfl, (H.out.keeps k1 id id).allocd _, (k1.mono (fun _ _ => False.elim)).trans (Keeps.alloc _ _ _)⟩
      have HF := Lib.hid hfin
      clear hfin
      by_cases h1 : n < 0
      · have d1 : decide (n < 0) = true := decide_eq_true h1
        clear hbad
        go_enter Try.func37, Try.ntmps37
        go_wp2_with fail
        refine HP.out.mono ?_
        rintro e w1 ⟨rfl, k1⟩
        have K1 := Lib.hid k1
        clear k1
        go_wp2_with fail
        go_ret2
        exact HF.out _ K1.out _
      · have d1 : decide (n < 0) = false := decide_eq_false h1
        by_cases h2 : 1048576 < n
        · have d2 : decide (1048576 < n) = true := decide_eq_true h2
          clear hbad
          go_enter Try.func37, Try.ntmps37
          go_wp2_with fail
          refine HP.out.mono ?_
          rintro e w1 ⟨rfl, k1⟩
          have K1 := Lib.hid k1
          clear k1
          go_wp2_with fail
          go_ret2
          exact HF.out _ K1.out _
        · have d2 : decide (1048576 < n) = false := decide_eq_false h2
          by_cases h3 : xs < 0
          · have d3 : decide (xs < 0) = true := decide_eq_true h3
            clear hbad
            go_enter Try.func37, Try.ntmps37
            go_wp2_with fail
            refine HP.out.mono ?_
            rintro e w1 ⟨rfl, k1⟩
            have K1 := Lib.hid k1
            clear k1
            go_wp2_with fail
            go_ret2
            exact HF.out _ K1.out _
          · have d3 : decide (xs < 0) = false := decide_eq_false h3
            have d4 : decide (1048576 < xs) = true := decide_eq_true (by omega)
            clear hbad
            go_enter Try.func37, Try.ntmps37
            go_wp2_with fail
            refine HP.out.mono ?_
            rintro e w1 ⟨rfl, k1⟩
            have K1 := Lib.hid k1
            clear k1
            go_wp2_with fail
            go_ret2
            exact HF.out _ K1.out _
    · rw [if_neg hbad] at hr
      have d1 : decide (n < 0) = false := decide_eq_false (by omega)
      have d2 : decide (1048576 < n) = false := decide_eq_false (by omega)
      have d3 : decide (xs < 0) = false := decide_eq_false (by omega)
      have d4 : decide (1048576 < xs) = false := decide_eq_false (by omega)
      have e1 := andNot_7 (xs + n + 7) (by omega) (by omega)
      have e2 : xs + n + 7 - (xs + n + 7) % 8 = (xs + n + 7) / 8 * 8 := by omega
      rw [e2] at e1
      have e3 : xs + n + 8 - 1 = xs + n + 7 := by omega
      have x0 : 0 ≤ xs := by omega
      have n0 : 0 ≤ n := by omega
      have x1 : xs ≤ 1048576 := by omega
      have n1 : n ≤ 1048576 := by omega
      clear e2 hbad
      generalize (xs + n + 7) / 8 * 8 = z at e1 hr
      have HR := Lib.hid hr
      have hS := Lib.hid fun w H => mem_setCell w b bb m (a + 16) z H
      clear hr
      go_enter Try.func37, Try.ntmps37
      go_wp2_with fail
      refine HP.out.mono ?_
      rintro e w1 ⟨rfl, k1⟩
      have K1 := Lib.hid (k1.trans (Keeps.alloc (fun _ => False) w1 (.cells #[.int .i64 xa, .int .i64 xp, .int .i64 xs, .int .i64 xt, .int .i64 xv] 114)))
      have hbw := (H.out.keeps k1 id id).lt.2
      have D2 := cell_of (i := 2) (halloc_at w1 (.cells #[.int .i64 xa, .int .i64 xp, .int .i64 xs, .int .i64 xt, .int .i64 xv] 114)) rfl
      clear k1
      go_wp2_with fail
      refine (hS.out _ (H.out.keeps K1.out id id)).mono ?_
      rintro e w2 ⟨rfl, m2, k2⟩
      have M2 := Lib.hid m2
      have E2 := k2.cell D2 (show ¬ w1.heap.size = bb by omega)
      have K2 := Lib.hid ((K1.out.mono (fun _ _ => False.elim)).trans k2)
      clear m2 k2 D2
      go_wp2_with fail
      go_ret2
      rw [HR.out]
      exact ⟨rfl, M2.out, K2.out⟩
theorem obj_size (w : World) (b bb : Nat) (m : Mem) (a : Int) (h : RMem w b bb m) (ha0 : -9223372036854775808 ≤ a) (ha1 : a ≤ 9223372036854775807) :
    Calls Try.prog 71 #[.pointer (some ⟨b, 0, none⟩), .int .i64 a] w fun e w' => e = .returned (.tuple #[.int .i64 (Obj.size m a).1, .int .i64 (Obj.size m a).2]) ∧ Keeps (fun _ => False) w w' := by
  have H := Lib.hid h
  clear h
  have HP := Lib.hid (class_read w b bb m a H.out ha0 ha1)
  have HD : Hid (Obj.size m a = if (Class.read m a).2 = false then (0, -2048)
  else if (Class.read m a).1.size < 8 ∨ 1048576 < (Class.read m a).1.size then (0, -256)
  else ((Class.read m a).1.size, 0)) := rfl
  generalize Obj.size m a = r at HD ⊢
  generalize Class.read m a = q at HP HD
  obtain ⟨⟨xa, xp, xs, xt, xv⟩, ok⟩ := q
  have hr := HD.out
  simp only at hr
  unfold readV Cls.val at HP
  simp only at HP
  clear HD
  cases ok with
  | false =>
    rw [if_pos rfl] at hr
    subst hr
    go_enter Try.func71, Try.ntmps71
    go_wp2_with fail
    refine HP.out.mono ?_
    rintro e w1 ⟨rfl, k1⟩
    have K1 := Lib.hid k1
    clear k1
    go_wp2_with fail
    go_ret2
    exact ⟨rfl, K1.out.trans (Keeps.alloc _ _ _)⟩
  | true =>
    rw [if_neg (by simp)] at hr
    by_cases h1 : xs < 8
    · rw [if_pos (.inl h1)] at hr
      subst hr
      have d1 : decide (xs < 8) = true := decide_eq_true h1
      go_enter Try.func71, Try.ntmps71
      go_wp2_with fail
      refine HP.out.mono ?_
      rintro e w1 ⟨rfl, k1⟩
      have K1 := Lib.hid k1
      clear k1
      go_wp2_with fail
      go_ret2
      exact ⟨rfl, K1.out.trans (Keeps.alloc _ _ _)⟩
    · have d1 : decide (xs < 8) = false := decide_eq_false h1
      by_cases h2 : 1048576 < xs
      · rw [if_pos (.inr h2)] at hr
        subst hr
        have d2 : decide (1048576 < xs) = true := decide_eq_true h2
        go_enter Try.func71, Try.ntmps71
        go_wp2_with fail
        refine HP.out.mono ?_
        rintro e w1 ⟨rfl, k1⟩
        have K1 := Lib.hid k1
        clear k1
        go_wp2_with fail
        go_ret2
        exact ⟨rfl, K1.out.trans (Keeps.alloc _ _ _)⟩
      · rw [if_neg (by omega)] at hr
        subst hr
        have d2 : decide (1048576 < xs) = false := decide_eq_false h2
        go_enter Try.func71, Try.ntmps71
        go_wp2_with fail
        refine HP.out.mono ?_
        rintro e w1 ⟨rfl, k1⟩
        have K1 := Lib.hid k1
        clear k1
        go_wp2_with fail
        go_ret2
        exact ⟨rfl, K1.out.trans (Keeps.alloc _ _ _)⟩
theorem obj_class (w : World) (b bb : Nat) (m : Mem) (root a : Int) (h : RMem w b bb m) :
    Calls Try.prog 68 #[.pointer (some ⟨b, 0, none⟩), .int .i64 root, .int .i64 a] w fun e w' => e = .returned (.tuple #[.int .i64 (Obj.cls m root a).1, .int .i64 (Obj.cls m root a).2]) ∧ Keeps (fun _ => False) w w' := by
  have H := Lib.hid h
  clear h
  have HP := Lib.hid (mem_cell w b bb m a H.out)
  have HI := Lib.hid fun c => class_is w b bb m root c H.out
  have HD : Hid (Obj.cls m root a = if (m.cell a).2 ≠ 0 ∨ Class.is m root (m.cell a).1 = false then (0, -2048) else ((m.cell a).1, 0)) := rfl
  generalize Obj.cls m root a = r at HD ⊢
  generalize m.cell a = q at HP HD
  obtain ⟨c, e⟩ := q
  have hr := HD.out
  simp only at hr HP
  clear HD
  have hI := HI.out c
  generalize Class.is m root c = ok at hr hI
  have HI' := Lib.hid hI
  clear hI HI
  by_cases he : e = 0
  · subst he
    cases ok with
    | false =>
      rw [if_pos (.inr rfl)] at hr
      subst hr
      go_enter Try.func68, Try.ntmps68
      go_wp2_with fail
      refine HP.out.mono ?_
      rintro e w1 ⟨rfl, rfl⟩
      go_wp2_with fail
      refine HI'.out.mono ?_
      rintro e w1 ⟨rfl, k1⟩
      have K1 := Lib.hid k1
      clear k1
      go_wp2_with fail
      go_ret2
      exact ⟨rfl, K1.out⟩
    | true =>
      rw [if_neg (by simp)] at hr
      subst hr
      go_enter Try.func68, Try.ntmps68
      go_wp2_with fail
      refine HP.out.mono ?_
      rintro e w1 ⟨rfl, rfl⟩
      go_wp2_with fail
      refine HI'.out.mono ?_
      rintro e w1 ⟨rfl, k1⟩
      have K1 := Lib.hid k1
      clear k1
      go_wp2_with fail
      go_ret2
      exact ⟨rfl, K1.out⟩
  · rw [if_pos (.inl he)] at hr
    subst hr
    have he' : (e != 0) = true := by simp [he]
    clear he
    go_enter Try.func68, Try.ntmps68
    go_wp2_with fail
    refine HP.out.mono ?_
    rintro e w1 ⟨rfl, rfl⟩
    go_wp2_with fail
    go_ret2
    exact ⟨rfl, Keeps.refl _ _⟩
theorem Obj.cls_bd (m : Mem) (root a : Int) : -9223372036854775808 ≤ (Obj.cls m root a).1 ∧ (Obj.cls m root a).1 ≤ 9223372036854775807 := by
  have := m.cell_bd a
  unfold Obj.cls
  split
  · simp
  · exact this
theorem obj_send (w : World) (b bb : Nat) (m : Mem) (root a sel : Int) (h : RMem w b bb m) :
    Calls Try.prog 85 #[.pointer (some ⟨b, 0, none⟩), .int .i64 root, .int .i64 a, .int .i64 sel] w fun e w' => e = .returned (.tuple #[.int .i64 (Obj.send m root a sel).1, .int .i64 (Obj.send m root a sel).2.1, .int .i64 (Obj.send m root a sel).2.2]) ∧ Keeps (fun _ => False) w w' := by
  have H := Lib.hid h
  clear h
  have HP := Lib.hid (obj_class w b bb m root a H.out)
  have hbd := Obj.cls_bd m root a
  have HL := Lib.hid fun w H => class_lookup w b bb m (Obj.cls m root a).1 sel H hbd.1 hbd.2
  have HD : Hid (Obj.send m root a sel = if (Obj.cls m root a).2 ≠ 0 then (0, 0, (Obj.cls m root a).2)
  else if (Class.lookup m (Obj.cls m root a).1 sel).2.2 = false then (0, (Class.lookup m (Obj.cls m root a).1 sel).2.1, -2049)
  else ((Class.lookup m (Obj.cls m root a).1 sel).1.xt, (Class.lookup m (Obj.cls m root a).1 sel).2.1, 0)) := rfl
  clear hbd
  generalize Obj.send m root a sel = r at HD ⊢
  generalize Obj.cls m root a = q at HP HD HL
  obtain ⟨c, e⟩ := q
  have hr := HD.out
  simp only at hr HP HL
  clear HD
  generalize Class.lookup m c sel = y at hr HL
  obtain ⟨⟨es, ex, ec⟩, n, ok⟩ := y
  unfold getV Ent.val at HL
  simp only at hr HL
  by_cases he : e = 0
  · subst he
    rw [if_neg (by simp)] at hr
    cases ok with
    | false =>
      rw [if_pos rfl] at hr
      subst hr
      go_enter Try.func85, Try.ntmps85
      go_wp2_with fail
      refine HP.out.mono ?_
      rintro e w1 ⟨rfl, k1⟩
      have K1 := Lib.hid k1
      clear k1
      go_wp2_with fail
      refine (HL.out _ (H.out.keeps K1.out id id)).mono ?_
      rintro e w2 ⟨rfl, k2⟩
      have K2 := Lib.hid (K1.out.trans k2)
      clear k2
      go_wp2_with fail
      go_ret3
      exact ⟨rfl, K2.out.trans (Keeps.alloc _ _ _)⟩
    | true =>
      rw [if_neg (by simp)] at hr
      subst hr
      go_enter Try.func85, Try.ntmps85
      go_wp2_with fail
      refine HP.out.mono ?_
      rintro e w1 ⟨rfl, k1⟩
      have K1 := Lib.hid k1
      clear k1
      go_wp2_with fail
      refine (HL.out _ (H.out.keeps K1.out id id)).mono ?_
      rintro e w2 ⟨rfl, k2⟩
      have K2 := Lib.hid (K1.out.trans k2)
      clear k2
      go_wp2_with fail
      go_ret3
      exact ⟨rfl, K2.out.trans (Keeps.alloc _ _ _)⟩
  · rw [if_pos he] at hr
    subst hr
    have he' : (e != 0) = true := by simp [he]
    clear he
    go_enter Try.func85, Try.ntmps85
    go_wp2_with fail
    refine HP.out.mono ?_
    rintro e w1 ⟨rfl, k1⟩
    have K1 := Lib.hid k1
    clear k1
    go_wp2_with fail
    go_ret3
    exact ⟨rfl, K1.out⟩
end Go.Proofs.Shed
