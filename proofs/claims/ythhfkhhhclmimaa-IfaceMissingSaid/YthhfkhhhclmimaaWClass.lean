/- Layer 11: Root, Read. Conditions: the memory lies in two blocks. -/
import Derived.Test.YthhfkhhhclmimaaWTableD
import Derived.Test.YthhfkhhhclmimaaClassS
set_option linter.unusedVariables false
set_option linter.unusedSimpArgs false
set_option maxRecDepth 10000
set_option maxHeartbeats 1000000
namespace Go.Proofs.Shed
open Go Go.RowKit Go.Proofs.K

theorem class_root (w : World) (s b bb : Nat) (x : Sp) (h : RSp w s b bb x) :
    Calls Try.prog 49 #[.pointer (some ⟨s, 0, none⟩)] w (MkPost s b bb (Class.root x) w) := by
  have H := Lib.hid h
  clear h
  have HD : Hid (Class.root x = if x.align.2 ≠ 0 then (x.align.1, 0, x.align.2)
    else if (x.align.1.comma 0).2 ≠ 0 then ((x.align.1.comma 0).1, 0, (x.align.1.comma 0).2)
    else ((x.align.1.comma 0).1, x.align.1.here, 0)) := rfl
  generalize Class.root x = r at HD ⊢
  have hal := Lib.hid (sp_align w s b bb x H.out)
  generalize x.align = q at hal HD
  obtain ⟨y, e⟩ := q
  simp only at HD
  go_enter Try.func49, Try.ntmps49
  go_wp2_with fail
  refine hal.out.mono ?_
  rintro e0 w1 ⟨rfl, s1, k1⟩
  have S1 := Lib.hid s1
  have K1 := Lib.hid k1
  clear s1 k1
  by_cases he : e = 0
  · have hr := HD.out
    rw [if_neg (by simpa using he)] at hr
    have he' : (e != 0) = false := by simp [he]
    have hc := Lib.hid (sp_comma w1 s b bb y 0 S1.out)
    generalize y.comma 0 = q at hc hr
    obtain ⟨z, e2⟩ := q
    simp only at hr
    have HR := Lib.hid hr
    clear hr HD he
    go_wp2_with fail
    refine (sp_here _ _ _ _ _ S1.out).mono ?_
    rintro e0 w2 ⟨rfl, rfl⟩
    go_wp2_with fail
    refine hc.out.mono ?_
    rintro e0 w2 ⟨rfl, s2, k2⟩
    have S2 := Lib.hid s2
    have K2 := Lib.hid (K1.out.trans k2)
    clear s2 k2
    by_cases he2 : e2 = 0
    · have hr := HR.out
      rw [if_neg (by simpa using he2)] at hr
      have he2' : (e2 != 0) = false := by simp [he2]
      have HE := Lib.hid hr
      clear hr he2
      go_wp2_with fail
      go_ret2
      exact ⟨by rw [HE.out]; rfl, by rw [HE.out]; exact S2.out, K2.out⟩
    · have hr := HR.out
      rw [if_pos he2] at hr
      have he2' : (e2 != 0) = true := by simp [he2]
      have HE := Lib.hid hr
      clear hr he2
      go_wp2_with fail
      go_ret2
      exact ⟨by rw [HE.out]; rfl, by rw [HE.out]; exact S2.out, K2.out⟩
  · have hr := HD.out
    rw [if_pos he] at hr
    have he' : (e != 0) = true := by simp [he]
    have HE := Lib.hid hr
    clear hr he HD
    go_wp2_with fail
    go_ret2
    exact ⟨by rw [HE.out]; rfl, by rw [HE.out]; exact S1.out, K1.out⟩

def Cls.val (c : Cls) : Value := .agg #[.int .i64 c.at_, .int .i64 c.parent, .int .i64 c.size, .int .i64 c.table, .int .i64 c.prev]
def readV (r : Cls × Bool) : Ending := .returned (.tuple #[r.1.val, .bool r.2])

theorem class_read (w : World) (b bb : Nat) (m : Mem) (a : Int) (h : RMem w b bb m) (ha0 : -9223372036854775808 ≤ a) (ha1 : a ≤ 9223372036854775807) :
    Calls Try.prog 63 #[.pointer (some ⟨b, 0, none⟩), .int .i64 a] w fun e w' => e = readV (Class.read m a) ∧ Keeps (fun _ => False) w w' := by
  have H := Lib.hid h
  have hle := h.le
  clear h
  have HD : Hid (Class.read m a = if (m.cell a).2 ≠ 0 ∨ (m.cell (a + 8)).2 ≠ 0 ∨ (m.cell (a + 16)).2 ≠ 0 ∨ (m.cell (a + 24)).2 ≠ 0 ∨ (m.cell (a + 32)).2 ≠ 0 then (⟨0, 0, 0, 0, 0⟩, false)
    else (⟨a, (m.cell (a + 8)).1, (m.cell (a + 16)).1, (m.cell (a + 24)).1, (m.cell (a + 32)).1⟩, decide ((m.cell a).1 = 357694784579))) := rfl
  generalize Class.read m a = r at HD ⊢
  have hz : (m.cell a).2 = 0 → 0 ≤ a ∧ a ≤ 4194304 := by
    intro hz
    unfold Mem.cell at hz
    split at hz
    · rename_i h3
      rw [Mem.at_zero] at h3
      omega
    · rename_i h3; exact absurd hz h3
  have h0 := Lib.hid fun w H => mem_cell w b bb m a H
  have h1 := Lib.hid fun w H => mem_cell w b bb m (a + 8) H
  have h2 := Lib.hid fun w H => mem_cell w b bb m (a + 16) H
  have h3 := Lib.hid fun w H => mem_cell w b bb m (a + 24) H
  have h4 := Lib.hid fun w H => mem_cell w b bb m (a + 32) H
  generalize m.cell a = q0 at h0 HD hz
  generalize m.cell (a + 8) = q1 at h1 HD
  generalize m.cell (a + 16) = q2 at h2 HD
  generalize m.cell (a + 24) = q3 at h3 HD
  generalize m.cell (a + 32) = q4 at h4 HD
  obtain ⟨v0, e0⟩ := q0
  obtain ⟨v1, e1⟩ := q1
  obtain ⟨v2, e2⟩ := q2
  obtain ⟨v3, e3⟩ := q3
  obtain ⟨v4, e4⟩ := q4
  simp only at HD hz h0 h1 h2 h3 h4
  have HZ := Lib.hid hz
  clear hz
  go_enter Try.func63, Try.ntmps63
  go_wp2_with fail
  refine wp_loop_rounds 6 ?_
  rw [rounds_succ]
  go_wp2_with fail
  refine (h0.out _ (by exact (H.out.allocd _).allocd _)).mono ?_
  rintro e w1 ⟨rfl, rfl⟩
  by_cases c0 : e0 = 0
  · have c0' : (e0 != 0) = false := by simp [c0]
    have C0 := Lib.hid c0
    obtain ⟨z1, z2⟩ := HZ.out c0
    clear c0
    go_wp2_with fail
    rw [rounds_succ]
    go_wp2_with fail
    refine (h1.out _ (by exact (H.out.allocd _).allocd _)).mono ?_
    rintro e w1 ⟨rfl, rfl⟩
    by_cases c1 : e1 = 0
    · have c1' : (e1 != 0) = false := by simp [c1]
      have C1 := Lib.hid c1
      clear c1
      go_wp2_with fail
      rw [rounds_succ]
      go_wp2_with fail
      refine (h2.out _ (by exact (H.out.allocd _).allocd _)).mono ?_
      rintro e w1 ⟨rfl, rfl⟩
      by_cases c2 : e2 = 0
      · have c2' : (e2 != 0) = false := by simp [c2]
        have C2 := Lib.hid c2
        clear c2
        go_wp2_with fail
        rw [rounds_succ]
        go_wp2_with fail
        refine (h3.out _ (by exact (H.out.allocd _).allocd _)).mono ?_
        rintro e w1 ⟨rfl, rfl⟩
        by_cases c3 : e3 = 0
        · have c3' : (e3 != 0) = false := by simp [c3]
          have C3 := Lib.hid c3
          clear c3
          go_wp2_with fail
          rw [rounds_succ]
          go_wp2_with fail
          refine (h4.out _ (by exact (H.out.allocd _).allocd _)).mono ?_
          rintro e w1 ⟨rfl, rfl⟩
          by_cases c4 : e4 = 0
          · have c4' : (e4 != 0) = false := by simp [c4]
            have C4 := Lib.hid c4
            clear c4
            go_wp2_with fail
            rw [rounds_succ]
            go_wp2_with fail
            have A0 : ((w.alloc (.cells #[.int .i64 0, .int .i64 0, .int .i64 0, .int .i64 0, .int .i64 0] 114)).alloc (.cells #[.int .i64 v0, .int .i64 v1, .int .i64 v2, .int .i64 v3, .int .i64 v4] 171)).heap[w.heap.size]? = some (.cells #[.int .i64 0, .int .i64 0, .int .i64 0, .int .i64 0, .int .i64 0] 114 (0, 0)) := (halloc_old _ _ (by simp)).trans (halloc_at _ _)
            have B0 : ((w.alloc (.cells #[.int .i64 0, .int .i64 0, .int .i64 0, .int .i64 0, .int .i64 0] 114)).alloc (.cells #[.int .i64 v0, .int .i64 v1, .int .i64 v2, .int .i64 v3, .int .i64 v4] 171)).heap[w.heap.size + 1]? = some (.cells #[.int .i64 v0, .int .i64 v1, .int .i64 v2, .int .i64 v3, .int .i64 v4] 171 (0, 0)) := by
              have := halloc_at (w.alloc (.cells #[.int .i64 0, .int .i64 0, .int .i64 0, .int .i64 0, .int .i64 0] 114)) (.cells #[.int .i64 v0, .int .i64 v1, .int .i64 v2, .int .i64 v3, .int .i64 v4] 171)
              rw [World.size_alloc] at this
              exact this
            have KK := Lib.hid ((Keeps.alloc (fun _ => False) w (.cells #[.int .i64 0, .int .i64 0, .int .i64 0, .int .i64 0, .int .i64 0] 114)).trans (Keeps.alloc (fun _ => False) _ (.cells #[.int .i64 v0, .int .i64 v1, .int .i64 v2, .int .i64 v3, .int .i64 v4] 171)))
            generalize (w.alloc (.cells #[.int .i64 0, .int .i64 0, .int .i64 0, .int .i64 0, .int .i64 0] 114)).alloc (.cells #[.int .i64 v0, .int .i64 v1, .int .i64 v2, .int .i64 v3, .int .i64 v4] 171) = wv at A0 B0 KK ⊢
            have a0 := cell_of (i := 0) A0 rfl
            have a1 := cell_of (i := 1) A0 rfl
            have a2 := cell_of (i := 2) A0 rfl
            have a3 := cell_of (i := 3) A0 rfl
            have a4 := cell_of (i := 4) A0 rfl
            have fa := fun i => free_of (i := i) A0
            have fa0 := fa 0
            have fa1 := fa 1
            have fa2 := fa 2
            have fa3 := fa 3
            have fa4 := fa 4
            have d0 := cell_of (i := 0) B0 rfl
            have d1 := cell_of (i := 1) B0 rfl
            have d2 := cell_of (i := 2) B0 rfl
            have d3 := cell_of (i := 3) B0 rfl
            have d4 := cell_of (i := 4) B0 rfl
            have hB2 := hset_same (i := 4) (hset_same (i := 3) (hset_same (i := 2) (hset_same (i := 1) (hset_same (i := 0) A0 (.int .i64 a)) (.int .i64 v1)) (.int .i64 v2)) (.int .i64 v3)) (.int .i64 v4)
            have g0 := cell_of (i := 0) hB2 rfl
            have g1 := cell_of (i := 1) hB2 rfl
            have g2 := cell_of (i := 2) hB2 rfl
            have g3 := cell_of (i := 3) hB2 rfl
            have g4 := cell_of (i := 4) hB2 rfl
            have KE := Lib.hid (((((KK.out.setNew ⟨w.heap.size, 0, none⟩ (.int .i64 a) (Nat.le_refl _)).setNew ⟨w.heap.size, 1, none⟩ (.int .i64 v1) (Nat.le_refl _)).setNew ⟨w.heap.size, 2, none⟩ (.int .i64 v2) (Nat.le_refl _)).setNew ⟨w.heap.size, 3, none⟩ (.int .i64 v3) (Nat.le_refl _)).setNew ⟨w.heap.size, 4, none⟩ (.int .i64 v4) (Nat.le_refl _))
            clear fa A0 B0 hB2
            have HDD := HD
            clear HD h0 h1 h2 h3 h4 HZ c0' c1' c2' c3' c4'
            go_region
            go_wp2_with fail
            have HD := HDD
            have hr := HD.out
            rw [if_neg (by simp [C0.out, C1.out, C2.out, C3.out, C4.out])] at hr
            subst hr
            exact bodyPost_ret (v := .tuple #[.agg #[.int .i64 a, .int .i64 v1, .int .i64 v2, .int .i64 v3, .int .i64 v4], .bool (v0 == 357694784579)]) (by simp [results, Try.results63, go_sem, g0, g1, g2, g3, g4]) rfl ⟨rfl, KE.out.trans (Keeps.drew _ _)⟩
          · have c4' : (e4 != 0) = true := by simp [c4]
            have hr := HD.out
            rw [if_pos (by simp [c4])] at hr
            subst hr
            clear HD c4
            go_wp2_with fail
            exact bodyPost_ret (v := .tuple #[.agg #[.int .i64 0, .int .i64 0, .int .i64 0, .int .i64 0, .int .i64 0], .bool false]) (by simp [results, Try.results63, go_sem]) rfl ⟨rfl, (Keeps.alloc _ _ _).trans (Keeps.alloc _ _ _)⟩
        · have c3' : (e3 != 0) = true := by simp [c3]
          have hr := HD.out
          rw [if_pos (by simp [c3])] at hr
          subst hr
          clear HD c3
          go_wp2_with fail
          exact bodyPost_ret (v := .tuple #[.agg #[.int .i64 0, .int .i64 0, .int .i64 0, .int .i64 0, .int .i64 0], .bool false]) (by simp [results, Try.results63, go_sem]) rfl ⟨rfl, (Keeps.alloc _ _ _).trans (Keeps.alloc _ _ _)⟩
      · have c2' : (e2 != 0) = true := by simp [c2]
        have hr := HD.out
        rw [if_pos (by simp [c2])] at hr
        subst hr
        clear HD c2
        go_wp2_with fail
        exact bodyPost_ret (v := .tuple #[.agg #[.int .i64 0, .int .i64 0, .int .i64 0, .int .i64 0, .int .i64 0], .bool false]) (by simp [results, Try.results63, go_sem]) rfl ⟨rfl, (Keeps.alloc _ _ _).trans (Keeps.alloc _ _ _)⟩
    · have c1' : (e1 != 0) = true := by simp [c1]
      have hr := HD.out
      rw [if_pos (by simp [c1])] at hr
      subst hr
      clear HD c1
      go_wp2_with fail
      exact bodyPost_ret (v := .tuple #[.agg #[.int .i64 0, .int .i64 0, .int .i64 0, .int .i64 0, .int .i64 0], .bool false]) (by simp [results, Try.results63, go_sem]) rfl ⟨rfl, (Keeps.alloc _ _ _).trans (Keeps.alloc _ _ _)⟩
  · have c0' : (e0 != 0) = true := by simp [c0]
    have hr := HD.out
    rw [if_pos (by simp [c0])] at hr
    subst hr
    clear HD c0
    go_wp2_with fail
    exact bodyPost_ret (v := .tuple #[.agg #[.int .i64 0, .int .i64 0, .int .i64 0, .int .i64 0, .int .i64 0], .bool false]) (by simp [results, Try.results63, go_sem]) rfl ⟨rfl, (Keeps.alloc _ _ _).trans (Keeps.alloc _ _ _)⟩
end Go.Proofs.Shed
