/- Layer 8: List, and Create's steps. Conditions: the space lies in three blocks. Layer 8: read. Conditions: the memory lies in two blocks; the place is within 2^22. Layer 8: Words. Conditions: the memory lies in two blocks. Layer 8: Find. Conditions: the memory lies in two blocks; the lists in one of their own. -/
import Derived.Test.YthhfkhhhclmimaaGreatDoorMWS
import Derived.Test.YthhfkhhhclmimaaGreatDoorMWCA
import Derived.Test.YthhfkhhhclmimaaGreatDoorMPA
import Derived.Test.YthhfkhhhclmimaaGreatDoorMWIntern
import Derived.Test.YthhfkhhhclmimaaGreatDoorMDA
import Derived.Test.YthhfkhhhclmimaaGreatDoorMPB
import Derived.BigQuiet
set_option linter.unusedVariables false
set_option linter.unusedSimpArgs false
set_option maxRecDepth 10000
set_option maxHeartbeats 2000000
namespace Go.Proofs.Shed
open Go Go.RowKit Go.Proofs.K

theorem head_list (w : World) (s b bb : Nat) (x : Sp) (h : RSp w s b bb x) :
    Calls Tryz.prog 210 #[.pointer (some ⟨s, 0, none⟩)] w (MkPost s b bb (x.list) w) := by
  have H := Lib.hid h
  clear h
  have HD : Hid (x.list = if x.align.2 ≠ 0 then (x.align.1, 0, x.align.2)
    else if (x.align.1.comma 0).2 ≠ 0 then ((x.align.1.comma 0).1, 0, (x.align.1.comma 0).2)
    else ((x.align.1.comma 0).1, x.align.1.here, 0)) := rfl
  generalize x.list = r at HD ⊢
  have hal := Lib.hid (sp_align w s b bb x H.out)
  generalize x.align = q at hal HD
  obtain ⟨y, e⟩ := q
  simp only at HD
  go_enter Tryz.func210, Tryz.ntmps210
  go_wp2_with fail
  refine hal.out.mono ?_
  rintro e0 w1 ⟨rfl, s1, k1⟩
  have S1 := Lib.hid s1
  have K1 := Lib.hid k1
  clear s1 k1
  by_cases he : e = 0
  · have hr := HD.out
    rw [if_neg (by simpa using he)] at hr
    have he' : (e != 0) = false := by simp [he]
    have hc := Lib.hid (sp_comma w1 s b bb y 0 S1.out)
    generalize y.comma 0 = q at hc hr
    obtain ⟨z, e2⟩ := q
    simp only at hr
    have HR := Lib.hid hr
    clear hr HD he
    go_wp2_with fail
    refine (sp_here _ _ _ _ _ S1.out).mono ?_
    rintro e0 w2 ⟨rfl, rfl⟩
    go_wp2_with fail
    refine hc.out.mono ?_
    rintro e0 w2 ⟨rfl, s2, k2⟩
    have S2 := Lib.hid s2
    have K2 := Lib.hid (K1.out.trans k2)
    clear s2 k2
    by_cases he2 : e2 = 0
    · have hr := HR.out
      rw [if_neg (by simpa using he2)] at hr
      have he2' : (e2 != 0) = false := by simp [he2]
      have HE := Lib.hid hr
      clear hr he2
      go_wp2_with fail
      go_ret2
      exact ⟨by rw [HE.out]; rfl, by rw [HE.out]; exact S2.out, K2.out⟩
    · have hr := HR.out
      rw [if_pos he2] at hr
      have he2' : (e2 != 0) = true := by simp [he2]
      have HE := Lib.hid hr
      clear hr he2
      go_wp2_with fail
      go_ret2
      exact ⟨by rw [HE.out]; rfl, by rw [HE.out]; exact S2.out, K2.out⟩
  · have hr := HD.out
    rw [if_pos he] at hr
    have he' : (e != 0) = true := by simp [he]
    have HE := Lib.hid hr
    clear hr he HD
    go_wp2_with fail
    go_ret2
    exact ⟨by rw [HE.out]; rfl, by rw [HE.out]; exact S1.out, K1.out⟩

theorem head_cr1 (w : World) (s b bb : Nat) (x : Sp) (n : Int) (x0 x1 : Nat) (h : RSp w s b bb x) (c0 : w.cell? ⟨x0, 0, none⟩ = some (.pointer (some ⟨s, 0, none⟩))) (c1 : w.cell? ⟨x1, 0, none⟩ = some (.int .i64 n)) :
    Calls Tryz.prog 148 #[.pointer (some ⟨x0, 0, none⟩), .pointer (some ⟨x1, 0, none⟩)] w (SpPost s b bb (x.comma n) w) := by
  have H := Lib.hid (sp_comma w s b bb x n h)
  clear h
  go_enter Tryz.func148, Tryz.ntmps148
  go_wp2_with fail
  refine H.out.mono ?_
  rintro e w1 ⟨rfl, h1, k1⟩
  have H1 := Lib.hid h1
  have K1 := Lib.hid k1
  clear h1 k1
  go_wp2_with fail
  go_ret
  exact ⟨rfl, H1.out, K1.out⟩
theorem head_cr2 (w : World) (s b bb : Nat) (x : Sp) (name : List UInt8) (fl : Int) (x0 x1 x2 : Nat) (h : RSp w s b bb x) (c0 : w.cell? ⟨x0, 0, none⟩ = some (.pointer (some ⟨s, 0, none⟩))) (c1 : w.cell? ⟨x1, 0, none⟩ = some (.string ⟨name.toArray⟩))
    (c2 : w.cell? ⟨x2, 0, none⟩ = some (.int .i64 fl)) (hn : name.length ≤ 31) (f0 : 0 ≤ fl) (f1 : fl ≤ 255) :
    Calls Tryz.prog 149 #[.pointer (some ⟨x0, 0, none⟩), .pointer (some ⟨x1, 0, none⟩), .pointer (some ⟨x2, 0, none⟩)] w (SpPost s b bb (x.comma (name.length + fl * 256)) w) := by
  have H := Lib.hid (sp_comma w s b bb x (name.length + fl * 256) h)
  have hw1 : IntKind.i64.wrap (fl <<< 8) = fl * 256 := by
    rw [Int.shiftLeft_eq]
    exact IntWalk.i64_in _ (by omega)
  have hw2 : IntKind.i64.wrap ((name.length : Int) + fl * 256) = (name.length : Int) + fl * 256 := IntWalk.i64_in _ (by omega)
  clear h
  go_enter Tryz.func149, Tryz.ntmps149
  go_wp2_with fail
  refine H.out.mono ?_
  rintro e w1 ⟨rfl, h1, k1⟩
  have H1 := Lib.hid h1
  have K1 := Lib.hid k1
  clear h1 k1
  go_wp2_with fail
  go_ret
  exact ⟨rfl, H1.out, K1.out⟩
def WdCells (g : Nat) (a xt fl : Int) (name : List UInt8) (w : World) : Prop := w.heap[g]? = some (.cells #[.int .i64 a, .int .i64 xt, .int .i64 fl, .string ⟨name.toArray⟩] 53 (0, 0))
theorem head_cr3 (w : World) (s b bb : Nat) (x : Sp) (a xt fl : Int) (name : List UInt8) (x0 x1 : Nat) (h : RSp w s b bb x) (c0 : w.cell? ⟨x0, 0, none⟩ = some (.pointer (some ⟨s, 0, none⟩))) (c1 : WdCells x1 a xt fl name w) (hn : name.length ≤ 31) :
    Calls Tryz.prog 150 #[.pointer (some ⟨x0, 0, none⟩), .pointer (some ⟨x1, 0, none⟩)] w (SpPost s b bb (x.chars name) w) := by
  have H := Lib.hid (sp_chars w s b bb x name (by omega) h)
  have c3 := cell_of (i := 3) c1 rfl
  clear h c1
  go_enter Tryz.func150, Tryz.ntmps150
  go_wp2_with fail
  refine H.out.mono ?_
  rintro e w1 ⟨rfl, h1, k1⟩
  have H1 := Lib.hid h1
  have K1 := Lib.hid k1
  clear h1 k1
  go_wp2_with fail
  go_ret
  exact ⟨rfl, H1.out, K1.out⟩
theorem head_cr4 (w : World) (s b bb : Nat) (x : Sp) (a xt fl n : Int) (name : List UInt8) (x0 x1 x2 : Nat) (h : RSp w s b bb x) (c0 : w.cell? ⟨x0, 0, none⟩ = some (.pointer (some ⟨s, 0, none⟩))) (c1 : WdCells x1 a xt fl name w)
    (c2 : w.cell? ⟨x2, 0, none⟩ = some (.int .i64 n)) (n1 : x1 ≠ s) (n2 : x1 ≠ b) (n3 : x1 ≠ bb) (n4 : x1 ≠ x0) (n5 : x1 ≠ x2) :
    Calls Tryz.prog 152 #[.pointer (some ⟨x0, 0, none⟩), .pointer (some ⟨x1, 0, none⟩), .pointer (some ⟨x2, 0, none⟩)] w fun e w' => e = .returned (.int .i64 (x.comma n).2) ∧ RSp w' s b bb (x.comma n).1 ∧ WdCells x1 a x.here fl name w' ∧ Keeps (fun k => k = s ∨ k = bb ∨ k = x1) w w' := by
  have HH := Lib.hid (sp_here w s b bb x h)
  have F1 := free_of (i := 1) c1
  have C1 := cell_of (i := 1) c1 rfl
  have k0 : Keeps (fun k => k = x1) w (w.setCell ⟨x1, 1, none⟩ (.int .i64 x.here)) := Keeps.setCell _ _ _ (fun _ => rfl)
  have H := Lib.hid (sp_comma (w.setCell ⟨x1, 1, none⟩ (.int .i64 x.here)) s b bb x n (h.keeps k0 (fun e => n1 e.symm) (fun e => n2 e.symm) (fun e => n3 e.symm)))
  have c0' := k0.cell c0 (fun e => n4 e.symm)
  have c2' := k0.cell c2 (fun e => n5 e.symm)
  have c1' := Lib.hid (show WdCells x1 a x.here fl name (w.setCell ⟨x1, 1, none⟩ (.int .i64 x.here)) from hset_same c1 _)
  have K0 := Lib.hid k0
  have N1 := Lib.hid n1
  have N3 := Lib.hid n3
  clear h k0 c1 n1 n2 n3 n4 n5
  go_enter Tryz.func152, Tryz.ntmps152
  go_wp2_with fail
  refine HH.out.mono ?_
  rintro e w1 ⟨rfl, rfl⟩
  go_wp2_with fail
  refine H.out.mono ?_
  rintro e w1 ⟨rfl, h1, k1⟩
  have H1 := Lib.hid h1
  have K1 := Lib.hid k1
  clear h1 k1
  go_wp2_with fail
  go_ret
  refine ⟨rfl, H1.out, K1.out.heap c1'.out (fun e => by rcases e with e | e; exact N1.out e; exact N3.out e), (K0.out.mono (fun _ _ e => .inr (.inr e))).trans (K1.out.mono (fun _ _ e => by rcases e with e | e; exact .inl e; exact .inr (.inl e)))⟩
theorem head_cr5 (w : World) (s b bb : Nat) (x : Sp) (a xt fl l : Int) (name : List UInt8) (x0 x1 x2 : Nat) (h : RSp w s b bb x) (c0 : w.cell? ⟨x0, 0, none⟩ = some (.pointer (some ⟨s, 0, none⟩))) (c2 : WdCells x2 a xt fl name w)
    (c1 : w.cell? ⟨x1, 0, none⟩ = some (.int .i64 l)) :
    Calls Tryz.prog 153 #[.pointer (some ⟨x0, 0, none⟩), .pointer (some ⟨x1, 0, none⟩), .pointer (some ⟨x2, 0, none⟩)] w (SpPost s b bb (x.setCellAt l a) w) := by
  have H := Lib.hid h
  have h0 := h.c0
  have c2' := cell_of (i := 0) c2 rfl
  have HS := Lib.hid (mem_setCell w.drew b bb x.mem l a h.mem.drew)
  clear h c2
  go_enter Tryz.func153, Tryz.ntmps153
  go_wp2_with fail
  go_still_tail 7, (by kernel_rfl)
  change wpList _ _ _ _ _ w.drew
  go_wp2_with fail
  refine HS.out.mono ?_
  rintro e w1 hp
  obtain ⟨rfl, h1, h2⟩ := hp.drew
  have HX := Lib.hid (H.out.withMem h1 (Mem.setCell_size _ _ _) h2)
  have HK := Lib.hid h2
  clear h1 h2 hp
  go_wp2_with fail
  go_ret
  exact ⟨rfl, HX.out, HK.out.mono (fun _ _ e => .inr e)⟩
end Go.Proofs.Shed
set_option linter.unusedVariables false
set_option linter.unusedSimpArgs false
set_option maxRecDepth 10000
set_option maxHeartbeats 4000000
namespace Go.Proofs.Shed
open Go Go.RowKit Go.Proofs.K

def Wd.val (d : Wd) : Value := .agg #[.int .i64 d.at_, .int .i64 d.xt, .int .i64 d.flags, .string ⟨d.name.toArray⟩]
def readWdV : Option (Wd × Int) → Value
  | none => .tuple #[Wd.none.val, .int .i64 0, .bool false]
  | some (d, l) => .tuple #[d.val, .int .i64 l, .bool true]
theorem set4 {w : World} {g : Nat} {a0 a1 a2 a3 : Value} {t : TypeId} (h : w.heap[g]? = some (.cells #[a0, a1, a2, a3] t (0, 0))) (b0 b1 b2 b3 : Value) :
    ((((w.setCell ⟨g, 0, none⟩ b0).setCell ⟨g, 1, none⟩ b1).setCell ⟨g, 2, none⟩ b2).setCell ⟨g, 3, none⟩ b3).heap[g]? = some (.cells #[b0, b1, b2, b3] t (0, 0)) :=
  hset_same (i := 3) (hset_same (i := 2) (hset_same (i := 1) (hset_same (i := 0) h b0) b1) b2) b3
theorem keeps_set4 {S : Nat → Prop} {w0 w : World} (k : Keeps S w0 w) (g : Nat) (b0 b1 b2 b3 : Value) (hg : w0.heap.size ≤ g) : Keeps S w0 ((((w.setCell ⟨g, 0, none⟩ b0).setCell ⟨g, 1, none⟩ b1).setCell ⟨g, 2, none⟩ b2).setCell ⟨g, 3, none⟩ b3) :=
  (((k.setNew ⟨g, 0, none⟩ b0 hg).setNew ⟨g, 1, none⟩ b1 hg).setNew ⟨g, 2, none⟩ b2 hg).setNew ⟨g, 3, none⟩ b3 hg
theorem head_read (w : World) (b bb : Nat) (m : Mem) (a : Int) (h : RMem w b bb m) (a0 : 0 ≤ a) (a1 : a ≤ 4194304) :
    Calls Tryz.prog 89 #[.pointer (some ⟨b, 0, none⟩), .int .i64 a] w fun e w' => e = .returned (readWdV (m.readWd a)) ∧ Keeps (fun _ => False) w w' := by
  have HD : Hid (m.readWd a = (if (m.cell a).2 ≠ 0 ∨ (m.cell (a + 8)).2 ≠ 0 ∨ 31 < (m.cell (a + 8)).1 % 256 ∨ (m.cell (a + 8)).1 < 0 then none
    else if (m.cell (a + 16 + Mem.pad8 ((m.cell (a + 8)).1 % 256))).2 ≠ 0 ∨ (m.text (a + 16) ((m.cell (a + 8)).1 % 256)).2 ≠ 0 then none
    else some (⟨a, a + 16 + Mem.pad8 ((m.cell (a + 8)).1 % 256), (m.cell (a + 8)).1 / 256, (m.text (a + 16) ((m.cell (a + 8)).1 % 256)).1⟩, (m.cell a).1))) := rfl
  generalize m.readWd a = r at HD ⊢
  have HA := Lib.hid (h.allocd (.cells #[.int .i64 0, .int .i64 0, .int .i64 0, .string ⟨#[]⟩] 53))
  have HC0 := Lib.hid (mem_cell _ b bb m a HA.out)
  have HC1 := Lib.hid (mem_cell _ b bb m (a + 8) HA.out)
  generalize m.cell a = q0 at HC0 HD
  obtain ⟨v0, e0⟩ := q0
  generalize m.cell (a + 8) = q1 at HC1 HD
  obtain ⟨v1, e1⟩ := q1
  simp only at HD HC0 HC1
  have HT := Lib.hid (mem_text _ b bb m (a + 16) (v1 % 256) HA.out)
  have HC2 := Lib.hid (mem_cell _ b bb m (a + 16 + Mem.pad8 (v1 % 256)) HA.out)
  generalize m.text (a + 16) (v1 % 256) = q2 at HT HD
  obtain ⟨v2, e2⟩ := q2
  have hp : Mem.pad8 (v1 % 256) = (v1 % 256 + 7) - (v1 % 256 + 7) % 8 := by unfold Mem.pad8; omega
  have HP := Lib.hid hp
  generalize Mem.pad8 (v1 % 256) = pd at HC2 HD HP hp
  generalize m.cell (a + 16 + pd) = q3 at HC2 HD
  obtain ⟨v3, e3⟩ := q3
  simp only at HD HT HC2
  have KA := Lib.hid (Keeps.alloc (fun _ => False) w (.cells #[.int .i64 0, .int .i64 0, .int .i64 0, .string ⟨#[]⟩] 53))
  have A0 := Lib.hid (halloc_at w (.cells #[.int .i64 0, .int .i64 0, .int .i64 0, .string ⟨#[]⟩] 53))
  generalize hWA : w.alloc (.cells #[.int .i64 0, .int .i64 0, .int .i64 0, .string ⟨#[]⟩] 53) = wa at HC0 HC1 HT HC2 KA A0 HA
  have hand := and_255 v1
  have hw8 : IntKind.i64.wrap (a + 8) = a + 8 := IntWalk.i64_in _ (by omega)
  have hw16 : IntKind.i64.wrap (a + 16) = a + 16 := IntWalk.i64_in _ (by omega)
  have hn0 : 0 ≤ v1 % 256 := by omega
  have hn1 : v1 % 256 ≤ 255 := by omega
  have hn7 := andNot_7 (v1 % 256 + 7) (by omega) (by omega)
  rw [← HP.out, show v1 % 256 + 7 = v1 % 256 + 8 - 1 by omega] at hn7
  have hpb : 0 ≤ pd ∧ pd ≤ 262 := by omega
  obtain ⟨hp0, hp1⟩ := hpb
  have hww : IntKind.i64.wrap (a + 16 + pd) = a + 16 + pd := IntWalk.i64_in _ (by omega)
  clear h hp
  generalize v1 % 256 = n at *
  go_enter Tryz.func89, Tryz.ntmps89
  go_wp2_with fail
  clear hWA
  refine HC0.out.mono ?_
  rintro e w1 ⟨rfl, rfl⟩
  go_wp2_with fail
  refine HC1.out.mono ?_
  rintro e w1 ⟨rfl, rfl⟩
  have a0 : wa.cell? ⟨w.heap.size, 0, none⟩ = some (.int .i64 0) := cell_of A0.out rfl
  have a1 : wa.cell? ⟨w.heap.size, 1, none⟩ = some (.int .i64 0) := cell_of A0.out rfl
  have a2 : wa.cell? ⟨w.heap.size, 2, none⟩ = some (.int .i64 0) := cell_of A0.out rfl
  have a3 : wa.cell? ⟨w.heap.size, 3, none⟩ = some (.string ⟨#[]⟩) := cell_of A0.out rfl
  have f0 := free_of (i := 0) A0.out
  have f1 := free_of (i := 1) A0.out
  have f2 := free_of (i := 2) A0.out
  have f3 := free_of (i := 3) A0.out
  by_cases hbad : e0 ≠ 0 ∨ e1 ≠ 0 ∨ 31 < n ∨ v1 < 0
  · have hr := HD.out
    rw [if_pos hbad] at hr
    subst hr
    have hc : e0 ≠ 0 ∨ (e0 = 0 ∧ e1 ≠ 0) ∨ (e0 = 0 ∧ e1 = 0 ∧ 31 < n) ∨ (e0 = 0 ∧ e1 = 0 ∧ n ≤ 31 ∧ v1 < 0) := by omega
    clear hbad HD
    clear HC2 HT hw16 hn7 hww
    rcases hc with h | ⟨h1, h⟩ | ⟨h1, h2, h⟩ | ⟨h1, h2, h3, h⟩
    · have d1 : (e0 != 0) = true := by simp [h]
      clear h
      go_wp2_with fail
      have hB := set4 A0.out (.int .i64 0) (.int .i64 0) (.int .i64 0) (.string ⟨#[]⟩)
      have g0 := cell_of (i := 0) hB rfl
      have g1 := cell_of (i := 1) hB rfl
      have g2 := cell_of (i := 2) hB rfl
      have g3 := cell_of (i := 3) hB rfl
      exact bodyPost_ret (v := readWdV none) (by simp [results, Tryz.results89, go_sem, readWdV, Wd.val, Wd.none, g0, g1, g2, g3]) rfl ⟨rfl, keeps_set4 KA.out _ _ _ _ _ (Nat.le_refl _)⟩
    · have d1 : (e0 != 0) = false := by simp [h1]
      have d2 : (e1 != 0) = true := by simp [h]
      clear h h1
      go_wp2_with fail
      have hB := set4 A0.out (.int .i64 0) (.int .i64 0) (.int .i64 0) (.string ⟨#[]⟩)
      have g0 := cell_of (i := 0) hB rfl
      have g1 := cell_of (i := 1) hB rfl
      have g2 := cell_of (i := 2) hB rfl
      have g3 := cell_of (i := 3) hB rfl
      exact bodyPost_ret (v := readWdV none) (by simp [results, Tryz.results89, go_sem, readWdV, Wd.val, Wd.none, g0, g1, g2, g3]) rfl ⟨rfl, keeps_set4 KA.out _ _ _ _ _ (Nat.le_refl _)⟩
    · have d1 : (e0 != 0) = false := by simp [h1]
      have d2 : (e1 != 0) = false := by simp [h2]
      have d3 : decide (31 < n) = true := by simp [h]
      clear h1 h2
      go_wp2_with fail
      have hB := set4 A0.out (.int .i64 0) (.int .i64 0) (.int .i64 0) (.string ⟨#[]⟩)
      have g0 := cell_of (i := 0) hB rfl
      have g1 := cell_of (i := 1) hB rfl
      have g2 := cell_of (i := 2) hB rfl
      have g3 := cell_of (i := 3) hB rfl
      exact bodyPost_ret (v := readWdV none) (by simp [results, Tryz.results89, go_sem, readWdV, Wd.val, Wd.none, g0, g1, g2, g3]) rfl ⟨rfl, keeps_set4 KA.out _ _ _ _ _ (Nat.le_refl _)⟩
    · have d1 : (e0 != 0) = false := by simp [h1]
      have d2 : (e1 != 0) = false := by simp [h2]
      have d3 : decide (31 < n) = false := by simp; omega
      have d4 : decide (v1 < 0) = true := by simp [h]
      clear h1 h2
      go_wp2_with fail
      have hB := set4 A0.out (.int .i64 0) (.int .i64 0) (.int .i64 0) (.string ⟨#[]⟩)
      have g0 := cell_of (i := 0) hB rfl
      have g1 := cell_of (i := 1) hB rfl
      have g2 := cell_of (i := 2) hB rfl
      have g3 := cell_of (i := 3) hB rfl
      exact bodyPost_ret (v := readWdV none) (by simp [results, Tryz.results89, go_sem, readWdV, Wd.val, Wd.none, g0, g1, g2, g3]) rfl ⟨rfl, keeps_set4 KA.out _ _ _ _ _ (Nat.le_refl _)⟩
  · replace HD := Lib.hid (HD.out.trans (if_neg hbad))
    have d1 : (e0 != 0) = false := by simp; omega
    have d2 : (e1 != 0) = false := by simp; omega
    have d3 : decide (31 < n) = false := by simp; omega
    have d4 : decide (v1 < 0) = false := by simp; omega
    have hv : 0 ≤ v1 := by omega
    clear hbad
    go_wp2_with fail
    refine HT.out.mono ?_
    rintro e w1 ⟨rfl, rfl⟩
    unfold strV
    go_wp2_with fail
    refine HC2.out.mono ?_
    rintro e w1 ⟨rfl, rfl⟩
    clear HC2 HT hand hw16 hn7 hww HC0 HC1
    by_cases hbad : e3 ≠ 0 ∨ e2 ≠ 0
    · have hr := HD.out
      rw [if_pos hbad] at hr
      subst hr
      have hc : e3 ≠ 0 ∨ (e3 = 0 ∧ e2 ≠ 0) := by omega
      clear hbad HD
      rcases hc with h | ⟨h1, h⟩
      · have d5 : (e3 != 0) = true := by simp [h]
        clear h
        go_wp2_with fail
        have hB := set4 A0.out (.int .i64 0) (.int .i64 0) (.int .i64 0) (.string ⟨#[]⟩)
        have g0 := cell_of (i := 0) hB rfl
        have g1 := cell_of (i := 1) hB rfl
        have g2 := cell_of (i := 2) hB rfl
        have g3 := cell_of (i := 3) hB rfl
        exact bodyPost_ret (v := readWdV none) (by simp [results, Tryz.results89, go_sem, readWdV, Wd.val, Wd.none, g0, g1, g2, g3]) rfl ⟨rfl, keeps_set4 KA.out _ _ _ _ _ (Nat.le_refl _)⟩
      · have d5 : (e3 != 0) = false := by simp [h1]
        have d6 : (e2 != 0) = true := by simp [h]
        clear h h1
        go_wp2_with fail
        have hB := set4 A0.out (.int .i64 0) (.int .i64 0) (.int .i64 0) (.string ⟨#[]⟩)
        have g0 := cell_of (i := 0) hB rfl
        have g1 := cell_of (i := 1) hB rfl
        have g2 := cell_of (i := 2) hB rfl
        have g3 := cell_of (i := 3) hB rfl
        exact bodyPost_ret (v := readWdV none) (by simp [results, Tryz.results89, go_sem, readWdV, Wd.val, Wd.none, g0, g1, g2, g3]) rfl ⟨rfl, keeps_set4 KA.out _ _ _ _ _ (Nat.le_refl _)⟩
    · have hr := HD.out
      rw [if_neg hbad] at hr
      subst hr
      have d5 : (e3 != 0) = false := by simp; omega
      have d6 : (e2 != 0) = false := by simp; omega
      clear hbad HD
      go_wp2_with fail
      have hB := set4 A0.out (.int .i64 a) (.int .i64 (a + 16 + pd)) (.int .i64 (v1 / 256)) (.string ⟨v2.toArray⟩)
      have g0 := cell_of (i := 0) hB rfl
      have g1 := cell_of (i := 1) hB rfl
      have g2 := cell_of (i := 2) hB rfl
      have g3 := cell_of (i := 3) hB rfl
      exact bodyPost_ret (v := readWdV (some (⟨a, a + 16 + pd, v1 / 256, v2⟩, v0))) (by simp [results, Tryz.results89, go_sem, readWdV, Wd.val, Wd.none, g0, g1, g2, g3]) rfl ⟨rfl, keeps_set4 KA.out _ _ _ _ _ (Nat.le_refl _)⟩
end Go.Proofs.Shed
set_option linter.unusedVariables false
set_option linter.unusedSimpArgs false
set_option maxRecDepth 10000
set_option maxHeartbeats 4000000
namespace Go.Proofs.Shed
open Go Go.RowKit Go.Proofs.K

theorem infoWd : (Tryz.prog.info? 53).map (fun i => (i.zero, i.size, i.bytes)) = some (some (.agg #[.int .i64 0, .int .i64 0, .int .i64 0, .string ⟨#[]⟩]), 4, 40) := by kernel_rfl
def Wd.cells (d : Wd) : List Value := [.int .i64 d.at_, .int .i64 d.xt, .int .i64 d.flags, .string ⟨d.name.toArray⟩]
def wdsV (L : List Wd) : List Value := L.flatMap Wd.cells
theorem wdsV_app (L M : List Wd) : wdsV (L ++ M) = wdsV L ++ wdsV M := by simp [wdsV]
theorem wdsV_len (L : List Wd) : (wdsV L).length = L.length * 4 := by
  induction L with
  | nil => rfl
  | cons d L ih =>
    have : wdsV (d :: L) = d.cells ++ wdsV L := by simp [wdsV]
    rw [this, List.length_append, ih]
    simp [Wd.cells]
    omega
theorem wdsV_get (L : List Wd) (i : Nat) (hi : i < L.length) (f : Nat) (hf : f < 4) : (wdsV L)[i * 4 + f]? = (L[i]).cells[f]? := by
  induction L generalizing i with
  | nil => simp at hi
  | cons d L ih =>
    have : wdsV (d :: L) = d.cells ++ wdsV L := by simp [wdsV]
    rw [this]
    cases i with
    | zero => rw [List.getElem?_append_left (by simp [Wd.cells]; omega)]; simp
    | succ i =>
      rw [List.getElem?_append_right (by simp [Wd.cells]; omega)]
      have e : (i + 1) * 4 + f - d.cells.length = i * 4 + f := by simp [Wd.cells]; omega
      rw [e, ih i (by simpa using hi)]
      simp
/-- A slice of words, of the call's own. -/
def OwnWds (W w : World) (a : Option Addr) (c : Nat) (L : List Wd) : Prop := Own w 53 4 a L.length c (wdsV L) ∧ ∀ g, blk a = some g → W.heap.size ≤ g
def WdsPost (L : List Wd) (w : World) (e : Ending) (w' : World) : Prop := ∃ a c, e = .returned (.slice a L.length c) ∧ OwnWds w w' a c L ∧ Keeps (fun _ => False) w w'
theorem OwnWds.keeps {W w w' : World} {a : Option Addr} {c : Nat} {L : List Wd} (h : OwnWds W w a c L) {S : Nat → Prop} (k : Keeps S w w') (hs : ∀ g, blk a = some g → ¬ S g) : OwnWds W w' a c L := ⟨h.1.keeps k hs, h.2⟩
theorem OwnWds.alloc {W w : World} {a : Option Addr} {c : Nat} {L : List Wd} (h : OwnWds W w a c L) (o : Obj) : OwnWds W (w.alloc o) a c L := h.keeps (Keeps.alloc (fun _ => False) _ _) (fun _ _ => id)
theorem OwnWds.more {W w w' : World} {a a' : Option Addr} {c c' : Nat} {L : List Wd} (h : OwnWds W w a c L) (x : Wd) (o : Own w' 53 4 a' (L.length + 1) c' (wdsV L ++ x.cells)) (k : Nat) (l : blk a' = blk a ∨ blk a' = some k) (hk : W.heap.size ≤ k) : OwnWds W w' a' c' (L ++ [x]) := by
  refine ⟨?_, ?_⟩
  · rw [wdsV_app, List.length_append]
    have : wdsV [x] = x.cells := by simp [wdsV]
    rw [this]
    exact o
  · intro g hg
    rcases l with e | e <;> rw [e] at hg
    · exact h.2 g hg
    · cases hg; exact hk
theorem OwnWds.at {W w : World} {a : Option Addr} {c : Nat} {L : List Wd} (h : OwnWds W w a c L) {i : Nat} (hi : i < L.length) : ∃ g, a = some ⟨g, 0, none⟩ ∧ W.heap.size ≤ g ∧ w.cell? ⟨g, i * 4, none⟩ = some (.int .i64 L[i].at_) ∧
    w.cell? ⟨g, i * 4 + 1, none⟩ = some (.int .i64 L[i].xt) ∧ w.cell? ⟨g, i * 4 + 2, none⟩ = some (.int .i64 L[i].flags) ∧ w.cell? ⟨g, i * 4 + 3, none⟩ = some (.string ⟨L[i].name.toArray⟩) := by
  rcases h.1.form with ⟨_, hn, _⟩ | ⟨g, cur, rfl, _⟩
  · omega
  · refine ⟨g, rfl, h.2 g rfl, ?_, ?_, ?_, ?_⟩
    · exact h.1.cell (j := i * 4) (by rw [show i * 4 = i * 4 + 0 by omega, wdsV_get L i hi 0 (by omega)]; rfl)
    · exact h.1.cell (j := i * 4 + 1) (by rw [wdsV_get L i hi 1 (by omega)]; rfl)
    · exact h.1.cell (j := i * 4 + 2) (by rw [wdsV_get L i hi 2 (by omega)]; rfl)
    · exact h.1.cell (j := i * 4 + 3) (by rw [wdsV_get L i hi 3 (by omega)]; rfl)
theorem wd_news (w : World) (x : Wd) : ∀ j u, x.cells[j]? = some u → (w.alloc (.cells #[.int .i64 x.at_, .int .i64 x.xt, .int .i64 x.flags, .string ⟨x.name.toArray⟩] 53)).cell? ((⟨w.heap.size, 0, none⟩ : Addr).add j) = some u := by
  intro j u hu
  rw [Addr.add_lit, Nat.zero_add]
  refine cell_of (halloc_at _ _) ?_
  simpa [Wd.cells] using hu
theorem wd_one (x : Wd) : ∀ u ∈ x.cells, u.oneCell' = true := by
  intro u hu
  simp [Wd.cells] at hu
  rcases hu with rfl | rfl | rfl | rfl <;> rfl

theorem head_words (w : World) (b bb : Nat) (m : Mem) (list : Int) (h : RMem w b bb m) :
    Calls Tryz.prog 75 #[.pointer (some ⟨b, 0, none⟩), .int .i64 list] w (WdsPost (m.words list) w) := by
  have H := Lib.hid h
  have hle := h.le
  have hlen := Mem.words_len m list
  clear h
  have HD : Hid (m.words list = if (m.cell list).2 ≠ 0 then [] else Mem.wordsL m m.size (m.cell list).1) := Mem.words_is m list
  generalize m.words list = r at HD hlen ⊢
  have hc := Lib.hid fun w H => mem_cell w b bb m list H
  have hcb := m.cell_bd list
  generalize m.cell list = q at hc HD hcb
  obtain ⟨a0, e0⟩ := q
  simp only at HD hcb hc
  have hz0 := Mem.wordsL_len m m.size a0
  go_enter Tryz.func75, Tryz.ntmps75
  go_wp2_with fail
  refine (hc.out _ H.out).mono ?_
  rintro e w1 ⟨rfl, rfl⟩
  go_wp2_with fail
  refine (mem_size _ _ _ _ H.out).mono ?_
  rintro e w1 ⟨rfl, rfl⟩
  by_cases he : e0 = 0
  · have hr := HD.out
    rw [if_neg (by simpa using he)] at hr
    have he' : (e0 == 0) = true := by simp [he]
    have HR := Lib.hid hr
    clear HD hr he
    go_wp2_with fail
    go_loopw [5, 6, 8] (fun ov av lv wr => ∃ (L : List Wd) (a : Option Addr) (c : Nat) (at_ last : Int), ov = .slice a L.length c ∧ av = .int .i64 at_ ∧ lv = .int .i64 last ∧ OwnWds w wr a c L ∧ RMem wr b bb m ∧ Keeps (fun _ => False) w wr ∧
        L ++ Mem.wordsL m last at_ = Mem.wordsL m m.size a0 ∧ last ≤ 4194304 ∧ (-9223372036854775808 ≤ at_ ∧ at_ ≤ 9223372036854775807))
      (fun _ _ lv _ => (intOf lv).toNat)
    case atStart => exact ⟨[], none, 0, a0, m.size, rfl, rfl, rfl, ⟨Own.nil _ _ _, by simp [blk]⟩, H.out, Keeps.refl _ _, rfl, by omega, hcb⟩
    case round =>
      obtain ⟨L, a, c, at_, last, rfl, rfl, rfl, ho, hm, hk, hL, hl4, ⟨hb0, hb1⟩⟩ := hrel
      have HO := Lib.hid ho
      have HM := Lib.hid hm
      have HK := Lib.hid hk
      have hLlen : L.length ≤ m.size := by
        rw [← hL, List.length_append] at hz0
        omega
      have HL := Lib.hid hL
      clear ho hm hk hL
      by_cases hlt : 0 < at_ ∧ at_ < last
      · obtain ⟨g1, g2⟩ := hlt
        have hrd := Lib.hid (head_read wr b bb m at_ HM.out (by omega) (by omega))
        have HN := Lib.hid (Mem.wordsL_none m last at_)
        have HS := Lib.hid fun d l => Mem.wordsL_some m last at_ ⟨g1, g2⟩ (d := d) (l := l)
        have HB := Lib.hid (show ∀ d l, m.readWd at_ = some (d, l) → -9223372036854775808 ≤ l ∧ l ≤ 9223372036854775807 from fun d l e => by rw [Mem.readWd_link e]; exact m.cell_bd _)
        generalize m.readWd at_ = x at hrd HN HS HB
        go_wp2_with fail
        refine hrd.out.mono ?_
        rintro e w2 ⟨rfl, k2⟩
        have hge : w.heap.size ≤ w2.heap.size := (HK.out.trans k2).size
        cases x with
        | none =>
          have hw := HN.out rfl
          have O2 := Lib.hid ((HO.out.keeps k2 (fun _ _ => id)).alloc (.cells #[.int .i64 0, .int .i64 0, .int .i64 0, .string ⟨#[]⟩] 53))
          have K2 := Lib.hid ((HK.out.trans k2).trans (Keeps.alloc (fun _ => False) _ (.cells #[.int .i64 0, .int .i64 0, .int .i64 0, .string ⟨#[]⟩] 53)))
          unfold readWdV Wd.val Wd.none
          clear k2 HO HM HK
          have HW := Lib.hid hw
          clear hw
          go_wp2_with fail
          go_ret
          have hw : L = Mem.wordsL m m.size a0 := by
            have := HL.out
            rw [HW.out, List.append_nil] at this
            exact this
          refine ⟨a, c, ?_, ?_, ?_⟩
          · rw [HR.out, ← hw]; rfl
          · rw [HR.out, ← hw]; exact O2.out
          · exact K2.out
        | some x =>
          obtain ⟨x, l⟩ := x
          have hw := HS.out x l rfl
          have hlb := HB.out x l rfl
          have O2 := Lib.hid ((HO.out.keeps k2 (fun _ _ => id)).alloc (.cells #[.int .i64 x.at_, .int .i64 x.xt, .int .i64 x.flags, .string ⟨x.name.toArray⟩] 53))
          have M2 := Lib.hid ((HM.out.keeps k2 id id).allocd (.cells #[.int .i64 x.at_, .int .i64 x.xt, .int .i64 x.flags, .string ⟨x.name.toArray⟩] 53))
          have K2 := Lib.hid ((HK.out.trans k2).trans (Keeps.alloc (fun _ => False) _ (.cells #[.int .i64 x.at_, .int .i64 x.xt, .int .i64 x.flags, .string ⟨x.name.toArray⟩] 53)))
          have hlt : ∀ g, blk a = some g → g < w2.heap.size := fun g hg => (HO.out.keeps k2 (fun _ _ => id)).1.lt hg
          have HLT := Lib.hid hlt
          unfold readWdV Wd.val
          clear k2 HO HM HK hlt
          have HW := Lib.hid hw
          clear hw
          go_wp2_with (first
            | (at_builtin; refine wpList_app rfl _ _ 166 rfl 53 _ 4 40 Tryz.underlying166 infoWd rfl (by decide) a L.length c (wdsV L) rfl (O2.out.alloc _).1 ⟨w2.heap.size + 1, 0, none⟩ 1 1 x.cells rfl rfl ?c1 (wd_one x) ?c3 ?c4 ?_))
          case c1 =>
            have := wd_news (w2.alloc (.cells #[.int .i64 x.at_, .int .i64 x.xt, .int .i64 x.flags, .string ⟨x.name.toArray⟩] 53)) x
            rw [World.size_alloc] at this
            exact this
          case c3 => unfold maxLen; omega
          case c4 => omega
          intro a' c' w3 o3 k3 l3
          have KA := (K2.out.trans (Keeps.alloc (fun _ => False) _ (.cells #[.int .i64 x.at_, .int .i64 x.xt, .int .i64 x.flags, .string ⟨x.name.toArray⟩] 53))).trans' k3 (fun i hi e => absurd (O2.out.2 i e) (by omega))
          have O3 := Lib.hid (O2.out.more x o3 _ l3 (by omega))
          have KK := Lib.hid KA
          have hL' : (L ++ [x]) ++ Mem.wordsL m at_ l = Mem.wordsL m m.size a0 := by
            have := HL.out
            rw [HW.out] at this
            simpa using this
          have HL' := Lib.hid hL'
          clear k3 o3 l3 KA hL'
          go_wp2_with fail
          go_roundw
          case rel =>
            refine ⟨L ++ [x], a', c', l, at_, ?_, rfl, rfl, O3.out, H.out.keeps KK.out id id, KK.out, HL'.out, by omega, hlb⟩
            rw [List.length_append]; rfl
          case measure => simp [intOf]; omega
      · have hw := Mem.wordsL_end m last at_ hlt
        have HW := Lib.hid hw
        clear hw
        have hc2 : at_ ≤ 0 ∨ (0 < at_ ∧ last ≤ at_) := by omega
        clear hlt
        rcases hc2 with h1 | ⟨h1, h2⟩
        · have d1 : decide (0 < at_) = false := decide_eq_false (by omega)
          clear h1
          go_wp2_with fail
          go_ret
          have hw : L = Mem.wordsL m m.size a0 := by
            have := HL.out
            rw [HW.out, List.append_nil] at this
            exact this
          exact ⟨a, c, by rw [HR.out, ← hw]; rfl, by rw [HR.out, ← hw]; exact HO.out, HK.out⟩
        · have d2 : decide (at_ < last) = false := decide_eq_false (by omega)
          clear h2
          go_wp2_with fail
          go_ret
          have hw : L = Mem.wordsL m m.size a0 := by
            have := HL.out
            rw [HW.out, List.append_nil] at this
            exact this
          exact ⟨a, c, by rw [HR.out, ← hw]; rfl, by rw [HR.out, ← hw]; exact HO.out, HK.out⟩
  · have hr := HD.out
    rw [if_pos he] at hr
    subst hr
    have he' : (e0 == 0) = false := by simp [he]
    go_wp2_with fail
    refine wp_loop_rounds 1 ?_
    rw [rounds_succ]
    go_wp2_with fail
    go_ret
    exact ⟨none, 0, rfl, ⟨Own.nil _ _ _, by simp [blk]⟩, Keeps.refl _ _⟩
end Go.Proofs.Shed
set_option linter.unusedVariables false
set_option linter.unusedSimpArgs false
set_option maxRecDepth 10000
set_option maxHeartbeats 4000000
namespace Go.Proofs.Shed
open Go Go.RowKit Go.Proofs.K

def fits (low : List UInt8) (w : Wd) : Bool := decide (w.name = low) && decide (w.flags % 4 < 2)
theorem findIn_none (m : Mem) (name : List UInt8) (a : Int) (r : List Int) (h : Mem.findIn (m.words a) (lower name) = none) : m.find name (a :: r) = m.find name r := by
  rw [Mem.find, h]
theorem findIn_some (m : Mem) (name : List UInt8) (a : Int) (r : List Int) {d : Wd} (h : Mem.findIn (m.words a) (lower name) = some d) : m.find name (a :: r) = some d := by
  rw [Mem.find, h]
theorem findIn_hit (low : List UInt8) (d : Wd) (l : List Wd) (h : fits low d = true) : Mem.findIn (d :: l) low = some d := by
  unfold Mem.findIn
  rw [List.find?_cons_of_pos]
  exact h
theorem findIn_miss (low : List UInt8) (d : Wd) (l : List Wd) (h : fits low d = false) : Mem.findIn (d :: l) low = Mem.findIn l low := by
  unfold Mem.findIn
  rw [List.find?_cons_of_neg]
  intro e
  have : fits low d = true := e
  rw [h] at this
  cases this
def findV : Option Wd → Value
  | none => .tuple #[Wd.none.val, .bool false]
  | some d => .tuple #[d.val, .bool true]

theorem head_find (w : World) (b bb : Nat) (m : Mem) (name : List UInt8) (la : Option Addr) (ln lc : Nat) (ls : List Int) (h : RMem w b bb m) (hn : name.length ≤ 4194304) (hl : Own w 2 1 la ln lc (ls.map (Value.int .i64))) (hll : ls.length = ln) (h6 : ln ≤ 1000000) :
    Calls Tryz.prog 42 #[.pointer (some ⟨b, 0, none⟩), .string ⟨name.toArray⟩, .slice la ln lc] w fun e w' => e = .returned (findV (m.find name ls)) ∧ Keeps (fun _ => False) w w' := by
  have HLW := Lib.hid fun w => intern_lower w name hn
  have H := Lib.hid (h.allocd (.cells #[.int .i64 0, .int .i64 0, .int .i64 0, .string ⟨#[]⟩] 53))
  have HLS := Lib.hid (hl.keeps (Keeps.alloc (fun _ => False) w (.cells #[.int .i64 0, .int .i64 0, .int .i64 0, .string ⟨#[]⟩] 53)) (fun _ _ => id))
  have KA := Lib.hid (Keeps.alloc (fun _ => False) w (.cells #[.int .i64 0, .int .i64 0, .int .i64 0, .string ⟨#[]⟩] 53))
  have A0 := Lib.hid (halloc_at w (.cells #[.int .i64 0, .int .i64 0, .int .i64 0, .string ⟨#[]⟩] 53))
  have HN := Lib.hid (show ∀ a r, Mem.findIn (m.words a) (lower name) = none → m.find name (a :: r) = m.find name r from fun a r => findIn_none m name a r)
  have HSM := Lib.hid (show ∀ a r d, Mem.findIn (m.words a) (lower name) = some d → m.find name (a :: r) = some d from fun a r d => findIn_some m name a r)
  have HNIL := Lib.hid (show m.find name [] = none from rfl)
  have HLL := Lib.hid hll
  have hle := h.le
  generalize hWA : w.alloc (.cells #[.int .i64 0, .int .i64 0, .int .i64 0, .string ⟨#[]⟩] 53) = wa at H HLS KA A0
  generalize lower name = low at HLW HN HSM
  generalize m.find name = F at HN HSM HNIL ⊢
  clear h hl hll hn
  go_enter Tryz.func42, Tryz.ntmps42
  go_wp2_with fail
  clear hWA
  refine (HLW.out _).mono ?_
  rintro e w1 ⟨rfl, k1⟩
  have K1 := Lib.hid k1
  clear k1
  go_wp2_with fail
  go_loopw [17] (fun iv wr => ∃ i : Nat, iv = .int .i64 i ∧ i ≤ ln ∧ F ls = F (ls.drop i) ∧ Keeps (fun _ => False) wa wr) (fun iv _ => ln - (intOf iv).toNat)
  case atStart => exact ⟨0, rfl, Nat.zero_le _, rfl, K1.out⟩
  case round =>
    obtain ⟨i, rfl, hi, hf, hk⟩ := hrel
    have HF := Lib.hid hf
    have HK := Lib.hid hk
    clear hf hk
    by_cases hlt : i < ln
    · have hi' : i < ls.length := by rw [HLL.out]; exact hlt
      have hi0 : (0 : Int) ≤ (i : Int) := by omega
      obtain ⟨g, hg, hc⟩ : ∃ g, la = some ⟨g, 0, none⟩ ∧ wr.cell? ⟨g, i, none⟩ = some (.int .i64 ls[i]) := by
        have ho := HLS.out.keeps HK.out (fun _ _ => id)
        rcases Own.form ho with ⟨_, hn, _⟩ | ⟨g, cur, rfl, _⟩
        · omega
        · exact ⟨g, rfl, Own.cell ho (by simp [hi'])⟩
      subst hg
      have HD := Lib.hid (List.drop_eq_getElem_cons hi')
      generalize ls[i] = x at hc HD
      have hwd := Lib.hid (head_words wr b bb m x (H.out.keeps HK.out id id))
      have hwl := Mem.words_len m x
      have HNX := Lib.hid fun r => HN.out x r
      have HSX := Lib.hid fun r d => HSM.out x r d
      generalize m.words x = L at hwd hwl HNX HSX
      clear hi'
      go_wp2_with fail
      refine hwd.out.mono ?_
      rintro e w2 ⟨a, c, rfl, o2, k2⟩
      have O2 := Lib.hid o2
      have K2 := Lib.hid (HK.out.trans k2)
      have HSZ := Lib.hid k2.size
      clear o2 k2 hc
      go_wp2_with fail
      go_loopw [25] (fun kv wq => ∃ k : Nat, kv = .int .i64 k ∧ k ≤ L.length ∧ Mem.findIn L low = Mem.findIn (L.drop k) low ∧ Keeps (fun _ => False) w2 wq) (fun kv _ => L.length - (intOf kv).toNat)
      case atStart => exact ⟨0, rfl, Nat.zero_le _, rfl, Keeps.refl _ _⟩
      case round =>
        obtain ⟨k, rfl, hk, hfi, hkk⟩ := hrel
        have HFI := Lib.hid hfi
        have HKK := Lib.hid hkk
        clear hfi hkk
        by_cases hkt : k < L.length
        · have hk0 : (0 : Int) ≤ (k : Int) := by omega
          obtain ⟨g2, rfl, hg2, y0, y1, y2, y3⟩ := (O2.out.keeps HKK.out (fun _ _ => id)).at hkt
          have HD2 := Lib.hid (List.drop_eq_getElem_cons hkt)
          generalize L[k] = d at y0 y1 y2 y3 HD2
          obtain ⟨da, dx, df, dn⟩ := d
          simp only at y0 y1 y2 y3
          have hand := and_2 df
          have KQ := Lib.hid (HKK.out.trans (Keeps.alloc (fun _ => False) wr (.cells #[.int .i64 da, .int .i64 dx, .int .i64 df, .string ⟨dn.toArray⟩] 53)))
          by_cases hc1 : dn = low
          · have c1 : (dn == low) = true := by simp [hc1]
            by_cases hc2 : df % 4 < 2
            · have c2 : (df % 4 / 2 * 2 == 0) = true := by simp; omega
              have HFT := Lib.hid (findIn_hit low ⟨da, dx, df, dn⟩ (L.drop (k + 1)) (by simp [fits, hc1, hc2]))
              have HFE := Lib.hid (show F ls = some ⟨da, dx, df, dn⟩ by rw [HF.out, HD.out]; exact HSX.out _ _ (by rw [HFI.out, HD2.out, HFT.out]))
              have hwa := KA.out.size
              have hsz := ((KA.out.trans K2.out).trans HKK.out).size
              have hsl : w.heap.size < wr.heap.size := lt_of_heap ((K2.out.trans HKK.out).heap A0.out id)
              have HB := Lib.hid ((K2.out.trans HKK.out).heap A0.out id)
              have HBB := Lib.hid ((K2.out.trans KQ.out).heap A0.out id)
              have a0 : wr.cell? ⟨w.heap.size, 0, none⟩ = some (.int .i64 0) := cell_of HB.out rfl
              have a1 : wr.cell? ⟨w.heap.size, 1, none⟩ = some (.int .i64 0) := cell_of HB.out rfl
              have a2 : wr.cell? ⟨w.heap.size, 2, none⟩ = some (.int .i64 0) := cell_of HB.out rfl
              have a3 : wr.cell? ⟨w.heap.size, 3, none⟩ = some (.string ⟨#[]⟩) := cell_of HB.out rfl
              have f0 := free_of (i := 0) HB.out
              have f1 := free_of (i := 1) HB.out
              have f2 := free_of (i := 2) HB.out
              have f3 := free_of (i := 3) HB.out
              clear hc1 hc2
              go_wp2_with fail
              have hB := (Keeps.alloc (fun _ => False) _ (.cells #[.int .i64 da, .int .i64 dx, .int .i64 df, .string ⟨dn.toArray⟩] 53)).heap (set4 HB.out (.int .i64 da) (.int .i64 dx) (.int .i64 df) (.string ⟨dn.toArray⟩)) id
              have g0 := cell_of (i := 0) hB rfl
              have g1 := cell_of (i := 1) hB rfl
              have g2 := cell_of (i := 2) hB rfl
              have g3 := cell_of (i := 3) hB rfl
              exact bodyPost_ret (v := findV (some ⟨da, dx, df, dn⟩)) (by simp [results, Tryz.results42, go_sem, findV, Wd.val, Wd.none, g0, g1, g2, g3]) rfl ⟨by rw [HFE.out], (keeps_set4 ((KA.out.trans K2.out).trans HKK.out) _ _ _ _ _ (Nat.le_refl _)).trans (Keeps.alloc _ _ _)⟩
            · have c2 : (df % 4 / 2 * 2 == 0) = false := by simp; omega
              have HFT := Lib.hid (findIn_miss low ⟨da, dx, df, dn⟩ (L.drop (k + 1)) (by simp [fits, hc2]))
              clear hc1 hc2
              go_wp2_with fail
              go_roundw
              case rel => exact ⟨k + 1, by go_num, by omega, by rw [HFI.out, HD2.out, HFT.out], KQ.out⟩
              case measure => simp [intOf]; omega
          · have c1 : (dn == low) = false := by simp [hc1]
            have HFT := Lib.hid (findIn_miss low ⟨da, dx, df, dn⟩ (L.drop (k + 1)) (by simp [fits, hc1]))
            clear hc1
            go_wp2_with fail
            go_roundw
            case rel => exact ⟨k + 1, by go_num, by omega, by rw [HFI.out, HD2.out, HFT.out], KQ.out⟩
            case measure => simp [intOf]; omega
        · have hge : k = L.length := by omega
          have HFE := Lib.hid (show F ls = F (ls.drop (i + 1)) by
            rw [HF.out, HD.out]
            refine HNX.out _ ?_
            rw [HFI.out, hge, List.drop_length]
            rfl)
          have KQ := Lib.hid (K2.out.trans HKK.out)
          go_wp2_with fail
          go_roundw
          case rel => exact ⟨i + 1, by go_num, by omega, HFE.out, KQ.out⟩
          case measure => simp [intOf]; omega
    · have hge : i = ln := by omega
      have HFE := Lib.hid (show F ls = none by rw [HF.out, hge, ← HLL.out, List.drop_length]; exact HNIL.out)
      have HB := Lib.hid (HK.out.heap A0.out id)
      have hsl : w.heap.size < wr.heap.size := lt_of_heap HB.out
      have a0 : wr.cell? ⟨w.heap.size, 0, none⟩ = some (.int .i64 0) := cell_of HB.out rfl
      have a1 : wr.cell? ⟨w.heap.size, 1, none⟩ = some (.int .i64 0) := cell_of HB.out rfl
      have a2 : wr.cell? ⟨w.heap.size, 2, none⟩ = some (.int .i64 0) := cell_of HB.out rfl
      have a3 : wr.cell? ⟨w.heap.size, 3, none⟩ = some (.string ⟨#[]⟩) := cell_of HB.out rfl
      have f0 := free_of (i := 0) HB.out
      have f1 := free_of (i := 1) HB.out
      have f2 := free_of (i := 2) HB.out
      have f3 := free_of (i := 3) HB.out
      go_wp2_with fail
      have hB := set4 HB.out (.int .i64 0) (.int .i64 0) (.int .i64 0) (.string ⟨#[]⟩)
      have g0 := cell_of (i := 0) hB rfl
      have g1 := cell_of (i := 1) hB rfl
      have g2 := cell_of (i := 2) hB rfl
      have g3 := cell_of (i := 3) hB rfl
      exact bodyPost_ret (v := findV none) (by simp [results, Tryz.results42, go_sem, findV, Wd.val, Wd.none, g0, g1, g2, g3]) rfl ⟨by rw [HFE.out], keeps_set4 (KA.out.trans HK.out) _ _ _ _ _ (Nat.le_refl _)⟩
end Go.Proofs.Shed
