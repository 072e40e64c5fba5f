/- Layer 10: New, Copy. Conditions: the space lies in three blocks. -/
import Derived.Test.YthhfkhhhclmimaaWTableC
set_option linter.unusedVariables false
set_option linter.unusedSimpArgs false
set_option maxRecDepth 10000
set_option maxHeartbeats 1000000
namespace Go.Proofs.Shed
open Go Go.RowKit Go.Proofs.K

/-- What becomes of a world in whose space something was made: its place, the code. -/
def MkPost (s b bb : Nat) (r : Sp × Int × Int) (w : World) (e : Ending) (w' : World) : Prop :=
  e = .returned (.tuple #[.int .i64 r.2.1, .int .i64 r.2.2]) ∧ RSp w' s b bb r.1 ∧ Keeps (fun k => k = s ∨ k = bb) w w'

theorem tab_new_nil (w : World) (n : Int) : Calls Try.prog 107 #[.pointer none, .int .i64 n] w fun e w' => e = .returned (.tuple #[.int .i64 0, .int .i64 (-256)]) ∧ w = w' := by
  go_enter Try.func107, Try.ntmps107
  go_wp2
  go_ret2
  exact ⟨rfl, rfl⟩

theorem tab_new (w : World) (s b bb : Nat) (x : Sp) (n : Int) (h : RSp w s b bb x) :
    Calls Try.prog 107 #[.pointer (some ⟨s, 0, none⟩), .int .i64 n] w (MkPost s b bb (Tab.new x n) w) := by
  have H := Lib.hid h
  clear h
  have HD : Hid (Tab.new x n = if n < 1 ∨ 1024 < n then (x, 0, -256)
    else if x.align.2 ≠ 0 then ((x.align.1.back x.here).1, 0, x.align.2)
    else if (Tab.newN n (2 + n * 3).toNat 0 x.align.1).2 ≠ 0 then (((Tab.newN n (2 + n * 3).toNat 0 x.align.1).1.back x.here).1, 0, (Tab.newN n (2 + n * 3).toNat 0 x.align.1).2)
    else ((Tab.newN n (2 + n * 3).toNat 0 x.align.1).1, x.align.1.here, 0)) := rfl
  generalize Tab.new x n = r at HD ⊢
  by_cases h1 : n < 1 ∨ 1024 < n
  · have hr := HD.out
    rw [if_pos h1] at hr
    subst hr
    have h1' : n < 1 ∨ (1 ≤ n ∧ 1024 < n) := by omega
    clear HD h1
    rcases h1' with h1 | ⟨h1, h2⟩
    all_goals
      go_enter Try.func107, Try.ntmps107
      go_wp2_with fail
      go_ret2
      exact ⟨rfl, H.out, Keeps.refl _ _⟩
  · have hr := HD.out
    rw [if_neg h1] at hr
    have g1 : 1 ≤ n := by omega
    have g2 : n ≤ 1024 := by omega
    clear HD h1
    have hal := Lib.hid (sp_align w s b bb x H.out)
    have hbk := x.here
    generalize x.align = q at hal hr
    obtain ⟨y, e⟩ := q
    simp only at hr
    have HR := Lib.hid hr
    clear hr
    go_enter Try.func107, Try.ntmps107
    go_wp2_with fail
    refine (sp_here _ _ _ _ _ H.out).mono ?_
    rintro e w1 ⟨rfl, rfl⟩
    go_wp2_with fail
    refine hal.out.mono ?_
    rintro e0 w1 ⟨rfl, s1, k1⟩
    have S1 := Lib.hid s1
    have K1 := Lib.hid k1
    clear s1 k1
    go_wp2_with fail
    refine (sp_here _ _ _ _ _ S1.out).mono ?_
    rintro e0 w2 ⟨rfl, rfl⟩
    by_cases he : e = 0
    · have hr := HR.out
      rw [if_neg (by simp [he])] at hr
      have HR2 := Lib.hid hr
      clear hr HR
      subst he
      go_wp2_with fail
      go_loopw [7, 9] (fun ev iv wr => ∃ (i : Int) (z : Sp) (c : Int), 0 ≤ i ∧ i ≤ 2 + n * 3 ∧ iv = .int .i64 i ∧ ev = .int .i64 c ∧ RSp wr s b bb z ∧ Keeps (fun k => k = s ∨ k = bb) w wr ∧ (c = 0 → Tab.newN n (2 + n * 3).toNat 0 y = Tab.newN n (2 + n * 3 - i).toNat i z) ∧ (c ≠ 0 → Tab.newN n (2 + n * 3).toNat 0 y = (z, c)))
        (fun _ iv _ => (2 + n * 3 - intOf iv).toNat)
      case atStart => exact ⟨0, y, 0, Int.le_refl _, by omega, rfl, rfl, S1.out, K1.out, fun _ => by rw [Int.sub_zero], fun h => absurd rfl h⟩
      case round =>
        obtain ⟨i, z, c, hi0, hi1, rfl, rfl, hz, hk, hc0, hc1⟩ := hrel
        have HZ := Lib.hid hz
        have HK := Lib.hid hk
        have HC0 := Lib.hid hc0
        have HC1 := Lib.hid hc1
        clear hz hk hc0 hc1
        by_cases hc : c = 0
        · have hc' : (c == 0) = true := by simp [hc]
          have hc'' : (c != 0) = false := by simp [hc]
          have hn := HC0.out hc
          clear hc
          by_cases hlt : i < 2 + n * 3
          · have hst : Tab.newN n (2 + n * 3 - i).toNat i z = if (z.comma (if i = 0 then n else 0)).2 ≠ 0 then z.comma (if i = 0 then n else 0) else Tab.newN n (2 + n * 3 - (i + 1)).toNat (i + 1) (z.comma (if i = 0 then n else 0)).1 := by
              rw [show (2 + n * 3 - i).toNat = (2 + n * 3 - (i + 1)).toNat + 1 by omega, Tab.newN]
            have HST := Lib.hid (hn.trans hst)
            clear hn hst
            by_cases hi : i = 0
            · have hst := HST.out
              rw [if_pos hi] at hst
              have HS := Lib.hid hst
              have hi' : (i == 0) = true := by simp [hi]
              clear hst HST hi
              go_wp2_with fail
              refine (sp_comma _ _ _ _ _ _ HZ.out).mono ?_
              rintro e2 w2 ⟨rfl, g1, g2⟩
              have G1 := Lib.hid g1
              have G2 := Lib.hid (HK.out.trans g2)
              clear g1 g2
              go_wp2_with fail
              go_roundw
              case rel => exact ⟨i + 1, _, _, by omega, by omega, rfl, rfl, G1.out, G2.out, fun h => by rw [HS.out, if_neg (by simp [h])], fun h => by rw [HS.out, if_pos h]⟩
              case measure => simp [intOf]; omega
            · have hst := HST.out
              rw [if_neg hi] at hst
              have HS := Lib.hid hst
              have hi' : (i == 0) = false := by simp [hi]
              clear hst HST hi
              go_wp2_with fail
              refine (sp_comma _ _ _ _ _ _ HZ.out).mono ?_
              rintro e2 w2 ⟨rfl, g1, g2⟩
              have G1 := Lib.hid g1
              have G2 := Lib.hid (HK.out.trans g2)
              clear g1 g2
              go_wp2_with fail
              go_roundw
              case rel => exact ⟨i + 1, _, _, by omega, by omega, rfl, rfl, G1.out, G2.out, fun h => by rw [HS.out, if_neg (by simp [h])], fun h => by rw [HS.out, if_pos h]⟩
              case measure => simp [intOf]; omega
          · rw [show (2 + n * 3 - i).toNat = 0 by omega, Tab.newN] at hn
            have hr := HR2.out
            rw [hn, if_neg (by simp)] at hr
            have HE := Lib.hid hr
            have hge : 2 + n * 3 ≤ i := by omega
            clear hn hr
            go_wp2_with fail
            go_ret2
            exact ⟨by rw [HE.out]; rfl, by rw [HE.out]; exact HZ.out, HK.out⟩
        · have hc' : (c == 0) = false := by simp [hc]
          have hc'' : (c != 0) = true := by simp [hc]
          have hr := HR2.out
          rw [HC1.out hc, if_pos hc] at hr
          have HE := Lib.hid hr
          clear hr hc
          by_cases hlt : i < 2 + n * 3
          all_goals
            go_wp2_with fail
            refine (sp_back _ _ _ _ _ _ HZ.out).mono ?_
            rintro e2 w2 ⟨rfl, g1, g2⟩
            have G1 := Lib.hid g1
            have G2 := Lib.hid (HK.out.trans g2)
            clear g1 g2
            go_wp2_with fail
            go_ret2
            exact ⟨by rw [HE.out]; rfl, by rw [HE.out]; exact G1.out, G2.out⟩
    · have hr := HR.out
      rw [if_pos he] at hr
      have HE := Lib.hid hr
      have he' : (e == 0) = false := by simp [he]
      have he'' : (e != 0) = true := by simp [he]
      have hpos : (0 : Int) < 2 + n * 3 := by omega
      clear hr HR he
      go_wp2_with fail
      refine wp_loop_rounds 1 ?_
      rw [rounds_succ]
      go_wp2_with fail
      refine (sp_back _ _ _ _ _ _ S1.out).mono ?_
      rintro e2 w2 ⟨rfl, g1, g2⟩
      have G1 := Lib.hid g1
      have G2 := Lib.hid (K1.out.trans g2)
      clear g1 g2
      go_wp2_with fail
      go_ret2
      exact ⟨by rw [HE.out]; rfl, by rw [HE.out]; exact G1.out, G2.out⟩

theorem tab_copy_nil (w : World) (n : Int) : Calls Try.prog 108 #[.pointer none, .int .i64 n] w fun e w' => e = .returned (.tuple #[.int .i64 0, .int .i64 (-256)]) ∧ w = w' := by
  go_enter Try.func108, Try.ntmps108
  go_wp2
  go_ret2
  exact ⟨rfl, rfl⟩

theorem RSp.withMem' {w w' : World} {s b bb : Nat} {x : Sp} (h : RSp w s b bb x) {m : Mem} (hm : RMem w' b bb m) (hs : m.size = x.mem.size) (k : Keeps (fun j => j = bb) w w') : RSp w' s b bb ⟨m, x.lo, x.to, x.here⟩ := h.withMem hm hs k

theorem tab_copy (w : World) (s b bb : Nat) (x : Sp) (t : Int) (h : RSp w s b bb x) :
    Calls Try.prog 108 #[.pointer (some ⟨s, 0, none⟩), .int .i64 t] w (MkPost s b bb (Tab.copy x t) w) := by
  have H := Lib.hid h
  have h0 := h.c0
  clear h
  have hS := Lib.hid (tab_slots w b bb x.mem t H.out.mem)
  have hbd := Tab.slots_bd x.mem t
  have HD : Hid (Tab.copy x t = if (Tab.new x (Tab.slots x.mem t)).2.2 ≠ 0 then ((Tab.new x (Tab.slots x.mem t)).1, 0, (Tab.new x (Tab.slots x.mem t)).2.2)
    else ({ (Tab.new x (Tab.slots x.mem t)).1 with mem := ((Tab.new x (Tab.slots x.mem t)).1.mem.setText (Tab.new x (Tab.slots x.mem t)).2.1 ((Tab.new x (Tab.slots x.mem t)).1.mem.text t ((2 + Tab.slots x.mem t * 3) * 8)).1).1 },
      (Tab.new x (Tab.slots x.mem t)).2.1, ((Tab.new x (Tab.slots x.mem t)).1.mem.setText (Tab.new x (Tab.slots x.mem t)).2.1 ((Tab.new x (Tab.slots x.mem t)).1.mem.text t ((2 + Tab.slots x.mem t * 3) * 8)).1).2)) := rfl
  generalize Tab.copy x t = r at HD ⊢
  generalize Tab.slots x.mem t = n at hS hbd HD
  obtain ⟨n0, n1⟩ := hbd
  have hN := Lib.hid (tab_new w s b bb x n H.out)
  generalize Tab.new x n = q at hN HD
  obtain ⟨y, u, e⟩ := q
  simp only at HD
  unfold MkPost at hN
  simp only at hN
  go_enter Try.func108, Try.ntmps108
  go_wp2_with fail
  refine hS.out.mono ?_
  rintro e1 w1 ⟨rfl, rfl⟩
  go_wp2_with fail
  refine hN.out.mono ?_
  rintro e1 w1 ⟨rfl, s1, k1⟩
  have S1 := Lib.hid s1
  have K1 := Lib.hid k1
  have c0 := s1.c0
  have f0 := s1.f 0
  clear s1 k1 h0
  by_cases he : e = 0
  · have hr := HD.out
    rw [if_neg (by simpa using he)] at hr
    have he' : (e != 0) = false := by simp [he]
    have hT := Lib.hid (mem_text w1 b bb y.mem t ((2 + n * 3) * 8) S1.out.mem)
    have hlen : (y.mem.text t ((2 + n * 3) * 8)).1.length ≤ 9223372036854775807 := by
      unfold Mem.text
      split
      · rw [bytesN_len]; omega
      · simp
    generalize y.mem.text t ((2 + n * 3) * 8) = q at hT hr hlen
    obtain ⟨l, e2⟩ := q
    have HR := Lib.hid hr
    clear hr HD he
    unfold strV at hT
    simp only at hT
    go_wp2_with fail
    refine hT.out.mono ?_
    rintro e1 w2 ⟨rfl, rfl⟩
    go_wp2_with fail
    refine (mem_setText _ b bb y.mem u l S1.out.mem hlen).mono ?_
    rintro e1 w2 ⟨rfl, m2, k2⟩
    have S2 := Lib.hid (S1.out.withMem' m2 (Mem.setText_size _ _ _) k2)
    have K2 := Lib.hid (K1.out.trans (k2.mono (T := fun k => k = s ∨ k = bb) (fun _ _ e => .inr e)))
    clear m2 k2
    go_wp2_with fail
    go_ret2
    exact ⟨by rw [HR.out]; rfl, by rw [HR.out]; exact S2.out, K2.out⟩
  · have hr := HD.out
    rw [if_pos he] at hr
    have HR := Lib.hid hr
    have he' : (e != 0) = true := by simp [he]
    clear hr HD he
    go_wp2_with fail
    go_ret2
    exact ⟨by rw [HR.out]; rfl, by rw [HR.out]; exact S1.out, K1.out⟩
end Go.Proofs.Shed
