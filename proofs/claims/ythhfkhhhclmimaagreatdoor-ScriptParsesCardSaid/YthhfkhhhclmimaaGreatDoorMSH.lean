/- Layer 22: the reference's cut, place, number. Conditions: the texts are not too long. Layer 22: the reference's number. Condition: the text is not too long. -/
import Derived.Test.YthhfkhhhclmimaaGreatDoorMSB
import Derived.Test.YthhfkhhhclmimaaGreatDoorMSC
import Derived.LoopN
set_option linter.unusedVariables false
set_option linter.unusedSimpArgs false
set_option maxRecDepth 10000
set_option maxHeartbeats 4000000
namespace Go.Proofs.Shed
open Go Go.RowKit Go.Proofs.K
theorem u8_eq (x c : UInt8) : (((x.toNat : Int) == (c.toNat : Int)) : Bool) = (x == c) := by
  by_cases h : x = c
  · subst h; rw [beq_self_eq_true, beq_self_eq_true]
  · have : ¬ ((x.toNat : Int) = (c.toNat : Int)) := fun e => h (UInt8.toNat_inj.1 (by omega))
    rw [beq_eq_false_iff_ne.2 h, beq_eq_false_iff_ne.2 this]
theorem ref_cut (s : List UInt8) (c : UInt8) (w : World) (hs : s.length ≤ 1000000) : Calls Tryz.prog 111 #[.string ⟨s.toArray⟩, .int .u8 (c.toNat : Int)] w fun e w' => e = .returned (.tuple #[.string ⟨(Scr.cutB s c).1.toArray⟩, .string ⟨(Scr.cutB s c).2.1.toArray⟩, .bool (Scr.cutB s c).2.2]) ∧ Keeps (fun _ => False) w w' := by
  generalize hR : Scr.cutB s c = R
  have HR := Lib.hid hR
  clear hR
  obtain ⟨r1, r2, r3⟩ := R
  dsimp only
  obtain ⟨cn, hcn⟩ : ∃ cn : Int, cn = (c.toNat : Int) := ⟨_, rfl⟩
  have HCN := Lib.hid hcn
  rw [← hcn]
  clear hcn
  go_enter Tryz.func111, Tryz.ntmps111
  go_wp2_with fail
  go_loop [7] (fun iv => ∃ i : Nat, iv = .int .i64 i ∧ i ≤ s.length ∧ ∀ k (hk : k < s.length), k < i → s[k] ≠ c) (fun iv => s.length - (intOf iv).toNat)
  case atStart => exact ⟨0, rfl, Nat.zero_le _, fun k _ h => absurd h (Nat.not_lt_zero _)⟩
  case round =>
    obtain ⟨i, rfl, hi, hp⟩ := hrel
    have HP := Lib.hid hp
    clear hp
    have hi0 : (0 : Int) ≤ (i : Int) := by omega
    by_cases hlt : i < s.length
    · have hb : i < (⟨s.toArray⟩ : ByteArray).size := by show i < s.toArray.size; simpa using hlt
      have hgx : (⟨s.toArray⟩ : ByteArray)[i]'hb = s[i] := rfl
      have HU := Lib.hid (u8_eq s[i] c)
      by_cases he : s[i] = c
      · have d1 : ((((⟨s.toArray⟩ : ByteArray)[i]'hb).toNat : Int) == cn) = true := by rw [hgx, HCN.out, HU.out]; simp [he]
        have hx1 := str_extract s 0 i (Nat.zero_le _)
        have hx2 := str_extract s (i + 1) s.length (by omega)
        rw [List.drop_zero, Nat.sub_zero] at hx1
        rw [List.take_of_length_le (by simp)] at hx2
        have HE := Lib.hid (HR.out.symm.trans (Scr.cutB_at s c i hlt HP.out he))
        generalize s.take i = y1 at hx1 HE
        generalize s.drop (i + 1) = y2 at hx2 HE
        clear hgx he
        go_wp2_with fail
        go_quiet (fail)
        go_wp2_with fail
        injection HE.out with h1 h2
        injection h2 with h2 h3
        subst h1 h2 h3
        go_ret3
        exact ⟨rfl, Keeps.drewN _ _ _⟩
      · have d1 : ((((⟨s.toArray⟩ : ByteArray)[i]'hb).toNat : Int) == cn) = false := by rw [hgx, HCN.out, HU.out]; simp [he]
        have HE := Lib.hid he
        clear hgx he
        go_wp2_with fail
        go_round
        case rel => exact ⟨i + 1, by go_num, hlt, fun k hk hki => by
          by_cases e : k = i
          · subst e; exact HE.out
          · exact HP.out k hk (by omega)⟩
        case measure => simp [intOf]; omega
    · have he : i = s.length := by omega
      subst he
      have HE := Lib.hid (HR.out.symm.trans (Scr.cutB_none s c (fun k hk => HP.out k hk hk)))
      injection HE.out with h1 h2
      injection h2 with h2 h3
      subst h1 h2 h3
      go_wp2_with fail
      go_ret3
      exact ⟨rfl, Keeps.refl _ _⟩
/-- Where a name stands; -1: nowhere. -/
def placeI (w : List UInt8) : Int := match Scr.place w with | some i => i | none => -1
theorem ref_place (v : List UInt8) (w : World) : Calls Tryz.prog 112 #[.string ⟨v.toArray⟩] w fun e w' => e = .returned (.int .i64 (placeI v)) ∧ Keeps (fun _ => False) w w' := by
  have ha := Keeps.alloc (fun _ => False) w (.cells #[.string ⟨#[100, 105, 99, 116]⟩, .string ⟨#[100, 97, 116, 97]⟩, .string ⟨#[114, 101, 116, 117, 114, 110]⟩, .string ⟨#[104, 101, 97, 112]⟩, .string ⟨#[115, 108, 111, 116, 115]⟩, .string ⟨#[102, 117, 101, 108]⟩] 9)
  have HA := Lib.hid ha
  clear ha
  by_cases h0 : v = [100, 105, 99, 116]
  · have HV := Lib.hid (show placeI v = 0 by rw [h0]; decide)
    have d0 : ([100, 105, 99, 116] == v) = true := by rw [h0]; decide
    rw [HV.out]
    clear h0
    go_enter Tryz.func112, Tryz.ntmps112
    go_wp2_with fail
    refine wp_loop_rounds 7 ?_
    rw [rounds_succ]
    go_wp2_with fail
    go_ret
    exact ⟨rfl, HA.out⟩
  have d0 : ([100, 105, 99, 116] == v) = false := beq_eq_false_iff_ne.2 (fun e => h0 e.symm)
  by_cases h1 : v = [100, 97, 116, 97]
  · have HV := Lib.hid (show placeI v = 1 by rw [h1]; decide)
    have d1 : ([100, 97, 116, 97] == v) = true := by rw [h1]; decide
    rw [HV.out]
    clear h1
    go_enter Tryz.func112, Tryz.ntmps112
    go_wp2_with fail
    refine wp_loop_rounds 7 ?_
    rw [rounds_succ]
    go_wp2_with fail
    rw [rounds_succ]
    go_wp2_with fail
    go_ret
    exact ⟨rfl, HA.out⟩
  have d1 : ([100, 97, 116, 97] == v) = false := beq_eq_false_iff_ne.2 (fun e => h1 e.symm)
  by_cases h2 : v = [114, 101, 116, 117, 114, 110]
  · have HV := Lib.hid (show placeI v = 2 by rw [h2]; decide)
    have d2 : ([114, 101, 116, 117, 114, 110] == v) = true := by rw [h2]; decide
    rw [HV.out]
    clear h2
    go_enter Tryz.func112, Tryz.ntmps112
    go_wp2_with fail
    refine wp_loop_rounds 7 ?_
    rw [rounds_succ]
    go_wp2_with fail
    rw [rounds_succ]
    go_wp2_with fail
    rw [rounds_succ]
    go_wp2_with fail
    go_ret
    exact ⟨rfl, HA.out⟩
  have d2 : ([114, 101, 116, 117, 114, 110] == v) = false := beq_eq_false_iff_ne.2 (fun e => h2 e.symm)
  by_cases h3 : v = [104, 101, 97, 112]
  · have HV := Lib.hid (show placeI v = 3 by rw [h3]; decide)
    have d3 : ([104, 101, 97, 112] == v) = true := by rw [h3]; decide
    rw [HV.out]
    clear h3
    go_enter Tryz.func112, Tryz.ntmps112
    go_wp2_with fail
    refine wp_loop_rounds 7 ?_
    rw [rounds_succ]
    go_wp2_with fail
    rw [rounds_succ]
    go_wp2_with fail
    rw [rounds_succ]
    go_wp2_with fail
    rw [rounds_succ]
    go_wp2_with fail
    go_ret
    exact ⟨rfl, HA.out⟩
  have d3 : ([104, 101, 97, 112] == v) = false := beq_eq_false_iff_ne.2 (fun e => h3 e.symm)
  by_cases h4 : v = [115, 108, 111, 116, 115]
  · have HV := Lib.hid (show placeI v = 4 by rw [h4]; decide)
    have d4 : ([115, 108, 111, 116, 115] == v) = true := by rw [h4]; decide
    rw [HV.out]
    clear h4
    go_enter Tryz.func112, Tryz.ntmps112
    go_wp2_with fail
    refine wp_loop_rounds 7 ?_
    rw [rounds_succ]
    go_wp2_with fail
    rw [rounds_succ]
    go_wp2_with fail
    rw [rounds_succ]
    go_wp2_with fail
    rw [rounds_succ]
    go_wp2_with fail
    rw [rounds_succ]
    go_wp2_with fail
    go_ret
    exact ⟨rfl, HA.out⟩
  have d4 : ([115, 108, 111, 116, 115] == v) = false := beq_eq_false_iff_ne.2 (fun e => h4 e.symm)
  by_cases h5 : v = [102, 117, 101, 108]
  · have HV := Lib.hid (show placeI v = 5 by rw [h5]; decide)
    have d5 : ([102, 117, 101, 108] == v) = true := by rw [h5]; decide
    rw [HV.out]
    clear h5
    go_enter Tryz.func112, Tryz.ntmps112
    go_wp2_with fail
    refine wp_loop_rounds 7 ?_
    rw [rounds_succ]
    go_wp2_with fail
    rw [rounds_succ]
    go_wp2_with fail
    rw [rounds_succ]
    go_wp2_with fail
    rw [rounds_succ]
    go_wp2_with fail
    rw [rounds_succ]
    go_wp2_with fail
    rw [rounds_succ]
    go_wp2_with fail
    go_ret
    exact ⟨rfl, HA.out⟩
  have d5 : ([102, 117, 101, 108] == v) = false := beq_eq_false_iff_ne.2 (fun e => h5 e.symm)
  have HV := Lib.hid (show placeI v = -1 by unfold placeI Scr.place; rw [if_neg h0, if_neg h1, if_neg h2, if_neg h3, if_neg h4, if_neg h5])
  rw [HV.out]
  clear h0 h1 h2 h3 h4 h5
  go_enter Tryz.func112, Tryz.ntmps112
  go_wp2_with fail
  refine wp_loop_rounds 7 ?_
  rw [rounds_succ]
  go_wp2_with fail
  rw [rounds_succ]
  go_wp2_with fail
  rw [rounds_succ]
  go_wp2_with fail
  rw [rounds_succ]
  go_wp2_with fail
  rw [rounds_succ]
  go_wp2_with fail
  rw [rounds_succ]
  go_wp2_with fail
  rw [rounds_succ]
  go_wp2_with fail
  go_ret
  exact ⟨rfl, HA.out⟩
end Go.Proofs.Shed
set_option linter.unusedVariables false
set_option linter.unusedSimpArgs false
set_option maxRecDepth 10000
set_option maxHeartbeats 4000000
namespace Go.Proofs.Shed
open Go Go.RowKit Go.Proofs.K
/-- A number, or -1. -/
def numI (v : List UInt8) : Int := match Scr.num v with | some k => k | none => -1
theorem numL_step (v : List UInt8) (i n : Nat) (hi : i < v.length) : Scr.numL (v.drop i) n = if (v[i]).toNat < 48 ∨ 57 < (v[i]).toNat ∨ 1048576 < n then none else Scr.numL (v.drop (i + 1)) (10 * n + ((v[i]).toNat - 48)) := by
  rw [List.drop_eq_getElem_cons hi]
  rfl
theorem ref_number (v : List UInt8) (w : World) (hv : v.length ≤ 1000000) : Calls Tryz.prog 113 #[.string ⟨v.toArray⟩] w fun e w' => e = .returned (.int .i64 (numI v)) ∧ Keeps (fun _ => False) w w' := by
  have HN := Lib.hid (show numI v = match Scr.numL v 0 with | none => -1 | some n => if 1048576 < n ∨ Lib.decDigits n ≠ v then -1 else (n : Int) from by
    unfold numI Scr.num
    cases Scr.numL v 0 with
    | none => rfl
    | some n =>
      simp only
      by_cases hc : 1048576 < n ∨ Lib.decDigits n ≠ v
      · rw [if_pos hc, if_pos hc]
      · rw [if_neg hc, if_neg hc])
  generalize numI v = R at HN ⊢
  go_enter Tryz.func113, Tryz.ntmps113
  go_wp2_with fail
  go_loop [3, 4] (fun nv iv => ∃ (i n : Nat), iv = .int .i64 i ∧ nv = .int .i64 n ∧ i ≤ v.length ∧ n ≤ 20000000 ∧ Scr.numL v 0 = Scr.numL (v.drop i) n) (fun _ iv => v.length - (intOf iv).toNat)
  case atStart => exact ⟨0, 0, rfl, rfl, Nat.zero_le _, Nat.zero_le _, rfl⟩
  case round =>
    obtain ⟨i, n, rfl, rfl, hi, hn, hl⟩ := hrel
    have HL := Lib.hid hl
    clear hl
    have hi0 : (0 : Int) ≤ (i : Int) := by omega
    have hn0 : (0 : Int) ≤ (n : Int) := by omega
    by_cases hlt : i < v.length
    · have hb : i < (⟨v.toArray⟩ : ByteArray).size := by show i < v.toArray.size; simpa using hlt
      have hgx : (⟨v.toArray⟩ : ByteArray)[i]'hb = v[i] := rfl
      have HST := Lib.hid (numL_step v i n hlt)
      rw [← hgx] at HST
      have hc0 : (0 : Int) ≤ (((⟨v.toArray⟩ : ByteArray)[i]'hb).toNat : Int) := by omega
      have hc1 : (((⟨v.toArray⟩ : ByteArray)[i]'hb).toNat : Int) ≤ 255 := by have := ((⟨v.toArray⟩ : ByteArray)[i]'hb).toNat_lt; omega
      have HC : Hid (∃ cn : Nat, ((⟨v.toArray⟩ : ByteArray)[i]'hb).toNat = cn) := Lib.hid ⟨_, rfl⟩
      by_cases h1 : ((⟨v.toArray⟩ : ByteArray)[i]'hb).toNat < 48
      · have d1 : decide ((((⟨v.toArray⟩ : ByteArray)[i]'hb).toNat : Int) < 48) = true := decide_eq_true (by omega)
        have hr := HN.out
        rw [HL.out, HST.out, if_pos (.inl h1)] at hr
        obtain rfl : R = -1 := hr
        clear hgx h1
        go_wp2_with fail
        go_ret
        exact ⟨rfl, Keeps.refl _ _⟩
      have d1 : decide ((((⟨v.toArray⟩ : ByteArray)[i]'hb).toNat : Int) < 48) = false := decide_eq_false (by omega)
      by_cases h2 : 57 < ((⟨v.toArray⟩ : ByteArray)[i]'hb).toNat
      · have d2 : decide ((57 : Int) < (((⟨v.toArray⟩ : ByteArray)[i]'hb).toNat : Int)) = true := decide_eq_true (by omega)
        have hr := HN.out
        rw [HL.out, HST.out, if_pos (.inr (.inl h2))] at hr
        obtain rfl : R = -1 := hr
        clear hgx h1 h2
        go_wp2_with fail
        go_ret
        exact ⟨rfl, Keeps.refl _ _⟩
      have d2 : decide ((57 : Int) < (((⟨v.toArray⟩ : ByteArray)[i]'hb).toNat : Int)) = false := decide_eq_false (by omega)
      by_cases h3 : 1048576 < n
      · have d3 : decide ((1048576 : Int) < (n : Int)) = true := decide_eq_true (by omega)
        have hr := HN.out
        rw [HL.out, HST.out, if_pos (.inr (.inr h3))] at hr
        obtain rfl : R = -1 := hr
        clear hgx h1 h2
        go_wp2_with fail
        go_ret
        exact ⟨rfl, Keeps.refl _ _⟩
      have d3 : decide ((1048576 : Int) < (n : Int)) = false := decide_eq_false (by omega)
      have hs := HST.out
      rw [if_neg (by omega)] at hs
      have HS := Lib.hid hs
      have h48 : (48 : Int) ≤ (((⟨v.toArray⟩ : ByteArray)[i]'hb).toNat : Int) := by omega
      have HB := Lib.hid (show ¬ ((⟨v.toArray⟩ : ByteArray)[i]'hb).toNat < 48 ∧ ¬ 57 < ((⟨v.toArray⟩ : ByteArray)[i]'hb).toNat ∧ ¬ 1048576 < n from ⟨h1, h2, h3⟩)
      clear hgx hs h1 h2 h3
      go_wp2_with fail
      go_round
      case rel => exact ⟨i + 1, 10 * n + (((⟨v.toArray⟩ : ByteArray)[i]'hb).toNat - 48), by go_num, by (have := HB.out; congr 1; omega), hlt, by (have := HB.out; omega), HL.out.trans HS.out⟩
      case measure => simp [intOf]; omega
    · have he : i = v.length := by omega
      subst he
      have hl := HL.out
      rw [List.drop_length] at hl
      have hr := HN.out
      rw [hl] at hr
      simp only [Scr.numL] at hr
      have HR := Lib.hid hr
      clear hl hr HN HL
      by_cases h1 : 1048576 < n
      · have d1 : decide ((1048576 : Int) < (n : Int)) = true := decide_eq_true (by omega)
        have hR := HR.out
        rw [if_pos (.inl h1)] at hR
        subst hR
        clear HR
        go_wp2_with fail
        go_ret
        exact ⟨rfl, Keeps.refl _ _⟩
      · have HF := Lib.hid fun V => ref_show10 (n : Int) (by omega) (by omega) V
        rw [show Lib.itoa (n : Int) = Lib.decDigits n by unfold Lib.itoa; rw [if_neg (by omega)]; simp] at HF
        by_cases h2 : Lib.decDigits n = v
        · have d2 : (v == v) = true := by simp
          have hR := HR.out
          rw [if_neg (by simp [h1, h2])] at hR
          subst hR
          rw [h2] at HF
          clear HR h2
          go_wp2_with fail
          refine (HF.out _).mono ?_
          rintro e w1 ⟨rfl, k1⟩
          have K1 := Lib.hid k1
          clear k1
          go_wp2_with fail
          go_ret
          exact ⟨rfl, K1.out⟩
        · have d2 : (Lib.decDigits n == v) = false := beq_eq_false_iff_ne.2 h2
          have hR := HR.out
          rw [if_pos (.inr h2)] at hR
          subst hR
          generalize Lib.decDigits n = D at HF d2
          clear HR h2
          go_wp2_with fail
          refine (HF.out _).mono ?_
          rintro e w1 ⟨rfl, k1⟩
          have K1 := Lib.hid k1
          clear k1
          go_wp2_with fail
          go_ret
          exact ⟨rfl, K1.out⟩
end Go.Proofs.Shed
