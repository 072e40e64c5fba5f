/- slices.Reverse of bytes, in a row of one's own. No condition but on its length. Layer 3: Right, Unsigned. Condition: the numbers are of their kinds. Layer 3: Show, of numbers that are not below 0. Condition: the base may be. -/
import Derived.Test.YthhfkhhhclmimaaGreatDoorMWA
import Derived.Test.YthhfkhhhclmimaaGreatDoorMWM
import Derived.Test.YthhfkhhhclmimaaGreatDoorMPA
import Derived.Test.YthhfkhhhclmimaaGreatDoorProg
import Derived.Laws.IdiomStrings
import Derived.IntWalk
set_option linter.unusedVariables false
set_option linter.unusedSimpArgs false
set_option maxRecDepth 10000
set_option maxHeartbeats 1000000
namespace Go.Proofs.Shed
open Go Go.RowKit Go.Proofs.K

def midB (L : List UInt8) (k p : Nat) : UInt8 := if p < k ∨ L.length ≤ p + k then L.getD (L.length - 1 - p) 0 else L.getD p 0
theorem midB_step (L : List UInt8) (k p : Nat) (hk : 2 * (k + 1) ≤ L.length) (h1 : p ≠ k) (h2 : p + k + 1 ≠ L.length) : midB L (k + 1) p = midB L k p := by
  unfold midB
  by_cases h : p < k ∨ L.length ≤ p + k
  · rw [if_pos (by omega), if_pos h]
  · rw [if_neg (by omega), if_neg h]
theorem midB_at (L : List UInt8) (k p : Nat) (hk : 2 * (k + 1) ≤ L.length) (h : p = k ∨ p + k + 1 = L.length) : midB L (k + 1) p = L.getD (L.length - 1 - p) 0 ∧ midB L k p = L.getD p 0 := by
  unfold midB
  rw [if_pos (by omega), if_neg (by omega)]
  exact ⟨rfl, rfl⟩
theorem midB_all (L : List UInt8) (p : Nat) (hp : p < L.length) : midB L (L.length / 2) p = L.reverse[p]'(by simpa using hp) := by
  rw [List.getElem_reverse]
  unfold midB
  split
  · rw [List.getD_eq_getElem?_getD, List.getElem?_eq_getElem (by omega)]; rfl
  · have e : p = L.length - 1 - p := by omega
    rw [List.getD_eq_getElem?_getD, List.getElem?_eq_getElem hp, Option.getD_some]
    congr 1
def RevBPost (g n : Nat) (t : TypeId) (s : Nat) (L : List UInt8) (w : World) (e : Ending) (w' : World) : Prop :=
  e = .returned (.tuple #[]) ∧ (∃ cur, w'.heap[g]? = some (.cells cur t (0, 0)) ∧ cur.size = s ∧ ∀ p, p < n → cur[p]? = some (.int .u8 ((midB L (n / 2) p).toNat : Int))) ∧ Keeps (fun k => k = g) w w'
theorem revB_some (w : World) (g n c s : Nat) (t : TypeId) (cur : Array Value) (L : List UInt8) (hg : w.heap[g]? = some (.cells cur t (0, 0))) (hc : cur.size = s) (hn : n ≤ s) (hL : L.length = n) (hb : n ≤ 10000000) (h1 : 1 ≤ n)
    (hcur : ∀ i, (hi : i < L.length) → cur[i]? = some (.int .u8 (L[i].toNat : Int))) :
    Calls Tryz.prog 157 #[.slice (some ⟨g, 0, none⟩) n c] w (RevBPost g n t s L w) := by
  have Hcur := Lib.hid hcur
  have HL := Lib.hid hL
  have Hg := Lib.hid hg
  have Hc := Lib.hid hc
  clear hcur hL hg hc
  go_enter Tryz.func157, Tryz.ntmps157
  go_wp2_with fail
  go_loopw [2, 3] (fun i j wr => ∃ (k l : Nat) (cur : Array Value), 2 * k ≤ n ∧ k + l + 1 = n ∧ i = .int .i64 k ∧ j = .int .i64 l ∧ wr.heap[g]? = some (.cells cur t (0, 0)) ∧ cur.size = s ∧
      (∀ p, p < n → cur[p]? = some (.int .u8 ((midB L k p).toNat : Int))) ∧ Keeps (fun k => k = g) w wr) (fun i _ _ => n - (intOf i).toNat)
  case atStart =>
    refine ⟨0, n - 1, cur, by omega, by omega, rfl, by go_num, Hg.out, Hc.out, fun p hp => ?_, Keeps.refl _ _⟩
    have hpL : p < L.length := by rw [HL.out]; exact hp
    rw [Hcur.out p hpL]
    unfold midB
    rw [if_neg (by omega), List.getD_eq_getElem?_getD, List.getElem?_eq_getElem hpL]
    rfl
  case round =>
    obtain ⟨k, l, cur, hk, hkl, rfl, rfl, hr, hs, hf, hw⟩ := hrel
    have HW := Lib.hid hw
    have HR := Lib.hid hr
    have HS := Lib.hid hs
    have HF := Lib.hid hf
    by_cases hlt : k < l
    · have F := cell_of hr (hf k (by omega))
      have G := cell_of hr (hf l (by omega))
      obtain ⟨mk1, mk2⟩ := midB_at L k k (by rw [HL.out]; omega) (.inl rfl)
      obtain ⟨ml1, ml2⟩ := midB_at L k l (by rw [HL.out]; omega) (.inr (by rw [HL.out]; omega))
      rw [show L.length - 1 - k = l by rw [HL.out]; omega] at mk1
      rw [show L.length - 1 - l = k by rw [HL.out]; omega] at ml1
      rw [mk2] at F
      rw [ml2] at G
      have hstep := fun p h1 h2 => midB_step L k p (by rw [HL.out]; omega) h1 h2
      generalize L.getD k 0 = x at F mk1 ml1 mk2
      generalize L.getD l 0 = y at G mk1 ml1 ml2
      have fr := fun i => free_of (i := i) hr
      have M : Hid (∃ cur', ((wr.setCell ⟨g, k, none⟩ (.int .u8 (y.toNat : Int))).setCell ⟨g, l, none⟩ (.int .u8 (x.toNat : Int))).drew.heap[g]? = some (.cells cur' t (0, 0)) ∧ cur'.size = s ∧ (∀ p, p < n → cur'[p]? = some (.int .u8 ((midB L (k + 1) p).toNat : Int)))) := by
        refine ⟨_, hset_same (hset_same hr _) _, by rw [Array.size_setIfInBounds, Array.size_setIfInBounds]; exact hs, fun p hp => ?_⟩
        rw [Array.getElem?_setIfInBounds, Array.getElem?_setIfInBounds, Array.size_setIfInBounds]
        by_cases e1 : l = p
        · rw [if_pos e1, if_pos (by omega), ← e1, ml1]
        · rw [if_neg e1]
          by_cases e2 : k = p
          · rw [if_pos e2, if_pos (by omega), ← e2, mk1]
          · rw [if_neg e2, hf p hp, hstep p (fun e => e2 e.symm) (by rw [HL.out]; omega)]
      have KM : Hid (Keeps (fun k => k = g) w ((wr.setCell ⟨g, k, none⟩ (.int .u8 (y.toNat : Int))).setCell ⟨g, l, none⟩ (.int .u8 (x.toNat : Int))).drew) :=
        (hw.trans ((Keeps.setCell (S := fun k => k = g) wr ⟨g, k, none⟩ (.int .u8 (y.toNat : Int)) (fun _ => rfl)).trans (Keeps.setCell (S := fun k => k = g) _ ⟨g, l, none⟩ (.int .u8 (x.toNat : Int)) (fun _ => rfl)))).trans (Keeps.drew _ _)
      clear mk1 mk2 ml1 ml2 hstep hr hs hf hw HR HS HF
      have hb1 : (k : Int) < n := by omega
      have hb2 : (l : Int) < n := by omega
      have hb3 : (0 : Int) ≤ k := by omega
      have hb4 : (0 : Int) ≤ l := by omega
      go_wp2_with fail
      go_region
      go_wp2_with fail
      go_roundw
      case rel =>
        obtain ⟨cur', q1, q2, q3⟩ := M.out
        exact ⟨k + 1, l - 1, cur', by omega, by omega, by go_num, by go_num, q1, q2, q3, KM.out⟩
      case measure => simp [intOf]; omega
    · have hke : k = n / 2 := by omega
      have hge : (l : Int) ≤ k := by omega
      go_wp2_with fail
      go_end0
      exact ⟨rfl, ⟨cur, HR.out, HS.out, by rw [← hke]; exact HF.out⟩, HW.out⟩
end Go.Proofs.Shed
set_option linter.unusedVariables false
set_option linter.unusedSimpArgs false
set_option maxRecDepth 10000
set_option maxHeartbeats 4000000
namespace Go.Proofs.Shed
open Go Go.RowKit Go.Proofs.K
theorem num_right (w : World) (b : Int) : Calls Tryz.prog 90 #[.int .i64 b] w fun e w' => e = .returned (.bool (Num.right b)) ∧ w = w' := by
  have HB : Hid (Num.right b = (decide (2 ≤ b) && decide (b ≤ 36))) := rfl
  generalize Num.right b = r at HB ⊢
  by_cases h1 : 2 ≤ b
  · have d1 : decide (2 ≤ b) = true := decide_eq_true h1
    by_cases h2 : b ≤ 36
    · have d2 : decide (b ≤ 36) = true := decide_eq_true h2
      go_enter Tryz.func90, Tryz.ntmps90
      go_wp2_with fail
      go_ret
      exact ⟨by rw [HB.out, d1, d2]; rfl, rfl⟩
    · have d2 : decide (b ≤ 36) = false := decide_eq_false h2
      go_enter Tryz.func90, Tryz.ntmps90
      go_wp2_with fail
      go_ret
      exact ⟨by rw [HB.out, d1, d2]; rfl, rfl⟩
  · have d1 : decide (2 ≤ b) = false := decide_eq_false h1
    go_enter Tryz.func90, Tryz.ntmps90
    go_wp2_with fail
    go_ret
    exact ⟨by rw [HB.out, d1]; rfl, rfl⟩
def byteV (L : List UInt8) : List Value := L.map fun b => .int .u8 (b.toNat : Int)
theorem num_unsigned (w : World) (n : Nat) (b : Nat) (hn : n < 18446744073709551616) (h2 : 2 ≤ b) (h36 : b ≤ 36) :
    Calls Tryz.prog 91 #[.int .u64 (n : Int), .int .i64 (b : Int)] w fun e w' => e = .returned (.string ⟨(Num.unsigned n b).toArray⟩) ∧ Keeps (fun _ => False) w w' := by
  have hr : Num.right (b : Int) = true := by unfold Num.right; simp; omega
  have hR := num_right w b
  rw [hr] at hR
  have HR := Lib.hid hR
  clear hR hr
  go_enter Tryz.func91, Tryz.ntmps91
  go_wp2_with fail
  refine HR.out.mono ?_
  rintro e w1 ⟨rfl, rfl⟩
  go_wp2_with fail
  go_loopw [0, 5] (fun nv ov wr => ∃ (k m : Nat) (P : List UInt8) (a : Option Addr) (c : Nat), nv = .int .u64 (m : Int) ∧ ov = .slice a P.length c ∧ P ++ Num.figsN b (k + 1) m = Num.figsN b 64 n ∧ m < 2 ^ (k + 1) ∧ P.length + k + 1 = 64 ∧
      Own wr 5 1 a P.length c (byteV P) ∧ (∀ g, blk a = some g → w.heap.size ≤ g) ∧ Keeps (fun _ => False) w wr) (fun nv _ _ => (intOf nv).toNat)
  case atStart => exact ⟨63, n, [], none, 0, rfl, rfl, rfl, by simpa using hn, rfl, Own.nil _ _ _, (fun g e => nomatch e), Keeps.refl _ _⟩
  case round =>
    obtain ⟨k, m, P, a, c, rfl, rfl, hP, hm, hl, ho, hb, hk⟩ := hrel
    have hm0 : (0 : Int) ≤ (m : Int) := by omega
    have hm1 : m < 18446744073709551616 := Nat.lt_of_lt_of_le hm (by
      have : k + 1 ≤ 64 := by omega
      calc 2 ^ (k + 1) ≤ 2 ^ 64 := Nat.pow_le_pow_right (by omega) this
        _ = 18446744073709551616 := by decide)
    have HP := Lib.hid hP
    have HM := Lib.hid hm
    have HO := Lib.hid ho
    have HB := Lib.hid hb
    have HK := Lib.hid hk
    clear hP hm ho hb hk
    have hmb : m % b < 36 := Nat.lt_of_lt_of_le (Nat.mod_lt _ (by omega)) h36
    go_wp2_with (first
      | (at_builtin; (refine wpList_app rfl _ _ 143 rfl 5 _ 1 1 Tryz.underlying143 infoU8 rfl (by decide) a P.length c (byteV P) rfl ?f1 ⟨wr.heap.size, 0, none⟩ 1 1 [Value.int .u8 ((Num.fig (m % b)).toNat : Int)] rfl rfl ?f2 ?f25 ?f3 ?f4 ?_)))
    case f1 => exact HO.out.keeps (Keeps.alloc (fun _ => False) wr _) (fun _ _ => id)
    case f3 => unfold maxLen; omega
    case f4 => omega
    case f2 =>
      intro j u hu
      rw [Addr.add_lit, Nat.zero_add]
      refine cell_of (halloc_at _ _) ?_
      rw [Num.fig_is _ hmb]
      simpa using hu
    case f25 =>
      intro u hu
      simp only [List.mem_cons, List.not_mem_nil, or_false] at hu
      subst hu
      rfl
    intro a4 c4 w4 o4 k4 l4
    have O4 := Lib.hid (show Own w4 5 1 a4 (P ++ [Num.fig (m % b)]).length c4 (byteV (P ++ [Num.fig (m % b)])) from by
      rw [List.length_append, show byteV (P ++ [Num.fig (m % b)]) = byteV P ++ [Value.int .u8 ((Num.fig (m % b)).toNat : Int)] by simp [byteV]]
      exact o4)
    have B4 := Lib.hid (show ∀ g, blk a4 = some g → w.heap.size ≤ g from fun g hg => by
      have := HK.out.size
      rcases l4 with l4 | l4
      · exact HB.out g (l4 ▸ hg)
      · rw [l4] at hg; have := Option.some.inj hg; omega)
    have K4 := Lib.hid ((HK.out.trans (Keeps.alloc (fun _ => False) wr _)).trans' k4 (fun j hj e => absurd (HB.out j e) (by omega)))
    have HDV := Lib.hid (show (m : Int) / (b : Int) = ((m / b : Nat) : Int) by push_cast; rfl)
    have hstep : Num.figsN b (k + 1) m = Num.fig (m % b) :: (if m / b = 0 then [] else Num.figsN b k (m / b)) := rfl
    have HST := Lib.hid hstep
    clear o4 k4 l4 hstep
    have hdb : 0 ≤ (m : Int) / (b : Int) ∧ (m : Int) / (b : Int) < 18446744073709551616 := by
      rw [HDV.out]
      exact ⟨Int.natCast_nonneg _, Int.ofNat_lt.2 (Nat.lt_of_le_of_lt (Nat.div_le_self m b) hm1)⟩
    have hwu : IntKind.u64.wrap ((m : Int) / (b : Int)) = (m : Int) / (b : Int) := IntWalk.u64_in _ (by omega)
    by_cases hq : m / b = 0
    · have hF : P ++ [Num.fig (m % b)] = Num.figsN b 64 n := by
        rw [← HP.out, HST.out, if_pos hq]
      have HF := Lib.hid hF
      have hq0 : ((m : Int) / (b : Int) == 0) = true := by rw [HDV.out, hq]; rfl
      have hl6 : (P ++ [Num.fig (m % b)]).length ≤ 64 := by rw [List.length_append, List.length_singleton]; omega
      have hl1 : 1 ≤ (P ++ [Num.fig (m % b)]).length := by rw [List.length_append, List.length_singleton]; omega
      clear hq hF
      obtain ⟨g, cur, rfl, hh, hnc, hcm, hcs, htk⟩ : ∃ g cur, a4 = some ⟨g, 0, none⟩ ∧ w4.heap[g]? = some (.cells cur 5 (0, 0)) ∧ (P.length + 1) ≤ c4 ∧ c4 ≤ maxLen ∧ cur.size = c4 ∧ cur.toList.take (P.length + 1) = byteV (P ++ [Num.fig (m % b)]) := by
        rcases Own.form O4.out with ⟨_, h0, _⟩ | ⟨g, cur, h0, h1, h2, h3, h4, h5, _⟩
        · omega
        · rw [List.length_append, List.length_singleton] at h2 h5
          exact ⟨g, cur, h0, h1, h2, h3, by omega, by simpa using h5⟩
      have hrv := revB_some w4 g (P.length + 1) c4 c4 5 cur (P ++ [Num.fig (m % b)]) hh hcs hnc (by simp) (by omega) (by omega) (fun i hi => by
        have hi2 : i < P.length + 1 := by simpa using hi
        have h9 : (byteV (P ++ [Num.fig (m % b)]))[i]? = some (.int .u8 ((P ++ [Num.fig (m % b)])[i].toNat : Int)) := by
          unfold byteV
          rw [List.getElem?_map, List.getElem?_eq_getElem hi]
          rfl
        rw [← htk, List.getElem?_take_of_lt hi2, Array.getElem?_toList] at h9
        exact h9)
      have HRV := Lib.hid hrv
      clear hrv hh hcs htk
      go_wp2_with fail
      refine HRV.out.mono ?_
      rintro e w5 ⟨rfl, ⟨cur5, r1, r2, r3⟩, k5⟩
      have hu : Num.unsigned (n : Int) (b : Int) = (P ++ [Num.fig (m % b)]).reverse := by
        unfold Num.unsigned
        rw [if_pos (by unfold Num.right; simp; omega), HF.out]
        simp
      have hcv := run_convert_bytes_back (P := Tryz.prog) w5 143 9 5 ⟨g, 0, none⟩ c4 (P ++ [Num.fig (m % b)]).reverse Tryz.underlying143 Tryz.underlying5 Tryz.underlying9 (fun j hj => by
        have hj2 : j < (P ++ [Num.fig (m % b)]).length := by simpa using hj
        rw [Addr.add_lit, Nat.zero_add]
        refine cell_of r1 ?_
        rw [r3 j (by simpa using hj2), show P.length + 1 = (P ++ [Num.fig (m % b)]).length by simp, midB_all _ j hj2])
      rw [show (P ++ [Num.fig (m % b)]).reverse.length = P.length + 1 by simp] at hcv
      have HU := Lib.hid hu
      have K5 := Lib.hid (K4.out.trans' k5 (fun j hj e => by have := B4.out g rfl; omega))
      clear r1 r2 r3 k5 hu
      generalize (P ++ [Num.fig (m % b)]).reverse = R at hcv HU
      go_wp2_with fail
      go_ret
      exact ⟨by rw [HU.out]; rfl, K5.out⟩
    · have hk0 : 1 ≤ k := by
        rcases Nat.eq_zero_or_pos k with e | e
        · exfalso
          have hm2 := HM.out
          rw [e] at hm2
          have : m < b := by omega
          rw [Nat.div_eq_of_lt this] at hq
          exact hq rfl
        · exact e
      have hF : (P ++ [Num.fig (m % b)]) ++ Num.figsN b k (m / b) = Num.figsN b 64 n := by
        rw [← HP.out, HST.out, if_neg hq]
        simp
      have HF := Lib.hid hF
      have hq0 : ((m : Int) / (b : Int) == 0) = false := by rw [HDV.out, beq_eq_false_iff_ne]; omega
      have hlt : m / b < 2 ^ k := by
        have hm2 := HM.out
        rw [Nat.div_lt_iff_lt_mul (by omega)]
        calc m < 2 ^ (k + 1) := hm2
          _ = 2 ^ k * 2 := by rw [Nat.pow_succ]
          _ ≤ 2 ^ k * b := Nat.mul_le_mul_left _ h2
      have HLT := Lib.hid hlt
      have HQ := Lib.hid hq
      clear hF hq hlt
      go_wp2_with fail
      go_roundw
      case rel =>
        obtain ⟨k', rfl⟩ : ∃ k', k = k' + 1 := ⟨k - 1, by omega⟩
        exact ⟨k', m / b, P ++ [Num.fig (m % b)], a4, c4, by rw [HDV.out], by rw [List.length_append]; rfl, HF.out, HLT.out, by rw [List.length_append, List.length_singleton]; omega, O4.out, B4.out, K4.out⟩
      case measure =>
        rw [HDV.out]
        have hm9 : m / b < m := Nat.div_lt_self (by have := HLT.out; rcases Nat.eq_zero_or_pos m with e | e; exact absurd (by rw [e]; exact Nat.zero_div _) HQ.out; exact e) (by omega)
        simp [intOf]
        omega
end Go.Proofs.Shed
set_option linter.unusedVariables false
set_option linter.unusedSimpArgs false
set_option maxRecDepth 10000
set_option maxHeartbeats 4000000
namespace Go.Proofs.Shed
open Go Go.RowKit Go.Proofs.K
theorem num_show_nn (w : World) (n b : Nat) (n1 : n ≤ 9223372036854775807) (h2 : 2 ≤ b) (h36 : b ≤ 36) :
    Calls Tryz.prog 39 #[.int .i64 (n : Int), .int .i64 (b : Int)] w fun e w' => e = .returned (.string ⟨(Num.show_ n b).toArray⟩) ∧ Keeps (fun _ => False) w w' := by
  have hs : Num.show_ n b = Num.unsigned (n : Nat) b := by
    unfold Num.show_
    rw [if_neg (by omega), show (n : Int) % 18446744073709551616 = n by omega]
  have HS := Lib.hid hs
  have hU := Lib.hid fun V => num_unsigned V n b (by omega) h2 h36
  generalize Num.unsigned (n : Nat) b = R at HS hU
  have hc : IntKind.u64.wrap (n : Int) = (n : Int) := by rw [IntKind.wrap_u64]; omega
  have d1 : decide ((n : Int) < 0) = false := decide_eq_false (by omega)
  clear hs
  go_enter Tryz.func39, Tryz.ntmps39
  go_wp2_with fail
  refine (hU.out _).mono ?_
  rintro e w2 ⟨rfl, k2⟩
  have K2 := Lib.hid k2
  clear k2
  go_wp2_with fail
  go_ret
  refine ⟨?_, K2.out⟩
  rw [HS.out]
  rfl
end Go.Proofs.Shed
