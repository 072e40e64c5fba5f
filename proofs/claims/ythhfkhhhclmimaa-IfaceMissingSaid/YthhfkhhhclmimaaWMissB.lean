/- IfaceMissing: the walk: of any acts, and any selectors, it returns true. Conditions: the acts and selectors lie in the world. -/
import Derived.Test.YthhfkhhhclmimaaWMiss
import Derived.IntWalk
set_option linter.unusedVariables false
set_option linter.unusedSimpArgs false
set_option maxRecDepth 10000
set_option maxHeartbeats 8000000
namespace Go.Proofs.Shed
open Go Go.RowKit Go.Proofs.K

theorem miss_long (w : World) (a : Option Addr) (n c : Nat) (sa : Option Addr) (sn sc : Nat) (which : Int) (h : 40 < n ∨ 100 < sn) :
    Calls Try.prog 5 #[.slice a n c, .slice sa sn sc, .int .u8 which] w fun e w' => e = .returned (.bool true) ∧ Keeps (fun _ => False) w w' := by
  have HL := Lib.hid lives12
  by_cases h1 : 40 < n
  · have hb : decide (40 < (n : Int)) = true := by simp; omega
    clear h
    go_enter Try.func5, Try.ntmps5
    go_wp2_with fail
    refine (HL.out _).mono ?_
    rintro e w1 ⟨rfl, k1⟩
    have K1 := Lib.hid k1
    clear k1
    go_wp2_with fail
    refine (HL.out _).mono ?_
    rintro e w2 ⟨rfl, k2⟩
    have K2 := Lib.hid (K1.out.trans k2)
    clear k2
    go_wp2_with fail
    go_ret
    exact ⟨rfl, K2.out⟩
  · have h2 : 100 < sn := by omega
    have h3 : n ≤ 40 := by omega
    have hb : decide (40 < (n : Int)) = false := by simp; omega
    have hb2 : decide (100 < (sn : Int)) = true := by simp; omega
    clear h h1
    go_enter Try.func5, Try.ntmps5
    go_wp2_with fail
    refine (HL.out _).mono ?_
    rintro e w1 ⟨rfl, k1⟩
    have K1 := Lib.hid k1
    clear k1
    go_wp2_with fail
    refine (HL.out _).mono ?_
    rintro e w2 ⟨rfl, k2⟩
    have K2 := Lib.hid (K1.out.trans k2)
    clear k2
    go_wp2_with fail
    go_ret
    exact ⟨rfl, K2.out⟩

theorem miss_walk (w : World) (a : Option Addr) (c : Nat) (D : List Deed) (sa : Option Addr) (sc : Nat) (S : List Int) (which : Nat) (hw : which < 256) (hA : ArgD w a D) (hS : ArgS w sa S) (hD : D.length ≤ 40) (hSl : S.length ≤ 100) :
    Calls Try.prog 5 #[.slice a D.length c, .slice sa S.length sc, .int .u8 which] w fun e w' => e = .returned (.bool true) ∧ Keeps (fun _ => False) w w' := by
  have HL := Lib.hid lives12
  have HA := Lib.hid hA
  have HS := Lib.hid hS
  clear hA hS
  obtain ⟨x0, hx0⟩ := root64
  have HX0 := Lib.hid hx0
  have S0 := Lib.hid (Class.Six.start x0 hx0)
  clear hx0
  have hb : decide (40 < (D.length : Int)) = false := by simp; omega
  have hb2 : decide (100 < (S.length : Int)) = false := by simp; omega
  go_enter Try.func5, Try.ntmps5
  go_wp2_with fail
  refine (HL.out _).mono ?_
  rintro e w1 ⟨rfl, k1⟩
  have K1 := Lib.hid k1
  clear k1 HL
  go_wp2_with fail
  refine (world_new w1 65536 (by omega) (by omega) (by omega) x0 8 0 HX0.out).mono ?_
  rintro e w2 ⟨b, bb, s, rfl, s2, hb1, hbb, hs, k2⟩
  have R2 := Lib.hid (RWorld.start (X := fun g => w1.heap.size ≤ g) 8 s2 k2.size hb1 hbb hs)
  have K2 := Lib.hid (K1.out.trans (k2.trans (Keeps.alloc (fun _ => False) w2 (.cells #[.pointer (some ⟨b, 0, none⟩), .pointer (some ⟨s, 0, none⟩), .int .i64 8, .slice none 0 0, .slice none 0 0] 49))))
  have hB := K1.out.size
  clear s2 k2 hb1 hbb hs
  go_wp2_with fail
  generalize hwb : w2.heap.size = wb at R2 K2 ⊢
  clear hwb hb hb2
  go_loopw [44] (fun iv wr => ∃ i : Nat, iv = .int .i64 i ∧ i ≤ D.length ∧ Misses w1.heap.size wr wb s b bb i ∧ Keeps (fun _ => False) w wr) (fun iv _ => D.length - (intOf iv).toNat)
  case atStart => exact ⟨0, rfl, by omega, ⟨x0, _, _, _, _, _, _, R2.out, S0.out, rfl, by simp, by simp⟩, K2.out⟩
  case round =>
    obtain ⟨i, rfl, hi, hm, hk⟩ := hrel
    have HM := Lib.hid hm
    have HK := Lib.hid hk
    clear hm hk
    by_cases hlt : i < D.length
    · obtain ⟨g, o, rfl, d0', d1', d2', d3', d4', hok⟩ := HA.out i hlt
      have d0 := HK.out.cell d0' id
      have d1 := HK.out.cell d1' id
      have d2 := HK.out.cell d2' id
      have d3 := HK.out.cell d3' id
      have d4 := HK.out.cell d4' id
      clear d0' d1' d2' d3' d4'
      generalize D[i] = d at d0 d1 d2 d3 d4 hok
      obtain ⟨kind, p, cc, sel, xt⟩ := d
      unfold Deed.Ok at hok
      simp only at d0 d1 d2 d3 d4 hok
      obtain ⟨q1, q2, q3, q4, q5, q6, q7⟩ := hok
      have hi0 : (0 : Int) ≤ (i : Int) := by omega
      have KA := Lib.hid (Keeps.alloc (fun _ => False) wr (.cells #[.int .u8 kind, .int .u8 p, .int .u8 cc, .int .i16 sel, .int .i16 xt] 53))
      obtain ⟨x, A, L, aA, cA, aL, cL, hm⟩ := HM.out
      have MA : Misses w1.heap.size (wr.alloc (.cells #[.int .u8 kind, .int .u8 p, .int .u8 cc, .int .i16 sel, .int .i16 xt] 53)) wb s b bb i :=
        ⟨x, A, L, aA, cA, aL, cL, hm.rw_.keeps9 KA.out, hm.six, hm.len, hm.few, hm.own⟩
      have HMK := Lib.hid (miss_make _ _ _ _ _ _ _ MA (by omega) p)
      have KA' := Lib.hid (HK.out.trans KA.out)
      by_cases hk2 : (kind : Int) % 2 = 0
      · have hk2' : ((kind : Int) % 2 == 0) = true := by simp [hk2]
        clear MA hm hk2
        go_wp2_with fail
        refine HMK.out.mono ?_
        rintro e w3 ⟨rfl, m3, k3⟩
        have M3 := Lib.hid m3
        have K3 := Lib.hid (KA'.out.trans' k3 (fun j hj e => by omega))
        clear m3 k3
        go_wp2_with fail
        go_roundw
        case rel => exact ⟨i + 1, by go_num, by omega, M3.out, K3.out⟩
        case measure => simp [intOf]; omega
      · have hk2' : ((kind : Int) % 2 == 0) = false := by simp [hk2]
        have e3 := cell_of (i := 3) (hm.rw_.keeps9 KA.out).head rfl
        by_cases hA0 : A.length = 0
        · have hA0' : ((A.length : Int) == 0) = true := by simp [hA0]
          clear MA hm hk2 hA0
          go_wp2_with fail
          refine HMK.out.mono ?_
          rintro e w3 ⟨rfl, m3, k3⟩
          have M3 := Lib.hid m3
          have K3 := Lib.hid (KA'.out.trans' k3 (fun j hj e => by omega))
          clear m3 k3
          go_wp2_with fail
          go_roundw
          case rel => exact ⟨i + 1, by go_num, by omega, M3.out, K3.out⟩
          case measure => simp [intOf]; omega
        · have hA0' : ((A.length : Int) == 0) = false := by simp; intro h; exact hA0 (by simp [h])
          have hA1 : 0 < (A.length : Int) := by omega
          have e4 := cell_of (i := 4) (hm.rw_.keeps9 KA.out).head rfl
          clear MA hk2 hA0
          have HM1 := Lib.hid hm
          clear hm
          have D3 := cell_of (i := 3) (halloc_at wr (.cells #[.int .u8 kind, .int .u8 p, .int .u8 cc, .int .i16 sel, .int .i16 xt] 53)) rfl
          have D4 := cell_of (i := 4) (halloc_at wr (.cells #[.int .u8 kind, .int .u8 p, .int .u8 cc, .int .i16 sel, .int .i16 xt] 53)) rfl
          have R1 := HM1.out.rw_.keeps9 KA.out
          have hfr := R1.fresh (fun g hg => by have := R1.lts; omega)
          obtain ⟨k, hk⟩ : ∃ k : Nat, (cc : Int) % (A.length : Int) = k := ⟨((cc : Int) % (A.length : Int)).toNat, by have := Int.emod_nonneg (cc : Int) (b := (A.length : Int)) (by omega); omega⟩
          have hkl : k < A.length := by have := Int.emod_lt_of_pos (cc : Int) hA1; omega
          have hkL : k < L.length := by have := HM1.out.len; omega
          have HKK := Lib.hid hk
          clear hk
          have hLl := HM1.out.few
          have hSET := Lib.hid (ref_set _ _ _ _ _ L k sel xt R1.ref HM1.out.six.ref hfr hkL (by omega) (fun y hy => by have := HM1.out.own y hy; omega))
          have HS1 := Lib.hid (HM1.out.six.set hkL sel xt (by unfold In64; omega) (by unfold In64; omega)).1
          have HMS := Lib.hid fun w1 (hk : Keeps (fun _ => False) wr w1) (w2 : World) a5 c5 hm2 k2 hr => miss_set (w := w1) (w1 := w2) ⟨HM1.out.rw_.keeps9 hk, HM1.out.six, HM1.out.len, HM1.out.few, HM1.out.own⟩ hkL sel xt (by unfold In64; omega) (by unfold In64; omega) hm2 k2 (a5 := a5) (c5 := c5) hr
          have HCS := Lib.hid fun w (h : RMem w b bb x.mem) => class_set w b bb x.mem 8 (Class.nth A k) sel xt h
          have hbd := HM1.out.six.bd k hkL
          generalize Ref.set L k sel xt = q at hSET HS1 HMS
          generalize Class.set x.mem 8 (Class.nth A k) sel xt = r at HS1 HMS HCS
          have hne : (r.2 != q.2) = false := by rw [HS1.out]; simp
          obtain ⟨gA, hgA, hga⟩ : ∃ g, aA = some ⟨g, 0, none⟩ ∧ wr.cell? ⟨g, k, none⟩ = some (.int .i64 (Class.nth A k)) := by
            have ho := HM1.out.rw_.own
            rcases Own.form ho with ⟨_, h0, _⟩ | ⟨g, cur, hx, _⟩
            · omega
            · refine ⟨g, hx, ?_⟩
              rw [hx] at ho
              refine Own.cell ho ?_
              rw [List.getElem?_map]
              unfold Class.nth
              rw [List.getD_eq_getElem?_getD, List.getElem?_eq_getElem hkl]
              rfl
          subst hgA
          have hnc : A.length ≤ cA := by
            rcases Own.form HM1.out.rw_.own with ⟨hx, _⟩ | ⟨g, cur, hx, hh, hnc, _⟩
            · cases hx
            · exact hnc
          generalize Class.nth A k = ca at hga HCS
          have hgw : w1.heap.size ≤ gA ∧ gA ≠ wb ∧ gA ≠ s ∧ gA ≠ b ∧ gA ≠ bb := HM1.out.rw_.at_ gA rfl
          have hnw := HM1.out.rw_.ne
          have HR0 := Lib.hid HM1.out.rw_
          have hltr := HM1.out.rw_.lts
          clear R1 hfr
          go_wp2_with fail
          rw [HKK.out]
          refine hSET.out.mono ?_
          rintro e w3 ⟨a5, c5, rfl, r3, k3⟩
          have K13 := Lib.hid (KA.out.trans k3)
          have hwA := World.size_alloc wr (.cells #[.int .u8 kind, .int .u8 p, .int .u8 cc, .int .i16 sel, .int .i16 xt] 53)
          have E0 := cell_of (i := 0) (HR0.out.keeps9 K13.out).head rfl
          have E2 := cell_of (i := 2) (HR0.out.keeps9 K13.out).head rfl
          have E3 := cell_of (i := 3) (HR0.out.keeps9 K13.out).head rfl
          have EA := K13.out.cell hga id
          have E5 := k3.cell D3 id
          have E6 := k3.cell D4 id
          have NB := Lib.hid (show ¬ wb = bb by omega)
          have NG := Lib.hid (show ¬ gA = bb by omega)
          have N9 := Lib.hid (show ¬ wr.heap.size = bb by omega)
          have HQ3 := Lib.hid (HR0.out.keeps9 (K13.out.trans (Keeps.drew _ w3)))
          have hcs := Lib.hid (HCS.out w3.drew HQ3.out.sp.mem)
          have R3 := Lib.hid (r3.keeps (Keeps.drew (fun _ => False) w3) (fun _ _ => id))
          have hw1 : IntKind.i64.wrap sel = sel := IntWalk.i64_in _ (by omega)
          have hw2 : IntKind.i64.wrap xt = xt := IntWalk.i64_in _ (by omega)
          clear r3 k3 D3 D4 hSET hga hwA
          go_wp2_with fail
          go_region_held3 (fun w' => w'.cell? ⟨wb, 0, none⟩ = some (.pointer (some ⟨b, 0, none⟩)) ∧ w'.cell? ⟨wb, 2, none⟩ = some (.int .i64 8) ∧ w'.cell? ⟨wb, 3, none⟩ = some (.slice (some ⟨gA, 0, none⟩) A.length cA) ∧ w'.cell? ⟨gA, k, none⟩ = some (.int .i64 ca) ∧
              w'.cell? ⟨wr.heap.size, 3, none⟩ = some (.int .i16 sel) ∧ w'.cell? ⟨wr.heap.size, 4, none⟩ = some (.int .i16 xt))
            (first | go_keep | exact ⟨k4.cell E0 NB.out, k4.cell E2 NB.out, k4.cell E3 NB.out, k4.cell EA NG.out, k4.cell E5 N9.out, k4.cell E6 N9.out⟩)
            ((go_at_call 26; refine hcs.out.mono ?_; rintro e w4 ⟨rfl, m4, k4⟩))
          have H4 := k4.heap HQ3.out.head NB.out
          have f4 := free_of (i := 4) H4
          have z4 := cell_of (i := 4) H4 rfl
          obtain ⟨M5, K5⟩ := HMS.out w3.drew (K13.out.trans (Keeps.drew _ w3)) w4 a5 c5 m4 k4 R3.out
          have M5' := Lib.hid M5
          have K5' := Lib.hid ((HK.out.trans (K13.out.trans (Keeps.drew _ w3))).trans' K5 (fun j hj e => by omega))
          clear M5 K5 m4 k4
          go_wp2_with fail
          go_roundw
          case rel => exact ⟨i + 1, by go_num, by omega, M5'.out, K5'.out⟩
          case measure => simp [intOf]; omega
    · have hge : i = D.length := by omega
      subst hge
      obtain ⟨x, A, L, aA, cA, aL, cL, hm⟩ := HM.out
      have HM1 := Lib.hid hm
      clear hm
      obtain ⟨v0, rfl⟩ : ∃ v, v = wr := ⟨_, rfl⟩
      go_wp2_with fail
      go_loopw [13, 106] (fun wv iv wq => ∃ (P R : List Int) (wa : Option Addr) (wc : Nat), wv = .slice wa P.length wc ∧ iv = .int .i64 P.length ∧ P ++ R = S ∧ OwnI v0 wq wa wc P ∧ Keeps (fun _ => False) v0 wq)
        (fun _ iv _ => S.length - (intOf iv).toNat)
      case atStart => exact ⟨[], S, none, 0, rfl, rfl, rfl, OwnI.nil _ _, Keeps.refl _ _⟩
      case round =>
        obtain ⟨P, R, wa, wc, rfl, rfl, hPR, hw', hk'⟩ := hrel
        have HW := Lib.hid hw'
        have HKw := Lib.hid hk'
        clear hw' hk'
        cases R with
        | cons n R =>
          have hlt : P.length < S.length := by rw [← hPR, List.length_append, List.length_cons]; omega
          obtain ⟨g, o, rfl, d0', n0, n1⟩ := HS.out P.length hlt
          have hn : S[P.length] = n := by
            simp only [← hPR]
            rw [List.getElem_append_right (Nat.le_refl _)]
            simp
          rw [hn] at d0' n0 n1
          have d0 := (HK.out.trans HKw.out).cell d0' id
          have HPR := Lib.hid (show (P ++ [n]) ++ R = S by rw [← hPR]; simp)
          have hPl : P.length ≤ 100 := by omega
          have hP0 : (0 : Int) ≤ (P.length : Int) := by omega
          clear d0' hn hPR
          go_wp2_with (first
            | (at_builtin; refine wpList_app rfl _ _ 46 rfl 2 _ 1 8 Try.underlying46 infoInt rfl (by decide) wa P.length wc (intV P) rfl ?t1 ⟨wr.heap.size, 0, none⟩ 1 1 [.int .i64 n] rfl rfl (int_news wr n) (int_one n) ?t3 ?t4 ?_))
          case t1 => exact HW.out.1.keeps (Keeps.alloc (fun _ => False) wr _) (fun _ _ => id)
          case t3 => unfold maxLen; omega
          case t4 => omega
          intro a4 c4 w4 o4 k4 l4
          have hsz := HKw.out.size
          have ka := Keeps.alloc (fun _ => False) wr (.cells #[.int .i64 n] 2)
          have O4 := Lib.hid ((HW.out.keeps ka (fun _ _ => id)).more n o4 _ l4 (by omega))
          have K4 := Lib.hid ((HKw.out.trans ka).trans' k4 (fun i hi e => absurd (HW.out.2 i e) (by omega)))
          clear ka o4 k4 l4
          go_wp2_with fail
          go_roundw
          case rel => exact ⟨P ++ [n], R, a4, c4, by rw [List.length_append]; rfl, by rw [List.length_append, List.length_singleton]; go_num, HPR.out, O4.out, K4.out⟩
          case measure => simp [intOf]; omega
        | nil =>
          rw [List.append_nil] at hPR
          subst hPR
          have hcap := HW.out.cap
          have RW := Lib.hid (HM1.out.rw_.keeps9 HKw.out)
          have K6 := Lib.hid (HK.out.trans HKw.out)
          have SW := Lib.hid fun n (hn : n ∈ P) => (show -32768 ≤ n ∧ n ≤ 32767 from by
            obtain ⟨i, hi, rfl⟩ := List.getElem_of_mem hn
            obtain ⟨_, _, _, _, h0, h1⟩ := HS.out i hi
            exact ⟨h0, h1⟩)
          obtain ⟨y, e1, e2, e3, e4, e5⟩ := HM1.out.six.iface (by have := HM1.out.few; omega) P (fun n hn => by have := SW.out n hn; unfold In64; omega) hSl
          have hne := RW.out.lts
          have hN := Lib.hid (iface_new wr s b bb x wa wc P RW.out.sp HW.out.arg (by omega) (fun _ g hg => by
            have h1 := HW.out.2 g hg
            have h2 := HM1.out.rw_.lts
            omega))
          rw [e1] at hN
          have E1 := Lib.hid e1
          have E4 := Lib.hid e4
          have E5 := Lib.hid e5
          have cs := cell_of (i := 1) RW.out.head rfl
          have hxh : -9223372036854775808 ≤ x.here ∧ x.here ≤ 9223372036854775807 := by
            obtain ⟨T, hg, ha, h1, h2, h3, h4, h5⟩ := HM1.out.six
            have := HM1.out.few
            omega
          clear e1 e4 e5
          go_wp2_with fail
          refine hN.out.mono ?_
          rintro e w7 ⟨rfl, s7, k7⟩
          have R7 := Lib.hid (RW.out.space s7 k7)
          have K7 := Lib.hid (K6.out.trans' k7 (fun j hj e => by have := HM1.out.rw_.lts; omega))
          have W7 := Lib.hid (HW.out.keeps k7 (fun g hg => by have h1 := HW.out.2 g hg; have h2 := HM1.out.rw_.lts; omega))
          have F0 := cell_of (i := 0) R7.out.head rfl
          have F3 := cell_of (i := 3) R7.out.head rfl
          have hM3 := Lib.hid (iface_missing w7 b bb y.mem x.here 3 R7.out.sp.mem (by omega) (by omega))
          rw [E4.out] at hM3
          clear s7 k7
          go_wp2_with fail
          refine hM3.out.mono ?_
          rintro e w8 ⟨rfl, k8⟩
          have R8 := Lib.hid (R7.out.keeps9 k8)
          have K8 := Lib.hid (K7.out.trans k8)
          have G0 := k8.cell F0 id
          have G3 := k8.cell F3 id
          have W8 := Lib.hid (W7.out.keeps k8 (fun _ _ => id))
          clear k8 F0 F3
          by_cases hA0 : A.length = 0
          · have hA0' : ((A.length : Int) == 0) = true := by simp [hA0]
            clear hA0
            go_wp2_with fail
            go_ret
            exact ⟨rfl, K8.out⟩
          · have hA0' : ((A.length : Int) == 0) = false := by simp; intro h; exact hA0 (by simp [h])
            have hA1 : 0 < (A.length : Int) := by omega
            obtain ⟨k, hk⟩ : ∃ k : Nat, (which : Int) % (A.length : Int) = k := ⟨((which : Int) % (A.length : Int)).toNat, by have := Int.emod_nonneg (which : Int) (b := (A.length : Int)) (by omega); omega⟩
            have hkl : k < A.length := by have := Int.emod_lt_of_pos (which : Int) hA1; omega
            have hkL : k < L.length := by have := HM1.out.len; omega
            have HKK := Lib.hid hk
            clear hk hA0
            obtain ⟨gA, hgA, hga⟩ : ∃ g, aA = some ⟨g, 0, none⟩ ∧ w8.cell? ⟨g, k, none⟩ = some (.int .i64 (Class.nth A k)) := by
              have ho := R8.out.own
              rcases Own.form ho with ⟨_, h0, _⟩ | ⟨g, cur, hx, _⟩
              · omega
              · refine ⟨g, hx, ?_⟩
                rw [hx] at ho
                refine Own.cell ho ?_
                rw [List.getElem?_map]
                unfold Class.nth
                rw [List.getD_eq_getElem?_getD, List.getElem?_eq_getElem hkl]
                rfl
            subst hgA
            have hnc : A.length ≤ cA := by
              rcases Own.form R8.out.own with ⟨hx, _⟩ | ⟨g, cur, hx, hh, hnc, _⟩
              · cases hx
              · exact hnc
            have hcab := HM1.out.six.bd k hkL
            have h5 := E5.out k hkL
            generalize Class.nth A k = ca at hga hcab h5
            have hMm := Lib.hid fun (i : Stay w8) => iface_missing i.1 b bb y.mem x.here ca (R8.out.sp.mem.keeps i.2 id id) (by omega) (by omega)
            rw [h5] at hMm
            generalize hf : Iface.first L k P = f at hMm h5
            have HF := Lib.hid hf
            have g0 := fun (i : Stay w8) => i.2.cell G0 id
            have g3 := fun (i : Stay w8) => i.2.cell G3 id
            have ga := fun (i : Stay w8) => i.2.cell hga id
            clear hf h5
            go_wp2_with fail
            rw [HKK.out]
            refine Go.Proofs.K.wp_region_calm ?calm1a ?calm1b ?_
            case calm1a => kernel_rfl
            case calm1b => kernel_rfl
            repeat ((with_reducible refine wpQuiet_step ?_); intro Kq hKq; go_simp; first | ((with_reducible refine hKq _ ?_); clear hKq Kq) | (refine hKq _ ?_; clear hKq Kq) | (apply Exists.intro; refine ⟨fun _ => ?_, hKq _ ?_⟩; (exact K.calm_of (hMm.out _)); clear hKq Kq))
            with_reducible refine wpQuiet_nil ?_
            intro _ hw'
            obtain ⟨⟨wq, kq⟩, hw''⟩ := hw'
            subst hw''
            have K9 := Lib.hid kq
            have HLn := HM1.out.few
            clear kq g0 g3 ga G0 G3 hga
            go_wp2_with fail
            go_loopw [160] (fun iv wr => ∃ j : Nat, iv = .int .i64 j ∧ j ≤ P.length ∧ Keeps (fun _ => False) w8 wr ∧ Iface.first L k (P.drop j) = f) (fun iv _ => P.length - (intOf iv).toNat)
            case atStart => exact ⟨0, rfl, by omega, K9.out, HF.out⟩
            case round =>
              obtain ⟨j, rfl, hj, hkj, hfj⟩ := hrel
              have HKj := Lib.hid hkj
              clear hkj
              by_cases hlt : j < P.length
              · rw [List.drop_eq_getElem_cons hlt, Iface.first] at hfj
                obtain ⟨g, o, rfl, d0'⟩ := W8.out.arg j hlt
                have d0 := HKj.out.cell d0' id
                have hj0 : (0 : Int) ≤ (j : Int) := by omega
                clear d0'
                generalize P[j] = n at d0 hfj
                have R10 := R8.out.keeps9 HKj.out
                have c4 := cell_of (i := 4) R10.head rfl
                have hWk := Lib.hid (ref_walk _ _ _ _ _ L k n R10.ref HM1.out.six.ref (by omega) (by omega) (by omega) (fun y hy => by have := HM1.out.own y hy; omega))
                generalize Ref.walk L k n = q at hfj hWk
                clear R10
                cases q with
                | none =>
                  rw [if_neg (by simp)] at hfj
                  subst hfj
                  unfold walkV at hWk
                  go_wp2_with fail
                  refine hWk.out.mono ?_
                  rintro e w10 ⟨rfl, k10⟩
                  have K10 := Lib.hid (HKj.out.trans k10)
                  clear k10
                  go_wp2_with fail
                  go_ret
                  exact ⟨rfl, K8.out.trans K10.out⟩
                | some y =>
                  rw [if_pos (by simp)] at hfj
                  have HFJ := Lib.hid hfj
                  clear hfj
                  unfold walkV at hWk
                  go_wp2_with fail
                  refine hWk.out.mono ?_
                  rintro e w10 ⟨rfl, k10⟩
                  have K10 := Lib.hid (HKj.out.trans k10)
                  clear k10
                  go_wp2_with fail
                  go_roundw
                  case rel => exact ⟨j + 1, by go_num, by omega, K10.out, HFJ.out⟩
                  case measure => simp [intOf]; omega
              · rw [List.drop_eq_nil_of_le (by omega), Iface.first] at hfj
                subst hfj
                go_wp2_with fail
                go_ret
                exact ⟨rfl, K8.out.trans HKj.out⟩
end Go.Proofs.Shed
