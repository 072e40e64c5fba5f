/- Layer 22: the reference's Parse. Condition: the text is not too long. -/
import Derived.Test.YthhfkhhhclmimaaGreatDoorMSH
import Derived.Test.YthhfkhhhclmimaaGreatDoorMWScrG
set_option linter.unusedVariables false
set_option linter.unusedSimpArgs false
set_option maxRecDepth 10000
set_option maxHeartbeats 4000000
namespace Go.Proofs.Shed
open Go Go.RowKit Go.Proofs.K
def rfCells (s : Scr.Sc) : Array Value := #[.int .i64 s.dict, .int .i64 s.data, .int .i64 s.ret, .int .i64 s.heap, .int .i64 s.slots, .int .i64 s.fuel, .string ⟨s.inp.toArray⟩, .string ⟨s.text.toArray⟩]
def RRf (w : World) (g : Nat) (s : Scr.Sc) : Prop := w.heap[g]? = some (.cells (rfCells s) 137 (0, 0))
def rfV (s : Scr.Sc) : Value := .agg (rfCells s)
theorem RRf.set (w : World) (g i : Nat) (s : Scr.Sc) (k : Int) (hi : i < 6) (h : RRf w g s) : RRf (w.setCell ⟨g, i, none⟩ (.int .i64 k)) g (s.set i k) := by
  have h1 := hset_same (i := i) h (.int .i64 k)
  match i, hi with
  | 0, _ => exact h1
  | 1, _ => exact h1
  | 2, _ => exact h1
  | 3, _ => exact h1
  | 4, _ => exact h1
  | 5, _ => exact h1
def RefRes (w : World) (R : Option Scr.Sc × Int) (e : Ending) (w' : World) : Prop := e = .returned (.tuple #[rfV (R.1.getD Scr.Sc.zero), .int .i64 R.2]) ∧ Keeps (fun _ => False) w w'
theorem placeI_none {w : List UInt8} (h : Scr.place w = none) : placeI w = -1 := by unfold placeI; rw [h]
theorem placeI_some {w : List UInt8} {i : Nat} (h : Scr.place w = some i) : placeI w = (i : Int) := by unfold placeI; rw [h]
theorem numI_none {w : List UInt8} (h : Scr.num w = none) : numI w = -1 := by unfold numI; rw [h]
theorem numI_some {w : List UInt8} {i : Nat} (h : Scr.num w = some i) : numI w = (i : Int) := by unfold numI; rw [h]
theorem ref_parse (w : World) (T : List UInt8) (hT : T.length ≤ 100000) : Calls Tryz.prog 63 #[.string ⟨T.toArray⟩] w (RefRes w (Scr.parse T)) := by
  obtain ⟨r, hr⟩ : ∃ r, r = w.heap.size := ⟨_, rfl⟩
  obtain ⟨g, hgr⟩ : ∃ g, g = r + 1 := ⟨_, rfl⟩
  obtain ⟨V, hV⟩ : ∃ V, V = (w.alloc (.cells (rfCells Scr.Sc.zero) 137)).alloc (.cells (rfCells Scr.Sc.first) 137) := ⟨_, rfl⟩
  have kV : Keeps (fun _ => False) w V := by rw [hV]; exact (Keeps.alloc _ _ _).trans (Keeps.alloc _ _ _)
  have zr : V.heap[r]? = some (.cells (rfCells Scr.Sc.zero) 137 (0, 0)) := by rw [hV, hr]; exact older_alloc (halloc_at _ _)
  have zg : RRf V g Scr.Sc.first := by rw [hV, hgr, hr]; exact last_alloc (by simp)
  have HR := Lib.hid hr.symm
  have HGR := Lib.hid hgr.symm
  have HV := Lib.hid hV.symm
  have K3 := Lib.hid kV
  have R3 := Lib.hid zr
  have S3 := Lib.hid zg
  have HN := Lib.hid (show g ≠ r ∧ w.heap.size ≤ r ∧ w.heap.size ≤ g from by omega)
  clear kV zr zg hr hgr hV
  generalize hP : Scr.parse T = P
  have HP := Lib.hid hP
  clear hP
  go_enter Tryz.func63, Tryz.ntmps63
  go_upto_region 2 with fail
  unfold rfCells Scr.Sc.zero Scr.Sc.first at HV
  rw [HR.out, HGR.out, HV.out]
  go_wp2_with fail
  go_loopw [0, 5] (fun tv nv wr => ∃ (s : Scr.Sc) (t : List UInt8) (n : Int), tv = .string ⟨t.toArray⟩ ∧ nv = .int .i64 (n + 1) ∧ 0 ≤ n ∧ n + t.length ≤ 100000 ∧ Scr.parseN (t.length + 1) s t n = P ∧ RRf wr g s ∧ Keeps (fun k => k = g) V wr) (fun tv _ _ => strLen tv)
  case atStart => exact ⟨_, T, 0, rfl, rfl, by omega, by omega, HP.out, S3.out, Keeps.refl _ _⟩
  case round =>
    obtain ⟨s, t, n, rfl, rfl, hn0, hnt, hp, hs, hk⟩ := hrel
    have HS := Lib.hid hs
    have HK := Lib.hid hk
    have HC1 := Lib.hid (ref_cut t 10 wr (by omega))
    have hc1 := Scr.cutB_le t 10
    have hc2 := Scr.cutB_le (Scr.cutB t 10).1 32
    have HCM := Lib.hid (Scr.cutB_len t 10)
    unfold Scr.parseN at hp
    simp only at hp
    clear hs hk
    generalize Scr.cutB t 10 = A at hp HC1 hc1 hc2 HCM
    obtain ⟨l, rest, more⟩ := A
    dsimp only at hp HC1 hc1 hc2 HCM
    have HC2 := Lib.hid fun V => ref_cut l 32 V (by omega)
    generalize Scr.cutB l 32 = B at hp HC2 hc2
    obtain ⟨wd, v, mv⟩ := B
    dsimp only at hp HC2 hc2
    have HPP := Lib.hid hp
    have hwq : IntKind.i64.wrap (n + 1 + 1) = n + 1 + 1 := IntWalk.i64_in _ (by omega)
    have hl1 := hc1.2
    have hl2 := hc2.2
    have hl3 := hc1.1
    have hl4 := hc2.1
    rw [show ((10 : UInt8).toNat : Int) = 10 from rfl] at HC1
    rw [show ((32 : UInt8).toNat : Int) = 32 from rfl] at HC2
    clear hp hc1 hc2
    go_wp2_with fail
    refine HC1.out.mono ?_
    rintro e w4 ⟨rfl, k4⟩
    have K4 := Lib.hid k4
    clear k4
    go_wp2_with fail
    refine (HC2.out w4).mono ?_
    rintro e w5 ⟨rfl, k5⟩
    have K5 := Lib.hid (K4.out.trans k5)
    have S5 := Lib.hid (K5.out.heap HS.out id)
    have R5 := Lib.hid (K5.out.heap (HK.out.heap R3.out (fun e => HN.out.1 e.symm)) id)
    have HK5 := Lib.hid (HK.out.trans (K5.out.mono (fun _ _ e => e.elim)))
    clear k5 K4 HC1 HC2 HS HK K5
    by_cases htx : wd = [116, 101, 120, 116] ∧ v = []
    · obtain ⟨rfl, rfl⟩ := htx
      have d1 : (([116, 101, 120, 116] : List UInt8) == [116, 101, 120, 116]) = true := by decide
      have hpp := HPP.out
      rw [if_pos ⟨rfl, rfl⟩] at hpp
      have HE := Lib.hid hpp
      have z7 : w5.cell? ⟨g, 7, none⟩ = some (.string ⟨s.text.toArray⟩) := cell_of S5.out rfl
      have y7 := free_of (i := 7) S5.out
      have ks : Keeps (fun k => k = g) w5 (w5.setCell ⟨g, 7, none⟩ (.string ⟨rest.toArray⟩)) := Keeps.setCell _ _ _ (fun _ => rfl)
      have S6 := Lib.hid (show RRf (w5.setCell ⟨g, 7, none⟩ (.string ⟨rest.toArray⟩)) g { s with text := rest } from hset_same S5.out _)
      have R6 := Lib.hid (ks.heap R5.out (fun e => HN.out.1 e.symm))
      have HK6 := Lib.hid (HK5.out.trans ks)
      clear ks hpp HPP
      go_upto_region 7 with fail
      generalize w5.setCell ⟨g, 7, none⟩ (.string ⟨rest.toArray⟩) = w6 at S6 R6 HK6 ⊢
      clear z7 y7 S5 R5 HK5
      have z0 : w6.cell? ⟨g, 0, none⟩ = some (.int .i64 s.dict) := cell_of S6.out rfl
      have z1 : w6.cell? ⟨g, 1, none⟩ = some (.int .i64 s.data) := cell_of S6.out rfl
      have z2 : w6.cell? ⟨g, 2, none⟩ = some (.int .i64 s.ret) := cell_of S6.out rfl
      have z3 : w6.cell? ⟨g, 3, none⟩ = some (.int .i64 s.heap) := cell_of S6.out rfl
      have z4 : w6.cell? ⟨g, 4, none⟩ = some (.int .i64 s.slots) := cell_of S6.out rfl
      have z5 : w6.cell? ⟨g, 5, none⟩ = some (.int .i64 s.fuel) := cell_of S6.out rfl
      have z6 : w6.cell? ⟨g, 6, none⟩ = some (.string ⟨s.inp.toArray⟩) := cell_of S6.out rfl
      have z7 : w6.cell? ⟨g, 7, none⟩ = some (.string ⟨rest.toArray⟩) := cell_of S6.out rfl
      have n1 : g ≠ r := HN.out.1
      have n2 : r ≠ g := fun e => HN.out.1 e.symm
      have x0 : w6.cell? ⟨r, 0, none⟩ = some (.int .i64 0) := cell_of R6.out rfl
      have q0 := free_of (i := 0) R6.out
      have x1 : w6.cell? ⟨r, 1, none⟩ = some (.int .i64 0) := cell_of R6.out rfl
      have q1 := free_of (i := 1) R6.out
      have x2 : w6.cell? ⟨r, 2, none⟩ = some (.int .i64 0) := cell_of R6.out rfl
      have q2 := free_of (i := 2) R6.out
      have x3 : w6.cell? ⟨r, 3, none⟩ = some (.int .i64 0) := cell_of R6.out rfl
      have q3 := free_of (i := 3) R6.out
      have x4 : w6.cell? ⟨r, 4, none⟩ = some (.int .i64 0) := cell_of R6.out rfl
      have q4 := free_of (i := 4) R6.out
      have x5 : w6.cell? ⟨r, 5, none⟩ = some (.int .i64 0) := cell_of R6.out rfl
      have q5 := free_of (i := 5) R6.out
      have x6 : w6.cell? ⟨r, 6, none⟩ = some (.string ⟨#[]⟩) := cell_of R6.out rfl
      have q6 := free_of (i := 6) R6.out
      have x7 : w6.cell? ⟨r, 7, none⟩ = some (.string ⟨#[]⟩) := cell_of R6.out rfl
      have q7 := free_of (i := 7) R6.out
      have H8 := Lib.hid (set8 R6.out (.int .i64 s.dict) (.int .i64 s.data) (.int .i64 s.ret) (.int .i64 s.heap) (.int .i64 s.slots) (.int .i64 s.fuel) (.string ⟨s.inp.toArray⟩) (.string ⟨rest.toArray⟩))
      have K8 := Lib.hid (K3.out.trans' ((HK6.out.mono (T := fun k => k = g ∨ k = r) (fun _ _ e => .inl e)).trans ((keeps_set8 w6 r (.int .i64 s.dict) (.int .i64 s.data) (.int .i64 s.ret) (.int .i64 s.heap) (.int .i64 s.slots) (.int .i64 s.fuel) (.string ⟨s.inp.toArray⟩) (.string ⟨rest.toArray⟩)).mono (fun _ _ e => .inr e))) (fun i hi e => by have := HN.out; rcases e with e | e <;> omega))
      go_wp2_with fail
      generalize ((((((((w6.setCell ⟨r, 0, none⟩ (.int .i64 s.dict)).setCell ⟨r, 1, none⟩ (.int .i64 s.data)).setCell ⟨r, 2, none⟩ (.int .i64 s.ret)).setCell ⟨r, 3, none⟩ (.int .i64 s.heap)).setCell ⟨r, 4, none⟩ (.int .i64 s.slots)).setCell ⟨r, 5, none⟩ (.int .i64 s.fuel)).setCell ⟨r, 6, none⟩ (.string ⟨s.inp.toArray⟩)).setCell ⟨r, 7, none⟩ (.string ⟨rest.toArray⟩)) = W8 at H8 K8 ⊢
      have t0 := cell_of (i := 0) H8.out rfl
      have t1 := cell_of (i := 1) H8.out rfl
      have t2 := cell_of (i := 2) H8.out rfl
      have t3 := cell_of (i := 3) H8.out rfl
      have t4 := cell_of (i := 4) H8.out rfl
      have t5 := cell_of (i := 5) H8.out rfl
      have t6 := cell_of (i := 6) H8.out rfl
      have t7 := cell_of (i := 7) H8.out rfl
      exact bodyPost_ret (v := .tuple #[.agg #[.int .i64 s.dict, .int .i64 s.data, .int .i64 s.ret, .int .i64 s.heap, .int .i64 s.slots, .int .i64 s.fuel, .string ⟨s.inp.toArray⟩, .string ⟨rest.toArray⟩], .int .i64 (0)]) (by simp [results, Tryz.results63, go_sem, t0, t1, t2, t3, t4, t5, t6, t7]) rfl ⟨by rw [← HE.out]; rfl, K8.out⟩
    · have hpp := HPP.out
      rw [if_neg htx] at hpp
      have HPL := Lib.hid fun V => ref_place wd V
      have HNU := Lib.hid fun V => ref_number v V (by omega)
      have HST := Lib.hid Scr.parseN_enough
      have d12 : ((wd == [116, 101, 120, 116]) && (v == [])) = false := by
        by_cases h1 : wd = [116, 101, 120, 116]
        · have : v ≠ [] := fun e => htx ⟨h1, e⟩
          simp [this]
        · simp [h1]
      have HPQ := Lib.hid hpp
      have HTX := Lib.hid htx
      clear HPP hpp htx
      have HW : ∀ (Q : Prop), ((wd == [116, 101, 120, 116]) = false → Q) → ((wd == [116, 101, 120, 116]) = true → (v == []) = false → Q) → Q := by
        intro Q h1 h2
        by_cases hw : wd = [116, 101, 120, 116]
        · exact h2 (by simp [hw]) (by have : v ≠ [] := fun e => HTX.out ⟨hw, e⟩; simp [this])
        · exact h1 (by simp [hw])
      clear d12
      refine HW _ ?_ ?_
      all_goals
        clear HW
        intros
        go_wp2_with fail
        refine (HPL.out _).mono ?_
        rintro e w6 ⟨rfl, k6⟩
        have K6 := Lib.hid k6
        clear k6
        go_wp2_with fail
        refine (HNU.out _).mono ?_
        rintro e w7 ⟨rfl, k7⟩
        have K7 := Lib.hid (K6.out.trans k7)
        have S7 := Lib.hid (K7.out.heap S5.out id)
        have R7 := Lib.hid (K7.out.heap R5.out id)
        have HK7 := Lib.hid (HK5.out.trans (K7.out.mono (fun _ _ e => e.elim)))
        clear k7 K6 K7 S5 R5 HK5 HPL HNU
        by_cases hin : wd = [105, 110]
        · have hli : Scr.line s wd v = some { s with inp := v } := by
            unfold Scr.line
            rw [if_pos hin]
          have hpp := HPQ.out
          rw [hli] at hpp
          have HE := Lib.hid hpp
          have d3 : (wd == [105, 110]) = true := by simp [hin]
          have z6 : w7.cell? ⟨g, 6, none⟩ = some (.string ⟨s.inp.toArray⟩) := cell_of S7.out rfl
          have y6 := free_of (i := 6) S7.out
          have ks : Keeps (fun k => k = g) w7 (w7.setCell ⟨g, 6, none⟩ (.string ⟨v.toArray⟩)) := Keeps.setCell _ _ _ (fun _ => rfl)
          have S8 := Lib.hid (show RRf (w7.setCell ⟨g, 6, none⟩ (.string ⟨v.toArray⟩)) g { s with inp := v } from hset_same S7.out _)
          have R8 := Lib.hid (ks.heap R7.out (fun e => HN.out.1 e.symm))
          have HK8 := Lib.hid (HK7.out.trans ks)
          clear ks hli hin hpp HPQ HTX
          go_upto_region 15 with fail
          generalize w7.setCell ⟨g, 6, none⟩ (.string ⟨v.toArray⟩) = w8 at S8 R8 HK8 ⊢
          clear z6 y6 S7 R7 HK7
          cases more with
          | false =>
            have hpp := HE.out
            simp only [Bool.false_eq_true, if_false] at hpp
            rw [show n + 2 = n + 1 + 1 by omega] at hpp
            replace HE := Lib.hid hpp
            clear hpp
            have x0 : w8.cell? ⟨r, 0, none⟩ = some (.int .i64 0) := cell_of R8.out rfl
            have q0 := free_of (i := 0) R8.out
            have x1 : w8.cell? ⟨r, 1, none⟩ = some (.int .i64 0) := cell_of R8.out rfl
            have q1 := free_of (i := 1) R8.out
            have x2 : w8.cell? ⟨r, 2, none⟩ = some (.int .i64 0) := cell_of R8.out rfl
            have q2 := free_of (i := 2) R8.out
            have x3 : w8.cell? ⟨r, 3, none⟩ = some (.int .i64 0) := cell_of R8.out rfl
            have q3 := free_of (i := 3) R8.out
            have x4 : w8.cell? ⟨r, 4, none⟩ = some (.int .i64 0) := cell_of R8.out rfl
            have q4 := free_of (i := 4) R8.out
            have x5 : w8.cell? ⟨r, 5, none⟩ = some (.int .i64 0) := cell_of R8.out rfl
            have q5 := free_of (i := 5) R8.out
            have x6 : w8.cell? ⟨r, 6, none⟩ = some (.string ⟨#[]⟩) := cell_of R8.out rfl
            have q6 := free_of (i := 6) R8.out
            have x7 : w8.cell? ⟨r, 7, none⟩ = some (.string ⟨#[]⟩) := cell_of R8.out rfl
            have q7 := free_of (i := 7) R8.out
            have H8 := Lib.hid (set8 R8.out (.int .i64 0) (.int .i64 0) (.int .i64 0) (.int .i64 0) (.int .i64 0) (.int .i64 0) (.string ⟨#[]⟩) (.string ⟨#[]⟩))
            have K8 := Lib.hid (K3.out.trans' ((HK8.out.mono (T := fun k => k = g ∨ k = r) (fun _ _ e => .inl e)).trans ((keeps_set8 w8 r (.int .i64 0) (.int .i64 0) (.int .i64 0) (.int .i64 0) (.int .i64 0) (.int .i64 0) (.string ⟨#[]⟩) (.string ⟨#[]⟩)).mono (fun _ _ e => .inr e))) (fun i hi e => by have := HN.out; rcases e with e | e <;> omega))
            go_wp2_with fail
            generalize ((((((((w8.setCell ⟨r, 0, none⟩ (.int .i64 0)).setCell ⟨r, 1, none⟩ (.int .i64 0)).setCell ⟨r, 2, none⟩ (.int .i64 0)).setCell ⟨r, 3, none⟩ (.int .i64 0)).setCell ⟨r, 4, none⟩ (.int .i64 0)).setCell ⟨r, 5, none⟩ (.int .i64 0)).setCell ⟨r, 6, none⟩ (.string ⟨#[]⟩)).setCell ⟨r, 7, none⟩ (.string ⟨#[]⟩)) = W8 at H8 K8 ⊢
            have t0 := cell_of (i := 0) H8.out rfl
            have t1 := cell_of (i := 1) H8.out rfl
            have t2 := cell_of (i := 2) H8.out rfl
            have t3 := cell_of (i := 3) H8.out rfl
            have t4 := cell_of (i := 4) H8.out rfl
            have t5 := cell_of (i := 5) H8.out rfl
            have t6 := cell_of (i := 6) H8.out rfl
            have t7 := cell_of (i := 7) H8.out rfl
            exact bodyPost_ret (v := .tuple #[.agg #[.int .i64 0, .int .i64 0, .int .i64 0, .int .i64 0, .int .i64 0, .int .i64 0, .string ⟨#[]⟩, .string ⟨#[]⟩], .int .i64 (n + 1 + 1)]) (by simp [results, Tryz.results63, go_sem, t0, t1, t2, t3, t4, t5, t6, t7]) rfl ⟨by rw [← HE.out]; rfl, K8.out⟩
          | true =>
            have hpp := HE.out
            simp only [if_true] at hpp
            replace HE := Lib.hid hpp
            have hrl := HCM.out rfl
            clear hpp
            go_wp2_with fail
            go_roundw
            case rel => exact ⟨_, rest, n + 1, rfl, rfl, by omega, by omega, (HST.out _ _ _ _ _ (by omega) (by omega)).trans HE.out, S8.out, HK8.out⟩
            case measure => (show rest.toArray.size < t.toArray.size; simp; omega)
        · have d3 : (wd == [105, 110]) = false := by simp [hin]
          cases hpw : Scr.place wd with
          | none =>
            have hli : Scr.line s wd v = none := by
              unfold Scr.line
              rw [if_neg hin, hpw]
            have hpp := HPQ.out
            rw [hli] at hpp
            have HE := Lib.hid hpp
            have hpi := placeI_none hpw
            rw [hpi]
            generalize numI v = N
            clear hli hin hpp HPQ HTX hpw hpi
            have x0 : w7.cell? ⟨r, 0, none⟩ = some (.int .i64 0) := cell_of R7.out rfl
            have q0 := free_of (i := 0) R7.out
            have x1 : w7.cell? ⟨r, 1, none⟩ = some (.int .i64 0) := cell_of R7.out rfl
            have q1 := free_of (i := 1) R7.out
            have x2 : w7.cell? ⟨r, 2, none⟩ = some (.int .i64 0) := cell_of R7.out rfl
            have q2 := free_of (i := 2) R7.out
            have x3 : w7.cell? ⟨r, 3, none⟩ = some (.int .i64 0) := cell_of R7.out rfl
            have q3 := free_of (i := 3) R7.out
            have x4 : w7.cell? ⟨r, 4, none⟩ = some (.int .i64 0) := cell_of R7.out rfl
            have q4 := free_of (i := 4) R7.out
            have x5 : w7.cell? ⟨r, 5, none⟩ = some (.int .i64 0) := cell_of R7.out rfl
            have q5 := free_of (i := 5) R7.out
            have x6 : w7.cell? ⟨r, 6, none⟩ = some (.string ⟨#[]⟩) := cell_of R7.out rfl
            have q6 := free_of (i := 6) R7.out
            have x7 : w7.cell? ⟨r, 7, none⟩ = some (.string ⟨#[]⟩) := cell_of R7.out rfl
            have q7 := free_of (i := 7) R7.out
            have H8 := Lib.hid (set8 R7.out (.int .i64 0) (.int .i64 0) (.int .i64 0) (.int .i64 0) (.int .i64 0) (.int .i64 0) (.string ⟨#[]⟩) (.string ⟨#[]⟩))
            have K8 := Lib.hid (K3.out.trans' ((HK7.out.mono (T := fun k => k = g ∨ k = r) (fun _ _ e => .inl e)).trans ((keeps_set8 w7 r (.int .i64 0) (.int .i64 0) (.int .i64 0) (.int .i64 0) (.int .i64 0) (.int .i64 0) (.string ⟨#[]⟩) (.string ⟨#[]⟩)).mono (fun _ _ e => .inr e))) (fun i hi e => by have := HN.out; rcases e with e | e <;> omega))
            go_wp2_with fail
            generalize ((((((((w7.setCell ⟨r, 0, none⟩ (.int .i64 0)).setCell ⟨r, 1, none⟩ (.int .i64 0)).setCell ⟨r, 2, none⟩ (.int .i64 0)).setCell ⟨r, 3, none⟩ (.int .i64 0)).setCell ⟨r, 4, none⟩ (.int .i64 0)).setCell ⟨r, 5, none⟩ (.int .i64 0)).setCell ⟨r, 6, none⟩ (.string ⟨#[]⟩)).setCell ⟨r, 7, none⟩ (.string ⟨#[]⟩)) = W8 at H8 K8 ⊢
            have t0 := cell_of (i := 0) H8.out rfl
            have t1 := cell_of (i := 1) H8.out rfl
            have t2 := cell_of (i := 2) H8.out rfl
            have t3 := cell_of (i := 3) H8.out rfl
            have t4 := cell_of (i := 4) H8.out rfl
            have t5 := cell_of (i := 5) H8.out rfl
            have t6 := cell_of (i := 6) H8.out rfl
            have t7 := cell_of (i := 7) H8.out rfl
            exact bodyPost_ret (v := .tuple #[.agg #[.int .i64 0, .int .i64 0, .int .i64 0, .int .i64 0, .int .i64 0, .int .i64 0, .string ⟨#[]⟩, .string ⟨#[]⟩], .int .i64 (n + 1)]) (by simp [results, Tryz.results63, go_sem, t0, t1, t2, t3, t4, t5, t6, t7]) rfl ⟨by rw [← HE.out]; rfl, K8.out⟩
          | some i =>
            have hi6 := Scr.place_lt wd i hpw
            have hpi := placeI_some hpw
            have e1 : decide ((i : Int) < 0) = false := decide_eq_false (by omega)
            cases hnum : Scr.num v with
            | none =>
              have hli : Scr.line s wd v = none := by
                unfold Scr.line
                rw [if_neg hin, hpw, hnum]
              have hpp := HPQ.out
              rw [hli] at hpp
              have HE := Lib.hid hpp
              rw [hpi, numI_none hnum]
              clear hli hin hpp HPQ HTX hpw hpi hnum
              have x0 : w7.cell? ⟨r, 0, none⟩ = some (.int .i64 0) := cell_of R7.out rfl
              have q0 := free_of (i := 0) R7.out
              have x1 : w7.cell? ⟨r, 1, none⟩ = some (.int .i64 0) := cell_of R7.out rfl
              have q1 := free_of (i := 1) R7.out
              have x2 : w7.cell? ⟨r, 2, none⟩ = some (.int .i64 0) := cell_of R7.out rfl
              have q2 := free_of (i := 2) R7.out
              have x3 : w7.cell? ⟨r, 3, none⟩ = some (.int .i64 0) := cell_of R7.out rfl
              have q3 := free_of (i := 3) R7.out
              have x4 : w7.cell? ⟨r, 4, none⟩ = some (.int .i64 0) := cell_of R7.out rfl
              have q4 := free_of (i := 4) R7.out
              have x5 : w7.cell? ⟨r, 5, none⟩ = some (.int .i64 0) := cell_of R7.out rfl
              have q5 := free_of (i := 5) R7.out
              have x6 : w7.cell? ⟨r, 6, none⟩ = some (.string ⟨#[]⟩) := cell_of R7.out rfl
              have q6 := free_of (i := 6) R7.out
              have x7 : w7.cell? ⟨r, 7, none⟩ = some (.string ⟨#[]⟩) := cell_of R7.out rfl
              have q7 := free_of (i := 7) R7.out
              have H8 := Lib.hid (set8 R7.out (.int .i64 0) (.int .i64 0) (.int .i64 0) (.int .i64 0) (.int .i64 0) (.int .i64 0) (.string ⟨#[]⟩) (.string ⟨#[]⟩))
              have K8 := Lib.hid (K3.out.trans' ((HK7.out.mono (T := fun k => k = g ∨ k = r) (fun _ _ e => .inl e)).trans ((keeps_set8 w7 r (.int .i64 0) (.int .i64 0) (.int .i64 0) (.int .i64 0) (.int .i64 0) (.int .i64 0) (.string ⟨#[]⟩) (.string ⟨#[]⟩)).mono (fun _ _ e => .inr e))) (fun i hi e => by have := HN.out; rcases e with e | e <;> omega))
              go_wp2_with fail
              generalize ((((((((w7.setCell ⟨r, 0, none⟩ (.int .i64 0)).setCell ⟨r, 1, none⟩ (.int .i64 0)).setCell ⟨r, 2, none⟩ (.int .i64 0)).setCell ⟨r, 3, none⟩ (.int .i64 0)).setCell ⟨r, 4, none⟩ (.int .i64 0)).setCell ⟨r, 5, none⟩ (.int .i64 0)).setCell ⟨r, 6, none⟩ (.string ⟨#[]⟩)).setCell ⟨r, 7, none⟩ (.string ⟨#[]⟩)) = W8 at H8 K8 ⊢
              have t0 := cell_of (i := 0) H8.out rfl
              have t1 := cell_of (i := 1) H8.out rfl
              have t2 := cell_of (i := 2) H8.out rfl
              have t3 := cell_of (i := 3) H8.out rfl
              have t4 := cell_of (i := 4) H8.out rfl
              have t5 := cell_of (i := 5) H8.out rfl
              have t6 := cell_of (i := 6) H8.out rfl
              have t7 := cell_of (i := 7) H8.out rfl
              exact bodyPost_ret (v := .tuple #[.agg #[.int .i64 0, .int .i64 0, .int .i64 0, .int .i64 0, .int .i64 0, .int .i64 0, .string ⟨#[]⟩, .string ⟨#[]⟩], .int .i64 (n + 1)]) (by simp [results, Tryz.results63, go_sem, t0, t1, t2, t3, t4, t5, t6, t7]) rfl ⟨by rw [← HE.out]; rfl, K8.out⟩
            | some kk =>
              have hli : Scr.line s wd v = some (s.set i (kk : Int)) := by
                unfold Scr.line
                rw [if_neg hin, hpw, hnum]
              have hpp := HPQ.out
              rw [hli] at hpp
              have HE := Lib.hid hpp
              have e2 : decide ((kk : Int) < 0) = false := decide_eq_false (by omega)
              rw [hpi, numI_some hnum]
              have S8 := Lib.hid (RRf.set w7 g i s (kk : Int) hi6 S7.out)
              have ks : Keeps (fun k => k = g) w7 (w7.setCell ⟨g, i, none⟩ (.int .i64 (kk : Int))) := Keeps.setCell _ _ _ (fun _ => rfl)
              have R8 := Lib.hid (ks.heap R7.out (fun e => HN.out.1 e.symm))
              have HK8 := Lib.hid (HK7.out.trans ks)
              have hci : ∃ m, w7.cell? ⟨g, i, none⟩ = some (.int .i64 m) := by
                match i, hi6 with
                | 0, _ => exact ⟨_, cell_of S7.out rfl⟩
                | 1, _ => exact ⟨_, cell_of S7.out rfl⟩
                | 2, _ => exact ⟨_, cell_of S7.out rfl⟩
                | 3, _ => exact ⟨_, cell_of S7.out rfl⟩
                | 4, _ => exact ⟨_, cell_of S7.out rfl⟩
                | 5, _ => exact ⟨_, cell_of S7.out rfl⟩
              obtain ⟨m, hm⟩ := hci
              have y6 := free_of (i := i) S7.out
              have hi0 : (0 : Int) ≤ (i : Int) := by omega
              have hi5 : (i : Int) < 6 := by omega
              clear ks hli hin hpp HPQ HTX hpw hpi hnum
              go_upto_region 15 with fail
              generalize w7.setCell ⟨g, i, none⟩ (.int .i64 (kk : Int)) = w8 at S8 R8 HK8 ⊢
              clear hm y6 S7 R7 HK7
              cases more with
              | false =>
                have hpp := HE.out
                simp only [Bool.false_eq_true, if_false] at hpp
                rw [show n + 2 = n + 1 + 1 by omega] at hpp
                replace HE := Lib.hid hpp
                clear hpp
                have x0 : w8.cell? ⟨r, 0, none⟩ = some (.int .i64 0) := cell_of R8.out rfl
                have q0 := free_of (i := 0) R8.out
                have x1 : w8.cell? ⟨r, 1, none⟩ = some (.int .i64 0) := cell_of R8.out rfl
                have q1 := free_of (i := 1) R8.out
                have x2 : w8.cell? ⟨r, 2, none⟩ = some (.int .i64 0) := cell_of R8.out rfl
                have q2 := free_of (i := 2) R8.out
                have x3 : w8.cell? ⟨r, 3, none⟩ = some (.int .i64 0) := cell_of R8.out rfl
                have q3 := free_of (i := 3) R8.out
                have x4 : w8.cell? ⟨r, 4, none⟩ = some (.int .i64 0) := cell_of R8.out rfl
                have q4 := free_of (i := 4) R8.out
                have x5 : w8.cell? ⟨r, 5, none⟩ = some (.int .i64 0) := cell_of R8.out rfl
                have q5 := free_of (i := 5) R8.out
                have x6 : w8.cell? ⟨r, 6, none⟩ = some (.string ⟨#[]⟩) := cell_of R8.out rfl
                have q6 := free_of (i := 6) R8.out
                have x7 : w8.cell? ⟨r, 7, none⟩ = some (.string ⟨#[]⟩) := cell_of R8.out rfl
                have q7 := free_of (i := 7) R8.out
                have H8 := Lib.hid (set8 R8.out (.int .i64 0) (.int .i64 0) (.int .i64 0) (.int .i64 0) (.int .i64 0) (.int .i64 0) (.string ⟨#[]⟩) (.string ⟨#[]⟩))
                have K8 := Lib.hid (K3.out.trans' ((HK8.out.mono (T := fun k => k = g ∨ k = r) (fun _ _ e => .inl e)).trans ((keeps_set8 w8 r (.int .i64 0) (.int .i64 0) (.int .i64 0) (.int .i64 0) (.int .i64 0) (.int .i64 0) (.string ⟨#[]⟩) (.string ⟨#[]⟩)).mono (fun _ _ e => .inr e))) (fun i hi e => by have := HN.out; rcases e with e | e <;> omega))
                go_wp2_with fail
                generalize ((((((((w8.setCell ⟨r, 0, none⟩ (.int .i64 0)).setCell ⟨r, 1, none⟩ (.int .i64 0)).setCell ⟨r, 2, none⟩ (.int .i64 0)).setCell ⟨r, 3, none⟩ (.int .i64 0)).setCell ⟨r, 4, none⟩ (.int .i64 0)).setCell ⟨r, 5, none⟩ (.int .i64 0)).setCell ⟨r, 6, none⟩ (.string ⟨#[]⟩)).setCell ⟨r, 7, none⟩ (.string ⟨#[]⟩)) = W8 at H8 K8 ⊢
                have t0 := cell_of (i := 0) H8.out rfl
                have t1 := cell_of (i := 1) H8.out rfl
                have t2 := cell_of (i := 2) H8.out rfl
                have t3 := cell_of (i := 3) H8.out rfl
                have t4 := cell_of (i := 4) H8.out rfl
                have t5 := cell_of (i := 5) H8.out rfl
                have t6 := cell_of (i := 6) H8.out rfl
                have t7 := cell_of (i := 7) H8.out rfl
                exact bodyPost_ret (v := .tuple #[.agg #[.int .i64 0, .int .i64 0, .int .i64 0, .int .i64 0, .int .i64 0, .int .i64 0, .string ⟨#[]⟩, .string ⟨#[]⟩], .int .i64 (n + 1 + 1)]) (by simp [results, Tryz.results63, go_sem, t0, t1, t2, t3, t4, t5, t6, t7]) rfl ⟨by rw [← HE.out]; rfl, K8.out⟩
              | true =>
                have hpp := HE.out
                simp only [if_true] at hpp
                replace HE := Lib.hid hpp
                have hrl := HCM.out rfl
                clear hpp
                go_wp2_with fail
                go_roundw
                case rel => exact ⟨_, rest, n + 1, rfl, rfl, by omega, by omega, (HST.out _ _ _ _ _ (by omega) (by omega)).trans HE.out, S8.out, HK8.out⟩
                case measure => (show rest.toArray.size < t.toArray.size; simp; omega)
end Go.Proofs.Shed
