/- Layer 22: Parse. Conditions: the library's variables hold what they hold at the start; the text is not too long. -/
import Derived.Test.YthhfkhhhclmimaaGreatDoorMSC
set_option linter.unusedVariables false
set_option linter.unusedSimpArgs false
set_option maxRecDepth 10000
set_option maxHeartbeats 4000000
namespace Go.Proofs.Shed
open Go Go.RowKit Go.Proofs.K
theorem zero_fi (w : World) : (zeroValue 223).run Tryz.prog w = .ok .nilFunc w := by kernel_rfl
def strLen : Value → Nat
  | .string b => b.size
  | _ => 0
def ParseRes (w : World) (R : Option Scr.Sc × Int) (e : Ending) (w' : World) : Prop := e = .returned (.tuple #[scV (R.1.getD Scr.Sc.zero), .int .i64 R.2]) ∧ Keeps (fun _ => False) w w'
theorem scr_parse (w : World) (T : List UInt8) (hg : Glob w) (hT : T.length ≤ 100000) : Calls Tryz.prog 62 #[.string ⟨T.toArray⟩] w (ParseRes w (Scr.parse T)) := by
  obtain ⟨r, hr⟩ : ∃ r, r = w.heap.size := ⟨_, rfl⟩
  obtain ⟨g, hgr⟩ : ∃ g, g = r + 1 := ⟨_, rfl⟩
  obtain ⟨V, hV⟩ : ∃ V, V = (w.alloc (.cells (scCells Scr.Sc.zero) 121)).alloc (.cells (scCells Scr.Sc.first) 121) := ⟨_, rfl⟩
  have kV : Keeps (fun _ => False) w V := by rw [hV]; exact (Keeps.alloc _ _ _).trans (Keeps.alloc _ _ _)
  have zr : V.heap[r]? = some (.cells (scCells Scr.Sc.zero) 121 (0, 0)) := by rw [hV, hr]; exact older_alloc (halloc_at _ _)
  have zg : RSc V g Scr.Sc.first := by rw [hV, hgr, hr]; exact last_alloc (by simp)
  have hVs : V.heap.size = g + 1 := by rw [hV, hgr, hr]; simp
  have HR := Lib.hid hr.symm
  have HGR := Lib.hid hgr.symm
  have HV := Lib.hid hV.symm
  have KV := Lib.hid kV
  have ZR := Lib.hid zr
  have ZG := Lib.hid zg
  have HVS := Lib.hid hVs
  have HG := Lib.hid hg
  have HF := Lib.hid (scr_fields V g)
  have HN := Lib.hid (show g ≠ r ∧ w.heap.size ≤ r ∧ w.heap.size ≤ g from by omega)
  clear hg kV zr zg hVs hr hgr hV
  generalize hP : Scr.parse T = P
  have HP := Lib.hid hP
  clear hP
  go_enter Tryz.func62, Tryz.ntmps62
  go_upto_region 2 with fail
  unfold scCells Scr.Sc.zero Scr.Sc.first at HV
  rw [HR.out, HGR.out, HV.out]
  go_wp2_with fail
  refine HF.out.mono ?_
  rintro e w3 ⟨b, m, rfl, hm, hb, lb, lm, nbm, k3⟩
  have HM := Lib.hid hm
  have HB := Lib.hid hb
  have HL := Lib.hid (show g < b ∧ g < m ∧ r < b ∧ r < m from by have := HVS.out; have h2 := lt_of_heap ZR.out; omega)
  have S3 := Lib.hid (show RSc w3 g _ from k3.heap ZG.out id)
  have R3 := Lib.hid (k3.heap ZR.out id)
  have K3 := Lib.hid (KV.out.trans k3)
  have G3 := Lib.hid ((HG.out.keeps0 KV.out).keeps0 k3)
  have HG6 := Lib.hid (show 4 ≤ r ∧ 4 ≤ g from by have := HG.out.lt; have := HN.out; omega)
  clear hm hb lb lm nbm k3 HF HV KV ZR ZG HVS HG
  go_wp2_with fail
  go_loopw [0, 6] (fun tv nv wr => ∃ (s : Scr.Sc) (t : List UInt8) (n : Int), tv = .string ⟨t.toArray⟩ ∧ nv = .int .i64 n ∧ 0 ≤ n ∧ n + t.length ≤ 100000 ∧ Scr.parseN (t.length + 1) s t n = P ∧ RSc wr g s ∧ Keeps (fun k => k = g) w3 wr) (fun tv _ _ => strLen tv)
  case atStart => exact ⟨_, T, 0, rfl, rfl, by omega, by omega, HP.out, S3.out, Keeps.refl _ _⟩
  case round =>
    obtain ⟨s, t, n, rfl, rfl, hn0, hnt, hp, hs, hk⟩ := hrel
    have HS := Lib.hid hs
    have HK := Lib.hid hk
    have HPP := Lib.hid hp
    have GR := Lib.hid (G3.out.keeps hk (fun i hi e => by have := HG6.out; have e : i = g := e; omega))
    have HC1 := Lib.hid (str_cut t 10 wr GR.out (by omega))
    have hc1 := Scr.cutB_le t 10
    have hc2 := Scr.cutB_le (Scr.cutB t 10).1 32
    have HCM := Lib.hid (Scr.cutB_len t 10)
    unfold Scr.parseN at hp
    simp only at hp
    clear hs hk HPP
    generalize Scr.cutB t 10 = A at hp HC1 hc1 hc2 HCM
    obtain ⟨l, rest, more⟩ := A
    dsimp only at hp HC1 hc1 hc2 HCM
    have HC2 := Lib.hid fun V (k : Keeps (fun _ => False) wr V) => str_cut l 32 V (GR.out.keeps0 k) (by omega)
    generalize Scr.cutB l 32 = B at hp HC2 hc2
    obtain ⟨wd, v, mv⟩ := B
    dsimp only at hp HC2 hc2
    have HPP := Lib.hid hp
    have hwn : IntKind.i64.wrap (n + 1) = n + 1 := IntWalk.i64_in _ (by omega)
    have hl1 := hc1.2
    have hl2 := hc2.2
    have hl3 := hc1.1
    have hl4 := hc2.1
    clear hp hc1 hc2
    go_wp2_with fail
    refine HC1.out.mono ?_
    rintro e w4 ⟨rfl, k4⟩
    have K4 := Lib.hid k4
    clear k4
    go_wp2_with fail
    refine (HC2.out w4 K4.out).mono ?_
    rintro e w5 ⟨rfl, k5⟩
    have K5 := Lib.hid (K4.out.trans k5)
    have S5 := Lib.hid ((HS.out).keeps0' K5.out)
    have G5 := Lib.hid (GR.out.keeps0 K5.out)
    have M5 := Lib.hid ((HM.out.keeps HK.out (fun e => by have := HL.out; omega)).keeps K5.out id)
    have B5 := Lib.hid (K5.out.heap (HK.out.heap HB.out (fun e => by have := HL.out; omega)) id)
    have R5 := Lib.hid (K5.out.heap (HK.out.heap R3.out (fun e => HN.out.1 e.symm)) id)
    have HK5 := Lib.hid (HK.out.trans (K5.out.mono (fun _ _ e => e.elim)))
    clear k5 K4 HC1 HC2 HS GR HK K5
    by_cases htx : wd = [116, 101, 120, 116] ∧ v = []
    · obtain ⟨rfl, rfl⟩ := htx
      have d1 : (([116, 101, 120, 116] : List UInt8) == [116, 101, 120, 116]) = true := by decide
      have hpp := HPP.out
      rw [if_pos ⟨rfl, rfl⟩] at hpp
      have HE := Lib.hid hpp
      have z0 : w5.cell? ⟨g, 0, none⟩ = some (.int .i64 s.dict) := cell_of S5.out rfl
      have z1 : w5.cell? ⟨g, 1, none⟩ = some (.int .i64 s.data) := cell_of S5.out rfl
      have z2 : w5.cell? ⟨g, 2, none⟩ = some (.int .i64 s.ret) := cell_of S5.out rfl
      have z3 : w5.cell? ⟨g, 3, none⟩ = some (.int .i64 s.heap) := cell_of S5.out rfl
      have z4 : w5.cell? ⟨g, 4, none⟩ = some (.int .i64 s.slots) := cell_of S5.out rfl
      have z5 : w5.cell? ⟨g, 5, none⟩ = some (.string ⟨s.text.toArray⟩) := cell_of S5.out rfl
      have z6 : w5.cell? ⟨g, 6, none⟩ = some (.string ⟨s.inp.toArray⟩) := cell_of S5.out rfl
      have z7 : w5.cell? ⟨g, 7, none⟩ = some (.int .i64 s.fuel) := cell_of S5.out rfl
      have y5 := free_of (i := 5) S5.out
      have x0 : w5.cell? ⟨r, 0, none⟩ = some (.int .i64 0) := cell_of R5.out rfl
      have q0 := free_of (i := 0) R5.out
      have x1 : w5.cell? ⟨r, 1, none⟩ = some (.int .i64 0) := cell_of R5.out rfl
      have q1 := free_of (i := 1) R5.out
      have x2 : w5.cell? ⟨r, 2, none⟩ = some (.int .i64 0) := cell_of R5.out rfl
      have q2 := free_of (i := 2) R5.out
      have x3 : w5.cell? ⟨r, 3, none⟩ = some (.int .i64 0) := cell_of R5.out rfl
      have q3 := free_of (i := 3) R5.out
      have x4 : w5.cell? ⟨r, 4, none⟩ = some (.int .i64 0) := cell_of R5.out rfl
      have q4 := free_of (i := 4) R5.out
      have x5 : w5.cell? ⟨r, 5, none⟩ = some (.string ⟨#[]⟩) := cell_of R5.out rfl
      have q5 := free_of (i := 5) R5.out
      have x6 : w5.cell? ⟨r, 6, none⟩ = some (.string ⟨#[]⟩) := cell_of R5.out rfl
      have q6 := free_of (i := 6) R5.out
      have x7 : w5.cell? ⟨r, 7, none⟩ = some (.int .i64 0) := cell_of R5.out rfl
      have q7 := free_of (i := 7) R5.out
      have n1 : g ≠ r := HN.out.1
      have n2 : r ≠ g := fun e => HN.out.1 e.symm
      clear hpp HPP
      have ks : Keeps (fun k => k = g) w5 (w5.setCell ⟨g, 5, none⟩ (.string ⟨rest.toArray⟩)) := Keeps.setCell _ _ _ (fun _ => rfl)
      have H8 := Lib.hid (set8 (ks.heap R5.out n2) (.int .i64 s.dict) (.int .i64 s.data) (.int .i64 s.ret) (.int .i64 s.heap) (.int .i64 s.slots) (.string ⟨rest.toArray⟩) (.string ⟨s.inp.toArray⟩) (.int .i64 s.fuel))
      have K8 := Lib.hid (K3.out.trans' ((HK5.out.trans ks).mono (T := fun k => k = g ∨ k = r) (fun _ _ e => .inl e) |>.trans ((keeps_set8 (w5.setCell ⟨g, 5, none⟩ (.string ⟨rest.toArray⟩)) r (.int .i64 s.dict) (.int .i64 s.data) (.int .i64 s.ret) (.int .i64 s.heap) (.int .i64 s.slots) (.string ⟨rest.toArray⟩) (.string ⟨s.inp.toArray⟩) (.int .i64 s.fuel)).mono (fun _ _ e => .inr e))) (fun i hi e => by have := HN.out; rcases e with e | e <;> omega))
      clear ks
      go_wp2_with fail
      generalize (((((((((w5.setCell ⟨g, 5, none⟩ (.string ⟨rest.toArray⟩)).setCell ⟨r, 0, none⟩ (.int .i64 s.dict)).setCell ⟨r, 1, none⟩ (.int .i64 s.data)).setCell ⟨r, 2, none⟩ (.int .i64 s.ret)).setCell ⟨r, 3, none⟩ (.int .i64 s.heap)).setCell ⟨r, 4, none⟩ (.int .i64 s.slots)).setCell ⟨r, 5, none⟩ (.string ⟨rest.toArray⟩)).setCell ⟨r, 6, none⟩ (.string ⟨s.inp.toArray⟩)).setCell ⟨r, 7, none⟩ (.int .i64 s.fuel)) = W8 at H8 K8 ⊢
      have t0 := cell_of (i := 0) H8.out rfl
      have t1 := cell_of (i := 1) H8.out rfl
      have t2 := cell_of (i := 2) H8.out rfl
      have t3 := cell_of (i := 3) H8.out rfl
      have t4 := cell_of (i := 4) H8.out rfl
      have t5 := cell_of (i := 5) H8.out rfl
      have t6 := cell_of (i := 6) H8.out rfl
      have t7 := cell_of (i := 7) H8.out rfl
      exact bodyPost_ret (v := .tuple #[.agg #[.int .i64 s.dict, .int .i64 s.data, .int .i64 s.ret, .int .i64 s.heap, .int .i64 s.slots, .string ⟨rest.toArray⟩, .string ⟨s.inp.toArray⟩, .int .i64 s.fuel], .int .i64 0]) (by simp [results, Tryz.results62, go_sem, t0, t1, t2, t3, t4, t5, t6, t7]) rfl ⟨by rw [← HE.out]; rfl, K8.out⟩
    · have hpp := HPP.out
      rw [if_neg htx] at hpp
      have HPI := Lib.hid (str_parse v w5 G5.out (by omega))
      have hpl := fldF_is b wd
      have HST := Lib.hid Scr.parseN_enough
      clear HPP
      by_cases ht : wd = [116, 101, 120, 116]
      · have hv : v ≠ [] := fun e => htx ⟨ht, e⟩
        have hli : Scr.line s wd v = none := by
          rw [ht]
          unfold Scr.line
          rw [if_neg (by decide)]
          rfl
        rw [hli] at hpp
        have HE := Lib.hid hpp
        rw [show Scr.place wd = none by rw [ht]; decide] at hpl
        have HFV := Lib.hid hpl
        have d1 : (wd == [116, 101, 120, 116]) = true := by simp [ht]
        have d2 : (v == []) = false := by simp [hv]
        have d3 : (wd == [105, 110]) = false := by rw [ht]; decide
        clear ht hv htx hpp hpl hli
        go_wp2_with (first
          | (at_lookup; refine wpList_look sk _ rfl _ _ 218 rfl _ Tryz.underlying218 _ (zero_fi _) m 6 (fldF b) rfl M5.out wd (show wd.length ≤ maxLen by unfold maxLen; omega) rfl _ HFV.out ?_; dsimp only [Option.getD_none, Option.isSome_none, Option.getD_some, Option.isSome_some]))
        refine HPI.out.mono ?_
        rintro e w6 ⟨k, ev, rfl, htold, k6⟩
        have S6 := Lib.hid (S5.out.keeps0' k6)
        have G6 := Lib.hid (G5.out.keeps0 k6)
        have B6 := Lib.hid (k6.heap B5.out id)
        have R6 := Lib.hid (k6.heap R5.out id)
        have HK6 := Lib.hid (HK5.out.trans (k6.mono (fun _ _ e => e.elim)))
        have HTO := Lib.hid htold
        clear k6 htold S5 G5 M5 B5 R5 HK5 HPI HFV
        have x0 : w6.cell? ⟨r, 0, none⟩ = some (.int .i64 0) := cell_of R6.out rfl
        have q0 := free_of (i := 0) R6.out
        have x1 : w6.cell? ⟨r, 1, none⟩ = some (.int .i64 0) := cell_of R6.out rfl
        have q1 := free_of (i := 1) R6.out
        have x2 : w6.cell? ⟨r, 2, none⟩ = some (.int .i64 0) := cell_of R6.out rfl
        have q2 := free_of (i := 2) R6.out
        have x3 : w6.cell? ⟨r, 3, none⟩ = some (.int .i64 0) := cell_of R6.out rfl
        have q3 := free_of (i := 3) R6.out
        have x4 : w6.cell? ⟨r, 4, none⟩ = some (.int .i64 0) := cell_of R6.out rfl
        have q4 := free_of (i := 4) R6.out
        have x5 : w6.cell? ⟨r, 5, none⟩ = some (.string ⟨#[]⟩) := cell_of R6.out rfl
        have q5 := free_of (i := 5) R6.out
        have x6 : w6.cell? ⟨r, 6, none⟩ = some (.string ⟨#[]⟩) := cell_of R6.out rfl
        have q6 := free_of (i := 6) R6.out
        have x7 : w6.cell? ⟨r, 7, none⟩ = some (.int .i64 0) := cell_of R6.out rfl
        have q7 := free_of (i := 7) R6.out
        have H8 := Lib.hid (set8 R6.out (.int .i64 0) (.int .i64 0) (.int .i64 0) (.int .i64 0) (.int .i64 0) (.string ⟨#[]⟩) (.string ⟨#[]⟩) (.int .i64 0))
        have K8 := Lib.hid (K3.out.trans' ((HK6.out.mono (T := fun k => k = g ∨ k = r) (fun _ _ e => .inl e)).trans ((keeps_set8 w6 r (.int .i64 0) (.int .i64 0) (.int .i64 0) (.int .i64 0) (.int .i64 0) (.string ⟨#[]⟩) (.string ⟨#[]⟩) (.int .i64 0)).mono (fun _ _ e => .inr e))) (fun i hi e => by have := HN.out; rcases e with e | e <;> omega))
        go_wp2_with fail
        generalize ((((((((w6.setCell ⟨r, 0, none⟩ (.int .i64 0)).setCell ⟨r, 1, none⟩ (.int .i64 0)).setCell ⟨r, 2, none⟩ (.int .i64 0)).setCell ⟨r, 3, none⟩ (.int .i64 0)).setCell ⟨r, 4, none⟩ (.int .i64 0)).setCell ⟨r, 5, none⟩ (.string ⟨#[]⟩)).setCell ⟨r, 6, none⟩ (.string ⟨#[]⟩)).setCell ⟨r, 7, none⟩ (.int .i64 0)) = W8 at H8 K8 ⊢
        have t0 := cell_of (i := 0) H8.out rfl
        have t1 := cell_of (i := 1) H8.out rfl
        have t2 := cell_of (i := 2) H8.out rfl
        have t3 := cell_of (i := 3) H8.out rfl
        have t4 := cell_of (i := 4) H8.out rfl
        have t5 := cell_of (i := 5) H8.out rfl
        have t6 := cell_of (i := 6) H8.out rfl
        have t7 := cell_of (i := 7) H8.out rfl
        exact bodyPost_ret (v := .tuple #[.agg #[.int .i64 0, .int .i64 0, .int .i64 0, .int .i64 0, .int .i64 0, .string ⟨#[]⟩, .string ⟨#[]⟩, .int .i64 0], .int .i64 (n + 1)]) (by simp [results, Tryz.results62, go_sem, t0, t1, t2, t3, t4, t5, t6, t7]) rfl ⟨by rw [← HE.out]; rfl, K8.out⟩
      · have d1 : (wd == [116, 101, 120, 116]) = false := by simp [ht]
        by_cases hin : wd = [105, 110]
        · have hli : Scr.line s wd v = some { s with inp := v } := by
            unfold Scr.line
            rw [if_pos hin]
          rw [hli] at hpp
          have HE := Lib.hid hpp
          rw [show Scr.place wd = none by rw [hin]; decide] at hpl
          have HFV := Lib.hid hpl
          have d3 : (wd == [105, 110]) = true := by simp [hin]
          clear ht htx hpp hpl hli hin
          go_wp2_with (first
            | (at_lookup; refine wpList_look sk _ rfl _ _ 218 rfl _ Tryz.underlying218 _ (zero_fi _) m 6 (fldF b) rfl M5.out wd (show wd.length ≤ maxLen by unfold maxLen; omega) rfl _ HFV.out ?_; dsimp only [Option.getD_none, Option.isSome_none, Option.getD_some, Option.isSome_some]))
          refine HPI.out.mono ?_
          rintro e w6 ⟨k, ev, rfl, htold, k6⟩
          have S6 := Lib.hid (S5.out.keeps0' k6)
          have G6 := Lib.hid (G5.out.keeps0 k6)
          have B6 := Lib.hid (k6.heap B5.out id)
          have R6 := Lib.hid (k6.heap R5.out id)
          have HK6 := Lib.hid (HK5.out.trans (k6.mono (fun _ _ e => e.elim)))
          have HTO := Lib.hid htold
          clear k6 htold S5 G5 M5 B5 R5 HK5 HPI HFV
          have z6 : w6.cell? ⟨g, 6, none⟩ = some (.string ⟨s.inp.toArray⟩) := cell_of S6.out rfl
          have y6 := free_of (i := 6) S6.out
          have ks : Keeps (fun k => k = g) w6 (w6.setCell ⟨g, 6, none⟩ (.string ⟨v.toArray⟩)) := Keeps.setCell _ _ _ (fun _ => rfl)
          have S7 := Lib.hid (show RSc (w6.setCell ⟨g, 6, none⟩ (.string ⟨v.toArray⟩)) g { s with inp := v } from hset_same S6.out _)
          have R7 := Lib.hid (ks.heap R6.out (fun e => HN.out.1 e.symm))
          have HK7 := Lib.hid (HK6.out.trans ks)
          clear ks
          go_upto_region 17 with fail
          generalize w6.setCell ⟨g, 6, none⟩ (.string ⟨v.toArray⟩) = w7 at S7 R7 HK7 ⊢
          clear z6 y6 S6 R6 HK6 G6 B6
          cases more with
          | false =>
            have hpp := HE.out
            simp only [Bool.false_eq_true, if_false] at hpp
            replace HE := Lib.hid hpp
            clear hpp
            have hwn2 : IntKind.i64.wrap (n + 1 + 1) = n + 2 := by rw [IntWalk.i64_in _ (by omega)]; omega
            have x0 : w7.cell? ⟨r, 0, none⟩ = some (.int .i64 0) := cell_of R7.out rfl
            have q0 := free_of (i := 0) R7.out
            have x1 : w7.cell? ⟨r, 1, none⟩ = some (.int .i64 0) := cell_of R7.out rfl
            have q1 := free_of (i := 1) R7.out
            have x2 : w7.cell? ⟨r, 2, none⟩ = some (.int .i64 0) := cell_of R7.out rfl
            have q2 := free_of (i := 2) R7.out
            have x3 : w7.cell? ⟨r, 3, none⟩ = some (.int .i64 0) := cell_of R7.out rfl
            have q3 := free_of (i := 3) R7.out
            have x4 : w7.cell? ⟨r, 4, none⟩ = some (.int .i64 0) := cell_of R7.out rfl
            have q4 := free_of (i := 4) R7.out
            have x5 : w7.cell? ⟨r, 5, none⟩ = some (.string ⟨#[]⟩) := cell_of R7.out rfl
            have q5 := free_of (i := 5) R7.out
            have x6 : w7.cell? ⟨r, 6, none⟩ = some (.string ⟨#[]⟩) := cell_of R7.out rfl
            have q6 := free_of (i := 6) R7.out
            have x7 : w7.cell? ⟨r, 7, none⟩ = some (.int .i64 0) := cell_of R7.out rfl
            have q7 := free_of (i := 7) R7.out
            have H8 := Lib.hid (set8 R7.out (.int .i64 0) (.int .i64 0) (.int .i64 0) (.int .i64 0) (.int .i64 0) (.string ⟨#[]⟩) (.string ⟨#[]⟩) (.int .i64 0))
            have K8 := Lib.hid (K3.out.trans' ((HK7.out.mono (T := fun k => k = g ∨ k = r) (fun _ _ e => .inl e)).trans ((keeps_set8 w7 r (.int .i64 0) (.int .i64 0) (.int .i64 0) (.int .i64 0) (.int .i64 0) (.string ⟨#[]⟩) (.string ⟨#[]⟩) (.int .i64 0)).mono (fun _ _ e => .inr e))) (fun i hi e => by have := HN.out; rcases e with e | e <;> omega))
            go_wp2_with fail
            generalize ((((((((w7.setCell ⟨r, 0, none⟩ (.int .i64 0)).setCell ⟨r, 1, none⟩ (.int .i64 0)).setCell ⟨r, 2, none⟩ (.int .i64 0)).setCell ⟨r, 3, none⟩ (.int .i64 0)).setCell ⟨r, 4, none⟩ (.int .i64 0)).setCell ⟨r, 5, none⟩ (.string ⟨#[]⟩)).setCell ⟨r, 6, none⟩ (.string ⟨#[]⟩)).setCell ⟨r, 7, none⟩ (.int .i64 0)) = W8 at H8 K8 ⊢
            have t0 := cell_of (i := 0) H8.out rfl
            have t1 := cell_of (i := 1) H8.out rfl
            have t2 := cell_of (i := 2) H8.out rfl
            have t3 := cell_of (i := 3) H8.out rfl
            have t4 := cell_of (i := 4) H8.out rfl
            have t5 := cell_of (i := 5) H8.out rfl
            have t6 := cell_of (i := 6) H8.out rfl
            have t7 := cell_of (i := 7) H8.out rfl
            exact bodyPost_ret (v := .tuple #[.agg #[.int .i64 0, .int .i64 0, .int .i64 0, .int .i64 0, .int .i64 0, .string ⟨#[]⟩, .string ⟨#[]⟩, .int .i64 0], .int .i64 (n + 2)]) (by simp [results, Tryz.results62, go_sem, t0, t1, t2, t3, t4, t5, t6, t7]) rfl ⟨by rw [← HE.out]; rfl, K8.out⟩
          | true =>
            have hpp := HE.out
            simp only [if_true] at hpp
            replace HE := Lib.hid hpp
            have hrl := HCM.out rfl
            clear hpp
            go_wp2_with fail
            go_roundw
            case rel => exact ⟨_, rest, n + 1, rfl, rfl, by omega, by omega, (HST.out _ _ _ _ _ (by omega) (by omega)).trans HE.out, S7.out, HK7.out⟩
            case measure => (show rest.toArray.size < t.toArray.size; simp; omega)
        · have d3 : (wd == [105, 110]) = false := by simp [hin]
          cases hpw : Scr.place wd with
          | none =>
            have hli : Scr.line s wd v = none := by
              unfold Scr.line
              rw [if_neg hin, hpw]
            rw [hli] at hpp
            have HE := Lib.hid hpp
            rw [hpw] at hpl
            have HFV := Lib.hid hpl
            clear ht htx hpp hpl hli hin hpw
            go_wp2_with (first
              | (at_lookup; refine wpList_look sk _ rfl _ _ 218 rfl _ Tryz.underlying218 _ (zero_fi _) m 6 (fldF b) rfl M5.out wd (show wd.length ≤ maxLen by unfold maxLen; omega) rfl _ HFV.out ?_; dsimp only [Option.getD_none, Option.isSome_none, Option.getD_some, Option.isSome_some]))
            refine HPI.out.mono ?_
            rintro e w6 ⟨k, ev, rfl, htold, k6⟩
            have S6 := Lib.hid (S5.out.keeps0' k6)
            have G6 := Lib.hid (G5.out.keeps0 k6)
            have B6 := Lib.hid (k6.heap B5.out id)
            have R6 := Lib.hid (k6.heap R5.out id)
            have HK6 := Lib.hid (HK5.out.trans (k6.mono (fun _ _ e => e.elim)))
            have HTO := Lib.hid htold
            clear k6 htold S5 G5 M5 B5 R5 HK5 HPI HFV
            have x0 : w6.cell? ⟨r, 0, none⟩ = some (.int .i64 0) := cell_of R6.out rfl
            have q0 := free_of (i := 0) R6.out
            have x1 : w6.cell? ⟨r, 1, none⟩ = some (.int .i64 0) := cell_of R6.out rfl
            have q1 := free_of (i := 1) R6.out
            have x2 : w6.cell? ⟨r, 2, none⟩ = some (.int .i64 0) := cell_of R6.out rfl
            have q2 := free_of (i := 2) R6.out
            have x3 : w6.cell? ⟨r, 3, none⟩ = some (.int .i64 0) := cell_of R6.out rfl
            have q3 := free_of (i := 3) R6.out
            have x4 : w6.cell? ⟨r, 4, none⟩ = some (.int .i64 0) := cell_of R6.out rfl
            have q4 := free_of (i := 4) R6.out
            have x5 : w6.cell? ⟨r, 5, none⟩ = some (.string ⟨#[]⟩) := cell_of R6.out rfl
            have q5 := free_of (i := 5) R6.out
            have x6 : w6.cell? ⟨r, 6, none⟩ = some (.string ⟨#[]⟩) := cell_of R6.out rfl
            have q6 := free_of (i := 6) R6.out
            have x7 : w6.cell? ⟨r, 7, none⟩ = some (.int .i64 0) := cell_of R6.out rfl
            have q7 := free_of (i := 7) R6.out
            have H8 := Lib.hid (set8 R6.out (.int .i64 0) (.int .i64 0) (.int .i64 0) (.int .i64 0) (.int .i64 0) (.string ⟨#[]⟩) (.string ⟨#[]⟩) (.int .i64 0))
            have K8 := Lib.hid (K3.out.trans' ((HK6.out.mono (T := fun k => k = g ∨ k = r) (fun _ _ e => .inl e)).trans ((keeps_set8 w6 r (.int .i64 0) (.int .i64 0) (.int .i64 0) (.int .i64 0) (.int .i64 0) (.string ⟨#[]⟩) (.string ⟨#[]⟩) (.int .i64 0)).mono (fun _ _ e => .inr e))) (fun i hi e => by have := HN.out; rcases e with e | e <;> omega))
            go_wp2_with fail
            generalize ((((((((w6.setCell ⟨r, 0, none⟩ (.int .i64 0)).setCell ⟨r, 1, none⟩ (.int .i64 0)).setCell ⟨r, 2, none⟩ (.int .i64 0)).setCell ⟨r, 3, none⟩ (.int .i64 0)).setCell ⟨r, 4, none⟩ (.int .i64 0)).setCell ⟨r, 5, none⟩ (.string ⟨#[]⟩)).setCell ⟨r, 6, none⟩ (.string ⟨#[]⟩)).setCell ⟨r, 7, none⟩ (.int .i64 0)) = W8 at H8 K8 ⊢
            have t0 := cell_of (i := 0) H8.out rfl
            have t1 := cell_of (i := 1) H8.out rfl
            have t2 := cell_of (i := 2) H8.out rfl
            have t3 := cell_of (i := 3) H8.out rfl
            have t4 := cell_of (i := 4) H8.out rfl
            have t5 := cell_of (i := 5) H8.out rfl
            have t6 := cell_of (i := 6) H8.out rfl
            have t7 := cell_of (i := 7) H8.out rfl
            exact bodyPost_ret (v := .tuple #[.agg #[.int .i64 0, .int .i64 0, .int .i64 0, .int .i64 0, .int .i64 0, .string ⟨#[]⟩, .string ⟨#[]⟩, .int .i64 0], .int .i64 (n + 1)]) (by simp [results, Tryz.results62, go_sem, t0, t1, t2, t3, t4, t5, t6, t7]) rfl ⟨by rw [← HE.out]; rfl, K8.out⟩
          | some i =>
            have hi6 := Scr.place_lt wd i hpw
            have hfv : fldF b wd = some (setV b i) := by rw [hpl, hpw]; rfl
            have HFV := Lib.hid hfv
            have HLI := Lib.hid (show Scr.line s wd v = match Scr.num v with | some k => some (s.set i k) | none => none by
              unfold Scr.line
              rw [if_neg hin, hpw]
              cases Scr.num v <;> rfl)
            have HPQ := Lib.hid hpp
            clear ht htx hpp hpl hin hpw hfv
            unfold setV at HFV
            go_wp2_with (first
              | (at_lookup; refine wpList_look sk _ rfl _ _ 218 rfl _ Tryz.underlying218 _ (zero_fi _) m 6 (fldF b) rfl M5.out wd (show wd.length ≤ maxLen by unfold maxLen; omega) rfl _ HFV.out ?_; dsimp only [Option.getD_none, Option.isSome_none, Option.getD_some, Option.isSome_some]))
            refine HPI.out.mono ?_
            rintro e w6 ⟨k, ev, rfl, htold, k6⟩
            have S6 := Lib.hid (S5.out.keeps0' k6)
            have G6 := Lib.hid (G5.out.keeps0 k6)
            have B6 := Lib.hid (k6.heap B5.out id)
            have R6 := Lib.hid (k6.heap R5.out id)
            have HK6 := Lib.hid (HK5.out.trans (k6.mono (fun _ _ e => e.elim)))
            have HTO := Lib.hid htold
            clear k6 htold S5 G5 M5 B5 R5 HK5 HPI HFV
            have ISL := Lib.hid (Scr.num_iff v)
            cases hnum : Scr.num v with
            | some kk =>
              have hli := HLI.out
              rw [hnum] at hli
              have hpp := HPQ.out
              rw [hli] at hpp
              have HE := Lib.hid hpp
              obtain ⟨i1, i2, i3⟩ := (ISL.out kk).1 hnum
              obtain ⟨rfl, rfl⟩ : ev = .nilIface ∧ k = (kk : Int) := by
                rcases HTO.out with ⟨h1, h2⟩ | ⟨_, h2⟩
                · rw [i1] at h2; injection h2 with h2; exact ⟨h1, h2.symm⟩
                · exact absurd i1 (h2 _)
              have HFO := Lib.hid (str_format (kk : Int) (by omega) (by omega) w6 G6.out)
              rw [i2] at HFO
              have e1 : (v == v) = true := by simp
              have e2 : decide ((kk : Int) < 0) = false := decide_eq_false (by omega)
              have e3 : decide ((1048576 : Int) < (kk : Int)) = false := decide_eq_false (by omega)
              have e4 : decide (1048576 < kk) = false := decide_eq_false (by omega)
              have hen := set_enters i
              clear hli hpp HPQ HLI hnum i1 i2 HTO ISL
              go_wp2_with fail
              refine HFO.out.mono ?_
              rintro e w7 ⟨rfl, k7⟩
              have S7 := Lib.hid (S6.out.keeps0' k7)
              have B7 := Lib.hid (k7.heap B6.out id)
              have R7 := Lib.hid (k7.heap R6.out id)
              have HK7 := Lib.hid (HK6.out.trans (k7.mono (fun _ _ e => e.elim)))
              have HSET := Lib.hid (scr_set w7 g b i s (kk : Int) hi6 S7.out B7.out)
              clear k7 S6 G6 B6 R6 HK6 HFO
              go_wp2_with fail
              refine HSET.out.mono ?_
              rintro e w8 ⟨rfl, s8, k8⟩
              have S8 := Lib.hid s8
              have R8 := Lib.hid (k8.heap R7.out (fun e => HN.out.1 e.symm))
              have HK8 := Lib.hid (HK7.out.trans k8)
              clear s8 k8 S7 R7 B7 HK7 HSET e1 e2 e3 e4 hen
              cases more with
              | false =>
                have hpp := HE.out
                simp only [Bool.false_eq_true, if_false] at hpp
                replace HE := Lib.hid hpp
                clear hpp
                have hwn2 : IntKind.i64.wrap (n + 1 + 1) = n + 2 := by rw [IntWalk.i64_in _ (by omega)]; omega
                have x0 : w8.cell? ⟨r, 0, none⟩ = some (.int .i64 0) := cell_of R8.out rfl
                have q0 := free_of (i := 0) R8.out
                have x1 : w8.cell? ⟨r, 1, none⟩ = some (.int .i64 0) := cell_of R8.out rfl
                have q1 := free_of (i := 1) R8.out
                have x2 : w8.cell? ⟨r, 2, none⟩ = some (.int .i64 0) := cell_of R8.out rfl
                have q2 := free_of (i := 2) R8.out
                have x3 : w8.cell? ⟨r, 3, none⟩ = some (.int .i64 0) := cell_of R8.out rfl
                have q3 := free_of (i := 3) R8.out
                have x4 : w8.cell? ⟨r, 4, none⟩ = some (.int .i64 0) := cell_of R8.out rfl
                have q4 := free_of (i := 4) R8.out
                have x5 : w8.cell? ⟨r, 5, none⟩ = some (.string ⟨#[]⟩) := cell_of R8.out rfl
                have q5 := free_of (i := 5) R8.out
                have x6 : w8.cell? ⟨r, 6, none⟩ = some (.string ⟨#[]⟩) := cell_of R8.out rfl
                have q6 := free_of (i := 6) R8.out
                have x7 : w8.cell? ⟨r, 7, none⟩ = some (.int .i64 0) := cell_of R8.out rfl
                have q7 := free_of (i := 7) R8.out
                have H8 := Lib.hid (set8 R8.out (.int .i64 0) (.int .i64 0) (.int .i64 0) (.int .i64 0) (.int .i64 0) (.string ⟨#[]⟩) (.string ⟨#[]⟩) (.int .i64 0))
                have K8 := Lib.hid (K3.out.trans' ((HK8.out.mono (T := fun k => k = g ∨ k = r) (fun _ _ e => .inl e)).trans ((keeps_set8 w8 r (.int .i64 0) (.int .i64 0) (.int .i64 0) (.int .i64 0) (.int .i64 0) (.string ⟨#[]⟩) (.string ⟨#[]⟩) (.int .i64 0)).mono (fun _ _ e => .inr e))) (fun i hi e => by have := HN.out; rcases e with e | e <;> omega))
                go_wp2_with fail
                generalize ((((((((w8.setCell ⟨r, 0, none⟩ (.int .i64 0)).setCell ⟨r, 1, none⟩ (.int .i64 0)).setCell ⟨r, 2, none⟩ (.int .i64 0)).setCell ⟨r, 3, none⟩ (.int .i64 0)).setCell ⟨r, 4, none⟩ (.int .i64 0)).setCell ⟨r, 5, none⟩ (.string ⟨#[]⟩)).setCell ⟨r, 6, none⟩ (.string ⟨#[]⟩)).setCell ⟨r, 7, none⟩ (.int .i64 0)) = W8 at H8 K8 ⊢
                have t0 := cell_of (i := 0) H8.out rfl
                have t1 := cell_of (i := 1) H8.out rfl
                have t2 := cell_of (i := 2) H8.out rfl
                have t3 := cell_of (i := 3) H8.out rfl
                have t4 := cell_of (i := 4) H8.out rfl
                have t5 := cell_of (i := 5) H8.out rfl
                have t6 := cell_of (i := 6) H8.out rfl
                have t7 := cell_of (i := 7) H8.out rfl
                exact bodyPost_ret (v := .tuple #[.agg #[.int .i64 0, .int .i64 0, .int .i64 0, .int .i64 0, .int .i64 0, .string ⟨#[]⟩, .string ⟨#[]⟩, .int .i64 0], .int .i64 (n + 2)]) (by simp [results, Tryz.results62, go_sem, t0, t1, t2, t3, t4, t5, t6, t7]) rfl ⟨by rw [← HE.out]; rfl, K8.out⟩
              | true =>
                have hpp := HE.out
                simp only [if_true] at hpp
                replace HE := Lib.hid hpp
                have hrl := HCM.out rfl
                clear hpp
                go_wp2_with fail
                go_roundw
                case rel => exact ⟨_, rest, n + 1, rfl, rfl, by omega, by omega, (HST.out _ _ _ _ _ (by omega) (by omega)).trans HE.out, S8.out, HK8.out⟩
                case measure => (show rest.toArray.size < t.toArray.size; simp; omega)
            | none =>
              have hli := HLI.out
              rw [hnum] at hli
              have hpp := HPQ.out
              rw [hli] at hpp
              have HE := Lib.hid hpp
              have HNU := Lib.hid hnum
              clear hli hpp HPQ HLI hnum
              rcases HTO.out with ⟨rfl, h2⟩ | ⟨⟨ia, ib, rfl⟩, _⟩
              · have hbd := Scr.int_bd v k h2
                have HFO := Lib.hid (str_format k hbd.1 hbd.2 w6 G6.out)
                by_cases e1 : Lib.itoa k = v
                · have hkk : k < 0 ∨ 1048576 < k := by
                    by_cases h3 : k < 0
                    · exact .inl h3
                    · by_cases h4 : 1048576 < k
                      · exact .inr h4
                      · have := (ISL.out k.toNat).2 ⟨by rw [show ((k.toNat : Nat) : Int) = k by omega]; exact h2, by rw [show ((k.toNat : Nat) : Int) = k by omega]; exact e1, by omega⟩
                        rw [HNU.out] at this
                        cases this
                  rw [e1] at HFO
                  have e1 : (v == v) = true := by simp
                  clear h2 hbd HNU ISL HTO
                  go_wp2_with fail
                  refine HFO.out.mono ?_
                  rintro e w7 ⟨rfl, k7⟩
                  have R7 := Lib.hid (k7.heap R6.out id)
                  have HK7 := Lib.hid (HK6.out.trans (k7.mono (fun _ _ e => e.elim)))
                  clear k7 S6 G6 B6 R6 HK6 HFO
                  rcases hkk with h3 | h4
                  · have e2 : decide (k < 0) = true := decide_eq_true h3
                    have e3 : decide (1048576 < k) = false := decide_eq_false (by omega)
                    clear h3
                    have x0 : w7.cell? ⟨r, 0, none⟩ = some (.int .i64 0) := cell_of R7.out rfl
                    have q0 := free_of (i := 0) R7.out
                    have x1 : w7.cell? ⟨r, 1, none⟩ = some (.int .i64 0) := cell_of R7.out rfl
                    have q1 := free_of (i := 1) R7.out
                    have x2 : w7.cell? ⟨r, 2, none⟩ = some (.int .i64 0) := cell_of R7.out rfl
                    have q2 := free_of (i := 2) R7.out
                    have x3 : w7.cell? ⟨r, 3, none⟩ = some (.int .i64 0) := cell_of R7.out rfl
                    have q3 := free_of (i := 3) R7.out
                    have x4 : w7.cell? ⟨r, 4, none⟩ = some (.int .i64 0) := cell_of R7.out rfl
                    have q4 := free_of (i := 4) R7.out
                    have x5 : w7.cell? ⟨r, 5, none⟩ = some (.string ⟨#[]⟩) := cell_of R7.out rfl
                    have q5 := free_of (i := 5) R7.out
                    have x6 : w7.cell? ⟨r, 6, none⟩ = some (.string ⟨#[]⟩) := cell_of R7.out rfl
                    have q6 := free_of (i := 6) R7.out
                    have x7 : w7.cell? ⟨r, 7, none⟩ = some (.int .i64 0) := cell_of R7.out rfl
                    have q7 := free_of (i := 7) R7.out
                    have H8 := Lib.hid (set8 R7.out (.int .i64 0) (.int .i64 0) (.int .i64 0) (.int .i64 0) (.int .i64 0) (.string ⟨#[]⟩) (.string ⟨#[]⟩) (.int .i64 0))
                    have K8 := Lib.hid (K3.out.trans' ((HK7.out.mono (T := fun k => k = g ∨ k = r) (fun _ _ e => .inl e)).trans ((keeps_set8 w7 r (.int .i64 0) (.int .i64 0) (.int .i64 0) (.int .i64 0) (.int .i64 0) (.string ⟨#[]⟩) (.string ⟨#[]⟩) (.int .i64 0)).mono (fun _ _ e => .inr e))) (fun i hi e => by have := HN.out; rcases e with e | e <;> omega))
                    go_wp2_with fail
                    generalize ((((((((w7.setCell ⟨r, 0, none⟩ (.int .i64 0)).setCell ⟨r, 1, none⟩ (.int .i64 0)).setCell ⟨r, 2, none⟩ (.int .i64 0)).setCell ⟨r, 3, none⟩ (.int .i64 0)).setCell ⟨r, 4, none⟩ (.int .i64 0)).setCell ⟨r, 5, none⟩ (.string ⟨#[]⟩)).setCell ⟨r, 6, none⟩ (.string ⟨#[]⟩)).setCell ⟨r, 7, none⟩ (.int .i64 0)) = W8 at H8 K8 ⊢
                    have t0 := cell_of (i := 0) H8.out rfl
                    have t1 := cell_of (i := 1) H8.out rfl
                    have t2 := cell_of (i := 2) H8.out rfl
                    have t3 := cell_of (i := 3) H8.out rfl
                    have t4 := cell_of (i := 4) H8.out rfl
                    have t5 := cell_of (i := 5) H8.out rfl
                    have t6 := cell_of (i := 6) H8.out rfl
                    have t7 := cell_of (i := 7) H8.out rfl
                    exact bodyPost_ret (v := .tuple #[.agg #[.int .i64 0, .int .i64 0, .int .i64 0, .int .i64 0, .int .i64 0, .string ⟨#[]⟩, .string ⟨#[]⟩, .int .i64 0], .int .i64 (n + 1)]) (by simp [results, Tryz.results62, go_sem, t0, t1, t2, t3, t4, t5, t6, t7]) rfl ⟨by rw [← HE.out]; rfl, K8.out⟩
                  · have e2 : decide (k < 0) = false := decide_eq_false (by omega)
                    have e3 : decide (1048576 < k) = true := decide_eq_true h4
                    clear h4
                    have x0 : w7.cell? ⟨r, 0, none⟩ = some (.int .i64 0) := cell_of R7.out rfl
                    have q0 := free_of (i := 0) R7.out
                    have x1 : w7.cell? ⟨r, 1, none⟩ = some (.int .i64 0) := cell_of R7.out rfl
                    have q1 := free_of (i := 1) R7.out
                    have x2 : w7.cell? ⟨r, 2, none⟩ = some (.int .i64 0) := cell_of R7.out rfl
                    have q2 := free_of (i := 2) R7.out
                    have x3 : w7.cell? ⟨r, 3, none⟩ = some (.int .i64 0) := cell_of R7.out rfl
                    have q3 := free_of (i := 3) R7.out
                    have x4 : w7.cell? ⟨r, 4, none⟩ = some (.int .i64 0) := cell_of R7.out rfl
                    have q4 := free_of (i := 4) R7.out
                    have x5 : w7.cell? ⟨r, 5, none⟩ = some (.string ⟨#[]⟩) := cell_of R7.out rfl
                    have q5 := free_of (i := 5) R7.out
                    have x6 : w7.cell? ⟨r, 6, none⟩ = some (.string ⟨#[]⟩) := cell_of R7.out rfl
                    have q6 := free_of (i := 6) R7.out
                    have x7 : w7.cell? ⟨r, 7, none⟩ = some (.int .i64 0) := cell_of R7.out rfl
                    have q7 := free_of (i := 7) R7.out
                    have H8 := Lib.hid (set8 R7.out (.int .i64 0) (.int .i64 0) (.int .i64 0) (.int .i64 0) (.int .i64 0) (.string ⟨#[]⟩) (.string ⟨#[]⟩) (.int .i64 0))
                    have K8 := Lib.hid (K3.out.trans' ((HK7.out.mono (T := fun k => k = g ∨ k = r) (fun _ _ e => .inl e)).trans ((keeps_set8 w7 r (.int .i64 0) (.int .i64 0) (.int .i64 0) (.int .i64 0) (.int .i64 0) (.string ⟨#[]⟩) (.string ⟨#[]⟩) (.int .i64 0)).mono (fun _ _ e => .inr e))) (fun i hi e => by have := HN.out; rcases e with e | e <;> omega))
                    go_wp2_with fail
                    generalize ((((((((w7.setCell ⟨r, 0, none⟩ (.int .i64 0)).setCell ⟨r, 1, none⟩ (.int .i64 0)).setCell ⟨r, 2, none⟩ (.int .i64 0)).setCell ⟨r, 3, none⟩ (.int .i64 0)).setCell ⟨r, 4, none⟩ (.int .i64 0)).setCell ⟨r, 5, none⟩ (.string ⟨#[]⟩)).setCell ⟨r, 6, none⟩ (.string ⟨#[]⟩)).setCell ⟨r, 7, none⟩ (.int .i64 0)) = W8 at H8 K8 ⊢
                    have t0 := cell_of (i := 0) H8.out rfl
                    have t1 := cell_of (i := 1) H8.out rfl
                    have t2 := cell_of (i := 2) H8.out rfl
                    have t3 := cell_of (i := 3) H8.out rfl
                    have t4 := cell_of (i := 4) H8.out rfl
                    have t5 := cell_of (i := 5) H8.out rfl
                    have t6 := cell_of (i := 6) H8.out rfl
                    have t7 := cell_of (i := 7) H8.out rfl
                    exact bodyPost_ret (v := .tuple #[.agg #[.int .i64 0, .int .i64 0, .int .i64 0, .int .i64 0, .int .i64 0, .string ⟨#[]⟩, .string ⟨#[]⟩, .int .i64 0], .int .i64 (n + 1)]) (by simp [results, Tryz.results62, go_sem, t0, t1, t2, t3, t4, t5, t6, t7]) rfl ⟨by rw [← HE.out]; rfl, K8.out⟩
                · have e2 : (Lib.itoa k == v) = false := by simp [e1]
                  generalize Lib.itoa k = A at HFO e2
                  clear h2 hbd HNU ISL HTO e1
                  go_wp2_with fail
                  refine HFO.out.mono ?_
                  rintro e w7 ⟨rfl, k7⟩
                  have R7 := Lib.hid (k7.heap R6.out id)
                  have HK7 := Lib.hid (HK6.out.trans (k7.mono (fun _ _ e => e.elim)))
                  clear k7 S6 G6 B6 R6 HK6 HFO
                  have x0 : w7.cell? ⟨r, 0, none⟩ = some (.int .i64 0) := cell_of R7.out rfl
                  have q0 := free_of (i := 0) R7.out
                  have x1 : w7.cell? ⟨r, 1, none⟩ = some (.int .i64 0) := cell_of R7.out rfl
                  have q1 := free_of (i := 1) R7.out
                  have x2 : w7.cell? ⟨r, 2, none⟩ = some (.int .i64 0) := cell_of R7.out rfl
                  have q2 := free_of (i := 2) R7.out
                  have x3 : w7.cell? ⟨r, 3, none⟩ = some (.int .i64 0) := cell_of R7.out rfl
                  have q3 := free_of (i := 3) R7.out
                  have x4 : w7.cell? ⟨r, 4, none⟩ = some (.int .i64 0) := cell_of R7.out rfl
                  have q4 := free_of (i := 4) R7.out
                  have x5 : w7.cell? ⟨r, 5, none⟩ = some (.string ⟨#[]⟩) := cell_of R7.out rfl
                  have q5 := free_of (i := 5) R7.out
                  have x6 : w7.cell? ⟨r, 6, none⟩ = some (.string ⟨#[]⟩) := cell_of R7.out rfl
                  have q6 := free_of (i := 6) R7.out
                  have x7 : w7.cell? ⟨r, 7, none⟩ = some (.int .i64 0) := cell_of R7.out rfl
                  have q7 := free_of (i := 7) R7.out
                  have H8 := Lib.hid (set8 R7.out (.int .i64 0) (.int .i64 0) (.int .i64 0) (.int .i64 0) (.int .i64 0) (.string ⟨#[]⟩) (.string ⟨#[]⟩) (.int .i64 0))
                  have K8 := Lib.hid (K3.out.trans' ((HK7.out.mono (T := fun k => k = g ∨ k = r) (fun _ _ e => .inl e)).trans ((keeps_set8 w7 r (.int .i64 0) (.int .i64 0) (.int .i64 0) (.int .i64 0) (.int .i64 0) (.string ⟨#[]⟩) (.string ⟨#[]⟩) (.int .i64 0)).mono (fun _ _ e => .inr e))) (fun i hi e => by have := HN.out; rcases e with e | e <;> omega))
                  go_wp2_with fail
                  generalize ((((((((w7.setCell ⟨r, 0, none⟩ (.int .i64 0)).setCell ⟨r, 1, none⟩ (.int .i64 0)).setCell ⟨r, 2, none⟩ (.int .i64 0)).setCell ⟨r, 3, none⟩ (.int .i64 0)).setCell ⟨r, 4, none⟩ (.int .i64 0)).setCell ⟨r, 5, none⟩ (.string ⟨#[]⟩)).setCell ⟨r, 6, none⟩ (.string ⟨#[]⟩)).setCell ⟨r, 7, none⟩ (.int .i64 0)) = W8 at H8 K8 ⊢
                  have t0 := cell_of (i := 0) H8.out rfl
                  have t1 := cell_of (i := 1) H8.out rfl
                  have t2 := cell_of (i := 2) H8.out rfl
                  have t3 := cell_of (i := 3) H8.out rfl
                  have t4 := cell_of (i := 4) H8.out rfl
                  have t5 := cell_of (i := 5) H8.out rfl
                  have t6 := cell_of (i := 6) H8.out rfl
                  have t7 := cell_of (i := 7) H8.out rfl
                  exact bodyPost_ret (v := .tuple #[.agg #[.int .i64 0, .int .i64 0, .int .i64 0, .int .i64 0, .int .i64 0, .string ⟨#[]⟩, .string ⟨#[]⟩, .int .i64 0], .int .i64 (n + 1)]) (by simp [results, Tryz.results62, go_sem, t0, t1, t2, t3, t4, t5, t6, t7]) rfl ⟨by rw [← HE.out]; rfl, K8.out⟩
              · clear HNU ISL HTO
                have x0 : w6.cell? ⟨r, 0, none⟩ = some (.int .i64 0) := cell_of R6.out rfl
                have q0 := free_of (i := 0) R6.out
                have x1 : w6.cell? ⟨r, 1, none⟩ = some (.int .i64 0) := cell_of R6.out rfl
                have q1 := free_of (i := 1) R6.out
                have x2 : w6.cell? ⟨r, 2, none⟩ = some (.int .i64 0) := cell_of R6.out rfl
                have q2 := free_of (i := 2) R6.out
                have x3 : w6.cell? ⟨r, 3, none⟩ = some (.int .i64 0) := cell_of R6.out rfl
                have q3 := free_of (i := 3) R6.out
                have x4 : w6.cell? ⟨r, 4, none⟩ = some (.int .i64 0) := cell_of R6.out rfl
                have q4 := free_of (i := 4) R6.out
                have x5 : w6.cell? ⟨r, 5, none⟩ = some (.string ⟨#[]⟩) := cell_of R6.out rfl
                have q5 := free_of (i := 5) R6.out
                have x6 : w6.cell? ⟨r, 6, none⟩ = some (.string ⟨#[]⟩) := cell_of R6.out rfl
                have q6 := free_of (i := 6) R6.out
                have x7 : w6.cell? ⟨r, 7, none⟩ = some (.int .i64 0) := cell_of R6.out rfl
                have q7 := free_of (i := 7) R6.out
                have H8 := Lib.hid (set8 R6.out (.int .i64 0) (.int .i64 0) (.int .i64 0) (.int .i64 0) (.int .i64 0) (.string ⟨#[]⟩) (.string ⟨#[]⟩) (.int .i64 0))
                have K8 := Lib.hid (K3.out.trans' ((HK6.out.mono (T := fun k => k = g ∨ k = r) (fun _ _ e => .inl e)).trans ((keeps_set8 w6 r (.int .i64 0) (.int .i64 0) (.int .i64 0) (.int .i64 0) (.int .i64 0) (.string ⟨#[]⟩) (.string ⟨#[]⟩) (.int .i64 0)).mono (fun _ _ e => .inr e))) (fun i hi e => by have := HN.out; rcases e with e | e <;> omega))
                go_wp2_with fail
                generalize ((((((((w6.setCell ⟨r, 0, none⟩ (.int .i64 0)).setCell ⟨r, 1, none⟩ (.int .i64 0)).setCell ⟨r, 2, none⟩ (.int .i64 0)).setCell ⟨r, 3, none⟩ (.int .i64 0)).setCell ⟨r, 4, none⟩ (.int .i64 0)).setCell ⟨r, 5, none⟩ (.string ⟨#[]⟩)).setCell ⟨r, 6, none⟩ (.string ⟨#[]⟩)).setCell ⟨r, 7, none⟩ (.int .i64 0)) = W8 at H8 K8 ⊢
                have t0 := cell_of (i := 0) H8.out rfl
                have t1 := cell_of (i := 1) H8.out rfl
                have t2 := cell_of (i := 2) H8.out rfl
                have t3 := cell_of (i := 3) H8.out rfl
                have t4 := cell_of (i := 4) H8.out rfl
                have t5 := cell_of (i := 5) H8.out rfl
                have t6 := cell_of (i := 6) H8.out rfl
                have t7 := cell_of (i := 7) H8.out rfl
                exact bodyPost_ret (v := .tuple #[.agg #[.int .i64 0, .int .i64 0, .int .i64 0, .int .i64 0, .int .i64 0, .string ⟨#[]⟩, .string ⟨#[]⟩, .int .i64 0], .int .i64 (n + 1)]) (by simp [results, Tryz.results62, go_sem, t0, t1, t2, t3, t4, t5, t6, t7]) rfl ⟨by rw [← HE.out]; rfl, K8.out⟩
end Go.Proofs.Shed
