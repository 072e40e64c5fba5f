/- Layer 19, 22: Run, Play, of the chapter's example. Condition: the library's variables hold what they hold at the start. -/
import Derived.Test.YthhfkhhhclmimaaGreatDoorMOF
import Derived.Test.YthhfkhhhclmimaaGreatDoorMLivT
import Derived.Test.YthhfkhhhclmimaaGreatDoorMSB
import Derived.Test.YthhfkhhhclmimaaGreatDoorMWScrG
set_option linter.unusedVariables false
set_option linter.unusedSimpArgs false
set_option maxRecDepth 10000
set_option maxHeartbeats 4000000
namespace Go.Proofs.Shed
open Go Go.RowKit Go.Proofs.K Go.Proofs.Cod
theorem ne_type {w : World} {a b : Nat} {ca cb : Array Value} {ta tb : TypeId} {fa fb : Nat × Nat} (h1 : w.heap[a]? = some (.cells ca ta fa)) (h2 : w.heap[b]? = some (.cells cb tb fb)) (hne : (ta == tb) = false) : a ≠ b := by
  rintro rfl
  rw [h1] at h2
  injection h2 with h2
  injection h2 with _ h2 _
  subst h2
  simp at hne
/-- The example's script. -/
def s22 : Scr.Sc := ⟨16384, 64, 64, 4096, 16, 10000, [49, 32, 46], []⟩
theorem run_of_none (X : Nat → Prop) (w : World) (mb s b bb db rb ob fb : Nat) (c : Mc) (x : Sp) (d r : Stk) (o : Oc) (code here : Int) (h : RVm X w mb s b bb db rb c x d r) (ho : ROc w ob o) (hm : o.mach = mb) (hf : w.cell? ⟨fb, 0, none⟩ = some (.pointer (some ⟨ob, 0, none⟩))) (hd : x.mem.size ≤ 4194304) (hx : x.here = here) (hs : Stk.all x.mem d = []) :
    Calls Tryz.prog 193 #[.pointer (some ⟨fb, 0, none⟩), .int .i64 code] w fun e w' => ∃ sa sc, e = .returned (resV code c.out sa 0 sc c.fuel c.inp here c.over) ∧ Keeps (fun _ => False) w w' :=
  (run_of X w mb s b bb db rb ob fb c x d r o code h ho hm hf hd).mono fun e w' ⟨sa, sc, he, _, k⟩ => ⟨sa, sc, by rw [he, hs, hx]; rfl, k⟩
def Run22 (w : World) (e : Ending) (w' : World) : Prop := ∃ sa sc, e = .returned (resV 0 [49, 32] sa 0 sc 9997 [] 2832 false) ∧ ArgI w' sa [] ∧ Keeps (fun _ => False) w w'
theorem run_run22 (w : World) : Calls Tryz.prog 115 #[scV s22] w (Run22 w) := by
  obtain ⟨V, hV⟩ : ∃ V, V = (w.alloc (.cells (scCells s22) 121)).alloc (.cells #[.int .i64 0, .string ⟨#[]⟩, .slice none 0 0, .int .i64 0, .string ⟨#[]⟩, .int .i64 0, .bool false] 27) := ⟨_, rfl⟩
  obtain ⟨g, hg⟩ : ∃ g, g = w.heap.size := ⟨_, rfl⟩
  obtain ⟨q, hq⟩ : ∃ q, q = g + 1 := ⟨_, rfl⟩
  have zg : V.heap[g]? = some (.cells (scCells s22) 121 (0, 0)) := by rw [hV, hg]; exact older_alloc (halloc_at _ _)
  have zq : V.heap[q]? = some (.cells #[.int .i64 0, .string ⟨#[]⟩, .slice none 0 0, .int .i64 0, .string ⟨#[]⟩, .int .i64 0, .bool false] 27 (0, 0)) := by rw [hV, hq, hg]; exact last_alloc (by simp)
  have kV : Keeps (fun _ => False) w V := by rw [hV]; exact (Keeps.alloc _ _ _).trans (Keeps.alloc _ _ _)
  have HNG := Lib.hid (show w.heap.size ≤ g ∧ w.heap.size ≤ q ∧ g ≠ q from by omega)
  have HG := Lib.hid hg.symm
  have HQ := Lib.hid hq.symm
  have HV := Lib.hid hV.symm
  have ZG := Lib.hid zg
  have ZQ := Lib.hid zq
  have KV := Lib.hid kV
  have HN := Lib.hid fun V => oop_new V 16384 64 64 4096 16 [] L22.m1 L22.x1 L22.y 8 16 24 2824 L22.ok
  have g0 : V.cell? ⟨g, 0, none⟩ = some (.int .i64 16384) := cell_of zg rfl
  have g1 : V.cell? ⟨g, 1, none⟩ = some (.int .i64 64) := cell_of zg rfl
  have g2 : V.cell? ⟨g, 2, none⟩ = some (.int .i64 64) := cell_of zg rfl
  have g3 : V.cell? ⟨g, 3, none⟩ = some (.int .i64 4096) := cell_of zg rfl
  have g4 : V.cell? ⟨g, 4, none⟩ = some (.int .i64 16) := cell_of zg rfl
  have g6 : V.cell? ⟨g, 6, none⟩ = some (.string ⟨#[]⟩) := cell_of zg rfl
  clear hV hg hq zg zq kV
  unfold scV scCells s22
  unfold scCells s22 at HV
  go_enter Tryz.func115, Tryz.ntmps115
  go_upto_region 1 with fail
  rw [HG.out, HQ.out, HV.out]
  go_wp2_with fail
  refine (HN.out V).mono ?_
  rintro e w1 ⟨mb, nb, pb, s, b, bb, db, rb, hb, X, fb, gf, ob, sq, la, m1, m2, p1, p2, nM, fM, rfl, r, hbb, hX, hf, _, ho, hown, hmp, hmm, hcl, hgf, fr1, fr2, k1⟩
  have G1 := Lib.hid (k1.heap ZG.out id)
  have Q1 := Lib.hid (k1.heap ZQ.out id)
  have K1 := Lib.hid (KV.out.trans k1)
  obtain ⟨cur, hla⟩ : ∃ cur, w1.heap[la]? = some (.cells cur 2 (0, 0)) := by
    rcases hown.form with ⟨h, _⟩ | ⟨g', cur, h, hh, _⟩
    · cases h
    · cases h; exact ⟨cur, hh⟩
  obtain ⟨nn, gD, _, hdm, _⟩ := r.does
  have nla : la ≠ ob ∧ la ≠ mb ∧ la ≠ db ∧ la ≠ bb := ⟨ne_type hla ho rfl, ne_type hla r.mc rfl, ne_type hla r.dk.head rfl, ne_type hla r.sp.mem.rest rfl⟩
  have nmo : m2 ≠ ob ∧ m2 ≠ mb ∧ m2 ≠ db ∧ m2 ≠ bb := ⟨fun e => MapIs.noRow hmm _ _ _ (by rw [e]; exact ho), fun e => MapIs.noRow hmm _ _ _ (by rw [e]; exact r.mc), fun e => MapIs.noRow hmm _ _ _ (by rw [e]; exact r.dk.head), fun e => MapIs.noRow hmm _ _ _ (by rw [e]; exact r.sp.mem.rest)⟩
  have nob : ob ≠ mb ∧ ob ≠ s ∧ ob ≠ b ∧ ob ≠ bb ∧ ob ≠ db ∧ ob ≠ rb ∧ pb ≠ ob := ⟨ne_type ho r.mc rfl, ne_type ho r.sp.head rfl, ne_type ho r.sp.mem.head rfl, ne_type ho r.sp.mem.rest rfl, ne_type ho r.dk.head rfl, ne_type ho r.rk.head rfl, fun e => MapIs.noRow hdm _ _ _ (by rw [e]; exact ho)⟩
  have nfb : fb ≠ ob ∧ fb ≠ mb ∧ fb ≠ db ∧ fb ≠ bb := ⟨ne_type hf ho rfl, ne_type hf r.mc rfl, ne_type hf r.dk.head rfl, ne_type hf r.sp.mem.rest rfl⟩
  have nqq : q ≠ ob ∧ q ≠ mb ∧ q ≠ db ∧ q ≠ bb ∧ q ≠ fb := ⟨ne_type Q1.out ho rfl, ne_type Q1.out r.mc rfl, ne_type Q1.out r.dk.head rfl, ne_type Q1.out r.sp.mem.rest rfl, ne_type Q1.out hf rfl⟩
  have nqg : g ≠ ob ∧ g ≠ mb ∧ g ≠ db ∧ g ≠ bb := ⟨ne_type G1.out ho rfl, ne_type G1.out r.mc rfl, ne_type G1.out r.dk.head rfl, ne_type G1.out r.sp.mem.rest rfl⟩
  have nold : w.heap.size ≤ ob ∧ w.heap.size ≤ mb ∧ w.heap.size ≤ db ∧ w.heap.size ≤ bb := by
    have := KV.out.size
    unfold Fresh8 at fr1 fr2
    omega
  have hf1 : fM [49] = none := by have := hcl [49]; rw [show oopK [49] = none from by decide +kernel] at this; exact this
  have hf2 : fM [46] = none := by have := hcl [46]; rw [show oopK [46] = none from by decide +kernel] at this; exact this
  have hlt := lt_of_heap ho
  have ks : Keeps (fun k => k = mb) w1 (w1.setCell ⟨mb, 10, none⟩ (.int .i64 10000)).drew := (Keeps.setCell (S := fun k => k = mb) w1 ⟨mb, 10, none⟩ (.int .i64 10000) (fun _ => rfl)).trans (Keeps.drew _ _)
  have R2 := Lib.hid (r.withMc ks ((r.mc.setFuel 10000).keeps (Keeps.drew (fun _ => False) _) id) ⟨rfl, rfl, rfl, rfl⟩)
  have O2 := Lib.hid (ho.keeps ks nob.1)
  have OW2 := Lib.hid (hown.keeps ks (fun g' e e' => by cases e; exact nla.2.1 e'))
  have MM2 := Lib.hid (hmm.keeps ks nmo.2.1)
  have F2 := Lib.hid (ks.heap hf nfb.2.1)
  have G2 := Lib.hid (ks.heap G1.out nqg.2.1)
  have Q2 := Lib.hid (ks.heap Q1.out nqq.2.1)
  have K2 := Lib.hid (K1.out.trans' ks (fun i hi e => by have := nold.2.1; have e : i = mb := e; omega))
  have y0 : w1.cell? ⟨fb, 0, none⟩ = some (.pointer (some ⟨ob, 0, none⟩)) := cell_of hf rfl
  have y1 : w1.cell? ⟨ob, 0, none⟩ = some (.pointer (some ⟨mb, 0, none⟩)) := ho.c0
  have y2 : w1.cell? ⟨mb, 10, none⟩ = some (.int .i64 0) := cell_of r.mc rfl
  have y3 := r.mc.free 10
  have y4 : w1.cell? ⟨g, 7, none⟩ = some (.int .i64 10000) := cell_of G1.out rfl
  have NO := Lib.hid nob
  have NLA := Lib.hid nla
  have NMO := Lib.hid nmo
  have NFB := Lib.hid nfb
  have NQ := Lib.hid nqq
  have NG := Lib.hid nqg
  have NOLD := Lib.hid nold
  have HF1 := Lib.hid hf1
  have HF2 := Lib.hid hf2
  have HXX := Lib.hid hX
  clear r hbb hX hf ho hown hmp hmm hcl hgf fr1 fr2 k1 hla hdm ks nob nla nmo nfb nqq nqg nold hf1 hf2 HN KV ZG ZQ HV g0 g1 g2 g3 g4 g6
  go_wp2_with fail
  go_region
  generalize (w1.setCell ⟨mb, 10, none⟩ (.int .i64 10000)).drew = W at R2 O2 OW2 MM2 F2 G2 Q2 K2 ⊢
  clear y0 y1 y2 y3 y4
  have HT := Lib.hid fun V (k : Keeps (fun _ => False) W V) => outer_text_one X V mb s b bb db rb ob _ _ _ _ _ 24 L22.m2 L22.d1 ⟨2176, 2200, 0, [46]⟩ la 1 nM fM (R2.out.keeps0 k) (O2.out.keeps k id) rfl rfl rfl (OW2.out.keeps k (fun _ _ => id)) (MM2.out.keeps k id) HF1.out HF2.out NLA.out NMO.out NO.out
    (fun g' hg' e => by have := HXX.out g' hg'; omega) (fun g' hg' => Nat.lt_trans (HXX.out g' hg') (lt_of_heap (O2.out.keeps k id)))
    ⟨rfl, (show (3 : Int) ≤ 10000 by decide), (show (10000 : Int) ≤ 1000000000 by decide), L22.push_is, L22.find1, L22.base1, L22.find2, L22.code, L22.base2, by decide, L22.pop_is, (show (0 : Nat) ≤ 60000 by decide)⟩
  have HRO := Lib.hid fun V c x d r o => run_of_none X V mb s b bb db rb ob fb c x d r o 0 2832
  have y0 : W.cell? ⟨fb, 0, none⟩ = some (.pointer (some ⟨ob, 0, none⟩)) := cell_of F2.out rfl
  have y1 : W.cell? ⟨g, 5, none⟩ = some (.string ⟨#[49, 32, 46]⟩) := cell_of G2.out rfl
  clear R2 O2 OW2 MM2
  go_wp2_with fail
  go_region_held3 (fun w' => w'.cell? ⟨fb, 0, none⟩ = some (.pointer (some ⟨ob, 0, none⟩)) ∧ w'.cell? ⟨g, 5, none⟩ = some (.string ⟨#[49, 32, 46]⟩))
    (first | go_keep | exact ⟨K7.out.cell e1 n1, K7.out.cell e2 n2⟩)
    (first
      | (go_at_call 17; refine (HT.out W.drew (Keeps.drew _ _)).mono ?_; rintro e w4 ⟨rfl, ⟨o4, ho4, hm4⟩, r4, k4⟩; dsimp only
         have k5 := (Keeps.drew (fun k => k = ob ∨ k = mb ∨ k = db ∨ k = bb) W).trans k4
         have y4 := k5.cell y0 (show ¬ (fb = ob ∨ fb = mb ∨ fb = db ∨ fb = bb) from by have := NFB.out; omega)
         have y5 := k5.cell y1 (show ¬ (g = ob ∨ g = mb ∨ g = db ∨ g = bb) from by have := NG.out; omega)
         have hz4 := k5.heap Q2.out (show ¬ (q = ob ∨ q = mb ∨ q = db ∨ q = bb) from by have := NQ.out; omega))
      | (go_at_call 193; refine (HRO.out w4 _ _ _ _ o4 r4 ho4 hm4 y4 L22.m2_size L22.y_here rfl).mono ?_; rintro e w6 ⟨sa, sc, rfl, k6⟩; dsimp only [resV]
         have e1 := k6.cell y4 id
         have e2 := k6.cell y5 id
         have hz := k6.heap hz4 id
         have n1 : ¬ fb = q := fun e => NQ.out.2.2.2.2 e.symm
         have n2 : ¬ g = q := HNG.out.2.2
         have K7 := Lib.hid (keeps_set7 w6 q (.int .i64 0) (.string ⟨#[49, 32]⟩) (.slice sa 0 sc) (.int .i64 9997) (.string ⟨#[]⟩) (.int .i64 2832) (.bool false))
         have H7 := Lib.hid (set7 hz (.int .i64 0) (.string ⟨#[49, 32]⟩) (.slice sa 0 sc) (.int .i64 9997) (.string ⟨#[]⟩) (.int .i64 2832) (.bool false))
         have z0 : w6.cell? ⟨q, 0, none⟩ = some (.int .i64 0) := cell_of hz rfl
         have q0 := free_of (i := 0) hz
         have z1 : w6.cell? ⟨q, 1, none⟩ = some (.string ⟨#[]⟩) := cell_of hz rfl
         have q1 := free_of (i := 1) hz
         have z2 : w6.cell? ⟨q, 2, none⟩ = some (.slice none 0 0) := cell_of hz rfl
         have q2 := free_of (i := 2) hz
         have z3 : w6.cell? ⟨q, 3, none⟩ = some (.int .i64 0) := cell_of hz rfl
         have q3 := free_of (i := 3) hz
         have z4 : w6.cell? ⟨q, 4, none⟩ = some (.string ⟨#[]⟩) := cell_of hz rfl
         have q4 := free_of (i := 4) hz
         have z5 : w6.cell? ⟨q, 5, none⟩ = some (.int .i64 0) := cell_of hz rfl
         have q5 := free_of (i := 5) hz
         have z6 : w6.cell? ⟨q, 6, none⟩ = some (.bool false) := cell_of hz rfl
         have q6 := free_of (i := 6) hz))
  have K6 := Lib.hid (((K2.out.trans' k5 (fun i hi e => by have := NOLD.out; omega)).trans k6).trans' K7.out (fun i hi e => by have e : i = q := e; have := HNG.out; omega))
  generalize (((((((w6.setCell ⟨q, 0, none⟩ (.int .i64 0)).setCell ⟨q, 1, none⟩ (.string ⟨#[49, 32]⟩)).setCell ⟨q, 2, none⟩ (.slice sa 0 sc)).setCell ⟨q, 3, none⟩ (.int .i64 9997)).setCell ⟨q, 4, none⟩ (.string ⟨#[]⟩)).setCell ⟨q, 5, none⟩ (.int .i64 2832)).setCell ⟨q, 6, none⟩ (.bool false)) = V7 at K7 H7 K6 ⊢
  clear z0 z1 z2 z3 z4 z5 z6 q0 q1 q2 q3 q4 q5 q6 e1 e2 hz hz4 k6 k5 k4 r4 y4 y5
  have z0 := cell_of (i := 0) H7.out rfl
  have z1 := cell_of (i := 1) H7.out rfl
  have z2 := cell_of (i := 2) H7.out rfl
  have z3 := cell_of (i := 3) H7.out rfl
  have z4 := cell_of (i := 4) H7.out rfl
  have z5 := cell_of (i := 5) H7.out rfl
  have z6 := cell_of (i := 6) H7.out rfl
  go_wp2_with fail
  exact bodyPost_ret (v := .agg #[.int .i64 0, .string ⟨#[49, 32]⟩, .slice sa 0 sc, .int .i64 9997, .string ⟨#[]⟩, .int .i64 2832, .bool false]) (by simp [results, Tryz.results115, go_sem, z0, z1, z2, z3, z4, z5, z6]) rfl ⟨_, _, rfl, fun i hi => absurd hi (by simp), K6.out⟩
/-- Play of the example. -/
theorem scr_play22 (w : World) (hg : Glob w) : Calls Tryz.prog 65 #[.string ⟨#[116, 101, 120, 116, 10, 49, 32, 46]⟩] w fun e w' => e = .returned (.string ⟨(Scr.show_ 0 [] 9997 [49, 32]).toArray⟩) ∧ Keeps (fun _ => False) w w' := by
  have hP := scr_parse w [116, 101, 120, 116, 10, 49, 32, 46] hg (by decide)
  rw [show Scr.parse [116, 101, 120, 116, 10, 49, 32, 46] = (some s22, 0) from by decide +kernel] at hP
  have HP := Lib.hid hP
  have HG := Lib.hid hg
  have HR := Lib.hid fun V => run_run22 V
  have HS := Lib.hid fun V (h : Glob V) sa sc (ha : ArgI V sa []) => scr_show V 0 9997 2832 [49, 32] [] sa sc [] false h ha (by decide) (fun n hn => by cases hn) (by unfold I64; omega) (by unfold I64; omega) (by decide)
  clear hP hg
  go_enter Tryz.func65, Tryz.ntmps65
  go_wp2_with fail
  refine HP.out.mono ?_
  rintro e w1 ⟨rfl, k1⟩
  have K1 := Lib.hid k1
  unfold scV scCells s22 at *
  dsimp only [Option.getD_some]
  clear k1
  go_wp2_with fail
  refine (HR.out _).mono ?_
  rintro e w2 ⟨sa, sc, rfl, ha, k2⟩
  have K2 := Lib.hid ((K1.out.trans (Keeps.alloc (fun _ => False) _ _)).trans k2)
  have HA := Lib.hid ha
  clear k2 ha
  unfold resV
  go_wp2_with fail
  refine (HS.out w2 (HG.out.keeps0 K2.out) sa sc HA.out).mono ?_
  rintro e w3 ⟨rfl, k3⟩
  have K3 := Lib.hid (K2.out.trans k3)
  clear k3
  go_wp2_with fail
  go_ret
  exact ⟨rfl, K3.out⟩
theorem law_lives (w : World) (hg : Glob w) : Calls Tryz.prog 10 #[] w fun e w' => e = .returned (.bool true) ∧ Keeps (fun _ => False) w w' := by
  have hP := scr_play22 w hg
  rw [show Scr.show_ 0 [] 9997 [49, 32] = [99, 111, 100, 101, 32, 48, 10, 115, 116, 97, 99, 107, 10, 108, 101, 102, 116, 32, 57, 57, 57, 55, 10, 111, 117, 116, 10, 49, 32] from by decide +kernel] at hP
  have HP := Lib.hid hP
  clear hP hg
  go_enter Tryz.func10, Tryz.ntmps10
  go_wp2_with fail
  refine HP.out.mono ?_
  rintro e w1 ⟨rfl, k1⟩
  have K1 := Lib.hid k1
  clear k1
  go_wp2_with fail
  go_ret
  exact ⟨rfl, K1.out⟩
end Go.Proofs.Shed
