/- Two scripts, held against each other. No condition. ScriptParses, walked. Condition: the library's variables hold what they hold at the start. -/
import Derived.Test.YthhfkhhhclmimaaGreatDoorMWScrJ
import Derived.Test.YthhfkhhhclmimaaGreatDoorMWShow
import Derived.ChangeKeysEq
import Derived.Laws.StructEq
set_option linter.unusedVariables false
set_option linter.unusedSimpArgs false
set_option maxRecDepth 10000
namespace Go.Proofs.Shed
open Go Go.RowKit Go.Proofs.K
theorem eq_arr (d0 d1 d2 d3 d4 d5 : Int) (w : World) : (Op.equalIn (9998 + 1) 135 (.agg #[.int .i64 d0, .int .i64 d1, .int .i64 d2, .int .i64 d3, .int .i64 d4, .int .i64 d5]) (.agg #[.int .i64 d0, .int .i64 d1, .int .i64 d2, .int .i64 d3, .int .i64 d4, .int .i64 d5])).run Tryz.prog w = .ok true w := by
  obtain ⟨i, hi, _⟩ := Option.map_eq_some_iff.1 infoInt
  have u3 := Tryz.underlying2
  have a3 := Tryz.isAgg2
  rw [run_equalIn_array (n := 6) (e := 2) (i := i) w 9998 _ _ (by kernel_rfl) hi, show List.range 6 = [0, 1, 2, 3, 4, 5] from rfl, show Tryz.prog.cellsOf 2 = 1 by kernel_rfl]
  simp only [Op.eqItems]
  go_simp
theorem eq_rf (s : Scr.Sc) (w : World) : (Op.equalIn 10000 137 (rfV s) (rfV s)).run Tryz.prog w = .ok true w := by
  have u3 := Tryz.underlying9
  have a3 := Tryz.isAgg9
  have hS : Tryz.prog.underlying 137 = some (.struct (Tryz.prog.fieldsOf 137)) := by kernel_rfl
  have hE := eq_arr s.dict s.data s.ret s.heap s.slots s.fuel
  unfold rfV rfCells
  rw [show (10000 : Nat) = 9999 + 1 from rfl, run_equalIn_agg w 9999 137 _ _ hS (by kernel_rfl)]
  simp only [Program.fieldsOf, Tryz.underlying137]
  go_simp
end Go.Proofs.Shed
set_option linter.unusedVariables false
set_option linter.unusedSimpArgs false
set_option maxRecDepth 10000
set_option maxHeartbeats 4000000
namespace Go.Proofs.Shed
open Go Go.RowKit Go.Proofs.K
theorem law_of (w : World) (s : Scr.Sc) : Calls Tryz.prog 64 #[scV s] w fun e w' => e = .returned (rfV s) ∧ Keeps (fun _ => False) w w' := by
  obtain ⟨V, hV⟩ : ∃ V, V = ((w.alloc (.cells (scCells s) 121)).alloc (.cells (rfCells Scr.Sc.zero) 137)) := ⟨_, rfl⟩
  obtain ⟨g, hg⟩ : ∃ g, g = w.heap.size := ⟨_, rfl⟩
  obtain ⟨r, hr⟩ : ∃ r, r = g + 1 := ⟨_, rfl⟩
  have zg : V.heap[g]? = some (.cells (scCells s) 121 (0, 0)) := by rw [hV, hg]; exact older_alloc (halloc_at _ _)
  have zr : V.heap[r]? = some (.cells (rfCells Scr.Sc.zero) 137 (0, 0)) := by rw [hV, hr, hg]; exact last_alloc (by simp)
  have kV : Keeps (fun _ => False) w V := by rw [hV]; exact (Keeps.alloc _ _ _).trans (Keeps.alloc _ _ _)
  have HVS := Lib.hid (show V.heap.size = r + 1 by rw [hV, hr, hg]; simp)
  have HV := Lib.hid hV.symm
  have HG := Lib.hid hg.symm
  have HR := Lib.hid hr.symm
  have HN := Lib.hid (show w.heap.size ≤ g ∧ w.heap.size ≤ r ∧ g ≠ r from by omega)
  have KV := Lib.hid kV
  have ZG := Lib.hid zg
  have ZR := Lib.hid zr
  clear hV hg hr zg zr kV
  unfold scV scCells
  unfold scCells rfCells Scr.Sc.zero at HV
  go_enter Tryz.func64, Tryz.ntmps64
  go_upto_region 1 with fail
  rw [HG.out, HR.out, HV.out]
  have a0 : V.cell? ⟨g, 0, none⟩ = some (.int .i64 s.dict) := cell_of ZG.out rfl
  have a1 : V.cell? ⟨g, 1, none⟩ = some (.int .i64 s.data) := cell_of ZG.out rfl
  have a2 : V.cell? ⟨g, 2, none⟩ = some (.int .i64 s.ret) := cell_of ZG.out rfl
  have a3 : V.cell? ⟨g, 3, none⟩ = some (.int .i64 s.heap) := cell_of ZG.out rfl
  have a4 : V.cell? ⟨g, 4, none⟩ = some (.int .i64 s.slots) := cell_of ZG.out rfl
  have a5 : V.cell? ⟨g, 5, none⟩ = some (.string ⟨s.text.toArray⟩) := cell_of ZG.out rfl
  have a6 : V.cell? ⟨g, 6, none⟩ = some (.string ⟨s.inp.toArray⟩) := cell_of ZG.out rfl
  have a7 : V.cell? ⟨g, 7, none⟩ = some (.int .i64 s.fuel) := cell_of ZG.out rfl
  go_upto_region 2 with fail
  have kc := Keeps.alloc (fun _ => False) V (.cells #[.int .i64 s.dict, .int .i64 s.data, .int .i64 s.ret, .int .i64 s.heap, .int .i64 s.slots] 119)
  have zc := halloc_at V (.cells #[.int .i64 s.dict, .int .i64 s.data, .int .i64 s.ret, .int .i64 s.heap, .int .i64 s.slots] 119)
  obtain ⟨c, hc⟩ : ∃ c, c = V.heap.size := ⟨_, rfl⟩
  rw [← hc] at zc ⊢
  have hcr : c ≠ r := by have := HVS.out; omega
  have hcr' : r ≠ c := fun e => hcr e.symm
  generalize V.alloc (.cells #[.int .i64 s.dict, .int .i64 s.data, .int .i64 s.ret, .int .i64 s.heap, .int .i64 s.slots] 119) = W at kc zc ⊢
  have b0 : W.cell? ⟨c, 0, none⟩ = some (.int .i64 s.dict) := cell_of zc rfl
  have b1 : W.cell? ⟨c, 1, none⟩ = some (.int .i64 s.data) := cell_of zc rfl
  have b2 : W.cell? ⟨c, 2, none⟩ = some (.int .i64 s.ret) := cell_of zc rfl
  have b3 : W.cell? ⟨c, 3, none⟩ = some (.int .i64 s.heap) := cell_of zc rfl
  have b4 : W.cell? ⟨c, 4, none⟩ = some (.int .i64 s.slots) := cell_of zc rfl
  have c5 := kc.cell a5 id
  have c6 := kc.cell a6 id
  have c7 := kc.cell a7 id
  have z0 := kc.heap ZR.out id
  have x0 : W.cell? ⟨r, 0, none⟩ = some (.int .i64 0) := cell_of z0 rfl
  have q0 := free_of (i := 0) z0
  have x1 : W.cell? ⟨r, 1, none⟩ = some (.int .i64 0) := cell_of z0 rfl
  have q1 := free_of (i := 1) z0
  have x2 : W.cell? ⟨r, 2, none⟩ = some (.int .i64 0) := cell_of z0 rfl
  have q2 := free_of (i := 2) z0
  have x3 : W.cell? ⟨r, 3, none⟩ = some (.int .i64 0) := cell_of z0 rfl
  have q3 := free_of (i := 3) z0
  have x4 : W.cell? ⟨r, 4, none⟩ = some (.int .i64 0) := cell_of z0 rfl
  have q4 := free_of (i := 4) z0
  have x5 : W.cell? ⟨r, 5, none⟩ = some (.int .i64 0) := cell_of z0 rfl
  have q5 := free_of (i := 5) z0
  have x6 : W.cell? ⟨r, 6, none⟩ = some (.string ⟨#[]⟩) := cell_of z0 rfl
  have q6 := free_of (i := 6) z0
  have x7 : W.cell? ⟨r, 7, none⟩ = some (.string ⟨#[]⟩) := cell_of z0 rfl
  have q7 := free_of (i := 7) z0
  have H8 := Lib.hid (set8 z0 (.int .i64 s.dict) (.int .i64 s.data) (.int .i64 s.ret) (.int .i64 s.heap) (.int .i64 s.slots) (.int .i64 s.fuel) (.string ⟨s.inp.toArray⟩) (.string ⟨s.text.toArray⟩))
  have K8 := Lib.hid ((KV.out.trans kc).trans' (keeps_set8 W r (.int .i64 s.dict) (.int .i64 s.data) (.int .i64 s.ret) (.int .i64 s.heap) (.int .i64 s.slots) (.int .i64 s.fuel) (.string ⟨s.inp.toArray⟩) (.string ⟨s.text.toArray⟩)) (fun i hi e => by have := HN.out; have e : i = r := e; omega))
  clear a0 a1 a2 a3 a4 a5 a6 a7 kc zc z0 hc
  go_wp2_with fail
  generalize ((((((((W.setCell ⟨r, 0, none⟩ (.int .i64 s.dict)).setCell ⟨r, 1, none⟩ (.int .i64 s.data)).setCell ⟨r, 2, none⟩ (.int .i64 s.ret)).setCell ⟨r, 3, none⟩ (.int .i64 s.heap)).setCell ⟨r, 4, none⟩ (.int .i64 s.slots)).setCell ⟨r, 5, none⟩ (.int .i64 s.fuel)).setCell ⟨r, 6, none⟩ (.string ⟨s.inp.toArray⟩)).setCell ⟨r, 7, none⟩ (.string ⟨s.text.toArray⟩)) = W8 at H8 K8 ⊢
  have t0 := cell_of (i := 0) H8.out rfl
  have t1 := cell_of (i := 1) H8.out rfl
  have t2 := cell_of (i := 2) H8.out rfl
  have t3 := cell_of (i := 3) H8.out rfl
  have t4 := cell_of (i := 4) H8.out rfl
  have t5 := cell_of (i := 5) H8.out rfl
  have t6 := cell_of (i := 6) H8.out rfl
  have t7 := cell_of (i := 7) H8.out rfl
  exact bodyPost_ret (v := rfV s) (by simp [results, Tryz.results64, go_sem, rfV, rfCells, t0, t1, t2, t3, t4, t5, t6, t7]) rfl ⟨rfl, K8.out⟩
theorem parses_great (w : World) (T : List UInt8) (hg : Glob w) (h : 5000 < T.length) (ht : T.length ≤ 9223372036854775807) : Calls Tryz.prog 9 #[.string ⟨T.toArray⟩] w fun e w' => e = .returned (.bool true) ∧ Keeps (fun _ => False) w w' := by
  have HL := Lib.hid (law_lives w hg)
  have HL2 := Lib.hid fun V (h : Glob V) => law_lives V h
  have HG := Lib.hid hg
  have d2 : decide ((5000 : Int) < (T.length : Int)) = true := decide_eq_true (by omega)
  clear hg h
  go_enter Tryz.func9, Tryz.ntmps9
  go_wp2_with fail
  refine HL.out.mono ?_
  rintro e w1 ⟨rfl, k1⟩
  have K1 := Lib.hid k1
  clear k1
  go_wp2_with fail
  refine (HL2.out _ (HG.out.keeps0 K1.out)).mono ?_
  rintro e w2 ⟨rfl, k2⟩
  have K2 := Lib.hid (K1.out.trans k2)
  clear k2
  go_wp2_with fail
  go_ret
  exact ⟨rfl, K2.out⟩
theorem parses_small (w : World) (T : List UInt8) (hg : Glob w) (h : T.length ≤ 5000) : Calls Tryz.prog 9 #[.string ⟨T.toArray⟩] w fun e w' => e = .returned (.bool true) ∧ Keeps (fun _ => False) w w' := by
  have HL := Lib.hid (law_lives w hg)
  have HP := Lib.hid fun V (h : Glob V) => scr_parse V T h (by omega)
  have HQ := Lib.hid fun V => ref_parse V T (by omega)
  have hpc := Scr.parseN_code (T.length + 1) Scr.Sc.first T 0 (by omega) (by omega)
  have HPC := Lib.hid (show (∃ s', Scr.parse T = (some s', 0)) ∨ ∃ m, Scr.parse T = (none, m) ∧ 0 < m ∧ m ≤ 0 + 1 + ((T.length + 1 : Nat) : Int) from hpc)
  have HG := Lib.hid hg
  have d2 : decide ((5000 : Int) < (T.length : Int)) = false := decide_eq_false (by omega)
  generalize Scr.parse T = P at HP HQ HPC
  clear hg hpc
  rcases HPC.out with ⟨s, rfl⟩ | ⟨m, rfl, hm, hm2⟩
  · clear HPC
    go_enter Tryz.func9, Tryz.ntmps9
    go_wp2_with fail
    refine HL.out.mono ?_
    rintro e w1 ⟨rfl, k1⟩
    have K1 := Lib.hid k1
    clear k1
    go_wp2_with fail
    refine (HP.out w1 (HG.out.keeps0 K1.out)).mono ?_
    rintro e w2 ⟨rfl, k2⟩
    have K2 := Lib.hid (K1.out.trans k2)
    clear k2
    dsimp only [Option.getD_some]
    unfold scV scCells
    go_wp2_with fail
    have z1 := halloc_at w2 (.cells #[.int .i64 s.dict, .int .i64 s.data, .int .i64 s.ret, .int .i64 s.heap, .int .i64 s.slots, .string ⟨s.text.toArray⟩, .string ⟨s.inp.toArray⟩, .int .i64 s.fuel] 121)
    have ka := Keeps.alloc (fun _ => False) w2 (.cells #[.int .i64 s.dict, .int .i64 s.data, .int .i64 s.ret, .int .i64 s.heap, .int .i64 s.slots, .string ⟨s.text.toArray⟩, .string ⟨s.inp.toArray⟩, .int .i64 s.fuel] 121)
    obtain ⟨g, hg⟩ : ∃ g, g = w2.heap.size := ⟨_, rfl⟩
    rw [← hg] at z1 ⊢
    generalize w2.alloc (.cells #[.int .i64 s.dict, .int .i64 s.data, .int .i64 s.ret, .int .i64 s.heap, .int .i64 s.slots, .string ⟨s.text.toArray⟩, .string ⟨s.inp.toArray⟩, .int .i64 s.fuel] 121) = V at z1 ka ⊢
    have Z1 := Lib.hid z1
    have KV := Lib.hid (K2.out.trans ka)
    clear z1 ka hg
    refine (HQ.out V).mono ?_
    rintro e w3 ⟨rfl, k3⟩
    dsimp only [Option.getD_some, rfV, rfCells]
    have Z3 := Lib.hid (k3.heap Z1.out id)
    have K3 := Lib.hid (KV.out.trans k3)
    clear k3
    go_upto_region 5 with fail
    have z2 := halloc_at w3 (.cells #[.int .i64 s.dict, .int .i64 s.data, .int .i64 s.ret, .int .i64 s.heap, .int .i64 s.slots, .int .i64 s.fuel, .string ⟨s.inp.toArray⟩, .string ⟨s.text.toArray⟩] 137)
    have kb := Keeps.alloc (fun _ => False) w3 (.cells #[.int .i64 s.dict, .int .i64 s.data, .int .i64 s.ret, .int .i64 s.heap, .int .i64 s.slots, .int .i64 s.fuel, .string ⟨s.inp.toArray⟩, .string ⟨s.text.toArray⟩] 137)
    obtain ⟨r, hr⟩ : ∃ r, r = w3.heap.size := ⟨_, rfl⟩
    rw [← hr] at z2 ⊢
    generalize w3.alloc (.cells #[.int .i64 s.dict, .int .i64 s.data, .int .i64 s.ret, .int .i64 s.heap, .int .i64 s.slots, .int .i64 s.fuel, .string ⟨s.inp.toArray⟩, .string ⟨s.text.toArray⟩] 137) = W at z2 kb ⊢
    have K4 := Lib.hid (K3.out.trans kb)
    have z1 := kb.heap Z3.out id
    clear kb hr
    have a0 := fun (q : Stay W) => q.2.cell (show W.cell? ⟨g, 0, none⟩ = some (.int .i64 s.dict) from cell_of z1 rfl) id
    have a1 := fun (q : Stay W) => q.2.cell (show W.cell? ⟨g, 1, none⟩ = some (.int .i64 s.data) from cell_of z1 rfl) id
    have a2 := fun (q : Stay W) => q.2.cell (show W.cell? ⟨g, 2, none⟩ = some (.int .i64 s.ret) from cell_of z1 rfl) id
    have a3 := fun (q : Stay W) => q.2.cell (show W.cell? ⟨g, 3, none⟩ = some (.int .i64 s.heap) from cell_of z1 rfl) id
    have a4 := fun (q : Stay W) => q.2.cell (show W.cell? ⟨g, 4, none⟩ = some (.int .i64 s.slots) from cell_of z1 rfl) id
    have a5 := fun (q : Stay W) => q.2.cell (show W.cell? ⟨g, 5, none⟩ = some (.string ⟨s.text.toArray⟩) from cell_of z1 rfl) id
    have a6 := fun (q : Stay W) => q.2.cell (show W.cell? ⟨g, 6, none⟩ = some (.string ⟨s.inp.toArray⟩) from cell_of z1 rfl) id
    have a7 := fun (q : Stay W) => q.2.cell (show W.cell? ⟨g, 7, none⟩ = some (.int .i64 s.fuel) from cell_of z1 rfl) id
    have b0 := fun (q : Stay W) => q.2.cell (show W.cell? ⟨r, 0, none⟩ = some (.int .i64 s.dict) from cell_of z2 rfl) id
    have b1 := fun (q : Stay W) => q.2.cell (show W.cell? ⟨r, 1, none⟩ = some (.int .i64 s.data) from cell_of z2 rfl) id
    have b2 := fun (q : Stay W) => q.2.cell (show W.cell? ⟨r, 2, none⟩ = some (.int .i64 s.ret) from cell_of z2 rfl) id
    have b3 := fun (q : Stay W) => q.2.cell (show W.cell? ⟨r, 3, none⟩ = some (.int .i64 s.heap) from cell_of z2 rfl) id
    have b4 := fun (q : Stay W) => q.2.cell (show W.cell? ⟨r, 4, none⟩ = some (.int .i64 s.slots) from cell_of z2 rfl) id
    have b5 := fun (q : Stay W) => q.2.cell (show W.cell? ⟨r, 5, none⟩ = some (.int .i64 s.fuel) from cell_of z2 rfl) id
    have b6 := fun (q : Stay W) => q.2.cell (show W.cell? ⟨r, 6, none⟩ = some (.string ⟨s.inp.toArray⟩) from cell_of z2 rfl) id
    have b7 := fun (q : Stay W) => q.2.cell (show W.cell? ⟨r, 7, none⟩ = some (.string ⟨s.text.toArray⟩) from cell_of z2 rfl) id
    have HO := Lib.hid fun (q : Stay W) => law_of q.1 s
    have hEQ := fun V => eq_rf s V
    unfold rfV rfCells at hEQ
    unfold scV scCells rfV rfCells at HO
    clear z1 z2
    go_wp2_with fail
    refine Go.Proofs.K.wp_region_calm ?calm1a ?calm1b ?_
    case calm1a => kernel_rfl
    case calm1b => kernel_rfl
    repeat ((with_reducible refine wpQuiet_step ?_); intro Kq hKq; go_simp; first | ((with_reducible refine hKq _ ?_); clear hKq Kq) | (refine hKq _ ?_; clear hKq Kq) | (apply Exists.intro; refine ⟨fun _ => ?_, hKq _ ?_⟩; (exact K.calm_of (HO.out _)); clear hKq Kq))
    with_reducible refine wpQuiet_nil ?_
    intro _ hw'
    obtain ⟨⟨wq, kq⟩, hw''⟩ := hw'
    subst hw''
    go_wp2_with fail
    go_ret
    exact ⟨rfl, K4.out.trans kq⟩
  · clear HPC
    have d3 : decide ((0 : Int) < m) = true := decide_eq_true hm
    go_enter Tryz.func9, Tryz.ntmps9
    go_wp2_with fail
    refine HL.out.mono ?_
    rintro e w1 ⟨rfl, k1⟩
    have K1 := Lib.hid k1
    clear k1
    go_wp2_with fail
    refine (HP.out w1 (HG.out.keeps0 K1.out)).mono ?_
    rintro e w2 ⟨rfl, k2⟩
    have K2 := Lib.hid (K1.out.trans k2)
    clear k2
    dsimp only [Option.getD_none]
    unfold scV scCells Scr.Sc.zero
    go_wp2_with fail
    have z1 := halloc_at w2 (.cells #[.int .i64 0, .int .i64 0, .int .i64 0, .int .i64 0, .int .i64 0, .string ⟨#[]⟩, .string ⟨#[]⟩, .int .i64 0] 121)
    have ka := Keeps.alloc (fun _ => False) w2 (.cells #[.int .i64 0, .int .i64 0, .int .i64 0, .int .i64 0, .int .i64 0, .string ⟨#[]⟩, .string ⟨#[]⟩, .int .i64 0] 121)
    obtain ⟨g, hg⟩ : ∃ g, g = w2.heap.size := ⟨_, rfl⟩
    rw [← hg] at z1 ⊢
    generalize w2.alloc (.cells #[.int .i64 0, .int .i64 0, .int .i64 0, .int .i64 0, .int .i64 0, .string ⟨#[]⟩, .string ⟨#[]⟩, .int .i64 0] 121) = V at z1 ka ⊢
    have Z1 := Lib.hid z1
    have KV := Lib.hid (K2.out.trans ka)
    clear z1 ka hg
    refine (HQ.out V).mono ?_
    rintro e w3 ⟨rfl, k3⟩
    dsimp only [Option.getD_none, rfV, rfCells, Scr.Sc.zero]
    have Z3 := Lib.hid (k3.heap Z1.out id)
    have K3 := Lib.hid (KV.out.trans k3)
    clear k3
    go_upto_region 5 with fail
    have kb := Keeps.alloc (fun _ => False) w3 (.cells #[.int .i64 0, .int .i64 0, .int .i64 0, .int .i64 0, .int .i64 0, .int .i64 0, .string ⟨#[]⟩, .string ⟨#[]⟩] 137)
    generalize w3.alloc (.cells #[.int .i64 0, .int .i64 0, .int .i64 0, .int .i64 0, .int .i64 0, .int .i64 0, .string ⟨#[]⟩, .string ⟨#[]⟩] 137) = W at kb ⊢
    have K4 := Lib.hid (K3.out.trans kb)
    have z1 := kb.heap Z3.out id
    clear kb
    have a0 : W.cell? ⟨g, 0, none⟩ = some (.int .i64 0) := cell_of z1 rfl
    have a1 : W.cell? ⟨g, 1, none⟩ = some (.int .i64 0) := cell_of z1 rfl
    have a2 : W.cell? ⟨g, 2, none⟩ = some (.int .i64 0) := cell_of z1 rfl
    have a3 : W.cell? ⟨g, 3, none⟩ = some (.int .i64 0) := cell_of z1 rfl
    have a4 : W.cell? ⟨g, 4, none⟩ = some (.int .i64 0) := cell_of z1 rfl
    have a5 : W.cell? ⟨g, 5, none⟩ = some (.string ⟨#[]⟩) := cell_of z1 rfl
    have a6 : W.cell? ⟨g, 6, none⟩ = some (.string ⟨#[]⟩) := cell_of z1 rfl
    have a7 : W.cell? ⟨g, 7, none⟩ = some (.int .i64 0) := cell_of z1 rfl
    have HO := Lib.hid (law_of W Scr.Sc.zero)
    have hEQ := fun V => eq_rf Scr.Sc.zero V
    unfold rfV rfCells Scr.Sc.zero at hEQ
    unfold scV scCells rfV rfCells Scr.Sc.zero at HO
    clear z1
    go_wp2_with fail
    refine HO.out.mono ?_
    rintro e w4 ⟨rfl, k4⟩
    have K5 := Lib.hid (K4.out.trans k4)
    clear k4
    go_wp2_with fail
    go_ret
    exact ⟨rfl, K5.out⟩
theorem parses_walk (w : World) (T : List UInt8) (hg : Glob w) (ht : T.length ≤ 9223372036854775807) : Calls Tryz.prog 9 #[.string ⟨T.toArray⟩] w fun e w' => e = .returned (.bool true) ∧ Keeps (fun _ => False) w w' := by
  by_cases h : 5000 < T.length
  · exact parses_great w T hg h ht
  · exact parses_small w T hg (by omega)
end Go.Proofs.Shed
