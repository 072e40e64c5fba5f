/- Layer 15: Base, Put, shown, a number put out. Conditions: the machine lies in its blocks. Layer 15: pops of one number. Conditions: the machine lies in its blocks; there is one. -/
import Derived.Test.YthhfkhhhclmimaaGreatDoorMMA
import Derived.Test.YthhfkhhhclmimaaGreatDoorMNA
import Derived.Test.YthhfkhhhclmimaaGreatDoorMKA
import Derived.Test.YthhfkhhhclmimaaGreatDoorMWSrc
import Derived.Test.YthhfkhhhclmimaaGreatDoorMWCC
import Derived.Laws.IdiomStrings
import Derived.LoopN
set_option linter.unusedVariables false
set_option linter.unusedSimpArgs false
set_option maxRecDepth 10000
set_option maxHeartbeats 4000000
namespace Go.Proofs.Shed
open Go Go.RowKit Go.Proofs.K

theorem RMc.setOut {w : World} {g : Nat} {c : Mc} (h : RMc w g c) (v : List UInt8) : RMc (w.setCell ⟨g, 11, none⟩ (.string ⟨v.toArray⟩)) g { c with out := v } := hset_same h _
theorem RMc.c11 {w : World} {g : Nat} {c : Mc} (h : RMc w g c) : w.cell? ⟨g, 11, none⟩ = some (.string ⟨c.out.toArray⟩) := cell_of h rfl
theorem RMc.c1 {w : World} {g : Nat} {c : Mc} (h : RMc w g c) : w.cell? ⟨g, 1, none⟩ = some (optP c.dk) := cell_of h rfl
theorem RMc.c2 {w : World} {g : Nat} {c : Mc} (h : RMc w g c) : w.cell? ⟨g, 2, none⟩ = some (optP c.rk) := cell_of h rfl
theorem vm_base (w : World) (mb s b bb : Nat) (c : Mc) (x : Sp) (hc : RMc w mb c) (hs : c.sp = some s) (h : RSp w s b bb x) :
    Calls Tryz.prog 140 #[.pointer (some ⟨mb, 0, none⟩)] w fun e w' => e = .returned (.int .i64 (x.mem.cell c.base).1) ∧ Keeps (fun _ => False) w w' := by
  have c0 : w.cell? ⟨mb, 0, none⟩ = some (.pointer (some ⟨s, 0, none⟩)) := by rw [hc.c0, hs]; rfl
  have x0 := fun (q : Stay w) => q.2.cell c0 id
  have x14 := fun (q : Stay w) => q.2.cell hc.c14 id
  have y0 := fun (q : Stay w) => q.2.cell h.c0 id
  have hC := Lib.hid fun (q : Stay w) => (mem_cell q.1 b bb x.mem c.base (h.mem.keeps q.2 id id)).mono (fun e w' (h : _ ∧ _) => (⟨h.1, h.2 ▸ Keeps.refl (fun _ => False) _⟩ : _ ∧ Keeps (fun _ => False) q.1 w'))
  generalize x.mem.cell c.base = q at hC ⊢
  obtain ⟨v, e⟩ := q
  obtain ⟨sp, dk, rk, hpp, nmb, ip, self, root, li, slots, fuel, out, inp, over, ba, ca, handler, does⟩ := c
  simp only at x14 hC
  clear hc hs h c0
  go_enter Tryz.func140, Tryz.ntmps140
  go_wp2_with fail
  refine Go.Proofs.K.wp_region_calm ?calm1a ?calm1b ?_
  case calm1a => kernel_rfl
  case calm1b => kernel_rfl
  repeat ((with_reducible refine wpQuiet_step ?_); intro Kq hKq; go_simp; first | ((with_reducible refine hKq _ ?_); clear hKq Kq) | (refine hKq _ ?_; clear hKq Kq) | (apply Exists.intro; refine ⟨fun _ => ?_, hKq _ ?_⟩; (first | exact K.calm_of (hC.out _)); clear hKq Kq))
  with_reducible refine wpQuiet_nil ?_
  intro _ hw'
  obtain ⟨⟨wq, kq⟩, hw''⟩ := hw'
  subst hw''
  go_wp2_with fail
  go_ret
  exact ⟨rfl, kq⟩
theorem str_app (a b : List UInt8) : Value.string ((⟨a.toArray⟩ : ByteArray) ++ ⟨b.toArray⟩) = .string ⟨(a ++ b).toArray⟩ := by
  congr 1
theorem vm_put (w : World) (mb : Nat) (c : Mc) (t : List UInt8) (hc : RMc w mb c) (ho : c.out.length + t.length ≤ 65536) :
    Calls Tryz.prog 86 #[.pointer (some ⟨mb, 0, none⟩), .string ⟨t.toArray⟩] w fun e w' => e = .returned (.tuple #[]) ∧ RMc w' mb { c with out := c.out ++ t } ∧ Keeps (fun k => k = mb) w w' := by
  have HC := Lib.hid hc
  obtain ⟨sp, dk, rk, hpp, nmb, ip, self, root, li, slots, fuel, out, inp, over, ba, ca, handler, does⟩ := c
  have c11 : w.cell? ⟨mb, 11, none⟩ = some (.string ⟨out.toArray⟩) := hc.c11
  have f11 := hc.free 11
  simp only at ho
  have hmn : ((65536 : Int) - (out.length : Int) < (t.length : Int)) = False := by simp; omega
  have hw : IntKind.i64.wrap ((65536 : Int) - (out.length : Int)) = (65536 : Int) - (out.length : Int) := IntWalk.i64_in _ (by omega)
  have hx := str_extract t 0 t.length (Nat.zero_le _)
  rw [List.drop_zero, Nat.sub_zero, List.take_length] at hx
  have ha := str_app out t
  clear hc
  go_enter Tryz.func86, Tryz.ntmps86
  go_wp2_with fail
  go_region
  have HO := Lib.hid (show RMc (w.setCell ⟨mb, 11, none⟩ (.string ⟨(out ++ t).toArray⟩)).drew mb _ from HC.out.setOut (out ++ t))
  have KO := Lib.hid ((Keeps.setCell (S := fun k => k = mb) w ⟨mb, 11, none⟩ (.string ⟨(out ++ t).toArray⟩) (fun _ => rfl)).trans (Keeps.drew _ _))
  go_wp2_with fail
  go_end0
  exact ⟨rfl, HO.out, KO.out⟩
theorem vm_shown (w : World) (mb : Nat) (c : Mc) (t : List UInt8) (hc : RMc w mb c) (hne : t ≠ []) (ho : c.out.length + (t.length + 1) ≤ 65536) :
    Calls Tryz.prog 347 #[.pointer (some ⟨mb, 0, none⟩), .string ⟨t.toArray⟩] w fun e w' => e = .returned (.int .i64 0) ∧ RMc w' mb { c with out := c.out ++ (t ++ [32]) } ∧ Keeps (fun k => k = mb) w w' := by
  have HP := Lib.hid (vm_put w mb c (t ++ [32]) hc (by simp; omega))
  have ha := str_app t [32]
  have d1 : (t == []) = false := by simp [hne]
  have hl1 : t.length + 1 ≤ 65536 := by omega
  clear hc hne ho
  go_enter Tryz.func347, Tryz.ntmps347
  go_wp2_with fail
  refine HP.out.mono ?_
  rintro e w1 ⟨rfl, r1, k1⟩
  have R1 := Lib.hid r1
  have K1 := Lib.hid k1
  clear r1 k1
  go_wp2_with fail
  go_ret
  exact ⟨rfl, R1.out, K1.out⟩
/-- The word '.', of a number that is not below 0. -/
theorem vm_dot (w : World) (mb s b bb : Nat) (c : Mc) (x : Sp) (n bs : Nat) (la : Nat) (lc : Nat) (hc : RMc w mb c) (hs : c.sp = some s) (h : RSp w s b bb x) (hbs : (x.mem.cell c.base).1 = bs) (b2 : 2 ≤ bs) (b36 : bs ≤ 36) (hn : n ≤ 9223372036854775807)
    (hl : w.cell? ⟨la, 0, none⟩ = some (.int .i64 (n : Int))) (ho : c.out.length + ((Num.show_ n bs).length + 1) ≤ 65536) (hne : Num.show_ n bs ≠ []) (nl : la ≠ mb) :
    Calls Tryz.prog 346 #[.pointer (some ⟨mb, 0, none⟩), .slice (some ⟨la, 0, none⟩) 1 lc] w fun e w' => e = .returned (.int .i64 0) ∧ RMc w' mb { c with out := c.out ++ (Num.show_ n bs ++ [32]) } ∧ Keeps (fun k => k = mb) w w' := by
  have hB := vm_base w.drew mb s b bb c x hc hs h.drew
  rw [hbs] at hB
  have HB := Lib.hid hB
  have HN := Lib.hid fun V => num_show_nn V n bs hn b2 b36
  generalize Num.show_ (n : Int) (bs : Int) = t at HN ho hne ⊢
  have HS := Lib.hid fun V R => vm_shown V mb c t R hne ho
  have HC := Lib.hid hc
  clear hc hs h hbs hB
  go_enter Tryz.func346, Tryz.ntmps346
  go_wp2_with fail
  go_region_held3 (fun w' => w'.cell? ⟨la, 0, none⟩ = some (.int .i64 (n : Int)))
    (first | go_keep | exact k6.cell q5 nl)
    (first
      | (go_at_call 140; refine HB.out.mono ?_; rintro e w4 ⟨rfl, k4⟩; dsimp only
         have q4 : w4.cell? ⟨la, 0, none⟩ = some (.int .i64 (n : Int)) := k4.cell hl id)
      | (go_at_call 39; refine (HN.out w4).mono ?_; rintro e w5 ⟨rfl, k5⟩; dsimp only
         have q5 : w5.cell? ⟨la, 0, none⟩ = some (.int .i64 (n : Int)) := k5.cell q4 id)
      | (go_at_call 347; refine (HS.out w5 ((HC.out.keeps ((Keeps.drew (fun _ => False) w).trans k4) id).keeps k5 id)).mono ?_; rintro e w6 ⟨rfl, r6, k6⟩; dsimp only))
  have R6 := Lib.hid r6
  have K6 := Lib.hid (((((Keeps.drew (fun k => k = mb) w).trans (k4.mono (fun _ _ e => e.elim))).trans (k5.mono (fun _ _ e => e.elim)))).trans k6)
  clear r6 k6 k5 k4
  go_wp2_with fail
  go_ret
  exact ⟨rfl, R6.out, K6.out⟩
end Go.Proofs.Shed
set_option linter.unusedVariables false
set_option linter.unusedSimpArgs false
set_option maxRecDepth 10000
set_option maxHeartbeats 4000000
namespace Go.Proofs.Shed
open Go Go.RowKit Go.Proofs.K
theorem madeCells_one : madeCells (Value.int .i64 0).cells (Int.toNat 1 * 1) = #[.int .i64 0] := by
  have : Array.range 1 = #[0] := by rfl
  unfold madeCells
  rw [show Int.toNat 1 * 1 = 1 by rfl, this]
  simp [Value.cells]
theorem vm_pops1 (w : World) (mb b bb db : Nat) (c : Mc) (m : Mem) (d : Stk) (v : Int) (hc : RMc w mb c) (hs : c.dk = some db) (hd : RStk w db b d) (hm : RMem w b bb m) (h1 : 1 ≤ d.depth) (hv : Stk.pop m d = ({ d with depth := d.depth - 1 }, v, 0)) (n1 : mb ≠ db) :
    Calls Tryz.prog 407 #[.pointer (some ⟨mb, 0, none⟩), .int .i64 1] w fun e w' => ∃ la, e = .returned (.tuple #[.slice (some ⟨la, 0, none⟩) 1 1, .int .i64 0]) ∧ w'.cell? ⟨la, 0, none⟩ = some (.int .i64 v) ∧ w.heap.size ≤ la ∧ RMc w' mb c ∧ RStk w' db b { d with depth := d.depth - 1 } ∧ Keeps (fun k => k = db) w w' := by
  have c1 : w.cell? ⟨mb, 1, none⟩ = some (.pointer (some ⟨db, 0, none⟩)) := by rw [hc.c1, hs]; rfl
  obtain ⟨i0, hi, hz0, hz1, hz2⟩ := info_parts infoInt
  have hmk0 := fun w => run_make (P := Tryz.prog) w 22 2 i0 (.int .i64 0) Tryz.underlying22 hi hz0 .i64 .i64 1 1 (by omega) (by decide) (by rw [hz2]; omega) (by decide)
  rw [hz1] at hmk0
  have hmk : ∀ w, (Instr.makeSlice 22 (.int .i64 1) (.int .i64 1)).run Tryz.prog w = .ok (.slice (some ⟨w.heap.size, 0, none⟩) 1 1) (w.alloc (.cells #[.int .i64 0] 2)) := fun w => (hmk0 w).trans (by rw [madeCells_one]; rfl)
  clear hmk0
  have hD := Lib.hid (stk_depth w db b d hd)
  have d1 : decide (d.depth < 1) = false := decide_eq_false (by omega)
  have HP := Lib.hid fun V R M => stk_pop V db b bb d m R M
  rw [hv] at HP
  have HC := Lib.hid hc
  have HS := Lib.hid hd
  have HM := Lib.hid hm
  have hdl := lt_of_heap hd.head
  have N1 := Lib.hid n1
  clear hc hs hd hm hv n1
  go_enter Tryz.func407, Tryz.ntmps407
  go_wp2_with fail
  refine hD.out.mono ?_
  rintro e w1 ⟨rfl, rfl⟩
  go_wp2_with fail
  have HA := halloc_at w (.cells #[.int .i64 0] 2)
  have ka := Keeps.alloc (fun _ => False) w (.cells #[.int .i64 0] 2)
  obtain ⟨la, hla⟩ : ∃ la, la = w.heap.size := ⟨_, rfl⟩
  rw [← hla] at HA ⊢
  have LA := Lib.hid hla
  clear hla hmk
  generalize w.alloc (.cells #[.int .i64 0] 2) = V at HA ka ⊢
  replace HC := Lib.hid (HC.out.keeps ka id)
  replace HS := Lib.hid (HS.out.keeps ka id)
  replace HM := Lib.hid (HM.out.keeps ka id id)
  have c1 : V.cell? ⟨mb, 1, none⟩ = some (.pointer (some ⟨db, 0, none⟩)) := ka.cell c1 id
  have KA := Lib.hid ka
  clear ka
  refine wp_loop_rounds 2 ?_
  rw [rounds_succ]
  go_wp2_with fail
  refine (HP.out V HS.out HM.out).mono ?_
  rintro e V1 ⟨rfl, r1, k1⟩
  have hnl : la ≠ db := by have := LA.out; omega
  have HB := k1.heap HA hnl
  have l0 : V1.cell? ⟨la, 0, none⟩ = some (.int .i64 0) := cell_of HB rfl
  have f0 := free_of (i := 0) HB
  have ks : Keeps (fun k => k = la) V1 (V1.setCell ⟨la, 0, none⟩ (.int .i64 v)) := Keeps.setCell _ _ _ (fun _ => rfl)
  have hml := lt_of_heap HC.out
  have hnm : mb ≠ la := fun e => by
    have h1 := HC.out
    unfold RMc at h1
    rw [e, HA] at h1
    simp at h1
  have LC := Lib.hid (show (V1.setCell ⟨la, 0, none⟩ (.int .i64 v)).cell? ⟨la, 0, none⟩ = some (.int .i64 v) from cell_of (hset_same HB (.int .i64 v)) rfl)
  have RC := Lib.hid ((HC.out.keeps k1 (fun e => N1.out e)).keeps ks (fun e => hnm e))
  have RD := Lib.hid (r1.keeps ks (fun e => hnl e.symm))
  have KF := Lib.hid ((((KA.out.mono (T := fun k => k = db) (fun _ _ e => e.elim)).trans k1)).trans' ks (fun i hi e => by have e : i = la := e; have := LA.out; omega))
  clear r1 k1 ks HB HA
  go_wp2_with fail
  rw [rounds_succ]
  go_wp2_with fail
  go_ret2
  exact ⟨la, rfl, LC.out, Nat.le_of_eq LA.out.symm, RC.out, RD.out, KF.out⟩
end Go.Proofs.Shed
