/- Layer 17: a word of the text: '1', '.'. Conditions: the machine and the reader lie in their blocks. -/
import Derived.Test.YthhfkhhhclmimaaGreatDoorMOA
import Derived.Test.YthhfkhhhclmimaaGreatDoorMOB
import Derived.Test.YthhfkhhhclmimaaGreatDoorMHA
import Derived.Deep.DeepCutAuto
set_option linter.unusedVariables false
set_option linter.unusedSimpArgs false
set_option maxRecDepth 10000
set_option maxHeartbeats 4000000
namespace Go.Proofs.Shed
open Go Go.RowKit Go.Proofs.K Go.Proofs.Cod

theorem zero_fo (w : World) : (zeroValue 73).run Tryz.prog w = .ok .nilFunc w := by kernel_rfl
/-- What the reader asks, to look for a word: the lists' slice; its own words, without this one. -/
structure Looks (w : World) (o : Oc) (list : Int) (low : List UInt8) : Prop where
  ord : ∃ la lc, o.ord = .slice (some ⟨la, 0, none⟩) 1 lc ∧ Own w 2 1 (some ⟨la, 0, none⟩) 1 lc [.int .i64 list]
  more : ∃ n f, MapIs sk w o.more n f ∧ f low = none
def wdOf : Option Wd → Wd
  | some d => d
  | none => Wd.none
theorem outer_word_dot (X : Nat → Prop) (w : World) (mb s b bb db rb ob : Nat) (c : Mc) (x : Sp) (d r : Stk) (o : Oc) (list : Int) (wd : Wd) (n bs : Nat) (S : List UInt8) (hSl : S.length ≤ 31) (h : RVm X w mb s b bb db rb c x d r) (ho : ROc w ob o) (hm : o.mach = mb) (hcp : o.comp = false) (hk : Looks w o list S)
    (hlow : lower S = S) (hkw : K_words S = none) (hfind : x.mem.find S [list] = some wd) (ok : DotOk c x d n bs) (hx : x.mem.cell wd.xt = (68, 0)) (f1 : 1 ≤ c.fuel) (f2 : c.fuel ≤ 1000000000) :
    Calls Tryz.prog 77 #[.pointer (some ⟨ob, 0, none⟩), .string ⟨S.toArray⟩] w fun e w' => e = .returned (.int .i64 0) ∧ RVm X w' mb s b bb db rb { c with ip := 0, self := 0, handler := 0, fuel := c.fuel - 1, out := c.out ++ (Num.show_ n bs ++ [32]) } x { d with depth := d.depth - 1 } r ∧ Keeps (fun k => k = mb ∨ k = db) w w' := by
  obtain ⟨⟨la, lc, hord, hown⟩, ⟨nM, fM, hM, hfM⟩⟩ := hk
  have HL := Lib.hid fun V => intern_lower V S (by omega)
  rw [hlow] at HL
  have o18 : w.cell? ⟨ob, 18, none⟩ = some (.map (some o.more)) := ho.c18
  have HR := Lib.hid h
  have HO := Lib.hid ho
  have HM := Lib.hid hM
  have HFM := Lib.hid hfM
  have HOW := Lib.hid hown
  have HMM := Lib.hid hm
  have HCP := Lib.hid hcp
  have HORD := Lib.hid hord
  have zf := zero_fo
  clear h ho hM hfM hown hm hcp hord
  go_enter Tryz.func77, Tryz.ntmps77
  go_wp2_with fail
  refine (HL.out _).mono ?_
  rintro e w1 ⟨rfl, k1⟩
  have K1 := Lib.hid k1
  have q18 : w1.cell? ⟨ob, 18, none⟩ = some (.map (some o.more)) := k1.cell o18 id
  clear k1 o18
  go_wp2_with (first
    | (at_lookup; refine wpList_look sk _ rfl _ _ 57 rfl _ Tryz.underlying57 _ (zero_fo _) o.more nM fM rfl (HM.out.keeps K1.out id) S (show S.length ≤ maxLen by unfold maxLen; omega) rfl _ HFM.out ?_; dsimp only [Option.getD_none, Option.isSome_none]))
  refine (outer_words w1).mono ?_
  rintro e w2 ⟨bW, rfl, fW, hW, hgW, _, k2⟩
  have hfW : fW S = none := by
    have := hgW S
    rw [hkw] at this
    exact this
  have HWW := Lib.hid hW
  have K2 := Lib.hid (K1.out.trans k2)
  clear hW hgW k2
  go_wp2_with (first
    | (at_lookup; refine wpList_look sk _ rfl _ _ 57 rfl _ Tryz.underlying57 _ (zero_fo _) bW _ fW rfl HWW.out S (show S.length ≤ maxLen by unfold maxLen; omega) rfl _ hfW ?_; dsimp only [Option.getD_none, Option.isSome_none]))
  have R2 := Lib.hid (HR.out.keeps0 K2.out)
  have O2 := Lib.hid (HO.out.keeps K2.out id)
  have OW2 := Lib.hid (HOW.out.keeps K2.out (fun _ _ => id))
  have c0 : w2.cell? ⟨ob, 0, none⟩ = some (.pointer (some ⟨mb, 0, none⟩)) := by rw [O2.out.c0, HMM.out]
  have c2 : w2.cell? ⟨ob, 2, none⟩ = some (.slice (some ⟨la, 0, none⟩) 1 lc) := by rw [O2.out.c2, HORD.out]
  have m0 : w2.cell? ⟨mb, 0, none⟩ = some (.pointer (some ⟨s, 0, none⟩)) := by rw [R2.out.mc.c0, R2.out.csp]; rfl
  have s0 := R2.out.sp.c0
  have HFI := Lib.hid fun V (k : Keeps (fun _ => False) w2 V) => head_find V b bb x.mem S (some ⟨la, 0, none⟩) 1 lc [list] (R2.out.sp.mem.keeps k id id) (by omega) (OW2.out.keeps k (fun _ _ => id)) rfl (by decide)
  rw [hfind] at HFI
  clear hfW HR HO HOW HM
  go_upto_region 8 with fail
  have hob := lt_of_heap O2.out
  have hmb2 := lt_of_heap R2.out.mc
  have hsb := lt_of_heap R2.out.sp.head
  go_cut [10, 11] (fun v10 v11 wx => ∃ g : Nat, v10 = .pointer (some ⟨g, 0, none⟩) ∧ v11 = .bool true ∧ WdCells g wd.at_ wd.xt wd.flags wd.name wx ∧ Keeps (fun _ => False) w2 wx)
  case first =>
    go_region_held3 (fun w' => w'.cell? ⟨ob, 0, none⟩ = some (.pointer (some ⟨mb, 0, none⟩)) ∧ w'.cell? ⟨ob, 2, none⟩ = some (.slice (some ⟨la, 0, none⟩) 1 lc) ∧ w'.cell? ⟨mb, 0, none⟩ = some (.pointer (some ⟨s, 0, none⟩)) ∧ w'.cell? ⟨s, 0, none⟩ = some (.pointer (some ⟨b, 0, none⟩)))
      (first | go_keep)
      (first
        | (go_at_call 42; refine (HFI.out (w2.alloc (.cells #[.int .i64 0, .int .i64 0, .int .i64 0, .string ⟨#[]⟩] 53)).drew ((Keeps.alloc (fun _ => False) w2 (.cells #[.int .i64 0, .int .i64 0, .int .i64 0, .string ⟨#[]⟩] 53)).trans (Keeps.drew _ _))).mono ?_; rintro e w4 ⟨rfl, k4⟩; dsimp only [findV, Wd.val]
           have ks := ((Keeps.alloc (fun _ => False) w2 (.cells #[.int .i64 0, .int .i64 0, .int .i64 0, .string ⟨#[]⟩] 53)).trans (Keeps.drew (fun _ => False) _)).trans k4
           have hz := k4.heap (show ((w2.alloc (.cells #[.int .i64 0, .int .i64 0, .int .i64 0, .string ⟨#[]⟩] 53)).drew).heap[w2.heap.size]? = _ from halloc_at w2 _) id
           have e0 : w4.cell? ⟨ob, 0, none⟩ = some (.pointer (some ⟨mb, 0, none⟩)) := ks.cell c0 id
           have e2 : w4.cell? ⟨ob, 2, none⟩ = some (.slice (some ⟨la, 0, none⟩) 1 lc) := ks.cell c2 id
           have em : w4.cell? ⟨mb, 0, none⟩ = some (.pointer (some ⟨s, 0, none⟩)) := ks.cell m0 id
           have es : w4.cell? ⟨s, 0, none⟩ = some (.pointer (some ⟨b, 0, none⟩)) := ks.cell s0 id
           have z0 : w4.cell? ⟨w2.heap.size, 0, none⟩ = some (.int .i64 0) := cell_of hz rfl
           have z1 : w4.cell? ⟨w2.heap.size, 1, none⟩ = some (.int .i64 0) := cell_of hz rfl
           have z2 : w4.cell? ⟨w2.heap.size, 2, none⟩ = some (.int .i64 0) := cell_of hz rfl
           have z3 : w4.cell? ⟨w2.heap.size, 3, none⟩ = some (.string ⟨#[]⟩) := cell_of hz rfl
           have q0 := free_of (i := 0) hz
           have q1 := free_of (i := 1) hz
           have q2 := free_of (i := 2) hz
           have q3 := free_of (i := 3) hz
           have n1 : w2.heap.size ≠ ob := by omega
           have n2 : w2.heap.size ≠ mb := by omega
           have n3 : w2.heap.size ≠ s := by omega
           have n1' : ob ≠ w2.heap.size := by omega
           have n2' : mb ≠ w2.heap.size := by omega
           have n3' : s ≠ w2.heap.size := by omega)
        | (go_at_call 42; refine (HFI.out w2.drew (Keeps.drew _ _)).mono ?_; rintro e w4 ⟨rfl, k4⟩; dsimp only [findV, Wd.val]
           have ks := (Keeps.drew (fun _ => False) w2).trans k4
           have e0 : w4.cell? ⟨ob, 0, none⟩ = some (.pointer (some ⟨mb, 0, none⟩)) := ks.cell c0 id
           have e2 : w4.cell? ⟨ob, 2, none⟩ = some (.slice (some ⟨la, 0, none⟩) 1 lc) := ks.cell c2 id
           have em : w4.cell? ⟨mb, 0, none⟩ = some (.pointer (some ⟨s, 0, none⟩)) := ks.cell m0 id
           have es : w4.cell? ⟨s, 0, none⟩ = some (.pointer (some ⟨b, 0, none⟩)) := ks.cell s0 id
           have l1 := World.block_lt_of_cell? w4 _ e0
           have l2 := World.block_lt_of_cell? w4 _ em
           have l3 := World.block_lt_of_cell? w4 _ es))
    all_goals
      go_wp2_with fail
      go_meet
      refine ⟨_, rfl, rfl, ?_⟩
      first
        | (have hB := set4 (g := w2.heap.size) hz (.int .i64 wd.at_) (.int .i64 wd.xt) (.int .i64 wd.flags) (.string ⟨wd.name.toArray⟩)
           have kB := keeps_set4 ks w2.heap.size (.int .i64 wd.at_) (.int .i64 wd.xt) (.int .i64 wd.flags) (.string ⟨wd.name.toArray⟩) (Nat.le_refl _)
           exact ⟨hB, kB⟩)
        | (have hA := halloc_at w4 (.cells #[.int .i64 wd.at_, .int .i64 wd.xt, .int .i64 wd.flags, .string ⟨wd.name.toArray⟩] 53)
           have kA := ks.trans (Keeps.alloc (fun _ => False) w4 (.cells #[.int .i64 wd.at_, .int .i64 wd.xt, .int .i64 wd.flags, .string ⟨wd.name.toArray⟩] 53))
           exact ⟨hA, kA⟩)
  case rest =>
    obtain ⟨g, rfl, rfl, hw, kc⟩ := hcut
    have R3 := Lib.hid (R2.out.keeps0 kc)
    have O3 := Lib.hid (O2.out.keeps kc id)
    have K3 := Lib.hid (K2.out.trans kc)
    have x0 : wc.cell? ⟨g, 0, none⟩ = some (.int .i64 wd.at_) := cell_of hw rfl
    have x1 : wc.cell? ⟨g, 1, none⟩ = some (.int .i64 wd.xt) := cell_of hw rfl
    have x2 : wc.cell? ⟨g, 2, none⟩ = some (.int .i64 wd.flags) := cell_of hw rfl
    have x3 : wc.cell? ⟨g, 3, none⟩ = some (.string ⟨wd.name.toArray⟩) := cell_of hw rfl
    have HF := Lib.hid (outer_found_dot X wc mb s b bb db rb ob c x d r o wd n bs R3.out O3.out HMM.out HCP.out ok hx f1 f2)
    unfold Wd.val at HF
    clear hw kc c0 c2 m0 s0 HFI ok hx hfind
    go_wp2_with fail
    refine HF.out.mono ?_
    rintro e w5 ⟨rfl, r5, k5⟩
    have R5 := Lib.hid r5
    have K5 := Lib.hid ((K3.out.mono (T := fun k => k = mb ∨ k = db) (fun _ _ e => e.elim)).trans k5)
    clear r5 k5
    go_wp2_with fail
    go_ret
    exact ⟨rfl, R5.out, K5.out⟩
/-- '1': a number, pushed. -/
theorem outer_word_one (X : Nat → Prop) (w : World) (mb s b bb db rb ob : Nat) (c : Mc) (x : Sp) (d r : Stk) (o : Oc) (list : Int) (S : List UInt8) (hS1 : S = [49]) (hSl : S.length ≤ 31) (h : RVm X w mb s b bb db rb c x d r) (ho : ROc w ob o) (hm : o.mach = mb) (hcp : o.comp = false) (hk : Looks w o list S)
    (hlow : lower S = S) (hkw : K_words S = none) (hfind : x.mem.find S [list] = none) (hbs : (x.mem.cell c.base).1 = 10) :
    Calls Tryz.prog 77 #[.pointer (some ⟨ob, 0, none⟩), .string ⟨S.toArray⟩] w fun e w' => e = .returned (.int .i64 (Stk.push x.mem d [1]).2.2) ∧ RVm X w' mb s b bb db rb c { x with mem := (Stk.push x.mem d [1]).1 } (Stk.push x.mem d [1]).2.1 r ∧ Keeps (fun k => k = db ∨ k = bb) w w' := by
  have HS1 := Lib.hid hS1
  clear hS1
  obtain ⟨⟨la, lc, hord, hown⟩, ⟨nM, fM, hM, hfM⟩⟩ := hk
  have HL := Lib.hid fun V => intern_lower V S (by omega)
  rw [hlow] at HL
  have o18 : w.cell? ⟨ob, 18, none⟩ = some (.map (some o.more)) := ho.c18
  have HR := Lib.hid h
  have HO := Lib.hid ho
  have HM := Lib.hid hM
  have HFM := Lib.hid hfM
  have HOW := Lib.hid hown
  have HMM := Lib.hid hm
  have HCP := Lib.hid hcp
  have HORD := Lib.hid hord
  have zf := zero_fo
  clear h ho hM hfM hown hm hcp hord
  go_enter Tryz.func77, Tryz.ntmps77
  go_wp2_with fail
  refine (HL.out _).mono ?_
  rintro e w1 ⟨rfl, k1⟩
  have K1 := Lib.hid k1
  have q18 : w1.cell? ⟨ob, 18, none⟩ = some (.map (some o.more)) := k1.cell o18 id
  clear k1 o18
  go_wp2_with (first
    | (at_lookup; refine wpList_look sk _ rfl _ _ 57 rfl _ Tryz.underlying57 _ (zero_fo _) o.more nM fM rfl (HM.out.keeps K1.out id) S (show S.length ≤ maxLen by unfold maxLen; omega) rfl _ HFM.out ?_; dsimp only [Option.getD_none, Option.isSome_none]))
  refine (outer_words w1).mono ?_
  rintro e w2 ⟨bW, rfl, fW, hW, hgW, _, k2⟩
  have hfW : fW S = none := by
    have := hgW S
    rw [hkw] at this
    exact this
  have HWW := Lib.hid hW
  have K2 := Lib.hid (K1.out.trans k2)
  clear hW hgW k2
  go_wp2_with (first
    | (at_lookup; refine wpList_look sk _ rfl _ _ 57 rfl _ Tryz.underlying57 _ (zero_fo _) bW _ fW rfl HWW.out S (show S.length ≤ maxLen by unfold maxLen; omega) rfl _ hfW ?_; dsimp only [Option.getD_none, Option.isSome_none]))
  have R2 := Lib.hid (HR.out.keeps0 K2.out)
  have O2 := Lib.hid (HO.out.keeps K2.out id)
  have OW2 := Lib.hid (HOW.out.keeps K2.out (fun _ _ => id))
  have c0 : w2.cell? ⟨ob, 0, none⟩ = some (.pointer (some ⟨mb, 0, none⟩)) := by rw [O2.out.c0, HMM.out]
  have c2 : w2.cell? ⟨ob, 2, none⟩ = some (.slice (some ⟨la, 0, none⟩) 1 lc) := by rw [O2.out.c2, HORD.out]
  have m0 : w2.cell? ⟨mb, 0, none⟩ = some (.pointer (some ⟨s, 0, none⟩)) := by rw [R2.out.mc.c0, R2.out.csp]; rfl
  have s0 := R2.out.sp.c0
  have HFI := Lib.hid fun V (k : Keeps (fun _ => False) w2 V) => head_find V b bb x.mem S (some ⟨la, 0, none⟩) 1 lc [list] (R2.out.sp.mem.keeps k id id) (by omega) (OW2.out.keeps k (fun _ _ => id)) rfl (by decide)
  rw [hfind] at HFI
  clear hfW HR HO HOW HM
  go_upto_region 8 with fail
  have hob := lt_of_heap O2.out
  have hmb2 := lt_of_heap R2.out.mc
  have hsb := lt_of_heap R2.out.sp.head
  go_cut [10, 11] (fun v10 v11 wx => ∃ g : Nat, v10 = .pointer (some ⟨g, 0, none⟩) ∧ v11 = .bool false ∧ WdCells g Wd.none.at_ Wd.none.xt Wd.none.flags Wd.none.name wx ∧ Keeps (fun _ => False) w2 wx)
  case first =>
    go_region_held3 (fun w' => w'.cell? ⟨ob, 0, none⟩ = some (.pointer (some ⟨mb, 0, none⟩)) ∧ w'.cell? ⟨ob, 2, none⟩ = some (.slice (some ⟨la, 0, none⟩) 1 lc) ∧ w'.cell? ⟨mb, 0, none⟩ = some (.pointer (some ⟨s, 0, none⟩)) ∧ w'.cell? ⟨s, 0, none⟩ = some (.pointer (some ⟨b, 0, none⟩)))
      (first | go_keep)
      (first
        | (go_at_call 42; refine (HFI.out (w2.alloc (.cells #[.int .i64 0, .int .i64 0, .int .i64 0, .string ⟨#[]⟩] 53)).drew ((Keeps.alloc (fun _ => False) w2 (.cells #[.int .i64 0, .int .i64 0, .int .i64 0, .string ⟨#[]⟩] 53)).trans (Keeps.drew _ _))).mono ?_; rintro e w4 ⟨rfl, k4⟩; dsimp only [findV, Wd.val]
           have ks := ((Keeps.alloc (fun _ => False) w2 (.cells #[.int .i64 0, .int .i64 0, .int .i64 0, .string ⟨#[]⟩] 53)).trans (Keeps.drew (fun _ => False) _)).trans k4
           have hz := k4.heap (show ((w2.alloc (.cells #[.int .i64 0, .int .i64 0, .int .i64 0, .string ⟨#[]⟩] 53)).drew).heap[w2.heap.size]? = _ from halloc_at w2 _) id
           have e0 : w4.cell? ⟨ob, 0, none⟩ = some (.pointer (some ⟨mb, 0, none⟩)) := ks.cell c0 id
           have e2 : w4.cell? ⟨ob, 2, none⟩ = some (.slice (some ⟨la, 0, none⟩) 1 lc) := ks.cell c2 id
           have em : w4.cell? ⟨mb, 0, none⟩ = some (.pointer (some ⟨s, 0, none⟩)) := ks.cell m0 id
           have es : w4.cell? ⟨s, 0, none⟩ = some (.pointer (some ⟨b, 0, none⟩)) := ks.cell s0 id
           have z0 : w4.cell? ⟨w2.heap.size, 0, none⟩ = some (.int .i64 0) := cell_of hz rfl
           have z1 : w4.cell? ⟨w2.heap.size, 1, none⟩ = some (.int .i64 0) := cell_of hz rfl
           have z2 : w4.cell? ⟨w2.heap.size, 2, none⟩ = some (.int .i64 0) := cell_of hz rfl
           have z3 : w4.cell? ⟨w2.heap.size, 3, none⟩ = some (.string ⟨#[]⟩) := cell_of hz rfl
           have q0 := free_of (i := 0) hz
           have q1 := free_of (i := 1) hz
           have q2 := free_of (i := 2) hz
           have q3 := free_of (i := 3) hz
           have n1 : w2.heap.size ≠ ob := by omega
           have n2 : w2.heap.size ≠ mb := by omega
           have n3 : w2.heap.size ≠ s := by omega
           have n1' : ob ≠ w2.heap.size := by omega
           have n2' : mb ≠ w2.heap.size := by omega
           have n3' : s ≠ w2.heap.size := by omega)
        | (go_at_call 42; refine (HFI.out w2.drew (Keeps.drew _ _)).mono ?_; rintro e w4 ⟨rfl, k4⟩; dsimp only [findV, Wd.val]
           have ks := (Keeps.drew (fun _ => False) w2).trans k4
           have e0 : w4.cell? ⟨ob, 0, none⟩ = some (.pointer (some ⟨mb, 0, none⟩)) := ks.cell c0 id
           have e2 : w4.cell? ⟨ob, 2, none⟩ = some (.slice (some ⟨la, 0, none⟩) 1 lc) := ks.cell c2 id
           have em : w4.cell? ⟨mb, 0, none⟩ = some (.pointer (some ⟨s, 0, none⟩)) := ks.cell m0 id
           have es : w4.cell? ⟨s, 0, none⟩ = some (.pointer (some ⟨b, 0, none⟩)) := ks.cell s0 id
           have l1 := World.block_lt_of_cell? w4 _ e0
           have l2 := World.block_lt_of_cell? w4 _ em
           have l3 := World.block_lt_of_cell? w4 _ es))
    all_goals
      go_wp2_with fail
      go_meet
      refine ⟨_, rfl, rfl, ?_⟩
      first
        | (have hB := set4 (g := w2.heap.size) hz (.int .i64 Wd.none.at_) (.int .i64 Wd.none.xt) (.int .i64 Wd.none.flags) (.string ⟨Wd.none.name.toArray⟩)
           have kB := keeps_set4 ks w2.heap.size (.int .i64 Wd.none.at_) (.int .i64 Wd.none.xt) (.int .i64 Wd.none.flags) (.string ⟨Wd.none.name.toArray⟩) (Nat.le_refl _)
           exact ⟨hB, kB⟩)
        | (have hA := halloc_at w4 (.cells #[.int .i64 Wd.none.at_, .int .i64 Wd.none.xt, .int .i64 Wd.none.flags, .string ⟨Wd.none.name.toArray⟩] 53)
           have kA := ks.trans (Keeps.alloc (fun _ => False) w4 (.cells #[.int .i64 Wd.none.at_, .int .i64 Wd.none.xt, .int .i64 Wd.none.flags, .string ⟨Wd.none.name.toArray⟩] 53))
           exact ⟨hA, kA⟩)
  case rest =>
    obtain ⟨g, rfl, rfl, hw, kc⟩ := hcut
    have R3 := Lib.hid (R2.out.keeps0 kc)
    have O3 := Lib.hid (O2.out.keeps kc id)
    have K3 := Lib.hid (K2.out.trans kc)
    have o0 : wc.cell? ⟨ob, 0, none⟩ = some (.pointer (some ⟨mb, 0, none⟩)) := kc.cell c0 id
    have HB := vm_base wc mb s b bb c x R3.out.mc R3.out.csp R3.out.sp
    rw [hbs] at HB
    have HB := Lib.hid HB
    have HPO := Lib.hid fun V => num_parse_one V
    have hst : (⟨#[49]⟩ : ByteArray) = ⟨S.toArray⟩ := by rw [HS1.out]
    rw [hst] at HPO
    clear hw kc c0 c2 m0 s0 HFI hfind hst
    go_wp2_with fail
    refine HB.out.mono ?_
    rintro e w5 ⟨rfl, k5⟩
    have R5 := Lib.hid (R3.out.keeps0 k5)
    have O5 := Lib.hid (O3.out.keeps k5 id)
    have K5 := Lib.hid (K3.out.trans k5)
    clear k5 o0
    go_wp2_with fail
    refine (HPO.out _).mono ?_
    rintro e w6 ⟨rfl, k6⟩
    have R6 := Lib.hid (R5.out.keeps0 k6)
    have O6 := Lib.hid (O5.out.keeps k6 id)
    have K6 := Lib.hid (K5.out.trans k6)
    clear k6
    have ka := Keeps.alloc (fun _ => False) w6 (.cells #[.int .i64 1] 2)
    have HLI := Lib.hid (outer_literal X (w6.alloc (.cells #[.int .i64 1] 2)) mb s b bb db rb ob c x d r o (some ⟨w6.heap.size, 0, none⟩) 1 [1] (R6.out.keeps0 ka) (O6.out.keeps ka id) HMM.out HCP.out
      (fun i hi => ⟨w6.heap.size, 0, rfl, by
        have : i = 0 := by simpa using hi
        subst this
        exact cell_of (halloc_at w6 _) rfl⟩) (by decide) (fun g e => by
          cases e
          have h1 := lt_of_heap R6.out.dk.head
          have h2 := R6.out.sp.mem.lt.2
          show w6.heap.size ≠ db ∧ w6.heap.size ≠ bb
          omega))
    have K7 := Lib.hid (K6.out.trans ka)
    clear ka
    go_wp2_with fail
    refine HLI.out.mono ?_
    rintro e w8 ⟨rfl, r8, k8⟩
    have R8 := Lib.hid r8
    have K8 := Lib.hid ((K7.out.mono (T := fun k => k = db ∨ k = bb) (fun _ _ e => e.elim)).trans k8)
    clear r8 k8
    go_wp2_with fail
    go_ret
    exact ⟨rfl, R8.out, K8.out⟩
end Go.Proofs.Shed
