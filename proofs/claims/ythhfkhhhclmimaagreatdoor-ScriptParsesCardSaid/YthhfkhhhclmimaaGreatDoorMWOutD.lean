/- Layer 17: the text '1 .', read. Conditions: the machine and the reader lie in their blocks. -/
import Derived.Test.YthhfkhhhclmimaaGreatDoorMWOutC
import Derived.Test.YthhfkhhhclmimaaGreatDoorMWSrc
import Derived.LoopN
set_option linter.unusedVariables false
set_option linter.unusedSimpArgs false
set_option maxRecDepth 10000
set_option maxHeartbeats 4000000
namespace Go.Proofs.Shed
open Go Go.RowKit Go.Proofs.K Go.Proofs.Cod

theorem ROc.setSrc {w : World} {g : Nat} {o : Oc} (h : ROc w g o) (v : Nat) : ROc (w.setCell ⟨g, 1, none⟩ (.pointer (some ⟨v, 0, none⟩))) g { o with src := v } := hset_same h _
/-- What the reading of '1 .' asks. -/
structure OneDot (c : Mc) (x : Sp) (d : Stk) (list : Int) (m1 : Mem) (d1 : Stk) (wd : Wd) : Prop where
  over : c.over = false
  f3 : 3 ≤ c.fuel
  f9 : c.fuel ≤ 1000000000
  push : Stk.push x.mem d [1] = (m1, d1, 0)
  find1 : x.mem.find [49] [list] = none
  base1 : (x.mem.cell c.base).1 = 10
  find2 : m1.find [46] [list] = some wd
  code : m1.cell wd.xt = (68, 0)
  base2 : (m1.cell c.base).1 = 10
  dep : 1 ≤ d1.depth
  pop : Stk.pop m1 d1 = ({ d1 with depth := d1.depth - 1 }, 1, 0)
  room : c.out.length ≤ 60000
theorem outer_text_one (X : Nat → Prop) (w : World) (mb s b bb db rb ob : Nat) (c : Mc) (x : Sp) (d r : Stk) (o : Oc) (list : Int) (m1 : Mem) (d1 : Stk) (wd : Wd) (la lc nM : Nat) (fM : List UInt8 → Option Value) (h : RVm X w mb s b bb db rb c x d r) (ho : ROc w ob o) (hm : o.mach = mb) (hcp : o.comp = false)
    (hord : o.ord = .slice (some ⟨la, 0, none⟩) 1 lc) (hown : Own w 2 1 (some ⟨la, 0, none⟩) 1 lc [.int .i64 list]) (hM : MapIs sk w o.more nM fM) (hf1 : fM [49] = none) (hf2 : fM [46] = none) (nla : la ≠ ob ∧ la ≠ mb ∧ la ≠ db ∧ la ≠ bb) (nmo : o.more ≠ ob ∧ o.more ≠ mb ∧ o.more ≠ db ∧ o.more ≠ bb)
    (nob : ob ≠ mb ∧ ob ≠ s ∧ ob ≠ b ∧ ob ≠ bb ∧ ob ≠ db ∧ ob ≠ rb ∧ c.does ≠ ob) (nX : ∀ g, X g → g ≠ ob) (hXl : ∀ g, X g → g < w.heap.size) (ok : OneDot c x d list m1 d1 wd) :
    Calls Tryz.prog 17 #[.pointer (some ⟨ob, 0, none⟩), .string ⟨#[49, 32, 46]⟩] w fun e w' => e = .returned (.int .i64 0) ∧ (∃ o', ROc w' ob o' ∧ o'.mach = mb) ∧ RVm X w' mb s b bb db rb { c with ip := 0, self := 0, handler := 0, fuel := c.fuel - 3, out := c.out ++ [49, 32] } { x with mem := m1 } { d1 with depth := d1.depth - 1 } r ∧ Keeps (fun k => k = ob ∨ k = mb ∨ k = db ∨ k = bb) w w' := by
  have HN := Lib.hid fun V => src_new V [49, 32, 46] (by decide)
  have o1 : w.cell? ⟨ob, 1, none⟩ = some (.pointer (some ⟨o.src, 0, none⟩)) := ho.c1
  have HR := Lib.hid h
  have HO := Lib.hid ho
  have OK := Lib.hid ok
  clear h ho ok
  go_enter Tryz.func17, Tryz.ntmps17
  go_wp2_with fail
  refine (HN.out w).mono ?_
  rintro e W0 ⟨rfl, sr0, k0⟩
  obtain ⟨q, hq⟩ : ∃ q, q = w.heap.size := ⟨_, rfl⟩
  rw [← hq] at sr0 ⊢
  have HQ := Lib.hid (show w.heap.size ≤ q by omega)
  have HLT := Lib.hid (show mb < w.heap.size ∧ s < w.heap.size ∧ b < w.heap.size ∧ bb < w.heap.size ∧ db < w.heap.size ∧ rb < w.heap.size ∧ c.does < w.heap.size ∧ ob < w.heap.size from by
    obtain ⟨nn, g, _, hmm, _⟩ := HR.out.does
    exact ⟨lt_of_heap HR.out.mc, lt_of_heap HR.out.sp.head, HR.out.sp.mem.lt.1, HR.out.sp.mem.lt.2, lt_of_heap HR.out.dk.head, lt_of_heap HR.out.rk.head, hmm.lt, lt_of_heap HO.out⟩)
  have HLA := Lib.hid (show la < w.heap.size ∧ o.more < w.heap.size from ⟨hown.lt rfl, hM.lt⟩)
  have ks : Keeps (fun k => k = ob) W0 (W0.setCell ⟨ob, 1, none⟩ (.pointer (some ⟨q, 0, none⟩))) := Keeps.setCell _ _ _ (fun _ => rfl)
  have hO0 := HO.out.keeps k0 id
  have p1 : W0.cell? ⟨ob, 1, none⟩ = some (.pointer (some ⟨o.src, 0, none⟩)) := k0.cell o1 id
  have g1 := hO0.free 1
  have O := Lib.hid (hO0.setSrc q)
  have R := Lib.hid ((HR.out.keeps0 k0).keeps ks (by
    have := nob
    exact ⟨fun e => nob.1 (by have e : mb = ob := e; exact e.symm), fun e => nob.2.1 (by have e : s = ob := e; exact e.symm), fun e => nob.2.2.1 (by have e : b = ob := e; exact e.symm), fun e => nob.2.2.2.1 (by have e : bb = ob := e; exact e.symm), fun e => nob.2.2.2.2.1 (by have e : db = ob := e; exact e.symm), fun e => nob.2.2.2.2.2.1 (by have e : rb = ob := e; exact e.symm), nob.2.2.2.2.2.2⟩) nX)
  have SR := Lib.hid (sr0.keeps ks (fun e => by have e : q = ob := e; have := HLT.out; omega))
  have OW := Lib.hid ((hown.keeps k0 (fun _ _ => id)).keeps ks (fun g e e' => by cases e; exact nla.1 e'))
  have MM := Lib.hid ((hM.keeps k0 id).keeps ks nmo.1)
  have K := Lib.hid ((k0.mono (T := fun k => k = ob ∨ k = mb ∨ k = db ∨ k = bb) (fun _ _ e => e.elim)).trans (ks.mono (fun _ _ e => .inl e)))
  have nq : ∀ (z : Nat), (mb < w.heap.size ∧ s < w.heap.size ∧ b < w.heap.size ∧ bb < w.heap.size ∧ db < w.heap.size ∧ rb < w.heap.size ∧ z < w.heap.size ∧ ob < w.heap.size) → ¬ mb = q ∧ ¬ s = q ∧ ¬ b = q ∧ ¬ bb = q ∧ ¬ db = q ∧ ¬ rb = q ∧ ¬ z = q := fun z h => by have := HQ.out; omega
  clear hq sr0 k0 hO0 o1 HN HR HO hown hM
  go_wp2_with fail
  generalize W0.setCell ⟨ob, 1, none⟩ (.pointer (some ⟨q, 0, none⟩)) = W at O R SR OW MM K ks ⊢
  clear ks p1 g1
  refine wp_loop_rounds 3 ?_
  rw [rounds_succ]
  have u0 : W.cell? ⟨ob, 0, none⟩ = some (.pointer (some ⟨mb, 0, none⟩)) := by rw [O.out.c0]; exact congrArg (fun z => some (Value.pointer (some ⟨z, 0, none⟩))) hm
  have u1 : W.cell? ⟨ob, 1, none⟩ = some (.pointer (some ⟨q, 0, none⟩)) := O.out.c1
  have u13 : W.cell? ⟨mb, 13, none⟩ = some (.bool false) := by rw [show W.cell? ⟨mb, 13, none⟩ = some (.bool c.over) from cell_of R.out.mc rfl, OK.out.over]
  go_wp2_with fail
  refine (src_word W q _ _ SR.out).mono ?_
  rintro e W1 ⟨rfl, sr, kw⟩
  rw [show Src.word [49, 32, 46] 0 = ([49], 2) by decide] at sr ⊢
  dsimp only at sr ⊢
  have hq := HQ.out
  have R1 := Lib.hid (R.out.keeps kw (nq _ HLT.out) (fun g hg e => by have e : g = q := e; have := hXl g hg; omega))
  have O1 := Lib.hid (O.out.keeps kw (fun e => by have e : ob = q := e; have := HLT.out; omega))
  have OW1 := Lib.hid (OW.out.keeps kw (fun g e e' => by cases e; have e' : la = q := e'; have := HLA.out; omega))
  have MM1 := Lib.hid (MM.out.keeps kw (fun e => by have e : o.more = q := e; have := HLA.out; omega))
  have K1 := Lib.hid (K.out.trans' kw (fun i hi e => by have e : i = q := e; omega))
  have SR1 := Lib.hid sr
  clear sr kw u0 u1 u13
  have v0 : W1.cell? ⟨ob, 0, none⟩ = some (.pointer (some ⟨mb, 0, none⟩)) := by rw [O1.out.c0]; exact congrArg (fun z => some (Value.pointer (some ⟨z, 0, none⟩))) hm
  have v10 : W1.cell? ⟨mb, 10, none⟩ = some (.int .i64 c.fuel) := cell_of R1.out.mc rfl
  have f10 := R1.out.mc.free 10
  have hf3 := OK.out.f3
  have hf9 := OK.out.f9
  have df : decide (0 < c.fuel) = true := decide_eq_true (by omega)
  have kf : Keeps (fun k => k = mb) W1 (W1.setCell ⟨mb, 10, none⟩ (.int .i64 (c.fuel - 1))) := Keeps.setCell _ _ _ (fun _ => rfl)
  have R2 := Lib.hid (R1.out.withMc kf (R1.out.mc.setFuel (c.fuel - 1)) ⟨rfl, rfl, rfl, rfl⟩)
  have O2 := Lib.hid (O1.out.keeps kf nob.1)
  have OW2 := Lib.hid (OW1.out.keeps kf (fun g e e' => by cases e; exact nla.2.1 e'))
  have MM2 := Lib.hid (MM1.out.keeps kf nmo.2.1)
  have SR2 := Lib.hid (SR1.out.keeps kf (fun e => by have e : q = mb := e; have := HLT.out; omega))
  have K2 := Lib.hid (K1.out.trans (kf.mono (T := fun k => k = ob ∨ k = mb ∨ k = db ∨ k = bb) (fun _ _ e => .inr (.inl e))))
  have HW := Lib.hid (outer_word_one X _ mb s b bb db rb ob _ x d r _ list [49] rfl (by decide) R2.out O2.out hm hcp ⟨⟨la, lc, hord, OW2.out⟩, ⟨nM, fM, MM2.out, hf1⟩⟩ (by decide) (by decide +kernel) OK.out.find1 OK.out.base1)
  rw [OK.out.push] at HW
  clear kf
  go_wp2_with fail
  refine HW.out.mono ?_
  rintro e W3 ⟨rfl, r3, k3⟩
  replace R := Lib.hid r3
  replace O := Lib.hid (O2.out.keeps k3 (fun e => by rcases e with e | e; exact nob.2.2.2.2.1 e; exact nob.2.2.2.1 e))
  replace OW := Lib.hid (OW2.out.keeps k3 (fun g e e' => by cases e; rcases e' with e' | e'; exact nla.2.2.1 e'; exact nla.2.2.2 e'))
  replace MM := Lib.hid (MM2.out.keeps k3 (fun e => by rcases e with e | e; exact nmo.2.2.1 e; exact nmo.2.2.2 e))
  replace SR := Lib.hid (SR2.out.keeps k3 (fun e => by have := HLT.out; have := HQ.out; rcases e with e | e <;> omega))
  replace K := Lib.hid (K2.out.trans (k3.mono (T := fun k => k = ob ∨ k = mb ∨ k = db ∨ k = bb) (fun _ _ e => .inr (.inr e))))
  clear r3 k3 HW R1 R2 O1 O2 OW1 OW2 MM1 MM2 SR1 SR2 K1 K2 v0 v10 f10
  clear W
  rename World => W
  go_wp2_with fail
  clear hf3 hf9 df
  rw [rounds_succ]
  have u0 : W.cell? ⟨ob, 0, none⟩ = some (.pointer (some ⟨mb, 0, none⟩)) := by rw [O.out.c0]; exact congrArg (fun z => some (Value.pointer (some ⟨z, 0, none⟩))) hm
  have u1 : W.cell? ⟨ob, 1, none⟩ = some (.pointer (some ⟨q, 0, none⟩)) := O.out.c1
  have u13 : W.cell? ⟨mb, 13, none⟩ = some (.bool false) := by rw [show W.cell? ⟨mb, 13, none⟩ = some (.bool c.over) from cell_of R.out.mc rfl, OK.out.over]
  go_wp2_with fail
  refine (src_word W q _ _ SR.out).mono ?_
  rintro e W1 ⟨rfl, sr, kw⟩
  rw [show Src.word [49, 32, 46] 2 = ([46], 3) by decide] at sr ⊢
  dsimp only at sr ⊢
  have hq := HQ.out
  have R1 := Lib.hid (R.out.keeps kw (nq _ HLT.out) (fun g hg e => by have e : g = q := e; have := hXl g hg; omega))
  have O1 := Lib.hid (O.out.keeps kw (fun e => by have e : ob = q := e; have := HLT.out; omega))
  have OW1 := Lib.hid (OW.out.keeps kw (fun g e e' => by cases e; have e' : la = q := e'; have := HLA.out; omega))
  have MM1 := Lib.hid (MM.out.keeps kw (fun e => by have e : o.more = q := e; have := HLA.out; omega))
  have K1 := Lib.hid (K.out.trans' kw (fun i hi e => by have e : i = q := e; omega))
  have SR1 := Lib.hid sr
  clear sr kw u0 u1 u13
  have v0 : W1.cell? ⟨ob, 0, none⟩ = some (.pointer (some ⟨mb, 0, none⟩)) := by rw [O1.out.c0]; exact congrArg (fun z => some (Value.pointer (some ⟨z, 0, none⟩))) hm
  have v10 : W1.cell? ⟨mb, 10, none⟩ = some (.int .i64 (c.fuel - 1)) := cell_of R1.out.mc rfl
  have f10 := R1.out.mc.free 10
  have hf3 := OK.out.f3
  have hf9 := OK.out.f9
  have df : decide (0 < c.fuel - 1) = true := decide_eq_true (by omega)
  have kf : Keeps (fun k => k = mb) W1 (W1.setCell ⟨mb, 10, none⟩ (.int .i64 (c.fuel - 1 - 1))) := Keeps.setCell _ _ _ (fun _ => rfl)
  have R2 := Lib.hid (R1.out.withMc kf (R1.out.mc.setFuel (c.fuel - 1 - 1)) ⟨rfl, rfl, rfl, rfl⟩)
  have O2 := Lib.hid (O1.out.keeps kf nob.1)
  have OW2 := Lib.hid (OW1.out.keeps kf (fun g e e' => by cases e; exact nla.2.1 e'))
  have MM2 := Lib.hid (MM1.out.keeps kf nmo.2.1)
  have SR2 := Lib.hid (SR1.out.keeps kf (fun e => by have e : q = mb := e; have := HLT.out; omega))
  have K2 := Lib.hid (K1.out.trans (kf.mono (T := fun k => k = ob ∨ k = mb ∨ k = db ∨ k = bb) (fun _ _ e => .inr (.inl e))))
  have hsl : (Num.show_ ((1 : Nat) : Int) ((10 : Nat) : Int)).length = 1 := by decide +kernel
  have hroom := OK.out.room
  have HW := Lib.hid (outer_word_dot X _ mb s b bb db rb ob _ { x with mem := m1 } d1 r _ list wd 1 10 [46] (by decide) R2.out O2.out hm hcp ⟨⟨la, lc, hord, OW2.out⟩, ⟨nM, fM, MM2.out, hf2⟩⟩ (by decide) (by decide +kernel) OK.out.find2
    ⟨OK.out.dep, OK.out.pop, OK.out.base2, by decide, by decide, by decide, (by show c.out.length + _ ≤ _; rw [hsl]; omega), by decide +kernel⟩ OK.out.code (by show 1 ≤ c.fuel - 1 - 1; omega) (by show c.fuel - 1 - 1 ≤ _; omega))
  rw [show Num.show_ ((1 : Nat) : Int) ((10 : Nat) : Int) = [49] by decide +kernel] at HW
  clear kf
  go_wp2_with fail
  refine HW.out.mono ?_
  rintro e W3 ⟨rfl, r3, k3⟩
  replace R := Lib.hid r3
  replace O := Lib.hid (O2.out.keeps k3 (fun e => by rcases e with e | e; exact nob.1 e; exact nob.2.2.2.2.1 e))
  replace OW := Lib.hid (OW2.out.keeps k3 (fun g e e' => by cases e; rcases e' with e' | e'; exact nla.2.1 e'; exact nla.2.2.1 e'))
  replace MM := Lib.hid (MM2.out.keeps k3 (fun e => by rcases e with e | e; exact nmo.2.1 e; exact nmo.2.2.1 e))
  replace SR := Lib.hid (SR2.out.keeps k3 (fun e => by have := HLT.out; have := HQ.out; rcases e with e | e <;> omega))
  replace K := Lib.hid (K2.out.trans (k3.mono (T := fun k => k = ob ∨ k = mb ∨ k = db ∨ k = bb) (fun _ _ e => by rcases e with e | e; exact .inr (.inl e); exact .inr (.inr (.inl e)))))
  clear r3 k3 HW R1 R2 O1 O2 OW1 OW2 MM1 MM2 SR1 SR2 K1 K2 v0 v10 f10
  clear W
  rename World => W
  go_wp2_with fail
  clear hf3 hf9 df
  rw [rounds_succ]
  have u0 : W.cell? ⟨ob, 0, none⟩ = some (.pointer (some ⟨mb, 0, none⟩)) := by rw [O.out.c0]; exact congrArg (fun z => some (Value.pointer (some ⟨z, 0, none⟩))) hm
  have u1 : W.cell? ⟨ob, 1, none⟩ = some (.pointer (some ⟨q, 0, none⟩)) := O.out.c1
  have u13 : W.cell? ⟨mb, 13, none⟩ = some (.bool false) := by rw [show W.cell? ⟨mb, 13, none⟩ = some (.bool c.over) from cell_of R.out.mc rfl, OK.out.over]
  go_wp2_with fail
  refine (src_word W q _ _ SR.out).mono ?_
  rintro e W1 ⟨rfl, sr, kw⟩
  rw [show Src.word [49, 32, 46] 3 = ([], 3) by decide] at sr ⊢
  dsimp only at sr ⊢
  have hq := HQ.out
  have R1 := Lib.hid (R.out.keeps kw (nq _ HLT.out) (fun g hg e => by have e : g = q := e; have := hXl g hg; omega))
  have O1 := Lib.hid (O.out.keeps kw (fun e => by have e : ob = q := e; have := HLT.out; omega))
  have OW1 := Lib.hid (OW.out.keeps kw (fun g e e' => by cases e; have e' : la = q := e'; have := HLA.out; omega))
  have MM1 := Lib.hid (MM.out.keeps kw (fun e => by have e : o.more = q := e; have := HLA.out; omega))
  have K1 := Lib.hid (K.out.trans' kw (fun i hi e => by have e : i = q := e; omega))
  have SR1 := Lib.hid sr
  clear sr kw u0 u1 u13
  go_wp2_with fail
  go_ret
  refine ⟨rfl, ⟨_, O1.out, hm⟩, ?_, K1.out⟩
  have := R1.out
  rw [show c.fuel - 1 - 1 - 1 = c.fuel - 3 by omega] at this
  exact this
end Go.Proofs.Shed
