/- Layer 15: the machine as a whole; the word '.', entered. Conditions: the machine lies in its blocks. Layer 15: the word '.', entered, stepped, run. Conditions: the machine lies in its blocks. -/
import Derived.Test.YthhfkhhhclmimaaGreatDoorMMB
import Derived.Test.YthhfkhhhclmimaaGreatDoorMDC
import Derived.Maps.OwnOps
set_option linter.unusedVariables false
set_option linter.unusedSimpArgs false
set_option maxRecDepth 10000
set_option maxHeartbeats 4000000
namespace Go.Proofs.Shed
open Go Go.RowKit Go.Proofs.K Go.Proofs.Cod

/-- A machine in its blocks. -/
structure RVm (X : Nat → Prop) (w : World) (mb s b bb db rb : Nat) (c : Mc) (x : Sp) (d r : Stk) : Prop where
  mc : RMc w mb c
  csp : c.sp = some s
  cdk : c.dk = some db
  crk : c.rk = some rb
  sp : RSp w s b bb x
  dk : RStk w db b d
  rk : RStk w rb b r
  does : Does X w c.does
  nx : ∀ g, X g → g ≠ mb ∧ g ≠ s ∧ g ≠ bb ∧ g ≠ db ∧ g ≠ rb
  ne : (mb ≠ s ∧ mb ≠ b ∧ mb ≠ bb ∧ mb ≠ db ∧ mb ≠ rb) ∧ (db ≠ s ∧ db ≠ b ∧ db ≠ bb ∧ db ≠ rb) ∧ (rb ≠ s ∧ rb ≠ b ∧ rb ≠ bb) ∧ (c.does ≠ mb ∧ c.does ≠ s ∧ c.does ≠ bb ∧ c.does ≠ db ∧ c.does ≠ rb)
/-- Nothing of it was written. -/
theorem RVm.keeps {X S : Nat → Prop} {w w' : World} {mb s b bb db rb : Nat} {c : Mc} {x : Sp} {d r : Stk} (h : RVm X w mb s b bb db rb c x d r) (k : Keeps S w w') (n : ¬ S mb ∧ ¬ S s ∧ ¬ S b ∧ ¬ S bb ∧ ¬ S db ∧ ¬ S rb ∧ ¬ S c.does) (nX : ∀ g, X g → ¬ S g) : RVm X w' mb s b bb db rb c x d r :=
  ⟨h.mc.keeps k n.1, h.csp, h.cdk, h.crk, h.sp.keeps k n.2.1 n.2.2.1 n.2.2.2.1, h.dk.keeps k n.2.2.2.2.1, h.rk.keeps k n.2.2.2.2.2.1, h.does.keeps k n.2.2.2.2.2.2 nX, h.nx, h.ne⟩
theorem RVm.keeps0 {X : Nat → Prop} {w w' : World} {mb s b bb db rb : Nat} {c : Mc} {x : Sp} {d r : Stk} (h : RVm X w mb s b bb db rb c x d r) (k : Keeps (fun _ => False) w w') : RVm X w' mb s b bb db rb c x d r :=
  h.keeps k ⟨id, id, id, id, id, id, id⟩ (fun _ _ => id)
/-- The machine's own cells were written. -/
theorem RVm.withMc {X : Nat → Prop} {w w' : World} {mb s b bb db rb : Nat} {c c' : Mc} {x : Sp} {d r : Stk} (h : RVm X w mb s b bb db rb c x d r) (k : Keeps (fun g => g = mb) w w') (hc : RMc w' mb c') (e : c'.sp = c.sp ∧ c'.dk = c.dk ∧ c'.rk = c.rk ∧ c'.does = c.does) : RVm X w' mb s b bb db rb c' x d r := by
  obtain ⟨⟨n1, n2, n3, n4, n5⟩, n6, n7, n8⟩ := h.ne
  exact ⟨hc, e.1.trans h.csp, e.2.1.trans h.cdk, e.2.2.1.trans h.crk, h.sp.keeps k (fun e => n1 e.symm) (fun e => n2 e.symm) (fun e => n3 e.symm), h.dk.keeps k (fun e => n4 e.symm), h.rk.keeps k (fun e => n5 e.symm), by rw [e.2.2.2]; exact h.does.keeps k n8.1 (fun g hg e => (h.nx g hg).1 e), h.nx,
    ⟨⟨n1, n2, n3, n4, n5⟩, n6, n7, by rw [e.2.2.2]; exact n8⟩⟩
/-- The data stack's head was written. -/
theorem RVm.withD {X : Nat → Prop} {w w' : World} {mb s b bb db rb : Nat} {c : Mc} {x : Sp} {d d' r : Stk} (h : RVm X w mb s b bb db rb c x d r) (k : Keeps (fun g => g = db) w w') (hd : RStk w' db b d') : RVm X w' mb s b bb db rb c x d' r := by
  obtain ⟨⟨n1, n2, n3, n4, n5⟩, ⟨m1, m2, m3, m4⟩, n7, n8⟩ := h.ne
  exact ⟨h.mc.keeps k (fun e => n4 e), h.csp, h.cdk, h.crk, h.sp.keeps k (fun e => m1 e.symm) (fun e => m2 e.symm) (fun e => m3 e.symm), hd, h.rk.keeps k (fun e => m4 e.symm), h.does.keeps k n8.2.2.2.1 (fun g hg e => (h.nx g hg).2.2.2.1 e), h.nx, ⟨⟨n1, n2, n3, n4, n5⟩, ⟨m1, m2, m3, m4⟩, n7, n8⟩⟩

/-- What '.' asks: one number, not below 0, and a base that may be. -/
structure DotOk (c : Mc) (x : Sp) (d : Stk) (n bs : Nat) : Prop where
  dep : 1 ≤ d.depth
  top : Stk.pop x.mem d = ({ d with depth := d.depth - 1 }, (n : Int), 0)
  base : (x.mem.cell c.base).1 = bs
  b2 : 2 ≤ bs
  b36 : bs ≤ 36
  n63 : n ≤ 9223372036854775807
  room : c.out.length + ((Num.show_ n bs).length + 1) ≤ 65536
  some : Num.show_ n bs ≠ []

theorem vm_with_dot (X : Nat → Prop) (w : World) (mb s b bb db rb : Nat) (c : Mc) (x : Sp) (d r : Stk) (n bs ga gb : Nat) (h : RVm X w mb s b bb db rb c x d r) (ok : DotOk c x d n bs) (ha : w.cell? ⟨ga, 0, none⟩ = some (.int .i64 1)) (hb : w.cell? ⟨gb, 0, none⟩ = some (fnV 346)) (nb : gb ≠ db) :
    Calls Tryz.prog 406 #[.pointer (some ⟨mb, 0, none⟩), .pointer (some ⟨ga, 0, none⟩), .pointer (some ⟨gb, 0, none⟩)] w fun e w' => e = .returned (.int .i64 0) ∧ RVm X w' mb s b bb db rb { c with out := c.out ++ (Num.show_ n bs ++ [32]) } x { d with depth := d.depth - 1 } r ∧ Keeps (fun k => k = mb ∨ k = db) w w' := by
  obtain ⟨o1, o2, o3, o4, o5, o6, o7, o8⟩ := ok
  have HP := Lib.hid (vm_pops1 w mb b bb db c x.mem d n h.mc h.cdk h.dk h.sp.mem o1 o2 h.ne.1.2.2.2.1)
  have HD := Lib.hid fun V (R : RVm X V mb s b bb db rb c x { d with depth := d.depth - 1 } r) la hl nl => vm_dot V mb s b bb c x n bs la 1 R.mc R.csp R.sp o3 o4 o5 o6 hl o7 o8 nl
  have HR := Lib.hid h
  have hlt := lt_of_heap h.mc
  unfold fnV at hb
  clear h o1 o2 o3 o4 o5 o6 o7 o8
  generalize Num.show_ (n : Int) (bs : Int) = t at HD ⊢
  go_enter Tryz.func406, Tryz.ntmps406
  go_wp2_with fail
  refine HP.out.mono ?_
  rintro e w1 ⟨la, rfl, hl, hge, r1, d1, k1⟩
  have R1 := Lib.hid (HR.out.withD k1 d1)
  have K1 := Lib.hid k1
  have hb1 := k1.cell hb nb
  have HL := Lib.hid hl
  clear hb r1 d1 k1 hl
  go_wp2_with fail
  refine (HD.out w1 R1.out la HL.out (by omega)).mono ?_
  rintro e w2 ⟨rfl, r2, k2⟩
  have R2 := Lib.hid (R1.out.withMc k2 r2 ⟨rfl, rfl, rfl, rfl⟩)
  have K2 := Lib.hid ((K1.out.mono (T := fun k => k = mb ∨ k = db) (fun _ _ e => .inr e)).trans (k2.mono (fun _ _ e => .inl e)))
  clear r2 k2
  go_wp2_with fail
  go_ret
  exact ⟨rfl, R2.out, K2.out⟩
end Go.Proofs.Shed
set_option linter.unusedVariables false
set_option linter.unusedSimpArgs false
set_option maxRecDepth 10000
set_option maxHeartbeats 4000000
namespace Go.Proofs.Shed
open Go Go.RowKit Go.Proofs.K Go.Proofs.Cod

theorem num_dot : num [46] = 68 := by decide +kernel
theorem K_dot : K_all [46] = some (.with_ 1 346) := by decide +kernel
theorem zero_fn (w : World) : (zeroValue 237).run Tryz.prog w = .ok .nilFunc w := by kernel_rfl
theorem vm_enter_dot (X : Nat → Prop) (w : World) (mb s b bb db rb : Nat) (c : Mc) (x : Sp) (d r : Stk) (n bs : Nat) (xt : Int) (h : RVm X w mb s b bb db rb c x d r) (ok : DotOk c x d n bs) (hx : x.mem.cell xt = (68, 0)) :
    Calls Tryz.prog 310 #[.pointer (some ⟨mb, 0, none⟩), .int .i64 xt] w fun e w' => e = .returned (.int .i64 0) ∧ RVm X w' mb s b bb db rb { c with out := c.out ++ (Num.show_ n bs ++ [32]) } x { d with depth := d.depth - 1 } r ∧ Keeps (fun k => k = mb ∨ k = db) w w' := by
  have hC := mem_cell w b bb x.mem xt h.sp.mem
  rw [hx] at hC
  have HC := Lib.hid hC
  obtain ⟨nn, g, hnn, hm, hg⟩ := h.does
  obtain ⟨v, hv, gd⟩ := hg [46] _ K_dot
  obtain ⟨a, b', rfl, ⟨ga, ta, rfl, xa, ha⟩, ⟨gb, tb, rfl, xb, hb⟩⟩ := gd
  rw [num_dot] at hv
  have nb := (h.nx gb xb).2.2.2.1
  have HW := Lib.hid (vm_with_dot X w mb s b bb db rb c x d r n bs ga gb h ok (cell_of ha rfl) (cell_of hb rfl) nb)
  have c0 : w.cell? ⟨mb, 0, none⟩ = some (.pointer (some ⟨s, 0, none⟩)) := by rw [h.mc.c0, h.csp]; rfl
  have s0 := h.sp.c0
  have c17 : w.cell? ⟨mb, 17, none⟩ = some (.map (some c.does)) := cell_of h.mc rfl
  have HM := Lib.hid hm
  have HV := Lib.hid hv
  have zf := zero_fn
  clear hC hm hg hv ha hb xa xb h ok nb
  obtain ⟨pb, hpb⟩ : ∃ pb, pb = c.does := ⟨_, rfl⟩
  rw [← hpb] at c17 HM
  clear hpb
  go_enter Tryz.func310, Tryz.ntmps310
  go_wp2_with fail
  refine HC.out.mono ?_
  rintro e w1 ⟨rfl, rfl⟩
  go_wp2_with (first
    | (at_lookup; refine wpList_look ik _ rfl _ _ 45 rfl _ Tryz.underlying45 _ (zero_fn _) pb nn g rfl HM.out 68 (show (Lit.int .i64 68).wf = true by decide) rfl _ HV.out ?_; dsimp only [Option.getD_some, Option.isSome_some]))
  refine HW.out.mono ?_
  rintro e w2 ⟨rfl, r2, k2⟩
  have R2 := Lib.hid r2
  have K2 := Lib.hid k2
  clear r2 k2
  go_wp2_with fail
  go_ret
  exact ⟨rfl, R2.out, K2.out⟩
theorem RMc.setFuel {w : World} {g : Nat} {c : Mc} (h : RMc w g c) (v : Int) : RMc (w.setCell ⟨g, 10, none⟩ (.int .i64 v)) g { c with fuel := v } := hset_same h _
theorem RMc.setIp {w : World} {g : Nat} {c : Mc} (h : RMc w g c) (v : Int) : RMc (w.setCell ⟨g, 5, none⟩ (.int .i64 v)) g { c with ip := v } := hset_same h _
theorem RMc.setSelf {w : World} {g : Nat} {c : Mc} (h : RMc w g c) (v : Int) : RMc (w.setCell ⟨g, 6, none⟩ (.int .i64 v)) g { c with self := v } := hset_same h _
theorem RMc.setHandler {w : World} {g : Nat} {c : Mc} (h : RMc w g c) (v : Int) : RMc (w.setCell ⟨g, 16, none⟩ (.int .i64 v)) g { c with handler := v } := hset_same h _
theorem vm_outcome0 (w : World) (mb : Nat) : Calls Tryz.prog 420 #[.pointer (some ⟨mb, 0, none⟩), .int .i64 0] w fun e w' => e = .returned (.int .i64 0) ∧ w = w' := by
  go_enter Tryz.func420, Tryz.ntmps420
  go_wp2_with fail
  go_ret
  exact ⟨rfl, rfl⟩
theorem DotOk.with {c c' : Mc} {x : Sp} {d : Stk} {n bs : Nat} (h : DotOk c x d n bs) (e : c'.base = c.base ∧ c'.out = c.out) : DotOk c' x d n bs :=
  ⟨h.dep, h.top, by rw [e.1]; exact h.base, h.b2, h.b36, h.n63, by rw [e.2]; exact h.room, h.some⟩
theorem vm_step_dot (X : Nat → Prop) (w : World) (mb s b bb db rb : Nat) (c : Mc) (x : Sp) (d r : Stk) (n bs : Nat) (xt : Int) (h : RVm X w mb s b bb db rb c x d r) (ok : DotOk c x d n bs) (hx : x.mem.cell xt = (68, 0)) (f1 : 1 ≤ c.fuel) (f2 : c.fuel ≤ 1000000000) :
    Calls Tryz.prog 378 #[.pointer (some ⟨mb, 0, none⟩), .int .i64 xt] w fun e w' => e = .returned (.int .i64 0) ∧ RVm X w' mb s b bb db rb { c with fuel := c.fuel - 1, out := c.out ++ (Num.show_ n bs ++ [32]) } x { d with depth := d.depth - 1 } r ∧ Keeps (fun k => k = mb ∨ k = db) w w' := by
  have c10 : w.cell? ⟨mb, 10, none⟩ = some (.int .i64 c.fuel) := cell_of h.mc rfl
  have f10 := h.mc.free 10
  have ks : Keeps (fun k => k = mb) w (w.setCell ⟨mb, 10, none⟩ (.int .i64 (c.fuel - 1))) := Keeps.setCell _ _ _ (fun _ => rfl)
  have H1 := Lib.hid (h.withMc ks (h.mc.setFuel (c.fuel - 1)) ⟨rfl, rfl, rfl, rfl⟩)
  have HE := Lib.hid (vm_enter_dot X _ mb s b bb db rb _ x d r n bs xt H1.out (ok.with (c' := { c with fuel := c.fuel - 1 }) ⟨rfl, rfl⟩) hx)
  have KS := Lib.hid ks
  have d1 : decide (c.fuel ≤ 0) = false := decide_eq_false (by omega)
  clear h ok hx ks
  go_enter Tryz.func378, Tryz.ntmps378
  go_wp2_with fail
  refine HE.out.mono ?_
  rintro e w1 ⟨rfl, r1, k1⟩
  have R1 := Lib.hid r1
  have K1 := Lib.hid ((KS.out.mono (T := fun k => k = mb ∨ k = db) (fun _ _ e => .inl e)).trans k1)
  clear r1 k1
  go_wp2_with fail
  refine (vm_outcome0 w1 mb).mono ?_
  rintro e w2 ⟨rfl, rfl⟩
  go_wp2_with fail
  go_ret
  exact ⟨rfl, R1.out, K1.out⟩
theorem vm_run_dot (X : Nat → Prop) (w : World) (mb s b bb db rb : Nat) (c : Mc) (x : Sp) (d r : Stk) (n bs : Nat) (xt : Int) (h : RVm X w mb s b bb db rb c x d r) (ok : DotOk c x d n bs) (hx : x.mem.cell xt = (68, 0)) (f1 : 1 ≤ c.fuel) (f2 : c.fuel ≤ 1000000000) :
    Calls Tryz.prog 250 #[.pointer (some ⟨mb, 0, none⟩), .int .i64 xt] w fun e w' => e = .returned (.int .i64 0) ∧ RVm X w' mb s b bb db rb { c with ip := 0, self := 0, handler := 0, fuel := c.fuel - 1, out := c.out ++ (Num.show_ n bs ++ [32]) } x { d with depth := d.depth - 1 } r ∧ Keeps (fun k => k = mb ∨ k = db) w w' := by
  have y5 : w.cell? ⟨mb, 5, none⟩ = some (.int .i64 c.ip) := cell_of h.mc rfl
  have y6 : w.cell? ⟨mb, 6, none⟩ = some (.int .i64 c.self) := cell_of h.mc rfl
  have y16 : w.cell? ⟨mb, 16, none⟩ = some (.int .i64 c.handler) := cell_of h.mc rfl
  have f5 := h.mc.free 5
  have f6 := h.mc.free 6
  have f16 := h.mc.free 16
  have k1 : Keeps (fun k => k = mb) w (w.setCell ⟨mb, 5, none⟩ (.int .i64 0)) := Keeps.setCell _ _ _ (fun _ => rfl)
  have k2 := k1.trans (Keeps.setCell (S := fun k => k = mb) _ ⟨mb, 6, none⟩ (.int .i64 0) (fun _ => rfl))
  have k3 := k2.trans (Keeps.setCell (S := fun k => k = mb) _ ⟨mb, 16, none⟩ (.int .i64 0) (fun _ => rfl))
  have hm := ((h.mc.setIp 0).setSelf 0).setHandler 0
  have H1 := Lib.hid (h.withMc k3 hm ⟨rfl, rfl, rfl, rfl⟩)
  have HS := Lib.hid (vm_step_dot X _ mb s b bb db rb _ x d r n bs xt H1.out (ok.with (c' := { c with ip := 0, self := 0, handler := 0 }) ⟨rfl, rfl⟩) hx f1 f2)
  have KS := Lib.hid k3
  clear h ok hx k1 k2 k3 hm
  go_enter Tryz.func250, Tryz.ntmps250
  go_wp2_with fail
  refine HS.out.mono ?_
  rintro e w1 ⟨rfl, r1, k1⟩
  have y5 : w1.cell? ⟨mb, 5, none⟩ = some (.int .i64 0) := cell_of r1.mc rfl
  have R1 := Lib.hid r1
  have K1 := Lib.hid ((KS.out.mono (T := fun k => k = mb ∨ k = db) (fun _ _ e => .inl e)).trans k1)
  clear r1 k1
  go_wp2_with fail
  refine wp_loop_rounds 1 ?_
  rw [rounds_succ]
  go_wp2_with fail
  go_ret
  exact ⟨rfl, R1.out, K1.out⟩
end Go.Proofs.Shed
