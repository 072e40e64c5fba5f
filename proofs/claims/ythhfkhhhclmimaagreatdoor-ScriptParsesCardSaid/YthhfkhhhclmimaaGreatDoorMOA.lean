/- The reader's own cells. No condition. Layer 17: Literal, inner, found, out of definitions. Conditions: the machine and the reader lie in their blocks. Layer 17: Literal, out of definitions. Conditions: the machine and the reader lie in their blocks. -/
import Derived.Test.YthhfkhhhclmimaaGreatDoorMMC
import Derived.Test.YthhfkhhhclmimaaGreatDoorMHA
import Derived.Test.YthhfkhhhclmimaaGreatDoorMWA
set_option linter.unusedVariables false
set_option linter.unusedSimpArgs false
namespace Go.Proofs.Shed
open Go Go.RowKit Go.Proofs.K
/-- The reader's cells: its machine, its source, the lists, the marks, the definition, how far the dictionary was, its maps, what is done behind an error. -/
structure Oc where
  mach : Nat
  src : Nat
  ord : Value
  marks : Value
  comp : Bool
  meth : Bool
  open_ : Wd
  last : Wd
  here : Int
  list : Int
  is : Bool
  prims : Nat
  more : Nat
  reset : Value
def Oc.cells (o : Oc) : Array Value := #[.pointer (some ⟨o.mach, 0, none⟩), .pointer (some ⟨o.src, 0, none⟩), o.ord, o.marks, .bool o.comp, .bool o.meth, .int .i64 o.open_.at_, .int .i64 o.open_.xt, .int .i64 o.open_.flags, .string ⟨o.open_.name.toArray⟩,
  .int .i64 o.last.at_, .int .i64 o.last.xt, .int .i64 o.last.flags, .string ⟨o.last.name.toArray⟩, .int .i64 o.here, .int .i64 o.list, .bool o.is, .map (some o.prims), .map (some o.more), o.reset]
/-- The reader lies in block g. -/
def ROc (w : World) (g : Nat) (o : Oc) : Prop := w.heap[g]? = some (.cells o.cells 59 (0, 0))
theorem ROc.keeps {w w' : World} {g : Nat} {o : Oc} (h : ROc w g o) {S : Nat → Prop} (k : Keeps S w w') (n : ¬ S g) : ROc w' g o := k.heap h n
theorem ROc.c0 {w : World} {g : Nat} {o : Oc} (h : ROc w g o) : w.cell? ⟨g, 0, none⟩ = some (.pointer (some ⟨o.mach, 0, none⟩)) := cell_of h rfl
theorem ROc.c1 {w : World} {g : Nat} {o : Oc} (h : ROc w g o) : w.cell? ⟨g, 1, none⟩ = some (.pointer (some ⟨o.src, 0, none⟩)) := cell_of h rfl
theorem ROc.c2 {w : World} {g : Nat} {o : Oc} (h : ROc w g o) : w.cell? ⟨g, 2, none⟩ = some o.ord := cell_of h rfl
theorem ROc.c4 {w : World} {g : Nat} {o : Oc} (h : ROc w g o) : w.cell? ⟨g, 4, none⟩ = some (.bool o.comp) := cell_of h rfl
theorem ROc.c17 {w : World} {g : Nat} {o : Oc} (h : ROc w g o) : w.cell? ⟨g, 17, none⟩ = some (.map (some o.prims)) := cell_of h rfl
theorem ROc.c18 {w : World} {g : Nat} {o : Oc} (h : ROc w g o) : w.cell? ⟨g, 18, none⟩ = some (.map (some o.more)) := cell_of h rfl
theorem ROc.free {w : World} {g : Nat} {o : Oc} (h : ROc w g o) (i : Nat) : w.frozen? ⟨g, i, none⟩ = false := free_of h
end Go.Proofs.Shed
set_option linter.unusedVariables false
set_option linter.unusedSimpArgs false
set_option maxRecDepth 10000
set_option maxHeartbeats 4000000
namespace Go.Proofs.Shed
open Go Go.RowKit Go.Proofs.K Go.Proofs.Cod
/-- inner: 0 of a word whose code is no inner one. -/
theorem outer_inner0 (X : Nat → Prop) (w : World) (mb s b bb db rb ob : Nat) (c : Mc) (x : Sp) (d r : Stk) (o : Oc) (wd : Wd) (h : RVm X w mb s b bb db rb c x d r) (ho : ROc w ob o) (hm : o.mach = mb) (hn : inn (nameOf (x.mem.cell wd.xt).1) = false) :
    Calls Tryz.prog 249 #[.pointer (some ⟨ob, 0, none⟩), wd.val] w fun e w' => e = .returned (.int .i64 0) ∧ Keeps (fun _ => False) w w' := by
  have ka := Keeps.alloc (fun _ => False) w (.cells #[.int .i64 wd.at_, .int .i64 wd.xt, .int .i64 wd.flags, .string ⟨wd.name.toArray⟩] 53)
  have HA := halloc_at w (.cells #[.int .i64 wd.at_, .int .i64 wd.xt, .int .i64 wd.flags, .string ⟨wd.name.toArray⟩] 53)
  generalize hW : w.alloc (.cells #[.int .i64 wd.at_, .int .i64 wd.xt, .int .i64 wd.flags, .string ⟨wd.name.toArray⟩] 53) = W at ka HA
  have c0 : w.cell? ⟨ob, 0, none⟩ = some (.pointer (some ⟨mb, 0, none⟩)) := by rw [ho.c0, hm]
  have m0 : w.cell? ⟨mb, 0, none⟩ = some (.pointer (some ⟨s, 0, none⟩)) := by rw [h.mc.c0, h.csp]; rfl
  have y0 := fun (q : Stay W) => q.2.cell (ka.cell c0 id) id
  have y1 := fun (q : Stay W) => q.2.cell (ka.cell m0 id) id
  have y2 := fun (q : Stay W) => q.2.cell (ka.cell h.sp.c0 id) id
  have y3 : ∀ (q : Stay W), q.1.cell? ⟨w.heap.size, 1, none⟩ = some (.int .i64 wd.xt) := fun q => q.2.cell (cell_of HA rfl) id
  have hC := Lib.hid fun (q : Stay W) => (mem_cell q.1 b bb x.mem wd.xt ((h.sp.mem.keeps ka id id).keeps q.2 id id)).mono (fun e w' (h : _ ∧ _) => (⟨h.1, h.2 ▸ Keeps.refl (fun _ => False) _⟩ : _ ∧ Keeps (fun _ => False) q.1 w'))
  generalize x.mem.cell wd.xt = q at hC hn
  obtain ⟨v, e⟩ := q
  simp only at hn hC
  have HN := Lib.hid fun V => name_any v V
  generalize nameOf v = nm0 at HN hn
  have HI := Lib.hid fun V => inner_any nm0 V
  rw [hn] at HI
  have HW := Lib.hid hW
  have KA := Lib.hid ka
  unfold Wd.val
  clear h ho hm c0 m0 hW ka HA hn
  go_enter Tryz.func249, Tryz.ntmps249
  go_upto_region 1 with fail
  rw [HW.out]
  clear HW
  refine Go.Proofs.K.wp_region_calm ?calm1a ?calm1b ?_
  case calm1a => kernel_rfl
  case calm1b => kernel_rfl
  repeat ((with_reducible refine wpQuiet_step ?_); intro Kq hKq; go_simp; first | ((with_reducible refine hKq _ ?_); clear hKq Kq) | (refine hKq _ ?_; clear hKq Kq) | (apply Exists.intro; refine ⟨fun _ => ?_, hKq _ ?_⟩; (first | exact K.calm_of (hC.out _)); clear hKq Kq))
  with_reducible refine wpQuiet_nil ?_
  intro v1 hw'
  obtain ⟨⟨wq, kq⟩, hw''⟩ := hw'
  subst hw''
  have KV := Lib.hid (KA.out.trans kq)
  clear kq y0 y1 y2 y3 hC
  go_wp2_with fail
  refine (HN.out _).mono ?_
  rintro e w1 ⟨rfl, k1⟩
  unfold nm
  have K1 := Lib.hid (KV.out.trans k1)
  clear k1
  go_wp2_with fail
  refine (HI.out _).mono ?_
  rintro e w2 ⟨rfl, k2⟩
  have K2 := Lib.hid (K1.out.trans k2)
  clear k2
  go_wp2_with fail
  go_ret
  exact ⟨rfl, K2.out⟩
/-- found: '.', out of a definition. -/
theorem outer_found_dot (X : Nat → Prop) (w : World) (mb s b bb db rb ob : Nat) (c : Mc) (x : Sp) (d r : Stk) (o : Oc) (wd : Wd) (n bs : Nat) (h : RVm X w mb s b bb db rb c x d r) (ho : ROc w ob o) (hm : o.mach = mb) (hcp : o.comp = false) (ok : DotOk c x d n bs) (hx : x.mem.cell wd.xt = (68, 0)) (f1 : 1 ≤ c.fuel) (f2 : c.fuel ≤ 1000000000) :
    Calls Tryz.prog 143 #[.pointer (some ⟨ob, 0, none⟩), wd.val] w fun e w' => e = .returned (.int .i64 0) ∧ RVm X w' mb s b bb db rb { c with ip := 0, self := 0, handler := 0, fuel := c.fuel - 1, out := c.out ++ (Num.show_ n bs ++ [32]) } x { d with depth := d.depth - 1 } r ∧ Keeps (fun k => k = mb ∨ k = db) w w' := by
  have ka := Keeps.alloc (fun _ => False) w (.cells #[.int .i64 wd.at_, .int .i64 wd.xt, .int .i64 wd.flags, .string ⟨wd.name.toArray⟩] 53)
  have HA := halloc_at w (.cells #[.int .i64 wd.at_, .int .i64 wd.xt, .int .i64 wd.flags, .string ⟨wd.name.toArray⟩] 53)
  generalize hW : w.alloc (.cells #[.int .i64 wd.at_, .int .i64 wd.xt, .int .i64 wd.flags, .string ⟨wd.name.toArray⟩] 53) = W at ka HA
  have HR := Lib.hid (h.keeps0 ka)
  have HO := Lib.hid (ho.keeps ka id)
  have HI := Lib.hid (outer_inner0 X W mb s b bb db rb ob c x d r o wd HR.out HO.out hm (by rw [hx]; decide +kernel))
  have HRun := Lib.hid fun V R => vm_run_dot X V mb s b bb db rb c x d r n bs wd.xt R ok hx f1 f2
  have y0 : W.cell? ⟨w.heap.size, 0, none⟩ = some (.int .i64 wd.at_) := cell_of HA rfl
  have y1 : W.cell? ⟨w.heap.size, 1, none⟩ = some (.int .i64 wd.xt) := cell_of HA rfl
  have y2 : W.cell? ⟨w.heap.size, 2, none⟩ = some (.int .i64 wd.flags) := cell_of HA rfl
  have y3 : W.cell? ⟨w.heap.size, 3, none⟩ = some (.string ⟨wd.name.toArray⟩) := cell_of HA rfl
  have HM := Lib.hid hm
  have HCP := Lib.hid hcp
  have HW := Lib.hid hW
  have KA := Lib.hid ka
  have HAA := Lib.hid HA
  unfold Wd.val at HI ⊢
  clear h ho hm hcp ok hx hW ka HA
  generalize Num.show_ (n : Int) (bs : Int) = t at HRun ⊢
  go_enter Tryz.func143, Tryz.ntmps143
  go_upto_region 1 with fail
  rw [HW.out]
  clear HW
  go_wp2_with fail
  refine HI.out.mono ?_
  rintro e w1 ⟨rfl, k1⟩
  have R1 := Lib.hid (HR.out.keeps0 k1)
  have O1 := Lib.hid (HO.out.keeps k1 id)
  have K1 := Lib.hid (KA.out.trans k1)
  have x1 : w1.cell? ⟨w.heap.size, 1, none⟩ = some (.int .i64 wd.xt) := k1.cell y1 id
  have x2 : w1.cell? ⟨w.heap.size, 2, none⟩ = some (.int .i64 wd.flags) := k1.cell y2 id
  have o4 : w1.cell? ⟨ob, 4, none⟩ = some (.bool false) := by rw [O1.out.c4, HCP.out]
  have o0 : w1.cell? ⟨ob, 0, none⟩ = some (.pointer (some ⟨mb, 0, none⟩)) := by rw [O1.out.c0, HM.out]
  clear k1 y0 y1 y2 y3 HI HR HO KA HAA
  go_wp2_with fail
  go_still_tail 6, (by kernel_rfl)
  change wpList _ _ _ _ _ w1.drew
  go_wp2_with fail
  refine (HRun.out w1.drew (R1.out.keeps0 (Keeps.drew _ _))).mono ?_
  rintro e w2 ⟨rfl, r2, k2⟩
  have R2 := Lib.hid r2
  have K2 := Lib.hid (((K1.out.mono (T := fun k => k = mb ∨ k = db) (fun _ _ e => e.elim)).trans (Keeps.drew _ _)).trans k2)
  clear r2 k2
  go_wp2_with fail
  go_ret
  exact ⟨rfl, R2.out, K2.out⟩
end Go.Proofs.Shed
set_option linter.unusedVariables false
set_option linter.unusedSimpArgs false
set_option maxRecDepth 10000
set_option maxHeartbeats 4000000
namespace Go.Proofs.Shed
open Go Go.RowKit Go.Proofs.K Go.Proofs.Cod
/-- The data stack was pushed on. -/
theorem RVm.withPush {X : Nat → Prop} {w w' : World} {mb s b bb db rb : Nat} {c : Mc} {x : Sp} {d d' r : Stk} {m : Mem} (h : RVm X w mb s b bb db rb c x d r) (k : Keeps (fun g => g = db ∨ g = bb) w w') (hd : RStk w' db b d') (hm : RMem w' b bb m) (hs : m.size = x.mem.size) : RVm X w' mb s b bb db rb c { x with mem := m } d' r := by
  obtain ⟨⟨n1, n2, n3, n4, n5⟩, ⟨m1, m2, m3, m4⟩, ⟨r1, r2, r3⟩, ⟨e1, e2, e3, e4, e5⟩⟩ := h.ne
  have no : ∀ {g : Nat}, g ≠ db → g ≠ bb → ¬ (g = db ∨ g = bb) := fun h1 h2 e => by rcases e with e | e; exact h1 e; exact h2 e
  refine ⟨h.mc.keeps k (no n4 n3), h.csp, h.cdk, h.crk, ⟨k.heap h.sp.head (no (fun e => m1 e.symm) h.sp.ne2), hm, h.sp.ne1, h.sp.ne2, ?_⟩, hd, h.rk.keeps k (no (fun e => m4 e.symm) r3), h.does.keeps k (no e4 e3) (fun g hg => no (h.nx g hg).2.2.2.1 (h.nx g hg).2.2.1), h.nx, ⟨⟨n1, n2, n3, n4, n5⟩, ⟨m1, m2, m3, m4⟩, ⟨r1, r2, r3⟩, ⟨e1, e2, e3, e4, e5⟩⟩⟩
  obtain ⟨o1, o2, o3, o4⟩ := h.sp.ok
  exact ⟨o1, o2, o3, by show x.to ≤ (m.size : Int); rw [hs]; exact o4⟩
theorem push_size (m : Mem) (s : Stk) (L : List Int) : (Stk.push m s L).1.size = m.size := by
  unfold Stk.push
  split
  · rfl
  · exact Stk.pushN_size _ _ _
theorem outer_literal (X : Nat → Prop) (w : World) (mb s b bb db rb ob : Nat) (c : Mc) (x : Sp) (d r : Stk) (o : Oc) (a : Option Addr) (lc : Nat) (L : List Int) (h : RVm X w mb s b bb db rb c x d r) (ho : ROc w ob o) (hm : o.mach = mb) (hcp : o.comp = false) (hA : ArgI w a L) (hl : L.length ≤ 1000) (hne : ∀ g, blk a = some g → g ≠ db ∧ g ≠ bb) :
    Calls Tryz.prog 28 #[.pointer (some ⟨ob, 0, none⟩), .slice a L.length lc] w fun e w' => e = .returned (.int .i64 (Stk.push x.mem d L).2.2) ∧ RVm X w' mb s b bb db rb c { x with mem := (Stk.push x.mem d L).1 } (Stk.push x.mem d L).2.1 r ∧ Keeps (fun k => k = db ∨ k = bb) w w' := by
  have HP := Lib.hid (stk_push w db b bb d x.mem a lc L h.dk h.sp.mem ⟨h.ne.2.1.2.1, h.ne.2.1.2.2.1⟩ hA (by omega) hne)
  have HS := Lib.hid (push_size x.mem d L)
  generalize Stk.push x.mem d L = q at HP HS ⊢
  have o4 : w.cell? ⟨ob, 4, none⟩ = some (.bool false) := by rw [ho.c4, hcp]
  have o0 : w.cell? ⟨ob, 0, none⟩ = some (.pointer (some ⟨mb, 0, none⟩)) := by rw [ho.c0, hm]
  have m1 : w.cell? ⟨mb, 1, none⟩ = some (.pointer (some ⟨db, 0, none⟩)) := by rw [h.mc.c1, h.cdk]; rfl
  have HR := Lib.hid h
  clear h ho hm hcp hA hne
  go_enter Tryz.func28, Tryz.ntmps28
  go_wp2_with fail
  refine HP.out.mono ?_
  rintro e w1 ⟨rfl, m2, d2, k2⟩
  have R2 := Lib.hid (HR.out.withPush k2 d2 m2 HS.out)
  have K2 := Lib.hid k2
  clear m2 d2 k2
  go_wp2_with fail
  go_ret
  exact ⟨rfl, R2.out, K2.out⟩
end Go.Proofs.Shed
