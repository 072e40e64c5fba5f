/- Layer 19: of. Conditions: the Forth lies in its blocks. Layer 18: New. Conditions: the configuration may be, and there is room for all. Layer 18: New. Conditions: the configuration may be, and there is room for all. -/
import Derived.Test.YthhfkhhhclmimaaGreatDoorMWOutD
import Derived.Test.YthhfkhhhclmimaaGreatDoorMOE
set_option linter.unusedVariables false
set_option linter.unusedSimpArgs false
set_option maxRecDepth 10000
set_option maxHeartbeats 4000000
namespace Go.Proofs.Shed
open Go Go.RowKit Go.Proofs.K Go.Proofs.Cod

theorem RMc.c10 {w : World} {g : Nat} {c : Mc} (h : RMc w g c) : w.cell? ⟨g, 10, none⟩ = some (.int .i64 c.fuel) := cell_of h rfl
theorem RMc.c12 {w : World} {g : Nat} {c : Mc} (h : RMc w g c) : w.cell? ⟨g, 12, none⟩ = some (.string ⟨c.inp.toArray⟩) := cell_of h rfl
theorem RMc.c13 {w : World} {g : Nat} {c : Mc} (h : RMc w g c) : w.cell? ⟨g, 13, none⟩ = some (.bool c.over) := cell_of h rfl
theorem set7 {w : World} {q : Nat} {x0 x1 x2 x3 x4 x5 x6 : Value} {t : TypeId} (h : w.heap[q]? = some (.cells #[x0, x1, x2, x3, x4, x5, x6] t (0, 0))) (a b c d e f g : Value) :
    (((((((w.setCell ⟨q, 0, none⟩ a).setCell ⟨q, 1, none⟩ b).setCell ⟨q, 2, none⟩ c).setCell ⟨q, 3, none⟩ d).setCell ⟨q, 4, none⟩ e).setCell ⟨q, 5, none⟩ f).setCell ⟨q, 6, none⟩ g).heap[q]? = some (.cells #[a, b, c, d, e, f, g] t (0, 0)) :=
  hset_same (i := 6) (hset_same (i := 5) (hset_same (i := 4) (hset_same (i := 3) (hset_same (i := 2) (hset_same (i := 1) (hset_same (i := 0) h a) b) c) d) e) f) g
theorem keeps_set7 (w : World) (q : Nat) (a b c d e f g : Value) : Keeps (fun k => k = q) w (((((((w.setCell ⟨q, 0, none⟩ a).setCell ⟨q, 1, none⟩ b).setCell ⟨q, 2, none⟩ c).setCell ⟨q, 3, none⟩ d).setCell ⟨q, 4, none⟩ e).setCell ⟨q, 5, none⟩ f).setCell ⟨q, 6, none⟩ g) := by
  have kk : ∀ (V : World) (i : Nat) (v : Value), Keeps (fun k => k = q) V (V.setCell ⟨q, i, none⟩ v) := fun V i v => Keeps.setCell V ⟨q, i, none⟩ v (fun _ => rfl)
  exact ((((((kk _ 0 a).trans (kk _ 1 b)).trans (kk _ 2 c)).trans (kk _ 3 d)).trans (kk _ 4 e)).trans (kk _ 5 f)).trans (kk _ 6 g)
/-- What came of a run, as a value. -/
def resV (code : Int) (out : List UInt8) (sa : Option Addr) (n sc : Nat) (left : Int) (inp : List UInt8) (here : Int) (over : Bool) : Value :=
  .agg #[.int .i64 code, .string ⟨out.toArray⟩, .slice sa n sc, .int .i64 left, .string ⟨inp.toArray⟩, .int .i64 here, .bool over]
theorem run_of (X : Nat → Prop) (w : World) (mb s b bb db rb ob fb : Nat) (c : Mc) (x : Sp) (d r : Stk) (o : Oc) (code : Int) (h : RVm X w mb s b bb db rb c x d r) (ho : ROc w ob o) (hm : o.mach = mb) (hf : w.cell? ⟨fb, 0, none⟩ = some (.pointer (some ⟨ob, 0, none⟩))) (hd : x.mem.size ≤ 4194304) :
    Calls Tryz.prog 193 #[.pointer (some ⟨fb, 0, none⟩), .int .i64 code] w fun e w' => ∃ sa sc, e = .returned (resV code c.out sa (Stk.all x.mem d).length sc c.fuel c.inp x.here c.over) ∧ OwnI w w' sa sc (Stk.all x.mem d) ∧ Keeps (fun _ => False) w w' := by
  have HR := Lib.hid h
  have hz := lt_of_heap ho
  have hz2 := lt_of_heap h.mc
  have hz3 := World.block_lt_of_cell? w _ hf
  have NZ := Lib.hid (show fb < w.heap.size ∧ ob < w.heap.size ∧ mb < w.heap.size from ⟨hz3, hz, hz2⟩)
  have H0 := Lib.hid (show w.cell? ⟨ob, 0, none⟩ = some (.pointer (some ⟨mb, 0, none⟩)) by rw [ho.c0]; exact congrArg (fun z => some (Value.pointer (some ⟨z, 0, none⟩))) hm)
  obtain ⟨V, hV⟩ : ∃ V, V = w.alloc (.cells #[.int .i64 0, .string ⟨#[]⟩, .slice none 0 0, .int .i64 0, .string ⟨#[]⟩, .int .i64 0, .bool false] 27) := ⟨_, rfl⟩
  have kV : Keeps (fun _ => False) w V := by rw [hV]; exact Keeps.alloc _ _ _
  have z0 : V.heap[w.heap.size]? = some (.cells #[.int .i64 0, .string ⟨#[]⟩, .slice none 0 0, .int .i64 0, .string ⟨#[]⟩, .int .i64 0, .bool false] 27 (0, 0)) := by rw [hV]; exact halloc_at _ _
  have HV := Lib.hid hV.symm
  have HZ := Lib.hid z0
  have KV := Lib.hid kV
  have F0 := Lib.hid hf
  have kVc := kV
  have R := Lib.hid (HR.out.keeps0 kV)
  have m11 := R.out.mc.c11
  have m1 : V.cell? ⟨mb, 1, none⟩ = some (.pointer (some ⟨db, 0, none⟩)) := by rw [R.out.mc.c1, R.out.cdk]; rfl
  clear h ho hf hm kV z0 hV hz hz2 hz3
  have f0 := kVc.cell F0.out id
  have o0 := kVc.cell H0.out id
  have m10 := R.out.mc.c10
  have m12 := R.out.mc.c12
  have m13 := R.out.mc.c13
  have m0 : V.cell? ⟨mb, 0, none⟩ = some (.pointer (some ⟨s, 0, none⟩)) := by rw [R.out.mc.c0, R.out.csp]; rfl
  have m11 := R.out.mc.c11
  have m1 : V.cell? ⟨mb, 1, none⟩ = some (.pointer (some ⟨db, 0, none⟩)) := by rw [R.out.mc.c1, R.out.cdk]; rfl
  have HA := Lib.hid fun W (k : Keeps (fun _ => False) V W) => stk_all W db b bb d x.mem (R.out.dk.keeps k id) (R.out.sp.mem.keeps k id id)
  have HH := Lib.hid fun W (k : Keeps (fun _ => False) V W) => sp_here W s b bb x (R.out.sp.keeps k id id id)
  clear kVc
  unfold resV
  go_enter Tryz.func193, Tryz.ntmps193
  go_upto_region 1 with fail
  rw [HV.out]
  obtain ⟨q, hq⟩ : ∃ q, q = w.heap.size := ⟨_, rfl⟩
  have HQ := Lib.hid (Nat.le_of_eq hq.symm)
  have n1 : fb ≠ q := by have := NZ.out; omega
  have n2 : ob ≠ q := by have := NZ.out; omega
  have n3 : mb ≠ q := by have := NZ.out; omega
  have HZ2 := HZ.out
  rw [← hq] at HZ2 ⊢
  replace HZ2 := Lib.hid HZ2
  clear HZ hq
  go_wp2_with fail
  go_region_held3 (fun w' => w'.cell? ⟨fb, 0, none⟩ = some (.pointer (some ⟨ob, 0, none⟩)) ∧ w'.cell? ⟨ob, 0, none⟩ = some (.pointer (some ⟨mb, 0, none⟩)) ∧ w'.cell? ⟨mb, 0, none⟩ = some (.pointer (some ⟨s, 0, none⟩)) ∧ w'.cell? ⟨mb, 1, none⟩ = some (.pointer (some ⟨db, 0, none⟩)) ∧ w'.cell? ⟨mb, 10, none⟩ = some (.int .i64 c.fuel) ∧ w'.cell? ⟨mb, 11, none⟩ = some (.string ⟨c.out.toArray⟩) ∧ w'.cell? ⟨mb, 12, none⟩ = some (.string ⟨c.inp.toArray⟩) ∧ w'.cell? ⟨mb, 13, none⟩ = some (.bool c.over))
    (first | go_keep | exact ⟨K7.out.cell e1 n1, K7.out.cell e2 n2, K7.out.cell e3 n3, K7.out.cell e4 n3, K7.out.cell e5 n3, K7.out.cell e6 n3, K7.out.cell e7 n3, K7.out.cell e8 n3⟩)
    (first
      | (go_at_call 20; refine (HA.out V.drew (Keeps.drew _ _)).mono ?_; rintro e w4 ⟨sa, sc, rfl, o4, k4⟩; dsimp only
         have ks := (Keeps.drew (fun _ => False) V).trans k4
         have e1 := ks.cell f0 id
         have e2 := ks.cell o0 id
         have e3 := ks.cell m0 id
         have e4 := ks.cell m1 id
         have e5 := ks.cell m10 id
         have e6 := ks.cell m11 id
         have e7 := ks.cell m12 id
         have e8 := ks.cell m13 id
         have hz := ks.heap HZ2.out id
         have K7 := Lib.hid (keeps_set7 w4 q (.int .i64 code) (.string ⟨c.out.toArray⟩) (.slice sa (Stk.all x.mem d).length sc) (.int .i64 c.fuel) (.string ⟨c.inp.toArray⟩) (.int .i64 x.here) (.bool c.over))
         have H7 := Lib.hid (set7 hz (.int .i64 code) (.string ⟨c.out.toArray⟩) (.slice sa (Stk.all x.mem d).length sc) (.int .i64 c.fuel) (.string ⟨c.inp.toArray⟩) (.int .i64 x.here) (.bool c.over))
         have z0 : w4.cell? ⟨q, 0, none⟩ = some (.int .i64 0) := cell_of hz rfl
         have q0 := free_of (i := 0) hz
         have z1 : w4.cell? ⟨q, 1, none⟩ = some (.string ⟨#[]⟩) := cell_of hz rfl
         have q1 := free_of (i := 1) hz
         have z2 : w4.cell? ⟨q, 2, none⟩ = some (.slice none 0 0) := cell_of hz rfl
         have q2 := free_of (i := 2) hz
         have z3 : w4.cell? ⟨q, 3, none⟩ = some (.int .i64 0) := cell_of hz rfl
         have q3 := free_of (i := 3) hz
         have z4 : w4.cell? ⟨q, 4, none⟩ = some (.string ⟨#[]⟩) := cell_of hz rfl
         have q4 := free_of (i := 4) hz
         have z5 : w4.cell? ⟨q, 5, none⟩ = some (.int .i64 0) := cell_of hz rfl
         have q5 := free_of (i := 5) hz
         have z6 : w4.cell? ⟨q, 6, none⟩ = some (.bool false) := cell_of hz rfl
         have q6 := free_of (i := 6) hz)
      | (go_at_call 35; refine (HH.out w4 ks).mono ?_; rintro e w5 ⟨rfl, rfl⟩; dsimp only))
  have K4 := Lib.hid ((KV.out.trans ks).trans' K7.out (fun i hi e => by have e : i = q := e; have := HQ.out; omega))
  have O4 := Lib.hid (OwnI.keeps (W := w) ⟨o4.1, fun g e => Nat.le_trans KV.out.size (o4.2 g e)⟩ K7.out (fun g e e' => by have h1 : V.heap.size ≤ g := o4.2 g e; have h2 := lt_of_heap HZ2.out; have e' : g = q := e'; omega))
  generalize (((((((w4.setCell ⟨q, 0, none⟩ (.int .i64 code)).setCell ⟨q, 1, none⟩ (.string ⟨c.out.toArray⟩)).setCell ⟨q, 2, none⟩ (.slice sa (Stk.all x.mem d).length sc)).setCell ⟨q, 3, none⟩ (.int .i64 c.fuel)).setCell ⟨q, 4, none⟩ (.string ⟨c.inp.toArray⟩)).setCell ⟨q, 5, none⟩ (.int .i64 x.here)).setCell ⟨q, 6, none⟩ (.bool c.over)) = V7 at K7 H7 K4 O4 ⊢
  clear z0 z1 z2 z3 z4 z5 z6 q0 q1 q2 q3 q4 q5 q6 e1 e2 e3 e4 e5 e6 e7 e8 hz ks o4 k4
  have z0 := cell_of (i := 0) H7.out rfl
  have z1 := cell_of (i := 1) H7.out rfl
  have z2 := cell_of (i := 2) H7.out rfl
  have z3 := cell_of (i := 3) H7.out rfl
  have z4 := cell_of (i := 4) H7.out rfl
  have z5 := cell_of (i := 5) H7.out rfl
  have z6 := cell_of (i := 6) H7.out rfl
  go_wp2_with fail
  exact bodyPost_ret (v := .agg #[.int .i64 code, .string ⟨c.out.toArray⟩, .slice sa (Stk.all x.mem d).length sc, .int .i64 c.fuel, .string ⟨c.inp.toArray⟩, .int .i64 x.here, .bool c.over]) (by simp [results, Tryz.results193, go_sem, z0, z1, z2, z3, z4, z5, z6]) rfl ⟨_, _, rfl, O4.out, K4.out⟩
end Go.Proofs.Shed
set_option linter.unusedVariables false
set_option linter.unusedSimpArgs false
set_option maxRecDepth 10000
set_option maxHeartbeats 4000000
namespace Go.Proofs.Shed
open Go Go.RowKit Go.Proofs.K Go.Proofs.Cod

/-- A map of functions, in block b, that w0 did not have. -/
def DictP (w0 w : World) (b n : Nat) (f : List UInt8 → Option Value) : Prop := MapIs sk w b n f ∧ w0.heap.size ≤ b ∧ Keeps (fun _ => False) w0 w
theorem DictP.made (w : World) : DictP w (w.alloc (.map #[] 0)) w.heap.size 0 (fun _ => none) := ⟨MapIs.made sk w, Nat.le_refl _, Keeps.alloc _ _ _⟩
theorem wpList_dictP {w0 : World} (w : World) {ops : Array Oper} {rest : List Oper} {o : Oper} {a : Act} {Q : Exit → Act → World → Prop} (hg : o.guard = none) (m x v : Operand) (hop : o.op = Op.mapUpdate 268 m x v ∨ o.op = Op.insert 268 m x v) (b n : Nat) (f : List UInt8 → Option Value)
    (hm : a.eval m = .map (some b)) (hown : DictP w0 w b n f) (hn : n < 1000) (s : List UInt8) (hs : s.length ≤ 1000) (val : Value) (hx : a.eval x = .string ⟨s.toArray⟩) (hv : a.eval v = val)
    (hK : ∀ w', DictP w0 w' b (n + 1) (upd f s val) → wpList Tryz.prog ops Q rest (a.put o.dst undef) w') : wpList Tryz.prog ops Q (o :: rest) a w := by
  obtain ⟨h1, h3, h4⟩ := hown
  refine wpList_put sk w hg m x v 268 hop _ Tryz.underlying268 b n f hm h1 (by unfold maxLen; omega) s (Nat.le_trans hs (by unfold maxLen; omega)) val hx hv ?_
  intro w' h5 h6
  exact hK w' ⟨h5, h3, h4.trans' h6 (fun i hi e => by
    have e : i = b := e
    omega)⟩
/-- The words for objects: what each does. -/
def fput (K : List UInt8 → Option Nat) (x : List UInt8) (k : Nat) : List UInt8 → Option Nat := fun y => if y = x then some k else K y
theorem fput_is {f : List UInt8 → Option Value} {K : List UInt8 → Option Nat} {s : List UInt8} (x : List UInt8) (k : Nat) (h : f s = (K s).map fnV) : (upd f x (fnV k)) s = (fput K x k s).map fnV := by
  unfold upd fput
  by_cases e : s = x
  · rw [if_pos e, if_pos e]; rfl
  · rw [if_neg e, if_neg e]; exact h
def oopK : List UInt8 → Option Nat := (fput (fput (fput (fput (fput (fput (fput (fput (fput (fput (fput (fput (fun _ => none) [99, 108, 97, 115, 115] 160) [101, 110, 100, 99, 108, 97, 115, 115] 161) [105, 118, 97, 114] 162) [109, 101, 116, 104, 111, 100] 163) [114, 101, 100, 101, 102, 105, 110, 101] 164) [101, 110, 100, 109] 165) [105, 110, 116, 101, 114, 102, 97, 99, 101] 166) [105, 109, 112, 108, 101, 109, 101, 110, 116, 115] 167) [45, 62] 168) [58, 58] 169) [115, 117, 112, 101, 114] 170) [111, 98, 106, 101, 99, 116] 171)
def oopF : List UInt8 → Option Value := (upd (upd (upd (upd (upd (upd (upd (upd (upd (upd (upd (upd (fun _ => none) [99, 108, 97, 115, 115] (fnV 160)) [101, 110, 100, 99, 108, 97, 115, 115] (fnV 161)) [105, 118, 97, 114] (fnV 162)) [109, 101, 116, 104, 111, 100] (fnV 163)) [114, 101, 100, 101, 102, 105, 110, 101] (fnV 164)) [101, 110, 100, 109] (fnV 165)) [105, 110, 116, 101, 114, 102, 97, 99, 101] (fnV 166)) [105, 109, 112, 108, 101, 109, 101, 110, 116, 115] (fnV 167)) [45, 62] (fnV 168)) [58, 58] (fnV 169)) [115, 117, 112, 101, 114] (fnV 170)) [111, 98, 106, 101, 99, 116] (fnV 171))
theorem oopF_is (s : List UInt8) : oopF s = (oopK s).map fnV := (fput_is _ _ (fput_is _ _ (fput_is _ _ (fput_is _ _ (fput_is _ _ (fput_is _ _ (fput_is _ _ (fput_is _ _ (fput_is _ _ (fput_is _ _ (fput_is _ _ (fput_is _ _ rfl))))))))))))
theorem hsf (a : Addr) (fn : Fn) (first cap : Array Value) (w : World) : (store a (.func fn first cap)).run Tryz.prog w = stored Tryz.prog w a (.func fn first cap) .plain := run_store _ _ _ _ _ rfl
/-- Blocks that were not there. -/
def Fresh8 (w : World) (a b c d e f g h : Nat) : Prop := (w.heap.size ≤ a ∧ w.heap.size ≤ b ∧ w.heap.size ≤ c ∧ w.heap.size ≤ d) ∧ w.heap.size ≤ e ∧ w.heap.size ≤ f ∧ w.heap.size ≤ g ∧ w.heap.size ≤ h
theorem VmPost.rvm {dict data ret slots hz : Int} {inp : List UInt8} {y : Sp} {root base list caught : Int} {w w' : World} {e : Ending} (h : VmPost dict data ret slots hz inp y root base list caught w e w') :
    ∃ (mb nb pb s b bb db rb hb : Nat) (X : Nat → Prop), e = .returned (.tuple #[.pointer (some ⟨mb, 0, none⟩), .int .i64 0]) ∧ RVm X w' mb s b bb db rb ⟨some s, some db, some rb, some hb, nb, 0, 0, root, list, slots, 0, [], inp, false, base, caught, 0, pb⟩ y ⟨dict, data, 0, -3, -4⟩ ⟨dict + data * 8, ret, 0, -5, -6⟩ ∧
      w'.heap[hb]? = some (.cells #[.pointer (some ⟨b, 0, none⟩), .int .i64 (dict + data * 8 + ret * 8), .int .i64 (dict + data * 8 + ret * 8 + hz)] 298 (0, 0)) ∧ (∀ g, X g → g < w'.heap.size) ∧ Fresh8 w mb s b bb db rb hb pb ∧ Keeps (fun _ => False) w w' := by
  obtain ⟨mb, nb, pb, s, b, bb, db, rb, hb, lo, hi, rfl, h1, h2, h3, h4, h5, h6, h7, ⟨l1, l2, l3, l4⟩, h8, h9, h10, h11, h12, n1, n2, n3, n4, k⟩ := h
  have hlt := lt_of_heap h5
  have hpb : pb ≠ bb := by
    obtain ⟨n, g, _, hmm, _⟩ := h6
    intro e
    subst e
    exact MapIs.noRow hmm _ _ _ h2.mem.rest
  refine ⟨mb, nb, pb, s, b, bb, db, rb, hb, fun g => lo ≤ g ∧ g < hi, rfl, ⟨h1, rfl, rfl, rfl, h2, h3, h4, h6, ?_, ?_⟩, h5, ?_, (by unfold Fresh8; omega), k⟩
  · intro g hg
    have hg : lo ≤ g ∧ g < hi := hg
    omega
  · show (mb ≠ s ∧ mb ≠ b ∧ mb ≠ bb ∧ mb ≠ db ∧ mb ≠ rb) ∧ (db ≠ s ∧ db ≠ b ∧ db ≠ bb ∧ db ≠ rb) ∧ (rb ≠ s ∧ rb ≠ b ∧ rb ≠ bb) ∧ (pb ≠ mb ∧ pb ≠ s ∧ pb ≠ bb ∧ pb ≠ db ∧ pb ≠ rb)
    omega
  · intro g hg
    have hg : lo ≤ g ∧ g < hi := hg
    omega
/-- The words that a reader is given: each does what the name's function does, of the Forth in block fb. -/
def Closes (w : World) (lo fb : Nat) (left : List UInt8 → Bool) (f : List UInt8 → Option Value) : Prop :=
  ∀ s, match oopK s with
    | none => f s = none
    | some k => if left s then f s = none else ∃ g t, f s = some (.func (.func 172) #[] #[.pointer (some ⟨g, 0, none⟩), .pointer (some ⟨fb, 0, none⟩)]) ∧ lo ≤ g ∧ w.heap[g]? = some (.cells #[fnV k] t (0, 0))
theorem fput_len {K : List UInt8 → Option Nat} {x : List UInt8} {k : Nat} {s : List UInt8} (h : fput K x k s ≠ none) (hx : x.length ≤ 20) (hK : K s ≠ none → s.length ≤ 20) : s.length ≤ 20 := by
  unfold fput at h
  by_cases e : s = x
  · rw [e]; exact hx
  · rw [if_neg e] at h; exact hK h
theorem oopK_len {s : List UInt8} : oopK s ≠ none → s.length ≤ 20 := (fun h => fput_len h (by decide) (fun h => fput_len h (by decide) (fun h => fput_len h (by decide) (fun h => fput_len h (by decide) (fun h => fput_len h (by decide) (fun h => fput_len h (by decide) (fun h => fput_len h (by decide) (fun h => fput_len h (by decide) (fun h => fput_len h (by decide) (fun h => fput_len h (by decide) (fun h => fput_len h (by decide) (fun h => fput_len h (by decide) (fun h => absurd rfl h)))))))))))))
theorem Closes.keeps {w w' : World} {lo fb : Nat} {left : List UInt8 → Bool} {f : List UInt8 → Option Value} (h : Closes w lo fb left f) {S : Nat → Prop} (k : Keeps S w w') (hS : ∀ g, lo ≤ g → ¬ S g) : Closes w' lo fb left f := by
  intro s
  have hs := h s
  cases hk : oopK s with
  | none => simp only [hk] at hs ⊢; exact hs
  | some n =>
    simp only [hk] at hs ⊢
    split
    · rename_i hl; rw [if_pos hl] at hs; exact hs
    · rename_i hl
      rw [if_neg hl] at hs
      obtain ⟨g, t, h1, h2, h3⟩ := hs
      exact ⟨g, t, h1, h2, k.heap h3 (hS g h2)⟩
theorem Closes.start (w : World) (lo fb : Nat) : Closes w lo fb (fun s => (oopF s).isSome) (fun _ => none) := by
  intro s
  cases hk : oopK s with
  | none => rfl
  | some n =>
    have : (oopF s).isSome = true := by rw [oopF_is, hk]; rfl
    show if (oopF s).isSome = true then _ else _
    rw [if_pos this]
theorem Closes.step {w : World} {lo fb : Nat} {left : List UInt8 → Bool} {f : List UInt8 → Option Value} (h : Closes w lo fb left f) (x : List UInt8) (n : Nat) (hx : oopK x = some n) (g : Nat) (t : TypeId) (hg : lo ≤ g) (hc : w.heap[g]? = some (.cells #[fnV n] t (0, 0))) :
    Closes w lo fb (fun y => left y && !decide (y = x)) (upd f x (.func (.func 172) #[] #[.pointer (some ⟨g, 0, none⟩), .pointer (some ⟨fb, 0, none⟩)])) := by
  intro s
  have hs := h s
  unfold upd
  by_cases e : s = x
  · subst e
    simp only [hx]
    rw [if_neg (by simp)]
    exact ⟨g, t, by simp, hg, hc⟩
  · rw [if_neg e]
    have e2 : decide (s = x) = false := decide_eq_false e
    simp only [e2, Bool.not_false, Bool.and_true]
    exact hs
theorem Closes.done {w : World} {lo fb : Nat} {left : List UInt8 → Bool} {f : List UInt8 → Option Value} (h : Closes w lo fb left f) (hl : ∀ x, x.length ≤ 20 → left x = false) : Closes w lo fb (fun _ => false) f := by
  intro s
  have hs := h s
  cases hk : oopK s with
  | none => simp only [hk] at hs ⊢; exact hs
  | some n =>
    simp only [hk] at hs ⊢
    rw [if_neg (by rw [hl s (oopK_len (by rw [hk]; exact fun e => by cases e))]; exact fun e => by cases e)] at hs
    exact hs
theorem Closes.low {w : World} {lo fb : Nat} {left : List UInt8 → Bool} {f : List UInt8 → Option Value} (h : Closes w lo fb left f) (lo' : Nat) (hl : lo' ≤ lo) : Closes w lo' fb left f := by
  intro s
  have hs := h s
  cases hk : oopK s with
  | none => simp only [hk] at hs ⊢; exact hs
  | some n =>
    simp only [hk] at hs ⊢
    split
    · rename_i hl; rw [if_pos hl] at hs; exact hs
    · rename_i hl
      rw [if_neg hl] at hs
      obtain ⟨g, t, h1, h2, h3⟩ := hs
      exact ⟨g, t, h1, by omega, h3⟩
theorem over_none (f : List UInt8 → Option Value) : over f (fun _ => none) = f := by
  funext s
  unfold over
  cases f s <;> rfl
theorem al5 (w : World) (o0 o1 o2 o3 o4 : Obj) : ∃ W, W = ((((w.alloc o0).alloc o1).alloc o2).alloc o3).alloc o4 ∧ W.heap[w.heap.size]? = some o0 ∧ W.heap[w.heap.size + 1]? = some o1 ∧ W.heap[w.heap.size + 1 + 1]? = some o2 ∧ W.heap[w.heap.size + 1 + 1 + 1]? = some o3 ∧ W.heap[w.heap.size + 1 + 1 + 1 + 1]? = some o4 ∧
    W.heap.size = w.heap.size + 5 ∧ Keeps (fun _ => False) w W := by
  refine ⟨_, rfl, ?_, ?_, ?_, ?_, ?_, ?_, ?_⟩
  · exact older_alloc (older_alloc (older_alloc (older_alloc (halloc_at _ _))))
  · exact older_alloc (older_alloc (older_alloc (last_alloc (by simp only [World.size_alloc]))))
  · exact older_alloc (older_alloc (last_alloc (by simp only [World.size_alloc])))
  · exact older_alloc (last_alloc (by simp only [World.size_alloc]))
  · exact last_alloc (by simp only [World.size_alloc])
  · simp only [World.size_alloc]
  · exact ((((Keeps.alloc _ _ _).trans (Keeps.alloc _ _ _)).trans (Keeps.alloc _ _ _)).trans (Keeps.alloc _ _ _)).trans (Keeps.alloc _ _ _)
def forthCells (ob m1 m2 : Nat) : Array Value := #[.pointer (some ⟨ob, 0, none⟩), .map (some m1), .map (some m2), .int .i64 0, .int .i64 0, .int .i64 0, .int .i64 0, .string ⟨#[]⟩, .int .i64 0, .slice none 0 0, .int .i64 0, .int .i64 0, .int .i64 0]
end Go.Proofs.Shed
set_option linter.unusedVariables false
set_option linter.unusedSimpArgs false
set_option maxRecDepth 10000
set_option maxHeartbeats 4000000
namespace Go.Proofs.Shed
open Go Go.RowKit Go.Proofs.K Go.Proofs.Cod

def OopPost (dict data ret slots hz : Int) (inp : List UInt8) (y : Sp) (root base list caught : Int) (w : World) (e : Ending) (w' : World) : Prop :=
  ∃ (mb nb pb s b bb db rb hb : Nat) (X : Nat → Prop) (fb gf ob q la m1 m2 p1 p2 nM : Nat) (fM : List UInt8 → Option Value), e = .returned (.tuple #[.pointer (some ⟨fb, 0, none⟩), .int .i64 0]) ∧
    RVm X w' mb s b bb db rb ⟨some s, some db, some rb, some hb, nb, 0, 0, root, list, slots, 0, [], inp, false, base, caught, 0, pb⟩ y ⟨dict, data, 0, -3, -4⟩ ⟨dict + data * 8, ret, 0, -5, -6⟩ ∧
    w'.heap[hb]? = some (.cells #[.pointer (some ⟨b, 0, none⟩), .int .i64 (dict + data * 8 + ret * 8), .int .i64 (dict + data * 8 + ret * 8 + hz)] 298 (0, 0)) ∧ (∀ g, X g → g < ob) ∧
    w'.heap[fb]? = some (.cells (forthCells ob p1 p2) 107 (0, 0)) ∧ MapIs ik w' p2 0 (fun _ => none) ∧ ROc w' ob { oc0 mb q la m1 m2 with reset := resetV fb } ∧ Own w' 2 1 (some ⟨la, 0, none⟩) 1 1 [.int .i64 list] ∧
    MapIs sk w' m1 (y.mem.words list).length ((y.mem.words list).foldl xtOf (fun _ => none)) ∧ MapIs sk w' m2 nM fM ∧ Closes w' 0 gf (fun _ => false) fM ∧ w'.heap[gf]? = some (.cells #[.pointer (some ⟨fb, 0, none⟩)] 96 (0, 0)) ∧ Fresh8 w mb s b bb db rb hb pb ∧ Fresh8 w ob la m1 m2 p1 p2 fb gf ∧ Keeps (fun _ => False) w w'
theorem oop_new (w : World) (dict data ret hz slots : Int) (inp : List UInt8) (m1 : Mem) (x1 y : Sp) (root base list caught : Int) (ok : NewOk dict data ret hz m1 x1 y root base list caught) :
    Calls Tryz.prog 96 #[.agg #[.int .i64 dict, .int .i64 data, .int .i64 ret, .int .i64 hz, .int .i64 slots], .string ⟨inp.toArray⟩] w (OopPost dict data ret slots hz inp y root base list caught w) := by
  have hmm := @run_makeMap Tryz.prog
  have HV := Lib.hid fun V => vm_new V dict data ret hz slots inp m1 x1 y root base list caught ok
  clear ok
  go_enter Tryz.func96, Tryz.ntmps96
  go_wp2_with fail
  refine (HV.out _).mono ?_
  rintro e w1 hv
  obtain ⟨mb, nb, pb, s, b, bb, db, rb, hb, X, rfl, R1, HB1, HXl, HFr, K1⟩ := hv.rvm
  have HFR := Lib.hid (show Fresh8 w mb s b bb db rb hb pb ∧ w.heap.size ≤ w1.heap.size from by
    have hz := K1.size
    unfold Fresh8 at HFr ⊢
    rw [World.size_alloc] at HFr hz
    omega)
  have R := Lib.hid R1
  have HB := Lib.hid HB1
  have HX := Lib.hid HXl
  have K := Lib.hid ((Keeps.alloc (fun _ => False) w _).trans K1)
  clear hv R1 HB1 HXl HFr K1 HV
  go_wp2_with fail
  refine (outer_new w1 mb s b bb _ y R.out.mc rfl R.out.sp).mono ?_
  rintro e w2 ⟨ob, q, la, n1, n2, rfl, O1, OW1, MP1, MM1, hne, l1, l2, l3, l4, k2⟩
  have HZ := Lib.hid (show (mb < w1.heap.size ∧ s < w1.heap.size ∧ b < w1.heap.size ∧ bb < w1.heap.size ∧ db < w1.heap.size ∧ rb < w1.heap.size ∧ pb < w1.heap.size ∧ hb < w1.heap.size) ∧ (w1.heap.size ≤ ob ∧ w1.heap.size ≤ la ∧ w1.heap.size ≤ n1 ∧ w1.heap.size ≤ n2) from by
    obtain ⟨nn, g, _, hm, _⟩ := R.out.does
    exact ⟨⟨lt_of_heap R.out.mc, lt_of_heap R.out.sp.head, R.out.sp.mem.lt.1, R.out.sp.mem.lt.2, lt_of_heap R.out.dk.head, lt_of_heap R.out.rk.head, hm.lt, lt_of_heap HB.out⟩, l1, l2, l3, l4⟩)
  have HZ0 := Lib.hid K.out.size
  have HOB := Lib.hid (show ob ≠ n2 from fun e => MapIs.noRow MM1 _ _ _ (e ▸ O1))
  have HLO := Lib.hid (show la ≠ ob ∧ la ≠ n2 from by
    rcases OW1.form with ⟨h, _⟩ | ⟨g, cur, h, hh, _⟩
    · cases h
    · cases h
      refine ⟨fun e => ?_, fun e => MapIs.noRow MM1 _ _ _ (e ▸ hh)⟩
      subst e
      unfold ROc at O1
      rw [hh] at O1
      injection O1 with O1
      injection O1 with O1 O2
      cases O2)
  have HN1 := Lib.hid (show ob ≠ n1 from fun e => MapIs.noRow MP1 _ _ _ (e ▸ O1))
  go_upto_region 6 with fail
  obtain ⟨W, hW, a0, a1, a2, a3, a4, hWs, kW⟩ := al5 w2 (.map #[] 0) (.map #[] 0) (.cells #[.pointer (some ⟨ob, 0, none⟩), .map (some w2.heap.size), .map (some (w2.heap.size + 1)), .int .i64 0, .int .i64 0, .int .i64 0, .int .i64 0, .string ⟨#[]⟩, .int .i64 0, .slice none 0 0, .int .i64 0, .int .i64 0, .int .i64 0] 107) (.cells #[.pointer (some ⟨w2.heap.size + 1 + 1, 0, none⟩)] 96) (.map #[] 0)
  rw [← hW]
  clear hW
  have kk := k2.trans kW
  have R2 := Lib.hid (R.out.keeps0 kk)
  have HB2 := Lib.hid (kk.heap HB.out id)
  have O2 := Lib.hid (O1.keeps kW id)
  have OW2 := Lib.hid (OW1.keeps kW (fun _ _ => id))
  have MP2 := Lib.hid (MP1.keeps kW id)
  have MM2 := Lib.hid (MM1.keeps kW id)
  have K2 := Lib.hid (K.out.trans kk)
  have HX2 := Lib.hid (show ∀ g, X g → g < ob from fun g hg => Nat.lt_of_lt_of_le (HX.out g hg) l1)
  have HXN := Lib.hid (show ∀ g, X g → g < n2 from fun g hg => Nat.lt_of_lt_of_le (HX.out g hg) l4)
  have hlob := lt_of_heap O1
  have hlm1 := MP1.lt
  have hlm2 := MM1.lt
  have hlla : la < w2.heap.size := OW1.lt rfl
  have hk2 := k2.size
  clear kk kW k2 O1 OW1 MP1 MM1 R HB K HX
  obtain ⟨bW, hbW⟩ : ∃ bW, bW = w2.heap.size + 1 + 1 + 1 + 1 := ⟨_, rfl⟩
  rw [← hbW] at a4 ⊢
  obtain ⟨gf, hgf⟩ : ∃ gf, gf = w2.heap.size + 1 + 1 + 1 := ⟨_, rfl⟩
  rw [← hgf] at a3 ⊢
  obtain ⟨fb, hfb⟩ : ∃ fb, fb = w2.heap.size + 1 + 1 := ⟨_, rfl⟩
  rw [← hfb] at a2 a3 ⊢
  obtain ⟨p2, hp2⟩ : ∃ p2, p2 = w2.heap.size + 1 := ⟨_, rfl⟩
  rw [← hp2] at a1 a2 ⊢
  obtain ⟨p1, hp1⟩ : ∃ p1, p1 = w2.heap.size := ⟨_, rfl⟩
  rw [← hp1] at a0 a2 ⊢
  change W.heap[fb]? = some (.cells (forthCells ob p1 p2) 107 (0, 0)) at a2
  have A1 := Lib.hid (MapIs.empty (P := Tryz.prog) ik a1)
  have A2 := Lib.hid a2
  have A3 := Lib.hid a3
  have A4 := Lib.hid (MapIs.empty (P := Tryz.prog) sk a4)
  have HS := Lib.hid (show (ob < p1 ∧ n1 < p1 ∧ n2 < p1 ∧ la < p1) ∧ p2 = p1 + 1 ∧ fb = p1 + 2 ∧ gf = p1 + 3 ∧ bW = p1 + 4 ∧ W.heap.size = p1 + 5 from by omega)
  have HNE := Lib.hid hne
  clear a0 a1 a2 a3 a4 hbW hgf hfb hp2 hp1 hWs hlob hlm1 hlm2 hlla hk2 l1 l2 l3 l4 hne
  have DK := Lib.hid (DictP.made W)
  go_wp2_with (first
    | (refine wpList_dictP _ rfl _ _ _ (.inr rfl) _ 0 _ rfl DK.out (by decide) [99, 108, 97, 115, 115] (by decide) (fnV 160) rfl rfl ?_; intro w2 dk; replace DK := Lib.hid dk; clear dk)
    | (refine wpList_dictP _ rfl _ _ _ (.inr rfl) _ 1 _ rfl DK.out (by decide) [101, 110, 100, 99, 108, 97, 115, 115] (by decide) (fnV 161) rfl rfl ?_; intro w2 dk; replace DK := Lib.hid dk; clear dk)
    | (refine wpList_dictP _ rfl _ _ _ (.inr rfl) _ 2 _ rfl DK.out (by decide) [105, 118, 97, 114] (by decide) (fnV 162) rfl rfl ?_; intro w2 dk; replace DK := Lib.hid dk; clear dk)
    | (refine wpList_dictP _ rfl _ _ _ (.inr rfl) _ 3 _ rfl DK.out (by decide) [109, 101, 116, 104, 111, 100] (by decide) (fnV 163) rfl rfl ?_; intro w2 dk; replace DK := Lib.hid dk; clear dk)
    | (refine wpList_dictP _ rfl _ _ _ (.inr rfl) _ 4 _ rfl DK.out (by decide) [114, 101, 100, 101, 102, 105, 110, 101] (by decide) (fnV 164) rfl rfl ?_; intro w2 dk; replace DK := Lib.hid dk; clear dk)
    | (refine wpList_dictP _ rfl _ _ _ (.inr rfl) _ 5 _ rfl DK.out (by decide) [101, 110, 100, 109] (by decide) (fnV 165) rfl rfl ?_; intro w2 dk; replace DK := Lib.hid dk; clear dk)
    | (refine wpList_dictP _ rfl _ _ _ (.inr rfl) _ 6 _ rfl DK.out (by decide) [105, 110, 116, 101, 114, 102, 97, 99, 101] (by decide) (fnV 166) rfl rfl ?_; intro w2 dk; replace DK := Lib.hid dk; clear dk)
    | (refine wpList_dictP _ rfl _ _ _ (.inr rfl) _ 7 _ rfl DK.out (by decide) [105, 109, 112, 108, 101, 109, 101, 110, 116, 115] (by decide) (fnV 167) rfl rfl ?_; intro w2 dk; replace DK := Lib.hid dk; clear dk)
    | (refine wpList_dictP _ rfl _ _ _ (.inr rfl) _ 8 _ rfl DK.out (by decide) [45, 62] (by decide) (fnV 168) rfl rfl ?_; intro w2 dk; replace DK := Lib.hid dk; clear dk)
    | (refine wpList_dictP _ rfl _ _ _ (.inr rfl) _ 9 _ rfl DK.out (by decide) [58, 58] (by decide) (fnV 169) rfl rfl ?_; intro w2 dk; replace DK := Lib.hid dk; clear dk)
    | (refine wpList_dictP _ rfl _ _ _ (.inr rfl) _ 10 _ rfl DK.out (by decide) [115, 117, 112, 101, 114] (by decide) (fnV 170) rfl rfl ?_; intro w2 dk; replace DK := Lib.hid dk; clear dk)
    | (refine wpList_dictP _ rfl _ _ _ (.inr rfl) _ 11 _ rfl DK.out (by decide) [111, 98, 106, 101, 99, 116] (by decide) (fnV 171) rfl rfl ?_; intro w2 dk; replace DK := Lib.hid dk; clear dk)
    | (at_range; refine wpList_range sk _ rfl _ 268 rfl _ Tryz.underlying268 W.heap.size 12 oopF rfl DK.out.1 ?_; intro w5 cnt0 hrg0 hk0))
  go_frame
  have HR0 := Lib.hid hrg0
  have K5 := Lib.hid (DK.out.2.2.trans hk0)
  have HK0 := Lib.hid hk0
  have HW2 := Lib.hid (show W.heap.size ≤ w2.heap.size ∧ w2.heap.size < w5.heap.size from ⟨DK.out.2.2.size, hrg0.lts.1⟩)
  clear hrg0 hk0 DK
  have hmf := hmf
  have hsf := hsf
  go_loopw [31] (fun _ wr => ∃ (left : List UInt8 → Bool) (cnt m : Nat) (fM : List UInt8 → Option Value), MapRun sk wr W.heap.size w2.heap.size 12 oopF left cnt ∧ m + cnt ≤ 12 ∧ MapIs sk wr bW m fM ∧ Closes wr w5.heap.size gf left fM ∧ Keeps (fun k => k = bW ∨ k = w2.heap.size) w5 wr) (fun _ wr => wr.rangeLeft W.heap.size w2.heap.size)
  case atStart =>
    exact ⟨_, cnt0, 0, _, HR0.out, by have := HR0.out.cnt_le; omega, A4.out.keeps K5.out id, Closes.start _ _ _, Keeps.refl _ _⟩
  case round =>
    obtain ⟨left, cnt, m, fM, hrg, hm, hd, hc, hk⟩ := hrel
    have HR := Lib.hid hrg
    have HD := Lib.hid hd
    have HC := Lib.hid hc
    have HK := Lib.hid hk
    clear hrg hd hc hk
    go_wp2_with (first
      | (at_next; refine wpList_mstep sk _ rfl _ rfl W.heap.size w2.heap.size 12 oopF left cnt rfl HR.out ?_ ?_)
      | go_in)
    · intro hl
      have hs := HS.out
      have hw2 := HW2.out
      have hz := HZ.out
      have hcl := HC.out.done (fun x hx => hl x (show x.length ≤ maxLen from Nat.le_trans hx (by unfold maxLen; omega)))
      have KW : Keeps (fun k => k = bW) W wr := (K5.out.mono (fun _ _ e => e.elim)).trans' HK.out (fun i hi e => by rcases e with e | e; exact e; omega)
      have R3 := Lib.hid (R2.out.keeps KW (show ¬ mb = bW ∧ ¬ s = bW ∧ ¬ b = bW ∧ ¬ bb = bW ∧ ¬ db = bW ∧ ¬ rb = bW ∧ ¬ pb = bW from by omega) (fun g hg e => by have e : g = bW := e; have := HX2.out g hg; omega))
      have HB3 := Lib.hid (KW.heap HB2.out (show ¬ hb = bW by omega))
      have O3 := Lib.hid (O2.out.keeps KW (show ¬ ob = bW by omega))
      have OW3 := Lib.hid (OW2.out.keeps KW (fun g e => by cases e; show ¬ la = bW; omega))
      have MP3 := Lib.hid (MP2.out.keeps KW (show ¬ n1 = bW by omega))
      have MM3 := Lib.hid (MM2.out.keeps KW (show ¬ n2 = bW by omega))
      have B1 := Lib.hid (A1.out.keeps KW (show ¬ p2 = bW by omega))
      have B2 := Lib.hid (KW.heap A2.out (show ¬ fb = bW by omega))
      have B3 := Lib.hid (KW.heap A3.out (show ¬ gf = bW by omega))
      have K3 := Lib.hid (K2.out.trans' KW (fun i hi e => by have := HZ0.out; have e : i = bW := e; omega))
      have HDF := Lib.hid (HD.out.mono (show m ≤ 12 by omega))
      have HCF := Lib.hid hcl
      have g0 : wr.cell? ⟨gf, 0, none⟩ = some (.pointer (some ⟨fb, 0, none⟩)) := cell_of B3.out rfl
      have f0 : wr.cell? ⟨fb, 0, none⟩ = some (.pointer (some ⟨ob, 0, none⟩)) := cell_of B2.out rfl
      have HE := Lib.hid (outer_extend wr.drew ob bW fb 0 12 _ (fun _ => none) fM (O3.out.keeps (Keeps.drew (fun _ => False) wr) id) (MM3.out.keeps (Keeps.drew (fun _ => False) wr) id) (HDF.out.keeps (Keeps.drew (fun _ => False) wr) id) (show n2 ≠ bW by omega) (by omega))
      unfold resetV at HE
      rw [over_none] at HE
      clear hs hw2 hz hcl KW hl HR HD HC HK R2 HB2 O2 OW2 MP2 MM2 A1 A2 A3 A4 K2 K5
      go_wp2_with fail
      go_still_tail 7, (by kernel_rfl)
      change wpList _ _ _ _ _ wr.drew
      go_wp2_with fail
      refine HE.out.mono ?_
      rintro e w9 ⟨rfl, o9, mm9, k9⟩
      have hs := HS.out
      have hw2 := HW2.out
      have hz := HZ.out
      have hz0 := HZ0.out
      have hob := HOB.out
      have hn1 := HN1.out
      have hla := HLO.out
      have hnn := HNE.out
      have k9 : Keeps (fun g => g = ob ∨ g = n2) wr w9 := (Keeps.drew _ wr).trans k9
      have R4 := Lib.hid (R3.out.keeps k9 (show ¬ (mb = ob ∨ mb = n2) ∧ ¬ (s = ob ∨ s = n2) ∧ ¬ (b = ob ∨ b = n2) ∧ ¬ (bb = ob ∨ bb = n2) ∧ ¬ (db = ob ∨ db = n2) ∧ ¬ (rb = ob ∨ rb = n2) ∧ ¬ (pb = ob ∨ pb = n2) from by omega) (fun g hg e => by have h := HX2.out g hg; have h2 := HXN.out g hg; rcases e with e | e <;> omega))
      have HB4 := Lib.hid (k9.heap HB3.out (show ¬ (hb = ob ∨ hb = n2) by omega))
      have O4 := Lib.hid o9
      have OW4 := Lib.hid (OW3.out.keeps k9 (fun g e => by cases e; show ¬ (la = ob ∨ la = n2); omega))
      have MP4 := Lib.hid (MP3.out.keeps k9 (show ¬ (n1 = ob ∨ n1 = n2) by omega))
      have MM4 := Lib.hid mm9
      have C1 := Lib.hid (B1.out.keeps k9 (show ¬ (p2 = ob ∨ p2 = n2) by omega))
      have C2 := Lib.hid (k9.heap B2.out (show ¬ (fb = ob ∨ fb = n2) by omega))
      have C3 := Lib.hid (k9.heap B3.out (show ¬ (gf = ob ∨ gf = n2) by omega))
      have HC4 := Lib.hid ((HCF.out.keeps k9 (fun g hg e => by rcases e with e | e <;> omega)).low 0 (Nat.zero_le _))
      have K4 := Lib.hid (K3.out.trans' k9 (fun i hi e => by rcases e with e | e <;> omega))
      have q0 : w9.cell? ⟨gf, 0, none⟩ = some (.pointer (some ⟨fb, 0, none⟩)) := cell_of C3.out rfl
      clear hs hw2 hz hz0 hob hn1 hla hnn k9 o9 mm9 R3 HB3 O3 OW3 MP3 MM3 B1 B2 B3 HCF K3 HE g0 f0
      go_wp2_with fail
      go_ret2
      exact ⟨mb, nb, pb, s, b, bb, db, rb, hb, X, fb, gf, ob, q, la, n1, n2, p1, p2, _, fM, rfl, R4.out, HB4.out, HX2.out, C2.out, C1.out, O4.out, OW4.out, MP4.out, MM4.out, HC4.out, C3.out, HFR.out.1, (by have h1 := HFR.out; have h2 := HS.out; have h3 := HZ.out; unfold Fresh8; omega), K4.out⟩
    · intro x v w6 cnt1 hok hlx hfx hrg1 hlt hg1 hen
      have hr := HR.out.lts
      obtain ⟨kx, hkx, rfl⟩ : ∃ kx, oopK x = some kx ∧ v = fnV kx := by
        rw [oopF_is] at hfx
        cases hk : oopK x with
        | none => rw [hk] at hfx; cases hfx
        | some n => rw [hk] at hfx; exact ⟨n, rfl, (Option.some.inj hfx).symm⟩
      have HR1 := Lib.hid hrg1
      have hs := HS.out
      have hw2 := HW2.out
      have hz := HK.out.size
      have HD1 := Lib.hid (HD.out.keeps hg1 (fun e => by have e : bW = w2.heap.size := e; omega))
      have HC1 := Lib.hid (HC.out.keeps hg1 (fun g hg e => by have e : g = w2.heap.size := e; omega))
      have HK1 := Lib.hid (HK.out.trans (hg1.mono (T := fun k => k = bW ∨ k = w2.heap.size) (fun _ _ e => .inr e)))
      have HKX := Lib.hid hkx
      have HO1 := Lib.hid hok
      change (Instr.entry (.pointer (some ⟨w2.heap.size, 0, none⟩))).run Tryz.prog w6 = .ok (.tuple #[.string ⟨x.toArray⟩, .func (.func kx) #[] #[]]) w6 at hen
      rw [show sk.val x = Value.string ⟨x.toArray⟩ from rfl]
      unfold fnV
      clear hrg1 hg1 hfx hok hlx hkx hs hw2
      go_upto_region 9 with fail
      have ka := Keeps.alloc (fun _ => False) w6 (.cells #[.func (.func kx) #[] #[]] 267)
      have hc := halloc_at w6 (.cells #[.func (.func kx) #[] #[]] 267)
      have hs6 := HK1.out.size
      obtain ⟨gx, hgx⟩ : ∃ gx, gx = w6.heap.size := ⟨_, rfl⟩
      rw [← hgx] at hc ⊢
      have HGX := Lib.hid (show w5.heap.size ≤ gx from by omega)
      generalize w6.alloc (.cells #[.func (.func kx) #[] #[]] 267) = V at ka hc ⊢
      have HR2 := Lib.hid (HR1.out.keeps ka id id)
      have HD2 := Lib.hid (HD1.out.keeps ka id)
      have HC2 := Lib.hid (HC1.out.keeps ka (fun _ _ => id))
      have HK2 := Lib.hid (HK1.out.trans (ka.mono (fun _ _ e => e.elim)))
      have HGC := Lib.hid hc
      clear ka hc hgx hs6
      go_wp2_with (first
        | (at_mapUpdate; refine wpList_put sk _ rfl _ _ _ 57 (.inl rfl) _ Tryz.underlying57 bW m _ rfl HD2.out (by unfold maxLen; omega) x HO1.out (.func (.func 172) #[] #[.pointer (some ⟨gx, 0, none⟩), .pointer (some ⟨gf, 0, none⟩)]) rfl rfl ?_; intro w8 hd8 hk8; go_frame)
        | go_in)
      have hs := HS.out
      have hw2 := HW2.out
      have hgx := HGX.out
      have HR8 := Lib.hid (HR2.out.keeps hk8 (fun e => by have e : W.heap.size = bW := e; omega) (fun e => by have e : w2.heap.size = bW := e; omega))
      have HC8 := Lib.hid ((HC2.out.keeps hk8 (fun g hg e => by have e : g = bW := e; omega)).step x kx HKX.out gx _ hgx (hk8.heap HGC.out (fun e => by have e : gx = bW := e; omega)))
      have HK8 := Lib.hid (HK2.out.trans (hk8.mono (T := fun k => k = bW ∨ k = w2.heap.size) (fun _ _ e => .inl e)))
      have HD8 := Lib.hid hd8
      clear hd8 hk8 hs hw2 hgx
      go_roundw
      case rel => exact ⟨_, cnt1, m + 1, _, HR8.out, by omega, HD8.out, HC8.out, HK8.out⟩
      case measure => rw [HR8.out.left_eq, HR.out.left_eq]; exact hlt
end Go.Proofs.Shed
