/- Layer 22: the fields of a script, by their names. No condition. Layer 22: Parse. Conditions: the library's variables hold what they hold at the start; the text is not too long. -/
import Derived.Test.YthhfkhhhclmimaaGreatDoorMSA
import Derived.Test.YthhfkhhhclmimaaGreatDoorMPB
import Derived.Test.YthhfkhhhclmimaaGreatDoorMDA
import Derived.Test.YthhfkhhhclmimaaGreatDoorMOE
import Derived.Test.YthhfkhhhclmimaaGreatDoorMOF
set_option linter.unusedVariables false
set_option linter.unusedSimpArgs false
set_option maxRecDepth 10000
set_option maxHeartbeats 4000000
namespace Go.Proofs.Shed
open Go Go.RowKit Go.Proofs.K
/-- A script's cells. -/
def scCells (s : Scr.Sc) : Array Value := #[.int .i64 s.dict, .int .i64 s.data, .int .i64 s.ret, .int .i64 s.heap, .int .i64 s.slots, .string ⟨s.text.toArray⟩, .string ⟨s.inp.toArray⟩, .int .i64 s.fuel]
def RSc (w : World) (g : Nat) (s : Scr.Sc) : Prop := w.heap[g]? = some (.cells (scCells s) 121 (0, 0))
theorem RSc.keeps0' {w w' : World} {g : Nat} {s : Scr.Sc} (h : RSc w g s) (k : Keeps (fun _ => False) w w') : RSc w' g s := k.heap h id
def scV (s : Scr.Sc) : Value := .agg (scCells s)
/-- Which function sets which field. -/
def setFn : Nat → Nat
  | 0 => 183
  | 3 => 184
  | 4 => 185
  | 5 => 186
  | 1 => 187
  | _ => 188
def setV (b i : Nat) : Value := .func (.func (setFn i)) #[] #[.pointer (some ⟨b, 0, none⟩)]
def fldF (b : Nat) : List UInt8 → Option Value := upd (upd (upd (upd (upd (upd (fun _ => none) [100, 105, 99, 116] (setV b 0)) [104, 101, 97, 112] (setV b 3)) [115, 108, 111, 116, 115] (setV b 4)) [102, 117, 101, 108] (setV b 5)) [100, 97, 116, 97] (setV b 1)) [114, 101, 116, 117, 114, 110] (setV b 2)
theorem fldF_is (b : Nat) (w : List UInt8) : fldF b w = (Scr.place w).map (setV b) := by
  unfold fldF Scr.place upd
  by_cases h1 : w = [114, 101, 116, 117, 114, 110]
  · subst h1; rfl
  by_cases h2 : w = [100, 97, 116, 97]
  · subst h2; rfl
  by_cases h3 : w = [102, 117, 101, 108]
  · subst h3; rfl
  by_cases h4 : w = [115, 108, 111, 116, 115]
  · subst h4; rfl
  by_cases h5 : w = [104, 101, 97, 112]
  · subst h5; rfl
  by_cases h6 : w = [100, 105, 99, 116]
  · subst h6; rfl
  simp only [if_neg h1, if_neg h2, if_neg h3, if_neg h4, if_neg h5, if_neg h6]
  rfl
def FieldsPost (w : World) (g : Nat) (e : Ending) (w' : World) : Prop := ∃ b m : Nat, e = .returned (.map (some m)) ∧ MapIs sk w' m 6 (fldF b) ∧ w'.heap[b]? = some (.cells #[.pointer (some ⟨g, 0, none⟩)] 220 (0, 0)) ∧ w.heap.size ≤ b ∧ w.heap.size ≤ m ∧ b ≠ m ∧ Keeps (fun _ => False) w w'
theorem hmf2 (fn : Fn) (first cap : Array Value) (w : World) : (Instr.makeFunc fn first cap).run Tryz.prog w = .ok (.func fn first cap) w := rfl
def FldP (g : Nat) (w0 w : World) (b m n : Nat) (f : List UInt8 → Option Value) : Prop := MapIs sk w m n f ∧ w.heap[b]? = some (.cells #[.pointer (some ⟨g, 0, none⟩)] 220 (0, 0)) ∧ w0.heap.size ≤ b ∧ w0.heap.size ≤ m ∧ b ≠ m ∧ Keeps (fun _ => False) w0 w
theorem FldP.start (g : Nat) (w : World) : FldP g w ((w.alloc (.cells #[.pointer (some ⟨g, 0, none⟩)] 220)).alloc (.map #[] 0)) w.heap.size (w.heap.size + 1) 0 (fun _ => none) := by
  have hm := MapIs.made (P := Tryz.prog) sk (w.alloc (.cells #[.pointer (some ⟨g, 0, none⟩)] 220))
  rw [World.size_alloc] at hm
  exact ⟨hm, older_alloc (halloc_at _ _), Nat.le_refl _, Nat.le_succ _, by omega, (Keeps.alloc _ _ _).trans (Keeps.alloc _ _ _)⟩
theorem wpList_fldP {g : Nat} {w0 : World} (w : World) {ops : Array Oper} {rest : List Oper} {o : Oper} {a : Act} {Q : Exit → Act → World → Prop} (hg : o.guard = none) (m x v : Operand) (hop : o.op = Op.insert 218 m x v) (q b n : Nat) (f : List UInt8 → Option Value)
    (hm : a.eval m = .map (some b)) (hown : FldP g w0 w q b n f) (hn : n < 1000) (s : List UInt8) (hs : s.length ≤ 1000) (val : Value) (hx : a.eval x = .string ⟨s.toArray⟩) (hv : a.eval v = val)
    (hK : ∀ w', FldP g w0 w' q b (n + 1) (upd f s val) → wpList Tryz.prog ops Q rest (a.put o.dst undef) w') : wpList Tryz.prog ops Q (o :: rest) a w := by
  obtain ⟨h1, h2, h3, h4, h5, h6⟩ := hown
  refine wpList_put sk w hg m x v 218 (.inr hop) _ Tryz.underlying218 b n f hm h1 (by unfold maxLen; omega) s (Nat.le_trans hs (by unfold maxLen; omega)) val hx hv ?_
  intro w' k1 k2
  exact hK w' ⟨k1, k2.heap h2 h5, h3, h4, h5, h6.trans' k2 (fun i hi e => by have e : i = b := e; omega)⟩
theorem scr_fields (w : World) (g : Nat) : Calls Tryz.prog 108 #[.pointer (some ⟨g, 0, none⟩)] w (FieldsPost w g) := by
  have hmm := @run_makeMap Tryz.prog
  have hmf := hmf2
  have DK := Lib.hid (FldP.start g w)
  go_enter Tryz.func108, Tryz.ntmps108
  go_wp2_with (first
    | (refine wpList_fldP _ rfl _ _ _ rfl _ _ 0 _ rfl DK.out (by decide) [100, 105, 99, 116] (by decide) (setV w.heap.size 0) rfl rfl ?_; intro w2 dk; replace DK := Lib.hid dk; clear dk)
    | (refine wpList_fldP _ rfl _ _ _ rfl _ _ 1 _ rfl DK.out (by decide) [104, 101, 97, 112] (by decide) (setV w.heap.size 3) rfl rfl ?_; intro w2 dk; replace DK := Lib.hid dk; clear dk)
    | (refine wpList_fldP _ rfl _ _ _ rfl _ _ 2 _ rfl DK.out (by decide) [115, 108, 111, 116, 115] (by decide) (setV w.heap.size 4) rfl rfl ?_; intro w2 dk; replace DK := Lib.hid dk; clear dk)
    | (refine wpList_fldP _ rfl _ _ _ rfl _ _ 3 _ rfl DK.out (by decide) [102, 117, 101, 108] (by decide) (setV w.heap.size 5) rfl rfl ?_; intro w2 dk; replace DK := Lib.hid dk; clear dk)
    | (refine wpList_fldP _ rfl _ _ _ rfl _ _ 4 _ rfl DK.out (by decide) [100, 97, 116, 97] (by decide) (setV w.heap.size 1) rfl rfl ?_; intro w2 dk; replace DK := Lib.hid dk; clear dk)
    | (refine wpList_fldP _ rfl _ _ _ rfl _ _ 5 _ rfl DK.out (by decide) [114, 101, 116, 117, 114, 110] (by decide) (setV w.heap.size 2) rfl rfl ?_; intro w2 dk; replace DK := Lib.hid dk; clear dk))
  have HD := DK.out
  clear DK
  obtain ⟨h1, h2, h3, h4, h5, h6⟩ := HD
  have H := Lib.hid (show FieldsPost w g (.returned (.map (some (w.heap.size + 1)))) _ from ⟨_, _, rfl, h1, h2, h3, h4, h5, h6⟩)
  clear h1 h2 h3 h4 h5 h6
  go_ret
  exact H.out
end Go.Proofs.Shed
set_option linter.unusedVariables false
set_option linter.unusedSimpArgs false
set_option maxRecDepth 10000
set_option maxHeartbeats 4000000
namespace Go.Proofs.Shed
open Go Go.RowKit Go.Proofs.K
theorem str_cut (s : List UInt8) (c : UInt8) (w : World) (h : Glob w) (hs : s.length ≤ 1000000) :
    Calls Tryz.prog 109 #[.string ⟨s.toArray⟩, .string ⟨#[c]⟩] w fun e w' => e = .returned (.tuple #[.string ⟨(Scr.cutB s c).1.toArray⟩, .string ⟨(Scr.cutB s c).2.1.toArray⟩, .bool (Scr.cutB s c).2.2]) ∧ Keeps (fun _ => False) w w' := by
  obtain ⟨m, t, f, hm⟩ := h.most
  refine (Tryz.strings_Cut ⟨s.toArray⟩ ⟨#[c]⟩ m w (by show s.toArray.size < _; simp; omega) (cell_of hm rfl)).mono ?_
  rintro e w' ⟨rfl, n, rfl⟩
  rw [show (⟨s.toArray⟩ : ByteArray).data.toList = s from rfl, show (⟨#[c]⟩ : ByteArray).data.toList = [c] from rfl, Scr.lib_cut]
  exact ⟨rfl, Keeps.drewN _ _ _⟩
/-- What ParseInt tells. -/
def Told (v : List UInt8) (k : Int) (ev : Value) : Prop := (ev = .nilIface ∧ Lib.parseIntB 64 v = .ok k) ∨ ((∃ a b, ev = .iface a b) ∧ ∀ j, Lib.parseIntB 64 v ≠ .ok j)
def ParsePost (v : List UInt8) (w : World) (e : Ending) (w' : World) : Prop := ∃ k ev, e = .returned (.tuple #[.int .i64 k, ev]) ∧ Told v k ev ∧ Keeps (fun _ => False) w w'
theorem keeps_bytes (w : World) (t : TypeId) (a : ByteArray) : Keeps (fun _ => False) w (Lib.bytesWorld w t a) :=
  keeps_below (Lib.below_freeze (((Below.refl w.heap.size w).drew).alloc (Nat.le_refl _) _) (p := ⟨w.heap.size, _, none⟩) (Nat.le_refl _) _)
theorem str_parse (v : List UInt8) (w : World) (h : Glob w) (hs : v.length ≤ 1000000) : Calls Tryz.prog 110 #[.string ⟨v.toArray⟩, .int .i64 10, .int .i64 64] w (ParsePost v w) := by
  have hsz : (⟨v.toArray⟩ : ByteArray).size ≤ 1000000 := by show v.toArray.size ≤ _; simp; omega
  cases hp : Lib.parseIntB 64 v with
  | ok k =>
    refine (Tryz.strconv_ParseInt_10_at64_ok ⟨v.toArray⟩ (by omega) k hp w).mono ?_
    rintro e w' ⟨rfl, hw⟩
    refine ⟨k, _, rfl, .inl ⟨rfl, hp⟩, ?_⟩
    rcases hw with rfl | ⟨t, rfl⟩
    · exact Keeps.refl _ _
    · exact keeps_bytes _ _ _
  | range =>
    obtain ⟨a, b, t, f, hv⟩ := h.rng
    refine (Tryz.strconv_ParseInt_10_at64_range ⟨v.toArray⟩ (by omega) hp _ w (cell_of hv rfl) (.inr ⟨_, _, rfl⟩)).mono ?_
    rintro e w' ⟨N, rfl, _, _, hw⟩
    exact ⟨_, _, rfl, .inr ⟨⟨_, _, rfl⟩, fun j e => by rw [hp] at e; cases e⟩, keeps_below hw⟩
  | _ =>
    obtain ⟨a, b, t, f, hv⟩ := h.syn
    refine (Tryz.strconv_ParseInt_10_at64_none ⟨v.toArray⟩ (by omega) (fun v e => by rw [hp] at e; cases e) (fun e => by rw [hp] at e; cases e) _ w (cell_of hv rfl) (.inr ⟨_, _, rfl⟩)).mono ?_
    rintro e w' ⟨N, rfl, _, _, hw⟩
    exact ⟨_, _, rfl, .inr ⟨⟨_, _, rfl⟩, fun j e => by rw [hp] at e; cases e⟩, keeps_below hw⟩
theorem set8 {w : World} {q : Nat} {x0 x1 x2 x3 x4 x5 x6 x7 : Value} {t : TypeId} (h : w.heap[q]? = some (.cells #[x0, x1, x2, x3, x4, x5, x6, x7] t (0, 0))) (a b c d e f g i : Value) :
    ((((((((w.setCell ⟨q, 0, none⟩ a).setCell ⟨q, 1, none⟩ b).setCell ⟨q, 2, none⟩ c).setCell ⟨q, 3, none⟩ d).setCell ⟨q, 4, none⟩ e).setCell ⟨q, 5, none⟩ f).setCell ⟨q, 6, none⟩ g).setCell ⟨q, 7, none⟩ i).heap[q]? = some (.cells #[a, b, c, d, e, f, g, i] t (0, 0)) :=
  hset_same (i := 7) (hset_same (i := 6) (hset_same (i := 5) (hset_same (i := 4) (hset_same (i := 3) (hset_same (i := 2) (hset_same (i := 1) (hset_same (i := 0) h a) b) c) d) e) f) g) i
theorem keeps_set8 (w : World) (q : Nat) (a b c d e f g i : Value) : Keeps (fun k => k = q) w ((((((((w.setCell ⟨q, 0, none⟩ a).setCell ⟨q, 1, none⟩ b).setCell ⟨q, 2, none⟩ c).setCell ⟨q, 3, none⟩ d).setCell ⟨q, 4, none⟩ e).setCell ⟨q, 5, none⟩ f).setCell ⟨q, 6, none⟩ g).setCell ⟨q, 7, none⟩ i) := by
  have kk : ∀ (V : World) (i : Nat) (v : Value), Keeps (fun k => k = q) V (V.setCell ⟨q, i, none⟩ v) := fun V i v => Keeps.setCell V ⟨q, i, none⟩ v (fun _ => rfl)
  exact (((((((kk _ 0 a).trans (kk _ 1 b)).trans (kk _ 2 c)).trans (kk _ 3 d)).trans (kk _ 4 e)).trans (kk _ 5 f)).trans (kk _ 6 g)).trans (kk _ 7 i)
/-- A field is set. -/
theorem set_enters (i : Nat) (args : Array Value) (w : World) : (callFunc (setFn i) args).run Tryz.prog w = .ok (.enter (setFn i) args) w := by
  match i with
  | 0 => exact Tryz.call183 args w
  | 1 => exact Tryz.call187 args w
  | 2 => exact Tryz.call188 args w
  | 3 => exact Tryz.call184 args w
  | 4 => exact Tryz.call185 args w
  | 5 => exact Tryz.call186 args w
  | n + 6 => exact Tryz.call188 args w
def FldPost (g : Nat) (s : Scr.Sc) (w : World) (e : Ending) (w' : World) : Prop := e = .returned (.tuple #[]) ∧ RSc w' g s ∧ Keeps (fun k => k = g) w w'
theorem scr_set (w : World) (g b i : Nat) (s : Scr.Sc) (k : Int) (hi : i < 6) (hs : RSc w g s) (hb : w.heap[b]? = some (.cells #[.pointer (some ⟨g, 0, none⟩)] 220 (0, 0))) :
    Calls Tryz.prog (setFn i) #[.int .i64 k, .pointer (some ⟨b, 0, none⟩)] w (FldPost g (s.set i k) w) := by
  have c0 : w.cell? ⟨b, 0, none⟩ = some (.pointer (some ⟨g, 0, none⟩)) := cell_of hb rfl
  have hj : ∀ j, w.frozen? ⟨g, j, none⟩ = false := fun j => free_of hs
  match i, hi with
  | 0, _ =>
    have f0 := hj 0
    have e0 : w.cell? ⟨g, 0, none⟩ = some (.int .i64 s.dict) := cell_of hs rfl
    have H := Lib.hid (show FldPost g (s.set 0 k) w (.returned (.tuple #[])) (w.setCell ⟨g, 0, none⟩ (.int .i64 k)) from ⟨rfl, hset_same hs _, Keeps.setCell _ _ _ (fun _ => rfl)⟩)
    clear hs hj hb
    unfold setFn
    go_enter Tryz.func183, Tryz.ntmps183
    go_wp2_with fail
    go_end0
    exact H.out
  | 1, _ =>
    have f0 := hj 1
    have e0 : w.cell? ⟨g, 1, none⟩ = some (.int .i64 s.data) := cell_of hs rfl
    have H := Lib.hid (show FldPost g (s.set 1 k) w (.returned (.tuple #[])) (w.setCell ⟨g, 1, none⟩ (.int .i64 k)) from ⟨rfl, hset_same hs _, Keeps.setCell _ _ _ (fun _ => rfl)⟩)
    clear hs hj hb
    unfold setFn
    go_enter Tryz.func187, Tryz.ntmps187
    go_wp2_with fail
    go_end0
    exact H.out
  | 2, _ =>
    have f0 := hj 2
    have e0 : w.cell? ⟨g, 2, none⟩ = some (.int .i64 s.ret) := cell_of hs rfl
    have H := Lib.hid (show FldPost g (s.set 2 k) w (.returned (.tuple #[])) (w.setCell ⟨g, 2, none⟩ (.int .i64 k)) from ⟨rfl, hset_same hs _, Keeps.setCell _ _ _ (fun _ => rfl)⟩)
    clear hs hj hb
    unfold setFn
    go_enter Tryz.func188, Tryz.ntmps188
    go_wp2_with fail
    go_end0
    exact H.out
  | 3, _ =>
    have f0 := hj 3
    have e0 : w.cell? ⟨g, 3, none⟩ = some (.int .i64 s.heap) := cell_of hs rfl
    have H := Lib.hid (show FldPost g (s.set 3 k) w (.returned (.tuple #[])) (w.setCell ⟨g, 3, none⟩ (.int .i64 k)) from ⟨rfl, hset_same hs _, Keeps.setCell _ _ _ (fun _ => rfl)⟩)
    clear hs hj hb
    unfold setFn
    go_enter Tryz.func184, Tryz.ntmps184
    go_wp2_with fail
    go_end0
    exact H.out
  | 4, _ =>
    have f0 := hj 4
    have e0 : w.cell? ⟨g, 4, none⟩ = some (.int .i64 s.slots) := cell_of hs rfl
    have H := Lib.hid (show FldPost g (s.set 4 k) w (.returned (.tuple #[])) (w.setCell ⟨g, 4, none⟩ (.int .i64 k)) from ⟨rfl, hset_same hs _, Keeps.setCell _ _ _ (fun _ => rfl)⟩)
    clear hs hj hb
    unfold setFn
    go_enter Tryz.func185, Tryz.ntmps185
    go_wp2_with fail
    go_end0
    exact H.out
  | 5, _ =>
    have f0 := hj 7
    have e0 : w.cell? ⟨g, 7, none⟩ = some (.int .i64 s.fuel) := cell_of hs rfl
    have H := Lib.hid (show FldPost g (s.set 5 k) w (.returned (.tuple #[])) (w.setCell ⟨g, 7, none⟩ (.int .i64 k)) from ⟨rfl, hset_same hs _, Keeps.setCell _ _ _ (fun _ => rfl)⟩)
    clear hs hj hb
    unfold setFn
    go_enter Tryz.func186, Tryz.ntmps186
    go_wp2_with fail
    go_end0
    exact H.out
end Go.Proofs.Shed
