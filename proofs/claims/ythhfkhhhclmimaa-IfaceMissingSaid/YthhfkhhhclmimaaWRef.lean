/- The document's functions for layer 11: own, Walk, Heir. Conditions: the list of classes lies in blocks of its own. -/
import Derived.Test.YthhfkhhhclmimaaWIfaceC
import Derived.Test.YthhfkhhhclmimaaPA
set_option linter.unusedVariables false
set_option linter.unusedSimpArgs false
set_option maxRecDepth 10000
set_option maxHeartbeats 2000000
namespace Go.Proofs.Shed
open Go Go.RowKit Go.Proofs.K

/-- Own methods, as a slice that came in; its block is one of N. -/
def OwnAt (N : Nat → Prop) (w : World) (a : Option Addr) (n c : Nat) (L : List (Int × Int)) : Prop :=
  n = L.length ∧ n ≤ c ∧ (∀ g, blk a = some g → N g ∧ g < w.heap.size) ∧
  ∀ i (hi : i < L.length), ∃ g o, a = some ⟨g, o, none⟩ ∧ w.cell? ⟨g, o + i * 2, none⟩ = some (.int .i64 L[i].1) ∧ w.cell? ⟨g, o + i * 2 + 1, none⟩ = some (.int .i64 L[i].2)
/-- A class's cells: where its own methods lie. -/
structure RC where
  parent : Int
  size : Int
  slots : Int
  oa : Option Addr
  on : Nat
  oc : Nat
def RC.cells (v : RC) : List Value := [.int .i64 v.parent, .int .i64 v.size, .int .i64 v.slots, .slice v.oa v.on v.oc]
def RC.val (v : RC) : Value := .agg #[.int .i64 v.parent, .int .i64 v.size, .int .i64 v.slots, .slice v.oa v.on v.oc]
/-- Which class they are. -/
def RC.Is (N : Nat → Prop) (w : World) (v : RC) (x : RCls) : Prop := v.parent = x.parent ∧ v.size = x.size ∧ v.slots = x.slots ∧ OwnAt N w v.oa v.on v.oc x.own
/-- A list of classes, in blocks of N. -/
structure RefV (N : Nat → Prop) (w : World) (a : Option Addr) (c : Nat) (V : List RC) (L : List RCls) : Prop where
  own : Own w 84 4 a V.length c (V.flatMap RC.cells)
  home : ∀ g, blk a = some g → N g
  len : V.length = L.length
  is : ∀ i (h : i < V.length) (h' : i < L.length), V[i].Is N w L[i]
  apart : ∀ i (h : i < V.length) g, blk V[i].oa = some g → blk a ≠ some g
def RefL (N : Nat → Prop) (w : World) (a : Option Addr) (n c : Nat) (L : List RCls) : Prop := n = L.length ∧ ∃ V, RefV N w a c V L

theorem OwnAt.keeps {N : Nat → Prop} {w w' : World} {a : Option Addr} {n c : Nat} {L : List (Int × Int)} (h : OwnAt N w a n c L) {S : Nat → Prop} (k : Keeps S w w') (hs : ∀ g, blk a = some g → ¬ S g) : OwnAt N w' a n c L := by
  obtain ⟨h1, h2, h3, h4⟩ := h
  refine ⟨h1, h2, fun g hg => ⟨(h3 g hg).1, Nat.lt_of_lt_of_le (h3 g hg).2 k.size⟩, fun i hi => ?_⟩
  obtain ⟨g, o, rfl, c0, c1⟩ := h4 i hi
  exact ⟨g, o, rfl, k.cell c0 (hs g rfl), k.cell c1 (hs g rfl)⟩
theorem RefV.keeps {N : Nat → Prop} {w w' : World} {a : Option Addr} {c : Nat} {V : List RC} {L : List RCls} (h : RefV N w a c V L) {S : Nat → Prop} (k : Keeps S w w') (hs : ∀ g, N g → ¬ S g) : RefV N w' a c V L :=
  ⟨h.own.keeps k fun g hg => hs g (h.home g hg), h.home, h.len, fun i h1 h2 => by
    obtain ⟨e1, e2, e3, e4⟩ := h.is i h1 h2
    exact ⟨e1, e2, e3, e4.keeps k fun g hg => hs g (e4.2.2.1 g hg).1⟩, h.apart⟩
theorem RefL.keeps {N : Nat → Prop} {w w' : World} {a : Option Addr} {n c : Nat} {L : List RCls} (h : RefL N w a n c L) {S : Nat → Prop} (k : Keeps S w w') (hs : ∀ g, N g → ¬ S g) : RefL N w' a n c L := by
  obtain ⟨h1, V, hV⟩ := h
  exact ⟨h1, V, hV.keeps k hs⟩
theorem rc_len (V : List RC) : (V.flatMap RC.cells).length = V.length * 4 := by
  induction V with
  | nil => rfl
  | cons v V ih => simp [RC.cells] at *; omega
theorem rc_get (V : List RC) (i : Nat) (h : i < V.length) : (V.flatMap RC.cells)[i * 4]? = some (.int .i64 V[i].parent) ∧ (V.flatMap RC.cells)[i * 4 + 1]? = some (.int .i64 V[i].size) ∧
    (V.flatMap RC.cells)[i * 4 + 2]? = some (.int .i64 V[i].slots) ∧ (V.flatMap RC.cells)[i * 4 + 3]? = some (.slice V[i].oa V[i].on V[i].oc) := by
  induction V generalizing i with
  | nil => simp at h
  | cons v V ih =>
    have e : (v :: V).flatMap RC.cells = v.cells ++ V.flatMap RC.cells := rfl
    rw [e]
    cases i with
    | zero => exact ⟨rfl, rfl, rfl, rfl⟩
    | succ i =>
      have hc : v.cells.length = 4 := rfl
      have := ih i (by simpa using h)
      refine ⟨?_, ?_, ?_, ?_⟩
      · rw [List.getElem?_append_right (by rw [hc]; omega), hc, show (i + 1) * 4 - 4 = i * 4 by omega]; exact this.1
      · rw [List.getElem?_append_right (by rw [hc]; omega), hc, show (i + 1) * 4 + 1 - 4 = i * 4 + 1 by omega]; exact this.2.1
      · rw [List.getElem?_append_right (by rw [hc]; omega), hc, show (i + 1) * 4 + 2 - 4 = i * 4 + 2 by omega]; exact this.2.2.1
      · rw [List.getElem?_append_right (by rw [hc]; omega), hc, show (i + 1) * 4 + 3 - 4 = i * 4 + 3 by omega]; exact this.2.2.2
/-- The class at a number: its cells. -/
theorem RefL.get {N : Nat → Prop} {w : World} {a : Option Addr} {n c : Nat} {L : List RCls} (h : RefL N w a n c L) {i : Nat} (hi : i < L.length) :
    ∃ g oa on oc, a = some ⟨g, 0, none⟩ ∧ N g ∧ n ≤ c ∧ w.cell? ⟨g, i * 4, none⟩ = some (.int .i64 L[i].parent) ∧ w.cell? ⟨g, i * 4 + 1, none⟩ = some (.int .i64 L[i].size) ∧
      w.cell? ⟨g, i * 4 + 2, none⟩ = some (.int .i64 L[i].slots) ∧ w.cell? ⟨g, i * 4 + 3, none⟩ = some (.slice oa on oc) ∧ OwnAt N w oa on oc L[i].own ∧ blk oa ≠ some g := by
  obtain ⟨hn, V, hV⟩ := h
  have hv : i < V.length := by rw [hV.len]; exact hi
  obtain ⟨r0, r1, r2, r3⟩ := rc_get V i hv
  obtain ⟨e1, e2, e3, e4⟩ := hV.is i hv hi
  have hap := hV.apart i hv
  rcases hV.own.form with ⟨rfl, hn, rfl, hx⟩ | ⟨g, cur, rfl, hh, hnc, hcm, hcs, htk, hxl⟩
  · omega
  · refine ⟨g, _, _, _, rfl, hV.home g rfl, by rw [hn, ← hV.len]; exact hnc, ?_, ?_, ?_, hV.own.cell r3, e4, fun e => hap g e rfl⟩
    · rw [← e1]; exact hV.own.cell r0
    · rw [← e2]; exact hV.own.cell r1
    · rw [← e3]; exact hV.own.cell r2

def optV (r : Option Int) : Ending := match r with
  | some x => .returned (.tuple #[.int .i64 x, .bool true])
  | none => .returned (.tuple #[.int .i64 0, .bool false])

theorem ref_own (N : Nat → Prop) (w : World) (p s k : Int) (oa : Option Addr) (on oc : Nat) (L : List (Int × Int)) (sel : Int) (h : OwnAt N w oa on oc L) (hl : L.length ≤ 1000000) :
    Calls Try.prog 65 #[.agg #[.int .i64 p, .int .i64 s, .int .i64 k, .slice oa on oc], .int .i64 sel] w fun e w' => e = optV (Ref.own L sel) ∧ Keeps (fun _ => False) w w' := by
  obtain ⟨rfl, hoc, hb, hc⟩ := h
  have HC := Lib.hid hc
  have HB := Lib.hid hb
  have KA := Lib.hid (Keeps.alloc (fun _ => False) w (.cells #[.int .i64 p, .int .i64 s, .int .i64 k, .slice oa L.length oc] 84))
  have HD : Hid (Ref.own L sel = Ref.own (L.drop 0) sel) := rfl
  generalize Ref.own L sel = r at HD ⊢
  clear hc hb
  have hsz : w.heap.size < (w.alloc (.cells #[.int .i64 p, .int .i64 s, .int .i64 k, .slice oa L.length oc] 84)).heap.size := by simp
  go_enter Try.func65, Try.ntmps65
  go_wp2_with fail
  go_loopw [6] (fun iv wr => ∃ j : Nat, iv = .int .i64 j ∧ j ≤ L.length ∧ wr = w.alloc (.cells #[.int .i64 p, .int .i64 s, .int .i64 k, .slice oa L.length oc] 84) ∧ Ref.own (L.drop j) sel = r)
    (fun iv _ => L.length - (intOf iv).toNat)
  case atStart => exact ⟨0, rfl, by omega, by first | rfl | trivial, HD.out.symm⟩
  case round =>
    obtain ⟨j, rfl, hj, rfl, hr⟩ := hrel
    by_cases hlt : j < L.length
    · have hdrop : L.drop j = L[j] :: L.drop (j + 1) := List.drop_eq_getElem_cons hlt
      rw [hdrop, Ref.own] at hr
      obtain ⟨g, o, rfl, c0, c1⟩ := HC.out j hlt
      have hg := World.block_lt_of_cell? _ _ c0
      clear hdrop
      generalize L[j] = x at c0 c1 hr
      obtain ⟨x0, x1⟩ := x
      simp only at c0 c1 hr hg
      by_cases e : x0 = sel
      · rw [if_pos e] at hr
        have e' : (x0 == sel) = true := by simp [e]
        have HR := Lib.hid hr
        clear hr e
        go_wp2_with fail
        go_ret2
        exact ⟨by rw [← HR.out]; rfl, KA.out⟩
      · rw [if_neg e] at hr
        have e' : (x0 == sel) = false := by simp [e]
        have HR := Lib.hid hr
        clear hr e
        go_wp2_with fail
        go_roundw
        case rel => exact ⟨j + 1, by go_num, by omega, by first | rfl | trivial, HR.out⟩
        case measure => simp [intOf]; omega
    · have hge : j = L.length := by omega
      subst hge
      rw [List.drop_length, Ref.own] at hr
      have HR := Lib.hid hr
      clear hr
      go_wp2_with fail
      go_ret2
      exact ⟨by rw [← HR.out]; rfl, KA.out⟩
end Go.Proofs.Shed
