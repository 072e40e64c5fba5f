/- A list of classes, in which one class's own methods are exchanged. No condition. -/
import Derived.Test.YthhfkhhhclmimaaWRefE
set_option linter.unusedVariables false
set_option linter.unusedSimpArgs false
set_option maxRecDepth 10000
namespace Go.Proofs.Shed
open Go Go.RowKit Go.Proofs.K

theorem rc_set (V : List RC) (k : Nat) (h : k < V.length) (a : Option Addr) (n c : Nat) :
    (V.flatMap RC.cells).set (k * 4 + 3) (.slice a n c) = (V.set k { V[k] with oa := a, on := n, oc := c }).flatMap RC.cells := by
  induction V generalizing k with
  | nil => simp at h
  | cons v V ih =>
    cases k with
    | zero => rfl
    | succ k =>
      have := ih k (by simpa using h)
      have e : (v :: V).flatMap RC.cells = v.cells ++ V.flatMap RC.cells := rfl
      rw [e, List.set_append_right _ _ (by simp [RC.cells]; omega)]
      rw [show (k + 1) * 4 + 3 - v.cells.length = k * 4 + 3 by simp [RC.cells]; omega, this]
      rfl

theorem RefV.setOwn {N : Nat → Prop} {w w' : World} {a : Option Addr} {c : Nat} {V : List RC} {L : List RCls} (h : RefV N w a c V L) (k : Keeps (fun _ => False) w w') {g c' : Nat} (o : Own w' 84 4 (some ⟨g, 0, none⟩) L.length c' (V.flatMap RC.cells))
    (hg : N g) (hgw : w.heap.size ≤ g) {j : Nat} (hj : j < L.length) {qa : Option Addr} {qn qc : Nat} {Q : List (Int × Int)} (hq : OwnAt N w' qa qn qc Q) (hqg : blk qa ≠ some g) :
    ∃ hv : j < V.length, RefV N (w'.setCell ⟨g, j * 4 + 3, none⟩ (.slice qa qn qc)) (some ⟨g, 0, none⟩) c' (V.set j { V[j] with oa := qa, on := qn, oc := qc }) (L.set j { L[j] with own := Q }) := by
  have hvl := h.len
  have hv : j < V.length := by omega
  refine ⟨hv, ?_, fun g' e => ?_, by simp [hvl], fun i h1 h2 => ?_, fun i h1 g' e e' => ?_⟩
  · rcases o.form with ⟨hx, _⟩ | ⟨g', cur, hx, hh, hnc, hcm, hcs, htk, hxl⟩
    · cases hx
    · cases hx
      refine ⟨by rw [rc_len, List.length_set], .inr ⟨g, c', cur.setIfInBounds (j * 4 + 3) (.slice qa qn qc), by rw [List.length_set, hvl], Nat.zero_le _, hset_same hh _, by rw [List.length_set, hvl]; exact hnc, hcm, by rw [Array.size_setIfInBounds]; exact hcs, ?_⟩⟩
      rw [List.length_set, hvl, ← rc_set V j hv, ← htk, Array.toList_setIfInBounds, List.take_set]
  · have e' : g = g' := Option.some.inj e
    rw [← e']; exact hg
  · have kk := k.trans' (Keeps.setCell (S := fun k => k = g) w' ⟨g, j * 4 + 3, none⟩ (.slice qa qn qc) (fun _ => rfl)) (fun i hi e => by have e' : i = g := e; omega)
    by_cases e : i = j
    · subst e
      rw [List.getElem_set_self, List.getElem_set_self]
      obtain ⟨e1, e2, e3, e4⟩ := h.is i hv hj
      exact ⟨e1, e2, e3, hq.keeps (Keeps.setCell (S := fun k => k = g) w' _ _ (fun _ => rfl)) (fun g' hg' e => hqg (by rw [hg', e]))⟩
    · rw [List.getElem_set_ne (fun h => e h.symm), List.getElem_set_ne (fun h => e h.symm)]
      obtain ⟨e1, e2, e3, e4⟩ := h.is i (by simpa using h1) (by simpa using h2)
      exact ⟨e1, e2, e3, e4.keeps kk (fun _ _ => id)⟩
  · have e'' : g = g' := Option.some.inj e'
    subst e''
    by_cases hij : i = j
    · subst hij
      rw [List.getElem_set_self] at e
      exact hqg e
    · rw [List.getElem_set_ne (fun h => hij h.symm)] at e
      have := ((h.is i (by simpa using h1) (by rw [← hvl]; simpa using h1)).2.2.2.2.2.1 g e).2
      omega
end Go.Proofs.Shed
