/- The statements' world of classes: Make, where there is no room; a class's size. Conditions: the world lies in blocks of its own. -/
import Derived.Test.YthhfkhhhclmimaaWWorldB
set_option linter.unusedVariables false
set_option linter.unusedSimpArgs false
set_option maxRecDepth 10000
set_option maxHeartbeats 8000000
namespace Go.Proofs.Shed
open Go Go.RowKit Go.Proofs.K

theorem world_make_over (X : Nat → Prop) (w : World) (wb s b bb : Nat) (x y : Sp) (r : Int) (A : List Int) (L : List RCls) (aA : Option Addr) (cA : Nat) (aL : Option Addr) (cL : Nat) (h : RWorld X w wb s b bb x r A L aA cA aL cL)
    (p : Nat) (slots q : Int) (hq : q = if p < A.length then A.getD p 0 else 0) (q0 : -9223372036854775808 ≤ q) (q1 : q ≤ 9223372036854775807) (hp' : (p : Int) ≤ 1000000)
    (hA : A.length ≤ 100000) (e : Class.new x r q slots = (y, 0, -8)) (hy : y.here = x.here) :
    Calls Try.prog 24 #[.pointer (some ⟨wb, 0, none⟩), .int .i64 (p : Int), .int .i64 slots] w fun e w' => e = .returned (.bool true) ∧ RWorld X w' wb s b bb y r A L aA cA aL cL ∧ Keeps (fun j => j = s ∨ j = bb) w w' := by
  have hN := Lib.hid (class_new w.drew s b bb x r q slots h.sp.drew q0 q1)
  rw [e] at hN
  have H := Lib.hid h
  have c0 := cell_of (i := 0) h.head rfl
  have c1 := cell_of (i := 1) h.head rfl
  have c2 := cell_of (i := 2) h.head rfl
  have c3 := cell_of (i := 3) h.head rfl
  have d1 : w.drew.cell? ⟨wb, 1, none⟩ = some (.pointer (some ⟨s, 0, none⟩)) := c1
  have d2 : w.drew.cell? ⟨wb, 2, none⟩ = some (.int .i64 r) := c2
  have HS := Lib.hid h.sp
  have HY := Lib.hid hy
  have NE := Lib.hid (show ¬ (wb = s ∨ wb = bb) by have := h.ne; omega)
  clear h e hy
  by_cases hp : p < A.length
  · rw [if_pos hp] at hq
    obtain ⟨g, hgA, hga⟩ : ∃ g, aA = some ⟨g, 0, none⟩ ∧ w.cell? ⟨g, p, none⟩ = some (.int .i64 q) := by
      have ho := H.out.own
      rcases Own.form ho with ⟨_, h0, _⟩ | ⟨g, cur, hx, _⟩
      · omega
      · refine ⟨g, hx, ?_⟩
        rw [hx] at ho
        refine Own.cell ho ?_
        rw [List.getElem?_map, hq, List.getD_eq_getElem?_getD, List.getElem?_eq_getElem hp]
        rfl
    have hnc : A.length ≤ cA := by
      rcases Own.form H.out.own with ⟨hx, _⟩ | ⟨g, cur, hx, hh, hnc, _⟩
      · rw [hgA] at hx; cases hx
      · exact hnc
    subst hgA
    have hpi : (p : Int) < A.length := by omega
    clear hq
    go_enter Try.func24, Try.ntmps24
    go_wp2_with fail
    refine (sp_here _ _ _ _ _ HS.out).mono ?_
    rintro e w1 ⟨rfl, rfl⟩
    clear hga
    go_wp2_with fail
    go_region_held3 (fun w' => w'.cell? ⟨wb, 1, none⟩ = some (.pointer (some ⟨s, 0, none⟩)) ∧ w'.cell? ⟨wb, 2, none⟩ = some (.int .i64 r)) (first | go_keep | exact ⟨k2.cell d1 NE.out, k2.cell d2 NE.out⟩)
      ((go_at_call 50; refine hN.out.mono ?_; rintro e w2 ⟨rfl, s2, k2⟩))
    have e1 := k2.cell d1 NE.out
    have R2 := Lib.hid (H.out.drew.space s2 k2)
    have S2 := Lib.hid s2
    have K2 := Lib.hid ((Keeps.drew _ w).trans k2)
    clear s2 k2 c0 c1 c2 c3 d1 d2 hN
    go_wp2_with fail
    refine (sp_here _ _ _ _ _ S2.out).mono ?_
    rintro e w3 ⟨rfl, rfl⟩
    rw [HY.out]
    go_wp2_with fail
    go_ret
    exact ⟨by simp, R2.out, K2.out⟩
  · rw [if_neg hp] at hq
    subst hq
    have hpn : ¬ (p : Int) < A.length := by omega
    go_enter Try.func24, Try.ntmps24
    go_wp2_with fail
    refine (sp_here _ _ _ _ _ HS.out).mono ?_
    rintro e w1 ⟨rfl, rfl⟩
    go_wp2_with fail
    go_region_held3 (fun w' => w'.cell? ⟨wb, 1, none⟩ = some (.pointer (some ⟨s, 0, none⟩)) ∧ w'.cell? ⟨wb, 2, none⟩ = some (.int .i64 r)) (first | go_keep | exact ⟨k2.cell d1 NE.out, k2.cell d2 NE.out⟩)
      ((go_at_call 50; refine hN.out.mono ?_; rintro e w2 ⟨rfl, s2, k2⟩))
    have e1 := k2.cell d1 NE.out
    have R2 := Lib.hid (H.out.drew.space s2 k2)
    have S2 := Lib.hid s2
    have K2 := Lib.hid ((Keeps.drew _ w).trans k2)
    clear s2 k2 c0 c1 c2 c3 d1 d2 hN
    go_wp2_with fail
    refine (sp_here _ _ _ _ _ S2.out).mono ?_
    rintro e w3 ⟨rfl, rfl⟩
    rw [HY.out]
    go_wp2_with fail
    go_ret
    exact ⟨by simp, R2.out, K2.out⟩
theorem rc_size (V : List RC) (k : Nat) (h : k < V.length) (n : Int) :
    (V.flatMap RC.cells).set (k * 4 + 1) (.int .i64 n) = (V.set k { V[k] with size := n }).flatMap RC.cells := by
  induction V generalizing k with
  | nil => simp at h
  | cons v V ih =>
    cases k with
    | zero => rfl
    | succ k =>
      have := ih k (by simpa using h)
      have e : (v :: V).flatMap RC.cells = v.cells ++ V.flatMap RC.cells := rfl
      rw [e, List.set_append_right _ _ (by simp [RC.cells]; omega)]
      rw [show (k + 1) * 4 + 1 - v.cells.length = k * 4 + 1 by simp [RC.cells]; omega, this]
      rfl
/-- A class's size alone is another one. -/
theorem RefL.size {N : Nat → Prop} {w : World} {g n c : Nat} {L : List RCls} (h : RefL N w (some ⟨g, 0, none⟩) n c L) {j : Nat} (hj : j < L.length) (z : Int) :
    RefL N (w.setCell ⟨g, j * 4 + 1, none⟩ (.int .i64 z)) (some ⟨g, 0, none⟩) n c (L.set j { L[j] with size := z }) := by
  obtain ⟨hn, V, hV⟩ := h
  have hvl := hV.len
  have hv : j < V.length := by omega
  have kk := Keeps.setCell (S := fun k => k = g) w ⟨g, j * 4 + 1, none⟩ (.int .i64 z) (fun _ => rfl)
  refine ⟨by rw [List.length_set]; exact hn, V.set j { V[j] with size := z }, ?_, hV.home, by simp [hvl], fun i h1 h2 => ?_, fun i h1 g' e e' => ?_⟩
  · rcases hV.own.form with ⟨hx, _⟩ | ⟨g', cur, hx, hh, hnc, hcm, hcs, htk, hxl⟩
    · cases hx
    · cases hx
      refine ⟨by rw [rc_len], .inr ⟨g, c, cur.setIfInBounds (j * 4 + 1) (.int .i64 z), by rw [List.length_set], Nat.zero_le _, hset_same hh _, by rw [List.length_set]; exact hnc, hcm, by rw [Array.size_setIfInBounds]; exact hcs, ?_⟩⟩
      rw [List.length_set, ← rc_size V j hv, ← htk, Array.toList_setIfInBounds, List.take_set]
  · have hap := hV.apart i (by simpa using h1)
    obtain ⟨e1, e2, e3, e4⟩ := hV.is i (by simpa using h1) (by simpa using h2)
    have e5 := e4.keeps kk (fun g' hg' e => hap g' hg' (by rw [e]; rfl))
    by_cases e : i = j
    · subst e
      rw [List.getElem_set_self, List.getElem_set_self]
      exact ⟨e1, rfl, e3, e5⟩
    · rw [List.getElem_set_ne (fun h => e h.symm), List.getElem_set_ne (fun h => e h.symm)]
      exact ⟨e1, e2, e3, e5⟩
  · have hap := hV.apart i (by simpa using h1)
    by_cases e2 : i = j
    · subst e2
      rw [List.getElem_set_self] at e
      exact hap g' e e'
    · rw [List.getElem_set_ne (fun h => e2 h.symm)] at e
      exact hap g' e e'
end Go.Proofs.Shed
