/- IfaceMissingSaid is proved: of any input IfaceMissing returns true and leaves its arguments as they were. No condition. -/
import Derived.Test.YthhfkhhhclmimaaWMissB
import Derived.Test.YthhfkhhhclmimaaRows
import Derived.ProofKit
import Derived.OpenShut
import Derived.ChangeOld
import Derived.Deep.Slices
import Derived.Deep.Fields
import Derived.ChangeSame
namespace Go.Proofs.Ythhfkhhhclmimaa.lawIfaceMissing
open Go.ChangeShapes Go.WideShapes Go.ChangeAt Go.RowKit Go.Deep
open Go.Proofs.Shed Go.Proofs.K
set_option linter.unusedVariables false

theorem own : ownKnob Try.prog.godebug = none := by kernel_rfl
theorem laidOut : laidOutB Try.prog = true := by kernel_rfl

section
variable {H : Type} {enc : TypeId × Value → H} {P : Program} {w : World} {base : Nat} {spare : Nat → Bool} {held : Bool}
theorem open_slice_fields {t e : TypeId} {fs : Array Field} {fuel : Nat} {cs : List Value} {x : DataW H × List MemPlace} (ht : P.underlying t = some (.slice e)) (he : P.underlying e = some (.struct fs))
    (hone : oneCellFields P fs = true) (hC : P.cellsOf e = fs.size) (h : DataW.trod enc P w base spare held fuel t cs = some x) :
    (cs = [.slice none 0 0] ∧ x = (.nil, [])) ∨
    ∃ (a : Addr) (len cap m : Nat) (D : Nat → DataW H) (Pl : Nat → List MemPlace), cs = [.slice (some a) len cap] ∧ base ≤ a.block ∧ len ≤ cap ∧ cap ≤ maxLen ∧ m = (if spare a.block then cap else len) ∧
      x = (.slice ((List.range len).map D) ((List.range (m - len)).map fun j => D (len + j)), MemPlace.row a (m * fs.size) ++ (List.range m).flatMap Pl) ∧
      ∀ i, i < m → ∃ (ys : List (DataW H × List MemPlace)) (n : Nat), D i = .agg (ys.map (·.1)) ∧ Pl i = ys.flatMap (·.2) ∧ ys.length = fs.size ∧
        ∀ (j : Nat) (f : Field), fs[j]? = some f → ∃ (v : Value) (y : DataW H × List MemPlace), w.cell? (a.add (i * fs.size + j)) = some v ∧ ys[j]? = some y ∧ DataW.trod enc P w base spare held n f.type [v] = some y := by
  rcases open_slice ht h with h0 | ⟨a, len, cap, m, n, D, Pl, hcs, hb, hl, hm, hmm, hx, hi⟩
  · exact .inl h0
  · refine .inr ⟨a, len, cap, m, D, Pl, hcs, hb, hl, hm, hmm, by rw [hC] at hx; exact hx, fun i him => ?_⟩
    obtain ⟨cs', hc, ht'⟩ := hi i him
    rw [hC] at hc
    obtain ⟨ys, n', hn', hy, hlen, hyl, hf⟩ := DataW.trod_struct he ht'
    obtain ⟨_, hcl, hat⟩ := World.cells?_some hc
    simp only [Prod.mk.injEq] at hy
    refine ⟨ys, n', hy.1, hy.2, hyl, fun j f hj => ?_⟩
    obtain ⟨ho, hk⟩ := hone_of hone j f hj
    have hjl : j < fs.size := (Array.getElem?_eq_some_iff.1 hj).1
    have hcell := hat j hjl
    have hv : cs'[j]? = some (cs'[j]'(by omega)) := List.getElem?_eq_getElem (by omega)
    have h1 := hf j f hj
    rw [ho, hk] at h1
    have hone' : (cs'.drop j).take 1 = [cs'[j]'(by omega)] := by
      rw [List.drop_eq_getElem_cons (by omega)]
      rfl
    rw [hone'] at h1
    have hys : ys[j]? = some (ys[j]'(by omega)) := List.getElem?_eq_getElem (by omega)
    refine ⟨_, _, ?_, hys, h1.trans hys⟩
    rw [← Go.Deep.add_add, hcell, hv]
end

/-- A list out of facts on its places. -/
theorem list_of {α : Type} (n : Nat) (p : Nat → α → Prop) (h : ∀ i, i < n → ∃ x, p i x) : ∃ l : List α, l.length = n ∧ ∀ i (hi : i < l.length), p i l[i] := by
  induction n with
  | zero => exact ⟨[], rfl, fun i hi => by simp at hi⟩
  | succ n ih =>
    obtain ⟨l, hl, hp⟩ := ih fun i hi => h i (by omega)
    obtain ⟨x, hx⟩ := h n (by omega)
    refine ⟨l ++ [x], by simp [hl], fun i hi => ?_⟩
    by_cases hin : i < l.length
    · rw [List.getElem_append_left hin]; exact hp i hin
    · have : i = n := by simp at hi; omega
      subst this
      rw [List.getElem_append_right (by omega)]
      simpa [hl] using hx


theorem u8_bd {n : Int} (w : (Lit.int .u8 n).wf = true) : 0 ≤ n ∧ n < 256 := by
  simp only [Lit.wf, Bool.and_eq_true, decide_eq_true_eq] at w
  have e0 : IntKind.u8.min = 0 := rfl
  have e1 : IntKind.u8.max = 255 := rfl
  rw [e0, e1] at w
  omega
theorem i16_bd {n : Int} (w : (Lit.int .i16 n).wf = true) : -32768 ≤ n ∧ n ≤ 32767 := by
  simp only [Lit.wf, Bool.and_eq_true, decide_eq_true_eq] at w
  have e0 : IntKind.i16.min = -32768 := rfl
  have e1 : IntKind.i16.max = 32767 := rfl
  rw [e0, e1] at w
  omega

theorem acts_in {H : Type} {enc : TypeId × Value → H} {W : World} {a : Option Addr} {n c : Nat} {d : DataW H} {p : List MemPlace} (h : DataW.Trod enc Try.prog W 0 (fun _ => true) true 42 (.slice a n c) d p) :
    ∃ D : List Deed, D.length = n ∧ ArgD W a D := by
  obtain ⟨fuel, hf⟩ := h
  rcases open_slice_fields Try.underlying42 Try.underlying53 (by kernel_rfl) (by kernel_rfl) hf with ⟨hcs, _⟩ | ⟨ad, l, c', m, D, Pl, hcs, _, hl, hm, hmm, _, hi⟩
  · simp [Value.cells] at hcs
    obtain ⟨rfl, rfl, rfl⟩ := hcs
    exact ⟨[], rfl, fun i hi => by simp at hi⟩
  · simp [Value.cells] at hcs
    obtain ⟨rfl, rfl, rfl⟩ := hcs
    simp only [if_true] at hmm
    subst hmm
    obtain ⟨ms, h1, h2⟩ := list_of n (fun i (x : Deed) => W.cell? (ad.add (i * 5)) = some (.int .u8 x.kind) ∧ W.cell? (ad.add (i * 5 + 1)) = some (.int .u8 x.p) ∧ W.cell? (ad.add (i * 5 + 2)) = some (.int .u8 x.c) ∧
        W.cell? (ad.add (i * 5 + 3)) = some (.int .i16 x.sel) ∧ W.cell? (ad.add (i * 5 + 4)) = some (.int .i16 x.xt) ∧ x.Ok) (fun i hin => by
      obtain ⟨ys, k, _, _, _, hj⟩ := hi i (by omega)
      obtain ⟨v0, y0, c0, _, t0⟩ := hj 0 _ rfl
      obtain ⟨v1, y1, c1, _, t1⟩ := hj 1 _ rfl
      obtain ⟨v2, y2, c2, _, t2⟩ := hj 2 _ rfl
      obtain ⟨v3, y3, c3, _, t3⟩ := hj 3 _ rfl
      obtain ⟨v4, y4, c4, _, t4⟩ := hj 4 _ rfl
      obtain ⟨x0, e0, _, f0⟩ := DataW.trod_int Try.underlying5 t0
      obtain ⟨x1, e1, _, f1⟩ := DataW.trod_int Try.underlying5 t1
      obtain ⟨x2, e2, _, f2⟩ := DataW.trod_int Try.underlying5 t2
      obtain ⟨x3, e3, _, f3⟩ := DataW.trod_int Try.underlying51 t3
      obtain ⟨x4, e4, _, f4⟩ := DataW.trod_int Try.underlying51 t4
      simp at e0 e1 e2 e3 e4
      subst e0 e1 e2 e3 e4
      have b0 := u8_bd f0
      have b1 := u8_bd f1
      have b2 := u8_bd f2
      have b3 := i16_bd f3
      have b4 := i16_bd f4
      refine ⟨⟨x0.toNat, x1.toNat, x2.toNat, x3, x4⟩, ?_, ?_, ?_, c3, c4, ?_⟩
      · rw [show ((x0.toNat : Nat) : Int) = x0 by omega]; exact c0
      · rw [show ((x1.toNat : Nat) : Int) = x1 by omega]; exact c1
      · rw [show ((x2.toNat : Nat) : Int) = x2 by omega]; exact c2
      · unfold Deed.Ok
        simp only
        omega)
    refine ⟨ms, h1, fun i hi => ?_⟩
    obtain ⟨c0, c1, c2, c3, c4, ok⟩ := h2 i hi
    obtain ⟨b, o, sp⟩ := ad
    have hsp : sp = none := by simpa [Addr.add] using World.cell?_spot (h2 0 (by omega)).1
    subst hsp
    rw [Addr.add_lit] at c0 c1 c2 c3 c4
    exact ⟨b, o, rfl, c0, by rw [Nat.add_assoc]; exact c1, by rw [Nat.add_assoc]; exact c2, by rw [Nat.add_assoc]; exact c3, by rw [Nat.add_assoc]; exact c4, ok⟩

theorem sels_in {H : Type} {enc : TypeId × Value → H} {W : World} {a : Option Addr} {n c : Nat} {d : DataW H} {p : List MemPlace} (h : DataW.Trod enc Try.prog W 0 (fun _ => true) true 43 (.slice a n c) d p) :
    ∃ S : List Int, S.length = n ∧ ArgS W a S := by
  obtain ⟨fuel, hf⟩ := h
  rcases open_slice1 Try.underlying43 (by kernel_rfl) hf with ⟨hcs, _⟩ | ⟨ad, l, c', m, k, V, D, Pl, hcs, _, hl, hm, hmm, _, hi⟩
  · simp [Value.cells] at hcs
    obtain ⟨rfl, rfl, rfl⟩ := hcs
    exact ⟨[], rfl, fun i hi => by simp at hi⟩
  · simp [Value.cells] at hcs
    obtain ⟨rfl, rfl, rfl⟩ := hcs
    simp only [if_true] at hmm
    subst hmm
    obtain ⟨ms, h1, h2⟩ := list_of n (fun i (x : Int) => W.cell? (ad.add i) = some (.int .i16 x) ∧ -32768 ≤ x ∧ x ≤ 32767) (fun i hin => by
      obtain ⟨c1, t1⟩ := hi i (by omega)
      obtain ⟨x1, e1, _, f1⟩ := DataW.trod_int Try.underlying51 t1
      simp at e1
      exact ⟨x1, by rw [c1, e1], i16_bd f1⟩)
    refine ⟨ms, h1, fun i hi => ?_⟩
    obtain ⟨c1, b1, b2⟩ := h2 i hi
    obtain ⟨b, o, sp⟩ := ad
    have hsp : sp = none := by simpa [Addr.add] using World.cell?_spot (h2 0 (by omega)).1
    subst hsp
    rw [Addr.add_lit] at c1
    exact ⟨b, o, rfl, c1, b1, b2⟩

theorem walk (W : World) (la lb : Option Addr) (n m c1 c2 : Nat) (k : Nat) (hk : k < 256) (h1 : ∃ D : List Deed, D.length = n ∧ ArgD W la D) (h2 : ∃ S : List Int, S.length = m ∧ ArgS W lb S) :
    Calls Try.prog 5 #[.slice la n c1, .slice lb m c2, .int .u8 k] W fun e w' => e = .returned (.bool true) ∧ Below W.heap.size W w' := by
  obtain ⟨D, rfl, hD⟩ := h1
  obtain ⟨S, rfl, hS⟩ := h2
  have fin : ∀ (e : Ending) w', (e = .returned (.bool true) ∧ Keeps (fun _ => False) W w') → e = .returned (.bool true) ∧ Below W.heap.size W w' := fun e w' h => ⟨h.1, h.2.below (Nat.le_refl _) (fun _ _ h => h)⟩
  by_cases h : D.length ≤ 40 ∧ S.length ≤ 100
  · exact (miss_walk W la c1 D lb c2 S k hk hD hS h.1 h.2).mono fin
  · exact (miss_long W la _ c1 lb _ c2 k (by omega)).mono fin

set_option maxRecDepth 100000 in
theorem lifted (os : Os) (started : os.Started) (H : Type) (enc : TypeId × Value → H) :
    ReturnsInHanded {} Try.checked os 5 .any (Rows.ifaceMissingSpec.pre6 enc Try.prog Try.f5 Rows.ifaceMissingRow.domain false) (Rows.ifaceMissingSpec.post enc Try.prog Try.f5 false true false false) := by
  refine returnsInHanded_of_change (C := Try.checked) own started (by kernel_rfl) Try.func5
    (ChangeSpec.witness6 (enc := enc) (C := Try.checked) false ⟨#[], #[.slice none 0 0, .slice none 0 0, .int .u8 0], []⟩ 8 (by kernel_rfl) (by kernel_rfl) (by kernel_rfl) (by kernel_rfl)) ?_
  intro W base args ds gs before hval0 hW hcnd _
  have hval : ∀ (j : Nat) t v, Try.f5.params[j]? = some t → args[j]? = some v → Value.okWide Try.prog W .any base t v := hval0
  have hW' := hW
  obtain ⟨p, q, hA0, hV, rfl, hfz, hnd⟩ := hW
  have hA : DataW.TrodAll enc Try.prog W 0 (fun _ => true) true Try.f5.params.toList args.toList ds p := hA0
  rw [Try.params5] at hA hval
  obtain ⟨v0, vs0, d0, ds0, p0, q0, hargs, rfl, rfl, h0, r0⟩ := trodAll_cons hA
  obtain ⟨v1, vs1, d1, ds1, p1, q1, rfl, rfl, rfl, h1, r1⟩ := trodAll_cons r0
  obtain ⟨v2, vs2, d2, ds2, p2, q2, rfl, rfl, rfl, h2, r2⟩ := trodAll_cons r1
  obtain ⟨rfl, rfl, rfl⟩ := trodAll_nil r2
  obtain rfl : args = #[v0, v1, v2] := by cases args; simp_all
  obtain ⟨rfl, rfl⟩ := trodVars_none hV
  obtain ⟨a0, len0, cap0, rfl⟩ := okWide_slice Try.underlying42 (hval 0 42 v0 rfl rfl)
  obtain ⟨a1, len1, cap1, rfl⟩ := okWide_slice Try.underlying43 (hval 1 43 v1 rfl rfl)
  obtain ⟨which, rfl, rfl, rfl, w2⟩ := open_int Try.underlying5 (hval 2 5 v2 rfl rfl) h2
  have k0 := h0
  have lt0 : ∀ x ∈ p0, x.block < W.heap.size := by obtain ⟨m, hm⟩ := k0; exact DataW.trod_lt m _ _ _ hm
  have k1 := h1
  have lt1 : ∀ x ∈ p1, x.block < W.heap.size := by obtain ⟨m, hm⟩ := k1; exact DataW.trod_lt m _ _ _ hm
  clear hA0 hval0
  have hb := u8_bd w2
  obtain ⟨k, rfl⟩ : ∃ k : Nat, which = k := ⟨which.toNat, by omega⟩
  refine (walk W a0 a1 len0 len1 cap0 cap1 k (by omega) (acts_in h0) (sels_in h1)).mono fun e W' ⟨he, bel⟩ => ?_
  subst he
  exact ⟨_, rfl, _, _, _, [], _, [], hW', trodAll_mk1 (shut_bool Try.underlying4 _), (trodAll_cons_mk (Below.trod laidOut (by kernel_rfl) (of_decide_eq_true (by kernel_rfl)) k0 bel lt0) (trodAll_cons_mk (Below.trod laidOut (by kernel_rfl) (of_decide_eq_true (by kernel_rfl)) k1 bel lt1) (trodAll_cons_mk (shut_int Try.underlying5 w2) trodAll_mk0))), rfl, bel.frame _, fun h => by cases h⟩

theorem over : Rows.ifaceMissingRow.holds Try.pinned (OpenSpec.ofChange Rows.ifaceMissingSpec) :=
  OpenClaim.holds_of_wide 5 Try.f5 rfl rfl rfl rfl rfl rfl rfl ⟨rfl, rfl, rfl, rfl, rfl⟩ rfl rfl rfl rfl rfl (by kernel_rfl) Try.func5 (by kernel_rfl)
    (of_decide_eq_true (by kernel_rfl)) (by unfold Func.isWrapper; first | (rw [if_pos (by decide +kernel)]; kernel_rfl) | (rw [if_neg (by decide +kernel)]; exact ⟨rfl, rfl⟩))
    (fun os started H enc _ => lifted os started H enc)

theorem proved : Rows.IfaceMissingSaid := over
#print axioms proved
end Go.Proofs.Ythhfkhhhclmimaa.lawIfaceMissing
