/- IfaceKeepsUptoSaid is proved: of any rows of numbers, of bulk at most 1048576, IfaceKeeps returns true and leaves its arguments as they were. No condition but the statement's own. -/
import Derived.Test.YthhfkhhhclmimaaWKeep
import Derived.Test.YthhfkhhhclmimaaRows
import Derived.ProofKit
import Derived.OpenShut
import Derived.JoinedCond
import Derived.ChangeOld
import Derived.ChangeSlices
import Derived.Deep.Slices
import Derived.Deep.Fields
import Derived.ChangeSame
namespace Go.Proofs.Ythhfkhhhclmimaa.lawIfaceKeeps
open Go.ChangeShapes Go.WideShapes Go.ChangeAt Go.RowKit Go.Deep
open Go.Proofs.Shed
set_option linter.unusedVariables false

theorem own : ownKnob Try.prog.godebug = none := by kernel_rfl
theorem laidOut : laidOutB Try.prog = true := by kernel_rfl

theorem list_of {α : Type} (n : Nat) (p : Nat → α → Prop) (h : ∀ i, i < n → ∃ x, p i x) : ∃ l : List α, l.length = n ∧ ∀ i (hi : i < l.length), p i l[i] := by
  induction n with
  | zero => exact ⟨[], rfl, fun i hi => by simp at hi⟩
  | succ n ih =>
    obtain ⟨l, hl, hp⟩ := ih fun i hi => h i (by omega)
    obtain ⟨x, hx⟩ := h n (by omega)
    refine ⟨l ++ [x], by simp [hl], fun i hi => ?_⟩
    by_cases hin : i < l.length
    · rw [List.getElem_append_left hin]; exact hp i hin
    · have : i = n := by simp at hi; omega
      subst this
      rw [List.getElem_append_right (by omega)]
      simpa [hl] using hx

theorem one_le {H : Type} (d : DataW H) : 1 ≤ Rows.uptoBulk d := by
  cases d with
  | lit l => cases l <;> simp [Rows.uptoBulk]
  | nil => simp [Rows.uptoBulk]
  | ptr d => simp [Rows.uptoBulk]
  | slice elems spare => simp [Rows.uptoBulk]
  | agg parts => simp [Rows.uptoBulk]
  | iface t d => simp [Rows.uptoBulk]
  | map entries => simp [Rows.uptoBulk]
  | held h => simp [Rows.uptoBulk]
theorem part_le {H : Type} {d : DataW H} {l : List (DataW H)} (h : d ∈ l) : Rows.uptoBulk d ≤ Rows.uptoBulkAll l := by
  induction l with
  | nil => cases h
  | cons x r ih =>
    simp only [Rows.uptoBulkAll]
    cases List.mem_cons.1 h with
    | inl e => subst e; omega
    | inr e => have := ih e; omega
theorem length_le {H : Type} (l : List (DataW H)) : l.length ≤ Rows.uptoBulkAll l := by
  induction l with
  | nil => simp [Rows.uptoBulkAll]
  | cons x r ih => have := one_le x; simp only [Rows.uptoBulkAll, List.length_cons]; omega
theorem slice_len {H : Type} (elems spare : List (DataW H)) : elems.length ≤ Rows.uptoBulk (.slice elems spare) := by
  have := length_le elems
  simp only [Rows.uptoBulk]
  omega
theorem slice_part {H : Type} {d : DataW H} (elems spare : List (DataW H)) (h : d ∈ elems) : Rows.uptoBulk d ≤ Rows.uptoBulk (.slice elems spare) := by
  have := part_le h
  simp only [Rows.uptoBulk]
  omega

/-- A row of numbers that came in. -/
theorem row_in {H : Type} {enc : TypeId × Value → H} {W : World} {fuel : Nat} {v : Value} {x : DataW H × List MemPlace} (h : DataW.trod enc Try.prog W 0 (fun _ => true) true fuel 46 [v] = some x) :
    ∃ r : Row, v = r.val ∧ ArgI W r.a r.l ∧ r.l.length ≤ r.c ∧ (∀ n ∈ r.l, In64 n) ∧ r.l.length ≤ Rows.uptoBulk x.1 := by
  rcases open_ints Try.underlying46 Try.underlying2 (by kernel_rfl) h with ⟨hcs, rfl⟩ | ⟨a, len, cap, zs, hcs, _, hl, hm, hzl, rfl, hc, hw⟩
  · obtain rfl : v = .slice none 0 0 := by simpa using hcs
    exact ⟨⟨none, 0, []⟩, rfl, fun i hi => absurd hi (by simp), by simp, fun n hn => absurd hn (by simp), by simp⟩
  · obtain rfl : v = .slice (some a) len cap := by simpa using hcs
    simp only [if_true] at hzl
    refine ⟨⟨some a, cap, zs.take len⟩, ?_, fun i hi => ?_, ?_, fun n hn => ?_, ?_⟩
    · unfold Row.val
      simp only
      rw [List.length_take, hzl, Nat.min_eq_left hl]
    · simp only at hi
      rw [List.length_take] at hi
      have h1 := hc i (by omega)
      obtain ⟨b, o, sp⟩ := a
      have hsp : sp = none := by
        have h0 := hc 0 (by omega)
        simpa [Addr.add] using World.cell?_spot h0
      subst hsp
      rw [Addr.add_lit] at h1
      refine ⟨b, o, rfl, ?_⟩
      rw [h1]
      simp only [List.getElem_take]
      rw [List.getD_eq_getElem?_getD, List.getElem?_eq_getElem (by omega)]
      rfl
    · simp only
      rw [List.length_take]
      omega
    · have := hw n (List.mem_of_mem_take hn)
      simp only [Lit.wf, Bool.and_eq_true, decide_eq_true_eq] at this
      exact ⟨this.1, this.2⟩
    · have := slice_len (H := H) (lits .i64 (zs.take len)) (lits .i64 (zs.drop len))
      simpa [lits] using this
/-- The rows that came in. -/
theorem rows_in {H : Type} {enc : TypeId × Value → H} {W : World} {a : Option Addr} {n c : Nat} {d : DataW H} {p : List MemPlace} (h : DataW.Trod enc Try.prog W 0 (fun _ => true) true 63 (.slice a n c) d p) :
    ∃ R : List Row, R.length = n ∧ ArgR W a R ∧ n ≤ Rows.uptoBulk d ∧ ∀ r ∈ R, r.l.length ≤ Rows.uptoBulk d := by
  obtain ⟨fuel, hf⟩ := h
  rcases open_slice1 Try.underlying63 (by kernel_rfl) hf with ⟨hcs, _⟩ | ⟨ad, l, c', m, k, V, D, Pl, hcs, _, hl, hm, hmm, hx, hi⟩
  · simp [Value.cells] at hcs
    obtain ⟨rfl, rfl, rfl⟩ := hcs
    exact ⟨[], rfl, fun i hi => absurd hi (by simp), Nat.zero_le _, fun r hr => absurd hr (by simp)⟩
  · simp [Value.cells] at hcs
    obtain ⟨rfl, rfl, rfl⟩ := hcs
    simp only [if_true] at hmm
    subst hmm
    obtain ⟨rfl, rfl⟩ := Prod.mk.inj hx
    obtain ⟨R, h1, h2⟩ := list_of n (fun i (r : Row) => W.cell? (ad.add i) = some r.val ∧ ArgI W r.a r.l ∧ r.l.length ≤ r.c ∧ (∀ n ∈ r.l, In64 n) ∧ r.l.length ≤ Rows.uptoBulk (D i)) (fun i hin => by
      obtain ⟨c1, t1⟩ := hi i (by omega)
      obtain ⟨r, e, q1, q2, q3, q4⟩ := row_in t1
      exact ⟨r, by rw [c1, e], q1, q2, q3, q4⟩)
    refine ⟨R, h1, fun i hi' => ?_, ?_, fun r hr => ?_⟩
    · obtain ⟨q0, q1, q2, q3, q4⟩ := h2 i hi'
      obtain ⟨b, o, sp⟩ := ad
      have hsp : sp = none := by simpa [Addr.add] using World.cell?_spot (h2 0 (by omega)).1
      subst hsp
      rw [Addr.add_lit] at q0
      exact ⟨b, o, rfl, q0, q1, q2, q3⟩
    · refine Nat.le_trans ?_ (slice_len _ _)
      simp
    · obtain ⟨i, hi', rfl⟩ := List.getElem_of_mem hr
      obtain ⟨q0, q1, q2, q3, q4⟩ := h2 i hi'
      exact Nat.le_trans q4 (slice_part _ _ (List.mem_map.2 ⟨i, List.mem_range.2 (by omega), rfl⟩))

set_option maxRecDepth 100000 in
theorem lifted (os : Os) (started : os.Started) (H : Type) (enc : TypeId × Value → H) (F : Stop.Interp) :
    ReturnsInHanded {} Try.checked os 6 .any ((Rows.OpenSpec.upto Rows.ifaceKeepsSpec).pre6 enc Try.prog Try.f6 Rows.ifaceKeepsUptoRow.domain false) (((Rows.OpenSpec.upto Rows.ifaceKeepsSpec).at F).post enc Try.prog Try.f6 false true false false) := by
  refine returnsInHanded_of_cond (C := Try.checked) (s := Rows.OpenSpec.upto Rows.ifaceKeepsSpec) (k := Rows.uptoSmall) rfl own started (by kernel_rfl) Try.func6
    (OpenSpec.witness (enc := enc) (C := Try.checked) (s := Rows.OpenSpec.upto Rows.ifaceKeepsSpec) (k := Rows.uptoSmall) rfl false ⟨#[], #[.slice none 0 0, .int .u16 0], []⟩ 8 (by kernel_rfl) (by kernel_rfl) (by kernel_rfl)
      (x := ([.nil, .lit (.int .u16 0)], [], [])) (by kernel_rfl) rfl (by kernel_rfl)) ?_
  intro W base args ds gs before hval0 hW _ hk _
  have hval : ∀ (j : Nat) t v, Try.f6.params[j]? = some t → args[j]? = some v → Value.okWide Try.prog W .any base t v := hval0
  have hW' := hW
  obtain ⟨p, q, hA0, hV, rfl, hfz, hnd⟩ := hW
  have hA : DataW.TrodAll enc Try.prog W 0 (fun _ => true) true Try.f6.params.toList args.toList ds p := hA0
  rw [Try.params6] at hA hval
  obtain ⟨v0, vs0, d0, ds0, p0, q0, hargs, rfl, rfl, h0, r0⟩ := trodAll_cons hA
  obtain ⟨v1, vs1, d1, ds1, p1, q1, rfl, rfl, rfl, h1, r1⟩ := trodAll_cons r0
  obtain ⟨rfl, rfl, rfl⟩ := trodAll_nil r1
  obtain rfl : args = #[v0, v1] := by cases args; simp_all
  obtain ⟨rfl, rfl⟩ := trodVars_none hV
  obtain ⟨a0, len0, cap0, rfl⟩ := okWide_slice Try.underlying63 (hval 0 63 v0 rfl rfl)
  obtain ⟨room, rfl, rfl, rfl, w1⟩ := open_int Try.underlying64 (hval 1 64 v1 rfl rfl) h1
  have k0 := h0
  have lt0 : ∀ x ∈ p0, x.block < W.heap.size := by obtain ⟨m, hm⟩ := k0; exact DataW.trod_lt m _ _ _ hm
  clear hA0 hval0
  obtain ⟨R, hR, hrow, hb1, hb2⟩ := rows_in h0
  have hbulk : Rows.uptoBulk d0 ≤ 1048576 := by
    have hk' : Rows.uptoBulkAll ([d0, .lit (.int .u16 room)] ++ []) ≤ 1048576 := of_decide_eq_true hk
    exact Nat.le_trans (part_le (by simp)) hk'
  have hroom : 0 ≤ room ∧ room < 65536 := by
    have w2 := w1
    simp only [Lit.wf, Bool.and_eq_true, decide_eq_true_eq] at w2
    have e0 : IntKind.u16.min = 0 := rfl
    have e1 : IntKind.u16.max = 65535 := rfl
    rw [e0, e1] at w2
    omega
  obtain ⟨k, rfl⟩ : ∃ k : Nat, room = k := ⟨room.toNat, by omega⟩
  subst hR
  refine (keeps_law W a0 cap0 R k (by omega) hrow (by omega) (fun r hr => Nat.le_trans (hb2 r hr) hbulk)).mono fun e W' ⟨he, hkp⟩ => ?_
  have bel : Below W.heap.size W W' := hkp.below (Nat.le_refl _) (fun _ _ h => h)
  subst he
  exact ⟨_, rfl, _, _, _, [], _, [], hW', trodAll_mk1 (shut_bool Try.underlying4 _), (trodAll_cons_mk (Below.trod laidOut (by kernel_rfl) (of_decide_eq_true (by kernel_rfl)) k0 bel lt0) (trodAll_cons_mk (shut_int Try.underlying64 w1) trodAll_mk0)), rfl, bel.frame _, fun h => by cases h⟩

theorem proved : Rows.IfaceKeepsUptoSaid :=
  OpenClaim.holds_of_cond 6 Try.f6 rfl rfl rfl rfl rfl rfl rfl ⟨rfl, rfl, rfl, rfl, rfl⟩ rfl rfl rfl rfl rfl (by kernel_rfl) Try.func6 (by kernel_rfl)
    (of_decide_eq_true (by kernel_rfl)) (by unfold Func.isWrapper; first | (rw [if_pos (by decide +kernel)]; kernel_rfl) | (rw [if_neg (by decide +kernel)]; exact ⟨rfl, rfl⟩))
    (fun os started H enc _ F => lifted os started H enc F)
#print axioms proved
end Go.Proofs.Ythhfkhhhclmimaa.lawIfaceKeeps
