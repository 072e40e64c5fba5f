/- A map[int64]bool that the call makes: a list of what is in it. No condition. -/
import Derived.Test.YthhfkhhhclmimaaWCB
import Derived.Maps.Own
import Derived.Maps.Views
set_option linter.unusedVariables false
set_option linter.unusedSimpArgs false
set_option maxRecDepth 10000
namespace Go.Proofs.Shed
open Go Go.RowKit Go.Proofs.K

theorem seen_law : Go.Maps.Keyed Try.prog 2 := Go.Maps.int_keyed Try.underlying2
theorem seen_zero (w : World) : (zeroValue 4).run Try.prog w = .ok (.bool false) w := by kernel_rfl
/-- The block b is a map in which just the keys of a list are true. -/
def Seen (w : World) (b : Nat) (L : List Int) : Prop := ∃ D : DataW Unit, w.ownsMap Try.prog 2 (plainElem Try.prog 4) b L.length D ∧ Go.Maps.IsMap D ∧ ∀ a : Int, D.atKey (.int .i64 a) (.lit (.bool false)) = .lit (.bool (decide (a ∈ L)))

theorem Seen.made (w : World) : Seen (w.alloc (.map #[] 0)) w.heap.size [] :=
  ⟨.map [], World.ownsMap_made _ _ _ _, Go.Maps.isMap_empty, fun a => rfl⟩
theorem Seen.lt {w : World} {b : Nat} {L : List Int} (h : Seen w b L) : b < w.heap.size := by
  obtain ⟨D, h, _⟩ := h
  exact h.lt
theorem Seen.keeps {w w' : World} {b : Nat} {L : List Int} (h : Seen w b L) {S : Nat → Prop} (k : Keeps S w w') (hs : ¬ S b) : Seen w' b L := by
  obtain ⟨D, ⟨es, clock, hb, r⟩, h2⟩ := h
  exact ⟨D, ⟨es, clock, k.heap hb hs, r⟩, h2⟩
theorem wf_i64 {a : Int} (h0 : -9223372036854775808 ≤ a) (h1 : a ≤ 9223372036854775807) : (Lit.int .i64 a).wf = true := WalkArith.wf_i64 (by omega)
theorem Seen.look {w : World} {b : Nat} {L : List Int} (h : Seen w b L) (a : Int) (h0 : -9223372036854775808 ≤ a) (h1 : a ≤ 9223372036854775807) :
    (Instr.lookup 79 (.map (some b)) (.int .i64 a) false).run Try.prog w = .ok (.bool (decide (a ∈ L))) w := by
  obtain ⟨D, h, _, hat⟩ := h
  obtain ⟨v, ps, hrun, hv⟩ := h.lookup seen_law Try.underlying79 (seen_zero w) (plainElem_bool Try.underlying4 false) (Go.Maps.keyOf_int_mk Try.underlying2 (wf_i64 h0 h1))
  rw [hrun]
  rw [hat a] at hv
  unfold plainElem at hv
  rw [Try.underlying4] at hv
  cases v <;> simp at hv
  rw [hv.1]
theorem Seen.put {w : World} {b : Nat} {L : List Int} (h : Seen w b L) (a : Int) (h0 : -9223372036854775808 ≤ a) (h1 : a ≤ 9223372036854775807) (hl : L.length < 10000000) :
    ∃ w', (Instr.mapUpdate 79 (.map (some b)) (.int .i64 a) (.bool true)).run Try.prog w = .ok () w' ∧ Seen w' b (a :: L) ∧ Keeps (fun k => k = b) w w' := by
  obtain ⟨D, h, hm, hat⟩ := h
  have hk := Go.Maps.keyOf_int_mk (P := Try.prog) (k := 2) Try.underlying2 (wf_i64 h0 h1)
  obtain ⟨w', hrun, ho, hg⟩ := h.update seen_law Try.underlying79 (by unfold maxLen; omega) hk (plainElem_bool Try.underlying4 true)
  refine ⟨w', hrun, ⟨D.put (.int .i64 a) (.lit (.bool true)), ho, hm.put _ _, fun c => ?_⟩, Keeps.grown hg (fun k _ e => by cases e; rfl)⟩
  by_cases hc : c = a
  · subst hc
    rw [Go.Maps.atKey_put_same hm (seen_law.key hk)]
    simp
  · rw [Go.Maps.atKey_put_other (fun e => hc (by cases e; rfl)), hat c]
    simp [hc]
end Go.Proofs.Shed
