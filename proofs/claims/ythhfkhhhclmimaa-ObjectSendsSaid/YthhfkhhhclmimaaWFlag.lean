/- A map[int64]bool that the call makes, with keys that are taken away again: what it tells. No condition. -/
import Derived.Test.YthhfkhhhclmimaaWSeen
import Derived.Maps.OwnSet
set_option linter.unusedVariables false
set_option linter.unusedSimpArgs false
set_option maxRecDepth 10000
namespace Go.Proofs.Shed
open Go Go.RowKit Go.Proofs.K

/-- The block b is a map of at most n keys that tells f. -/
def Flags (w : World) (b n : Nat) (f : Int → Bool) : Prop := ∃ D : DataW Unit, w.ownsMap Try.prog 2 (plainElem Try.prog 4) b n D ∧ Go.Maps.IsMap D ∧ ∀ a : Int, D.atKey (.int .i64 a) (.lit (.bool false)) = .lit (.bool (f a))
theorem Flags.made (w : World) : Flags (w.alloc (.map #[] 0)) w.heap.size 0 (fun _ => false) := ⟨.map [], World.ownsMap_made _ _ _ _, Go.Maps.isMap_empty, fun a => rfl⟩
theorem Flags.lt {w : World} {b n : Nat} {f : Int → Bool} (h : Flags w b n f) : b < w.heap.size := by
  obtain ⟨D, h, _⟩ := h
  exact h.lt
theorem Flags.keeps {w w' : World} {b n : Nat} {f : Int → Bool} (h : Flags w b n f) {S : Nat → Prop} (k : Keeps S w w') (hs : ¬ S b) : Flags w' b n f := by
  obtain ⟨D, ⟨es, clock, hb, r⟩, h2⟩ := h
  exact ⟨D, ⟨es, clock, k.heap hb hs, r⟩, h2⟩
theorem Flags.look {w : World} {b n : Nat} {f : Int → Bool} (h : Flags w b n f) (a : Int) (h0 : -9223372036854775808 ≤ a) (h1 : a ≤ 9223372036854775807) :
    (Instr.lookup 79 (.map (some b)) (.int .i64 a) false).run Try.prog w = .ok (.bool (f a)) w := by
  obtain ⟨D, h, _, hat⟩ := h
  obtain ⟨v, ps, hrun, hv⟩ := h.lookup seen_law Try.underlying79 (seen_zero w) (plainElem_bool Try.underlying4 false) (Go.Maps.keyOf_int_mk Try.underlying2 (wf_i64 h0 h1))
  rw [hrun]
  rw [hat a] at hv
  unfold plainElem at hv
  rw [Try.underlying4] at hv
  cases v <;> simp at hv
  rw [hv.1]
theorem Flags.put {w : World} {b n : Nat} {f : Int → Bool} (h : Flags w b n f) (a : Int) (h0 : -9223372036854775808 ≤ a) (h1 : a ≤ 9223372036854775807) (hl : n < 10000000) :
    ∃ w', (Instr.mapUpdate 79 (.map (some b)) (.int .i64 a) (.bool true)).run Try.prog w = .ok () w' ∧ Flags w' b (n + 1) (fun c => decide (c = a) || f c) ∧ Keeps (fun k => k = b) w w' := by
  obtain ⟨D, h, hm, hat⟩ := h
  have hk := Go.Maps.keyOf_int_mk (P := Try.prog) (k := 2) Try.underlying2 (wf_i64 h0 h1)
  obtain ⟨w', hrun, ho, hg⟩ := h.update seen_law Try.underlying79 (by unfold maxLen; omega) hk (plainElem_bool Try.underlying4 true)
  refine ⟨w', hrun, ⟨D.put (.int .i64 a) (.lit (.bool true)), ho, hm.put _ _, fun c => ?_⟩, Keeps.grown hg (fun k _ e => by cases e; rfl)⟩
  by_cases hc : c = a
  · subst hc
    rw [Go.Maps.atKey_put_same hm (seen_law.key hk)]
    simp
  · rw [Go.Maps.atKey_put_other (fun e => hc (by cases e; rfl)), hat c]
    simp [hc]
theorem Flags.del {w : World} {b n : Nat} {f : Int → Bool} (h : Flags w b n f) (a : Int) (h0 : -9223372036854775808 ≤ a) (h1 : a ≤ 9223372036854775807) (ty : TypeId) :
    ∃ w', (Builtin.delete_ #[79, 2] ty #[.map (some b), .int .i64 a]).run Try.prog w = .ok (.tuple #[]) w' ∧ Flags w' b n (fun c => !decide (c = a) && f c) ∧ Keeps (fun k => k = b) w w' := by
  obtain ⟨D, h, hm, hat⟩ := h
  have hk := Go.Maps.keyOf_int_mk (P := Try.prog) (k := 2) Try.underlying2 (wf_i64 h0 h1)
  obtain ⟨w', hrun, ho, hg⟩ := h.drop seen_law Try.underlying79 hk ty
  refine ⟨w', hrun, ⟨D.del (.int .i64 a), ho, hm.del _, fun c => ?_⟩, Keeps.grown hg.grown (fun k _ e => by cases e; rfl)⟩
  by_cases hc : c = a
  · subst hc
    rw [Go.Maps.atKey_del_same]
    simp
  · rw [Go.Maps.atKey_del_other (fun e => hc (by cases e; rfl)), hat c]
    simp [hc]
end Go.Proofs.Shed
