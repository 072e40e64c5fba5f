/- More general lemmas: an operation whose run is known; copy from a string. Conditions: as each lemma says. -/
import Derived.Test.YthhfkhhhclmimaaKit
set_option linter.unusedVariables false
set_option linter.unusedSimpArgs false
set_option maxRecDepth 10000
namespace Go.Proofs.K
open Go Go.RowKit

/-- An operation whose run is known. -/
theorem wpList_run {P : Program} {w : World} {ops : Array Oper} {rest : List Oper} {o : Oper} {a : Act} {Q : Exit → Act → World → Prop} (hgd : o.guard = none) (v : Value) (w' : World)
    (h : (execOp a.eval o).run P w = .ok (.value v) w') (hk : wpList P ops Q rest (a.put o.dst v) w') : wpList P ops Q (o :: rest) a w := by
  refine wpList_plain hgd fun K hK => ?_
  unfold Oper.wp
  rw [h]
  exact hK _ _ hk

/-- copy from a string into a row. -/
theorem run_copy_str {P : Program} (w : World) (dT sT ty elem : TypeId) (g o dLen dCap : Nat) (s : ByteArray) (cur : Array Value) (t : TypeId)
    (hu : P.underlying dT = some (.slice elem)) (hs : (P.info? elem).map (·.size) = some 1)
    (hg : w.heap[g]? = some (.cells cur t (0, 0))) (hn : s.size ≤ dLen) (hfit : o + s.size ≤ cur.size) :
    (Builtin.copy_ #[dT, sT] ty #[.slice (some ⟨g, o, none⟩) dLen dCap, .string s]).run P w =
      .ok (goInt s.size) (w.setRow g (cur.toList.take o ++ (s.data.toList.map fun b => Value.int .u8 b.toNat) ++ cur.toList.drop (o + s.size)).toArray) := by
  have hl : (s.data.toList.map fun b => Value.int .u8 (b.toNat : Int)).length = s.size := by simp
  have hst := run_storeCells_at P g o t (s.data.toList.map fun b => Value.int .u8 (b.toNat : Int)) 0 cur w hg (by rw [hl]; simpa using hfit) (by intro v hv; simp at hv; obtain ⟨b, _, rfl⟩ := hv; rfl)
  rw [hl] at hst
  have hmin : Nat.min s.size dLen = s.size := Nat.min_eq_left hn
  have hex : (s.extract 0 s.size).data.map (fun b => Value.int .u8 (b.toNat : Int)) = (s.data.toList.map fun b => Value.int .u8 (b.toNat : Int)).toArray := by
    have : s.extract 0 s.size = s := by simp
    rw [this]
    apply Array.ext'
    simp
  cases hq : P.info? elem with
  | none => simp [hq] at hs
  | some i =>
    have hi : i.size = 1 := by simpa [hq] using hs
    simp only [Nat.add_zero] at hst
    simp only [Builtin.copy_, List.getElem?_toArray, List.getElem?_cons_zero, List.getElem?_cons_succ, Sem.run_bind, run_underlying hu, Result.andThen_ok, Builtin.lenOf, Builtin.firstCells, Sem.run_pure, sizeOf, typeInfo, hmin, hex]
    simp [hq, hi, hst]

/-- Three cells written. -/
theorem hset3 {w : World} {b : Nat} {a0 a1 a2 : Value} {t : TypeId} {f : Nat × Nat} (h : w.heap[b]? = some (.cells #[a0, a1, a2] t f)) (x y z : Value) :
    (((w.setCell ⟨b, 0, none⟩ x).setCell ⟨b, 1, none⟩ y).setCell ⟨b, 2, none⟩ z).heap[b]? = some (.cells #[x, y, z] t f) := hset_same (hset_same (hset_same h x) y) z
/-- Writes into new blocks. -/
theorem Keeps.setNew {S : Nat → Prop} {w w1 : World} (k : Keeps S w w1) (p : Addr) (u : Value) (hp : w.heap.size ≤ p.block) : Keeps S w (w1.setCell p u) :=
  k.trans' (Keeps.setCell (S := fun j => j = p.block) w1 p u (fun _ => rfl)) (fun i hi e => by subst e; omega)
end Go.Proofs.K
