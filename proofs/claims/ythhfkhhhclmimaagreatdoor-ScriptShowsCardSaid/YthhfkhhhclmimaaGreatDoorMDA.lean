/- Maps whose elements are any values, as functions of their keys. No program in sight. What the primitives are made of, as closures; a map of them. No condition. Layer 15: with, push, look, moves: closures. No condition. -/
import Derived.Test.YthhfkhhhclmimaaGreatDoorMWA
import Derived.Maps.RangeWalk
import Derived.Maps.OwnSet
import Derived.StringKeys
import Derived.Test.YthhfkhhhclmimaaGreatDoorProg
import Derived.Deep.Slices
set_option linter.unusedVariables false
set_option linter.unusedSimpArgs false
namespace Go.Proofs.K
open Go Go.RowKit Go.Maps

/-- An element reads as itself. -/
def RV (v : Value) : Option (DataW Value × List MemPlace) := some (.held v, [])

/-- How keys are written, as values and as data. -/
structure Key (P : Program) (k : TypeId) (α : Type) where
  val : α → Value
  lit : α → Lit
  ok : α → Prop
  kd : Keyed P k
  reads : ∀ x, ok x → keyOf P k (val x) = some (lit x)
  inv : ∀ v kl, keyOf P k v = some kl → ∃ x, ok x ∧ v = val x ∧ kl = lit x
  inj : ∀ x y, lit x = lit y → x = y
  isk : ∀ x, WideAt.IsKeyLit (lit x)

def strKey {P : Program} {k : TypeId} (hk : P.underlying k = some .string) : Key P k (List UInt8) where
  val s := .string ⟨s.toArray⟩
  lit s := .string s
  ok s := s.length ≤ maxLen
  kd := string_keyed hk
  reads s hs := WideMaps.keyOf_string_mk hk (s := ⟨s.toArray⟩) hs
  inv v kl h := by
    cases v <;> simp [keyOf, hk, mapKey] at h
    rename_i s
    obtain ⟨h1, rfl⟩ := h
    exact ⟨s.data.toList, h1, rfl, rfl⟩
  inj x y h := by injection h
  isk x := trivial
def intKey {P : Program} {k : TypeId} (hk : P.underlying k = some (.int .i64)) : Key P k Int where
  val n := .int .i64 n
  lit n := .int .i64 n
  ok n := (Lit.int .i64 n).wf = true
  kd := int_keyed hk
  reads n hn := keyOf_int_mk hk hn
  inv v kl h := by
    obtain ⟨x, rfl, rfl, hw⟩ := Maps.keyOf_int_inv hk h
    exact ⟨x, hw, rfl, rfl⟩
  inj x y h := by injection h
  isk x := trivial

variable {P : Program} {k : TypeId} {α : Type}
/-- The datum reads as the function. -/
def Reads (kk : Key P k α) (D : DataW Value) (f : α → Option Value) : Prop :=
  (∀ x, kk.ok x → Maps.has D (kk.lit x) = (f x).isSome) ∧ ∀ x v, kk.ok x → f x = some v → ∀ z, D.atKey (kk.lit x) z = .held v
/-- Block b of w is a map of at most n entries that has at each key what f says. -/
def MapIs (kk : Key P k α) (w : World) (b n : Nat) (f : α → Option Value) : Prop := ∃ D, w.ownsMap P k RV b n D ∧ Reads kk D f
theorem MapIs.lt {kk : Key P k α} {w : World} {b n : Nat} {f : α → Option Value} (h : MapIs kk w b n f) : b < w.heap.size := by
  obtain ⟨D, h, _⟩ := h
  exact h.lt
/-- Its block is no row of cells. -/
theorem MapIs.no_cell {kk : Key P k α} {w : World} {b n : Nat} {f : α → Option Value} (h : MapIs kk w b n f) {p : Addr} {v : Value} (hc : w.cell? p = some v) : p.block ≠ b := by
  obtain ⟨D, ⟨es, clock, hb, _⟩, _⟩ := h
  intro e
  unfold World.cell? at hc
  rw [e, hb] at hc
  simp at hc
theorem own_keeps {S : Nat → Prop} {w w' : World} {b n : Nat} {D : DataW Value} {R : Value → Option (DataW Value × List MemPlace)} (h : w.ownsMap P k R b n D) (kp : Keeps S w w') (hs : ¬ S b) : w'.ownsMap P k R b n D := by
  obtain ⟨es, clock, hb, F, hn, hD⟩ := h
  exact ⟨es, clock, kp.heap hb hs, F, hn, hD⟩
theorem MapIs.keeps {S : Nat → Prop} {kk : Key P k α} {w w' : World} {b n : Nat} {f : α → Option Value} (h : MapIs kk w b n f) (kp : Keeps S w w') (hs : ¬ S b) : MapIs kk w' b n f := by
  obtain ⟨D, h, hr⟩ := h
  exact ⟨D, own_keeps h kp hs, hr⟩
theorem MapIs.mono {kk : Key P k α} {w : World} {b n n' : Nat} {f : α → Option Value} (h : MapIs kk w b n f) (hn : n ≤ n') : MapIs kk w b n' f := by
  obtain ⟨D, h, hr⟩ := h
  exact ⟨D, h.mono hn, hr⟩
theorem MapIs.made (kk : Key P k α) (w : World) : MapIs kk (w.alloc (.map #[] 0)) w.heap.size 0 (fun _ => none) :=
  ⟨_, World.ownsMap_made w P k RV, fun _ _ => rfl, fun _ _ _ h => by cases h⟩

def upd [DecidableEq α] (f : α → Option Value) (x : α) (v : Value) : α → Option Value := fun y => if y = x then some v else f y
theorem Reads.put [DecidableEq α] {kk : Key P k α} {D : DataW Value} {f : α → Option Value} (h : Reads kk D f) (hD : Maps.IsMap D) (x : α) (v : Value) : Reads kk (D.put (kk.lit x) (.held v)) (upd f x v) := by
  constructor
  · intro y hy
    unfold upd
    by_cases e : y = x
    · subst e
      rw [if_pos rfl]
      exact has_put_same hD (kk.isk y) _
    · rw [if_neg e, has_put_other (fun e' => e (kk.inj _ _ e'))]
      exact h.1 y hy
  · intro y u hy hu z
    unfold upd at hu
    by_cases e : y = x
    · subst e
      rw [if_pos rfl] at hu
      cases hu
      exact atKey_put_same hD (kk.isk y) _ _
    · rw [if_neg e] at hu
      rw [atKey_put_other (fun e' => e (kk.inj _ _ e'))]
      exact h.2 y u hy hu z

/-- m[x] = v. -/
theorem wpList_put [DecidableEq α] (kk : Key P k α) (w : World) {ops : Array Oper} {rest : List Oper} {o : Oper} {a : Act} {Q : Exit → Act → World → Prop}
    (hg : o.guard = none) (m x v : Operand) (t : TypeId) (hop : o.op = Op.mapUpdate t m x v ∨ o.op = Op.insert t m x v) (e : TypeId) (ht : P.underlying t = some (.map k e)) (b n : Nat) (f : α → Option Value)
    (hm : a.eval m = .map (some b)) (hown : MapIs kk w b n f) (hn : n < maxLen) (key : α) (hok : kk.ok key) (val : Value) (hx : a.eval x = kk.val key) (hv : a.eval v = val)
    (hK : ∀ w', MapIs kk w' b (n + 1) (upd f key val) → Keeps (fun g => g = b) w w' → wpList P ops Q rest (a.put o.dst undef) w') :
    wpList P ops Q (o :: rest) a w := by
  refine wpList_plain hg fun K' hK' => ?_
  obtain ⟨D, hown, hr⟩ := hown
  have hD := (hown.tidy kk.kd).isMap
  obtain ⟨w', hrun, r1, r2⟩ := hown.update kk.kd ht hn (kk.reads key hok) (show RV val = some (.held val, []) from rfl)
  have hk := Keeps.grown (S := fun g => g = b) r2 (fun j _ e => (Option.some.inj e).symm)
  unfold Oper.wp
  rcases hop with hop | hop <;> simp [execOp, hop, hm, hx, hv, hrun, Result.andThen] <;> exact hK' _ _ (hK w' ⟨_, r1, hr.put hD key val⟩ hk)

/-- v, ok := m[x]. -/
theorem wpList_look (kk : Key P k α) (w : World) {ops : Array Oper} {rest : List Oper} {o : Oper} {a : Act} {Q : Exit → Act → World → Prop}
    (hg : o.guard = none) (m x : Operand) (t : TypeId) (hop : o.op = Op.lookup t m x true) (e : TypeId) (ht : P.underlying t = some (.map k e)) (z : Value) (hz : (zeroValue e).run P w = .ok z w) (b n : Nat) (f : α → Option Value)
    (hm : a.eval m = .map (some b)) (hown : MapIs kk w b n f) (key : α) (hok : kk.ok key) (hx : a.eval x = kk.val key) (r : Option Value) (hr : f key = r)
    (hK : wpList P ops Q rest (a.put o.dst (.tuple #[r.getD z, .bool r.isSome])) w) :
    wpList P ops Q (o :: rest) a w := by
  obtain ⟨D, hown, hr'⟩ := hown
  refine wpList_lookup_own_ok w hg m x t hop k e kk.kd ht RV hz (.held z) [] rfl b n D hm hown _ _ hx (kk.reads key hok) ?_
  intro v ps hv
  have hv' : D.atKey (kk.lit key) (.held z) = .held v := by
    have := Option.some.inj hv
    exact (congrArg Prod.fst this).symm
  rw [hr'.1 key hok, hr]
  cases r with
  | none =>
    have hh := hr'.1 key hok
    rw [hr] at hh
    rw [atKey_of_not_has hh] at hv'
    cases hv'
    exact hK
  | some u =>
    rw [hr'.2 key u hok hr] at hv'
    cases hv'
    exact hK
/-- m[x]. -/
theorem wpList_look1 (kk : Key P k α) (w : World) {ops : Array Oper} {rest : List Oper} {o : Oper} {a : Act} {Q : Exit → Act → World → Prop}
    (hg : o.guard = none) (m x : Operand) (t : TypeId) (hop : o.op = Op.lookup t m x false) (e : TypeId) (ht : P.underlying t = some (.map k e)) (z : Value) (hz : (zeroValue e).run P w = .ok z w) (b n : Nat) (f : α → Option Value)
    (hm : a.eval m = .map (some b)) (hown : MapIs kk w b n f) (key : α) (hok : kk.ok key) (hx : a.eval x = kk.val key) (r : Option Value) (hr : f key = r)
    (hK : wpList P ops Q rest (a.put o.dst (r.getD z)) w) :
    wpList P ops Q (o :: rest) a w := by
  obtain ⟨D, hown, hr'⟩ := hown
  obtain ⟨v, ps, hrun, hv⟩ := hown.lookup kk.kd ht hz (show RV z = some (.held z, []) from rfl) (kk.reads key hok)
  have hv' : D.atKey (kk.lit key) (.held z) = .held v := by
    have := Option.some.inj hv
    exact (congrArg Prod.fst this).symm
  have hK2 : wpList P ops Q rest (a.put o.dst v) w := by
    cases r with
    | none =>
      have hh := hr'.1 key hok
      rw [hr] at hh
      rw [atKey_of_not_has hh] at hv'
      cases hv'
      exact hK
    | some u =>
      rw [hr'.2 key u hok hr] at hv'
      cases hv'
      exact hK
  refine wpList_plain hg fun K' hK' => ?_
  unfold Oper.wp
  simp [execOp, hop, hm, hx, hrun, Result.andThen]
  exact hK' _ _ hK2

/-- A range under way: what is left, as a function of the keys. -/
def MapRun (kk : Key P k α) (w : World) (b r n : Nat) (f : α → Option Value) (left : α → Bool) (cnt : Nat) : Prop :=
  ∃ D L, w.ranges P k RV b r n D L cnt ∧ Reads kk D f ∧ ∀ x, kk.ok x → L (kk.lit x) = left x
theorem MapRun.keeps {S : Nat → Prop} {kk : Key P k α} {w w' : World} {b r n : Nat} {f : α → Option Value} {left : α → Bool} {cnt : Nat} (h : MapRun kk w b r n f left cnt) (kp : Keeps S w w') (hb : ¬ S b) (hr : ¬ S r) : MapRun kk w' b r n f left cnt := by
  obtain ⟨D, L, ⟨es, clock, since, seen, c0, h1, F, hs, hD, h2, rest⟩, h⟩ := h
  exact ⟨D, L, ⟨es, clock, since, seen, c0, kp.heap h1 hb, F, hs, hD, kp.heap h2 hr, rest⟩, h⟩
theorem MapRun.left_eq {kk : Key P k α} {w : World} {b r n : Nat} {f : α → Option Value} {left : α → Bool} {cnt : Nat} (h : MapRun kk w b r n f left cnt) : w.rangeLeft b r = cnt := by
  obtain ⟨D, L, h, _⟩ := h
  exact h.left_eq
theorem MapRun.lts {kk : Key P k α} {w : World} {b r n : Nat} {f : α → Option Value} {left : α → Bool} {cnt : Nat} (h : MapRun kk w b r n f left cnt) : r < w.heap.size ∧ r ≠ b ∧ b < w.heap.size := by
  obtain ⟨D, L, h, _⟩ := h
  exact ⟨h.lt, h.ne, h.owns.lt⟩
theorem MapRun.no_cell {kk : Key P k α} {w : World} {b r n : Nat} {f : α → Option Value} {left : α → Bool} {cnt : Nat} (h : MapRun kk w b r n f left cnt) {p : Addr} {v : Value} (hc : w.cell? p = some v) : p.block ≠ b ∧ p.block ≠ r := by
  obtain ⟨D, L, ⟨es, clock, since, seen, c0, h1, F, hs, hD, h2, rest⟩, h⟩ := h
  constructor
  all_goals
    intro e
    unfold World.cell? at hc
    first
      | rw [e, h1] at hc; simp at hc; done
      | rw [e, h2] at hc; simp at hc; done
/-- 'range m'. -/
theorem wpList_range (kk : Key P k α) (w : World) {ops : Array Oper} {rest : List Oper} {o : Oper} {a : Act} {Q : Exit → Act → World → Prop}
    (hg : o.guard = none) (m : Operand) (t : TypeId) (hop : o.op = Op.range t m) (e : TypeId) (ht : P.underlying t = some (.map k e)) (b n : Nat) (f : α → Option Value)
    (hm : a.eval m = .map (some b)) (hown : MapIs kk w b n f)
    (hK : ∀ w' cnt, MapRun kk w' b w.heap.size n f (fun x => (f x).isSome) cnt → Keeps (fun _ => False) w w' → wpList P ops Q rest (a.put o.dst (.pointer (some ⟨w.heap.size, 0, none⟩))) w') :
    wpList P ops Q (o :: rest) a w := by
  obtain ⟨D, hown, hr⟩ := hown
  refine wpList_range_own w hg m t hop k e kk.kd ht RV b n D hm hown ?_
  intro w' h1 h2 _
  exact hK w' _ ⟨D, _, h1, hr, hr.1⟩ (Keeps.grown h2 (fun _ _ e => by cases e))
/-- The step. -/
theorem wpList_mstep [DecidableEq α] (kk : Key P k α) (w : World) {ops : Array Oper} {rest : List Oper} {o : Oper} {a : Act} {Q : Exit → Act → World → Prop}
    (hg : o.guard = none) (it : Operand) (hop : o.op = Op.next it false) (b r n : Nat) (f : α → Option Value) (left : α → Bool) (cnt : Nat)
    (hit : a.eval it = .pointer (some ⟨r, 0, none⟩)) (h : MapRun kk w b r n f left cnt)
    (hDone : (∀ x, kk.ok x → left x = false) → wpList P ops Q rest (a.put o.dst (.tuple #[.bool false])) w)
    (hMore : ∀ (x : α) (v : Value) (w' : World) (cnt' : Nat), kk.ok x → left x = true → f x = some v → MapRun kk w' b r n f (fun y => left y && !decide (y = x)) cnt' → cnt' < cnt → Keeps (fun g => g = r) w w' →
      (Instr.entry (.pointer (some ⟨r, 0, none⟩))).run P w' = .ok (.tuple #[kk.val x, v]) w' → wpList P ops Q rest (a.put o.dst (.tuple #[.bool true, kk.val x, v])) w') :
    wpList P ops Q (o :: rest) a w := by
  obtain ⟨D, L, h, hr, hL⟩ := h
  refine wpList_next_ranges w hg it hop k kk.kd RV (fun x : α => kk.val x) (fun v : Value => v) (fun key kl hk => by obtain ⟨x, _, rfl, _⟩ := kk.inv key kl hk; exact ⟨x, rfl⟩) (fun v y _ => ⟨v, rfl⟩) b r n D L cnt hit h ?_ ?_
  · intro _ h0
    exact hDone fun x hx => by rw [← hL x hx]; exact h0 _
  · intro x v kl y w' cnt' hkey hl hv hat hrg hlt hgr _ hen
    obtain ⟨x', hok, e1, e2⟩ := kk.inv _ _ hkey
    have hy : y.1 = .held v := by rw [← Option.some.inj hv]
    have hh : Maps.has D kl = true := has_true_of_atKey (y := y.1) hat
    have hkx : kk.val x = kk.val x' := e1
    subst e2
    rw [hkx] at hen ⊢
    have hs := hr.1 x' hok
    rw [hh] at hs
    obtain ⟨v', hf⟩ := Option.isSome_iff_exists.1 hs.symm
    have := hr.2 x' v' hok hf (.held v)
    rw [hat, hy] at this
    cases this
    refine hMore x' v w' cnt' hok (by rw [← hL x' hok]; exact hl) hf ⟨D, _, hrg, hr, ?_⟩ hlt (Keeps.grown hgr (fun j _ e => (Option.some.inj e).symm)) hen
    intro z hz
    show (L (kk.lit z) && !(kk.lit z).sameKey (kk.lit x')) = _
    rw [hL z hz]
    congr 1
    by_cases e : z = x'
    · subst e
      simp
      have := kk.isk z
      revert this
      cases kk.lit z <;> simp [WideAt.IsKeyLit, Lit.sameKey]
    · rw [sameKey_ne (fun e' => e (kk.inj _ _ e'))]
      simp [e]
theorem MapRun.cnt_le {kk : Key P k α} {w : World} {b r n : Nat} {f : α → Option Value} {left : α → Bool} {cnt : Nat} (h : MapRun kk w b r n f left cnt) : cnt ≤ n := by
  obtain ⟨D, L, ⟨es, clock, since, seen, c0, h1, F, hs, hD, h2, _, hc, rest⟩, h⟩ := h
  rw [← hc]
  unfold leftOf
  exact Nat.le_trans (Array.size_filter_le) hs
theorem MapIs.congr {kk : Key P k α} {w : World} {b n : Nat} {f g : α → Option Value} (h : MapIs kk w b n f) (e : ∀ x, kk.ok x → f x = g x) : MapIs kk w b n g := by
  obtain ⟨D, h, h1, h2⟩ := h
  refine ⟨D, h, fun x hx => by rw [← e x hx]; exact h1 x hx, fun x v hx hv z => h2 x v hx (by rw [e x hx]; exact hv) z⟩
/-- A function laid over another one, but for what is still to come. -/
def blend (f2 f1 : α → Option Value) (left : α → Bool) : α → Option Value := fun s => if (f2 s).isSome && !left s then f2 s else f1 s
theorem blend_start (f2 f1 : α → Option Value) : blend f2 f1 (fun s => (f2 s).isSome) = f1 := by
  funext s
  show (if (f2 s).isSome && !(f2 s).isSome then f2 s else f1 s) = f1 s
  cases (f2 s).isSome <;> rfl
theorem blend_step [DecidableEq α] (f2 f1 : α → Option Value) (left : α → Bool) (x : α) (v : Value) (hv : f2 x = some v) : upd (blend f2 f1 left) x v = blend f2 f1 (fun y => left y && !decide (y = x)) := by
  funext s
  unfold upd blend
  by_cases e : s = x
  · subst e
    simp [hv]
  · simp [e]
def over (f2 f1 : α → Option Value) : α → Option Value := fun s => match f2 s with | some v => some v | none => f1 s
theorem blend_end (f2 f1 : α → Option Value) (left : α → Bool) (s : α) (h : left s = false) : blend f2 f1 left s = over f2 f1 s := by
  unfold blend over
  rw [h]
  cases f2 s <;> rfl
end Go.Proofs.K
set_option linter.unusedVariables false
set_option linter.unusedSimpArgs false
set_option maxRecDepth 10000
namespace Go.Proofs.Shed
open Go Go.RowKit Go.Proofs.K

/-- What a primitive is made of. -/
inductive Pk where
  | plain (f : Nat)
  | with_ (n : Int) (f : Nat)
  | push (f : Nat)
  | moves (n : Int) (l : List Int)
  | look (f : Nat)
  | two (op : List UInt8)
  | one (op : List UInt8)
  deriving DecidableEq
def fnV (f : Nat) : Value := .func (.func f) #[] #[]
/-- A captured variable: a block of one cell. -/
def Box (X : Nat → Prop) (w : World) (a : Value) (u : Value) : Prop := ∃ g t, a = .pointer (some ⟨g, 0, none⟩) ∧ X g ∧ w.heap[g]? = some (.cells #[u] t (0, 0))
theorem Box.cell {X : Nat → Prop} {w : World} {a u : Value} (h : Box X w a u) : ∃ g, a = .pointer (some ⟨g, 0, none⟩) ∧ X g ∧ w.cell? ⟨g, 0, none⟩ = some u := by
  obtain ⟨g, t, rfl, hx, hb⟩ := h
  exact ⟨g, rfl, hx, cell_of hb rfl⟩
/-- No row of cells lies in g. -/
def NoRow (w : World) (g : Nat) : Prop := ∀ cs t f, w.heap[g]? ≠ some (.cells cs t f)
theorem MapIs.noRow {P : Program} {k : TypeId} {α : Type} {kk : Key P k α} {w : World} {b n : Nat} {f : α → Option Value} (h : MapIs kk w b n f) : NoRow w b := by
  obtain ⟨D, ⟨es, clock, hb, _⟩, _⟩ := h
  intro cs t f e
  rw [hb] at e
  cases e
theorem MapRun.noRow {P : Program} {k : TypeId} {α : Type} {kk : Key P k α} {w : World} {b r n : Nat} {f : α → Option Value} {left : α → Bool} {cnt : Nat} (h : MapRun kk w b r n f left cnt) : NoRow w b ∧ NoRow w r := by
  obtain ⟨D, L, ⟨es, clock, since, seen, c0, h1, F, hs, hD, h2, rest⟩, h⟩ := h
  constructor
  · intro cs t f e
    rw [h1] at e
    cases e
  · intro cs t f e
    rw [h2] at e
    cases e
/-- The blocks X hold what they hold, where they are rows. -/
def KeepX (X : Nat → Prop) (w w' : World) : Prop := ∀ g cs t f, X g → w.heap[g]? = some (.cells cs t f) → w'.heap[g]? = some (.cells cs t f)
theorem KeepX.of {S X : Nat → Prop} {w w' : World} (k : Keeps S w w') (h : ∀ g, X g → S g → NoRow w g) : KeepX X w w' := fun g _ _ _ hx hb => k.heap hb (fun hs => h g hx hs _ _ _ hb)
theorem KeepX.of0 {X : Nat → Prop} {w w' : World} (k : Keeps (fun _ => False) w w') : KeepX X w w' := KeepX.of k (fun _ _ h => h.elim)
theorem KeepX.trans {X : Nat → Prop} {a b c : World} (h : KeepX X a b) (k : KeepX X b c) : KeepX X a c := fun g _ _ _ hx hb => k g _ _ _ hx (h g _ _ _ hx hb)
theorem Box.keeps {X : Nat → Prop} {w w' : World} {a u : Value} (h : Box X w a u) (k : KeepX X w w') : Box X w' a u := by
  obtain ⟨g, t, rfl, hx, hc⟩ := h
  exact ⟨g, t, rfl, hx, k g _ _ _ hx hc⟩
theorem Box.mono {X Y : Nat → Prop} {w : World} {a u : Value} (h : Box X w a u) (k : ∀ g, g < w.heap.size → X g → Y g) : Box Y w a u := by
  obtain ⟨g, t, rfl, hx, hc⟩ := h
  exact ⟨g, t, rfl, k g (lt_of_heap hc) hx, hc⟩
def With (X : Nat → Prop) (w : World) (n : Int) (d : Value) (v : Value) : Prop := ∃ a b, v = .func (.func 406) #[] #[a, b] ∧ Box X w a (.int .i64 n) ∧ Box X w b d
theorem With.keeps {X : Nat → Prop} {w w' : World} {n : Int} {d v : Value} (h : With X w n d v) (k : KeepX X w w') : With X w' n d v := by
  obtain ⟨a, b, rfl, h1, h2⟩ := h
  exact ⟨a, b, rfl, h1.keeps k, h2.keeps k⟩
theorem With.mono {X Y : Nat → Prop} {w : World} {n : Int} {d v : Value} (h : With X w n d v) (k : ∀ g, g < w.heap.size → X g → Y g) : With Y w n d v := by
  obtain ⟨a, b, rfl, h1, h2⟩ := h
  exact ⟨a, b, rfl, h1.mono k, h2.mono k⟩
def Good (X : Nat → Prop) (w : World) : Pk → Value → Prop
  | .plain f, v => v = fnV f
  | .with_ n f, v => With X w n (fnV f) v
  | .push f, v => ∃ a, v = .func (.func 405) #[] #[a] ∧ Box X w a (fnV f)
  | .moves n l, v => ∃ a b s c, v = .func (.func 409) #[] #[a, b] ∧ Box X w a (.int .i64 n) ∧ Box X w b (.slice s l.length c) ∧ Own w 3 1 s l.length c (l.map (Value.int .i64)) ∧ ∀ g, blk s = some g → X g
  | .look f, v => ∃ a, With X w 1 (.func (.func 413) #[] #[a]) v ∧ Box X w a (fnV f)
  | .two op, v => ∃ a, With X w 2 (.func (.func 320) #[] #[a]) v ∧ Box X w a (.string ⟨op.toArray⟩)
  | .one op, v => ∃ a, With X w 1 (.func (.func 322) #[] #[a]) v ∧ Box X w a (.string ⟨op.toArray⟩)
theorem own_keepX {X : Nat → Prop} {w w' : World} {e : TypeId} {size : Nat} {a : Option Addr} {n c : Nat} {xs : List Value} (h : Own w e size a n c xs) (k : KeepX X w w') (hs : ∀ g, blk a = some g → X g) : Own w' e size a n c xs := by
  refine ⟨h.1, ?_⟩
  rcases h.2 with h | ⟨g, cap, cur, hv, hb, hh, r⟩
  · exact .inl h
  · refine .inr ⟨g, cap, cur, hv, hb, k g _ _ _ (hs g ?_) hh, r⟩
    cases hv; rfl
theorem Good.keeps {X : Nat → Prop} {w w' : World} {kd : Pk} {v : Value} (h : Good X w kd v) (k : KeepX X w w') : Good X w' kd v := by
  cases kd with
  | plain f => exact h
  | with_ n f => exact With.keeps h k
  | push f =>
    obtain ⟨a, rfl, h1⟩ := h
    exact ⟨a, rfl, h1.keeps k⟩
  | moves n l =>
    obtain ⟨a, b, s, c, rfl, h1, h2, h3, h4⟩ := h
    exact ⟨a, b, s, c, rfl, h1.keeps k, h2.keeps k, own_keepX h3 k h4, h4⟩
  | look f =>
    obtain ⟨a, h1, h2⟩ := h
    exact ⟨a, h1.keeps k, h2.keeps k⟩
  | two op =>
    obtain ⟨a, h1, h2⟩ := h
    exact ⟨a, h1.keeps k, h2.keeps k⟩
  | one op =>
    obtain ⟨a, h1, h2⟩ := h
    exact ⟨a, h1.keeps k, h2.keeps k⟩
theorem Good.mono {X Y : Nat → Prop} {w : World} {kd : Pk} {v : Value} (h : Good X w kd v) (k : ∀ g, g < w.heap.size → X g → Y g) : Good Y w kd v := by
  cases kd with
  | plain f => exact h
  | with_ n f => exact With.mono h k
  | push f =>
    obtain ⟨a, rfl, h1⟩ := h
    exact ⟨a, rfl, h1.mono k⟩
  | moves n l =>
    obtain ⟨a, b, s, c, rfl, h1, h2, h3, h4⟩ := h
    exact ⟨a, b, s, c, rfl, h1.mono k, h2.mono k, h3, fun g hg => k g (Own.lt h3 hg) (h4 g hg)⟩
  | look f =>
    obtain ⟨a, h1, h2⟩ := h
    exact ⟨a, h1.mono k, h2.mono k⟩
  | two op =>
    obtain ⟨a, h1, h2⟩ := h
    exact ⟨a, h1.mono k, h2.mono k⟩
  | one op =>
    obtain ⟨a, h1, h2⟩ := h
    exact ⟨a, h1.mono k, h2.mono k⟩

/-- Strings as keys. -/
theorem sk_keyed : Go.Maps.Keyed Tryz.prog 9 := Go.Maps.string_keyed Tryz.underlying9
theorem sk_reads (s : List UInt8) (hs : s.length ≤ maxLen) : keyOf Tryz.prog 9 (.string ⟨s.toArray⟩) = some (.string s) := (strKey Tryz.underlying9).reads s hs
theorem sk_inv (v : Value) (kl : Lit) (h : keyOf Tryz.prog 9 v = some kl) : ∃ s : List UInt8, s.length ≤ maxLen ∧ v = .string ⟨s.toArray⟩ ∧ kl = .string s := (strKey Tryz.underlying9).inv v kl h
def sk : Key Tryz.prog 9 (List UInt8) where
  val s := .string ⟨s.toArray⟩
  lit s := .string s
  ok s := s.length ≤ maxLen
  kd := sk_keyed
  reads := sk_reads
  inv := sk_inv
  inj x y h := by injection h
  isk x := trivial
/-- The map has just the names of K, each as it is made. -/
def Goods (X : Nat → Prop) (w : World) (K : List UInt8 → Option Pk) (f : List UInt8 → Option Value) : Prop := ∀ s, match K s with
  | none => f s = none
  | some kd => ∃ v, f s = some v ∧ Good X w kd v
theorem Goods.keeps {X : Nat → Prop} {w w' : World} {K : List UInt8 → Option Pk} {f : List UInt8 → Option Value} (h : Goods X w K f) (k : KeepX X w w') : Goods X w' K f := by
  intro s
  have hs := h s
  cases hk : K s with
  | none => simp only [hk] at hs ⊢; exact hs
  | some kd =>
    simp only [hk] at hs ⊢
    obtain ⟨v, h1, h2⟩ := hs
    exact ⟨v, h1, h2.keeps k⟩
theorem Goods.mono {X Y : Nat → Prop} {w : World} {K : List UInt8 → Option Pk} {f : List UInt8 → Option Value} (h : Goods X w K f) (k : ∀ g, g < w.heap.size → X g → Y g) : Goods Y w K f := by
  intro s
  have hs := h s
  cases hk : K s with
  | none => simp only [hk] at hs ⊢; exact hs
  | some kd =>
    simp only [hk] at hs ⊢
    obtain ⟨v, h1, h2⟩ := hs
    exact ⟨v, h1, h2.mono k⟩
/-- One more name. -/
def kput (K : List UInt8 → Option Pk) (x : List UInt8) (kd : Pk) : List UInt8 → Option Pk := fun y => if y = x then some kd else K y
theorem Goods.put {X : Nat → Prop} {w : World} {K : List UInt8 → Option Pk} {f : List UInt8 → Option Value} (h : Goods X w K f) (x : List UInt8) {kd : Pk} {v : Value} (g : Good X w kd v) : Goods X w (kput K x kd) (upd f x v) := by
  intro s
  unfold kput upd
  by_cases e : s = x
  · rw [if_pos e, if_pos e]; exact ⟨v, rfl, g⟩
  · rw [if_neg e, if_neg e]; exact h s
/-- A map of primitives, in block b, that w0 did not have. -/
def Dict (w0 w : World) (b n : Nat) (K : List UInt8 → Option Pk) : Prop :=
  ∃ f, MapIs sk w b n f ∧ Goods (fun g => w0.heap.size ≤ g) w K f ∧ w0.heap.size ≤ b ∧ Keeps (fun _ => False) w0 w
theorem Dict.made (w : World) : Dict w (w.alloc (.map #[] 0)) w.heap.size 0 (fun _ => none) := ⟨_, MapIs.made sk w, fun _ => rfl, Nat.le_refl _, Keeps.alloc _ _ _⟩
theorem Dict.keeps {w0 w w' : World} {b n : Nat} {K : List UInt8 → Option Pk} (h : Dict w0 w b n K) (k : Keeps (fun _ => False) w w') : Dict w0 w' b n K := by
  obtain ⟨f, h1, h2, h3, h4⟩ := h
  exact ⟨f, h1.keeps k id, h2.keeps (KeepX.of0 k), h3, h4.trans k⟩
theorem Dict.size {w0 w : World} {b n : Nat} {K : List UInt8 → Option Pk} (h : Dict w0 w b n K) : w0.heap.size ≤ w.heap.size := by
  obtain ⟨f, h1, h2, h3, h4⟩ := h
  exact h4.size
theorem wpList_dict {w0 : World} (w : World) {ops : Array Oper} {rest : List Oper} {o : Oper} {a : Act} {Q : Exit → Act → World → Prop} (hg : o.guard = none) (m x v : Operand) (hop : o.op = Op.mapUpdate 235 m x v ∨ o.op = Op.insert 235 m x v) (b n : Nat) (K : List UInt8 → Option Pk)
    (hm : a.eval m = .map (some b)) (hown : Dict w0 w b n K) (hn : n < 1000) (s : List UInt8) (hs : s.length ≤ 1000) (val : Value) (hx : a.eval x = .string ⟨s.toArray⟩) (hv : a.eval v = val) (kd : Pk) (gd : Good (fun g => w0.heap.size ≤ g) w kd val)
    (hK : ∀ w', Dict w0 w' b (n + 1) (kput K s kd) → wpList Tryz.prog ops Q rest (a.put o.dst undef) w') : wpList Tryz.prog ops Q (o :: rest) a w := by
  obtain ⟨f, h1, h2, h3, h4⟩ := hown
  refine wpList_put sk w hg m x v 235 hop _ Tryz.underlying235 b n f hm h1 (by unfold maxLen; omega) s (Nat.le_trans hs (by unfold maxLen; omega)) val hx hv ?_
  intro w' h5 h6
  have hx := KeepX.of (X := fun g => w0.heap.size ≤ g) h6 (fun g _ e => by
    have e : g = b := e
    rw [e]; exact MapIs.noRow h1)
  exact hK w' ⟨_, h5, (h2.keeps hx).put s (gd.keeps hx), h3, h4.trans' h6 (fun i hi e => by
    have e : i = b := e
    omega)⟩
/-- As primitives() leave it: a contract. -/
def DictPost (w : World) (n : Nat) (K : List UInt8 → Option Pk) (e : Ending) (w' : World) : Prop := ∃ b, e = .returned (.map (some b)) ∧ Dict w w' b n K
end Go.Proofs.Shed
set_option linter.unusedVariables false
set_option linter.unusedSimpArgs false
set_option maxRecDepth 10000
set_option maxHeartbeats 2000000
namespace Go.Proofs.Shed
open Go Go.RowKit Go.Proofs.K

theorem hmf (fn : Fn) (first cap : Array Value) (w : World) : (Instr.makeFunc fn first cap).run Tryz.prog w = .ok (.func fn first cap) w := rfl
theorem halloc_2 (w : World) (o1 o2 : Obj) : ((w.alloc o1).alloc o2).heap[w.heap.size + 1]? = some o2 := by
  have h := halloc_at (w.alloc o1) o2
  rwa [show (w.alloc o1).heap.size = w.heap.size + 1 by simp] at h
theorem vm_with (w : World) (B : Nat) (hB : B ≤ w.heap.size) (n : Int) (fn : Fn) (cap : Array Value) : Calls Tryz.prog 299 #[.int .i64 n, .func fn #[] cap] w fun e w' => ∃ v, e = .returned v ∧ With (fun g => B ≤ g) w' n (.func fn #[] cap) v ∧ Keeps (fun _ => False) w w' := by
  have hmf := hmf
  have HB := Lib.hid hB
  clear hB
  go_enter Tryz.func299, Tryz.ntmps299
  go_wp2_with fail
  go_ret
  refine ⟨_, rfl, ⟨_, _, rfl, ⟨w.heap.size, 3, rfl, HB.out, ?_⟩, ⟨w.heap.size + 1, 368, rfl, Nat.le_succ_of_le HB.out, ?_⟩⟩, (Keeps.alloc _ _ _).trans (Keeps.alloc _ _ _)⟩
  · exact (halloc_old _ _ (by simp)).trans (halloc_at w _)
  · exact halloc_2 _ _ _
theorem vm_withG (w : World) (B : Nat) (hB : B ≤ w.heap.size) (n : Int) (fn : Nat) : Calls Tryz.prog 299 #[.int .i64 n, .func (.func fn) #[] #[]] w fun e w' => ∃ v, e = .returned v ∧ Good (fun g => B ≤ g) w' (.with_ n fn) v ∧ Keeps (fun _ => False) w w' := vm_with w B hB n (.func fn) #[]
theorem vm_push (w : World) (B : Nat) (hB : B ≤ w.heap.size) (fn : Nat) : Calls Tryz.prog 296 #[.func (.func fn) #[] #[]] w fun e w' => ∃ v, e = .returned v ∧ Good (fun g => B ≤ g) w' (.push fn) v ∧ Keeps (fun _ => False) w w' := by
  have hmf := hmf
  have HB := Lib.hid hB
  clear hB
  go_enter Tryz.func296, Tryz.ntmps296
  go_wp2_with fail
  go_ret
  exact ⟨_, rfl, ⟨_, rfl, ⟨w.heap.size, _, rfl, HB.out, halloc_at w _⟩⟩, Keeps.alloc _ _ _⟩
theorem vm_look (w : World) (B : Nat) (hB : B ≤ w.heap.size) (fn : Nat) : Calls Tryz.prog 323 #[.func (.func fn) #[] #[]] w fun e w' => ∃ v, e = .returned v ∧ Good (fun g => B ≤ g) w' (.look fn) v ∧ Keeps (fun _ => False) w w' := by
  have hmf := hmf
  have HB := Lib.hid hB
  have hW := Lib.hid fun (V : World) (h : B ≤ V.heap.size) => vm_with V B h 1 (.func 413) #[.pointer (some ⟨w.heap.size, 0, none⟩)]
  clear hB
  go_enter Tryz.func323, Tryz.ntmps323
  go_wp2_with fail
  refine (hW.out _ (by simp; have := HB.out; omega)).mono ?_
  rintro e w1 ⟨v, rfl, h1, k1⟩
  have H1 := Lib.hid h1
  have K1 := Lib.hid k1
  clear h1 k1
  go_wp2_with fail
  go_ret
  exact ⟨_, rfl, ⟨_, H1.out, ⟨w.heap.size, _, rfl, HB.out, K1.out.heap (halloc_at w _) id⟩⟩, (Keeps.alloc _ _ _).trans K1.out⟩
theorem own_new (w : World) (e : TypeId) (xs : List Value) (n g : Nat) (h : xs.length = n) (hg : w.heap.size = g) (hn : n ≤ maxLen) : Own (w.alloc (.cells xs.toArray e)) e 1 (some ⟨g, 0, none⟩) n n xs := by
  subst hg
  refine ⟨by rw [h]; simp, .inr ⟨w.heap.size, n, _, rfl, Nat.zero_le _, halloc_at _ _, Nat.le_refl _, hn, by simpa using h, ?_⟩⟩
  show xs.take (n * 1) = xs
  rw [Nat.mul_one, ← h]
  exact List.take_length
theorem vm_moves (w : World) (B : Nat) (hB : B ≤ w.heap.size) (n : Int) (s : Option Addr) (m c : Nat) (l : List Int) (hl : l.length = m) (ho : Own w 3 1 s m c (l.map (Value.int .i64))) (hs : ∀ g, blk s = some g → B ≤ g) :
    Calls Tryz.prog 312 #[.int .i64 n, .slice s m c] w fun e w' => ∃ v, e = .returned v ∧ Good (fun g => B ≤ g) w' (.moves n l) v ∧ Keeps (fun _ => False) w w' := by
  have hmf := hmf
  have HB := Lib.hid hB
  have HO := Lib.hid ho
  have HS := Lib.hid hs
  have HL := Lib.hid hl
  clear hB ho hs hl
  go_enter Tryz.func312, Tryz.ntmps312
  go_wp2_with fail
  go_ret
  refine ⟨_, rfl, ⟨.pointer (some ⟨w.heap.size, 0, none⟩), .pointer (some ⟨w.heap.size + 1, 0, none⟩), s, c, rfl, ⟨w.heap.size, 3, rfl, HB.out, (halloc_old _ _ (by simp)).trans (halloc_at w _)⟩, ⟨w.heap.size + 1, 402, rfl, Nat.le_succ_of_le HB.out, ?_⟩, ?_, HS.out⟩, (Keeps.alloc _ _ _).trans (Keeps.alloc _ _ _)⟩
  · rw [HL.out]; exact halloc_2 _ _ _
  · rw [HL.out]
    exact HO.out.keeps ((Keeps.alloc (fun _ => False) _ _).trans (Keeps.alloc _ _ _)) (fun _ _ => id)
end Go.Proofs.Shed
