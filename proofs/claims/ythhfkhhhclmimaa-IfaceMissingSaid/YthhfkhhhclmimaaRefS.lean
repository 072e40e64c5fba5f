/- What the document's functions for layers 11 to 13 come to. No program in sight; no condition. -/
import Derived.Test.YthhfkhhhclmimaaIfaceS
set_option linter.unusedVariables false
set_option linter.unusedSimpArgs false
namespace Go.Proofs.Shed
/-- A class, as the document has it. -/
structure RCls where
  parent : Int
  size : Int
  slots : Int
  own : List (Int × Int)
  deriving DecidableEq
namespace Ref
def own : List (Int × Int) → Int → Option Int
  | [], _ => none
  | p :: l, sel => if p.1 = sel then some p.2 else own l sel
def get (L : List RCls) (c : Int) : RCls := L.getD c.toNat ⟨-1, 0, 0, []⟩
/-- Each parent stands ahead. -/
def Ok (L : List RCls) : Prop := ∀ i (h : i < L.length), -1 ≤ L[i].parent ∧ L[i].parent < i
/-- In at most so many steps. -/
def walkN (L : List RCls) (sel : Int) : Nat → Int → Option (Int × Int)
  | 0, _ => none
  | k + 1, c => if c < 0 then none else
    match own (get L c).own sel with
    | some xt => some (xt, c)
    | none => walkN L sel k (get L c).parent
def walk (L : List RCls) (c sel : Int) : Option (Int × Int) := walkN L sel (c + 1).toNat c
def heirN (L : List RCls) (of sel : Int) : Nat → Int → Bool
  | 0, c => decide (c = of)
  | k + 1, c => if c < 0 ∨ c = of then decide (c = of) else
    match own (get L c).own sel with
    | some _ => false
    | none => heirN L of sel k (get L c).parent
def heir (L : List RCls) (c of sel : Int) : Bool := heirN L of sel (c + 1).toNat c
def addAll : List Int → List (Int × Int) → List Int
  | all, [] => all
  | all, p :: l => addAll (if p.1 ∈ all then all else all ++ [p.1]) l
def seenN (L : List RCls) : Nat → Int → List Int → List Int
  | 0, _, all => all
  | k + 1, c, all => if c < 0 then all else seenN L k (get L c).parent (addAll all (get L c).own)
def seen (L : List RCls) (c : Int) : Nat := (seenN L (c + 1).toNat c []).length
/-- Is a class without room? -/
def full (L : List RCls) (c sel : Int) (i : Nat) : Bool := heir L i c sel && (walk L i sel).isNone && decide ((get L i).slots ≤ seen L i)
def put (L : List RCls) (c : Nat) (sel xt : Int) : List RCls :=
  L.set c { get L c with own := (get L c).own.filter (fun p => p.1 ≠ sel) ++ [(sel, xt)] }
def set (L : List RCls) (c : Nat) (sel xt : Int) : List RCls × Int :=
  if sel < 1 then (L, -256)
  else if (List.range L.length).any (full L c sel) then (L, -2051)
  else (put L c sel xt, 0)
def new (L : List RCls) (parent slots : Int) : List RCls :=
  L ++ [if 0 ≤ parent then ⟨parent, (get L parent).size, (get L parent).slots, []⟩ else ⟨parent, 8, slots, []⟩]

theorem walkN_succ (L : List RCls) (sel : Int) (k : Nat) (c : Int) : walkN L sel (k + 1) c = if c < 0 then none else
    match own (get L c).own sel with
    | some xt => some (xt, c)
    | none => walkN L sel k (get L c).parent := rfl
theorem heirN_succ (L : List RCls) (o sel : Int) (k : Nat) (c : Int) : heirN L o sel (k + 1) c = if c < 0 ∨ c = o then decide (c = o) else
    match own (get L c).own sel with
    | some _ => false
    | none => heirN L o sel k (get L c).parent := rfl
theorem seenN_succ (L : List RCls) (k : Nat) (c : Int) (all : List Int) : seenN L (k + 1) c all = if c < 0 then all else seenN L k (get L c).parent (addAll all (get L c).own) := rfl
theorem walkN_more (L : List RCls) (h : Ok L) (sel : Int) (k : Nat) (c : Int) (hk : c < k) (hc : c < L.length) : walkN L sel (k + 1) c = walkN L sel k c := by
  induction k generalizing c with
  | zero => rw [walkN, walkN, if_pos (by omega)]
  | succ k ih =>
    rw [walkN_succ L sel (k + 1), walkN_succ L sel k c]
    by_cases h0 : c < 0
    · rw [if_pos h0, if_pos h0]
    · rw [if_neg h0, if_neg h0]
      cases own (get L c).own sel with
      | some x => rfl
      | none =>
        have hp := h c.toNat (by omega)
        have e : (get L c) = L[c.toNat]'(by omega) := by unfold get; rw [List.getD_eq_getElem?_getD, List.getElem?_eq_getElem (by omega)]; rfl
        rw [← e] at hp
        exact ih _ (by omega) (by omega)
theorem walkN_enough (L : List RCls) (h : Ok L) (sel : Int) (k : Nat) (c : Int) (hk : c < k) (hc : c < L.length) : walkN L sel k c = walk L c sel := by
  unfold walk
  obtain ⟨d, hd⟩ : ∃ d, k = (c + 1).toNat + d := ⟨k - (c + 1).toNat, by omega⟩
  subst hd
  clear hk
  induction d with
  | zero => rfl
  | succ d ih => rw [← Nat.add_assoc, walkN_more L h sel _ c (by omega) hc, ih]
theorem walk_neg (L : List RCls) (c sel : Int) (h : c < 0) : walk L c sel = none := by
  unfold walk
  rw [show (c + 1).toNat = 0 by omega]
  rfl
theorem get_at (L : List RCls) (c : Nat) (h : c < L.length) : get L c = L[c] := by
  unfold get
  rw [List.getD_eq_getElem?_getD, show (c : Int).toNat = c by omega, List.getElem?_eq_getElem h]
  rfl
theorem walk_step (L : List RCls) (h : Ok L) (c : Nat) (sel : Int) (hc : c < L.length) : walk L c sel = match own L[c].own sel with
    | some xt => some (xt, (c : Int))
    | none => walk L L[c].parent sel := by
  have hp := h c hc
  conv => lhs; unfold walk
  rw [show ((c : Int) + 1).toNat = c + 1 by omega, walkN, if_neg (by omega), get_at L c hc]
  cases own L[c].own sel with
  | some x => rfl
  | none => exact walkN_enough L h sel c _ (by omega) (by omega)
theorem heirN_more (L : List RCls) (h : Ok L) (o sel : Int) (k : Nat) (c : Int) (hk : c < k) (hc : c < L.length) : heirN L o sel (k + 1) c = heirN L o sel k c := by
  induction k generalizing c with
  | zero => rw [heirN, heirN, if_pos (by omega)]
  | succ k ih =>
    rw [heirN_succ L o sel (k + 1), heirN_succ L o sel k c]
    by_cases h0 : c < 0 ∨ c = o
    · rw [if_pos h0, if_pos h0]
    · rw [if_neg h0, if_neg h0]
      cases own (get L c).own sel with
      | some x => rfl
      | none =>
        have hp := h c.toNat (by omega)
        have e : (get L c) = L[c.toNat]'(by omega) := by unfold get; rw [List.getD_eq_getElem?_getD, List.getElem?_eq_getElem (by omega)]; rfl
        rw [← e] at hp
        exact ih _ (by omega) (by omega)
theorem heirN_enough (L : List RCls) (h : Ok L) (o sel : Int) (k : Nat) (c : Int) (hk : c < k) (hc : c < L.length) : heirN L o sel k c = heir L c o sel := by
  unfold heir
  obtain ⟨d, hd⟩ : ∃ d, k = (c + 1).toNat + d := ⟨k - (c + 1).toNat, by omega⟩
  subst hd
  clear hk
  induction d with
  | zero => rfl
  | succ d ih => rw [← Nat.add_assoc, heirN_more L h o sel _ c (by omega) hc, ih]
theorem heir_end (L : List RCls) (c o sel : Int) (h : c < 0 ∨ c = o) : heir L c o sel = decide (c = o) := by
  unfold heir
  cases (c + 1).toNat with
  | zero => rfl
  | succ k => rw [heirN, if_pos h]
theorem heir_step (L : List RCls) (h : Ok L) (c : Nat) (o sel : Int) (hc : c < L.length) (ho : (c : Int) ≠ o) : heir L c o sel = match own L[c].own sel with
    | some _ => false
    | none => heir L L[c].parent o sel := by
  have hp := h c hc
  conv => lhs; unfold heir
  rw [show ((c : Int) + 1).toNat = c + 1 by omega, heirN, if_neg (by omega), get_at L c hc]
  cases own L[c].own sel with
  | some x => rfl
  | none => exact heirN_enough L h o sel c _ (by omega) (by omega)
/-- What a class and those above it know, beside some. -/
def seenA (L : List RCls) (c : Int) (all : List Int) : List Int := seenN L (c + 1).toNat c all
theorem seenN_more (L : List RCls) (h : Ok L) (k : Nat) (c : Int) (all : List Int) (hk : c < k) (hc : c < L.length) : seenN L (k + 1) c all = seenN L k c all := by
  induction k generalizing c all with
  | zero => rw [seenN, seenN, if_pos (by omega)]
  | succ k ih =>
    rw [seenN_succ L (k + 1), seenN_succ L k c all]
    by_cases h0 : c < 0
    · rw [if_pos h0, if_pos h0]
    · rw [if_neg h0, if_neg h0]
      have hp := h c.toNat (by omega)
      have e : (get L c) = L[c.toNat]'(by omega) := by unfold get; rw [List.getD_eq_getElem?_getD, List.getElem?_eq_getElem (by omega)]; rfl
      rw [← e] at hp
      exact ih _ _ (by omega) (by omega)
theorem seenN_enough (L : List RCls) (h : Ok L) (k : Nat) (c : Int) (all : List Int) (hk : c < k) (hc : c < L.length) : seenN L k c all = seenA L c all := by
  unfold seenA
  obtain ⟨d, hd⟩ : ∃ d, k = (c + 1).toNat + d := ⟨k - (c + 1).toNat, by omega⟩
  subst hd
  clear hk
  induction d with
  | zero => rfl
  | succ d ih => rw [← Nat.add_assoc, seenN_more L h _ c all (by omega) hc, ih]
theorem seenA_neg (L : List RCls) (c : Int) (all : List Int) (h : c < 0) : seenA L c all = all := by
  unfold seenA
  rw [show (c + 1).toNat = 0 by omega]
  rfl
theorem seenA_step (L : List RCls) (h : Ok L) (c : Nat) (all : List Int) (hc : c < L.length) : seenA L c all = seenA L L[c].parent (addAll all L[c].own) := by
  have hp := h c hc
  conv => lhs; unfold seenA
  rw [show ((c : Int) + 1).toNat = c + 1 by omega, seenN, if_neg (by omega), get_at L c hc]
  exact seenN_enough L h c _ _ (by omega) (by omega)
end Ref
end Go.Proofs.Shed
