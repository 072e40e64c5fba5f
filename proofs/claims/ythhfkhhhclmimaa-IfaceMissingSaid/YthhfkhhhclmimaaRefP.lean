/- The plain law's reference: walks, heirs, and what a class knows, behind a method that is set and a class that is new. No program in sight; no condition. -/
import Derived.Test.YthhfkhhhclmimaaSpP
set_option linter.unusedVariables false
set_option linter.unusedSimpArgs false
namespace Go.Proofs.Shed
namespace Ref
theorem get_of (L : List RCls) (c : Nat) (h : c < L.length) : L[c] = get L c := (get_at L c h).symm
theorem walk_go (L : List RCls) (h : Ok L) (c : Nat) (sel : Int) (hc : c < L.length) : walk L c sel = match own (get L c).own sel with
    | some xt => some (xt, (c : Int))
    | none => walk L (get L c).parent sel := by rw [walk_step L h c sel hc, get_of]; rfl
theorem heir_go (L : List RCls) (h : Ok L) (c : Nat) (o sel : Int) (hc : c < L.length) (ho : (c : Int) ≠ o) : heir L c o sel = match own (get L c).own sel with
    | some _ => false
    | none => heir L (get L c).parent o sel := by rw [heir_step L h c o sel hc ho, get_of]; rfl
theorem seenA_go (L : List RCls) (h : Ok L) (c : Nat) (all : List Int) (hc : c < L.length) : seenA L c all = seenA L (get L c).parent (addAll all (get L c).own) := by
  rw [seenA_step L h c all hc, get_of]
theorem par (L : List RCls) (h : Ok L) (c : Nat) (hc : c < L.length) : -1 ≤ (get L c).parent ∧ (get L c).parent < c := by
  have := h c hc
  rwa [get_of] at this
/-- Over all classes, a class's parent first. -/
theorem climb (L : List RCls) (h : Ok L) {P : Int → Prop} (h0 : P (-1)) (hs : ∀ c : Nat, c < L.length → P (get L c).parent → P c) (c : Int) (c0 : -1 ≤ c) (hc : c < L.length) : P c := by
  by_cases hn : c = -1
  · rw [hn]; exact h0
  · obtain ⟨k, rfl⟩ : ∃ k : Nat, c = k := ⟨c.toNat, by omega⟩
    induction k using Nat.strongRecOn with
    | _ k ih =>
      refine hs k (by omega) ?_
      have hp := par L h k (by omega)
      by_cases hn' : (get L k).parent = -1
      · rw [hn']; exact h0
      · have := ih (get L k).parent.toNat (by omega) (by omega) (by omega) (by omega)
        rwa [show (((get L k).parent.toNat : Nat) : Int) = (get L k).parent by omega] at this
theorem walk_in (L : List RCls) (h : Ok L) (sel : Int) (c : Int) (c0 : -1 ≤ c) (hc : c < L.length) : ∀ p, walk L c sel = some p → 0 ≤ p.2 ∧ p.2 ≤ c := by
  refine climb L h (P := fun c => ∀ p, walk L c sel = some p → 0 ≤ p.2 ∧ p.2 ≤ c) ?_ ?_ c c0 hc
  · intro p hp
    rw [walk_neg L (-1) sel (by omega)] at hp
    cases hp
  · intro k hk ih p hp
    have := par L h k hk
    rw [walk_go L h k sel hk] at hp
    cases ho : own (get L k).own sel with
    | some xt => rw [ho] at hp; cases hp; simp only; omega
    | none =>
      rw [ho] at hp
      have := ih p hp
      omega
theorem addAll_mem (l : List (Int × Int)) (all : List Int) (s : Int) : s ∈ addAll all l ↔ s ∈ all ∨ (own l s).isSome = true := by
  induction l generalizing all with
  | nil => simp [addAll, own]
  | cons p l ih =>
    rw [addAll, ih, own]
    by_cases hm : p.1 ∈ all
    · rw [if_pos hm]
      by_cases hp : p.1 = s
      · rw [if_pos hp]; subst hp; simp [hm]
      · rw [if_neg hp]
    · rw [if_neg hm]
      by_cases hp : p.1 = s
      · rw [if_pos hp]; subst hp; simp
      · rw [if_neg hp]
        simp only [List.mem_append, List.mem_singleton]
        constructor
        · rintro ((h | h) | h)
          · exact .inl h
          · exact absurd h.symm hp
          · exact .inr h
        · rintro (h | h)
          · exact .inl (.inl h)
          · exact .inr h
theorem addAll_nodup (l : List (Int × Int)) (all : List Int) (h : all.Nodup) : (addAll all l).Nodup := by
  induction l generalizing all with
  | nil => exact h
  | cons p l ih =>
    rw [addAll]
    apply ih
    split
    · exact h
    · rename_i hm
      rw [List.nodup_append]
      refine ⟨h, by simp, ?_⟩
      intro a ha b hb
      rw [List.mem_singleton] at hb
      subst hb
      intro e
      subst e
      exact hm ha
theorem seenA_spec (L : List RCls) (h : Ok L) (c : Int) (c0 : -1 ≤ c) (hc : c < L.length) : ∀ all : List Int, all.Nodup → (seenA L c all).Nodup ∧ ∀ s, s ∈ seenA L c all ↔ s ∈ all ∨ (walk L c s).isSome = true := by
  refine climb L h (P := fun c => ∀ all : List Int, all.Nodup → (seenA L c all).Nodup ∧ ∀ s, s ∈ seenA L c all ↔ s ∈ all ∨ (walk L c s).isSome = true) ?_ ?_ c c0 hc
  · intro all ha
    rw [seenA_neg L (-1) all (by omega)]
    refine ⟨ha, fun s => ?_⟩
    rw [walk_neg L (-1) s (by omega)]
    simp
  · intro k hk ih all ha
    rw [seenA_go L h k all hk]
    obtain ⟨h1, h2⟩ := ih _ (addAll_nodup (get L k).own all ha)
    refine ⟨h1, fun s => ?_⟩
    rw [h2, addAll_mem, walk_go L h k s hk]
    cases ho : own (get L k).own s with
    | some x => simp
    | none => simp
theorem nodup_le : ∀ {a b : List Int}, a.Nodup → (∀ s ∈ a, s ∈ b) → a.length ≤ b.length
  | [], _, _, _ => by simp
  | x :: a, b, h, hs => by
    rw [List.nodup_cons] at h
    have := nodup_le (a := a) (b := b.erase x) h.2 (fun s hm => by
      have h1 := hs s (by simp [hm])
      have h2 : s ≠ x := by intro e; subst e; exact h.1 hm
      exact (List.mem_erase_of_ne h2).2 h1)
    have hx := hs x (by simp)
    rw [List.length_erase_of_mem hx] at this
    have := List.length_pos_of_mem hx
    rw [List.length_cons]
    omega
theorem nodup_len {a b : List Int} (ha : a.Nodup) (hb : b.Nodup) (h : ∀ s, s ∈ a ↔ s ∈ b) : a.length = b.length :=
  Nat.le_antisymm (nodup_le ha (fun s hs => (h s).1 hs)) (nodup_le hb (fun s hs => (h s).2 hs))

theorem own_put (l : List (Int × Int)) (sel xt s : Int) : own (l.filter (fun p => p.1 ≠ sel) ++ [(sel, xt)]) s = if s = sel then some xt else own l s := by
  induction l with
  | nil =>
    show own [(sel, xt)] s = _
    unfold own own
    by_cases h : s = sel
    · rw [if_pos h, if_pos h.symm]
    · rw [if_neg h, if_neg (fun e => h e.symm)]
  | cons p l ih =>
    rw [List.filter_cons]
    by_cases hp : p.1 = sel
    · rw [if_neg (by simp [hp]), ih]
      by_cases h : s = sel
      · rw [if_pos h, if_pos h]
      · rw [if_neg h, if_neg h, own, if_neg (by omega)]
    · rw [if_pos (by simp [hp]), List.cons_append, own, ih, own]
      by_cases h : s = sel
      · rw [if_pos h, if_pos h, if_neg (by omega)]
      · rw [if_neg h, if_neg h]
theorem put_len (L : List RCls) (c : Nat) (sel xt : Int) : (put L c sel xt).length = L.length := by unfold put; rw [List.length_set]
theorem put_get (L : List RCls) (c : Nat) (sel xt : Int) (_hc : c < L.length) (i : Nat) (hi : i < L.length) : get (put L c sel xt) i = if i = c then { get L c with own := (get L c).own.filter (fun p => p.1 ≠ sel) ++ [(sel, xt)] } else get L i := by
  rw [get_at _ i (by rw [put_len]; exact hi), get_at L i hi]
  unfold put
  rw [List.getElem_set]
  by_cases h : i = c
  · rw [if_pos h, if_pos h.symm]
  · rw [if_neg h, if_neg (fun e => h e.symm)]
theorem put_parent (L : List RCls) (c : Nat) (sel xt : Int) (hc : c < L.length) (i : Nat) (hi : i < L.length) : (get (put L c sel xt) i).parent = (get L i).parent ∧ (get (put L c sel xt) i).slots = (get L i).slots ∧ (get (put L c sel xt) i).size = (get L i).size := by
  rw [put_get L c sel xt hc i hi]
  split
  · rename_i h; subst h; exact ⟨rfl, rfl, rfl⟩
  · exact ⟨rfl, rfl, rfl⟩
theorem put_ok (L : List RCls) (h : Ok L) (c : Nat) (sel xt : Int) (hc : c < L.length) : Ok (put L c sel xt) := by
  intro i hi
  have hi' : i < L.length := by rwa [put_len] at hi
  rw [get_of, (put_parent L c sel xt hc i hi').1]
  exact par L h i hi'
theorem put_walk (L : List RCls) (h : Ok L) (c : Nat) (sel xt : Int) (hc : c < L.length) (s : Int) (i : Int) (i0 : -1 ≤ i) (hi : i < L.length) :
    walk (put L c sel xt) i s = if s = sel ∧ heir L i c sel = true then some (xt, (c : Int)) else walk L i s := by
  refine climb L h (P := fun i => walk (put L c sel xt) i s = if s = sel ∧ heir L i c sel = true then some (xt, (c : Int)) else walk L i s) ?_ ?_ i i0 hi
  · rw [walk_neg _ (-1) s (by omega), walk_neg _ (-1) s (by omega), heir_end L (-1) c sel (.inl (by omega)), decide_eq_false (by omega)]
    simp
  · intro k hk ih
    rw [walk_go _ (put_ok L h c sel xt hc) k s (by rw [put_len]; exact hk), (put_parent L c sel xt hc k hk).1, put_get L c sel xt hc k hk, walk_go L h k s hk]
    by_cases hkc : k = c
    · subst hkc
      rw [if_pos rfl]
      simp only
      rw [own_put, heir_end L k k sel (.inr rfl), decide_eq_true rfl]
      by_cases hs : s = sel
      · subst hs; simp
      · rw [if_neg hs, if_neg (fun e => hs e.1)]
        rw [if_neg (fun e => hs e.1)] at ih
        rw [ih]
    · rw [if_neg hkc, heir_go L h k c sel hk (by omega), ih]
      by_cases hs : s = sel
      · subst hs
        cases ho : own (get L k).own s with
        | some x => simp
        | none => simp
      · rw [if_neg (fun e => hs e.1), if_neg (fun e => hs e.1)]
/-- One class more. -/
theorem snoc_get (L : List RCls) (x : RCls) (i : Nat) (hi : i < L.length) : get (L ++ [x]) i = get L i := by
  rw [get_at _ i (by simp; omega), get_at L i hi, List.getElem_append_left hi]
theorem snoc_last (L : List RCls) (x : RCls) : get (L ++ [x]) (L.length : Nat) = x := by
  rw [get_at _ L.length (by simp)]
  simp
theorem snoc_ok (L : List RCls) (h : Ok L) (x : RCls) (hx : -1 ≤ x.parent ∧ x.parent < L.length) : Ok (L ++ [x]) := by
  intro i hi
  rw [get_of]
  by_cases hl : i < L.length
  · rw [snoc_get L x i hl]; exact par L h i hl
  · rw [List.length_append, List.length_singleton] at hi
    have : i = L.length := by omega
    subst this
    rw [snoc_last]
    exact hx
theorem snoc_walk (L : List RCls) (h : Ok L) (x : RCls) (hx : -1 ≤ x.parent ∧ x.parent < L.length) (s : Int) (i : Int) (i0 : -1 ≤ i) (hi : i < L.length) : walk (L ++ [x]) i s = walk L i s := by
  refine climb L h (P := fun i => walk (L ++ [x]) i s = walk L i s) ?_ ?_ i i0 hi
  · rw [walk_neg _ (-1) s (by omega), walk_neg _ (-1) s (by omega)]
  · intro k hk ih
    rw [walk_go _ (snoc_ok L h x hx) k s (by simp; omega), walk_go L h k s hk, snoc_get L x k hk, ih]
theorem snoc_walk_last (L : List RCls) (h : Ok L) (x : RCls) (hx : -1 ≤ x.parent ∧ x.parent < L.length) (ho : x.own = []) (s : Int) : walk (L ++ [x]) (L.length : Nat) s = walk L x.parent s := by
  rw [walk_go _ (snoc_ok L h x hx) L.length s (by simp), snoc_last, ho]
  exact snoc_walk L h x hx s _ hx.1 hx.2
end Ref
end Go.Proofs.Shed
