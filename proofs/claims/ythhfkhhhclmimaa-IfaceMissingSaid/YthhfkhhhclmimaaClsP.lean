/- The plain law's classes: a memory whose tables tell of all selectors what the walk tells; it stays so behind a method that is set, a class that is new, and what is written above. No program in sight; no condition. -/
import Derived.Test.YthhfkhhhclmimaaRefP
set_option linter.unusedVariables false
set_option linter.unusedSimpArgs false
namespace Go.Proofs.Shed
namespace Class
def nth (A : List Int) (i : Nat) : Int := A.getD i 0
/-- The place of a class's number; of none 0. -/
def atOf (A : List Int) (k : Int) : Int := if k < 0 then 0 else nth A k.toNat
def prevAt (A : List Int) (i : Nat) : Int := if i = 0 then 0 else nth A (i - 1)
theorem nth_snoc (A : List Int) (a : Int) (i : Nat) (h : i < A.length) : nth (A ++ [a]) i = nth A i := by
  unfold nth
  rw [List.getD_eq_getElem?_getD, List.getD_eq_getElem?_getD, List.getElem?_append_left h]
theorem nth_last (A : List Int) (a : Int) : nth (A ++ [a]) A.length = a := by
  unfold nth
  rw [List.getD_eq_getElem?_getD]
  simp

structure Good (m : Mem) (root : Int) (A T : List Int) (L : List RCls) (hi : Int) : Prop where
  nA : A.length = L.length
  nT : T.length = L.length
  ref : Ref.Ok L
  slots : ∀ i : Nat, i < L.length → 1 ≤ (Ref.get L i).slots ∧ (Ref.get L i).slots ≤ 1024
  rt : 0 < root ∧ root % 8 = 0 ∧ root + 8 ≤ hi
  top : hi ≤ m.size ∧ m.size ≤ 1048576
  lay : ∀ i : Nat, i < L.length → nth T i % 8 = 0 ∧ root + 8 ≤ nth T i ∧ nth T i + (2 + (Ref.get L i).slots * 3) * 8 ≤ nth A i ∧ nth A i % 8 = 0 ∧ nth A i + 40 ≤ hi
  ord : ∀ i j : Nat, i < j → j < L.length → nth A i + 40 ≤ nth T j
  last : m.cell root = (prevAt A L.length, 0)
  cells : ∀ i : Nat, i < L.length → m.cell (nth A i) = (magic, 0) ∧ m.cell (nth A i + 8) = (atOf A (Ref.get L i).parent, 0) ∧ m.cell (nth A i + 16) = ((Ref.get L i).size, 0) ∧ m.cell (nth A i + 24) = (nth T i, 0) ∧ m.cell (nth A i + 32) = (prevAt A i, 0)
  fine : ∀ i : Nat, i < L.length → Tab.Fine m (nth T i) (Ref.get L i).slots
  agree : ∀ i : Nat, i < L.length → ∀ s, Tab.look m (nth T i) s = (Ref.walk L i s).map fun p => ⟨s, p.1, atOf A p.2⟩

def clsAt (A T : List Int) (L : List RCls) (i : Nat) : Cls := ⟨nth A i, atOf A (Ref.get L i).parent, (Ref.get L i).size, nth T i, prevAt A i⟩
namespace Good
variable {m : Mem} {root : Int} {A T : List Int} {L : List RCls} {hi : Int}
theorem pos (h : Good m root A T L hi) {i : Nat} (i1 : i < L.length) : root + 8 + 40 ≤ nth A i ∧ nth A i < m.size := by
  have h1 := h.lay i i1
  have h2 := h.slots i i1
  have h3 := h.top
  omega
theorem less (h : Good m root A T L hi) {i j : Nat} (hij : i < j) (j1 : j < L.length) : nth A i + 40 ≤ nth T j ∧ nth A i < nth A j := by
  have h1 := h.ord i j hij j1
  have h2 := h.lay j j1
  have h3 := h.slots j j1
  omega
theorem inj (h : Good m root A T L hi) {i j : Nat} (i1 : i < L.length) (j1 : j < L.length) (e : nth A i = nth A j) : i = j := by
  by_cases h1 : i < j
  · have := h.less h1 j1; omega
  · by_cases h2 : j < i
    · have := h.less h2 i1; omega
    · omega
theorem atOf_nat (k : Nat) : atOf A (k : Int) = nth A k := by
  unfold atOf
  rw [if_neg (by omega)]
  rfl
theorem read (h : Good m root A T L hi) {i : Nat} (i1 : i < L.length) : Class.read m (nth A i) = (clsAt A T L i, true) := by
  obtain ⟨c0, c1, c2, c3, c4⟩ := h.cells i i1
  unfold Class.read
  rw [c0, c1, c2, c3, c4]
  rfl
theorem walk (h : Good m root A T L hi) {i : Nat} (i1 : i < L.length) (last : Int) (hl : nth A i < last) : Class.walk m (nth A i) last = ((List.range (i + 1)).map (clsAt A T L)).reverse := by
  induction i generalizing last with
  | zero =>
    have hp := h.pos i1
    have hr := h.rt
    rw [walk_step m _ _ ⟨by omega, hl⟩ (by rw [h.read i1]), h.read i1]
    show _ :: Class.walk m (prevAt A 0) _ = _
    rw [show prevAt A 0 = 0 from rfl, walk_end _ _ _ (by omega)]
    rfl
  | succ i ih =>
    have hp := h.pos i1
    have hr := h.rt
    rw [walk_step m _ _ ⟨by omega, hl⟩ (by rw [h.read i1]), h.read i1]
    show clsAt A T L (i + 1) :: Class.walk m (nth A i) (nth A (i + 1)) = _
    rw [ih (by omega) _ (h.less (Nat.lt_succ_self i) i1).2, List.range_succ (n := i + 1), List.map_append, List.reverse_append]
    rfl
theorem all (h : Good m root A T L hi) : Class.all m root = (List.range L.length).map (clsAt A T L) := by
  unfold Class.all
  rw [h.last, if_pos rfl]
  simp only
  obtain ⟨n, hn⟩ : ∃ n, L.length = n := ⟨_, rfl⟩
  rw [hn]
  cases n with
  | zero =>
    rw [show prevAt A 0 = 0 from rfl, walk_end _ _ _ (by omega)]
    rfl
  | succ n =>
    show (Class.walk m (nth A n) m.size).reverse = _
    rw [h.walk (by omega) _ (h.pos (by omega)).2, List.reverse_reverse]
theorem is (h : Good m root A T L hi) {i : Nat} (i1 : i < L.length) : Class.is m root (nth A i) = true := by
  unfold Class.is
  rw [h.all, List.any_eq_true]
  exact ⟨clsAt A T L i, List.mem_map.2 ⟨i, List.mem_range.2 i1, rfl⟩, decide_eq_true rfl⟩
theorem not_is (h : Good m root A T L hi) {a : Int} (ha : ∀ i : Nat, i < L.length → nth A i ≠ a) : Class.is m root a = false := by
  rw [Bool.eq_false_iff]
  intro hc
  unfold Class.is at hc
  rw [h.all, List.any_eq_true] at hc
  obtain ⟨c, hc, hd⟩ := hc
  obtain ⟨i, hi, rfl⟩ := List.mem_map.1 hc
  exact ha i (List.mem_range.1 hi) (of_decide_eq_true hd)
theorem lookup (h : Good m root A T L hi) {i : Nat} (i1 : i < L.length) (s : Int) : (Class.lookup m (nth A i) s).2.2 = (Ref.walk L i s).isSome ∧ ∀ p, Ref.walk L i s = some p → (Class.lookup m (nth A i) s).1 = ⟨s, p.1, atOf A p.2⟩ := by
  unfold Class.lookup
  rw [h.read i1, if_neg (by simp)]
  have ha := h.agree i i1 s
  refine ⟨?_, fun p hp => ?_⟩
  · show (Tab.get m (nth T i) s).2.2 = _
    rw [Tab.look_get, ha, Option.isSome_map]
  · exact Tab.look_ent (by rw [show (clsAt A T L i).table = nth T i from rfl, ha, hp]; rfl)
theorem owns (h : Good m root A T L hi) {i : Nat} (i1 : i < L.length) (s : Int) : ((Tab.get m (nth T i) s).2.2 = true ∧ (Tab.get m (nth T i) s).1.cls = nth A i) ↔ (Ref.own (Ref.get L i).own s).isSome = true := by
  have ha := h.agree i i1 s
  rw [Ref.walk_go L h.ref i s i1] at ha
  rw [Tab.look_get]
  cases ho : Ref.own (Ref.get L i).own s with
  | some x =>
    rw [ho] at ha
    simp only [Option.map_some] at ha
    rw [ha, Tab.look_ent ha, atOf_nat]
    simp
  | none =>
    rw [ho] at ha
    simp only at ha
    rw [ha]
    cases hw : Ref.walk L (Ref.get L i).parent s with
    | none => simp
    | some p =>
      have hp := Ref.par L h.ref i i1
      have := Ref.walk_in L h.ref s (Ref.get L i).parent (by omega) (by omega) p hw
      rw [hw] at ha
      rw [Tab.look_ent ha]
      simp only [Option.map_some, Option.isSome_some, true_and, Option.isSome_none, Bool.false_eq_true, iff_false]
      intro e
      obtain ⟨k, hk⟩ : ∃ k : Nat, p.2 = k := ⟨p.2.toNat, by omega⟩
      rw [hk, atOf_nat] at e
      have := h.inj (by omega) i1 e
      omega
theorem heirs_from (h : Good m root A T L hi) {c : Nat} (hc : c < L.length) (sel : Int) (k i : Nat) (hik : i + k = L.length) (seen : List Int)
    (hs : ∀ v, v ∈ seen ↔ ∃ j : Nat, j < i ∧ v = nth A j ∧ Ref.heir L j c sel = true) :
    heirsL m (nth A c) sel ((List.range' i k).map (clsAt A T L)) seen = ((List.range' i k).filter (fun j : Nat => Ref.heir L j c sel)).map (clsAt A T L) := by
  induction k generalizing i seen with
  | zero => rfl
  | succ k ih =>
    have i1 : i < L.length := by omega
    rw [List.range'_succ, List.map_cons, heirsL, List.filter_cons]
    have hp := Ref.par L h.ref i i1
    have key : ((clsAt A T L i).at_ = nth A c ∨ ((clsAt A T L i).parent ∈ seen ∧ ¬ ((Tab.get m (clsAt A T L i).table sel).2.2 = true ∧ (Tab.get m (clsAt A T L i).table sel).1.cls = (clsAt A T L i).at_))) ↔ Ref.heir L i c sel = true := by
      show (nth A i = nth A c ∨ (atOf A (Ref.get L i).parent ∈ seen ∧ ¬ ((Tab.get m (nth T i) sel).2.2 = true ∧ (Tab.get m (nth T i) sel).1.cls = nth A i))) ↔ _
      rw [h.owns i1 sel]
      by_cases hic : i = c
      · subst hic
        rw [Ref.heir_end L i i sel (.inr rfl), decide_eq_true rfl]
        simp
      · rw [Ref.heir_go L h.ref i c sel i1 (by omega)]
        have hne : ¬ nth A i = nth A c := fun e => hic (h.inj i1 hc e)
        cases ho : Ref.own (Ref.get L i).own sel with
        | some x => simp [hne]
        | none =>
          simp only [hne, false_or, Option.isSome_none, Bool.false_eq_true, not_false_eq_true, and_true]
          rw [hs]
          by_cases hneg : (Ref.get L i).parent < 0
          · rw [Ref.heir_end L _ c sel (.inl hneg), decide_eq_false (by omega)]
            simp only [Bool.false_eq_true, iff_false]
            rintro ⟨j, hj, e, _⟩
            unfold atOf at e
            rw [if_pos hneg] at e
            have := h.pos (i := j) (by omega)
            have := h.rt
            omega
          · obtain ⟨q, hq⟩ : ∃ q : Nat, (Ref.get L i).parent = q := ⟨(Ref.get L i).parent.toNat, by omega⟩
            rw [hq, atOf_nat]
            constructor
            · rintro ⟨j, hj, e, hh⟩
              rw [h.inj (by omega) (by omega) e]
              exact hh
            · intro hh
              exact ⟨q, by omega, rfl, hh⟩
    by_cases hh : Ref.heir L i c sel = true
    · rw [if_pos (key.2 hh), if_pos hh, List.map_cons]
      congr 1
      refine ih (i + 1) (by omega) _ fun v => ?_
      rw [List.mem_cons, hs]
      constructor
      · rintro (e | ⟨j, hj, e, hq⟩)
        · exact ⟨i, by omega, e, hh⟩
        · exact ⟨j, by omega, e, hq⟩
      · rintro ⟨j, hj, e, hq⟩
        by_cases hji : j = i
        · subst hji; exact .inl e
        · exact .inr ⟨j, by omega, e, hq⟩
    · rw [if_neg (fun e => hh (key.1 e)), if_neg hh]
      refine ih (i + 1) (by omega) _ fun v => ?_
      rw [hs]
      constructor
      · rintro ⟨j, hj, e, hq⟩
        exact ⟨j, by omega, e, hq⟩
      · rintro ⟨j, hj, e, hq⟩
        by_cases hji : j = i
        · subst hji; exact absurd hq hh
        · exact ⟨j, by omega, e, hq⟩
theorem heirs (h : Good m root A T L hi) {c : Nat} (hc : c < L.length) (sel : Int) : Class.heirs m root (nth A c) sel = ((List.range L.length).filter (fun j : Nat => Ref.heir L j c sel)).map (clsAt A T L) := by
  unfold Class.heirs
  rw [h.all, List.range_eq_range']
  exact h.heirs_from hc sel L.length 0 (by omega) [] (fun v => ⟨fun e => absurd e (by simp), fun ⟨j, hj, _⟩ => absurd hj (by omega)⟩)
end Good
end Class
end Go.Proofs.Shed
