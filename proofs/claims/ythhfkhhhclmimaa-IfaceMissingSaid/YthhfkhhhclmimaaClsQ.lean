/- The plain law's classes: what is written above them, and a method that is set. No program in sight; no condition. -/
import Derived.Test.YthhfkhhhclmimaaClsP
set_option linter.unusedVariables false
set_option linter.unusedSimpArgs false
namespace Go.Proofs.Shed
namespace Class
/-- The tables of some classes, behind one entry. -/
theorem putL_law (T : List Int) (S : Nat → Int) (n : Nat) (x : Ent) (x1 : 1 ≤ x.sel) (b1 : In64 x.sel) (b2 : In64 x.xt) (b3 : In64 x.cls) (K : Nat → Cls) (hK : ∀ i, i < n → (K i).table = nth T i)
    (hord : ∀ i j, i < j → j < n → nth T i + (2 + S i * 3) * 8 ≤ nth T j) (J : List Nat) (hJ : J.Nodup) (hJn : ∀ i ∈ J, i < n) (m : Mem) (hf : ∀ i, i < n → Tab.Fine m (nth T i) (S i)) (hm : ∀ i ∈ J, Tab.may m (nth T i) x.sel = true) :
    (putL m x (J.map K)).2 = 0 ∧ (putL m x (J.map K)).1.size = m.size ∧ (∀ a, (∀ i ∈ J, a < nth T i + 8 ∨ nth T i + (2 + S i * 3) * 8 ≤ a) → (putL m x (J.map K)).1.cell a = m.cell a) ∧
      (∀ i, i < n → Tab.Fine (putL m x (J.map K)).1 (nth T i) (S i)) ∧ ∀ i, i < n → ∀ s, Tab.look (putL m x (J.map K)).1 (nth T i) s = if i ∈ J ∧ s = x.sel then some x else Tab.look m (nth T i) s := by
  induction J generalizing m with
  | nil => exact ⟨rfl, rfl, fun _ _ => rfl, hf, fun i _ s => by rw [if_neg (by simp)]; rfl⟩
  | cons j J ih =>
    rw [List.nodup_cons] at hJ
    have hj : j < n := hJn j (by simp)
    obtain ⟨p0, p1, p2, p3, p4⟩ := Tab.put_law (hf j hj) x x1 b1 b2 b3 (hm j (by simp))
    rw [List.map_cons, putL, hK j hj, if_neg (by rw [p0]; simp)]
    generalize (Tab.put m (nth T j) x).1 = m1 at p1 p2 p3 p4
    have hS : ∀ i, i < n → 1 ≤ S i ∧ Tab.slots m (nth T i) = S i := fun i hi => ⟨(hf i hi).2.1, (hf i hi).1⟩
    have other : ∀ i, i < n → i ≠ j → (∀ a, nth T i ≤ a → a < nth T i + (2 + S i * 3) * 8 → m1.cell a = m.cell a) := by
      intro i hi hne a a0 a1
      refine p2 a ?_
      have := hS i hi
      have := hS j hj
      by_cases h1 : i < j
      · have := hord i j h1 hj; omega
      · have := hord j i (by omega) hi; omega
    have osl : ∀ i, i < n → i ≠ j → Tab.slots m1 (nth T i) = Tab.slots m (nth T i) := fun i hi hne => Tab.slots_frame p1 (by rw [(hS i hi).2]; exact (hS i hi).1) (by rw [(hS i hi).2]; exact other i hi hne)
    have ord : ∀ i, i < n → i ≠ j → ∀ k, 0 ≤ k → k < Tab.slots m (nth T i) → Tab.read m1 (nth T i) k = Tab.read m (nth T i) k := fun i hi hne k k0 k1 => Tab.read_frame k0 (by rw [(hS i hi).2] at k1; exact k1) (other i hi hne)
    have of : ∀ i, i < n → Tab.Fine m1 (nth T i) (S i) := by
      intro i hi
      by_cases hne : i = j
      · subst hne; exact p3
      · exact Tab.fine_congr (osl i hi hne) (ord i hi hne) (hf i hi)
    obtain ⟨q0, q1, q2, q3, q4⟩ := ih hJ.2 (fun i hi => hJn i (by simp [hi])) m1 of (fun i hi => by
      have hne : i ≠ j := by intro e; subst e; exact hJ.1 hi
      have hin := hJn i (by simp [hi])
      have := hm i (by simp [hi])
      unfold Tab.may at this ⊢
      rw [Tab.probe_congr (osl i hin hne) (fun k k0 k1 => by rw [ord i hin hne k k0 k1])]
      exact this)
    refine ⟨q0, by rw [q1, p1], fun a ha => ?_, q3, fun i hi s => ?_⟩
    · rw [q2 a (fun i hi => ha i (by simp [hi])), p2 a (ha j (by simp))]
    · rw [q4 i hi s]
      by_cases hij : i = j
      · subst hij
        rw [if_neg (fun e => hJ.1 e.1), p4]
        simp
      · rw [Tab.look_congr (osl i hi hij) (ord i hi hij)]
        simp [hij]
namespace Good
variable {m : Mem} {root : Int} {A T : List Int} {L : List RCls} {hi : Int}
/-- What is written above the classes. -/
theorem framed (h : Good m root A T L hi) {m' : Mem} (hz : m'.size = m.size) (hc : ∀ a, (a < root + 8 ∨ ∃ i : Nat, i < L.length ∧ nth T i ≤ a ∧ a < nth A i + 40) → m'.cell a = m.cell a) {hi' : Int} (h1 : hi ≤ hi') (h2 : hi' ≤ m.size) : Good m' root A T L hi' := by
  have sl : ∀ i : Nat, i < L.length → Tab.slots m (nth T i) = (Ref.get L i).slots := fun i i1 => (h.fine i i1).1
  have cl : ∀ i : Nat, i < L.length → ∀ a, nth T i ≤ a → a < nth T i + (2 + Tab.slots m (nth T i) * 3) * 8 → m'.cell a = m.cell a := by
    intro i i1 a a0 a1
    rw [sl i i1] at a1
    have := h.lay i i1
    exact hc a (.inr ⟨i, i1, by omega, by omega⟩)
  have slf : ∀ i : Nat, i < L.length → Tab.slots m' (nth T i) = Tab.slots m (nth T i) := fun i i1 => Tab.slots_frame hz (by rw [sl i i1]; exact (h.slots i i1).1) (cl i i1)
  have rdf : ∀ i : Nat, i < L.length → ∀ k, 0 ≤ k → k < Tab.slots m (nth T i) → Tab.read m' (nth T i) k = Tab.read m (nth T i) k := fun i i1 k k0 k1 => Tab.read_frame k0 k1 (cl i i1)
  refine ⟨h.nA, h.nT, h.ref, h.slots, ⟨h.rt.1, h.rt.2.1, by have := h.rt; omega⟩, ⟨by rw [hz]; exact h2, by rw [hz]; exact h.top.2⟩, ?_, h.ord, ?_, ?_, ?_, ?_⟩
  · intro i i1
    have := h.lay i i1
    exact ⟨this.1, this.2.1, this.2.2.1, this.2.2.2.1, by omega⟩
  · rw [hc root (.inl (by omega))]; exact h.last
  · intro i i1
    have := h.lay i i1
    have := h.slots i i1
    rw [hc _ (.inr ⟨i, i1, by omega, by omega⟩), hc _ (.inr ⟨i, i1, by omega, by omega⟩), hc _ (.inr ⟨i, i1, by omega, by omega⟩), hc _ (.inr ⟨i, i1, by omega, by omega⟩), hc _ (.inr ⟨i, i1, by omega, by omega⟩)]
    exact h.cells i i1
  · intro i i1
    exact Tab.fine_congr (slf i i1) (rdf i i1) (h.fine i i1)
  · intro i i1 s
    rw [Tab.look_congr (slf i i1) (rdf i i1)]
    exact h.agree i i1 s
theorem frame (h : Good m root A T L hi) {m' : Mem} (hz : m'.size = m.size) (hc : ∀ a, a < hi → m'.cell a = m.cell a) {hi' : Int} (h1 : hi ≤ hi') (h2 : hi' ≤ m.size) : Good m' root A T L hi' := by
  refine h.framed hz (fun a ha => hc a ?_) h1 h2
  have := h.rt
  rcases ha with ha | ⟨i, i1, a0, a1⟩
  · omega
  · have := h.lay i i1
    omega
theorem may (h : Good m root A T L hi) {c : Nat} (sel : Int) (s1 : 1 ≤ sel) {i : Nat} (i1 : i < L.length) (hh : Ref.heir L i c sel = true) : Ref.full L c sel i = !Tab.may m (nth T i) sel := by
  have hm := Tab.may_iff (h.fine i i1) sel s1
  have hsp := Ref.seenA_spec L h.ref i (by omega) (by omega) [] (by simp)
  have hlen : (Tab.used m (nth T i) (Ref.get L i).slots).length = Ref.seen L i := by
    refine Ref.nodup_len (Tab.used_nodup (h.fine i i1)) hsp.1 fun s => ?_
    rw [Tab.used_mem (h.fine i i1), h.agree i i1 s, Option.isSome_map]
    refine Iff.trans ?_ (hsp.2 s).symm
    simp
  rw [h.agree i i1, Option.isSome_map, hlen] at hm
  unfold Ref.full
  rw [hh, Bool.true_and]
  have e := Option.isNone_iff_eq_none (o := Ref.walk L i sel)
  cases hw : Ref.walk L i sel with
  | some p =>
    rw [hm.2 (.inl (by rw [hw]; rfl))]
    rfl
  | none =>
    rw [hw] at hm
    simp only [Option.isSome_none, Bool.false_eq_true, false_or] at hm
    simp only [Option.isNone_none, Bool.true_and]
    by_cases hx : Tab.may m (nth T i) sel = true
    · have := hm.1 hx
      rw [hx, decide_eq_false (by omega)]
      rfl
    · have : ¬ ((Ref.seen L i : Int) < (Ref.get L i).slots) := fun e => hx (hm.2 e)
      rw [decide_eq_true (by omega), Bool.eq_false_iff.2 hx]
      rfl
/-- A method that is set: the same code, and all is as it should be. -/
theorem set (h : Good m root A T L hi) {c : Nat} (hc : c < L.length) (sel xt : Int) (b1 : In64 sel) (b2 : In64 xt) :
    (Class.set m root (nth A c) sel xt).2 = (Ref.set L c sel xt).2 ∧ (Class.set m root (nth A c) sel xt).1.size = m.size ∧ (∀ a, (∀ i : Nat, i < L.length → a < nth T i + 8 ∨ nth T i + (2 + (Ref.get L i).slots * 3) * 8 ≤ a) → (Class.set m root (nth A c) sel xt).1.cell a = m.cell a) ∧
      Good (Class.set m root (nth A c) sel xt).1 root A T (Ref.set L c sel xt).1 hi := by
  have hself : c ∈ (List.range L.length).filter (fun j : Nat => Ref.heir L j c sel) := by
    rw [List.mem_filter, List.mem_range]
    exact ⟨hc, by rw [Ref.heir_end L c c sel (.inr rfl)]; exact decide_eq_true rfl⟩
  unfold Class.set
  rw [h.heirs hc sel]
  obtain ⟨J, hJ⟩ : ∃ J, (List.range L.length).filter (fun j : Nat => Ref.heir L j c sel) = J := ⟨_, rfl⟩
  have hJm : ∀ i, i ∈ J ↔ i < L.length ∧ Ref.heir L i c sel = true := by
    intro i
    rw [← hJ, List.mem_filter, List.mem_range]
  have hJd : J.Nodup := by rw [← hJ]; exact List.Nodup.sublist List.filter_sublist List.nodup_range
  rw [hJ] at hself ⊢
  clear hJ
  have hne : J.map (clsAt A T L) ≠ [] := by
    intro e
    rw [List.map_eq_nil_iff] at e
    rw [e] at hself
    cases hself
  rw [if_neg hne]
  unfold Ref.set
  by_cases s1 : sel < 1
  · rw [if_pos s1, if_pos s1]
    exact ⟨rfl, rfl, fun _ _ => rfl, h⟩
  rw [if_neg s1, if_neg s1]
  have hany : (J.map (clsAt A T L)).any (fun c => !Tab.may m c.table sel) = (List.range L.length).any (Ref.full L c sel) := by
    rw [Bool.eq_iff_iff, List.any_eq_true, List.any_eq_true]
    constructor
    · rintro ⟨x, hx, hq⟩
      obtain ⟨i, hi, rfl⟩ := List.mem_map.1 hx
      have := (hJm i).1 hi
      exact ⟨i, List.mem_range.2 this.1, by rw [h.may sel (by omega) this.1 this.2]; exact hq⟩
    · rintro ⟨i, hi, hq⟩
      rw [List.mem_range] at hi
      have hh : Ref.heir L i c sel = true := by
        unfold Ref.full at hq
        rw [Bool.and_eq_true, Bool.and_eq_true] at hq
        exact hq.1.1
      exact ⟨clsAt A T L i, List.mem_map.2 ⟨i, (hJm i).2 ⟨hi, hh⟩, rfl⟩, by rw [h.may sel (by omega) hi hh] at hq; exact hq⟩
  rw [hany]
  by_cases hf : (List.range L.length).any (Ref.full L c sel) = true
  · rw [if_pos hf, if_pos hf]
    exact ⟨rfl, rfl, fun _ _ => rfl, h⟩
  rw [if_neg hf, if_neg hf]
  have hmay : ∀ i ∈ J, Tab.may m (nth T i) sel = true := by
    intro i hi
    have := (hJm i).1 hi
    cases hq : Tab.may m (nth T i) sel with
    | true => rfl
    | false =>
      exfalso
      apply hf
      rw [List.any_eq_true]
      exact ⟨i, List.mem_range.2 this.1, by rw [h.may sel (by omega) this.1 this.2, hq]; rfl⟩
  have hpc := h.pos hc
  have htop := h.top
  have hrt := h.rt
  obtain ⟨q0, q1, q2, q3, q4⟩ := putL_law T (fun i => (Ref.get L i).slots) L.length ⟨sel, xt, nth A c⟩ (by show 1 ≤ sel; omega) b1 b2 (by show In64 (nth A c); unfold In64; omega) (clsAt A T L) (fun _ _ => rfl)
    (fun i j hij hj => by have := h.ord i j hij hj; have := h.lay i (by omega); show nth T i + (2 + (Ref.get L i).slots * 3) * 8 ≤ _; omega) J hJd (fun i hi => ((hJm i).1 hi).1) m h.fine hmay
  generalize putL m ⟨sel, xt, nth A c⟩ (J.map (clsAt A T L)) = r at q0 q1 q2 q3 q4
  have keep : ∀ a, (∀ i : Nat, i < L.length → a < nth T i + 8 ∨ nth T i + (2 + (Ref.get L i).slots * 3) * 8 ≤ a) → r.1.cell a = m.cell a := fun a ha => q2 a (fun i hi => ha i ((hJm i).1 hi).1)
  have low : ∀ a, a < root + 8 → r.1.cell a = m.cell a := by
    intro a ha
    refine keep a fun i i1 => ?_
    have := h.lay i i1
    omega
  have mid : ∀ i : Nat, i < L.length → ∀ a, nth A i ≤ a → a < nth A i + 40 → r.1.cell a = m.cell a := by
    intro i i1 a a0 a1
    refine keep a fun j j1 => ?_
    have h1 := h.lay j j1
    by_cases hij : i < j
    · have := h.ord i j hij j1; omega
    · by_cases hji : j < i
      · have := h.ord j i hji i1
        have := h.lay i i1
        have := h.slots i i1
        omega
      · have : i = j := by omega
        subst this
        omega
  have hlen : (Ref.put L c sel xt).length = L.length := Ref.put_len L c sel xt
  refine ⟨q0, q1, keep, ⟨by rw [hlen]; exact h.nA, by rw [hlen]; exact h.nT, Ref.put_ok L h.ref c sel xt hc, ?_, h.rt, by rw [q1]; exact h.top, ?_, ?_, ?_, ?_, ?_, ?_⟩⟩
  · intro i i1
    rw [hlen] at i1
    rw [(Ref.put_parent L c sel xt hc i i1).2.1]
    exact h.slots i i1
  · intro i i1
    rw [hlen] at i1
    rw [(Ref.put_parent L c sel xt hc i i1).2.1]
    exact h.lay i i1
  · intro i j hij j1
    rw [hlen] at j1
    exact h.ord i j hij j1
  · rw [hlen, low root (by omega)]; exact h.last
  · intro i i1
    rw [hlen] at i1
    obtain ⟨e1, e2, e3⟩ := Ref.put_parent L c sel xt hc i i1
    rw [e1, e3, mid i i1 _ (by omega) (by omega), mid i i1 _ (by omega) (by omega), mid i i1 _ (by omega) (by omega), mid i i1 _ (by omega) (by omega), mid i i1 _ (by omega) (by omega)]
    exact h.cells i i1
  · intro i i1
    rw [hlen] at i1
    rw [(Ref.put_parent L c sel xt hc i i1).2.1]
    exact q3 i i1
  · intro i i1 s
    rw [hlen] at i1
    rw [q4 i i1 s, Ref.put_walk L h.ref c sel xt hc s i (by omega) (by omega)]
    by_cases hq : s = sel ∧ Ref.heir L i c sel = true
    · rw [if_pos ⟨(hJm i).2 ⟨i1, hq.2⟩, hq.1⟩, if_pos hq, hq.1]
      simp only [Option.map_some, atOf_nat]
    · rw [if_neg (fun e => hq ⟨e.2, ((hJm i).1 e.1).2⟩), if_neg hq]
      exact h.agree i i1 s
end Good
end Class
end Go.Proofs.Shed
