/- Layer 11: slices.Reverse on classes. Conditions: the slice owns its row. -/
import Derived.Test.YthhfkhhhclmimaaWClass
set_option linter.unusedVariables false
set_option linter.unusedSimpArgs false
set_option maxRecDepth 10000
set_option maxHeartbeats 1000000
namespace Go.Proofs.Shed
open Go Go.RowKit Go.Proofs.K

def Cls.fld (c : Cls) : Nat → Int
  | 0 => c.at_
  | 1 => c.parent
  | 2 => c.size
  | 3 => c.table
  | _ => c.prev
def Cls.cells (c : Cls) : List Value := [.int .i64 c.at_, .int .i64 c.parent, .int .i64 c.size, .int .i64 c.table, .int .i64 c.prev]
def clsV (L : List Cls) : List Value := L.flatMap Cls.cells
theorem clsV_len (L : List Cls) : (clsV L).length = L.length * 5 := by
  induction L with
  | nil => rfl
  | cons c L ih => simp [clsV, Cls.cells] at *; omega
theorem clsV_app (L M : List Cls) : clsV (L ++ M) = clsV L ++ clsV M := by simp [clsV]
theorem clsV_get (L : List Cls) (i f : Nat) (h : i < L.length) (hf : f < 5) : (clsV L)[i * 5 + f]? = some (.int .i64 (L[i].fld f)) := by
  induction L generalizing i with
  | nil => simp at h
  | cons c L ih =>
    have e : clsV (c :: L) = c.cells ++ clsV L := rfl
    rw [e]
    cases i with
    | zero =>
      match f, hf with
      | 0, _ => rfl
      | 1, _ => rfl
      | 2, _ => rfl
      | 3, _ => rfl
      | 4, _ => rfl
    | succ i =>
      have := ih i (by simpa using h)
      have hc : c.cells.length = 5 := rfl
      rw [List.getElem?_append_right (by rw [hc]; omega), hc, show (i + 1) * 5 + f - 5 = i * 5 + f by omega]
      exact this
/-- Cells that read as classes are theirs. -/
theorem clsV_of {L : List Cls} {cur : List Value} (h : ∀ i, (hi : i < L.length) → ∀ f, f < 5 → cur[i * 5 + f]? = some (.int .i64 (L[i].fld f))) : cur.take (L.length * 5) = clsV L := by
  apply List.ext_getElem?
  intro k
  by_cases hk : k < L.length * 5
  · rw [List.getElem?_take_of_lt hk]
    have e : k = k / 5 * 5 + k % 5 := by omega
    have hi : k / 5 < L.length := by omega
    rw [e, h _ hi _ (Nat.mod_lt _ (by decide)), clsV_get L _ _ hi (Nat.mod_lt _ (by decide))]
  · rw [List.getElem?_eq_none (by simp; omega), List.getElem?_eq_none (by rw [clsV_len]; omega)]

/-- Half-way: the first k and the last k are exchanged. -/
def mid (L : List Cls) (k p : Nat) : Cls := if p < k ∨ L.length ≤ p + k then L.getD (L.length - 1 - p) ⟨0, 0, 0, 0, 0⟩ else L.getD p ⟨0, 0, 0, 0, 0⟩

theorem rev_nil (w : World) : Calls Try.prog 109 #[.slice none 0 0] w fun e w' => e = .returned (.tuple #[]) ∧ w = w' := by
  go_enter Try.func109, Try.ntmps109
  go_wp2
  refine wp_loop_rounds 1 ?_
  rw [rounds_succ]
  go_wp2
  go_end0
  exact ⟨rfl, rfl⟩

def RevPost (g n c : Nat) (L : List Cls) (w : World) (e : Ending) (w' : World) : Prop :=
  e = .returned (.tuple #[]) ∧ (∃ cur, w'.heap[g]? = some (.cells cur 114 (0, 0)) ∧ cur.size = c * 5 ∧ ∀ p, p < n → ∀ f, f < 5 → cur[p * 5 + f]? = some (.int .i64 ((mid L (n / 2) p).fld f))) ∧ Keeps (fun k => k = g) w w'

theorem mid_step (L : List Cls) (k p : Nat) (hk : 2 * (k + 1) ≤ L.length) (h1 : p ≠ k) (h2 : p + k + 1 ≠ L.length) : mid L (k + 1) p = mid L k p := by
  unfold mid
  by_cases h : p < k ∨ L.length ≤ p + k
  · rw [if_pos (by omega), if_pos h]
  · rw [if_neg (by omega), if_neg h]
theorem mid_at (L : List Cls) (k p : Nat) (hk : 2 * (k + 1) ≤ L.length) (h : p = k ∨ p + k + 1 = L.length) : mid L (k + 1) p = L.getD (L.length - 1 - p) ⟨0, 0, 0, 0, 0⟩ ∧ mid L k p = L.getD p ⟨0, 0, 0, 0, 0⟩ := by
  unfold mid
  rw [if_pos (by omega), if_neg (by omega)]
  exact ⟨rfl, rfl⟩
theorem heap_drew (w : World) : w.drew.heap = w.heap := rfl
/-- Five cells written, one behind the other. -/
def set5 (w : World) (g o : Nat) (c : Cls) : World :=
  ((((w.setCell ⟨g, o, none⟩ (.int .i64 c.at_)).setCell ⟨g, o + 1, none⟩ (.int .i64 c.parent)).setCell ⟨g, o + 2, none⟩ (.int .i64 c.size)).setCell ⟨g, o + 3, none⟩ (.int .i64 c.table)).setCell ⟨g, o + 4, none⟩ (.int .i64 c.prev)
def put5 (cur : Array Value) (o : Nat) (c : Cls) : Array Value :=
  ((((cur.setIfInBounds o (.int .i64 c.at_)).setIfInBounds (o + 1) (.int .i64 c.parent)).setIfInBounds (o + 2) (.int .i64 c.size)).setIfInBounds (o + 3) (.int .i64 c.table)).setIfInBounds (o + 4) (.int .i64 c.prev)
theorem set5_heap {w : World} {g o : Nat} {cur : Array Value} {t : TypeId} (h : w.heap[g]? = some (.cells cur t (0, 0))) (c : Cls) : (set5 w g o c).heap[g]? = some (.cells (put5 cur o c) t (0, 0)) :=
  hset_same (hset_same (hset_same (hset_same (hset_same h _) _) _) _) _
theorem set5_keeps (w : World) (g o : Nat) (c : Cls) : Keeps (fun k => k = g) w (set5 w g o c) := by
  have k := fun (w : World) (i : Nat) (v : Value) => Keeps.setCell (S := fun k => k = g) w ⟨g, i, none⟩ v (fun _ => rfl)
  unfold set5
  exact ((((k _ _ _).trans (k _ _ _)).trans (k _ _ _)).trans (k _ _ _)).trans (k _ _ _)
theorem put5_size (cur : Array Value) (o : Nat) (c : Cls) : (put5 cur o c).size = cur.size := by simp [put5]
theorem put5_get (cur : Array Value) (p q : Nat) (c : Cls) (hp : p * 5 + 5 ≤ cur.size) (f : Nat) (hf : f < 5) : (put5 cur (p * 5) c)[q * 5 + f]? = if q = p then some (.int .i64 (c.fld f)) else cur[q * 5 + f]? := by
  unfold put5
  simp only [Array.getElem?_setIfInBounds, Array.size_setIfInBounds]
  by_cases h : q = p
  · subst h
    rw [if_pos rfl]
    match f, hf with
    | 0, _ => simp [Cls.fld]; omega
    | 1, _ => simp [Cls.fld]; omega
    | 2, _ => simp [Cls.fld]; omega
    | 3, _ => simp [Cls.fld]; omega
    | 4, _ => simp [Cls.fld]; omega
  · rw [if_neg h]
    rw [if_neg (by omega), if_neg (by omega), if_neg (by omega), if_neg (by omega), if_neg (by omega)]

theorem rev_some (w : World) (g n c : Nat) (cur : Array Value) (L : List Cls) (hg : w.heap[g]? = some (.cells cur 114 (0, 0))) (hc : cur.size = c * 5) (hn : n ≤ c) (hL : L.length = n) (hb : n ≤ 10000000) (h1 : 1 ≤ n)
    (hcur : ∀ i, (hi : i < L.length) → ∀ f, f < 5 → cur[i * 5 + f]? = some (.int .i64 (L[i].fld f))) :
    Calls Try.prog 109 #[.slice (some ⟨g, 0, none⟩) n c] w (RevPost g n c L w) := by
  have Hcur := Lib.hid hcur
  have HL := Lib.hid hL
  have Hg := Lib.hid hg
  have Hc := Lib.hid hc
  clear hcur hL hg hc
  go_enter Try.func109, Try.ntmps109
  go_wp2_with fail
  go_loopw [2, 3] (fun i j wr => ∃ (k l : Nat) (cur : Array Value), 2 * k ≤ n ∧ k + l + 1 = n ∧ i = .int .i64 k ∧ j = .int .i64 l ∧ wr.heap[g]? = some (.cells cur 114 (0, 0)) ∧ cur.size = c * 5 ∧
      (∀ p, p < n → ∀ f, f < 5 → cur[p * 5 + f]? = some (.int .i64 ((mid L k p).fld f))) ∧ Keeps (fun k => k = g) w wr) (fun i _ _ => n - (intOf i).toNat)
  case atStart =>
    refine ⟨0, n - 1, cur, by omega, by omega, rfl, by go_num, Hg.out, Hc.out, fun p hp f hf => ?_, Keeps.refl _ _⟩
    have hpL : p < L.length := by rw [HL.out]; exact hp
    rw [Hcur.out p hpL f hf]
    unfold mid
    rw [if_neg (by omega), List.getD_eq_getElem?_getD, List.getElem?_eq_getElem hpL]
    rfl
  case round =>
    obtain ⟨k, l, cur, hk, hkl, rfl, rfl, hr, hs, hf, hw⟩ := hrel
    have HW := Lib.hid hw
    have HR := Lib.hid hr
    have HS := Lib.hid hs
    have HF := Lib.hid hf
    by_cases hlt : k < l
    · have F := fun f (h : f < 5) => cell_of hr (hf k (by omega) f h)
      have G := fun f (h : f < 5) => cell_of hr (hf l (by omega) f h)
      obtain ⟨mk1, mk2⟩ := mid_at L k k (by rw [HL.out]; omega) (.inl rfl)
      obtain ⟨ml1, ml2⟩ := mid_at L k l (by rw [HL.out]; omega) (.inr (by rw [HL.out]; omega))
      rw [show L.length - 1 - k = l by rw [HL.out]; omega] at mk1
      rw [show L.length - 1 - l = k by rw [HL.out]; omega] at ml1
      rw [mk2] at F
      rw [ml2] at G
      have hstep := fun p h1 h2 => mid_step L k p (by rw [HL.out]; omega) h1 h2
      generalize L.getD k ⟨0, 0, 0, 0, 0⟩ = x at F mk1 ml1 mk2
      generalize L.getD l ⟨0, 0, 0, 0, 0⟩ = y at G mk1 ml1 ml2
      have F0 := F 0 (by omega)
      have F1 := F 1 (by omega)
      have F2 := F 2 (by omega)
      have F3 := F 3 (by omega)
      have F4 := F 4 (by omega)
      have G0 := G 0 (by omega)
      have G1 := G 1 (by omega)
      have G2 := G 2 (by omega)
      have G3 := G 3 (by omega)
      have G4 := G 4 (by omega)
      simp only [Cls.fld, Nat.add_zero] at F0 F1 F2 F3 F4 G0 G1 G2 G3 G4
      have fr := fun i => free_of (i := i) hr
      have M : Hid (∃ cur', (set5 (set5 wr g (k * 5) y) g (l * 5) x).drew.heap[g]? = some (.cells cur' 114 (0, 0)) ∧ cur'.size = c * 5 ∧ (∀ p, p < n → ∀ f, f < 5 → cur'[p * 5 + f]? = some (.int .i64 ((mid L (k + 1) p).fld f)))) := by
        refine ⟨_, by rw [heap_drew]; exact set5_heap (set5_heap hr y) x, by rw [put5_size, put5_size]; exact hs, fun p hp f hff => ?_⟩
        rw [put5_get _ l p x (by rw [put5_size, hs]; omega) f hff, put5_get _ k p y (by rw [hs]; omega) f hff]
        by_cases e1 : p = l
        · rw [if_pos e1, e1, ml1]
        · rw [if_neg e1]
          by_cases e2 : p = k
          · rw [if_pos e2, e2, mk1]
          · rw [if_neg e2, hf p hp f hff, hstep p e2 (by rw [HL.out]; omega)]
      have KM : Hid (Keeps (fun k => k = g) w (set5 (set5 wr g (k * 5) y) g (l * 5) x).drew) := (hw.trans ((set5_keeps wr g (k * 5) y).trans (set5_keeps _ g (l * 5) x))).trans (Keeps.drew _ _)
      clear F G mk1 mk2 ml1 ml2 hstep hr hs hf hw HR HS HF
      unfold set5 at M KM
      have hb1 : (k : Int) < n := by omega
      have hb2 : (l : Int) < n := by omega
      have hb3 : (0 : Int) ≤ k := by omega
      have hb4 : (0 : Int) ≤ l := by omega
      go_wp2_with fail
      go_region
      go_wp2_with fail
      go_roundw
      case rel =>
        obtain ⟨cur', q1, q2, q3⟩ := M.out
        exact ⟨k + 1, l - 1, cur', by omega, by omega, by go_num, by go_num, q1, q2, q3, KM.out⟩
      case measure => simp [intOf]; omega
    · have hke : k = n / 2 := by omega
      have hge : (l : Int) ≤ k := by omega
      go_wp2_with fail
      go_end0
      exact ⟨rfl, ⟨cur, HR.out, HS.out, by rw [← hke]; exact HF.out⟩, HW.out⟩
end Go.Proofs.Shed
