/- The plain law's classes: a class that is new. No program in sight; no condition. -/
import Derived.Test.YthhfkhhhclmimaaClsQ
set_option linter.unusedVariables false
set_option linter.unusedSimpArgs false
namespace Go.Proofs.Shed
namespace Class
/-- Behind a table: the class's cells, and the root's. -/
theorem rest_law (s : Sp) (root parent : Int) (t : Sp) (tb size prev : Int) (ht : t.Al) (hr : t.here + 40 ≤ t.to) (hp : (s.mem.cell root).1 = prev) :
    make5.rest s root parent (t, tb, 0) size = (t.wr [magic, parent, size, tb, prev], t.here, 0) := by
  unfold make5.rest
  rw [if_neg (by simp), hp]
  exact cells_room _ ht (by simpa using hr) _
def parentAt (A : List Int) (k : Option Nat) : Int := match k with | none => 0 | some k => nth A k
def parentNo (k : Option Nat) : Int := match k with | none => -1 | some k => k
def sizeOf (L : List RCls) (k : Option Nat) : Int := match k with | none => 8 | some k => (Ref.get L k).size
def slotsOf (L : List RCls) (k : Option Nat) (slots : Int) : Int := match k with | none => slots | some k => (Ref.get L k).slots
def lookOf (m : Mem) (T : List Int) (k : Option Nat) (s : Int) : Option Ent := match k with | none => none | some j => Tab.look m (nth T j) s
def tableOf (x : Sp) (T : List Int) (k : Option Nat) (slots : Int) : Sp × Int × Int := match k with | none => Tab.new x slots | some j => Tab.copy x (nth T j)
theorem new_last (L : List RCls) (k : Option Nat) (slots : Int) : Ref.new L (parentNo k) slots = L ++ [⟨parentNo k, sizeOf L k, slotsOf L k slots, []⟩] := by
  unfold Ref.new
  cases k with
  | none => rfl
  | some k => show L ++ [if 0 ≤ (k : Int) then _ else _] = _; rw [if_pos (by omega)]; rfl
namespace Good
variable {root : Int} {A T : List Int} {L : List RCls} {hi : Int}
/-- The memory behind a new class's cells. -/
theorem snoc {m m' : Mem} (h : Good m root A T L hi) (k : Option Nat) (hk : ∀ j, k = some j → j < L.length) (t n size : Int) (hz : m'.size = m.size) (ht : hi ≤ t) (t8 : t % 8 = 0) (n1 : 1 ≤ n) (n2 : n ≤ 1024)
    (htop : t + (2 + n * 3) * 8 + 40 ≤ m.size) (hlow : ∀ a, a < hi → a ≠ root → m'.cell a = m.cell a)
    (c0 : m'.cell root = (t + (2 + n * 3) * 8, 0))
    (c1 : m'.cell (t + (2 + n * 3) * 8) = (magic, 0) ∧ m'.cell (t + (2 + n * 3) * 8 + 8) = (parentAt A k, 0) ∧ m'.cell (t + (2 + n * 3) * 8 + 16) = (size, 0) ∧ m'.cell (t + (2 + n * 3) * 8 + 24) = (t, 0) ∧ m'.cell (t + (2 + n * 3) * 8 + 32) = (prevAt A L.length, 0))
    (hf : Tab.Fine m' t n) (hlook : ∀ s, Tab.look m' t s = lookOf m T k s) :
    Good m' root (A ++ [t + (2 + n * 3) * 8]) (T ++ [t]) (L ++ [⟨parentNo k, size, n, []⟩]) (t + (2 + n * 3) * 8 + 40) := by
  have hx : -1 ≤ parentNo k ∧ parentNo k < L.length := by
    cases k with
    | none => show (-1 : Int) ≤ -1 ∧ (-1 : Int) < L.length; omega
    | some j => have := hk j rfl; show (-1 : Int) ≤ j ∧ (j : Int) < L.length; omega
  have hrt := h.rt
  have h0 := h.top
  have hlen : ∀ i, i < (L ++ [(⟨parentNo k, size, n, []⟩ : RCls)]).length → i < L.length ∨ i = L.length := by
    intro i hi
    rw [List.length_append, List.length_singleton] at hi
    omega
  have eA : ∀ i, i < L.length → nth (A ++ [t + (2 + n * 3) * 8]) i = nth A i := fun i i1 => nth_snoc _ _ _ (by rw [h.nA]; exact i1)
  have eT : ∀ i, i < L.length → nth (T ++ [t]) i = nth T i := fun i i1 => nth_snoc _ _ _ (by rw [h.nT]; exact i1)
  have lA : nth (A ++ [t + (2 + n * 3) * 8]) L.length = t + (2 + n * 3) * 8 := by rw [← h.nA]; exact nth_last _ _
  have lT : nth (T ++ [t]) L.length = t := by rw [← h.nT]; exact nth_last _ _
  have eG : ∀ i : Nat, i < L.length → Ref.get (L ++ [(⟨parentNo k, size, n, []⟩ : RCls)]) i = Ref.get L i := fun i i1 => Ref.snoc_get L _ i i1
  have lG : Ref.get (L ++ [(⟨parentNo k, size, n, []⟩ : RCls)]) (L.length : Nat) = ⟨parentNo k, size, n, []⟩ := Ref.snoc_last L _
  have eAt : ∀ p : Int, p < L.length → atOf (A ++ [t + (2 + n * 3) * 8]) p = atOf A p := by
    intro p hp
    unfold atOf
    by_cases h1 : p < 0
    · rw [if_pos h1, if_pos h1]
    · rw [if_neg h1, if_neg h1, eA _ (by omega)]
  have ePr : ∀ i, i ≤ L.length → prevAt (A ++ [t + (2 + n * 3) * 8]) i = prevAt A i := by
    intro i hi
    unfold prevAt
    by_cases h1 : i = 0
    · rw [if_pos h1, if_pos h1]
    · rw [if_neg h1, if_neg h1, eA _ (by omega)]
  have sl : ∀ i : Nat, i < L.length → Tab.slots m (nth T i) = (Ref.get L i).slots := fun i i1 => (h.fine i i1).1
  have cl : ∀ i : Nat, i < L.length → ∀ a, nth T i ≤ a → a < nth T i + (2 + Tab.slots m (nth T i) * 3) * 8 → m'.cell a = m.cell a := by
    intro i i1 a a0 a1
    rw [sl i i1] at a1
    have := h.lay i i1
    exact hlow a (by omega) (by omega)
  have slf : ∀ i : Nat, i < L.length → Tab.slots m' (nth T i) = Tab.slots m (nth T i) := fun i i1 => Tab.slots_frame hz (by rw [sl i i1]; exact (h.slots i i1).1) (cl i i1)
  have rdf : ∀ i : Nat, i < L.length → ∀ k, 0 ≤ k → k < Tab.slots m (nth T i) → Tab.read m' (nth T i) k = Tab.read m (nth T i) k := fun i i1 k k0 k1 => Tab.read_frame k0 k1 (cl i i1)
  refine ⟨by simp [h.nA], by simp [h.nT], Ref.snoc_ok L h.ref _ hx, ?_, ⟨hrt.1, hrt.2.1, by omega⟩, ⟨by omega, by omega⟩, ?_, ?_, ?_, ?_, ?_, ?_⟩
  · intro i hi
    rcases hlen i hi with i1 | rfl
    · rw [eG i i1]; exact h.slots i i1
    · rw [lG]; exact ⟨n1, n2⟩
  · intro i hi
    rcases hlen i hi with i1 | rfl
    · rw [eA i i1, eT i i1, eG i i1]
      have := h.lay i i1
      exact ⟨this.1, this.2.1, this.2.2.1, this.2.2.2.1, by omega⟩
    · rw [lA, lT, lG]
      simp only
      omega
  · intro i j hij hj
    rcases hlen j hj with j1 | rfl
    · rw [eA i (by omega), eT j j1]; exact h.ord i j hij j1
    · rw [eA i hij, lT]
      have := h.lay i hij
      omega
  · rw [c0, List.length_append, List.length_singleton]
    show _ = ((if L.length + 1 = 0 then (0 : Int) else nth (A ++ [t + (2 + n * 3) * 8]) (L.length + 1 - 1)), (0 : Int))
    rw [if_neg (by omega), show L.length + 1 - 1 = L.length by omega, lA]
  · intro i hi
    rcases hlen i hi with i1 | rfl
    · have hl := h.lay i i1
      have hs := h.slots i i1
      have hp := Ref.par L h.ref i i1
      rw [eA i i1, eT i i1, eG i i1, eAt _ (by omega), ePr i (by omega), hlow _ (by omega) (by omega), hlow _ (by omega) (by omega), hlow _ (by omega) (by omega), hlow _ (by omega) (by omega), hlow _ (by omega) (by omega)]
      exact h.cells i i1
    · rw [lA, lT, lG, ePr _ (Nat.le_refl _)]
      simp only
      rw [eAt _ hx.2]
      have e : atOf A (parentNo k) = parentAt A k := by
        cases k with
        | none => rfl
        | some j => exact atOf_nat j
      rw [e]
      exact c1
  · intro i hi
    rcases hlen i hi with i1 | rfl
    · rw [eT i i1, eG i i1]
      exact Tab.fine_congr (slf i i1) (rdf i i1) (h.fine i i1)
    · rw [lT, lG]
      exact hf
  · intro i hi s
    rcases hlen i hi with i1 | rfl
    · rw [eT i i1, Ref.snoc_walk L h.ref _ hx s i (by omega) (by omega), Tab.look_congr (slf i i1) (rdf i i1), h.agree i i1 s]
      cases hw : Ref.walk L i s with
      | none => rfl
      | some p =>
        have := Ref.walk_in L h.ref s i (by omega) (by omega) p hw
        simp only [Option.map_some]
        rw [eAt _ (by omega)]
    · rw [lT, Ref.snoc_walk_last L h.ref _ hx rfl s, hlook]
      cases k with
      | none =>
        show none = (Ref.walk L (-1) s).map _
        rw [Ref.walk_neg L (-1) s (by omega)]
        rfl
      | some j =>
        have hj := hk j rfl
        show Tab.look m (nth T j) s = (Ref.walk L (j : Int) s).map _
        rw [h.agree j hj s]
        cases hw : Ref.walk L j s with
        | none => rfl
        | some p =>
          have := Ref.walk_in L h.ref s j (by omega) (by omega) p hw
          simp only [Option.map_some]
          rw [eAt _ (by omega)]
/-- A class that is new: where it stands, and all is as it should be. -/
theorem new {x : Sp} (h : Good x.mem root A T L hi) (hx : x.Al) (hhi : hi ≤ x.here) (k : Option Nat) (hk : ∀ j, k = some j → j < L.length) (slots n : Int)
    (hn : n = slotsOf L k slots) (n1 : 1 ≤ n) (n2 : n ≤ 1024) (hr : x.here + (2 + n * 3) * 8 + 40 ≤ x.to) :
    ∃ y : Sp, Class.new x root (parentAt A k) slots = (y, x.here + (2 + n * 3) * 8, 0) ∧ y.Al ∧ y.lo = x.lo ∧ y.to = x.to ∧ y.here = x.here + (2 + n * 3) * 8 + 40 ∧ y.mem.size = x.mem.size ∧ (∀ b, (b < x.here ∨ y.here ≤ b) → b ≠ root → y.mem.cell b = x.mem.cell b) ∧
      Good y.mem root (A ++ [x.here + (2 + n * 3) * 8]) (T ++ [x.here]) (Ref.new L (parentNo k) slots) y.here := by
  have o := hx.ok
  unfold Sp.Ok at o
  have hrt := h.rt
  have htop := h.top
  -- the table
  obtain ⟨y, e, hy, y1, y2, y3, y4, y5, y6, y7⟩ : ∃ y : Sp, tableOf x T k slots = (y, x.here, 0) ∧ y.Al ∧ y.lo = x.lo ∧ y.to = x.to ∧ y.here = x.here + (2 + n * 3) * 8 ∧ y.mem.size = x.mem.size ∧
      (∀ b, (b < x.here ∨ y.here ≤ b) → y.mem.cell b = x.mem.cell b) ∧ Tab.Fine y.mem x.here n ∧ ∀ s, Tab.look y.mem x.here s = lookOf x.mem T k s := by
    cases k with
    | none => obtain rfl : n = slots := hn; exact Tab.new_law hx n n1 n2 (by omega)
    | some j =>
      have hj := hk j rfl
      have hn : n = (Ref.get L j).slots := hn
      have hl := h.lay j hj
      exact Tab.copy_law hx (by rw [hn]; exact h.fine j hj) (by rw [hn]; omega) (by omega)
  obtain ⟨size, hsize⟩ : ∃ size : Int, size = sizeOf L k := ⟨_, rfl⟩
  have hs64 : In64 size := by
    cases k with
    | none => rw [hsize]; exact ⟨by show -_ ≤ (8 : Int); decide, by show (8 : Int) ≤ _; decide⟩
    | some j =>
      have hj := hk j rfl
      have := x.mem.cell_bd (nth A j + 16)
      rw [(h.cells j hj).2.2.1] at this
      rw [hsize]
      exact this
  have hroot : (x.mem.cell root).1 = prevAt A L.length := by rw [h.last]
  have hprev : In64 (prevAt A L.length) := by
    have := x.mem.cell_bd root
    rw [hroot] at this
    exact this
  have hpar : In64 (parentAt A k) := by
    cases k with
    | none => exact ⟨by show -_ ≤ (0 : Int); decide, by show (0 : Int) ≤ _; decide⟩
    | some j =>
      have hj := hk j rfl
      have := h.pos hj
      show In64 (nth A j)
      unfold In64
      omega
  have hm5 : make5 x root (parentAt A k) slots = (y.wr [magic, parentAt A k, size, x.here, prevAt A L.length], y.here, 0) := by
    unfold make5
    rw [h.last, if_neg (by simp)]
    cases k with
    | none =>
      rw [if_pos (show parentAt A none = 0 from rfl), show Tab.new x slots = (y, x.here, 0) from e, hsize]
      exact rest_law x root _ y x.here 8 _ hy (by omega) hroot
    | some j =>
      have hj := hk j rfl
      have hp := h.pos hj
      rw [if_neg (by show ¬ nth A j = 0; omega), if_neg (by show ¬ Class.is x.mem root (nth A j) = false; rw [h.is hj]; simp)]
      show make5.rest x root (nth A j) (Tab.copy x (Class.read x.mem (nth A j)).1.table) (Class.read x.mem (nth A j)).1.size = _
      rw [h.read hj]
      show make5.rest x root (nth A j) (Tab.copy x (nth T j)) (Ref.get L j).size = _
      rw [show Tab.copy x (nth T j) = (y, x.here, 0) from e, hsize]
      exact rest_law x root _ y x.here _ _ hy (by omega) hroot
  have hz5 : (y.wr [magic, parentAt A k, size, x.here, prevAt A L.length]).mem.size = x.mem.size := by rw [← y4]; exact Mem.wcells_size _ _ _
  have hin := Mem.wcells_in y.mem y.here [magic, parentAt A k, size, x.here, prevAt A L.length] hy.al (by omega) (by simp only [List.length_cons, List.length_nil]; omega) (by
    intro v hv
    simp only [List.mem_cons, List.not_mem_nil, or_false] at hv
    rcases hv with rfl | rfl | rfl | rfl | rfl
    · exact ⟨by decide, by decide⟩
    · exact hpar
    · exact hs64
    · unfold In64; omega
    · exact hprev)
  have hout := fun b hb => Mem.wcells_out y.mem y.here [magic, parentAt A k, size, x.here, prevAt A L.length] b hb
  have c0 := hin 0 (by simp)
  have c1 := hin 1 (by simp)
  have c2 := hin 2 (by simp)
  have c3 := hin 3 (by simp)
  have c4 := hin 4 (by simp)
  clear hin
  have hal5 : (y.wr [magic, parentAt A k, size, x.here, prevAt A L.length]).Al := hy.wr (by simp only [List.length_cons, List.length_nil]; omega)
  have hw : (y.wr [magic, parentAt A k, size, x.here, prevAt A L.length]).mem = y.mem.wcells y.here [magic, parentAt A k, size, x.here, prevAt A L.length] := rfl
  have hwh : (y.wr [magic, parentAt A k, size, x.here, prevAt A L.length]).here = y.here + 40 := by show y.here + 8 * _ = _; simp
  have hwl : (y.wr [magic, parentAt A k, size, x.here, prevAt A L.length]).lo = y.lo := rfl
  have hwt : (y.wr [magic, parentAt A k, size, x.here, prevAt A L.length]).to = y.to := rfl
  rw [← hw] at c0 c1 c2 c3 c4 hout
  generalize y.wr [magic, parentAt A k, size, x.here, prevAt A L.length] = z at hm5 hz5 c0 c1 c2 c3 c4 hout hal5 hwh hwl hwt
  have hra : z.mem.at_ root = 0 := by rw [Mem.at_zero]; omega
  have hnew : Class.new x root (parentAt A k) slots = ({ z with mem := (z.mem.setCell root y.here).1 }, y.here, 0) := by
    unfold Class.new
    rw [hm5, if_neg (by simp)]
    simp only
    rw [Mem.setCell_code, hra]
  have hset := fun b hb => Mem.cell_set_apart z.mem root y.here b hb
  have hsame := Mem.cell_set_same z.mem root y.here hra (by omega) (by omega)
  have hsz : (z.mem.setCell root y.here).1.size = x.mem.size := by rw [Mem.setCell_size, hz5]
  generalize (z.mem.setCell root y.here).1 = m' at hnew hset hsame hsz
  rw [y3] at hnew hsame
  refine ⟨_, hnew, ⟨⟨?_, ?_, ?_, ?_⟩, hal5.al⟩, ?_, ?_, ?_, hsz, ?_, ?_⟩
  · exact hal5.ok.1
  · exact hal5.ok.2.1
  · exact hal5.ok.2.2.1
  · show z.to ≤ m'.size; rw [hsz, ← hz5]; exact hal5.ok.2.2.2
  · show z.lo = _; omega
  · show z.to = _; omega
  · show z.here = _; omega
  · intro b hb hbr
    have hb : b < x.here ∨ z.here ≤ b := hb
    show m'.cell b = _
    rw [hset b hbr, hout b (by simp only [List.length_cons, List.length_nil]; omega), y5 b (by omega)]
  have hh : z.here = x.here + (2 + n * 3) * 8 + 40 := by omega
  rw [new_last]
  show Good m' root _ _ _ z.here
  rw [hh, ← hsize, ← hn]
  simp only [List.length_cons, List.length_nil] at hout
  have ne : ∀ b, hi ≤ b → b ≠ root := by intro b hb; omega
  have tabc : ∀ a, x.here ≤ a → a < x.here + (2 + n * 3) * 8 → m'.cell a = y.mem.cell a := by
    intro a a0 a1
    rw [hset a (by omega), hout a (by omega)]
  have slf : Tab.slots m' x.here = Tab.slots y.mem x.here := by
    have := y6.1
    exact Tab.slots_frame (by rw [hsz, y4]) (by omega) (by rw [this]; exact tabc)
  have rdf : ∀ k, 0 ≤ k → k < Tab.slots y.mem x.here → Tab.read m' x.here k = Tab.read y.mem x.here k := fun k k0 k1 => Tab.read_frame k0 k1 (by rw [y6.1]; exact tabc)
  simp only [List.getElem_cons_zero, List.getElem_cons_succ, y3] at c0 c1 c2 c3 c4
  refine h.snoc k hk x.here n size hsz hhi hx.al n1 n2 (by omega) ?_ hsame ⟨?_, ?_, ?_, ?_, ?_⟩ (Tab.fine_congr slf rdf y6) ?_
  · intro a a0 a1
    rw [hset a a1, hout a (by omega), y5 a (.inl (by omega))]
  · rw [hset _ (by omega)]; simpa using c0
  · rw [hset _ (by omega)]; exact c1
  · rw [hset _ (by omega)]; exact c2
  · rw [hset _ (by omega)]; exact c3
  · rw [hset _ (by omega)]; exact c4
  · intro s
    rw [Tab.look_congr slf rdf]
    exact y7 s
end Good
end Class
end Go.Proofs.Shed
