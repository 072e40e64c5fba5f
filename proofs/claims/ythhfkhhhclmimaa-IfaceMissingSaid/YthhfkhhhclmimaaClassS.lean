/- What the functions of layer 11 come to. No program in sight; no condition. -/
import Derived.Test.YthhfkhhhclmimaaTableS
set_option linter.unusedVariables false
set_option linter.unusedSimpArgs false
namespace Go.Proofs.Shed

/-- A class: its place, its parent, how many bytes its objects have, its table, the class made ahead. -/
structure Cls where
  at_ : Int
  parent : Int
  size : Int
  table : Int
  prev : Int
  deriving DecidableEq

namespace Class
def magic : Int := 357694784579
def root (s : Sp) : Sp × Int × Int :=
  if s.align.2 ≠ 0 then (s.align.1, 0, s.align.2)
  else if (s.align.1.comma 0).2 ≠ 0 then ((s.align.1.comma 0).1, 0, (s.align.1.comma 0).2)
  else ((s.align.1.comma 0).1, s.align.1.here, 0)
def read (m : Mem) (a : Int) : Cls × Bool :=
  if (m.cell a).2 ≠ 0 ∨ (m.cell (a + 8)).2 ≠ 0 ∨ (m.cell (a + 16)).2 ≠ 0 ∨ (m.cell (a + 24)).2 ≠ 0 ∨ (m.cell (a + 32)).2 ≠ 0 then (⟨0, 0, 0, 0, 0⟩, false)
  else (⟨a, (m.cell (a + 8)).1, (m.cell (a + 16)).1, (m.cell (a + 24)).1, (m.cell (a + 32)).1⟩, decide ((m.cell a).1 = magic))
/-- From a class on, in at most so many steps. -/
def walkN (m : Mem) : Nat → Int → Int → List Cls
  | 0, _, _ => []
  | k + 1, a, last => if 0 < a ∧ a < last then (if (read m a).2 then (read m a).1 :: walkN m k (read m a).1.prev a else []) else []
def walk (m : Mem) (a last : Int) : List Cls := walkN m last.toNat a last
def all (m : Mem) (root : Int) : List Cls := if (m.cell root).2 = 0 then (walk m (m.cell root).1 m.size).reverse else []
def is (m : Mem) (root a : Int) : Bool := (all m root).any fun c => decide (c.at_ = a)
/-- make5: the space, the place, the code. -/
def make5 (s : Sp) (root parent slots : Int) : Sp × Int × Int :=
  if (s.mem.cell root).2 ≠ 0 then (s, 0, (s.mem.cell root).2)
  else if parent = 0 then rest (Tab.new s slots) 8
  else if is s.mem root parent = false then (s, 0, -2048)
  else rest (Tab.copy s (read s.mem parent).1.table) (read s.mem parent).1.size
where
  rest (t : Sp × Int × Int) (size : Int) : Sp × Int × Int :=
    if t.2.2 ≠ 0 then (t.1, 0, t.2.2)
    else cells t.1 [magic, parent, size, t.2.1, (s.mem.cell root).1] t.1.here
  cells (x : Sp) (l : List Int) (a : Int) : Sp × Int × Int :=
    match l with
    | [] => (x, a, 0)
    | n :: l => if (x.comma n).2 ≠ 0 then ((x.comma n).1, 0, (x.comma n).2) else cells (x.comma n).1 l a
def new (s : Sp) (root parent slots : Int) : Sp × Int × Int :=
  if (make5 s root parent slots).2.2 ≠ 0 then (((make5 s root parent slots).1.back s.here).1, 0, (make5 s root parent slots).2.2)
  else ({ (make5 s root parent slots).1 with mem := ((make5 s root parent slots).1.mem.setCell root (make5 s root parent slots).2.1).1 }, (make5 s root parent slots).2.1, ((make5 s root parent slots).1.mem.setCell root (make5 s root parent slots).2.1).2)
/-- Grow: the memory, where the bytes begin, the code. -/
def grow (m : Mem) (a n : Int) : Mem × Int × Int :=
  if (read m a).2 = false then (m, 0, -2048)
  else if n < 0 ∨ 1048576 < n ∨ (read m a).1.size < 0 ∨ 1048576 < (read m a).1.size then (m, 0, -256)
  else ((m.setCell (a + 16) (((read m a).1.size + n + 7) / 8 * 8)).1, (read m a).1.size, 0)
def lookup (m : Mem) (a sel : Int) : Ent × Int × Bool :=
  if (read m a).2 = false then (⟨0, 0, 0⟩, 0, false) else Tab.get m (read m a).1.table sel
/-- heirs: of some classes, those that take a method. -/
def heirsL (m : Mem) (a sel : Int) : List Cls → List Int → List Cls
  | [], _ => []
  | c :: l, seen =>
    if c.at_ = a ∨ (c.parent ∈ seen ∧ ¬ ((Tab.get m c.table sel).2.2 = true ∧ (Tab.get m c.table sel).1.cls = c.at_)) then c :: heirsL m a sel l (c.at_ :: seen)
    else heirsL m a sel l seen
def heirs (m : Mem) (root a sel : Int) : List Cls := heirsL m a sel (all m root) []
/-- Set's writes. -/
def putL (m : Mem) (x : Ent) : List Cls → Mem × Int
  | [] => (m, 0)
  | c :: l => if (Tab.put m c.table x).2 ≠ 0 then Tab.put m c.table x else putL (Tab.put m c.table x).1 x l
def set (m : Mem) (root a sel xt : Int) : Mem × Int :=
  if heirs m root a sel = [] then (m, -2048)
  else if sel < 1 then (m, -256)
  else if (heirs m root a sel).any (fun c => !Tab.may m c.table sel) then (m, -2051)
  else putL m ⟨sel, xt, a⟩ (heirs m root a sel)

theorem walkN_enough (m : Mem) (k : Nat) (a last : Int) (h : last.toNat ≤ k) (j : Nat) (hj : last.toNat ≤ j) : walkN m k a last = walkN m j a last := by
  induction k generalizing a last j with
  | zero =>
    cases j with
    | zero => rfl
    | succ j =>
      rw [walkN, walkN, if_neg (by omega)]
  | succ k ih =>
    cases j with
    | zero => rw [walkN, walkN, if_neg (by omega)]
    | succ j =>
      rw [walkN, walkN]
      by_cases h1 : 0 < a ∧ a < last
      · rw [if_pos h1, if_pos h1]
        by_cases h2 : (read m a).2 = true
        · rw [if_pos h2, if_pos h2, ih _ a (by omega) j (by omega)]
        · rw [if_neg h2, if_neg h2]
      · rw [if_neg h1, if_neg h1]
theorem walk_step (m : Mem) (a last : Int) (h : 0 < a ∧ a < last) (h2 : (read m a).2 = true) : walk m a last = (read m a).1 :: walk m (read m a).1.prev a := by
  unfold walk
  obtain ⟨k, hk⟩ : ∃ k, last.toNat = k + 1 := ⟨last.toNat - 1, by omega⟩
  rw [hk, walkN, if_pos h, if_pos h2, walkN_enough m k _ a (by omega) a.toNat (Nat.le_refl _)]
theorem walk_end (m : Mem) (a last : Int) (h : ¬ (0 < a ∧ a < last)) : walk m a last = [] := by
  unfold walk
  cases last.toNat with
  | zero => rfl
  | succ k => rw [walkN, if_neg h]
theorem walk_bad (m : Mem) (a last : Int) (h2 : (read m a).2 = false) : walk m a last = [] := by
  unfold walk
  cases last.toNat with
  | zero => rfl
  | succ k =>
    rw [walkN]
    split
    · rw [h2]; rfl
    · rfl
theorem walk_len (m : Mem) (a last : Int) : (walk m a last).length ≤ last.toNat := by
  unfold walk
  generalize last.toNat = k
  induction k generalizing a last with
  | zero => simp [walkN]
  | succ k ih =>
    rw [walkN]
    split
    · split
      · have := ih (read m a).1.prev a; simp; omega
      · simp
    · simp
theorem all_len (m : Mem) (root : Int) : (all m root).length ≤ m.size := by
  unfold all
  split
  · have := walk_len m (m.cell root).1 m.size
    simp only [List.length_reverse]
    omega
  · simp
end Class
end Go.Proofs.Shed
