/- What the functions of layer 12 come to. No program in sight; no condition. -/
import Derived.Test.YthhfkhhhclmimaaClassS
set_option linter.unusedVariables false
set_option linter.unusedSimpArgs false
namespace Go.Proofs.Shed
namespace Iface
/-- So many numbers behind the space's end, as long as there is no error. -/
def cells : List Int → Sp × Int → Sp × Int
  | [], r => r
  | n :: l, r => cells l (if r.2 = 0 then r.1.comma n else r)
def newR (x : Sp) (l : List Int) : Sp × Int := cells ((l.length : Int) :: l) x.align
def new (x : Sp) (l : List Int) : Sp × Int × Int :=
  if 1024 < l.length then (x, 0, -256)
  else if (newR x l).2 ≠ 0 then (((newR x l).1.back x.here).1, 0, (newR x l).2)
  else ((newR x l).1, x.align.1.here, 0)
/-- The cells from a number on. -/
def selsN (m : Mem) (a : Int) : Nat → Int → Option (List Int)
  | 0, _ => some []
  | k + 1, i => if (m.cell (a + (i + 1) * 8)).2 ≠ 0 then none else (selsN m a k (i + 1)).map ((m.cell (a + (i + 1) * 8)).1 :: ·)
def sels (m : Mem) (a : Int) : Option (List Int) :=
  if (m.cell a).2 ≠ 0 ∨ (m.cell a).1 < 0 ∨ 1024 < (m.cell a).1 then none
  else selsN m a (m.cell a).1.toNat 0
def missingL (m : Mem) (c : Int) : List Int → Int × Int
  | [] => (0, 0)
  | s :: l => if (Class.lookup m c s).2.2 then missingL m c l else (s, -2050)
def missing (m : Mem) (a c : Int) : Int × Int :=
  match sels m a with
  | none => (0, -256)
  | some l => if (Class.read m c).2 = false then (0, -2048) else missingL m c l
theorem selsN_len (m : Mem) (a : Int) (k : Nat) (i : Int) (l : List Int) (h : selsN m a k i = some l) : l.length = k := by
  induction k generalizing i l with
  | zero => cases h; rfl
  | succ k ih =>
    rw [selsN] at h
    split at h
    · cases h
    · cases hs : selsN m a k (i + 1) with
      | none => rw [hs] at h; cases h
      | some l' => rw [hs] at h; cases h; simp [ih _ _ hs]
theorem sels_len (m : Mem) (a : Int) (l : List Int) (h : sels m a = some l) : l.length ≤ 1024 := by
  unfold sels at h
  split at h
  · cases h
  · rename_i hc
    rw [selsN_len _ _ _ _ _ h]
    omega
end Iface
end Go.Proofs.Shed
