/- What the functions of layer 10 come to. No program in sight; no condition. -/
import Derived.Test.YthhfkhhhclmimaaSpaceS
set_option linter.unusedVariables false
set_option linter.unusedSimpArgs false
namespace Go.Proofs.Shed

/-- What a selector has. -/
structure Ent where
  sel : Int
  xt : Int
  cls : Int
  deriving DecidableEq

namespace Tab
def slots (m : Mem) (t : Int) : Int :=
  if (m.cell t).2 ≠ 0 ∨ (m.cell t).1 < 1 ∨ 1024 < (m.cell t).1 then 0
  else if (m.text t ((2 + (m.cell t).1 * 3) * 8)).2 ≠ 0 then 0 else (m.cell t).1
def pos (t i : Int) : Int := t + (2 + i * 3) * 8
def read (m : Mem) (t i : Int) : Ent := ⟨(m.cell (pos t i)).1, (m.cell (pos t i + 8)).1, (m.cell (pos t i + 16)).1⟩
def home (sel n : Int) : Int := (sel % 4294967296 * 2654435761 % 4294967296) % n
/-- From the slot number i on, k slots that are left. -/
def probeN (m : Mem) (t sel n : Int) : Nat → Int → Int × Int
  | 0, _ => (-1, n)
  | k + 1, i =>
    if (read m t ((home sel n + i) % n)).sel = sel ∨ (read m t ((home sel n + i) % n)).sel = 0 then ((home sel n + i) % n, i + 1)
    else probeN m t sel n k (i + 1)
def probe (m : Mem) (t sel : Int) : Int × Int := probeN m t sel (slots m t) (slots m t).toNat 0
def get (m : Mem) (t sel : Int) : Ent × Int × Bool :=
  if (probe m t sel).1 < 0 ∨ sel < 1 then (⟨0, 0, 0⟩, (probe m t sel).2, false)
  else if (read m t (probe m t sel).1).sel ≠ sel then (⟨0, 0, 0⟩, (probe m t sel).2, false)
  else (read m t (probe m t sel).1, (probe m t sel).2, true)
def may (m : Mem) (t sel : Int) : Bool := decide (0 ≤ (probe m t sel).1) && decide (1 ≤ sel)
/-- The cell that counts. -/
def bump (m : Mem) (t i : Int) : Mem := if (read m t i).sel = 0 then (m.setCell (t + 8) ((m.cell (t + 8)).1 + 1)).1 else m
def put (m : Mem) (t : Int) (x : Ent) : Mem × Int :=
  if x.sel < 1 ∨ slots m t = 0 then (m, -256)
  else if (probe m t x.sel).1 < 0 then (m, -2051)
  else ((((((bump m t (probe m t x.sel).1).setCell (pos t (probe m t x.sel).1) x.sel).1).setCell (pos t (probe m t x.sel).1 + 8) x.xt).1.setCell (pos t (probe m t x.sel).1 + 16) x.cls).1, 0)
/-- New's cells: from the number i on, k cells that are left. -/
def newN (slots : Int) : Nat → Int → Sp → Sp × Int
  | 0, _, s => (s, 0)
  | k + 1, i, s =>
    if (s.comma (if i = 0 then slots else 0)).2 ≠ 0 then s.comma (if i = 0 then slots else 0)
    else newN slots k (i + 1) (s.comma (if i = 0 then slots else 0)).1
/-- New: the space, the table's place, the code. -/
def new (s : Sp) (slots : Int) : Sp × Int × Int :=
  if slots < 1 ∨ 1024 < slots then (s, 0, -256)
  else if s.align.2 ≠ 0 then ((s.align.1.back s.here).1, 0, s.align.2)
  else if (newN slots (2 + slots * 3).toNat 0 s.align.1).2 ≠ 0 then (((newN slots (2 + slots * 3).toNat 0 s.align.1).1.back s.here).1, 0, (newN slots (2 + slots * 3).toNat 0 s.align.1).2)
  else ((newN slots (2 + slots * 3).toNat 0 s.align.1).1, s.align.1.here, 0)
def copy (s : Sp) (t : Int) : Sp × Int × Int :=
  if (new s (slots s.mem t)).2.2 ≠ 0 then ((new s (slots s.mem t)).1, 0, (new s (slots s.mem t)).2.2)
  else ({ (new s (slots s.mem t)).1 with mem := ((new s (slots s.mem t)).1.mem.setText (new s (slots s.mem t)).2.1 ((new s (slots s.mem t)).1.mem.text t ((2 + slots s.mem t * 3) * 8)).1).1 },
    (new s (slots s.mem t)).2.1, ((new s (slots s.mem t)).1.mem.setText (new s (slots s.mem t)).2.1 ((new s (slots s.mem t)).1.mem.text t ((2 + slots s.mem t * 3) * 8)).1).2)

theorem slots_bd (m : Mem) (t : Int) : 0 ≤ slots m t ∧ slots m t ≤ 1024 := by
  unfold slots
  split
  · omega
  · split <;> omega
/-- A table with slots lies in the memory. -/
theorem slots_in (m : Mem) (t : Int) (h : slots m t ≠ 0) : 0 ≤ t ∧ t % 8 = 0 ∧ t + (2 + slots m t * 3) * 8 ≤ m.size := by
  unfold slots at *
  split at h
  · exact absurd rfl h
  · rename_i h1
    rw [if_neg h1]
    split at h
    · exact absurd rfl h
    · rename_i h2
      rw [if_neg h2]
      have c : (m.cell t).2 = 0 := by omega
      unfold Mem.cell at c
      split at c
      · rename_i h3
        rw [Mem.at_zero] at h3
        unfold Mem.text at h2
        split at h2
        · rename_i h4
          rw [Mem.has_iff] at h4
          omega
        · simp at h2
      · rename_i h3
        exact absurd c h3
theorem home_bd (sel n : Int) (h : 0 < n) : 0 ≤ home sel n ∧ home sel n < n := ⟨Int.emod_nonneg _ (by omega), Int.emod_lt_of_pos _ h⟩
theorem probeN_bd (m : Mem) (t sel n : Int) (hn : 0 < n) (k : Nat) (i : Int) : (probeN m t sel n k i).1 < n ∧ -1 ≤ (probeN m t sel n k i).1 := by
  induction k generalizing i with
  | zero => unfold probeN; simp only; omega
  | succ k ih =>
    unfold probeN
    split
    · simp only
      have h1 := Int.emod_nonneg (home sel n + i) (show n ≠ 0 by omega)
      have h2 := Int.emod_lt_of_pos (home sel n + i) hn
      omega
    · exact ih _
theorem probe_bd (m : Mem) (t sel : Int) : -1 ≤ (probe m t sel).1 ∧ ((probe m t sel).1 < slots m t ∨ (probe m t sel).1 = -1) := by
  unfold probe
  by_cases h : slots m t = 0
  · rw [h]
    simp [probeN]
  · have := slots_bd m t
    have := probeN_bd m t sel (slots m t) (by omega) (slots m t).toNat 0
    omega
end Tab
end Go.Proofs.Shed
