/-
  No cell of these rows narrows 'for every input' (looked for: loops, veiled, ifaces, maps, wideKeys, modest, calm, conditions, laid).
  DERIVED. THE GIVEN ROWS OF THIS SEAT. 5 by the template 'for every input the law returns true; each argument reads behind the call as it read before'; 0 by the template 'total and deterministic' (their statements: YthhfkhhhclmimaaTotals.lean).
  GIVEN WITH THE SEED: the statements are not yours to turn. If you find one false, say at which input.
  Laid BY PROGRAM, IN A SANDBOX (cutbox-rows.mjs): the forced cells as the released guide's own fill.sh prints them over the translation 37f530be7f5dbe2a… (all of the seat's roots in one cut). By AI agents, Wed Nov 11 2026. No macro, syntax, notation, axiom, sorry.
-/
import Derived.Test.YthhfkhhhclmimaaChecked
import GoSem.Claim
import GoSem.ClaimJoined
import GoSem.ClaimMapViews
import Derived.JoinedTies
import Derived.KernelRfl
namespace Go.Proofs.Ythhfkhhhclmimaa
/- THE CELL 'sum', in the pinned program and in every row, IS THE sha256 OF THE DUMP (.gsa) THAT YthhfkhhhclmimaaProg.lean LOADS. Nothing in Lean hashes anything: it is a label: what it is worth is what the hold of that sum in a sandbox is worth. -/
noncomputable def Try.pinned : Pinned := { name := "ythhfkhhhclmimaa", sum := "37f530be7f5dbe2add22ffbf160473a45bdfcc6298631d2a79c403d6b6f73748", checked := Try.checked }
namespace Rows
def none {H : Type} : Left H := { results := [], args := [] }

/-- 'shedlaw16.ControlMarks': WHATEVER THE INPUT: true; the input reads as it did. -/
def controlMarksSpec : ChangeSpec := { name := "controlMarks", fn := fun _ => fun
  | [d1, d2] => { results := [.lit (.bool true)], args := [d1, d2] }
  | _ => none }
def controlMarksRow : OpenClaim := { program := "ythhfkhhhclmimaa", sum := "37f530be7f5dbe2add22ffbf160473a45bdfcc6298631d2a79c403d6b6f73748", func := "shed/shedlaw16.ControlMarks", spec := "controlMarks", apart := false }
def ControlMarksSaid : Prop := controlMarksRow.holds Try.pinned (OpenSpec.ofChange controlMarksSpec)

/-- ITS FALSE NEIGHBOUR: 'it returns false'. Refute it at one input. -/
def controlMarksWrong : ChangeSpec := { name := "controlMarks", fn := fun _ => fun
  | [d1, d2] => { results := [.lit (.bool false)], args := [d1, d2] }
  | _ => none }
def ControlMarksWrongFalsely : Prop := controlMarksRow.holds Try.pinned (OpenSpec.ofChange controlMarksWrong)

/-- 'shedlaw14.CodeNames': WHATEVER THE INPUT: true; the input reads as it did. -/
def codeNamesSpec : ChangeSpec := { name := "codeNames", fn := fun _ => fun
  | [d1, d2] => { results := [.lit (.bool true)], args := [d1, d2] }
  | _ => none }
def codeNamesRow : OpenClaim := { program := "ythhfkhhhclmimaa", sum := "37f530be7f5dbe2add22ffbf160473a45bdfcc6298631d2a79c403d6b6f73748", func := "shed/shedlaw14.CodeNames", spec := "codeNames", apart := false }
def CodeNamesSaid : Prop := codeNamesRow.holds Try.pinned (OpenSpec.ofChange codeNamesSpec)

/-- ITS FALSE NEIGHBOUR: 'it returns false'. Refute it at one input. -/
def codeNamesWrong : ChangeSpec := { name := "codeNames", fn := fun _ => fun
  | [d1, d2] => { results := [.lit (.bool false)], args := [d1, d2] }
  | _ => none }
def CodeNamesWrongFalsely : Prop := codeNamesRow.holds Try.pinned (OpenSpec.ofChange codeNamesWrong)

/-- 'shedlaw12.IfaceMissing': WHATEVER THE INPUT: true; the input reads as it did. -/
def ifaceMissingSpec : ChangeSpec := { name := "ifaceMissing", fn := fun _ => fun
  | [d1, d2, d3] => { results := [.lit (.bool true)], args := [d1, d2, d3] }
  | _ => none }
def ifaceMissingRow : OpenClaim := { program := "ythhfkhhhclmimaa", sum := "37f530be7f5dbe2add22ffbf160473a45bdfcc6298631d2a79c403d6b6f73748", func := "shed/shedlaw12.IfaceMissing", spec := "ifaceMissing", unfollowed := true, recurses := true, apart := false }
def IfaceMissingSaid : Prop := ifaceMissingRow.holds Try.pinned (OpenSpec.ofChange ifaceMissingSpec)

/-- ITS FALSE NEIGHBOUR: 'it returns false'. Refute it at one input. -/
def ifaceMissingWrong : ChangeSpec := { name := "ifaceMissing", fn := fun _ => fun
  | [d1, d2, d3] => { results := [.lit (.bool false)], args := [d1, d2, d3] }
  | _ => none }
def IfaceMissingWrongFalsely : Prop := ifaceMissingRow.holds Try.pinned (OpenSpec.ofChange ifaceMissingWrong)

/-- 'shedlaw12.IfaceKeeps': WHATEVER THE INPUT: true; the input reads as it did. -/
def ifaceKeepsSpec : ChangeSpec := { name := "ifaceKeeps", fn := fun _ => fun
  | [d1, d2] => { results := [.lit (.bool true)], args := [d1, d2] }
  | _ => none }
def ifaceKeepsRow : OpenClaim := { program := "ythhfkhhhclmimaa", sum := "37f530be7f5dbe2add22ffbf160473a45bdfcc6298631d2a79c403d6b6f73748", func := "shed/shedlaw12.IfaceKeeps", spec := "ifaceKeeps", unfollowed := true, recurses := true, apart := false }
def IfaceKeepsSaid : Prop := ifaceKeepsRow.holds Try.pinned (OpenSpec.ofChange ifaceKeepsSpec)

/-- ITS FALSE NEIGHBOUR: 'it returns false'. Refute it at one input. -/
def ifaceKeepsWrong : ChangeSpec := { name := "ifaceKeeps", fn := fun _ => fun
  | [d1, d2] => { results := [.lit (.bool false)], args := [d1, d2] }
  | _ => none }
def IfaceKeepsWrongFalsely : Prop := ifaceKeepsRow.holds Try.pinned (OpenSpec.ofChange ifaceKeepsWrong)

/-- 'shedlaw13.ObjectSends': WHATEVER THE INPUT: true; the input reads as it did. -/
def objectSendsSpec : ChangeSpec := { name := "objectSends", fn := fun _ => fun
  | [d] => { results := [.lit (.bool true)], args := [d] }
  | _ => none }
def objectSendsRow : OpenClaim := { program := "ythhfkhhhclmimaa", sum := "37f530be7f5dbe2add22ffbf160473a45bdfcc6298631d2a79c403d6b6f73748", func := "shed/shedlaw13.ObjectSends", spec := "objectSends", inPlace := ["internal/abi.NoEscape", "internal/bytealg.MakeNoZero"], unfollowed := true, recurses := true, apart := false }
def ObjectSendsSaid : Prop := objectSendsRow.holds Try.pinned (OpenSpec.ofChange objectSendsSpec)

/-- ITS FALSE NEIGHBOUR: 'it returns false'. Refute it at one input. -/
def objectSendsWrong : ChangeSpec := { name := "objectSends", fn := fun _ => fun
  | [d] => { results := [.lit (.bool false)], args := [d] }
  | _ => none }
def ObjectSendsWrongFalsely : Prop := objectSendsRow.holds Try.pinned (OpenSpec.ofChange objectSendsWrong)

/- THE SECOND FORM. 'bulk': how many values and letters a reading holds, each counted each time it is reached (what is shared counts as often as it is met; a slice's spare places count too). A statement '..UptoSaid' is the law's where the arguments, and the package variables that the reading takes, are together of bulk at most 1048576: NARROWER than '..Said'. Prove '..Said' where nothing that the law and all that it calls make is longer than what came in: it says more and counts as full. Else prove '..UptoSaid'. A law counts once. -/
mutual
def uptoBulk {H : Type} : DataW H → Nat
  | .lit (.string bytes) => bytes.length + 1
  | .lit _ => 1
  | .nil => 1
  | .ptr d => uptoBulk d + 1
  | .slice elems spare => uptoBulkAll elems + uptoBulkAll spare + 1
  | .agg parts => uptoBulkAll parts + 1
  | .iface _ d => uptoBulk d + 1
  | .map entries => uptoBulkEntries entries + 1
  | .held _ => 1
def uptoBulkAll {H : Type} : List (DataW H) → Nat
  | [] => 0
  | d :: r => uptoBulk d + uptoBulkAll r
def uptoBulkEntries {H : Type} : List (Lit × DataW H) → Nat
  | [] => 0
  | x :: r => uptoBulkEntry x + uptoBulkEntries r
def uptoBulkEntry {H : Type} : Lit × DataW H → Nat
  | (.string bytes, d) => bytes.length + uptoBulk d + 1
  | (_, d) => uptoBulk d + 1
 end
def uptoSmall : (H : Type) → List (DataW H) → Bool := fun _ ds => decide (uptoBulkAll ds ≤ 1048576)
def OpenSpec.upto (s : _root_.Go.ChangeSpec) : _root_.Go.OpenSpec := { _root_.Go.OpenSpec.ofChange s with cond := some uptoSmall }

/-- 'shedlaw16.ControlMarks', WHERE WHAT IT READS IS OF BULK AT MOST 1048576: true; the input reads as it did. -/
def controlMarksUptoRow : OpenClaim := { program := "ythhfkhhhclmimaa", sum := "37f530be7f5dbe2add22ffbf160473a45bdfcc6298631d2a79c403d6b6f73748", func := "shed/shedlaw16.ControlMarks", spec := "controlMarks", apart := false, narrowed := true }
def ControlMarksUptoSaid : Prop := controlMarksUptoRow.holds Try.pinned (OpenSpec.upto controlMarksSpec)

/-- 'shedlaw14.CodeNames', WHERE WHAT IT READS IS OF BULK AT MOST 1048576: true; the input reads as it did. -/
def codeNamesUptoRow : OpenClaim := { program := "ythhfkhhhclmimaa", sum := "37f530be7f5dbe2add22ffbf160473a45bdfcc6298631d2a79c403d6b6f73748", func := "shed/shedlaw14.CodeNames", spec := "codeNames", apart := false, narrowed := true }
def CodeNamesUptoSaid : Prop := codeNamesUptoRow.holds Try.pinned (OpenSpec.upto codeNamesSpec)

/-- 'shedlaw12.IfaceMissing', WHERE WHAT IT READS IS OF BULK AT MOST 1048576: true; the input reads as it did. -/
def ifaceMissingUptoRow : OpenClaim := { program := "ythhfkhhhclmimaa", sum := "37f530be7f5dbe2add22ffbf160473a45bdfcc6298631d2a79c403d6b6f73748", func := "shed/shedlaw12.IfaceMissing", spec := "ifaceMissing", unfollowed := true, recurses := true, apart := false, narrowed := true }
def IfaceMissingUptoSaid : Prop := ifaceMissingUptoRow.holds Try.pinned (OpenSpec.upto ifaceMissingSpec)

/-- 'shedlaw12.IfaceKeeps', WHERE WHAT IT READS IS OF BULK AT MOST 1048576: true; the input reads as it did. -/
def ifaceKeepsUptoRow : OpenClaim := { program := "ythhfkhhhclmimaa", sum := "37f530be7f5dbe2add22ffbf160473a45bdfcc6298631d2a79c403d6b6f73748", func := "shed/shedlaw12.IfaceKeeps", spec := "ifaceKeeps", unfollowed := true, recurses := true, apart := false, narrowed := true }
def IfaceKeepsUptoSaid : Prop := ifaceKeepsUptoRow.holds Try.pinned (OpenSpec.upto ifaceKeepsSpec)

/-- 'shedlaw13.ObjectSends', WHERE WHAT IT READS IS OF BULK AT MOST 1048576: true; the input reads as it did. -/
def objectSendsUptoRow : OpenClaim := { program := "ythhfkhhhclmimaa", sum := "37f530be7f5dbe2add22ffbf160473a45bdfcc6298631d2a79c403d6b6f73748", func := "shed/shedlaw13.ObjectSends", spec := "objectSends", inPlace := ["internal/abi.NoEscape", "internal/bytealg.MakeNoZero"], unfollowed := true, recurses := true, apart := false, narrowed := true }
def ObjectSendsUptoSaid : Prop := objectSendsUptoRow.holds Try.pinned (OpenSpec.upto objectSendsSpec)

end Rows
end Go.Proofs.Ythhfkhhhclmimaa
