/- ObjectSends: the code of its switch, by its place in the function's text. No condition. -/
import Derived.Test.YthhfkhhhclmimaaWSends
set_option linter.unusedVariables false
set_option linter.unusedSimpArgs false
namespace Go.Proofs.Shed
open Go
/-- The block of a number, first in the text. -/
def blockOf (n : Nat) : Code → Option Code
  | .block m c => if m = n then some (.block m c) else blockOf n c
  | .loop c => blockOf n c
  | .seq a b => match blockOf n a with
    | some c => some c
    | none => blockOf n b
  | .scope c => blockOf n c
  | .cond _ a b => match blockOf n a with
    | some c => some c
    | none => blockOf n b
  | _ => none
noncomputable def sw : Code := ((Try.f7.body.bind (blockOf 2)).getD .skip)
/-- The first loop's body. -/
def loopOf : Code → Option Code
  | .loop c => some c
  | .block _ c => loopOf c
  | .seq a b => match loopOf a with
    | some c => some c
    | none => loopOf b
  | .scope c => loopOf c
  | .cond _ a b => match loopOf a with
    | some c => some c
    | none => loopOf b
  | _ => none
noncomputable def lb : Code := ((Try.f7.body.bind loopOf).getD .skip)
end Go.Proofs.Shed
