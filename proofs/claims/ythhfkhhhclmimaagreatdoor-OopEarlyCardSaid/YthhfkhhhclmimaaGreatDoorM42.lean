/- A part of EarlyG. No condition. -/
import Derived.Test.YthhfkhhhclmimaaGreatDoorM36
import Derived.Test.YthhfkhhhclmimaaGreatDoorM41
set_option linter.unusedVariables false
set_option linter.unusedSimpArgs false
open Go.Proofs.Tryz
set_option maxRecDepth 10000
set_option maxHeartbeats 4000000
namespace Go.Proofs.dS
open Go Go.RowKit Go.Proofs.K
namespace Src
def Ik(s:List UInt8)(n:Nat):List UInt8:=(TI.PC (s.drop n) 10).1
def lH(s:List UInt8)(n:Nat)(c:UInt8):List UInt8 × Bool × Nat :=
 if Lib.indexByte (Ik s n) c<0 then(Ik s n,false,n+(Ik s n).length)
 else((Ik s n).take (Lib.indexByte (Ik s n) c).toNat,true,n+(Lib.indexByte (Ik s n) c).toNat+1)
end Src
end Go.Proofs.dS
