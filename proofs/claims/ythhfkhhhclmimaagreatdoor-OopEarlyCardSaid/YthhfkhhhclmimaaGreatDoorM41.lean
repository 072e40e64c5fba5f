/- A part of EarlyG. No condition. -/
import Derived.Test.YthhfkhhhclmimaaGreatDoorM38
import Derived.Lib.ParseIntB
import Derived.Lib.IndexMore
set_option linter.unusedVariables false
set_option linter.unusedSimpArgs false
namespace Go.Proofs.dS
namespace TI
def PC:List UInt8->UInt8->List UInt8 × List UInt8 × Bool
 | [],_=>([],[],false)
 | x :: s,c=>if x=c then([],s,true)else(x :: (PC s c).1,(PC s c).2.1,(PC s c).2.2)
end TI
end Go.Proofs.dS
