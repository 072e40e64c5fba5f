/- A part of WalkG. No condition. -/
import Derived.Test.YthhfkhhhclmimaaGreatDoorM03
set_option linter.unusedVariables false
set_option linter.unusedSimpArgs false
namespace Go.Proofs.K
open Go
def fP(w:World):Type:={ w':World // K_ w w' }
instance (w:World):Nonempty (fP w):=⟨⟨w,cq.refl _ w⟩⟩
theorem cW{P:Program}{e:Nat}{Q:Exit->Act->World->Prop}{a:Act}{w:World}{l:List Oper}(d:P.follows .mixedOrders=true)(c:Region.lexB .any l.toArray=true)
 (h:wpQuiet P l.toArray (fun w'=>∃ i:fP w,w'=i.1) (fun b=>∀ w',(∃ i:fP w,w'=i.1)->Q .normal b w') l a):(Code.region e l.toArray true).wp P Q a w :=
 wp_region_quiet (C:=fun w'=>∃ i:fP w,w'=i.1) d c ⟨⟨_,cq.drew _ w⟩,rfl⟩ (by simpa using h)
theorem gO{P:Program}{f:FuncId}{a:Array Value}{w:World}{i:fP w}{v:Value}
 (h:Calls P f a i.1 fun e w'=>e=.returned v/\K_ i.1 w'):Calls P f a i.1 fun e d=>e=.returned v/\∃ j:fP w,d=j.1 :=
 h.mono fun _ _ ⟨b,c⟩=>⟨b,⟨_,i.2.trans c⟩,rfl⟩
end Go.Proofs.K
