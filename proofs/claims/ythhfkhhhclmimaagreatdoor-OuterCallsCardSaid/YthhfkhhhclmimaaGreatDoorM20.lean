/- Of CallsG: Calm. No condition. -/
import Derived.Test.YthhfkhhhclmimaaGreatDoorM02
set_option linter.unusedVariables false
set_option linter.unusedSimpArgs false
namespace Go.Proofs.K
open Go
def Stay (w:World):Type:={ w':World // Keeps (fun _=>False) w w' }
instance (w:World):Nonempty (Stay w):=⟨⟨w,Keeps.refl _ w⟩⟩
theorem wp_region_calm {P:Program} {id:Nat} {Q:Exit→Act→World→Prop} {a:Act} {w:World} {l:List Oper} (hm:P.follows .mixedOrders=true) (hB:Region.lexB .any l.toArray=true)
 (h:wpQuiet P l.toArray (fun w'=>∃ i:Stay w,w'=i.1) (fun a'=>∀ w',(∃ i:Stay w,w'=i.1)→Q .normal a' w') l a):(Code.region id l.toArray true).wp P Q a w :=
 wp_region_quiet (C:=fun w'=>∃ i:Stay w,w'=i.1) hm hB ⟨⟨_,Keeps.drew _ w⟩,rfl⟩ (by simpa using h)
theorem calm_of {P:Program} {f:FuncId} {args:Array Value} {w:World} {i:Stay w} {v:Value}
 (h:Calls P f args i.1 fun e w'=>e=.returned v∧Keeps (fun _=>False) i.1 w'):Calls P f args i.1 fun e w''=>e=.returned v∧∃ j:Stay w,w''=j.1 :=
 h.mono fun _ _ ⟨he,hk⟩=>⟨he,⟨_,i.2.trans hk⟩,rfl⟩
end Go.Proofs.K
