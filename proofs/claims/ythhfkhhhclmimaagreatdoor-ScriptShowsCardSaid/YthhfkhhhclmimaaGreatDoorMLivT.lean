/- The example of layer 22, reckoned: what New comes to, and what '1 .' asks. No program in sight; no condition. -/
import Derived.Test.YthhfkhhhclmimaaGreatDoorMWVmC
import Derived.Test.YthhfkhhhclmimaaGreatDoorMWOutD
set_option linter.unusedVariables false
set_option linter.unusedSimpArgs false
set_option maxRecDepth 100000
namespace Go.Proofs.Shed
open Go.Proofs.Cod
namespace L22
def m1 : Mem := (Heap.put (Mem.zero 21504) ⟨17408, 4096, false⟩).1
def x1 : Sp := (Class.root ⟨m1, 8, 16384, 8⟩).1
def y : Sp := match Vm.prims x1 with | some r => r.1 | none => ⟨⟨0, 0⟩, 0, 0, 0⟩
theorem put_is : Heap.put (Mem.zero (16384 + 64 * 8 + 64 * 8 + 4096 : Int).toNat) ⟨16384 + 64 * 8 + 64 * 8, 4096, false⟩ = (m1, 0) := by decide +kernel
theorem root_is : Class.root ⟨m1, 8, 16384, 8⟩ = (x1, 8, 0) := by decide +kernel
theorem prims_is : Vm.prims x1 = some (y, 16, 24, 2824) := by decide +kernel
theorem ok : NewOk 16384 64 64 4096 m1 x1 y 8 16 24 2824 := ⟨by decide, by decide, by decide, by decide, by decide, by decide, by decide, put_is, root_is, prims_is⟩
def d0 : Stk := ⟨16384, 64, 0, -3, -4⟩
def m2 : Mem := (Stk.push y.mem d0 [1]).1
def d1 : Stk := ⟨16384, 64, 1, -3, -4⟩
theorem push_is : Stk.push y.mem d0 [1] = (m2, d1, 0) := by decide +kernel
theorem find1 : y.mem.find [49] [24] = none := by decide +kernel
theorem find2 : m2.find [46] [24] = some ⟨2176, 2200, 0, [46]⟩ := by decide +kernel
theorem base1 : (y.mem.cell 16).1 = 10 := by decide +kernel
theorem base2 : (m2.cell 16).1 = 10 := by decide +kernel
theorem code : m2.cell 2200 = (68, 0) := by decide +kernel
theorem pop_is : Stk.pop m2 d1 = ({ d1 with depth := d1.depth - 1 }, 1, 0) := by decide +kernel
theorem m2_size : m2.size ≤ 4194304 := by decide +kernel
theorem y_here : y.here = 2832 := by decide +kernel
end L22
end Go.Proofs.Shed
