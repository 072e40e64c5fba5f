/- The chapter's example of layer 12, step by step. No program in sight; no condition. -/
import Derived.Test.YthhfkhhhclmimaaKeepP
set_option linter.unusedVariables false
set_option linter.unusedSimpArgs false
namespace Go.Proofs.Shed
namespace Liv
def r0 : Sp × Int × Int := Class.root ⟨Mem.zero 1024, 8, 1024, 8⟩
def x0 : Sp := r0.1
theorem root_is : Class.root ⟨Mem.zero 1024, 8, 1024, 8⟩ = (x0, 8, 0) := by
  have : (Class.root ⟨Mem.zero 1024, 8, 1024, 8⟩).2 = (8, 0) := by decide +kernel
  exact Prod.ext rfl this
def x1 : Sp := (Class.new x0 8 0 4).1
theorem new_is : Class.new x0 8 0 4 = (x1, 128, 0) := by
  have : (Class.new x0 8 0 4).2 = (128, 0) := by decide +kernel
  exact Prod.ext rfl this
theorem x0_here : x0.here = 16 := by decide +kernel
theorem x1_here : x1.here = 168 := by decide +kernel
theorem x0_size : x0.mem.size = 1024 := by decide +kernel
theorem x1_size : x1.mem.size = 1024 := by decide +kernel
theorem is_is : Class.is x1.mem 8 128 = true := by decide +kernel
def m2 : Mem := (Class.set x1.mem 8 128 1 8).1
theorem set_is : Class.set x1.mem 8 128 1 8 = (m2, 0) := by
  have : (Class.set x1.mem 8 128 1 8).2 = 0 := by decide +kernel
  exact Prod.ext rfl this
theorem m2_size : m2.size = 1024 := by decide +kernel
def x3 : Sp := (Iface.new { x1 with mem := m2 } [1, 2]).1
theorem iface_is : Iface.new { x1 with mem := m2 } [1, 2] = (x3, 168, 0) := by
  have : (Iface.new { x1 with mem := m2 } [1, 2]).2 = (168, 0) := by decide +kernel
  exact Prod.ext rfl this
theorem x3_size : x3.mem.size = 1024 := by decide +kernel
theorem missing_is : Iface.missing x3.mem 168 128 = (2, -2050) := by decide +kernel
end Liv
end Go.Proofs.Shed
