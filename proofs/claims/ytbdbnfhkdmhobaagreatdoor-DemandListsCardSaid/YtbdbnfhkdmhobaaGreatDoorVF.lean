/-
  A part of the proof of DemandLists.
-/
import Derived.Test.YtbdbnfhkdmhobaaGreatDoorVC
set_option linter.unusedVariables false
set_option linter.unusedSimpArgs false
set_option linter.defProp false
set_option linter.unusedSectionVars false
namespace Go.Ds
set_option maxRecDepth 100000
theorem c5Z : lV ([(32, 10)].flatMap sL) = true := by kernel_rfl
theorem c4K : lV ([(20, 8)].flatMap sL) = true := by kernel_rfl
theorem c5j : lV ([(2, 0), (4, 0), (6, 5)].flatMap sL) = true := by kernel_rfl
theorem c5A : lV ([(16, 7)].flatMap sL) = true := by kernel_rfl
theorem c3P : uF [20, 24, 28, 32] = true := by kernel_rfl
theorem c2W : lV ([(256, 4)].flatMap sL) = true := by kernel_rfl
theorem c5P : vJ ([(160, 96, 9), (160, 128, 4), (192, 128, 7), (320, 256, 4)].flatMap a7J) = true := by kernel_rfl
end Go.Ds
