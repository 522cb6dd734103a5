/-
  A part of the proof of DemandLists.
-/
import Derived.Test.YtbdbnfhkdmhobaaGreatDoorVC
set_option linter.unusedVariables false
set_option linter.unusedSimpArgs false
set_option linter.defProp false
set_option linter.unusedSectionVars false
namespace Go.Ds
set_option maxRecDepth 100000
theorem c1F : lV ([(56, 9)].flatMap sL) = true := by kernel_rfl
theorem c3O : lV ([(12, 5), (14, 2)].flatMap sL) = true := by kernel_rfl
theorem c2e : lV ([(80, 8)].flatMap sL) = true := by kernel_rfl
theorem c5Q : uF [2, 4, 6, 8] = true := by kernel_rfl
theorem c3J : uF [10, 12, 14, 16] = true := by kernel_rfl
theorem c4W : uF [160, 192, 256, 320] = true := by kernel_rfl
theorem c4i : vJ ([(80, 64, 4), (80, 80, 0), (96, 56, 9), (96, 64, 7), (96, 96, 0), (128, 80, 8), (128, 112, 2)].flatMap a7J) = true := by kernel_rfl
theorem c7h : c1d [2, 4, 6, 8, 10, 12, 14, 16, 20, 24, 28, 32, 40, 48, 56, 64, 80, 96, 112, 128, 160, 192, 256, 320] = true := by kernel_rfl
end Go.Ds
