/-
  A part of the proof of SoundKeys.
-/
import Derived.Test.YtnokpoinacbjiaaGreatDoorVC
set_option linter.unusedVariables false
set_option linter.unusedSimpArgs false
set_option linter.defProp false
set_option linter.unusedSectionVars false
namespace Go.Ds
set_option maxRecDepth 100000
theorem c1R : lW ([(56, 9)].flatMap sK) = true := by kernel_rfl
theorem c4A : lW ([(20, 8)].flatMap sK) = true := by kernel_rfl
theorem c4x : lW ([(8, 7)].flatMap sK) = true := by kernel_rfl
theorem c3z : lW ([(64, 7)].flatMap sK) = true := by kernel_rfl
theorem c5x : vG [40, 48, 56, 64] = true := by kernel_rfl
theorem c5r : vU ([(2, 2, 0), (4, 4, 0), (8, 6, 5), (8, 8, 0), (10, 8, 4), (12, 8, 7), (16, 10, 8), (16, 12, 5), (16, 14, 2)].flatMap a7q) = true := by kernel_rfl
theorem c4o : vU ([(40, 24, 9), (40, 32, 4), (40, 40, 0), (48, 32, 7), (48, 40, 3), (48, 48, 0), (64, 40, 8)].flatMap a7q) = true := by kernel_rfl
theorem c5F : lW ([(28, 2)].flatMap sK) = true := by kernel_rfl
end Go.Ds
