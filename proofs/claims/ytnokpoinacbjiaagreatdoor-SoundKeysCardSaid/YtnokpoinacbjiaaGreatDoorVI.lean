/-
  A part of the proof of SoundKeys.
-/
import Derived.Test.YtnokpoinacbjiaaGreatDoorVC
set_option linter.unusedVariables false
set_option linter.unusedSimpArgs false
set_option linter.defProp false
set_option linter.unusedSectionVars false
namespace Go.Ds
set_option maxRecDepth 100000
theorem c2X : lW ([(96, 9)].flatMap sK) = true := by kernel_rfl
theorem c4E : lW ([(40, 8)].flatMap sK) = true := by kernel_rfl
theorem c3H : lW ([(16, 7)].flatMap sK) = true := by kernel_rfl
theorem c1F : lW ([(128, 7)].flatMap sK) = true := by kernel_rfl
theorem c5R : vG [80, 96, 112, 128] = true := by kernel_rfl
theorem c4P : vU ([(16, 16, 0), (20, 16, 4), (24, 16, 7), (24, 24, 0), (32, 20, 8), (32, 24, 5), (32, 28, 2), (32, 32, 0)].flatMap a7q) = true := by kernel_rfl
theorem c3M : vU ([(64, 48, 5), (64, 56, 2), (64, 64, 0), (80, 48, 9), (80, 56, 6), (80, 64, 4), (80, 80, 0)].flatMap a7q) = true := by kernel_rfl
theorem c2Q : lW ([(112, 2)].flatMap sK) = true := by kernel_rfl
end Go.Ds
