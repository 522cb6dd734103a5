/-
  A part of the proof of SoundUnions.
-/
import Derived.Test.YtabfngimnibecaaGreatDoorVC
set_option linter.unusedVariables false
set_option linter.unusedSimpArgs false
set_option linter.defProp false
set_option linter.unusedSectionVars false
namespace Go.Ds
set_option maxRecDepth 100000
theorem b8V : dP ([(24, 9)].flatMap jZ) = true := by kernel_rfl
theorem c1V : dP ([(10, 8)].flatMap jZ) = true := by kernel_rfl
theorem b8a : dP ([(80, 8)].flatMap jZ) = true := by kernel_rfl
theorem c2j : mE [2, 4, 6, 8] = true := by kernel_rfl
theorem c2r : mE [10, 12, 14, 16] = true := by kernel_rfl
theorem c0z : mE [160, 192, 256, 320] = true := by kernel_rfl
theorem c2m : lT ([(96, 56, 9), (96, 64, 7), (96, 96, 0), (128, 80, 8), (128, 112, 2)].flatMap a2j) = true := by kernel_rfl
theorem c3Z : b6f [2, 4, 6, 8, 10, 12, 14, 16, 20, 24, 28, 32, 40, 48, 56, 64, 80, 96, 112, 128, 160, 192, 256, 320] = true := by kernel_rfl
end Go.Ds
