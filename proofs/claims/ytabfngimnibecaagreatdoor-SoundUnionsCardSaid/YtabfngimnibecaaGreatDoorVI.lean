/-
  A part of the proof of SoundUnions.
-/
import Derived.Test.YtabfngimnibecaaGreatDoorVC
set_option linter.unusedVariables false
set_option linter.unusedSimpArgs false
set_option linter.defProp false
set_option linter.unusedSectionVars false
namespace Go.Ds
set_option maxRecDepth 100000
theorem b6A : dP ([(96, 9)].flatMap jZ) = true := by kernel_rfl
theorem b9I : dP ([(40, 8)].flatMap jZ) = true := by kernel_rfl
theorem b9V : dP ([(16, 7)].flatMap jZ) = true := by kernel_rfl
theorem b7F : dP ([(128, 7)].flatMap jZ) = true := by kernel_rfl
theorem c0r : mE [80, 96, 112, 128] = true := by kernel_rfl
theorem c1M : lT ([(16, 16, 0), (20, 16, 4), (24, 16, 7), (24, 24, 0), (32, 20, 8), (32, 24, 5), (32, 28, 2), (32, 32, 0)].flatMap a2j) = true := by kernel_rfl
theorem b8X : lT ([(64, 48, 5), (64, 56, 2), (64, 64, 0), (80, 48, 9), (80, 56, 6), (80, 64, 4), (80, 80, 0)].flatMap a2j) = true := by kernel_rfl
theorem b8o : dP ([(112, 2)].flatMap jZ) = true := by kernel_rfl
end Go.Ds
