/-
  A part of the proof of SoundUnions.
-/
import Derived.Test.YtabfngimnibecaaGreatDoorVC
set_option linter.unusedVariables false
set_option linter.unusedSimpArgs false
set_option linter.defProp false
set_option linter.unusedSectionVars false
namespace Go.Ds
set_option maxRecDepth 100000
theorem b9m : dN ([(24, 9)].flatMap jT) = true := by kernel_rfl
theorem b9f : dN ([(10, 8)].flatMap jT) = true := by kernel_rfl
theorem b7i : dN ([(80, 8)].flatMap jT) = true := by kernel_rfl
theorem b9e : mM [2, 4, 6, 8] = true := by kernel_rfl
theorem b8P : mM [10, 12, 14, 16] = true := by kernel_rfl
theorem c1j : mM [160, 192, 256, 320] = true := by kernel_rfl
theorem c1s : lX ([(96, 56, 9), (96, 64, 7), (96, 96, 0), (128, 80, 8), (128, 112, 2)].flatMap a1x) = true := by kernel_rfl
theorem c2Y : b5A [2, 4, 6, 8, 10, 12, 14, 16, 20, 24, 28, 32, 40, 48, 56, 64, 80, 96, 112, 128, 160, 192, 256, 320] = true := by kernel_rfl
end Go.Ds
