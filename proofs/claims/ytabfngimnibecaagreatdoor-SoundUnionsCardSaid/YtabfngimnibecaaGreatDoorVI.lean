/-
  A part of the proof of SoundUnions.
-/
import Derived.Test.YtabfngimnibecaaGreatDoorVC
set_option linter.unusedVariables false
set_option linter.unusedSimpArgs false
set_option linter.defProp false
set_option linter.unusedSectionVars false
namespace Go.Ds
set_option maxRecDepth 100000
theorem b7b : dN ([(96, 9)].flatMap jT) = true := by kernel_rfl
theorem c0i : dN ([(40, 8)].flatMap jT) = true := by kernel_rfl
theorem c0K : dN ([(16, 7)].flatMap jT) = true := by kernel_rfl
theorem b7d : dN ([(128, 7)].flatMap jT) = true := by kernel_rfl
theorem b9a : mM [80, 96, 112, 128] = true := by kernel_rfl
theorem b9v : lX ([(16, 16, 0), (20, 16, 4), (24, 16, 7), (24, 24, 0), (32, 20, 8), (32, 24, 5), (32, 28, 2), (32, 32, 0)].flatMap a1x) = true := by kernel_rfl
theorem c1T : lX ([(64, 48, 5), (64, 56, 2), (64, 64, 0), (80, 48, 9), (80, 56, 6), (80, 64, 4), (80, 80, 0)].flatMap a1x) = true := by kernel_rfl
theorem b7j : dN ([(112, 2)].flatMap jT) = true := by kernel_rfl
end Go.Ds
