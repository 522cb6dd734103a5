/-
  A part of the proof of SoundUnions.
-/
import Derived.Test.YtabfngimnibecaaGreatDoorVC
set_option linter.unusedVariables false
set_option linter.unusedSimpArgs false
set_option linter.defProp false
set_option linter.unusedSectionVars false
namespace Go.Ds
set_option maxRecDepth 100000
theorem b6R : dN ([(56, 9)].flatMap jT) = true := by kernel_rfl
theorem c0z : dN ([(20, 8)].flatMap jT) = true := by kernel_rfl
theorem c2j : dN ([(8, 7)].flatMap jT) = true := by kernel_rfl
theorem b6r : dN ([(64, 7)].flatMap jT) = true := by kernel_rfl
theorem c1o : mM [40, 48, 56, 64] = true := by kernel_rfl
theorem c0Y : lX ([(2, 2, 0), (4, 4, 0), (8, 6, 5), (8, 8, 0), (10, 8, 4), (12, 8, 7), (16, 10, 8), (16, 12, 5), (16, 14, 2)].flatMap a1x) = true := by kernel_rfl
theorem c0f : lX ([(40, 24, 9), (40, 32, 4), (40, 40, 0), (48, 32, 7), (48, 40, 3), (48, 48, 0), (64, 40, 8)].flatMap a1x) = true := by kernel_rfl
theorem c1u : dN ([(28, 2)].flatMap jT) = true := by kernel_rfl
end Go.Ds
