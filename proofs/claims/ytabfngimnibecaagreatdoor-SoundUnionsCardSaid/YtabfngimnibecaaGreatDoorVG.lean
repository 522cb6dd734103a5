/-
  A part of the proof of SoundUnions.
-/
import Derived.Test.YtabfngimnibecaaGreatDoorVC
set_option linter.unusedVariables false
set_option linter.unusedSimpArgs false
set_option linter.defProp false
set_option linter.unusedSectionVars false
namespace Go.Ds
set_option maxRecDepth 100000
theorem b7p : dN ([(48, 9)].flatMap jT) = true := by kernel_rfl
theorem b8Q : dN ([(12, 5), (14, 2)].flatMap jT) = true := by kernel_rfl
theorem c0W : dN ([(2, 0), (4, 0), (6, 5)].flatMap jT) = true := by kernel_rfl
theorem b8U : dN ([(32, 7)].flatMap jT) = true := by kernel_rfl
theorem b9y : mM [20, 24, 28, 32] = true := by kernel_rfl
theorem b8l : dN ([(256, 4)].flatMap jT) = true := by kernel_rfl
theorem b9D : lX ([(160, 96, 9), (160, 128, 4), (192, 128, 7), (320, 256, 4)].flatMap a1x) = true := by kernel_rfl
end Go.Ds
