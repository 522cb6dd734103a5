/-
  A part of the proof of SilenceStrips.
-/
import Derived.Test.YtabfngimnibecaaGreatDoorVC
set_option linter.unusedVariables false
set_option linter.unusedSimpArgs false
set_option linter.defProp false
set_option linter.unusedSectionVars false
namespace Go.Ds
set_option maxRecDepth 100000
theorem b8b : eD ([(48, 9)].flatMap jX) = true := by kernel_rfl
theorem c1c : eD ([(12, 5), (14, 2)].flatMap jX) = true := by kernel_rfl
theorem c1A : eD ([(2, 0), (4, 0), (6, 5)].flatMap jX) = true := by kernel_rfl
theorem c1i : eD ([(32, 7)].flatMap jX) = true := by kernel_rfl
theorem c0A : mU [20, 24, 28, 32] = true := by kernel_rfl
theorem b7E : eD ([(256, 4)].flatMap jX) = true := by kernel_rfl
theorem c0c : mX ([(160, 96, 9), (160, 128, 4), (192, 128, 7), (320, 256, 4)].flatMap a2B) = true := by kernel_rfl
end Go.Ds
