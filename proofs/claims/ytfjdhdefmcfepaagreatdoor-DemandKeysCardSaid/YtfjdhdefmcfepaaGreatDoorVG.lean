/-
  A part of the proof of DemandKeys.
-/
import Derived.Test.YtfjdhdefmcfepaaGreatDoorVC
set_option linter.unusedVariables false
set_option linter.unusedSimpArgs false
set_option linter.defProp false
set_option linter.unusedSectionVars false
namespace Go.Ds
set_option maxRecDepth 100000
theorem c3F : mA ([(48, 9)].flatMap sS) = true := by kernel_rfl
theorem c5O : mA ([(12, 5), (14, 2)].flatMap sS) = true := by kernel_rfl
theorem c5w : mA ([(2, 0), (4, 0), (6, 5)].flatMap sS) = true := by kernel_rfl
theorem c5S : mA ([(32, 7)].flatMap sS) = true := by kernel_rfl
theorem c6c : uT [20, 24, 28, 32] = true := by kernel_rfl
theorem c3P : mA ([(256, 4)].flatMap sS) = true := by kernel_rfl
theorem c5g : vW ([(160, 96, 9), (160, 128, 4), (192, 128, 7), (320, 256, 4)].flatMap a8Q) = true := by kernel_rfl
end Go.Ds
