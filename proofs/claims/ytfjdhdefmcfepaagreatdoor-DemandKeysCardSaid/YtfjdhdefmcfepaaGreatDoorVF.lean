/-
  A part of the proof of DemandKeys.
-/
import Derived.Test.YtfjdhdefmcfepaaGreatDoorVC
set_option linter.unusedVariables false
set_option linter.unusedSimpArgs false
set_option linter.defProp false
set_option linter.unusedSectionVars false
namespace Go.Ds
set_option maxRecDepth 100000
theorem c5D : mA ([(24, 9)].flatMap sS) = true := by kernel_rfl
theorem c5l : mA ([(10, 8)].flatMap sS) = true := by kernel_rfl
theorem c2A : mA ([(80, 8)].flatMap sS) = true := by kernel_rfl
theorem c6R : uT [2, 4, 6, 8] = true := by kernel_rfl
theorem c4J : uT [10, 12, 14, 16] = true := by kernel_rfl
theorem c4C : uT [160, 192, 256, 320] = true := by kernel_rfl
theorem c4q : vW ([(96, 56, 9), (96, 64, 7), (96, 96, 0), (128, 80, 8), (128, 112, 2)].flatMap a8Q) = true := by kernel_rfl
theorem c7w : c1r [2, 4, 6, 8, 10, 12, 14, 16, 20, 24, 28, 32, 40, 48, 56, 64, 80, 96, 112, 128, 160, 192, 256, 320] = true := by kernel_rfl
end Go.Ds
