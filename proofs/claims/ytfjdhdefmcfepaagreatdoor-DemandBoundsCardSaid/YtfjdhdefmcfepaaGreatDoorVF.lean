/-
  A part of the proof of DemandBounds.
-/
import Derived.Test.YtfjdhdefmcfepaaGreatDoorVC
set_option linter.unusedVariables false
set_option linter.unusedSimpArgs false
set_option linter.defProp false
set_option linter.unusedSectionVars false
namespace Go.Ds
set_option maxRecDepth 100000
theorem c3v : lT ([(24, 9)].flatMap sA) = true := by kernel_rfl
theorem c5a : lT ([(10, 8)].flatMap sA) = true := by kernel_rfl
theorem c2p : lT ([(80, 8)].flatMap sA) = true := by kernel_rfl
theorem c4R : uJ [2, 4, 6, 8] = true := by kernel_rfl
theorem c3Q : uJ [10, 12, 14, 16] = true := by kernel_rfl
theorem c3G : uJ [160, 192, 256, 320] = true := by kernel_rfl
theorem c4P : tT ([(96, 56, 9), (96, 64, 7), (96, 96, 0), (128, 80, 8), (128, 112, 2)].flatMap a5T) = true := by kernel_rfl
theorem c5O : c0F [2, 4, 6, 8, 10, 12, 14, 16, 20, 24, 28, 32, 40, 48, 56, 64, 80, 96, 112, 128, 160, 192, 256, 320] = true := by kernel_rfl
end Go.Ds
