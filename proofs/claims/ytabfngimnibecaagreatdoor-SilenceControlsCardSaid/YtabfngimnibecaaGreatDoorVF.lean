/-
  A part of the proof of SilenceControls.
-/
import Derived.Test.YtabfngimnibecaaGreatDoorVC
set_option linter.unusedVariables false
set_option linter.unusedSimpArgs false
set_option linter.defProp false
set_option linter.unusedSectionVars false
namespace Go.Ds
set_option maxRecDepth 100000
theorem c1v : lH ([(24, 9)].flatMap qM) = true := by kernel_rfl
theorem c1r : lH ([(10, 8)].flatMap qM) = true := by kernel_rfl
theorem b9p : lH ([(80, 8)].flatMap qM) = true := by kernel_rfl
theorem c0G : tJ [2, 4, 6, 8] = true := by kernel_rfl
theorem c2r : tJ [10, 12, 14, 16] = true := by kernel_rfl
theorem c2a : tJ [160, 192, 256, 320] = true := by kernel_rfl
theorem c1U : sN ([(96, 56, 9), (96, 64, 7), (96, 96, 0), (128, 80, 8), (128, 112, 2)].flatMap a5o) = true := by kernel_rfl
theorem c3k : b8f [2, 4, 6, 8, 10, 12, 14, 16, 20, 24, 28, 32, 40, 48, 56, 64, 80, 96, 112, 128, 160, 192, 256, 320] = true := by kernel_rfl
end Go.Ds
