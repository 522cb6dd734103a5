/-
  A part of the proof of SilenceControls.
-/
import Derived.Test.YtabfngimnibecaaGreatDoorVC
set_option linter.unusedVariables false
set_option linter.unusedSimpArgs false
set_option linter.defProp false
set_option linter.unusedSectionVars false
namespace Go.Ds
set_option maxRecDepth 100000
theorem b8U : lH ([(96, 9)].flatMap qM) = true := by kernel_rfl
theorem c0z : lH ([(40, 8)].flatMap qM) = true := by kernel_rfl
theorem c2G : lH ([(16, 7)].flatMap qM) = true := by kernel_rfl
theorem b9D : lH ([(128, 7)].flatMap qM) = true := by kernel_rfl
theorem c2I : tJ [80, 96, 112, 128] = true := by kernel_rfl
theorem c2H : sN ([(16, 16, 0), (20, 16, 4), (24, 16, 7), (24, 24, 0), (32, 20, 8), (32, 24, 5), (32, 28, 2), (32, 32, 0)].flatMap a5o) = true := by kernel_rfl
theorem c2X : sN ([(64, 48, 5), (64, 56, 2), (64, 64, 0), (80, 48, 9), (80, 56, 6), (80, 64, 4), (80, 80, 0)].flatMap a5o) = true := by kernel_rfl
theorem b9U : lH ([(112, 2)].flatMap qM) = true := by kernel_rfl
end Go.Ds
