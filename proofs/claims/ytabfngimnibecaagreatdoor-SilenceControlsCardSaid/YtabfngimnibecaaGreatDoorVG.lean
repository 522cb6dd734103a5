/-
  A part of the proof of SilenceControls.
-/
import Derived.Test.YtabfngimnibecaaGreatDoorVC
set_option linter.unusedVariables false
set_option linter.unusedSimpArgs false
set_option linter.defProp false
set_option linter.unusedSectionVars false
namespace Go.Ds
set_option maxRecDepth 100000
theorem c0e : lH ([(48, 9)].flatMap qM) = true := by kernel_rfl
theorem c0Z : lH ([(12, 5), (14, 2)].flatMap qM) = true := by kernel_rfl
theorem c1I : lH ([(2, 0), (4, 0), (6, 5)].flatMap qM) = true := by kernel_rfl
theorem c2L : lH ([(32, 7)].flatMap qM) = true := by kernel_rfl
theorem c1a : tJ [20, 24, 28, 32] = true := by kernel_rfl
theorem c0a : lH ([(256, 4)].flatMap qM) = true := by kernel_rfl
theorem c1p : sN ([(160, 96, 9), (160, 128, 4), (192, 128, 7), (320, 256, 4)].flatMap a5o) = true := by kernel_rfl
end Go.Ds
