/-
  A part of the proof of DemandErrors.
-/
import Derived.Test.YtbdbnfhkdmhobaaGreatDoorVC
set_option linter.unusedVariables false
set_option linter.unusedSimpArgs false
set_option linter.defProp false
set_option linter.unusedSectionVars false
namespace Go.Ds
set_option maxRecDepth 100000
theorem c3u : lL ([(32, 10)].flatMap rJ) = true := by kernel_rfl
theorem c2Y : lL ([(20, 8)].flatMap rJ) = true := by kernel_rfl
theorem c2K : lL ([(2, 0), (4, 0), (6, 5)].flatMap rJ) = true := by kernel_rfl
theorem c3r : lL ([(16, 7)].flatMap rJ) = true := by kernel_rfl
theorem c3K : uC [20, 24, 28, 32] = true := by kernel_rfl
theorem b9P : lL ([(256, 4)].flatMap rJ) = true := by kernel_rfl
theorem c3D : tO ([(160, 96, 9), (160, 128, 4), (192, 128, 7), (320, 256, 4)].flatMap a5N) = true := by kernel_rfl
end Go.Ds
