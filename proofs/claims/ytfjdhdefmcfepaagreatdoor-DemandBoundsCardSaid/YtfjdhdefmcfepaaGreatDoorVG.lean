/-
  A part of the proof of DemandBounds.
-/
import Derived.Test.YtfjdhdefmcfepaaGreatDoorVC
set_option linter.unusedVariables false
set_option linter.unusedSimpArgs false
set_option linter.defProp false
set_option linter.unusedSectionVars false
namespace Go.Ds
set_option maxRecDepth 100000
theorem c1v : lT ([(48, 9)].flatMap sA) = true := by kernel_rfl
theorem c5h : lT ([(12, 5), (14, 2)].flatMap sA) = true := by kernel_rfl
theorem c4O : lT ([(2, 0), (4, 0), (6, 5)].flatMap sA) = true := by kernel_rfl
theorem c5e : lT ([(32, 7)].flatMap sA) = true := by kernel_rfl
theorem c4M : uJ [20, 24, 28, 32] = true := by kernel_rfl
theorem c2I : lT ([(256, 4)].flatMap sA) = true := by kernel_rfl
theorem c3P : tT ([(160, 96, 9), (160, 128, 4), (192, 128, 7), (320, 256, 4)].flatMap a5T) = true := by kernel_rfl
end Go.Ds
