/-
  A part of the proof of SoundGrows.
-/
import Derived.Test.YtnokpoinacbjiaaGreatDoorVC
set_option linter.unusedVariables false
set_option linter.unusedSimpArgs false
set_option linter.defProp false
set_option linter.unusedSectionVars false
namespace Go.Ds
set_option maxRecDepth 100000
theorem c0Y : lS ([(48, 9)].flatMap rF) = true := by kernel_rfl
theorem c2s : lS ([(12, 5), (14, 2)].flatMap rF) = true := by kernel_rfl
theorem c1S : lS ([(2, 0), (4, 0), (6, 5)].flatMap rF) = true := by kernel_rfl
theorem c1G : lS ([(32, 7)].flatMap rF) = true := by kernel_rfl
theorem c2V : tE [20, 24, 28, 32] = true := by kernel_rfl
theorem c0O : lS ([(256, 4)].flatMap rF) = true := by kernel_rfl
theorem c3n : tW ([(160, 96, 9), (160, 128, 4), (192, 128, 7), (320, 256, 4)].flatMap a7u) = true := by kernel_rfl
end Go.Ds
