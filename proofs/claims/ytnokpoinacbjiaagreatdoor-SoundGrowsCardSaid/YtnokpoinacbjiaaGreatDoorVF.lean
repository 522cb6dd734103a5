/-
  A part of the proof of SoundGrows.
-/
import Derived.Test.YtnokpoinacbjiaaGreatDoorVC
set_option linter.unusedVariables false
set_option linter.unusedSimpArgs false
set_option linter.defProp false
set_option linter.unusedSectionVars false
namespace Go.Ds
set_option maxRecDepth 100000
theorem c2i : lS ([(24, 9)].flatMap rF) = true := by kernel_rfl
theorem c2U : lS ([(10, 8)].flatMap rF) = true := by kernel_rfl
theorem c1i : lS ([(80, 8)].flatMap rF) = true := by kernel_rfl
theorem c2P : tE [2, 4, 6, 8] = true := by kernel_rfl
theorem c2z : tE [10, 12, 14, 16] = true := by kernel_rfl
theorem c4a : tE [160, 192, 256, 320] = true := by kernel_rfl
theorem c3c : tW ([(96, 56, 9), (96, 64, 7), (96, 96, 0), (128, 80, 8), (128, 112, 2)].flatMap a7u) = true := by kernel_rfl
theorem c5b : b9h [2, 4, 6, 8, 10, 12, 14, 16, 20, 24, 28, 32, 40, 48, 56, 64, 80, 96, 112, 128, 160, 192, 256, 320] = true := by kernel_rfl
end Go.Ds
