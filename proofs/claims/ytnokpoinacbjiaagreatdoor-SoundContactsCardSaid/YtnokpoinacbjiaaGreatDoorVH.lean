/-
  A part of the proof of SoundContacts.
-/
import Derived.Test.YtnokpoinacbjiaaGreatDoorVC
set_option linter.unusedVariables false
set_option linter.unusedSimpArgs false
set_option linter.defProp false
set_option linter.unusedSectionVars false
namespace Go.Ds
set_option maxRecDepth 100000
theorem c0Q : lL ([(96, 9)].flatMap qR) = true := by kernel_rfl
theorem c3A : lL ([(40, 8)].flatMap qR) = true := by kernel_rfl
theorem c3q : lL ([(16, 7)].flatMap qR) = true := by kernel_rfl
theorem c0A : lL ([(128, 7)].flatMap qR) = true := by kernel_rfl
theorem c1A : tM [80, 96, 112, 128] = true := by kernel_rfl
theorem c3y : tF ([(16, 16, 0), (20, 16, 4), (24, 16, 7), (24, 24, 0), (32, 20, 8), (32, 24, 5), (32, 28, 2), (32, 32, 0)].flatMap a6o) = true := by kernel_rfl
theorem c2v : tF ([(64, 48, 5), (64, 56, 2), (64, 64, 0), (80, 48, 9), (80, 56, 6), (80, 64, 4), (80, 80, 0)].flatMap a6o) = true := by kernel_rfl
theorem c0y : lL ([(112, 2)].flatMap qR) = true := by kernel_rfl
end Go.Ds
