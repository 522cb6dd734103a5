/-
  A part of the proof of SoundContacts.
-/
import Derived.Test.YtnokpoinacbjiaaGreatDoorVC
set_option linter.unusedVariables false
set_option linter.unusedSimpArgs false
set_option linter.defProp false
set_option linter.unusedSectionVars false
namespace Go.Ds
set_option maxRecDepth 100000
theorem b6z : dQ ([(56, 9)].flatMap kB) = true := by kernel_rfl
theorem b9P : dQ ([(20, 8)].flatMap kB) = true := by kernel_rfl
theorem c0c : dQ ([(8, 7)].flatMap kB) = true := by kernel_rfl
theorem b6B : dQ ([(64, 7)].flatMap kB) = true := by kernel_rfl
theorem c0s : mT [40, 48, 56, 64] = true := by kernel_rfl
theorem c0K : lY ([(2, 2, 0), (4, 4, 0), (8, 6, 5), (8, 8, 0), (10, 8, 4), (12, 8, 7), (16, 10, 8), (16, 12, 5), (16, 14, 2)].flatMap a2k) = true := by kernel_rfl
theorem c1M : lY ([(40, 24, 9), (40, 32, 4), (40, 40, 0), (48, 32, 7), (48, 40, 3), (48, 48, 0), (64, 40, 8)].flatMap a2k) = true := by kernel_rfl
theorem b9Z : dQ ([(28, 2)].flatMap kB) = true := by kernel_rfl
end Go.Ds
