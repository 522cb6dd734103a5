/-
  A part of the proof of SoundContacts.
-/
import Derived.Test.YtnokpoinacbjiaaGreatDoorVC
set_option linter.unusedVariables false
set_option linter.unusedSimpArgs false
set_option linter.defProp false
set_option linter.unusedSectionVars false
namespace Go.Ds
set_option maxRecDepth 100000
theorem b8Z : dQ ([(24, 9)].flatMap kB) = true := by kernel_rfl
theorem b9e : dQ ([(10, 8)].flatMap kB) = true := by kernel_rfl
theorem b6K : dQ ([(80, 8)].flatMap kB) = true := by kernel_rfl
theorem b9q : mT [2, 4, 6, 8] = true := by kernel_rfl
theorem c2g : mT [10, 12, 14, 16] = true := by kernel_rfl
theorem b9f : mT [160, 192, 256, 320] = true := by kernel_rfl
theorem b9L : lY ([(96, 56, 9), (96, 64, 7), (96, 96, 0), (128, 80, 8), (128, 112, 2)].flatMap a2k) = true := by kernel_rfl
theorem c4o : b6a [2, 4, 6, 8, 10, 12, 14, 16, 20, 24, 28, 32, 40, 48, 56, 64, 80, 96, 112, 128, 160, 192, 256, 320] = true := by kernel_rfl
end Go.Ds
