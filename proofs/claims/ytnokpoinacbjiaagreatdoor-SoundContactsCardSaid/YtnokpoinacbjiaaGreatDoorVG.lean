/-
  A part of the proof of SoundContacts.
-/
import Derived.Test.YtnokpoinacbjiaaGreatDoorVC
set_option linter.unusedVariables false
set_option linter.unusedSimpArgs false
set_option linter.defProp false
set_option linter.unusedSectionVars false
namespace Go.Ds
set_option maxRecDepth 100000
theorem b6F : dQ ([(48, 9)].flatMap kB) = true := by kernel_rfl
theorem c0z : dQ ([(12, 5), (14, 2)].flatMap kB) = true := by kernel_rfl
theorem b8U : dQ ([(2, 0), (4, 0), (6, 5)].flatMap kB) = true := by kernel_rfl
theorem c1a : dQ ([(32, 7)].flatMap kB) = true := by kernel_rfl
theorem b9S : mT [20, 24, 28, 32] = true := by kernel_rfl
theorem b6P : dQ ([(256, 4)].flatMap kB) = true := by kernel_rfl
theorem b9U : lY ([(160, 96, 9), (160, 128, 4), (192, 128, 7), (320, 256, 4)].flatMap a2k) = true := by kernel_rfl
end Go.Ds
