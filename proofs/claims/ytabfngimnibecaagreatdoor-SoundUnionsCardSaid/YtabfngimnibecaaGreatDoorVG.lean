/-
  A part of the proof of SoundUnions.
-/
import Derived.Test.YtabfngimnibecaaGreatDoorVC
set_option linter.unusedVariables false
set_option linter.unusedSimpArgs false
set_option linter.defProp false
set_option linter.unusedSectionVars false
namespace Go.Ds
set_option maxRecDepth 100000
theorem b8k : dP ([(48, 9)].flatMap jZ) = true := by kernel_rfl
theorem c2q : dP ([(12, 5), (14, 2)].flatMap jZ) = true := by kernel_rfl
theorem b8P : dP ([(2, 0), (4, 0), (6, 5)].flatMap jZ) = true := by kernel_rfl
theorem c2o : dP ([(32, 7)].flatMap jZ) = true := by kernel_rfl
theorem c0x : mE [20, 24, 28, 32] = true := by kernel_rfl
theorem b8s : dP ([(256, 4)].flatMap jZ) = true := by kernel_rfl
theorem c0X : lT ([(160, 96, 9), (160, 128, 4), (192, 128, 7), (320, 256, 4)].flatMap a2j) = true := by kernel_rfl
end Go.Ds
