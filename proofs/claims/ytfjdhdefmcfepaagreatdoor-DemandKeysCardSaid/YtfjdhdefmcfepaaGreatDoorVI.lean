/-
  A part of the proof of DemandKeys.
-/
import Derived.Test.YtfjdhdefmcfepaaGreatDoorVC
set_option linter.unusedVariables false
set_option linter.unusedSimpArgs false
set_option linter.defProp false
set_option linter.unusedSectionVars false
namespace Go.Ds
set_option maxRecDepth 100000
theorem c3x : mA ([(96, 9)].flatMap sS) = true := by kernel_rfl
theorem c6E : mA ([(40, 8)].flatMap sS) = true := by kernel_rfl
theorem c4X : mA ([(16, 7)].flatMap sS) = true := by kernel_rfl
theorem c4h : mA ([(128, 7)].flatMap sS) = true := by kernel_rfl
theorem c5E : uT [80, 96, 112, 128] = true := by kernel_rfl
theorem c4R : vW ([(16, 16, 0), (20, 16, 4), (24, 16, 7), (24, 24, 0), (32, 20, 8), (32, 24, 5), (32, 28, 2), (32, 32, 0)].flatMap a8Q) = true := by kernel_rfl
theorem c4z : vW ([(64, 48, 5), (64, 56, 2), (64, 64, 0), (80, 48, 9), (80, 56, 6), (80, 64, 4), (80, 80, 0)].flatMap a8Q) = true := by kernel_rfl
theorem c2z : mA ([(112, 2)].flatMap sS) = true := by kernel_rfl
end Go.Ds
