/-
  A part of the proof of SilenceKeys.
-/
import Derived.Test.YtkklaffajfjopaaGreatDoorVC
set_option linter.unusedVariables false
set_option linter.unusedSimpArgs false
set_option linter.defProp false
set_option linter.unusedSectionVars false
namespace Go.Ds
set_option maxRecDepth 100000
theorem c4r:mA ([(24,9)].flatMap sD)=true:=by kernel_rfl
theorem c1O:mA ([(96,9)].flatMap sD)=true:=by kernel_rfl
theorem c3U:mA ([(8,7)].flatMap sD)=true:=by kernel_rfl
theorem c1n:mA ([(64,7)].flatMap sD)=true:=by kernel_rfl
theorem c3c:uH [40,48,56,64]=true:=by kernel_rfl
theorem c3I:uL ([(2,2,0),(4,4,0),(8,6,5),(8,8,0),(10,8,4),(12,8,7),(16,10,8),(16,12,5),(16,14,2)].flatMap a6E)=true:=by kernel_rfl
theorem c3d:uL ([(40,24,9),(40,32,4),(40,40,0),(48,32,7),(48,40,3),(48,48,0),(56,32,10)].flatMap a6E)=true:=by kernel_rfl
theorem c4B:mA ([(28,2)].flatMap sD)=true:=by kernel_rfl
end Go.Ds
