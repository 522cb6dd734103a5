/-
  A part of the proof of SoundSpeaks.
-/
import Derived.Test.YtkklaffajfjopaaGreatDoorVC
set_option linter.unusedVariables false
set_option linter.unusedSimpArgs false
set_option linter.defProp false
set_option linter.unusedSectionVars false
namespace Go.Ds
set_option maxRecDepth 100000
theorem c6C:mA ([(24,9)].flatMap sF)=true:=by kernel_rfl
theorem c3T:mA ([(96,9)].flatMap sF)=true:=by kernel_rfl
theorem c5z:mA ([(8,7)].flatMap sF)=true:=by kernel_rfl
theorem c2i:mA ([(64,7)].flatMap sF)=true:=by kernel_rfl
theorem c6F:vJ [40,48,56,64]=true:=by kernel_rfl
theorem c5I:uT ([(2,2,0),(4,4,0),(8,6,5),(8,8,0),(10,8,4),(12,8,7),(16,10,8),(16,12,5),(16,14,2)].flatMap a6E)=true:=by kernel_rfl
theorem c5i:uT ([(40,24,9),(40,32,4),(40,40,0),(48,32,7),(48,40,3),(48,48,0),(56,32,10)].flatMap a6E)=true:=by kernel_rfl
theorem c6m:mA ([(28,2)].flatMap sF)=true:=by kernel_rfl
end Go.Ds
