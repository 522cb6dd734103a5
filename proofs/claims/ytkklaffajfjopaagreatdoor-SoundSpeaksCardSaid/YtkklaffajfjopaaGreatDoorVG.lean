/-
  A part of the proof of SoundSpeaks.
-/
import Derived.Test.YtkklaffajfjopaaGreatDoorVC
set_option linter.unusedVariables false
set_option linter.unusedSimpArgs false
set_option linter.defProp false
set_option linter.unusedSectionVars false
namespace Go.Ds
set_option maxRecDepth 100000
theorem c1Y:mA ([(48,9)].flatMap sF)=true:=by kernel_rfl
theorem c4B:mA ([(10,8)].flatMap sF)=true:=by kernel_rfl
theorem c6L:mA ([(40,8)].flatMap sF)=true:=by kernel_rfl
theorem c3u:mA ([(128,7)].flatMap sF)=true:=by kernel_rfl
theorem c4L:vJ [80,96,112,128]=true:=by kernel_rfl
theorem c5E:uT ([(16,16,0),(20,16,4),(24,16,7),(24,24,0),(32,20,8),(32,24,5),(32,28,2),(32,32,0)].flatMap a6E)=true:=by kernel_rfl
theorem c6b:uT ([(64,40,8),(64,48,5),(64,56,2),(64,64,0),(80,48,9),(80,56,6)].flatMap a6E)=true:=by kernel_rfl
theorem c2V:mA ([(112,2)].flatMap sF)=true:=by kernel_rfl
end Go.Ds
