/-
  A part of the proof of SoundSpeaks.
-/
import Derived.Test.YtkklaffajfjopaaGreatDoorVC
set_option linter.unusedVariables false
set_option linter.unusedSimpArgs false
set_option linter.defProp false
set_option linter.unusedSectionVars false
namespace Go.Ds
set_option maxRecDepth 100000
theorem c4k:mA ([(32,10)].flatMap sF)=true:=by kernel_rfl
theorem c6u:mA ([(20,8)].flatMap sF)=true:=by kernel_rfl
theorem c4H:mA ([(2,0),(4,0),(6,5)].flatMap sF)=true:=by kernel_rfl
theorem c4E:mA ([(16,7)].flatMap sF)=true:=by kernel_rfl
theorem c4t:vJ [20,24,28,32]=true:=by kernel_rfl
theorem c3G:mA ([(256,4)].flatMap sF)=true:=by kernel_rfl
theorem c5h:uT ([(160,96,9),(160,128,4),(192,128,7),(320,256,4)].flatMap a6E)=true:=by kernel_rfl
end Go.Ds
