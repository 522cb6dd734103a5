/-
  A part of the proof of SoundSpeaks.
-/
import Derived.Test.YtkklaffajfjopaaGreatDoorVC
set_option linter.unusedVariables false
set_option linter.unusedSimpArgs false
set_option linter.defProp false
set_option linter.unusedSectionVars false
namespace Go.Ds
set_option maxRecDepth 100000
theorem c3L:mA ([(56,9)].flatMap sF)=true:=by kernel_rfl
theorem c4U:mA ([(12,5),(14,2)].flatMap sF)=true:=by kernel_rfl
theorem c3F:mA ([(80,8)].flatMap sF)=true:=by kernel_rfl
theorem c4P:vJ [2,4,6,8]=true:=by kernel_rfl
theorem c5P:vJ [10,12,14,16]=true:=by kernel_rfl
theorem c6G:vJ [160,192,256,320]=true:=by kernel_rfl
theorem c6w:uT ([(80,64,4),(80,80,0),(96,56,9),(96,64,7),(96,96,0),(128,80,8),(128,112,2)].flatMap a6E)=true:=by kernel_rfl
theorem c8c:c0X [2,4,6,8,10,12,14,16,20,24,28,32,40,48,56,64,80,96,112,128,160,192,256,320]=true:=by kernel_rfl
end Go.Ds
