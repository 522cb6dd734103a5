/-
  A part of the proof of RegistrationSounds.
-/
import Derived.Test.YtfpmpjecbdibnaaGreatDoorVC
set_option linter.unusedVariables false
set_option linter.unusedSimpArgs false
set_option linter.defProp false
set_option linter.unusedSectionVars false
set_option maxRecDepth 100000
set_option maxHeartbeats 2000000
namespace Go.Ds
theorem c2W:mY ([(56,9)].flatMap tB)=true:=by kernel_rfl
theorem c5v:mY ([(12,5),(14,2)].flatMap tB)=true:=by kernel_rfl
theorem c4H:mY ([(80,8)].flatMap tB)=true:=by kernel_rfl
theorem c5P:wG [2,4,6,8]=true:=by kernel_rfl
theorem c5T:wG [10,12,14,16]=true:=by kernel_rfl
theorem c6Z:wG [160,192,256,320]=true:=by kernel_rfl
theorem c6d:vI ([(80,64,4),(80,80,0),(96,56,9),(96,64,7),(96,96,0),(128,80,8),(128,112,2)].flatMap a8y)=true:=by kernel_rfl
theorem c8z:c1J [2,4,6,8,10,12,14,16,20,24,28,32,40,48,56,64,80,96,112,128,160,192,256,320]=true:=by kernel_rfl
end Go.Ds
