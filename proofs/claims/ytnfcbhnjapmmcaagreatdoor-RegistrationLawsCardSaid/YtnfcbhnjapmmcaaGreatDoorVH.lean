/-
  A part of the proof of RegistrationLaws.
-/
import Derived.Test.YtnfcbhnjapmmcaaGreatDoorVC
set_option linter.unusedVariables false
set_option linter.unusedSimpArgs false
set_option linter.defProp false
set_option linter.unusedSectionVars false
set_option maxRecDepth 100000
set_option maxHeartbeats 2000000
namespace Go.Ds
theorem c4y:nA ([(56,9)].flatMap tW)=true:=by kernel_rfl
theorem c7u:nA ([(12,5),(14,2)].flatMap tW)=true:=by kernel_rfl
theorem c3J:nA ([(80,8)].flatMap tW)=true:=by kernel_rfl
theorem c7S:vW [2,4,6,8]=true:=by kernel_rfl
theorem c6H:vW [10,12,14,16]=true:=by kernel_rfl
theorem c7y:vW [160,192,256,320]=true:=by kernel_rfl
theorem c8d:wS ([(80,64,4),(80,80,0),(96,56,9),(96,64,7),(96,96,0),(128,80,8),(128,112,2)].flatMap a8j)=true:=by kernel_rfl
theorem c8U:c3d [2,4,6,8,10,12,14,16,20,24,28,32,40,48,56,64,80,96,112,128,160,192,256,320]=true:=by kernel_rfl
end Go.Ds
