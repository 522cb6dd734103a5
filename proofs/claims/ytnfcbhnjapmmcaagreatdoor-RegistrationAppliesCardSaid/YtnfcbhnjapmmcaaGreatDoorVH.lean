/-
  A part of the proof of RegistrationApplies.
-/
import Derived.Test.YtnfcbhnjapmmcaaGreatDoorVC
set_option linter.unusedVariables false
set_option linter.unusedSimpArgs false
set_option linter.defProp false
set_option linter.unusedSectionVars false
set_option maxRecDepth 100000
set_option maxHeartbeats 2000000
namespace Go.Ds
theorem c3H:mO ([(56,9)].flatMap sV)=true:=by kernel_rfl
theorem c5F:mO ([(12,5),(14,2)].flatMap sV)=true:=by kernel_rfl
theorem c4b:mO ([(80,8)].flatMap sV)=true:=by kernel_rfl
theorem c5X:vU [2,4,6,8]=true:=by kernel_rfl
theorem c6m:vU [10,12,14,16]=true:=by kernel_rfl
theorem c5f:vU [160,192,256,320]=true:=by kernel_rfl
theorem c5l:vM ([(80,64,4),(80,80,0),(96,56,9),(96,64,7),(96,96,0),(128,80,8),(128,112,2)].flatMap a7m)=true:=by kernel_rfl
theorem c7A:c1T [2,4,6,8,10,12,14,16,20,24,28,32,40,48,56,64,80,96,112,128,160,192,256,320]=true:=by kernel_rfl
end Go.Ds
