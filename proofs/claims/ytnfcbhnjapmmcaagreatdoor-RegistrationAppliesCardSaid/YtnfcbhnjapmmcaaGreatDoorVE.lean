/-
  A part of the proof of RegistrationApplies.
-/
import Derived.Test.YtnfcbhnjapmmcaaGreatDoorVC
set_option linter.unusedVariables false
set_option linter.unusedSimpArgs false
set_option linter.defProp false
set_option linter.unusedSectionVars false
set_option maxRecDepth 100000
set_option maxHeartbeats 2000000
namespace Go.Ds
theorem c5g:mO ([(32,10)].flatMap sV)=true:=by kernel_rfl
theorem c4T:mO ([(20,8)].flatMap sV)=true:=by kernel_rfl
theorem c4U:mO ([(2,0),(4,0),(6,5)].flatMap sV)=true:=by kernel_rfl
theorem c6o:mO ([(16,7)].flatMap sV)=true:=by kernel_rfl
theorem c6R:vU [20,24,28,32]=true:=by kernel_rfl
theorem c4o:mO ([(256,4)].flatMap sV)=true:=by kernel_rfl
theorem c6Z:vM ([(160,96,9),(160,128,4),(192,128,7),(320,256,4)].flatMap a7m)=true:=by kernel_rfl
end Go.Ds
