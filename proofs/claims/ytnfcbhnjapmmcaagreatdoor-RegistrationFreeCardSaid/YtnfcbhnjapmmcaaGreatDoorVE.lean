/-
  A part of the proof of RegistrationFree.
-/
import Derived.Test.YtnfcbhnjapmmcaaGreatDoorVC
set_option linter.unusedVariables false
set_option linter.unusedSimpArgs false
set_option linter.defProp false
set_option linter.unusedSectionVars false
set_option maxRecDepth 100000
set_option maxHeartbeats 2000000
namespace Go.Ds
theorem c5H:mM ([(32,10)].flatMap sW)=true:=by kernel_rfl
theorem c6e:mM ([(20,8)].flatMap sW)=true:=by kernel_rfl
theorem c5T:mM ([(2,0),(4,0),(6,5)].flatMap sW)=true:=by kernel_rfl
theorem c6g:mM ([(16,7)].flatMap sW)=true:=by kernel_rfl
theorem c4V:vT [20,24,28,32]=true:=by kernel_rfl
theorem c4A:mM ([(256,4)].flatMap sW)=true:=by kernel_rfl
theorem c6n:vH ([(160,96,9),(160,128,4),(192,128,7),(320,256,4)].flatMap a6F)=true:=by kernel_rfl
end Go.Ds
