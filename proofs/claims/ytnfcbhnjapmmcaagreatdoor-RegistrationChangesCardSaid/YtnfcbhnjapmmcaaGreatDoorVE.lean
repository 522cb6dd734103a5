/-
  A part of the proof of RegistrationChanges.
-/
import Derived.Test.YtnfcbhnjapmmcaaGreatDoorVC
set_option linter.unusedVariables false
set_option linter.unusedSimpArgs false
set_option linter.defProp false
set_option linter.unusedSectionVars false
set_option maxRecDepth 100000
set_option maxHeartbeats 2000000
namespace Go.Ds
theorem c6Y:mZ ([(32,10)].flatMap tM)=true:=by kernel_rfl
theorem c7m:mZ ([(20,8)].flatMap tM)=true:=by kernel_rfl
theorem c5v:mZ ([(2,0),(4,0),(6,5)].flatMap tM)=true:=by kernel_rfl
theorem c5F:mZ ([(16,7)].flatMap tM)=true:=by kernel_rfl
theorem c7c:wH [20,24,28,32]=true:=by kernel_rfl
theorem c4d:mZ ([(256,4)].flatMap tM)=true:=by kernel_rfl
theorem c7o:vR ([(160,96,9),(160,128,4),(192,128,7),(320,256,4)].flatMap a7a)=true:=by kernel_rfl
end Go.Ds
