/-
  A part of the proof of RegistrationChecks.
-/
import Derived.Test.YtnfcbhnjapmmcaaGreatDoorVC
set_option linter.unusedVariables false
set_option linter.unusedSimpArgs false
set_option linter.defProp false
set_option linter.unusedSectionVars false
set_option maxRecDepth 100000
set_option maxHeartbeats 2000000
namespace Go.Ds
theorem c6R:mU ([(32,10)].flatMap tJ)=true:=by kernel_rfl
theorem c5u:mU ([(20,8)].flatMap tJ)=true:=by kernel_rfl
theorem c5H:mU ([(2,0),(4,0),(6,5)].flatMap tJ)=true:=by kernel_rfl
theorem c5P:mU ([(16,7)].flatMap tJ)=true:=by kernel_rfl
theorem c6f:vY [20,24,28,32]=true:=by kernel_rfl
theorem c4U:mU ([(256,4)].flatMap tJ)=true:=by kernel_rfl
theorem c6E:vZ ([(160,96,9),(160,128,4),(192,128,7),(320,256,4)].flatMap a6T)=true:=by kernel_rfl
end Go.Ds
