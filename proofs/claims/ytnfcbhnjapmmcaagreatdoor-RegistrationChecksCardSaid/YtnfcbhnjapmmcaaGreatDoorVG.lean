/-
  A part of the proof of RegistrationChecks.
-/
import Derived.Test.YtnfcbhnjapmmcaaGreatDoorVC
set_option linter.unusedVariables false
set_option linter.unusedSimpArgs false
set_option linter.defProp false
set_option linter.unusedSectionVars false
set_option maxRecDepth 100000
set_option maxHeartbeats 2000000
namespace Go.Ds
theorem c4W:mU ([(48,9)].flatMap tJ)=true:=by kernel_rfl
theorem c5t:mU ([(10,8)].flatMap tJ)=true:=by kernel_rfl
theorem c6D:mU ([(40,8)].flatMap tJ)=true:=by kernel_rfl
theorem c2U:mU ([(128,7)].flatMap tJ)=true:=by kernel_rfl
theorem c7p:vY [80,96,112,128]=true:=by kernel_rfl
theorem c5q:vZ ([(16,16,0),(20,16,4),(24,16,7),(24,24,0),(32,20,8),(32,24,5),(32,28,2),(32,32,0)].flatMap a6T)=true:=by kernel_rfl
theorem c6z:vZ ([(64,40,8),(64,48,5),(64,56,2),(64,64,0),(80,48,9),(80,56,6)].flatMap a6T)=true:=by kernel_rfl
theorem c4b:mU ([(112,2)].flatMap tJ)=true:=by kernel_rfl
end Go.Ds
