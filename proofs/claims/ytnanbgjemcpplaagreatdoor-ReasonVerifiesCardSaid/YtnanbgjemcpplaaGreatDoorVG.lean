/-
  A part of the proof of ReasonVerifies.
-/
import Derived.Test.YtnanbgjemcpplaaGreatDoorVC
set_option linter.unusedVariables false
set_option linter.unusedSimpArgs false
set_option linter.defProp false
set_option linter.unusedSectionVars false
set_option maxRecDepth 100000
set_option maxHeartbeats 2000000
namespace Go.Ds
theorem c8g:nV ([(48,9)].flatMap uL)=true:=by kernel_rfl
theorem d0H:nV ([(10,8)].flatMap uL)=true:=by kernel_rfl
theorem d0F:nV ([(40,8)].flatMap uL)=true:=by kernel_rfl
theorem c7s:nV ([(128,7)].flatMap uL)=true:=by kernel_rfl
theorem d1k:wZ [80,96,112,128]=true:=by kernel_rfl
theorem d0K:xD ([(16,16,0),(20,16,4),(24,16,7),(24,24,0),(32,20,8),(32,24,5),(32,28,2),(32,32,0)].flatMap a9j)=true:=by kernel_rfl
theorem d0s:xD ([(64,40,8),(64,48,5),(64,56,2),(64,64,0),(80,48,9),(80,56,6)].flatMap a9j)=true:=by kernel_rfl
theorem c8l:nV ([(112,2)].flatMap uL)=true:=by kernel_rfl
end Go.Ds
