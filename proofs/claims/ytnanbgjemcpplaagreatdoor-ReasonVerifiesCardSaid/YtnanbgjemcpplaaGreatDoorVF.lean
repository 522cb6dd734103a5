/-
  A part of the proof of ReasonVerifies.
-/
import Derived.Test.YtnanbgjemcpplaaGreatDoorVC
set_option linter.unusedVariables false
set_option linter.unusedSimpArgs false
set_option linter.defProp false
set_option linter.unusedSectionVars false
set_option maxRecDepth 100000
set_option maxHeartbeats 2000000
namespace Go.Ds
theorem c9Y:nV ([(24,9)].flatMap uL)=true:=by kernel_rfl
theorem c7g:nV ([(96,9)].flatMap uL)=true:=by kernel_rfl
theorem d0R:nV ([(8,7)].flatMap uL)=true:=by kernel_rfl
theorem c9g:nV ([(64,7)].flatMap uL)=true:=by kernel_rfl
theorem d1s:wZ [40,48,56,64]=true:=by kernel_rfl
theorem d0B:xD ([(2,2,0),(4,4,0),(8,6,5),(8,8,0),(10,8,4),(12,8,7),(16,10,8),(16,12,5),(16,14,2)].flatMap a9j)=true:=by kernel_rfl
theorem d1N:xD ([(40,24,9),(40,32,4),(40,40,0),(48,32,7),(48,40,3),(48,48,0),(56,32,10)].flatMap a9j)=true:=by kernel_rfl
theorem d1h:nV ([(28,2)].flatMap uL)=true:=by kernel_rfl
end Go.Ds
