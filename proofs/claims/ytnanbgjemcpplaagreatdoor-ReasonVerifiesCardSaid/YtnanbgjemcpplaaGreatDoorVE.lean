/-
  A part of the proof of ReasonVerifies.
-/
import Derived.Test.YtnanbgjemcpplaaGreatDoorVC
set_option linter.unusedVariables false
set_option linter.unusedSimpArgs false
set_option linter.defProp false
set_option linter.unusedSectionVars false
set_option maxRecDepth 100000
set_option maxHeartbeats 2000000
namespace Go.Ds
theorem d0l:nV ([(32,10)].flatMap uL)=true:=by kernel_rfl
theorem d1d:nV ([(20,8)].flatMap uL)=true:=by kernel_rfl
theorem d0d:nV ([(2,0),(4,0),(6,5)].flatMap uL)=true:=by kernel_rfl
theorem d0U:nV ([(16,7)].flatMap uL)=true:=by kernel_rfl
theorem c9T:wZ [20,24,28,32]=true:=by kernel_rfl
theorem c7Q:nV ([(256,4)].flatMap uL)=true:=by kernel_rfl
theorem c9U:xD ([(160,96,9),(160,128,4),(192,128,7),(320,256,4)].flatMap a9j)=true:=by kernel_rfl
end Go.Ds
