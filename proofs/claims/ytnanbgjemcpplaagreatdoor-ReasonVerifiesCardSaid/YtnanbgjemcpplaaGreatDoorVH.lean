/-
  A part of the proof of ReasonVerifies.
-/
import Derived.Test.YtnanbgjemcpplaaGreatDoorVC
set_option linter.unusedVariables false
set_option linter.unusedSimpArgs false
set_option linter.defProp false
set_option linter.unusedSectionVars false
set_option maxRecDepth 100000
set_option maxHeartbeats 2000000
namespace Go.Ds
theorem c7J:nV ([(56,9)].flatMap uL)=true:=by kernel_rfl
theorem d0r:nV ([(12,5),(14,2)].flatMap uL)=true:=by kernel_rfl
theorem c8t:nV ([(80,8)].flatMap uL)=true:=by kernel_rfl
theorem d1Q:wZ [2,4,6,8]=true:=by kernel_rfl
theorem d0g:wZ [10,12,14,16]=true:=by kernel_rfl
theorem d1t:wZ [160,192,256,320]=true:=by kernel_rfl
theorem c9K:xD ([(80,64,4),(80,80,0),(96,56,9),(96,64,7),(96,96,0),(128,80,8),(128,112,2)].flatMap a9j)=true:=by kernel_rfl
theorem d2G:c6m [2,4,6,8,10,12,14,16,20,24,28,32,40,48,56,64,80,96,112,128,160,192,256,320]=true:=by kernel_rfl
end Go.Ds
