/-
  A part of the proof of TopSoundsAreReasons.
-/
import Derived.Test.YtnanbgjemcpplaaGreatDoorVC
set_option linter.unusedVariables false
set_option linter.unusedSimpArgs false
set_option linter.defProp false
set_option linter.unusedSectionVars false
set_option maxRecDepth 100000
set_option maxHeartbeats 2000000
namespace Go.Ds
theorem c5M:nD ([(56,9)].flatMap uE)=true:=by kernel_rfl
theorem d0a:nD ([(12,5),(14,2)].flatMap uE)=true:=by kernel_rfl
theorem c6w:nD ([(80,8)].flatMap uE)=true:=by kernel_rfl
theorem d0B:wH [2,4,6,8]=true:=by kernel_rfl
theorem c8B:wH [10,12,14,16]=true:=by kernel_rfl
theorem c9F:wH [160,192,256,320]=true:=by kernel_rfl
theorem c8i:wT ([(80,64,4),(80,80,0),(96,56,9),(96,64,7),(96,96,0),(128,80,8),(128,112,2)].flatMap a9m)=true:=by kernel_rfl
theorem d1z:c5F [2,4,6,8,10,12,14,16,20,24,28,32,40,48,56,64,80,96,112,128,160,192,256,320]=true:=by kernel_rfl
end Go.Ds
