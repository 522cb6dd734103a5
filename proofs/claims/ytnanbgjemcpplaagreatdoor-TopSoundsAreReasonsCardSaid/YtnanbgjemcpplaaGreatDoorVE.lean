/-
  A part of the proof of TopSoundsAreReasons.
-/
import Derived.Test.YtnanbgjemcpplaaGreatDoorVC
set_option linter.unusedVariables false
set_option linter.unusedSimpArgs false
set_option linter.defProp false
set_option linter.unusedSectionVars false
set_option maxRecDepth 100000
set_option maxHeartbeats 2000000
namespace Go.Ds
theorem c9I:nD ([(32,10)].flatMap uE)=true:=by kernel_rfl
theorem c8w:nD ([(20,8)].flatMap uE)=true:=by kernel_rfl
theorem c9D:nD ([(2,0),(4,0),(6,5)].flatMap uE)=true:=by kernel_rfl
theorem c8y:nD ([(16,7)].flatMap uE)=true:=by kernel_rfl
theorem c8z:wH [20,24,28,32]=true:=by kernel_rfl
theorem c6D:nD ([(256,4)].flatMap uE)=true:=by kernel_rfl
theorem d0S:wT ([(160,96,9),(160,128,4),(192,128,7),(320,256,4)].flatMap a9m)=true:=by kernel_rfl
end Go.Ds
