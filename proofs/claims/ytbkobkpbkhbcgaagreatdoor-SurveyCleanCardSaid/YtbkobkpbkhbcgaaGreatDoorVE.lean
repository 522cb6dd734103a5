/-
  A part of the proof of SurveyClean.
-/
import Derived.Test.YtbkobkpbkhbcgaaGreatDoorVC
set_option linter.unusedVariables false
set_option linter.unusedSimpArgs false
set_option linter.defProp false
set_option linter.unusedSectionVars false
set_option maxRecDepth 100000
set_option maxHeartbeats 2000000
namespace Go.Ds
theorem c4D:nD ([(32,10)].flatMap tQ)=true:=by kernel_rfl
theorem c4G:nD ([(20,8)].flatMap tQ)=true:=by kernel_rfl
theorem c6C:nD ([(2,0),(4,0),(6,5)].flatMap tQ)=true:=by kernel_rfl
theorem c5a:nD ([(16,7)].flatMap tQ)=true:=by kernel_rfl
theorem c5y:wO [20,24,28,32]=true:=by kernel_rfl
theorem c2q:nD ([(256,4)].flatMap tQ)=true:=by kernel_rfl
theorem c4Y:wF ([(160,96,9),(160,128,4),(192,128,7),(320,256,4)].flatMap a7I)=true:=by kernel_rfl
end Go.Ds
