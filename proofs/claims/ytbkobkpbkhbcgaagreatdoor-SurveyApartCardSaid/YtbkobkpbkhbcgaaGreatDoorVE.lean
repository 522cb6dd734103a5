/-
  A part of the proof of SurveyApart.
-/
import Derived.Test.YtbkobkpbkhbcgaaGreatDoorVC
set_option linter.unusedVariables false
set_option linter.unusedSimpArgs false
set_option linter.defProp false
set_option linter.unusedSectionVars false
set_option maxRecDepth 100000
set_option maxHeartbeats 2000000
namespace Go.Ds
theorem c1M:lM ([(32,10)].flatMap qY)=true:=by kernel_rfl
theorem c2a:lM ([(20,8)].flatMap qY)=true:=by kernel_rfl
theorem c0N:lM ([(2,0),(4,0),(6,5)].flatMap qY)=true:=by kernel_rfl
theorem c1w:lM ([(16,7)].flatMap qY)=true:=by kernel_rfl
theorem c2m:sO [20,24,28,32]=true:=by kernel_rfl
theorem b9M:lM ([(256,4)].flatMap qY)=true:=by kernel_rfl
theorem c1H:sY ([(160,96,9),(160,128,4),(192,128,7),(320,256,4)].flatMap a4g)=true:=by kernel_rfl
end Go.Ds
