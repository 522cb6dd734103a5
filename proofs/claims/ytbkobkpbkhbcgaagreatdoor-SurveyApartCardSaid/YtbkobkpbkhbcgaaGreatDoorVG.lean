/-
  A part of the proof of SurveyApart.
-/
import Derived.Test.YtbkobkpbkhbcgaaGreatDoorVC
set_option linter.unusedVariables false
set_option linter.unusedSimpArgs false
set_option linter.defProp false
set_option linter.unusedSectionVars false
set_option maxRecDepth 100000
set_option maxHeartbeats 2000000
namespace Go.Ds
theorem b8K:lM ([(48,9)].flatMap qY)=true:=by kernel_rfl
theorem c1n:lM ([(10,8)].flatMap qY)=true:=by kernel_rfl
theorem c0B:lM ([(40,8)].flatMap qY)=true:=by kernel_rfl
theorem b9j:lM ([(128,7)].flatMap qY)=true:=by kernel_rfl
theorem c0u:sO [80,96,112,128]=true:=by kernel_rfl
theorem c2d:sY ([(16,16,0),(20,16,4),(24,16,7),(24,24,0),(32,20,8),(32,24,5),(32,28,2),(32,32,0)].flatMap a4g)=true:=by kernel_rfl
theorem c2o:sY ([(64,40,8),(64,48,5),(64,56,2),(64,64,0),(80,48,9),(80,56,6)].flatMap a4g)=true:=by kernel_rfl
theorem b8M:lM ([(112,2)].flatMap qY)=true:=by kernel_rfl
end Go.Ds
