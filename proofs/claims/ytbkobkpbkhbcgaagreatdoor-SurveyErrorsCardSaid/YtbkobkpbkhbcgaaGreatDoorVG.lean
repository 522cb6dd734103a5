/-
  A part of the proof of SurveyErrors.
-/
import Derived.Test.YtbkobkpbkhbcgaaGreatDoorVC
set_option linter.unusedVariables false
set_option linter.unusedSimpArgs false
set_option linter.defProp false
set_option linter.unusedSectionVars false
set_option maxRecDepth 100000
set_option maxHeartbeats 2000000
namespace Go.Ds
theorem b9h:lN ([(48,9)].flatMap qY)=true:=by kernel_rfl
theorem c2a:lN ([(10,8)].flatMap qY)=true:=by kernel_rfl
theorem c1W:lN ([(40,8)].flatMap qY)=true:=by kernel_rfl
theorem b9y:lN ([(128,7)].flatMap qY)=true:=by kernel_rfl
theorem c1V:sT [80,96,112,128]=true:=by kernel_rfl
theorem c1r:tA ([(16,16,0),(20,16,4),(24,16,7),(24,24,0),(32,20,8),(32,24,5),(32,28,2),(32,32,0)].flatMap a4t)=true:=by kernel_rfl
theorem c0Y:tA ([(64,40,8),(64,48,5),(64,56,2),(64,64,0),(80,48,9),(80,56,6)].flatMap a4t)=true:=by kernel_rfl
theorem b9t:lN ([(112,2)].flatMap qY)=true:=by kernel_rfl
end Go.Ds
