/-
  A part of the proof of SurveyPipes.
-/
import Derived.Test.YtbkobkpbkhbcgaaGreatDoorVC
set_option linter.unusedVariables false
set_option linter.unusedSimpArgs false
set_option linter.defProp false
set_option linter.unusedSectionVars false
set_option maxRecDepth 100000
set_option maxHeartbeats 2000000
namespace Go.Ds
theorem c1Q:mX ([(48,9)].flatMap tH)=true:=by kernel_rfl
theorem c4K:mX ([(10,8)].flatMap tH)=true:=by kernel_rfl
theorem c3O:mX ([(40,8)].flatMap tH)=true:=by kernel_rfl
theorem c2f:mX ([(128,7)].flatMap tH)=true:=by kernel_rfl
theorem c4q:vD [80,96,112,128]=true:=by kernel_rfl
theorem c5Z:uY ([(16,16,0),(20,16,4),(24,16,7),(24,24,0),(32,20,8),(32,24,5),(32,28,2),(32,32,0)].flatMap a7B)=true:=by kernel_rfl
theorem c5c:uY ([(64,40,8),(64,48,5),(64,56,2),(64,64,0),(80,48,9),(80,56,6)].flatMap a7B)=true:=by kernel_rfl
theorem c2O:mX ([(112,2)].flatMap tH)=true:=by kernel_rfl
end Go.Ds
