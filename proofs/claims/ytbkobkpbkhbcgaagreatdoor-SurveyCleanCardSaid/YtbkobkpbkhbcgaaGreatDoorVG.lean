/-
  A part of the proof of SurveyClean.
-/
import Derived.Test.YtbkobkpbkhbcgaaGreatDoorVC
set_option linter.unusedVariables false
set_option linter.unusedSimpArgs false
set_option linter.defProp false
set_option linter.unusedSectionVars false
set_option maxRecDepth 100000
set_option maxHeartbeats 2000000
namespace Go.Ds
theorem c3G:nD ([(48,9)].flatMap tQ)=true:=by kernel_rfl
theorem c5o:nD ([(10,8)].flatMap tQ)=true:=by kernel_rfl
theorem c6h:nD ([(40,8)].flatMap tQ)=true:=by kernel_rfl
theorem c2L:nD ([(128,7)].flatMap tQ)=true:=by kernel_rfl
theorem c5l:wO [80,96,112,128]=true:=by kernel_rfl
theorem c6v:wF ([(16,16,0),(20,16,4),(24,16,7),(24,24,0),(32,20,8),(32,24,5),(32,28,2),(32,32,0)].flatMap a7I)=true:=by kernel_rfl
theorem c5U:wF ([(64,40,8),(64,48,5),(64,56,2),(64,64,0),(80,48,9),(80,56,6)].flatMap a7I)=true:=by kernel_rfl
theorem c3T:nD ([(112,2)].flatMap tQ)=true:=by kernel_rfl
end Go.Ds
