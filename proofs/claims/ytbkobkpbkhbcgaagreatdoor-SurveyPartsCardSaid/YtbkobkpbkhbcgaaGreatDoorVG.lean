/-
  A part of the proof of SurveyParts.
-/
import Derived.Test.YtbkobkpbkhbcgaaGreatDoorVC
set_option linter.unusedVariables false
set_option linter.unusedSimpArgs false
set_option linter.defProp false
set_option linter.unusedSectionVars false
set_option maxRecDepth 100000
set_option maxHeartbeats 2000000
namespace Go.Ds
theorem c2I:mZ ([(48,9)].flatMap tN)=true:=by kernel_rfl
theorem c5e:mZ ([(10,8)].flatMap tN)=true:=by kernel_rfl
theorem c5j:mZ ([(40,8)].flatMap tN)=true:=by kernel_rfl
theorem c3N:mZ ([(128,7)].flatMap tN)=true:=by kernel_rfl
theorem c5E:wA [80,96,112,128]=true:=by kernel_rfl
theorem c4M:vT ([(16,16,0),(20,16,4),(24,16,7),(24,24,0),(32,20,8),(32,24,5),(32,28,2),(32,32,0)].flatMap a6q)=true:=by kernel_rfl
theorem c5o:vT ([(64,40,8),(64,48,5),(64,56,2),(64,64,0),(80,48,9),(80,56,6)].flatMap a6q)=true:=by kernel_rfl
theorem c2F:mZ ([(112,2)].flatMap tN)=true:=by kernel_rfl
end Go.Ds
