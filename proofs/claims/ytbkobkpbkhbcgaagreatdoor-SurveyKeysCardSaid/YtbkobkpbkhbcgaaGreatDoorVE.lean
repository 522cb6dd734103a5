/-
  A part of the proof of SurveyKeys.
-/
import Derived.Test.YtbkobkpbkhbcgaaGreatDoorVC
set_option linter.unusedVariables false
set_option linter.unusedSimpArgs false
set_option linter.defProp false
set_option linter.unusedSectionVars false
set_option maxRecDepth 100000
set_option maxHeartbeats 2000000
namespace Go.Ds
theorem c6f:mZ ([(32,10)].flatMap tG)=true:=by kernel_rfl
theorem c5Z:mZ ([(20,8)].flatMap tG)=true:=by kernel_rfl
theorem c4l:mZ ([(2,0),(4,0),(6,5)].flatMap tG)=true:=by kernel_rfl
theorem c3Q:mZ ([(16,7)].flatMap tG)=true:=by kernel_rfl
theorem c3W:vG [20,24,28,32]=true:=by kernel_rfl
theorem c2L:mZ ([(256,4)].flatMap tG)=true:=by kernel_rfl
theorem c3V:vR ([(160,96,9),(160,128,4),(192,128,7),(320,256,4)].flatMap a7y)=true:=by kernel_rfl
end Go.Ds
