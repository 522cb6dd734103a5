/-
  A part of the proof of SurveyPipes.
-/
import Derived.Test.YtbkobkpbkhbcgaaGreatDoorVC
set_option linter.unusedVariables false
set_option linter.unusedSimpArgs false
set_option linter.defProp false
set_option linter.unusedSectionVars false
set_option maxRecDepth 100000
set_option maxHeartbeats 2000000
namespace Go.Ds
theorem c6c:mX ([(32,10)].flatMap tH)=true:=by kernel_rfl
theorem c3K:mX ([(20,8)].flatMap tH)=true:=by kernel_rfl
theorem c4s:mX ([(2,0),(4,0),(6,5)].flatMap tH)=true:=by kernel_rfl
theorem c5v:mX ([(16,7)].flatMap tH)=true:=by kernel_rfl
theorem c4b:vD [20,24,28,32]=true:=by kernel_rfl
theorem c2u:mX ([(256,4)].flatMap tH)=true:=by kernel_rfl
theorem c4J:uY ([(160,96,9),(160,128,4),(192,128,7),(320,256,4)].flatMap a7B)=true:=by kernel_rfl
end Go.Ds
