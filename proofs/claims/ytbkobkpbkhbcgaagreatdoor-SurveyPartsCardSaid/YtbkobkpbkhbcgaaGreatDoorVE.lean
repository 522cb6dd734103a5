/-
  A part of the proof of SurveyParts.
-/
import Derived.Test.YtbkobkpbkhbcgaaGreatDoorVC
set_option linter.unusedVariables false
set_option linter.unusedSimpArgs false
set_option linter.defProp false
set_option linter.unusedSectionVars false
set_option maxRecDepth 100000
set_option maxHeartbeats 2000000
namespace Go.Ds
theorem c6v:mZ ([(32,10)].flatMap tN)=true:=by kernel_rfl
theorem c6B:mZ ([(20,8)].flatMap tN)=true:=by kernel_rfl
theorem c4n:mZ ([(2,0),(4,0),(6,5)].flatMap tN)=true:=by kernel_rfl
theorem c4U:mZ ([(16,7)].flatMap tN)=true:=by kernel_rfl
theorem c6p:wA [20,24,28,32]=true:=by kernel_rfl
theorem c2v:mZ ([(256,4)].flatMap tN)=true:=by kernel_rfl
theorem c6J:vT ([(160,96,9),(160,128,4),(192,128,7),(320,256,4)].flatMap a6q)=true:=by kernel_rfl
end Go.Ds
