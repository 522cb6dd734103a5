/-
  A part of the proof of SurveyErrors.
-/
import Derived.Test.YtbkobkpbkhbcgaaGreatDoorVC
set_option linter.unusedVariables false
set_option linter.unusedSimpArgs false
set_option linter.defProp false
set_option linter.unusedSectionVars false
set_option maxRecDepth 100000
set_option maxHeartbeats 2000000
namespace Go.Ds
theorem c1v:lN ([(32,10)].flatMap qY)=true:=by kernel_rfl
theorem c2g:lN ([(20,8)].flatMap qY)=true:=by kernel_rfl
theorem c1J:lN ([(2,0),(4,0),(6,5)].flatMap qY)=true:=by kernel_rfl
theorem c1a:lN ([(16,7)].flatMap qY)=true:=by kernel_rfl
theorem c2x:sT [20,24,28,32]=true:=by kernel_rfl
theorem b9a:lN ([(256,4)].flatMap qY)=true:=by kernel_rfl
theorem c1K:tA ([(160,96,9),(160,128,4),(192,128,7),(320,256,4)].flatMap a4t)=true:=by kernel_rfl
end Go.Ds
