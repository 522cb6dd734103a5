/-
  A part of the proof of SurveyKeys.
-/
import Derived.Test.YtbkobkpbkhbcgaaGreatDoorVC
set_option linter.unusedVariables false
set_option linter.unusedSimpArgs false
set_option linter.defProp false
set_option linter.unusedSectionVars false
set_option maxRecDepth 100000
set_option maxHeartbeats 2000000
namespace Go.Ds
theorem c3z:mZ ([(56,9)].flatMap tG)=true:=by kernel_rfl
theorem c5r:mZ ([(12,5),(14,2)].flatMap tG)=true:=by kernel_rfl
theorem c3r:mZ ([(80,8)].flatMap tG)=true:=by kernel_rfl
theorem c5N:vG [2,4,6,8]=true:=by kernel_rfl
theorem c4f:vG [10,12,14,16]=true:=by kernel_rfl
theorem c6c:vG [160,192,256,320]=true:=by kernel_rfl
theorem c3H:vR ([(80,64,4),(80,80,0),(96,56,9),(96,64,7),(96,96,0),(128,80,8),(128,112,2)].flatMap a7y)=true:=by kernel_rfl
theorem c7w:c1s [2,4,6,8,10,12,14,16,20,24,28,32,40,48,56,64,80,96,112,128,160,192,256,320]=true:=by kernel_rfl
end Go.Ds
