/-
  A part of the proof of SurveyClean.
-/
import Derived.Test.YtbkobkpbkhbcgaaGreatDoorVC
set_option linter.unusedVariables false
set_option linter.unusedSimpArgs false
set_option linter.defProp false
set_option linter.unusedSectionVars false
set_option maxRecDepth 100000
set_option maxHeartbeats 2000000
namespace Go.Ds
theorem c2M:nD ([(56,9)].flatMap tQ)=true:=by kernel_rfl
theorem c6n:nD ([(12,5),(14,2)].flatMap tQ)=true:=by kernel_rfl
theorem c2E:nD ([(80,8)].flatMap tQ)=true:=by kernel_rfl
theorem c6i:wO [2,4,6,8]=true:=by kernel_rfl
theorem c5z:wO [10,12,14,16]=true:=by kernel_rfl
theorem c6F:wO [160,192,256,320]=true:=by kernel_rfl
theorem c5k:wF ([(80,64,4),(80,80,0),(96,56,9),(96,64,7),(96,96,0),(128,80,8),(128,112,2)].flatMap a7I)=true:=by kernel_rfl
theorem c8q:c2j [2,4,6,8,10,12,14,16,20,24,28,32,40,48,56,64,80,96,112,128,160,192,256,320]=true:=by kernel_rfl
end Go.Ds
