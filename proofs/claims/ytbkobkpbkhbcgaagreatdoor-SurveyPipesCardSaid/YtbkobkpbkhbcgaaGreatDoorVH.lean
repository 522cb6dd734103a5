/-
  A part of the proof of SurveyPipes.
-/
import Derived.Test.YtbkobkpbkhbcgaaGreatDoorVC
set_option linter.unusedVariables false
set_option linter.unusedSimpArgs false
set_option linter.defProp false
set_option linter.unusedSectionVars false
set_option maxRecDepth 100000
set_option maxHeartbeats 2000000
namespace Go.Ds
theorem c1R:mX ([(56,9)].flatMap tH)=true:=by kernel_rfl
theorem c4t:mX ([(12,5),(14,2)].flatMap tH)=true:=by kernel_rfl
theorem c2x:mX ([(80,8)].flatMap tH)=true:=by kernel_rfl
theorem c3P:vD [2,4,6,8]=true:=by kernel_rfl
theorem c4k:vD [10,12,14,16]=true:=by kernel_rfl
theorem c6e:vD [160,192,256,320]=true:=by kernel_rfl
theorem c3X:uY ([(80,64,4),(80,80,0),(96,56,9),(96,64,7),(96,96,0),(128,80,8),(128,112,2)].flatMap a7B)=true:=by kernel_rfl
theorem c6B:c1F [2,4,6,8,10,12,14,16,20,24,28,32,40,48,56,64,80,96,112,128,160,192,256,320]=true:=by kernel_rfl
end Go.Ds
