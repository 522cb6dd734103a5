/-
  A part of the proof of SurveyParts.
-/
import Derived.Test.YtbkobkpbkhbcgaaGreatDoorVC
set_option linter.unusedVariables false
set_option linter.unusedSimpArgs false
set_option linter.defProp false
set_option linter.unusedSectionVars false
set_option maxRecDepth 100000
set_option maxHeartbeats 2000000
namespace Go.Ds
theorem c3d:mZ ([(56,9)].flatMap tN)=true:=by kernel_rfl
theorem c4x:mZ ([(12,5),(14,2)].flatMap tN)=true:=by kernel_rfl
theorem c2A:mZ ([(80,8)].flatMap tN)=true:=by kernel_rfl
theorem c5F:wA [2,4,6,8]=true:=by kernel_rfl
theorem c5x:wA [10,12,14,16]=true:=by kernel_rfl
theorem c5D:wA [160,192,256,320]=true:=by kernel_rfl
theorem c6j:vT ([(80,64,4),(80,80,0),(96,56,9),(96,64,7),(96,96,0),(128,80,8),(128,112,2)].flatMap a6q)=true:=by kernel_rfl
theorem c7X:c2i [2,4,6,8,10,12,14,16,20,24,28,32,40,48,56,64,80,96,112,128,160,192,256,320]=true:=by kernel_rfl
end Go.Ds
