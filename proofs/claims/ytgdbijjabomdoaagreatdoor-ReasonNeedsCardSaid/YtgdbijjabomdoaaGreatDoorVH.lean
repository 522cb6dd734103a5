/-
  A part of the proof of ReasonNeeds.
-/
import Derived.Test.YtgdbijjabomdoaaGreatDoorVC
set_option linter.unusedVariables false
set_option linter.unusedSimpArgs false
set_option linter.defProp false
set_option linter.unusedSectionVars false
set_option maxRecDepth 100000
set_option maxHeartbeats 2000000
namespace Go.Ds
theorem c8B:oB ([(56,9)].flatMap vN)=true:=by kernel_rfl
theorem d0X:oB ([(12,5),(14,2)].flatMap vN)=true:=by kernel_rfl
theorem c9o:oB ([(80,8)].flatMap vN)=true:=by kernel_rfl
theorem d1G:yM [2,4,6,8]=true:=by kernel_rfl
theorem d0x:yM [10,12,14,16]=true:=by kernel_rfl
theorem d1E:yM [160,192,256,320]=true:=by kernel_rfl
theorem d0s:yC ([(80,64,4),(80,80,0),(96,56,9),(96,64,7),(96,96,0),(128,80,8),(128,112,2)].flatMap b1k)=true:=by kernel_rfl
theorem d3d:c6Q [2,4,6,8,10,12,14,16,20,24,28,32,40,48,56,64,80,96,112,128,160,192,256,320]=true:=by kernel_rfl
end Go.Ds
