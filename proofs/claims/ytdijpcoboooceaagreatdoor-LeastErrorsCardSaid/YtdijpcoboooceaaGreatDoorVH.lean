/-
  A part of the proof of LeastErrors.
-/
import Derived.Test.YtdijpcoboooceaaGreatDoorVC
set_option linter.unusedVariables false
set_option linter.unusedSimpArgs false
set_option linter.defProp false
set_option linter.unusedSectionVars false
set_option maxRecDepth 100000
set_option maxHeartbeats 2000000
namespace Go.Ds
theorem c9N:nW ([(56,9)].flatMap uY)=true:=by kernel_rfl
theorem d0G:nW ([(12,5),(14,2)].flatMap uY)=true:=by kernel_rfl
theorem c8K:nW ([(80,8)].flatMap uY)=true:=by kernel_rfl
theorem d3o:yN [2,4,6,8]=true:=by kernel_rfl
theorem d0Q:yN [10,12,14,16]=true:=by kernel_rfl
theorem d1s:yN [160,192,256,320]=true:=by kernel_rfl
theorem d3b:xQ ([(80,64,4),(80,80,0),(96,56,9),(96,64,7),(96,96,0),(128,80,8),(128,112,2)].flatMap b0E)=true:=by kernel_rfl
theorem d4x:c7h [2,4,6,8,10,12,14,16,20,24,28,32,40,48,56,64,80,96,112,128,160,192,256,320]=true:=by kernel_rfl
end Go.Ds
