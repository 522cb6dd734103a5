/-
  A part of the proof of LeastErrors.
-/
import Derived.Test.YtdijpcoboooceaaGreatDoorVC
set_option linter.unusedVariables false
set_option linter.unusedSimpArgs false
set_option linter.defProp false
set_option linter.unusedSectionVars false
set_option maxRecDepth 100000
set_option maxHeartbeats 2000000
namespace Go.Ds
theorem d1Q:nW ([(24,9)].flatMap uY)=true:=by kernel_rfl
theorem c8Z:nW ([(96,9)].flatMap uY)=true:=by kernel_rfl
theorem d0Z:nW ([(8,7)].flatMap uY)=true:=by kernel_rfl
theorem c8X:nW ([(64,7)].flatMap uY)=true:=by kernel_rfl
theorem d1c:yN [40,48,56,64]=true:=by kernel_rfl
theorem d3m:xQ ([(2,2,0),(4,4,0),(8,6,5),(8,8,0),(10,8,4),(12,8,7),(16,10,8),(16,12,5),(16,14,2)].flatMap b0E)=true:=by kernel_rfl
theorem d1S:xQ ([(40,24,9),(40,32,4),(40,40,0),(48,32,7),(48,40,3),(48,48,0),(56,32,10)].flatMap b0E)=true:=by kernel_rfl
theorem d0N:nW ([(28,2)].flatMap uY)=true:=by kernel_rfl
end Go.Ds
