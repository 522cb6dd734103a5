/-
  A part of the proof of LeastErrors.
-/
import Derived.Test.YtdijpcoboooceaaGreatDoorVC
set_option linter.unusedVariables false
set_option linter.unusedSimpArgs false
set_option linter.defProp false
set_option linter.unusedSectionVars false
set_option maxRecDepth 100000
set_option maxHeartbeats 2000000
namespace Go.Ds
theorem c8t:nW ([(48,9)].flatMap uY)=true:=by kernel_rfl
theorem d0K:nW ([(10,8)].flatMap uY)=true:=by kernel_rfl
theorem d2F:nW ([(40,8)].flatMap uY)=true:=by kernel_rfl
theorem c8u:nW ([(128,7)].flatMap uY)=true:=by kernel_rfl
theorem d2E:yN [80,96,112,128]=true:=by kernel_rfl
theorem d1u:xQ ([(16,16,0),(20,16,4),(24,16,7),(24,24,0),(32,20,8),(32,24,5),(32,28,2),(32,32,0)].flatMap b0E)=true:=by kernel_rfl
theorem d3e:xQ ([(64,40,8),(64,48,5),(64,56,2),(64,64,0),(80,48,9),(80,56,6)].flatMap b0E)=true:=by kernel_rfl
theorem c8E:nW ([(112,2)].flatMap uY)=true:=by kernel_rfl
end Go.Ds
