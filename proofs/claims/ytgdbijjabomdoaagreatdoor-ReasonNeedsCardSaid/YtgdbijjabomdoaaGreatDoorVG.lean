/-
  A part of the proof of ReasonNeeds.
-/
import Derived.Test.YtgdbijjabomdoaaGreatDoorVC
set_option linter.unusedVariables false
set_option linter.unusedSimpArgs false
set_option linter.defProp false
set_option linter.unusedSectionVars false
set_option maxRecDepth 100000
set_option maxHeartbeats 2000000
namespace Go.Ds
theorem c8i:oB ([(48,9)].flatMap vN)=true:=by kernel_rfl
theorem d0M:oB ([(10,8)].flatMap vN)=true:=by kernel_rfl
theorem d2l:oB ([(40,8)].flatMap vN)=true:=by kernel_rfl
theorem c9d:oB ([(128,7)].flatMap vN)=true:=by kernel_rfl
theorem d2w:yM [80,96,112,128]=true:=by kernel_rfl
theorem d1f:yC ([(16,16,0),(20,16,4),(24,16,7),(24,24,0),(32,20,8),(32,24,5),(32,28,2),(32,32,0)].flatMap b1k)=true:=by kernel_rfl
theorem d0g:yC ([(64,40,8),(64,48,5),(64,56,2),(64,64,0),(80,48,9),(80,56,6)].flatMap b1k)=true:=by kernel_rfl
theorem c9D:oB ([(112,2)].flatMap vN)=true:=by kernel_rfl
end Go.Ds
