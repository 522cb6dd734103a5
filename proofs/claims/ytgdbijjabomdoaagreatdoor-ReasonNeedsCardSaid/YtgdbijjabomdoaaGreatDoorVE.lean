/-
  A part of the proof of ReasonNeeds.
-/
import Derived.Test.YtgdbijjabomdoaaGreatDoorVC
set_option linter.unusedVariables false
set_option linter.unusedSimpArgs false
set_option linter.defProp false
set_option linter.unusedSectionVars false
set_option maxRecDepth 100000
set_option maxHeartbeats 2000000
namespace Go.Ds
theorem d0m:oB ([(32,10)].flatMap vN)=true:=by kernel_rfl
theorem d2j:oB ([(20,8)].flatMap vN)=true:=by kernel_rfl
theorem d0u:oB ([(2,0),(4,0),(6,5)].flatMap vN)=true:=by kernel_rfl
theorem d1I:oB ([(16,7)].flatMap vN)=true:=by kernel_rfl
theorem d0U:yM [20,24,28,32]=true:=by kernel_rfl
theorem c7O:oB ([(256,4)].flatMap vN)=true:=by kernel_rfl
theorem d1c:yC ([(160,96,9),(160,128,4),(192,128,7),(320,256,4)].flatMap b1k)=true:=by kernel_rfl
end Go.Ds
