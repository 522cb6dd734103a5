/-
  A part of the proof of ReasonAll.
-/
import Derived.Test.YtgdbijjabomdoaaGreatDoorVC
set_option linter.unusedVariables false
set_option linter.unusedSimpArgs false
set_option linter.defProp false
set_option linter.unusedSectionVars false
set_option maxRecDepth 100000
set_option maxHeartbeats 2000000
namespace Go.Ds
theorem d1K:nU ([(32,10)].flatMap wA)=true:=by kernel_rfl
theorem d1T:nU ([(20,8)].flatMap wA)=true:=by kernel_rfl
theorem d2v:nU ([(2,0),(4,0),(6,5)].flatMap wA)=true:=by kernel_rfl
theorem d2b:nU ([(16,7)].flatMap wA)=true:=by kernel_rfl
theorem d1f:xX [20,24,28,32]=true:=by kernel_rfl
theorem c7z:nU ([(256,4)].flatMap wA)=true:=by kernel_rfl
theorem d0t:yS ([(160,96,9),(160,128,4),(192,128,7),(320,256,4)].flatMap b2r)=true:=by kernel_rfl
end Go.Ds
