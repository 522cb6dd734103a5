/-
  A part of the proof of ReasonAll.
-/
import Derived.Test.YtgdbijjabomdoaaGreatDoorVC
set_option linter.unusedVariables false
set_option linter.unusedSimpArgs false
set_option linter.defProp false
set_option linter.unusedSectionVars false
set_option maxRecDepth 100000
set_option maxHeartbeats 2000000
namespace Go.Ds
theorem d2r:nY ([(32,10)].flatMap wD)=true:=by kernel_rfl
theorem d0B:nY ([(20,8)].flatMap wD)=true:=by kernel_rfl
theorem d1o:nY ([(2,0),(4,0),(6,5)].flatMap wD)=true:=by kernel_rfl
theorem d1D:nY ([(16,7)].flatMap wD)=true:=by kernel_rfl
theorem d1N:zA [20,24,28,32]=true:=by kernel_rfl
theorem c9c:nY ([(256,4)].flatMap wD)=true:=by kernel_rfl
theorem d1v:yI ([(160,96,9),(160,128,4),(192,128,7),(320,256,4)].flatMap b2A)=true:=by kernel_rfl
end Go.Ds
