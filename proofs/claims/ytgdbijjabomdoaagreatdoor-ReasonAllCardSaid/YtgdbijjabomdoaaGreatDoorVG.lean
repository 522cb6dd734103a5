/-
  A part of the proof of ReasonAll.
-/
import Derived.Test.YtgdbijjabomdoaaGreatDoorVC
set_option linter.unusedVariables false
set_option linter.unusedSimpArgs false
set_option linter.defProp false
set_option linter.unusedSectionVars false
set_option maxRecDepth 100000
set_option maxHeartbeats 2000000
namespace Go.Ds
theorem c8h:nY ([(48,9)].flatMap wD)=true:=by kernel_rfl
theorem d0X:nY ([(10,8)].flatMap wD)=true:=by kernel_rfl
theorem d2j:nY ([(40,8)].flatMap wD)=true:=by kernel_rfl
theorem c9o:nY ([(128,7)].flatMap wD)=true:=by kernel_rfl
theorem c9V:zA [80,96,112,128]=true:=by kernel_rfl
theorem d2e:yI ([(16,16,0),(20,16,4),(24,16,7),(24,24,0),(32,20,8),(32,24,5),(32,28,2),(32,32,0)].flatMap b2A)=true:=by kernel_rfl
theorem d0K:yI ([(64,40,8),(64,48,5),(64,56,2),(64,64,0),(80,48,9),(80,56,6)].flatMap b2A)=true:=by kernel_rfl
theorem c8x:nY ([(112,2)].flatMap wD)=true:=by kernel_rfl
end Go.Ds
