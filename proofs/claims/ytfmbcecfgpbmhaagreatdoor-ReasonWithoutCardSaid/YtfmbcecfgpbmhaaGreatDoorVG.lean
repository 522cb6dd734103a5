/-
  A part of the proof of ReasonWithout.
-/
import Derived.Test.YtfmbcecfgpbmhaaGreatDoorVC
set_option linter.unusedVariables false
set_option linter.unusedSimpArgs false
set_option linter.defProp false
set_option linter.unusedSectionVars false
namespace Go.Ds
set_option maxRecDepth 100000
theorem c5Z:nP ([(48,9)].flatMap tY)=true:=by kernel_rfl
theorem c8Z:nP ([(10,8)].flatMap tY)=true:=by kernel_rfl
theorem c7M:nP ([(40,8)].flatMap tY)=true:=by kernel_rfl
theorem c4O:nP ([(128,7)].flatMap tY)=true:=by kernel_rfl
theorem c8m:wT [80,96,112,128]=true:=by kernel_rfl
theorem c8F:xL ([(16,16,0),(20,16,4),(24,16,7),(24,24,0),(32,20,8),(32,24,5),(32,28,2),(32,32,0)].flatMap a9j)=true:=by kernel_rfl
theorem c8H:xL ([(64,40,8),(64,48,5),(64,56,2),(64,64,0),(80,48,9),(80,56,6)].flatMap a9j)=true:=by kernel_rfl
theorem c5q:nP ([(112,2)].flatMap tY)=true:=by kernel_rfl
end Go.Ds
