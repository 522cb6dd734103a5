/-
  A part of the proof of ReasonChecks.
-/
import Derived.Test.YtfmbcecfgpbmhaaGreatDoorVC
set_option linter.unusedVariables false
set_option linter.unusedSimpArgs false
set_option linter.defProp false
set_option linter.unusedSectionVars false
namespace Go.Ds
set_option maxRecDepth 100000
theorem c4W:nR ([(48,9)].flatMap tX)=true:=by kernel_rfl
theorem c7p:nR ([(10,8)].flatMap tX)=true:=by kernel_rfl
theorem c9f:nR ([(40,8)].flatMap tX)=true:=by kernel_rfl
theorem c6L:nR ([(128,7)].flatMap tX)=true:=by kernel_rfl
theorem c7K:xE [80,96,112,128]=true:=by kernel_rfl
theorem c7R:wK ([(16,16,0),(20,16,4),(24,16,7),(24,24,0),(32,20,8),(32,24,5),(32,28,2),(32,32,0)].flatMap a9n)=true:=by kernel_rfl
theorem c9b:wK ([(64,40,8),(64,48,5),(64,56,2),(64,64,0),(80,48,9),(80,56,6)].flatMap a9n)=true:=by kernel_rfl
theorem c6i:nR ([(112,2)].flatMap tX)=true:=by kernel_rfl
end Go.Ds
