/-
  A part of the proof of ReasonChecks.
-/
import Derived.Test.YtfmbcecfgpbmhaaGreatDoorVC
set_option linter.unusedVariables false
set_option linter.unusedSimpArgs false
set_option linter.defProp false
set_option linter.unusedSectionVars false
namespace Go.Ds
set_option maxRecDepth 100000
theorem c8t:nR ([(24,9)].flatMap tX)=true:=by kernel_rfl
theorem c6x:nR ([(96,9)].flatMap tX)=true:=by kernel_rfl
theorem c7Z:nR ([(8,7)].flatMap tX)=true:=by kernel_rfl
theorem c5t:nR ([(64,7)].flatMap tX)=true:=by kernel_rfl
theorem c7t:xE [40,48,56,64]=true:=by kernel_rfl
theorem c7v:wK ([(2,2,0),(4,4,0),(8,6,5),(8,8,0),(10,8,4),(12,8,7),(16,10,8),(16,12,5),(16,14,2)].flatMap a9n)=true:=by kernel_rfl
theorem c8o:wK ([(40,24,9),(40,32,4),(40,40,0),(48,32,7),(48,40,3),(48,48,0),(56,32,10)].flatMap a9n)=true:=by kernel_rfl
theorem c8S:nR ([(28,2)].flatMap tX)=true:=by kernel_rfl
end Go.Ds
