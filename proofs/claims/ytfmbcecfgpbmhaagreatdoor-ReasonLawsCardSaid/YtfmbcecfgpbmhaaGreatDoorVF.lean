/-
  A part of the proof of ReasonLaws.
-/
import Derived.Test.YtfmbcecfgpbmhaaGreatDoorVC
set_option linter.unusedVariables false
set_option linter.unusedSimpArgs false
set_option linter.defProp false
set_option linter.unusedSectionVars false
namespace Go.Ds
set_option maxRecDepth 100000
theorem c9m:nO ([(24,9)].flatMap uP)=true:=by kernel_rfl
theorem c6b:nO ([(96,9)].flatMap uP)=true:=by kernel_rfl
theorem c8q:nO ([(8,7)].flatMap uP)=true:=by kernel_rfl
theorem c7G:nO ([(64,7)].flatMap uP)=true:=by kernel_rfl
theorem d0o:xA [40,48,56,64]=true:=by kernel_rfl
theorem d0l:wY ([(2,2,0),(4,4,0),(8,6,5),(8,8,0),(10,8,4),(12,8,7),(16,10,8),(16,12,5),(16,14,2)].flatMap a8f)=true:=by kernel_rfl
theorem c8A:wY ([(40,24,9),(40,32,4),(40,40,0),(48,32,7),(48,40,3),(48,48,0),(56,32,10)].flatMap a8f)=true:=by kernel_rfl
theorem d0w:nO ([(28,2)].flatMap uP)=true:=by kernel_rfl
end Go.Ds
