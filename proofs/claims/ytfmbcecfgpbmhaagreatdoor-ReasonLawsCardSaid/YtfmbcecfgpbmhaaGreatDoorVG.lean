/-
  A part of the proof of ReasonLaws.
-/
import Derived.Test.YtfmbcecfgpbmhaaGreatDoorVC
set_option linter.unusedVariables false
set_option linter.unusedSimpArgs false
set_option linter.defProp false
set_option linter.unusedSectionVars false
namespace Go.Ds
set_option maxRecDepth 100000
theorem c7h:nO ([(48,9)].flatMap uP)=true:=by kernel_rfl
theorem c8L:nO ([(10,8)].flatMap uP)=true:=by kernel_rfl
theorem c9J:nO ([(40,8)].flatMap uP)=true:=by kernel_rfl
theorem c7V:nO ([(128,7)].flatMap uP)=true:=by kernel_rfl
theorem c8O:xA [80,96,112,128]=true:=by kernel_rfl
theorem c8W:wY ([(16,16,0),(20,16,4),(24,16,7),(24,24,0),(32,20,8),(32,24,5),(32,28,2),(32,32,0)].flatMap a8f)=true:=by kernel_rfl
theorem d0k:wY ([(64,40,8),(64,48,5),(64,56,2),(64,64,0),(80,48,9),(80,56,6)].flatMap a8f)=true:=by kernel_rfl
theorem c7K:nO ([(112,2)].flatMap uP)=true:=by kernel_rfl
end Go.Ds
