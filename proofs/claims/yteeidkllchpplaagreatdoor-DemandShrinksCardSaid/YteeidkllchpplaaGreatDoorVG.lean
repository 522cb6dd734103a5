/-
  A part of the proof of DemandShrinks.
-/
import Derived.Test.YteeidkllchpplaaGreatDoorVC
set_option linter.unusedVariables false
set_option linter.unusedSimpArgs false
set_option linter.defProp false
set_option linter.unusedSectionVars false
namespace Go.Ds
set_option maxRecDepth 100000
theorem c2G:mD ([(48,9)].flatMap tC)=true:=by kernel_rfl
theorem c7f:mD ([(10,8)].flatMap tC)=true:=by kernel_rfl
theorem c6k:mD ([(40,8)].flatMap tC)=true:=by kernel_rfl
theorem c4L:mD ([(128,7)].flatMap tC)=true:=by kernel_rfl
theorem c6w:wD [80,96,112,128]=true:=by kernel_rfl
theorem c5A:vK ([(16,16,0),(20,16,4),(24,16,7),(24,24,0),(32,20,8),(32,24,5),(32,28,2),(32,32,0)].flatMap a9c)=true:=by kernel_rfl
theorem c7r:vK ([(64,40,8),(64,48,5),(64,56,2),(64,64,0),(80,48,9),(80,56,6)].flatMap a9c)=true:=by kernel_rfl
theorem c3I:mD ([(112,2)].flatMap tC)=true:=by kernel_rfl
end Go.Ds
