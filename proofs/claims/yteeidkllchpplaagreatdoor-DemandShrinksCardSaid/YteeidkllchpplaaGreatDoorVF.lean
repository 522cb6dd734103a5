/-
  A part of the proof of DemandShrinks.
-/
import Derived.Test.YteeidkllchpplaaGreatDoorVC
set_option linter.unusedVariables false
set_option linter.unusedSimpArgs false
set_option linter.defProp false
set_option linter.unusedSectionVars false
namespace Go.Ds
set_option maxRecDepth 100000
theorem c7t:mD ([(24,9)].flatMap tC)=true:=by kernel_rfl
theorem c3D:mD ([(96,9)].flatMap tC)=true:=by kernel_rfl
theorem c6d:mD ([(8,7)].flatMap tC)=true:=by kernel_rfl
theorem c3t:mD ([(64,7)].flatMap tC)=true:=by kernel_rfl
theorem c6j:wD [40,48,56,64]=true:=by kernel_rfl
theorem c4Z:vK ([(2,2,0),(4,4,0),(8,6,5),(8,8,0),(10,8,4),(12,8,7),(16,10,8),(16,12,5),(16,14,2)].flatMap a9c)=true:=by kernel_rfl
theorem c5G:vK ([(40,24,9),(40,32,4),(40,40,0),(48,32,7),(48,40,3),(48,48,0),(56,32,10)].flatMap a9c)=true:=by kernel_rfl
theorem c7e:mD ([(28,2)].flatMap tC)=true:=by kernel_rfl
end Go.Ds
