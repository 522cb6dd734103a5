/-
  A part of the proof of DemandShrinks.
-/
import Derived.Test.YteeidkllchpplaaGreatDoorVC
set_option linter.unusedVariables false
set_option linter.unusedSimpArgs false
set_option linter.defProp false
set_option linter.unusedSectionVars false
namespace Go.Ds
set_option maxRecDepth 100000
theorem c5E:mD ([(32,10)].flatMap tC)=true:=by kernel_rfl
theorem c5X:mD ([(20,8)].flatMap tC)=true:=by kernel_rfl
theorem c6Z:mD ([(2,0),(4,0),(6,5)].flatMap tC)=true:=by kernel_rfl
theorem c5P:mD ([(16,7)].flatMap tC)=true:=by kernel_rfl
theorem c6N:wD [20,24,28,32]=true:=by kernel_rfl
theorem c4j:mD ([(256,4)].flatMap tC)=true:=by kernel_rfl
theorem c7G:vK ([(160,96,9),(160,128,4),(192,128,7),(320,256,4)].flatMap a9c)=true:=by kernel_rfl
end Go.Ds
