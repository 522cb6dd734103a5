/-
  A part of the proof of DemandShrinks.
-/
import Derived.Test.YteeidkllchpplaaGreatDoorVC
set_option linter.unusedVariables false
set_option linter.unusedSimpArgs false
set_option linter.defProp false
set_option linter.unusedSectionVars false
namespace Go.Ds
set_option maxRecDepth 100000
theorem c3S:mD ([(56,9)].flatMap tC)=true:=by kernel_rfl
theorem c6m:mD ([(12,5),(14,2)].flatMap tC)=true:=by kernel_rfl
theorem c3U:mD ([(80,8)].flatMap tC)=true:=by kernel_rfl
theorem c7l:wD [2,4,6,8]=true:=by kernel_rfl
theorem c7g:wD [10,12,14,16]=true:=by kernel_rfl
theorem c6g:wD [160,192,256,320]=true:=by kernel_rfl
theorem c7p:vK ([(80,64,4),(80,80,0),(96,56,9),(96,64,7),(96,96,0),(128,80,8),(128,112,2)].flatMap a9c)=true:=by kernel_rfl
theorem c8y:c2j [2,4,6,8,10,12,14,16,20,24,28,32,40,48,56,64,80,96,112,128,160,192,256,320]=true:=by kernel_rfl
end Go.Ds
