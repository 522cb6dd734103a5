/-
  A part of the proof of ReasonLaws.
-/
import Derived.Test.YtfmbcecfgpbmhaaGreatDoorVC
set_option linter.unusedVariables false
set_option linter.unusedSimpArgs false
set_option linter.defProp false
set_option linter.unusedSectionVars false
namespace Go.Ds
set_option maxRecDepth 100000
theorem c7u:nO ([(56,9)].flatMap uP)=true:=by kernel_rfl
theorem c9k:nO ([(12,5),(14,2)].flatMap uP)=true:=by kernel_rfl
theorem c6I:nO ([(80,8)].flatMap uP)=true:=by kernel_rfl
theorem c8p:xA [2,4,6,8]=true:=by kernel_rfl
theorem c9I:xA [10,12,14,16]=true:=by kernel_rfl
theorem c9T:xA [160,192,256,320]=true:=by kernel_rfl
theorem c8T:wY ([(80,64,4),(80,80,0),(96,56,9),(96,64,7),(96,96,0),(128,80,8),(128,112,2)].flatMap a8f)=true:=by kernel_rfl
theorem d1A:c5y [2,4,6,8,10,12,14,16,20,24,28,32,40,48,56,64,80,96,112,128,160,192,256,320]=true:=by kernel_rfl
end Go.Ds
