/-
  A part of the proof of SilenceKeys.
-/
import Derived.Test.YtkklaffajfjopaaGreatDoorVC
set_option linter.unusedVariables false
set_option linter.unusedSimpArgs false
set_option linter.defProp false
set_option linter.unusedSectionVars false
namespace Go.Ds
set_option maxRecDepth 100000
theorem c1P:mA ([(56,9)].flatMap sD)=true:=by kernel_rfl
theorem c2J:mA ([(12,5),(14,2)].flatMap sD)=true:=by kernel_rfl
theorem c0Z:mA ([(80,8)].flatMap sD)=true:=by kernel_rfl
theorem c2H:uH [2,4,6,8]=true:=by kernel_rfl
theorem c3x:uH [10,12,14,16]=true:=by kernel_rfl
theorem c2l:uH [160,192,256,320]=true:=by kernel_rfl
theorem c4d:uL ([(80,64,4),(80,80,0),(96,56,9),(96,64,7),(96,96,0),(128,80,8),(128,112,2)].flatMap a6E)=true:=by kernel_rfl
theorem c5O:b9T [2,4,6,8,10,12,14,16,20,24,28,32,40,48,56,64,80,96,112,128,160,192,256,320]=true:=by kernel_rfl
end Go.Ds
