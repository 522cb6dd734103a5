/-
  A part of the proof of SilenceKeys.
-/
import Derived.Test.YtkklaffajfjopaaGreatDoorVC
set_option linter.unusedVariables false
set_option linter.unusedSimpArgs false
set_option linter.defProp false
set_option linter.unusedSectionVars false
namespace Go.Ds
set_option maxRecDepth 100000
theorem c2E:mA ([(32,10)].flatMap sD)=true:=by kernel_rfl
theorem c3p:mA ([(20,8)].flatMap sD)=true:=by kernel_rfl
theorem c3P:mA ([(2,0),(4,0),(6,5)].flatMap sD)=true:=by kernel_rfl
theorem c4s:mA ([(16,7)].flatMap sD)=true:=by kernel_rfl
theorem c4i:uH [20,24,28,32]=true:=by kernel_rfl
theorem c2e:mA ([(256,4)].flatMap sD)=true:=by kernel_rfl
theorem c2L:uL ([(160,96,9),(160,128,4),(192,128,7),(320,256,4)].flatMap a6E)=true:=by kernel_rfl
end Go.Ds
