/-
  A part of the proof of ReasonLaws.
-/
import Derived.Test.YtfmbcecfgpbmhaaGreatDoorVC
set_option linter.unusedVariables false
set_option linter.unusedSimpArgs false
set_option linter.defProp false
set_option linter.unusedSectionVars false
namespace Go.Ds
set_option maxRecDepth 100000
theorem c9o:nO ([(32,10)].flatMap uP)=true:=by kernel_rfl
theorem c9b:nO ([(20,8)].flatMap uP)=true:=by kernel_rfl
theorem c9d:nO ([(2,0),(4,0),(6,5)].flatMap uP)=true:=by kernel_rfl
theorem c9c:nO ([(16,7)].flatMap uP)=true:=by kernel_rfl
theorem c8Y:xA [20,24,28,32]=true:=by kernel_rfl
theorem c6U:nO ([(256,4)].flatMap uP)=true:=by kernel_rfl
theorem c8z:wY ([(160,96,9),(160,128,4),(192,128,7),(320,256,4)].flatMap a8f)=true:=by kernel_rfl
end Go.Ds
