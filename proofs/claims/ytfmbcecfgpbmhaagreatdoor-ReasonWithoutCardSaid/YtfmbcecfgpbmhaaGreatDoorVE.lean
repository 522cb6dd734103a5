/-
  A part of the proof of ReasonWithout.
-/
import Derived.Test.YtfmbcecfgpbmhaaGreatDoorVC
set_option linter.unusedVariables false
set_option linter.unusedSimpArgs false
set_option linter.defProp false
set_option linter.unusedSectionVars false
namespace Go.Ds
set_option maxRecDepth 100000
theorem c8S:nP ([(32,10)].flatMap tY)=true:=by kernel_rfl
theorem c8n:nP ([(20,8)].flatMap tY)=true:=by kernel_rfl
theorem c7f:nP ([(2,0),(4,0),(6,5)].flatMap tY)=true:=by kernel_rfl
theorem c7b:nP ([(16,7)].flatMap tY)=true:=by kernel_rfl
theorem c7N:wT [20,24,28,32]=true:=by kernel_rfl
theorem c5g:nP ([(256,4)].flatMap tY)=true:=by kernel_rfl
theorem c8M:xL ([(160,96,9),(160,128,4),(192,128,7),(320,256,4)].flatMap a9j)=true:=by kernel_rfl
end Go.Ds
