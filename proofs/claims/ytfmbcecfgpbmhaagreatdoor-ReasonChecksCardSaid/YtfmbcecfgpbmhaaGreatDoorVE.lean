/-
  A part of the proof of ReasonChecks.
-/
import Derived.Test.YtfmbcecfgpbmhaaGreatDoorVC
set_option linter.unusedVariables false
set_option linter.unusedSimpArgs false
set_option linter.defProp false
set_option linter.unusedSectionVars false
namespace Go.Ds
set_option maxRecDepth 100000
theorem c7I:nR ([(32,10)].flatMap tX)=true:=by kernel_rfl
theorem c7D:nR ([(20,8)].flatMap tX)=true:=by kernel_rfl
theorem c8B:nR ([(2,0),(4,0),(6,5)].flatMap tX)=true:=by kernel_rfl
theorem c9s:nR ([(16,7)].flatMap tX)=true:=by kernel_rfl
theorem c8m:xE [20,24,28,32]=true:=by kernel_rfl
theorem c5v:nR ([(256,4)].flatMap tX)=true:=by kernel_rfl
theorem c8k:wK ([(160,96,9),(160,128,4),(192,128,7),(320,256,4)].flatMap a9n)=true:=by kernel_rfl
end Go.Ds
