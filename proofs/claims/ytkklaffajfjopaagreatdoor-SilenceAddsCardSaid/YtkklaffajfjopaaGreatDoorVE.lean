/-
  A part of the proof of SilenceAdds.
-/
import Derived.Test.YtkklaffajfjopaaGreatDoorVC
set_option linter.unusedVariables false
set_option linter.unusedSimpArgs false
set_option linter.defProp false
set_option linter.unusedSectionVars false
namespace Go.Ds
set_option maxRecDepth 100000
theorem c2E:lX ([(32,10)].flatMap rZ)=true:=by kernel_rfl
theorem c2N:lX ([(20,8)].flatMap rZ)=true:=by kernel_rfl
theorem c2F:lX ([(2,0),(4,0),(6,5)].flatMap rZ)=true:=by kernel_rfl
theorem c5b:lX ([(16,7)].flatMap rZ)=true:=by kernel_rfl
theorem c3H:uV [20,24,28,32]=true:=by kernel_rfl
theorem c0Q:lX ([(256,4)].flatMap rZ)=true:=by kernel_rfl
theorem c4I:tQ ([(160,96,9),(160,128,4),(192,128,7),(320,256,4)].flatMap a6U)=true:=by kernel_rfl
end Go.Ds
