/-
  A part of the proof of RegistrationSounds.
-/
import Derived.Test.YtfpmpjecbdibnaaGreatDoorVC
set_option linter.unusedVariables false
set_option linter.unusedSimpArgs false
set_option linter.defProp false
set_option linter.unusedSectionVars false
set_option maxRecDepth 100000
set_option maxHeartbeats 2000000
namespace Go.Ds
theorem c6P:mY ([(32,10)].flatMap tB)=true:=by kernel_rfl
theorem c5Q:mY ([(20,8)].flatMap tB)=true:=by kernel_rfl
theorem c5y:mY ([(2,0),(4,0),(6,5)].flatMap tB)=true:=by kernel_rfl
theorem c5t:mY ([(16,7)].flatMap tB)=true:=by kernel_rfl
theorem c5X:wG [20,24,28,32]=true:=by kernel_rfl
theorem c3l:mY ([(256,4)].flatMap tB)=true:=by kernel_rfl
theorem c5m:vI ([(160,96,9),(160,128,4),(192,128,7),(320,256,4)].flatMap a8y)=true:=by kernel_rfl
end Go.Ds
