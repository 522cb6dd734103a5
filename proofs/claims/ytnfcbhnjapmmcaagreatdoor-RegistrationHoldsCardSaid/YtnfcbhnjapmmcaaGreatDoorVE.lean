/-
  A part of the proof of RegistrationHolds.
-/
import Derived.Test.YtnfcbhnjapmmcaaGreatDoorVC
set_option linter.unusedVariables false
set_option linter.unusedSimpArgs false
set_option linter.defProp false
set_option linter.unusedSectionVars false
set_option maxRecDepth 100000
set_option maxHeartbeats 2000000
namespace Go.Ds
theorem c6m:nC ([(32,10)].flatMap tG)=true:=by kernel_rfl
theorem c7w:nC ([(20,8)].flatMap tG)=true:=by kernel_rfl
theorem c5o:nC ([(2,0),(4,0),(6,5)].flatMap tG)=true:=by kernel_rfl
theorem c4T:nC ([(16,7)].flatMap tG)=true:=by kernel_rfl
theorem c7r:wO [20,24,28,32]=true:=by kernel_rfl
theorem c3z:nC ([(256,4)].flatMap tG)=true:=by kernel_rfl
theorem c7f:wL ([(160,96,9),(160,128,4),(192,128,7),(320,256,4)].flatMap a7t)=true:=by kernel_rfl
end Go.Ds
