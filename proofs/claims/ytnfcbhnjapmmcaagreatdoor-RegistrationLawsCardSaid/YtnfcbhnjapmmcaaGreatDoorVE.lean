/-
  A part of the proof of RegistrationLaws.
-/
import Derived.Test.YtnfcbhnjapmmcaaGreatDoorVC
set_option linter.unusedVariables false
set_option linter.unusedSimpArgs false
set_option linter.defProp false
set_option linter.unusedSectionVars false
set_option maxRecDepth 100000
set_option maxHeartbeats 2000000
namespace Go.Ds
theorem c7U:nA ([(32,10)].flatMap tW)=true:=by kernel_rfl
theorem c8c:nA ([(20,8)].flatMap tW)=true:=by kernel_rfl
theorem c7E:nA ([(2,0),(4,0),(6,5)].flatMap tW)=true:=by kernel_rfl
theorem c5X:nA ([(16,7)].flatMap tW)=true:=by kernel_rfl
theorem c6e:vW [20,24,28,32]=true:=by kernel_rfl
theorem c5b:nA ([(256,4)].flatMap tW)=true:=by kernel_rfl
theorem c6Q:wS ([(160,96,9),(160,128,4),(192,128,7),(320,256,4)].flatMap a8j)=true:=by kernel_rfl
end Go.Ds
