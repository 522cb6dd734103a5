/-
  A part of the proof of RegistrationLaws.
-/
import Derived.Test.YtnfcbhnjapmmcaaGreatDoorVC
set_option linter.unusedVariables false
set_option linter.unusedSimpArgs false
set_option linter.defProp false
set_option linter.unusedSectionVars false
set_option maxRecDepth 100000
set_option maxHeartbeats 2000000
namespace Go.Ds
theorem c4Y:nA ([(48,9)].flatMap tW)=true:=by kernel_rfl
theorem c7Q:nA ([(10,8)].flatMap tW)=true:=by kernel_rfl
theorem c6M:nA ([(40,8)].flatMap tW)=true:=by kernel_rfl
theorem c5l:nA ([(128,7)].flatMap tW)=true:=by kernel_rfl
theorem c6q:vW [80,96,112,128]=true:=by kernel_rfl
theorem c6l:wS ([(16,16,0),(20,16,4),(24,16,7),(24,24,0),(32,20,8),(32,24,5),(32,28,2),(32,32,0)].flatMap a8j)=true:=by kernel_rfl
theorem c8m:wS ([(64,40,8),(64,48,5),(64,56,2),(64,64,0),(80,48,9),(80,56,6)].flatMap a8j)=true:=by kernel_rfl
theorem c3w:nA ([(112,2)].flatMap tW)=true:=by kernel_rfl
end Go.Ds
