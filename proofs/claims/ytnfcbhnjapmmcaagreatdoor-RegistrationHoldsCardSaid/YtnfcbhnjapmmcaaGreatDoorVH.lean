/-
  A part of the proof of RegistrationHolds.
-/
import Derived.Test.YtnfcbhnjapmmcaaGreatDoorVC
set_option linter.unusedVariables false
set_option linter.unusedSimpArgs false
set_option linter.defProp false
set_option linter.unusedSectionVars false
set_option maxRecDepth 100000
set_option maxHeartbeats 2000000
namespace Go.Ds
theorem c3c:nC ([(56,9)].flatMap tG)=true:=by kernel_rfl
theorem c6q:nC ([(12,5),(14,2)].flatMap tG)=true:=by kernel_rfl
theorem c3J:nC ([(80,8)].flatMap tG)=true:=by kernel_rfl
theorem c6x:wO [2,4,6,8]=true:=by kernel_rfl
theorem c6O:wO [10,12,14,16]=true:=by kernel_rfl
theorem c7z:wO [160,192,256,320]=true:=by kernel_rfl
theorem c5a:wL ([(80,64,4),(80,80,0),(96,56,9),(96,64,7),(96,96,0),(128,80,8),(128,112,2)].flatMap a7t)=true:=by kernel_rfl
theorem c8O:c2n [2,4,6,8,10,12,14,16,20,24,28,32,40,48,56,64,80,96,112,128,160,192,256,320]=true:=by kernel_rfl
end Go.Ds
