/-
  A part of the proof of RegistrationChecks.
-/
import Derived.Test.YtnfcbhnjapmmcaaGreatDoorVC
set_option linter.unusedVariables false
set_option linter.unusedSimpArgs false
set_option linter.defProp false
set_option linter.unusedSectionVars false
set_option maxRecDepth 100000
set_option maxHeartbeats 2000000
namespace Go.Ds
theorem c4t:mU ([(56,9)].flatMap tJ)=true:=by kernel_rfl
theorem c5C:mU ([(12,5),(14,2)].flatMap tJ)=true:=by kernel_rfl
theorem c4j:mU ([(80,8)].flatMap tJ)=true:=by kernel_rfl
theorem c6O:vY [2,4,6,8]=true:=by kernel_rfl
theorem c5E:vY [10,12,14,16]=true:=by kernel_rfl
theorem c6l:vY [160,192,256,320]=true:=by kernel_rfl
theorem c5K:vZ ([(80,64,4),(80,80,0),(96,56,9),(96,64,7),(96,96,0),(128,80,8),(128,112,2)].flatMap a6T)=true:=by kernel_rfl
theorem c8D:c2m [2,4,6,8,10,12,14,16,20,24,28,32,40,48,56,64,80,96,112,128,160,192,256,320]=true:=by kernel_rfl
end Go.Ds
