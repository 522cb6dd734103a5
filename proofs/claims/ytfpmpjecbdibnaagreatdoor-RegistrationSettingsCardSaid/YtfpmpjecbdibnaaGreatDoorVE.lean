/-
  A part of the proof of RegistrationSettings.
-/
import Derived.Test.YtfpmpjecbdibnaaGreatDoorVC
set_option linter.unusedVariables false
set_option linter.unusedSimpArgs false
set_option linter.defProp false
set_option linter.unusedSectionVars false
set_option maxRecDepth 100000
set_option maxHeartbeats 2000000
namespace Go.Ds
theorem c6M:mU ([(32,10)].flatMap tG)=true:=by kernel_rfl
theorem c5k:mU ([(20,8)].flatMap tG)=true:=by kernel_rfl
theorem c6T:mU ([(2,0),(4,0),(6,5)].flatMap tG)=true:=by kernel_rfl
theorem c6c:mU ([(16,7)].flatMap tG)=true:=by kernel_rfl
theorem c5p:vS [20,24,28,32]=true:=by kernel_rfl
theorem c2w:mU ([(256,4)].flatMap tG)=true:=by kernel_rfl
theorem c6i:vG ([(160,96,9),(160,128,4),(192,128,7),(320,256,4)].flatMap a7y)=true:=by kernel_rfl
end Go.Ds
