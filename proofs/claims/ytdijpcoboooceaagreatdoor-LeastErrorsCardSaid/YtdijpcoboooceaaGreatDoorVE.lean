/-
  A part of the proof of LeastErrors.
-/
import Derived.Test.YtdijpcoboooceaaGreatDoorVC
set_option linter.unusedVariables false
set_option linter.unusedSimpArgs false
set_option linter.defProp false
set_option linter.unusedSectionVars false
set_option maxRecDepth 100000
set_option maxHeartbeats 2000000
namespace Go.Ds
theorem d2q:nW ([(32,10)].flatMap uY)=true:=by kernel_rfl
theorem d2c:nW ([(20,8)].flatMap uY)=true:=by kernel_rfl
theorem d2k:nW ([(2,0),(4,0),(6,5)].flatMap uY)=true:=by kernel_rfl
theorem d2P:nW ([(16,7)].flatMap uY)=true:=by kernel_rfl
theorem d1y:yN [20,24,28,32]=true:=by kernel_rfl
theorem c8D:nW ([(256,4)].flatMap uY)=true:=by kernel_rfl
theorem d1A:xQ ([(160,96,9),(160,128,4),(192,128,7),(320,256,4)].flatMap b0E)=true:=by kernel_rfl
end Go.Ds
