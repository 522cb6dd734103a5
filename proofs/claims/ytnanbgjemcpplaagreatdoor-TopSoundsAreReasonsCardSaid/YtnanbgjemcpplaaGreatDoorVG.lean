/-
  A part of the proof of TopSoundsAreReasons.
-/
import Derived.Test.YtnanbgjemcpplaaGreatDoorVC
set_option linter.unusedVariables false
set_option linter.unusedSimpArgs false
set_option linter.defProp false
set_option linter.unusedSectionVars false
set_option maxRecDepth 100000
set_option maxHeartbeats 2000000
namespace Go.Ds
theorem c6I:nD ([(48,9)].flatMap uE)=true:=by kernel_rfl
theorem c8Q:nD ([(10,8)].flatMap uE)=true:=by kernel_rfl
theorem d0k:nD ([(40,8)].flatMap uE)=true:=by kernel_rfl
theorem c7I:nD ([(128,7)].flatMap uE)=true:=by kernel_rfl
theorem d0o:wH [80,96,112,128]=true:=by kernel_rfl
theorem c8u:wT ([(16,16,0),(20,16,4),(24,16,7),(24,24,0),(32,20,8),(32,24,5),(32,28,2),(32,32,0)].flatMap a9m)=true:=by kernel_rfl
theorem c9u:wT ([(64,40,8),(64,48,5),(64,56,2),(64,64,0),(80,48,9),(80,56,6)].flatMap a9m)=true:=by kernel_rfl
theorem c5K:nD ([(112,2)].flatMap uE)=true:=by kernel_rfl
end Go.Ds
