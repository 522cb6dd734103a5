/-
  A part of the proof of SilenceAdds.
-/
import Derived.Test.YtkklaffajfjopaaGreatDoorVC
set_option linter.unusedVariables false
set_option linter.unusedSimpArgs false
set_option linter.defProp false
set_option linter.unusedSectionVars false
namespace Go.Ds
set_option maxRecDepth 100000
theorem c4Z:lX ([(24,9)].flatMap rZ)=true:=by kernel_rfl
theorem c2s:lX ([(96,9)].flatMap rZ)=true:=by kernel_rfl
theorem c3v:lX ([(8,7)].flatMap rZ)=true:=by kernel_rfl
theorem c2t:lX ([(64,7)].flatMap rZ)=true:=by kernel_rfl
theorem c4p:uV [40,48,56,64]=true:=by kernel_rfl
theorem c4Q:tQ ([(2,2,0),(4,4,0),(8,6,5),(8,8,0),(10,8,4),(12,8,7),(16,10,8),(16,12,5),(16,14,2)].flatMap a6U)=true:=by kernel_rfl
theorem c3p:tQ ([(40,24,9),(40,32,4),(40,40,0),(48,32,7),(48,40,3),(48,48,0),(56,32,10)].flatMap a6U)=true:=by kernel_rfl
theorem c4Y:lX ([(28,2)].flatMap rZ)=true:=by kernel_rfl
end Go.Ds
