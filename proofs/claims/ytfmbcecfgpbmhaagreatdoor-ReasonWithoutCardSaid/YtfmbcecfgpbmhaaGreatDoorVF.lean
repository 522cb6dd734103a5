/-
  A part of the proof of ReasonWithout.
-/
import Derived.Test.YtfmbcecfgpbmhaaGreatDoorVC
set_option linter.unusedVariables false
set_option linter.unusedSimpArgs false
set_option linter.defProp false
set_option linter.unusedSectionVars false
namespace Go.Ds
set_option maxRecDepth 100000
theorem c6W:nP ([(24,9)].flatMap tY)=true:=by kernel_rfl
theorem c5S:nP ([(96,9)].flatMap tY)=true:=by kernel_rfl
theorem c8Q:nP ([(8,7)].flatMap tY)=true:=by kernel_rfl
theorem c4U:nP ([(64,7)].flatMap tY)=true:=by kernel_rfl
theorem c7v:wT [40,48,56,64]=true:=by kernel_rfl
theorem c8l:xL ([(2,2,0),(4,4,0),(8,6,5),(8,8,0),(10,8,4),(12,8,7),(16,10,8),(16,12,5),(16,14,2)].flatMap a9j)=true:=by kernel_rfl
theorem c7J:xL ([(40,24,9),(40,32,4),(40,40,0),(48,32,7),(48,40,3),(48,48,0),(56,32,10)].flatMap a9j)=true:=by kernel_rfl
theorem c8D:nP ([(28,2)].flatMap tY)=true:=by kernel_rfl
end Go.Ds
