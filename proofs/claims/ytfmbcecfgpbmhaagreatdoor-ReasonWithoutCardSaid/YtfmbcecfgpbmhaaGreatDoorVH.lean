/-
  A part of the proof of ReasonWithout.
-/
import Derived.Test.YtfmbcecfgpbmhaaGreatDoorVC
set_option linter.unusedVariables false
set_option linter.unusedSimpArgs false
set_option linter.defProp false
set_option linter.unusedSectionVars false
namespace Go.Ds
set_option maxRecDepth 100000
theorem c5i:nP ([(56,9)].flatMap tY)=true:=by kernel_rfl
theorem c7m:nP ([(12,5),(14,2)].flatMap tY)=true:=by kernel_rfl
theorem c5r:nP ([(80,8)].flatMap tY)=true:=by kernel_rfl
theorem c6P:wT [2,4,6,8]=true:=by kernel_rfl
theorem c6J:wT [10,12,14,16]=true:=by kernel_rfl
theorem c6E:wT [160,192,256,320]=true:=by kernel_rfl
theorem c8w:xL ([(80,64,4),(80,80,0),(96,56,9),(96,64,7),(96,96,0),(128,80,8),(128,112,2)].flatMap a9j)=true:=by kernel_rfl
theorem c9E:c4l [2,4,6,8,10,12,14,16,20,24,28,32,40,48,56,64,80,96,112,128,160,192,256,320]=true:=by kernel_rfl
end Go.Ds
