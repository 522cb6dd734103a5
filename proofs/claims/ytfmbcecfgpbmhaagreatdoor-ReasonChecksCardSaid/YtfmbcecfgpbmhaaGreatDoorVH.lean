/-
  A part of the proof of ReasonChecks.
-/
import Derived.Test.YtfmbcecfgpbmhaaGreatDoorVC
set_option linter.unusedVariables false
set_option linter.unusedSimpArgs false
set_option linter.defProp false
set_option linter.unusedSectionVars false
namespace Go.Ds
set_option maxRecDepth 100000
theorem c6o:nR ([(56,9)].flatMap tX)=true:=by kernel_rfl
theorem c8p:nR ([(12,5),(14,2)].flatMap tX)=true:=by kernel_rfl
theorem c5F:nR ([(80,8)].flatMap tX)=true:=by kernel_rfl
theorem c8V:xE [2,4,6,8]=true:=by kernel_rfl
theorem c7W:xE [10,12,14,16]=true:=by kernel_rfl
theorem c8i:xE [160,192,256,320]=true:=by kernel_rfl
theorem c7O:wK ([(80,64,4),(80,80,0),(96,56,9),(96,64,7),(96,96,0),(128,80,8),(128,112,2)].flatMap a9n)=true:=by kernel_rfl
theorem c9V:c4x [2,4,6,8,10,12,14,16,20,24,28,32,40,48,56,64,80,96,112,128,160,192,256,320]=true:=by kernel_rfl
end Go.Ds
