/-
  A part of the proof of SoundSpeaks.
-/
import Derived.Test.YtkklaffajfjopaaGreatDoorVK
set_option linter.unusedVariables false
set_option linter.unusedSimpArgs false
set_option linter.defProp false
set_option linter.unusedSectionVars false
namespace Go.Ds
set_option maxRecDepth 100000
theorem c5r:a3k [(16,6),(16,7),(16,8),(16,9),(32,0),(32,1),(32,3)]=true:=by kernel_rfl
end Go.Ds
