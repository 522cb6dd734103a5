/-
  A part of the proof of SoundSpeaks.
-/
import Derived.Test.YtkklaffajfjopaaGreatDoorVK
set_option linter.unusedVariables false
set_option linter.unusedSimpArgs false
set_option linter.defProp false
set_option linter.unusedSectionVars false
namespace Go.Ds
set_option maxRecDepth 100000
theorem c5L:uU [(16,16,1),(16,16,3),(16,16,6),(24,16,6),(24,16,7)]=true:=by kernel_rfl
end Go.Ds
