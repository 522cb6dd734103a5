/-
  A part of the proof of SoundSpeaks.
-/
import Derived.Test.YtkklaffajfjopaaGreatDoorVK
set_option linter.unusedVariables false
set_option linter.unusedSimpArgs false
set_option linter.defProp false
set_option linter.unusedSectionVars false
namespace Go.Ds
set_option maxRecDepth 100000
theorem c5p:uU [(48,32,6),(48,32,7),(48,32,8),(48,32,9),(56,32,6)]=true:=by kernel_rfl
end Go.Ds
