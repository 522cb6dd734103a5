/-
  A part of the proof of SoundSpeaks.
-/
import Derived.Test.YtkklaffajfjopaaGreatDoorVK
set_option linter.unusedVariables false
set_option linter.unusedSimpArgs false
set_option linter.defProp false
set_option linter.unusedSectionVars false
namespace Go.Ds
set_option maxRecDepth 100000
theorem c4V:uU [(32,32,6),(40,32,3),(40,32,4),(40,32,5),(40,32,6)]=true:=by kernel_rfl
end Go.Ds
