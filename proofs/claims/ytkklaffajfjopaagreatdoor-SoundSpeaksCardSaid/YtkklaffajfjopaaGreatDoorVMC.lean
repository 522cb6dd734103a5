/-
  A part of the proof of SoundSpeaks.
-/
import Derived.Test.YtkklaffajfjopaaGreatDoorVK
set_option linter.unusedVariables false
set_option linter.unusedSimpArgs false
set_option linter.defProp false
set_option linter.unusedSectionVars false
namespace Go.Ds
set_option maxRecDepth 100000
theorem c4r:a1E [(56,24),(64,24)]=true:=by kernel_rfl
end Go.Ds
