/-
  A part of the proof of SoundSpeaks.
-/
import Derived.Test.YtkklaffajfjopaaGreatDoorVK
set_option linter.unusedVariables false
set_option linter.unusedSimpArgs false
set_option linter.defProp false
set_option linter.unusedSectionVars false
namespace Go.Ds
set_option maxRecDepth 100000
theorem c5O:a1E [(2,1),(2,3),(2,7),(2,9),(2,11),(2,13),(2,15),(2,17),(2,19),(2,21),(2,23)]=true:=by kernel_rfl
end Go.Ds
