/-
  A part of the proof of SoundSpeaks.
-/
import Derived.Test.YtkklaffajfjopaaGreatDoorVK
set_option linter.unusedVariables false
set_option linter.unusedSimpArgs false
set_option linter.defProp false
set_option linter.unusedSectionVars false
namespace Go.Ds
set_option maxRecDepth 100000
theorem c4b:a3k [(8,0),(8,1),(8,3),(8,6),(16,0),(16,1),(16,3)]=true:=by kernel_rfl
end Go.Ds
