/-
  A part of the proof of SoundSpeaks.
-/
import Derived.Test.YtkklaffajfjopaaGreatDoorVK
set_option linter.unusedVariables false
set_option linter.unusedSimpArgs false
set_option linter.defProp false
set_option linter.unusedSectionVars false
namespace Go.Ds
set_option maxRecDepth 100000
theorem c4F:uU [(56,32,9),(56,32,10),(56,32,11),(64,64,0),(64,64,1)]=true:=by kernel_rfl
end Go.Ds
