/-
  A part of the proof of SoundSpeaks.
-/
import Derived.Test.YtkklaffajfjopaaGreatDoorVK
set_option linter.unusedVariables false
set_option linter.unusedSimpArgs false
set_option linter.defProp false
set_option linter.unusedSectionVars false
namespace Go.Ds
set_option maxRecDepth 100000
theorem c6o:a3k [(32,4),(32,5),(32,6),(32,7),(32,8),(32,9),(32,10)]=true:=by kernel_rfl
end Go.Ds
