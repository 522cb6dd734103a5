/-
  DERIVED. GIVEN WITH THE SEED: THE CARDS: each row of YtgdbijjabomdoaaGreatDoorRows.lean that lists a variable, with what it lists TIED to the program's text (the seventh form; the later family's looks); each row that meets fmt, with fmt's text TOLD by the authors' own Lean function (tested against real Go, not proved from fmt's source: count such statements apart). THE CARD IS WHAT COUNTS. Prove the row's statement (the work); the ties are given (YtgdbijjabomdoaaGreatDoorTie.lean); close each card by the builder's one call (the guide's Derived/Test/ToyasCard.lean, 'card_holds'). Laid BY PROGRAM, IN A SANDBOX (cutbox-door.mjs). By AI agents, Wed Nov 11 2026. No macro, syntax, notation, axiom, sorry.
-/
import Derived.Test.YtgdbijjabomdoaaGreatDoorRows
import GoSem.ClaimSeven
namespace Go.Proofs.YtgdbijjabomdoaaGreatDoor
namespace Rows

/-- THE TIED CARD OF 'bombardetop.TopSoundsAreReasons'. -/
def topSoundsAreReasonsCard : Claim7 := { stood := { row := topSoundsAreReasonsRow, standIns := [], harness := (true, "1e00cb4c6297b52d0247911f25606f80dd882d55aa7a66923646fca06f70625e"), looks := false }, kinds := [], alts := [], laidByText := true, laidKinds := [.data, .data, .data], laidTests := true, laidLooks := .later }
def TopSoundsAreReasonsCardSaid : Prop := Claim7.holds Tryz.pinned (.plain (OpenSpec.ofChange topSoundsAreReasonsSpec)) topSoundsAreReasonsCard

/-- THE TIED CARD OF 'bombardelaw26.ReasonVerifies'. -/
def reasonVerifiesCard : Claim7 := { stood := { row := reasonVerifiesRow, standIns := [], harness := (true, "1e00cb4c6297b52d0247911f25606f80dd882d55aa7a66923646fca06f70625e"), looks := false }, kinds := [], alts := [], laidByText := true, laidKinds := [.data, .data, .data], laidTests := true, laidLooks := .later }
def ReasonVerifiesCardSaid : Prop := Claim7.holds Tryz.pinned (.plain (OpenSpec.ofChange reasonVerifiesSpec)) reasonVerifiesCard

/-- THE TIED CARD OF 'bombardelaw26.ReasonNeeds'. -/
def reasonNeedsCard : Claim7 := { stood := { row := reasonNeedsRow, standIns := [], harness := (true, "1e00cb4c6297b52d0247911f25606f80dd882d55aa7a66923646fca06f70625e"), looks := false }, kinds := [], alts := [], laidByText := true, laidKinds := [.data, .data, .data], laidTests := true, laidLooks := .later }
def ReasonNeedsCardSaid : Prop := Claim7.holds Tryz.pinned (.plain (OpenSpec.ofChange reasonNeedsSpec)) reasonNeedsCard

/-- THE TIED CARD OF 'bombardelaw26.ReasonAll'. -/
def reasonAllCard : Claim7 := { stood := { row := reasonAllRow, standIns := [], harness := (true, "1e00cb4c6297b52d0247911f25606f80dd882d55aa7a66923646fca06f70625e"), looks := false }, kinds := [], alts := [], laidByText := true, laidKinds := [.data, .data, .data], laidTests := true, laidLooks := .later }
def ReasonAllCardSaid : Prop := Claim7.holds Tryz.pinned (.plain (OpenSpec.ofChange reasonAllSpec)) reasonAllCard

/-- THE SECOND FORM's CARD OF 'bombardetop.TopSoundsAreReasons'. -/
def topSoundsAreReasonsUptoCard : Claim7 := { stood := { row := topSoundsAreReasonsUptoRow, standIns := [], harness := (true, "1e00cb4c6297b52d0247911f25606f80dd882d55aa7a66923646fca06f70625e"), looks := false }, kinds := [], alts := [], laidByText := true, laidKinds := [.data, .data, .data], laidTests := true, laidLooks := .later }
def TopSoundsAreReasonsUptoCardSaid : Prop := Claim7.holds Tryz.pinned (.plain (OpenSpec.upto topSoundsAreReasonsSpec)) topSoundsAreReasonsUptoCard

/-- THE SECOND FORM's CARD OF 'bombardelaw26.ReasonVerifies'. -/
def reasonVerifiesUptoCard : Claim7 := { stood := { row := reasonVerifiesUptoRow, standIns := [], harness := (true, "1e00cb4c6297b52d0247911f25606f80dd882d55aa7a66923646fca06f70625e"), looks := false }, kinds := [], alts := [], laidByText := true, laidKinds := [.data, .data, .data], laidTests := true, laidLooks := .later }
def ReasonVerifiesUptoCardSaid : Prop := Claim7.holds Tryz.pinned (.plain (OpenSpec.upto reasonVerifiesSpec)) reasonVerifiesUptoCard

/-- THE SECOND FORM's CARD OF 'bombardelaw26.ReasonNeeds'. -/
def reasonNeedsUptoCard : Claim7 := { stood := { row := reasonNeedsUptoRow, standIns := [], harness := (true, "1e00cb4c6297b52d0247911f25606f80dd882d55aa7a66923646fca06f70625e"), looks := false }, kinds := [], alts := [], laidByText := true, laidKinds := [.data, .data, .data], laidTests := true, laidLooks := .later }
def ReasonNeedsUptoCardSaid : Prop := Claim7.holds Tryz.pinned (.plain (OpenSpec.upto reasonNeedsSpec)) reasonNeedsUptoCard

/-- THE SECOND FORM's CARD OF 'bombardelaw26.ReasonAll'. -/
def reasonAllUptoCard : Claim7 := { stood := { row := reasonAllUptoRow, standIns := [], harness := (true, "1e00cb4c6297b52d0247911f25606f80dd882d55aa7a66923646fca06f70625e"), looks := false }, kinds := [], alts := [], laidByText := true, laidKinds := [.data, .data, .data], laidTests := true, laidLooks := .later }
def ReasonAllUptoCardSaid : Prop := Claim7.holds Tryz.pinned (.plain (OpenSpec.upto reasonAllSpec)) reasonAllUptoCard
end Rows
end Go.Proofs.YtgdbijjabomdoaaGreatDoor
