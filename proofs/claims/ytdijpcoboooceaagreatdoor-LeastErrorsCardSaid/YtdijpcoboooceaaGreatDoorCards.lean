/-
  DERIVED. GIVEN WITH THE SEED: THE CARDS: each row of YtdijpcoboooceaaGreatDoorRows.lean that lists a variable, with what it lists TIED to the program's text (the seventh form; the later family's looks); each row that meets fmt, with fmt's text TOLD by the authors' own Lean function (tested against real Go, not proved from fmt's source: count such statements apart). THE CARD IS WHAT COUNTS. Prove the row's statement (the work); the ties are given (YtdijpcoboooceaaGreatDoorTie.lean); close each card by the builder's one call (the guide's Derived/Test/ToyasCard.lean, 'card_holds'). Laid BY PROGRAM, IN A SANDBOX (cutbox-door.mjs). By AI agents, Wed Nov 11 2026. No macro, syntax, notation, axiom, sorry.
-/
import Derived.Test.YtdijpcoboooceaaGreatDoorRows
import GoSem.ClaimSeven
namespace Go.Proofs.YtdijpcoboooceaaGreatDoor
namespace Rows

/-- THE TIED CARD OF 'bombardelaw30.LeastSets'. -/
def leastSetsCard : Claim7 := { stood := { row := leastSetsRow, standIns := [], harness := (true, "8e0dc204cc4553e9d02e297ebf2b69412e363504b98707e598d0787df8fdd8cd"), looks := false }, kinds := [], alts := [], laidByText := true, laidKinds := [.data, .data, .data], laidTests := true, laidLooks := .later }
def LeastSetsCardSaid : Prop := Claim7.holds Tryz.pinned (.plain (OpenSpec.ofChange leastSetsSpec)) leastSetsCard

/-- THE TIED CARD OF 'bombardelaw30.LeastLaws'. -/
def leastLawsCard : Claim7 := { stood := { row := leastLawsRow, standIns := [], harness := (true, "8e0dc204cc4553e9d02e297ebf2b69412e363504b98707e598d0787df8fdd8cd"), looks := false }, kinds := [], alts := [], laidByText := true, laidKinds := [.data, .data, .data], laidTests := true, laidLooks := .later }
def LeastLawsCardSaid : Prop := Claim7.holds Tryz.pinned (.plain (OpenSpec.ofChange leastLawsSpec)) leastLawsCard

/-- THE TIED CARD OF 'bombardelaw30.LeastIdle'. -/
def leastIdleCard : Claim7 := { stood := { row := leastIdleRow, standIns := [], harness := (true, "8e0dc204cc4553e9d02e297ebf2b69412e363504b98707e598d0787df8fdd8cd"), looks := false }, kinds := [], alts := [], laidByText := true, laidKinds := [.data, .data, .data], laidTests := true, laidLooks := .later }
def LeastIdleCardSaid : Prop := Claim7.holds Tryz.pinned (.plain (OpenSpec.ofChange leastIdleSpec)) leastIdleCard

/-- THE TIED CARD OF 'bombardelaw30.LeastFinds'. -/
def leastFindsCard : Claim7 := { stood := { row := leastFindsRow, standIns := [], harness := (true, "8e0dc204cc4553e9d02e297ebf2b69412e363504b98707e598d0787df8fdd8cd"), looks := false }, kinds := [], alts := [], laidByText := true, laidKinds := [.data, .data, .data], laidTests := true, laidLooks := .later }
def LeastFindsCardSaid : Prop := Claim7.holds Tryz.pinned (.plain (OpenSpec.ofChange leastFindsSpec)) leastFindsCard

/-- THE TIED CARD OF 'bombardelaw30.LeastVerifies'. -/
def leastVerifiesCard : Claim7 := { stood := { row := leastVerifiesRow, standIns := [], harness := (true, "8e0dc204cc4553e9d02e297ebf2b69412e363504b98707e598d0787df8fdd8cd"), looks := false }, kinds := [], alts := [], laidByText := true, laidKinds := [.data, .data, .data], laidTests := true, laidLooks := .later }
def LeastVerifiesCardSaid : Prop := Claim7.holds Tryz.pinned (.plain (OpenSpec.ofChange leastVerifiesSpec)) leastVerifiesCard

/-- THE TIED CARD OF 'bombardelaw30.LeastFor'. -/
def leastForCard : Claim7 := { stood := { row := leastForRow, standIns := [], harness := (true, "8e0dc204cc4553e9d02e297ebf2b69412e363504b98707e598d0787df8fdd8cd"), looks := false }, kinds := [], alts := [], laidByText := true, laidKinds := [.data, .data, .data], laidTests := true, laidLooks := .later }
def LeastForCardSaid : Prop := Claim7.holds Tryz.pinned (.plain (OpenSpec.ofChange leastForSpec)) leastForCard

/-- THE TIED CARD OF 'bombardelaw30.LeastErrors'. -/
def leastErrorsCard : Claim7 := { stood := { row := leastErrorsRow, standIns := [], harness := (true, "8e0dc204cc4553e9d02e297ebf2b69412e363504b98707e598d0787df8fdd8cd"), looks := false }, kinds := [], alts := [], laidByText := true, laidKinds := [.data, .data, .data], laidTests := true, laidLooks := .later }
def LeastErrorsCardSaid : Prop := Claim7.holds Tryz.pinned (.plain (OpenSpec.ofChange leastErrorsSpec)) leastErrorsCard

/-- THE TIED CARD OF 'bombardetop.TopEquivalentSound'. -/
def topEquivalentSoundCard : Claim7 := { stood := { row := topEquivalentSoundRow, standIns := [], harness := (true, "8e0dc204cc4553e9d02e297ebf2b69412e363504b98707e598d0787df8fdd8cd"), looks := false }, kinds := [], alts := [], laidByText := true, laidKinds := [.data, .data, .data], laidTests := true, laidLooks := .later }
def TopEquivalentSoundCardSaid : Prop := Claim7.holds Tryz.pinned (.plain (OpenSpec.ofChange topEquivalentSoundSpec)) topEquivalentSoundCard

/-- THE SECOND FORM's CARD OF 'bombardelaw30.LeastSets'. -/
def leastSetsUptoCard : Claim7 := { stood := { row := leastSetsUptoRow, standIns := [], harness := (true, "8e0dc204cc4553e9d02e297ebf2b69412e363504b98707e598d0787df8fdd8cd"), looks := false }, kinds := [], alts := [], laidByText := true, laidKinds := [.data, .data, .data], laidTests := true, laidLooks := .later }
def LeastSetsUptoCardSaid : Prop := Claim7.holds Tryz.pinned (.plain (OpenSpec.upto leastSetsSpec)) leastSetsUptoCard

/-- THE SECOND FORM's CARD OF 'bombardelaw30.LeastLaws'. -/
def leastLawsUptoCard : Claim7 := { stood := { row := leastLawsUptoRow, standIns := [], harness := (true, "8e0dc204cc4553e9d02e297ebf2b69412e363504b98707e598d0787df8fdd8cd"), looks := false }, kinds := [], alts := [], laidByText := true, laidKinds := [.data, .data, .data], laidTests := true, laidLooks := .later }
def LeastLawsUptoCardSaid : Prop := Claim7.holds Tryz.pinned (.plain (OpenSpec.upto leastLawsSpec)) leastLawsUptoCard

/-- THE SECOND FORM's CARD OF 'bombardelaw30.LeastIdle'. -/
def leastIdleUptoCard : Claim7 := { stood := { row := leastIdleUptoRow, standIns := [], harness := (true, "8e0dc204cc4553e9d02e297ebf2b69412e363504b98707e598d0787df8fdd8cd"), looks := false }, kinds := [], alts := [], laidByText := true, laidKinds := [.data, .data, .data], laidTests := true, laidLooks := .later }
def LeastIdleUptoCardSaid : Prop := Claim7.holds Tryz.pinned (.plain (OpenSpec.upto leastIdleSpec)) leastIdleUptoCard

/-- THE SECOND FORM's CARD OF 'bombardelaw30.LeastFinds'. -/
def leastFindsUptoCard : Claim7 := { stood := { row := leastFindsUptoRow, standIns := [], harness := (true, "8e0dc204cc4553e9d02e297ebf2b69412e363504b98707e598d0787df8fdd8cd"), looks := false }, kinds := [], alts := [], laidByText := true, laidKinds := [.data, .data, .data], laidTests := true, laidLooks := .later }
def LeastFindsUptoCardSaid : Prop := Claim7.holds Tryz.pinned (.plain (OpenSpec.upto leastFindsSpec)) leastFindsUptoCard

/-- THE SECOND FORM's CARD OF 'bombardelaw30.LeastVerifies'. -/
def leastVerifiesUptoCard : Claim7 := { stood := { row := leastVerifiesUptoRow, standIns := [], harness := (true, "8e0dc204cc4553e9d02e297ebf2b69412e363504b98707e598d0787df8fdd8cd"), looks := false }, kinds := [], alts := [], laidByText := true, laidKinds := [.data, .data, .data], laidTests := true, laidLooks := .later }
def LeastVerifiesUptoCardSaid : Prop := Claim7.holds Tryz.pinned (.plain (OpenSpec.upto leastVerifiesSpec)) leastVerifiesUptoCard

/-- THE SECOND FORM's CARD OF 'bombardelaw30.LeastFor'. -/
def leastForUptoCard : Claim7 := { stood := { row := leastForUptoRow, standIns := [], harness := (true, "8e0dc204cc4553e9d02e297ebf2b69412e363504b98707e598d0787df8fdd8cd"), looks := false }, kinds := [], alts := [], laidByText := true, laidKinds := [.data, .data, .data], laidTests := true, laidLooks := .later }
def LeastForUptoCardSaid : Prop := Claim7.holds Tryz.pinned (.plain (OpenSpec.upto leastForSpec)) leastForUptoCard

/-- THE SECOND FORM's CARD OF 'bombardelaw30.LeastErrors'. -/
def leastErrorsUptoCard : Claim7 := { stood := { row := leastErrorsUptoRow, standIns := [], harness := (true, "8e0dc204cc4553e9d02e297ebf2b69412e363504b98707e598d0787df8fdd8cd"), looks := false }, kinds := [], alts := [], laidByText := true, laidKinds := [.data, .data, .data], laidTests := true, laidLooks := .later }
def LeastErrorsUptoCardSaid : Prop := Claim7.holds Tryz.pinned (.plain (OpenSpec.upto leastErrorsSpec)) leastErrorsUptoCard

/-- THE SECOND FORM's CARD OF 'bombardetop.TopEquivalentSound'. -/
def topEquivalentSoundUptoCard : Claim7 := { stood := { row := topEquivalentSoundUptoRow, standIns := [], harness := (true, "8e0dc204cc4553e9d02e297ebf2b69412e363504b98707e598d0787df8fdd8cd"), looks := false }, kinds := [], alts := [], laidByText := true, laidKinds := [.data, .data, .data], laidTests := true, laidLooks := .later }
def TopEquivalentSoundUptoCardSaid : Prop := Claim7.holds Tryz.pinned (.plain (OpenSpec.upto topEquivalentSoundSpec)) topEquivalentSoundUptoCard
end Rows
end Go.Proofs.YtdijpcoboooceaaGreatDoor
