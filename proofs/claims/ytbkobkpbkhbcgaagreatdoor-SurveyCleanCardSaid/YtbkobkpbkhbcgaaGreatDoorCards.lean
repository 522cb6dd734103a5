/-
  DERIVED. GIVEN WITH THE SEED: THE CARDS: each row of YtbkobkpbkhbcgaaGreatDoorRows.lean that lists a variable, with what it lists TIED to the program's text (the seventh form; the later family's looks); each row that meets fmt, with fmt's text TOLD by the authors' own Lean function (tested against real Go, not proved from fmt's source: count such statements apart). THE CARD IS WHAT COUNTS. Prove the row's statement (the work); the ties are given (YtbkobkpbkhbcgaaGreatDoorTie.lean); close each card by the builder's one call (the guide's Derived/Test/ToyasCard.lean, 'card_holds'). Laid BY PROGRAM, IN A SANDBOX (cutbox-door.mjs). By AI agents, Wed Nov 11 2026. No macro, syntax, notation, axiom, sorry.
-/
import Derived.Test.YtbkobkpbkhbcgaaGreatDoorRows
import GoSem.ClaimSeven
namespace Go.Proofs.YtbkobkpbkhbcgaaGreatDoor
namespace Rows

/-- THE TIED CARD OF 'bombardelaw21.SurveyApart'. -/
def surveyApartCard : Claim7 := { stood := { row := surveyApartRow, standIns := [], harness := (true, "304d4c6c740982719db4cbdedcba0bc9a77c5b8acb8fd0ee49fe5ea34d73fcc9"), looks := true }, kinds := [], alts := [], laidByText := true, laidKinds := [.data, .data, .data], laidTests := true, laidLooks := .later }
def SurveyApartCardSaid : Prop := Claim7.holds Tryz.pinned (.plain (OpenSpec.ofChange surveyApartSpec)) surveyApartCard

/-- THE TIED CARD OF 'bombardelaw21.SurveyErrors'. -/
def surveyErrorsCard : Claim7 := { stood := { row := surveyErrorsRow, standIns := [], harness := (true, "304d4c6c740982719db4cbdedcba0bc9a77c5b8acb8fd0ee49fe5ea34d73fcc9"), looks := true }, kinds := [], alts := [], laidByText := true, laidKinds := [.data, .data, .data], laidTests := true, laidLooks := .later }
def SurveyErrorsCardSaid : Prop := Claim7.holds Tryz.pinned (.plain (OpenSpec.ofChange surveyErrorsSpec)) surveyErrorsCard

/-- THE TIED CARD OF 'bombardelaw21.SurveyPipes'. -/
def surveyPipesCard : Claim7 := { stood := { row := surveyPipesRow, standIns := [], harness := (true, "304d4c6c740982719db4cbdedcba0bc9a77c5b8acb8fd0ee49fe5ea34d73fcc9"), looks := true }, kinds := [], alts := [], laidByText := true, laidKinds := [.data, .data, .data, .sentinel, .sentinel], laidTests := true, laidLooks := .later }
def SurveyPipesCardSaid : Prop := Claim7.holds Tryz.pinned (.plain (OpenSpec.ofChange surveyPipesSpec)) surveyPipesCard

/-- THE TIED CARD OF 'bombardelaw21.SurveyKeys'. -/
def surveyKeysCard : Claim7 := { stood := { row := surveyKeysRow, standIns := [], harness := (true, "304d4c6c740982719db4cbdedcba0bc9a77c5b8acb8fd0ee49fe5ea34d73fcc9"), looks := true }, kinds := [], alts := [], laidByText := true, laidKinds := [.data, .data, .data, .sentinel, .sentinel], laidTests := true, laidLooks := .later }
def SurveyKeysCardSaid : Prop := Claim7.holds Tryz.pinned (.plain (OpenSpec.ofChange surveyKeysSpec)) surveyKeysCard

/-- THE TIED CARD OF 'bombardelaw21.SurveyParts'. -/
def surveyPartsCard : Claim7 := { stood := { row := surveyPartsRow, standIns := [], harness := (true, "304d4c6c740982719db4cbdedcba0bc9a77c5b8acb8fd0ee49fe5ea34d73fcc9"), looks := true }, kinds := [], alts := [], laidByText := true, laidKinds := [.data, .data, .data, .sentinel, .sentinel], laidTests := true, laidLooks := .later }
def SurveyPartsCardSaid : Prop := Claim7.holds Tryz.pinned (.plain (OpenSpec.ofChange surveyPartsSpec)) surveyPartsCard

/-- THE TIED CARD OF 'bombardelaw21.SurveyClean'. -/
def surveyCleanCard : Claim7 := { stood := { row := surveyCleanRow, standIns := [], harness := (true, "304d4c6c740982719db4cbdedcba0bc9a77c5b8acb8fd0ee49fe5ea34d73fcc9"), looks := true }, kinds := [], alts := [], laidByText := true, laidKinds := [.data, .data, .data, .sentinel, .sentinel], laidTests := true, laidLooks := .later }
def SurveyCleanCardSaid : Prop := Claim7.holds Tryz.pinned (.plain (OpenSpec.ofChange surveyCleanSpec)) surveyCleanCard

/-- THE SECOND FORM's CARD OF 'bombardelaw21.SurveyApart'. -/
def surveyApartUptoCard : Claim7 := { stood := { row := surveyApartUptoRow, standIns := [], harness := (true, "304d4c6c740982719db4cbdedcba0bc9a77c5b8acb8fd0ee49fe5ea34d73fcc9"), looks := true }, kinds := [], alts := [], laidByText := true, laidKinds := [.data, .data, .data], laidTests := true, laidLooks := .later }
def SurveyApartUptoCardSaid : Prop := Claim7.holds Tryz.pinned (.plain (OpenSpec.upto surveyApartSpec)) surveyApartUptoCard

/-- THE SECOND FORM's CARD OF 'bombardelaw21.SurveyErrors'. -/
def surveyErrorsUptoCard : Claim7 := { stood := { row := surveyErrorsUptoRow, standIns := [], harness := (true, "304d4c6c740982719db4cbdedcba0bc9a77c5b8acb8fd0ee49fe5ea34d73fcc9"), looks := true }, kinds := [], alts := [], laidByText := true, laidKinds := [.data, .data, .data], laidTests := true, laidLooks := .later }
def SurveyErrorsUptoCardSaid : Prop := Claim7.holds Tryz.pinned (.plain (OpenSpec.upto surveyErrorsSpec)) surveyErrorsUptoCard

/-- THE SECOND FORM's CARD OF 'bombardelaw21.SurveyPipes'. -/
def surveyPipesUptoCard : Claim7 := { stood := { row := surveyPipesUptoRow, standIns := [], harness := (true, "304d4c6c740982719db4cbdedcba0bc9a77c5b8acb8fd0ee49fe5ea34d73fcc9"), looks := true }, kinds := [], alts := [], laidByText := true, laidKinds := [.data, .data, .data, .sentinel, .sentinel], laidTests := true, laidLooks := .later }
def SurveyPipesUptoCardSaid : Prop := Claim7.holds Tryz.pinned (.plain (OpenSpec.upto surveyPipesSpec)) surveyPipesUptoCard

/-- THE SECOND FORM's CARD OF 'bombardelaw21.SurveyKeys'. -/
def surveyKeysUptoCard : Claim7 := { stood := { row := surveyKeysUptoRow, standIns := [], harness := (true, "304d4c6c740982719db4cbdedcba0bc9a77c5b8acb8fd0ee49fe5ea34d73fcc9"), looks := true }, kinds := [], alts := [], laidByText := true, laidKinds := [.data, .data, .data, .sentinel, .sentinel], laidTests := true, laidLooks := .later }
def SurveyKeysUptoCardSaid : Prop := Claim7.holds Tryz.pinned (.plain (OpenSpec.upto surveyKeysSpec)) surveyKeysUptoCard

/-- THE SECOND FORM's CARD OF 'bombardelaw21.SurveyParts'. -/
def surveyPartsUptoCard : Claim7 := { stood := { row := surveyPartsUptoRow, standIns := [], harness := (true, "304d4c6c740982719db4cbdedcba0bc9a77c5b8acb8fd0ee49fe5ea34d73fcc9"), looks := true }, kinds := [], alts := [], laidByText := true, laidKinds := [.data, .data, .data, .sentinel, .sentinel], laidTests := true, laidLooks := .later }
def SurveyPartsUptoCardSaid : Prop := Claim7.holds Tryz.pinned (.plain (OpenSpec.upto surveyPartsSpec)) surveyPartsUptoCard

/-- THE SECOND FORM's CARD OF 'bombardelaw21.SurveyClean'. -/
def surveyCleanUptoCard : Claim7 := { stood := { row := surveyCleanUptoRow, standIns := [], harness := (true, "304d4c6c740982719db4cbdedcba0bc9a77c5b8acb8fd0ee49fe5ea34d73fcc9"), looks := true }, kinds := [], alts := [], laidByText := true, laidKinds := [.data, .data, .data, .sentinel, .sentinel], laidTests := true, laidLooks := .later }
def SurveyCleanUptoCardSaid : Prop := Claim7.holds Tryz.pinned (.plain (OpenSpec.upto surveyCleanSpec)) surveyCleanUptoCard
end Rows
end Go.Proofs.YtbkobkpbkhbcgaaGreatDoor
