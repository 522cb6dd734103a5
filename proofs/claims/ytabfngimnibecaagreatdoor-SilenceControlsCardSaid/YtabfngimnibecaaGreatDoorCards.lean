/-
  DERIVED. GIVEN WITH THE SEED: THE CARDS: each row of YtabfngimnibecaaGreatDoorRows.lean that lists a variable, with what it lists TIED to the program's text (the seventh form; the later family's looks); each row that meets fmt, with fmt's text TOLD by the authors' own Lean function (tested against real Go, not proved from fmt's source: count such statements apart). THE CARD IS WHAT COUNTS. Prove the row's statement (the work); the ties are given (YtabfngimnibecaaGreatDoorTie.lean); close each card by the builder's one call (the guide's Derived/Test/ToyasCard.lean, 'card_holds'). Laid BY PROGRAM, IN A SANDBOX (cutbox-door.mjs). By AI agents, Wed Nov 11 2026. No macro, syntax, notation, axiom, sorry.
-/
import Derived.Test.YtabfngimnibecaaGreatDoorRows
import GoSem.ClaimSeven
namespace Go.Proofs.YtabfngimnibecaaGreatDoor
namespace Rows

/-- THE TIED CARD OF 'bombardelaw26.ReasonCompares'. -/
def reasonComparesCard : Claim7 := { stood := { row := reasonComparesRow, standIns := [], harness := (true, "5b302d263b32c2c253504f808a8d267584d010de6cc2c03ff6d6080a7818b77c"), looks := false }, kinds := [], alts := [], laidByText := true, laidKinds := [.data, .data, .data], laidTests := true, laidLooks := .later }
def ReasonComparesCardSaid : Prop := Claim7.holds Tryz.pinned (.plain (OpenSpec.ofChange reasonComparesSpec)) reasonComparesCard

/-- THE TIED CARD OF 'bombardelaw21.SurveyApart'. -/
def surveyApartCard : Claim7 := { stood := { row := surveyApartRow, standIns := [], harness := (true, "5b302d263b32c2c253504f808a8d267584d010de6cc2c03ff6d6080a7818b77c"), looks := false }, kinds := [], alts := [], laidByText := true, laidKinds := [.data, .data, .data], laidTests := true, laidLooks := .later }
def SurveyApartCardSaid : Prop := Claim7.holds Tryz.pinned (.plain (OpenSpec.ofChange surveyApartSpec)) surveyApartCard

/-- THE TIED CARD OF 'bombardelaw21.SurveyErrors'. -/
def surveyErrorsCard : Claim7 := { stood := { row := surveyErrorsRow, standIns := [], harness := (true, "5b302d263b32c2c253504f808a8d267584d010de6cc2c03ff6d6080a7818b77c"), looks := false }, kinds := [], alts := [], laidByText := true, laidKinds := [.data, .data, .data], laidTests := true, laidLooks := .later }
def SurveyErrorsCardSaid : Prop := Claim7.holds Tryz.pinned (.plain (OpenSpec.ofChange surveyErrorsSpec)) surveyErrorsCard

/-- THE TIED CARD OF 'bombardelaw27.SilenceIdle'. -/
def silenceIdleCard : Claim7 := { stood := { row := silenceIdleRow, standIns := [], harness := (true, "5b302d263b32c2c253504f808a8d267584d010de6cc2c03ff6d6080a7818b77c"), looks := false }, kinds := [], alts := [], laidByText := true, laidKinds := [.data, .data, .data], laidTests := true, laidLooks := .later }
def SilenceIdleCardSaid : Prop := Claim7.holds Tryz.pinned (.plain (OpenSpec.ofChange silenceIdleSpec)) silenceIdleCard

/-- THE TIED CARD OF 'bombardelaw27.SilenceStrips'. -/
def silenceStripsCard : Claim7 := { stood := { row := silenceStripsRow, standIns := [], harness := (true, "5b302d263b32c2c253504f808a8d267584d010de6cc2c03ff6d6080a7818b77c"), looks := false }, kinds := [], alts := [], laidByText := true, laidKinds := [.data, .data, .data], laidTests := true, laidLooks := .later }
def SilenceStripsCardSaid : Prop := Claim7.holds Tryz.pinned (.plain (OpenSpec.ofChange silenceStripsSpec)) silenceStripsCard

/-- THE TIED CARD OF 'bombardelaw27.SilenceLaws'. -/
def silenceLawsCard : Claim7 := { stood := { row := silenceLawsRow, standIns := [], harness := (true, "5b302d263b32c2c253504f808a8d267584d010de6cc2c03ff6d6080a7818b77c"), looks := false }, kinds := [], alts := [], laidByText := true, laidKinds := [.data, .data, .data], laidTests := true, laidLooks := .later }
def SilenceLawsCardSaid : Prop := Claim7.holds Tryz.pinned (.plain (OpenSpec.ofChange silenceLawsSpec)) silenceLawsCard

/-- THE TIED CARD OF 'bombardelaw27.SilenceKeys'. -/
def silenceKeysCard : Claim7 := { stood := { row := silenceKeysRow, standIns := [], harness := (true, "5b302d263b32c2c253504f808a8d267584d010de6cc2c03ff6d6080a7818b77c"), looks := false }, kinds := [], alts := [], laidByText := true, laidKinds := [.data, .data, .data], laidTests := true, laidLooks := .later }
def SilenceKeysCardSaid : Prop := Claim7.holds Tryz.pinned (.plain (OpenSpec.ofChange silenceKeysSpec)) silenceKeysCard

/-- THE TIED CARD OF 'bombardelaw27.SilenceControls'. -/
def silenceControlsCard : Claim7 := { stood := { row := silenceControlsRow, standIns := [], harness := (true, "5b302d263b32c2c253504f808a8d267584d010de6cc2c03ff6d6080a7818b77c"), looks := false }, kinds := [], alts := [], laidByText := true, laidKinds := [.data, .data, .data], laidTests := true, laidLooks := .later }
def SilenceControlsCardSaid : Prop := Claim7.holds Tryz.pinned (.plain (OpenSpec.ofChange silenceControlsSpec)) silenceControlsCard

/-- THE TIED CARD OF 'bombardelaw27.SilenceAdds'. -/
def silenceAddsCard : Claim7 := { stood := { row := silenceAddsRow, standIns := [], harness := (true, "5b302d263b32c2c253504f808a8d267584d010de6cc2c03ff6d6080a7818b77c"), looks := false }, kinds := [], alts := [], laidByText := true, laidKinds := [.data, .data, .data], laidTests := true, laidLooks := .later }
def SilenceAddsCardSaid : Prop := Claim7.holds Tryz.pinned (.plain (OpenSpec.ofChange silenceAddsSpec)) silenceAddsCard

/-- THE TIED CARD OF 'bombardelaw27.SilenceErrors'. -/
def silenceErrorsCard : Claim7 := { stood := { row := silenceErrorsRow, standIns := [], harness := (true, "5b302d263b32c2c253504f808a8d267584d010de6cc2c03ff6d6080a7818b77c"), looks := false }, kinds := [], alts := [], laidByText := true, laidKinds := [.data, .data, .data], laidTests := true, laidLooks := .later }
def SilenceErrorsCardSaid : Prop := Claim7.holds Tryz.pinned (.plain (OpenSpec.ofChange silenceErrorsSpec)) silenceErrorsCard

/-- THE TIED CARD OF 'bombardelaw27.SilenceApart'. -/
def silenceApartCard : Claim7 := { stood := { row := silenceApartRow, standIns := [], harness := (true, "5b302d263b32c2c253504f808a8d267584d010de6cc2c03ff6d6080a7818b77c"), looks := false }, kinds := [], alts := [], laidByText := true, laidKinds := [.data, .data, .data], laidTests := true, laidLooks := .later }
def SilenceApartCardSaid : Prop := Claim7.holds Tryz.pinned (.plain (OpenSpec.ofChange silenceApartSpec)) silenceApartCard

/-- THE TIED CARD OF 'bombardelaw25.SoundUnions'. -/
def soundUnionsCard : Claim7 := { stood := { row := soundUnionsRow, standIns := [], harness := (true, "5b302d263b32c2c253504f808a8d267584d010de6cc2c03ff6d6080a7818b77c"), looks := false }, kinds := [], alts := [], laidByText := true, laidKinds := [.data, .data, .data], laidTests := true, laidLooks := .later }
def SoundUnionsCardSaid : Prop := Claim7.holds Tryz.pinned (.plain (OpenSpec.ofChange soundUnionsSpec)) soundUnionsCard

/-- THE SECOND FORM's CARD OF 'bombardelaw26.ReasonCompares'. -/
def reasonComparesUptoCard : Claim7 := { stood := { row := reasonComparesUptoRow, standIns := [], harness := (true, "5b302d263b32c2c253504f808a8d267584d010de6cc2c03ff6d6080a7818b77c"), looks := false }, kinds := [], alts := [], laidByText := true, laidKinds := [.data, .data, .data], laidTests := true, laidLooks := .later }
def ReasonComparesUptoCardSaid : Prop := Claim7.holds Tryz.pinned (.plain (OpenSpec.upto reasonComparesSpec)) reasonComparesUptoCard

/-- THE SECOND FORM's CARD OF 'bombardelaw21.SurveyApart'. -/
def surveyApartUptoCard : Claim7 := { stood := { row := surveyApartUptoRow, standIns := [], harness := (true, "5b302d263b32c2c253504f808a8d267584d010de6cc2c03ff6d6080a7818b77c"), looks := false }, kinds := [], alts := [], laidByText := true, laidKinds := [.data, .data, .data], laidTests := true, laidLooks := .later }
def SurveyApartUptoCardSaid : Prop := Claim7.holds Tryz.pinned (.plain (OpenSpec.upto surveyApartSpec)) surveyApartUptoCard

/-- THE SECOND FORM's CARD OF 'bombardelaw21.SurveyErrors'. -/
def surveyErrorsUptoCard : Claim7 := { stood := { row := surveyErrorsUptoRow, standIns := [], harness := (true, "5b302d263b32c2c253504f808a8d267584d010de6cc2c03ff6d6080a7818b77c"), looks := false }, kinds := [], alts := [], laidByText := true, laidKinds := [.data, .data, .data], laidTests := true, laidLooks := .later }
def SurveyErrorsUptoCardSaid : Prop := Claim7.holds Tryz.pinned (.plain (OpenSpec.upto surveyErrorsSpec)) surveyErrorsUptoCard

/-- THE SECOND FORM's CARD OF 'bombardelaw27.SilenceIdle'. -/
def silenceIdleUptoCard : Claim7 := { stood := { row := silenceIdleUptoRow, standIns := [], harness := (true, "5b302d263b32c2c253504f808a8d267584d010de6cc2c03ff6d6080a7818b77c"), looks := false }, kinds := [], alts := [], laidByText := true, laidKinds := [.data, .data, .data], laidTests := true, laidLooks := .later }
def SilenceIdleUptoCardSaid : Prop := Claim7.holds Tryz.pinned (.plain (OpenSpec.upto silenceIdleSpec)) silenceIdleUptoCard

/-- THE SECOND FORM's CARD OF 'bombardelaw27.SilenceStrips'. -/
def silenceStripsUptoCard : Claim7 := { stood := { row := silenceStripsUptoRow, standIns := [], harness := (true, "5b302d263b32c2c253504f808a8d267584d010de6cc2c03ff6d6080a7818b77c"), looks := false }, kinds := [], alts := [], laidByText := true, laidKinds := [.data, .data, .data], laidTests := true, laidLooks := .later }
def SilenceStripsUptoCardSaid : Prop := Claim7.holds Tryz.pinned (.plain (OpenSpec.upto silenceStripsSpec)) silenceStripsUptoCard

/-- THE SECOND FORM's CARD OF 'bombardelaw27.SilenceLaws'. -/
def silenceLawsUptoCard : Claim7 := { stood := { row := silenceLawsUptoRow, standIns := [], harness := (true, "5b302d263b32c2c253504f808a8d267584d010de6cc2c03ff6d6080a7818b77c"), looks := false }, kinds := [], alts := [], laidByText := true, laidKinds := [.data, .data, .data], laidTests := true, laidLooks := .later }
def SilenceLawsUptoCardSaid : Prop := Claim7.holds Tryz.pinned (.plain (OpenSpec.upto silenceLawsSpec)) silenceLawsUptoCard

/-- THE SECOND FORM's CARD OF 'bombardelaw27.SilenceKeys'. -/
def silenceKeysUptoCard : Claim7 := { stood := { row := silenceKeysUptoRow, standIns := [], harness := (true, "5b302d263b32c2c253504f808a8d267584d010de6cc2c03ff6d6080a7818b77c"), looks := false }, kinds := [], alts := [], laidByText := true, laidKinds := [.data, .data, .data], laidTests := true, laidLooks := .later }
def SilenceKeysUptoCardSaid : Prop := Claim7.holds Tryz.pinned (.plain (OpenSpec.upto silenceKeysSpec)) silenceKeysUptoCard

/-- THE SECOND FORM's CARD OF 'bombardelaw27.SilenceControls'. -/
def silenceControlsUptoCard : Claim7 := { stood := { row := silenceControlsUptoRow, standIns := [], harness := (true, "5b302d263b32c2c253504f808a8d267584d010de6cc2c03ff6d6080a7818b77c"), looks := false }, kinds := [], alts := [], laidByText := true, laidKinds := [.data, .data, .data], laidTests := true, laidLooks := .later }
def SilenceControlsUptoCardSaid : Prop := Claim7.holds Tryz.pinned (.plain (OpenSpec.upto silenceControlsSpec)) silenceControlsUptoCard

/-- THE SECOND FORM's CARD OF 'bombardelaw27.SilenceAdds'. -/
def silenceAddsUptoCard : Claim7 := { stood := { row := silenceAddsUptoRow, standIns := [], harness := (true, "5b302d263b32c2c253504f808a8d267584d010de6cc2c03ff6d6080a7818b77c"), looks := false }, kinds := [], alts := [], laidByText := true, laidKinds := [.data, .data, .data], laidTests := true, laidLooks := .later }
def SilenceAddsUptoCardSaid : Prop := Claim7.holds Tryz.pinned (.plain (OpenSpec.upto silenceAddsSpec)) silenceAddsUptoCard

/-- THE SECOND FORM's CARD OF 'bombardelaw27.SilenceErrors'. -/
def silenceErrorsUptoCard : Claim7 := { stood := { row := silenceErrorsUptoRow, standIns := [], harness := (true, "5b302d263b32c2c253504f808a8d267584d010de6cc2c03ff6d6080a7818b77c"), looks := false }, kinds := [], alts := [], laidByText := true, laidKinds := [.data, .data, .data], laidTests := true, laidLooks := .later }
def SilenceErrorsUptoCardSaid : Prop := Claim7.holds Tryz.pinned (.plain (OpenSpec.upto silenceErrorsSpec)) silenceErrorsUptoCard

/-- THE SECOND FORM's CARD OF 'bombardelaw27.SilenceApart'. -/
def silenceApartUptoCard : Claim7 := { stood := { row := silenceApartUptoRow, standIns := [], harness := (true, "5b302d263b32c2c253504f808a8d267584d010de6cc2c03ff6d6080a7818b77c"), looks := false }, kinds := [], alts := [], laidByText := true, laidKinds := [.data, .data, .data], laidTests := true, laidLooks := .later }
def SilenceApartUptoCardSaid : Prop := Claim7.holds Tryz.pinned (.plain (OpenSpec.upto silenceApartSpec)) silenceApartUptoCard

/-- THE SECOND FORM's CARD OF 'bombardelaw25.SoundUnions'. -/
def soundUnionsUptoCard : Claim7 := { stood := { row := soundUnionsUptoRow, standIns := [], harness := (true, "5b302d263b32c2c253504f808a8d267584d010de6cc2c03ff6d6080a7818b77c"), looks := false }, kinds := [], alts := [], laidByText := true, laidKinds := [.data, .data, .data], laidTests := true, laidLooks := .later }
def SoundUnionsUptoCardSaid : Prop := Claim7.holds Tryz.pinned (.plain (OpenSpec.upto soundUnionsSpec)) soundUnionsUptoCard
end Rows
end Go.Proofs.YtabfngimnibecaaGreatDoor
