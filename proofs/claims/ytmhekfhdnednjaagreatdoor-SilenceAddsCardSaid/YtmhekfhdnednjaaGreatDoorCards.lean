/-
  DERIVED. GIVEN WITH THE SEED: THE CARDS: each row of YtmhekfhdnednjaaGreatDoorRows.lean that lists a variable, with what it lists TIED to the program's text (the seventh form; the later family's looks); each row that meets fmt, with fmt's text TOLD by the authors' own Lean function (tested against real Go, not proved from fmt's source: count such statements apart). THE CARD IS WHAT COUNTS. Prove the row's statement (the work); the ties are given (YtmhekfhdnednjaaGreatDoorTie.lean); close each card by the builder's one call (the guide's Derived/Test/ToyasCard.lean, 'card_holds'). Laid BY PROGRAM, IN A SANDBOX (cutbox-door.mjs). By AI agents, Wed Nov 11 2026. No macro, syntax, notation, axiom, sorry.
-/
import Derived.Test.YtmhekfhdnednjaaGreatDoorRows
import GoSem.ClaimSeven
namespace Go.Proofs.YtmhekfhdnednjaaGreatDoor
namespace Rows

/-- THE TIED CARD OF 'bombardelaw25.SoundRegistrations'. -/
def soundRegistrationsCard : Claim7 := { stood := { row := soundRegistrationsRow, standIns := [], harness := (true, "08984982688134c8f29be1d7aaea7e29dc30945751bc74652f10e94408c0193e"), looks := true }, kinds := [], alts := [], laidByText := true, laidKinds := [.data, .data, .data], laidTests := true, laidLooks := .later }
def SoundRegistrationsCardSaid : Prop := Claim7.holds Tryz.pinned (.plain (OpenSpec.ofChange soundRegistrationsSpec)) soundRegistrationsCard

/-- THE TIED CARD OF 'bombardelaw25.SoundErrors'. -/
def soundErrorsCard : Claim7 := { stood := { row := soundErrorsRow, standIns := [], harness := (true, "08984982688134c8f29be1d7aaea7e29dc30945751bc74652f10e94408c0193e"), looks := true }, kinds := [], alts := [], laidByText := true, laidKinds := [.data, .data, .data], laidTests := true, laidLooks := .later }
def SoundErrorsCardSaid : Prop := Claim7.holds Tryz.pinned (.plain (OpenSpec.ofChange soundErrorsSpec)) soundErrorsCard

/-- THE TIED CARD OF 'bombardelaw25.SoundSpeaks'. -/
def soundSpeaksCard : Claim7 := { stood := { row := soundSpeaksRow, standIns := [], harness := (true, "08984982688134c8f29be1d7aaea7e29dc30945751bc74652f10e94408c0193e"), looks := true }, kinds := [], alts := [], laidByText := true, laidKinds := [.data, .data, .data, .sentinel, .sentinel], laidTests := true, laidLooks := .later }
def SoundSpeaksCardSaid : Prop := Claim7.holds Tryz.pinned (.plain (OpenSpec.ofChange soundSpeaksSpec)) soundSpeaksCard

/-- THE TIED CARD OF 'bombardelaw27.SilenceErrors'. -/
def silenceErrorsCard : Claim7 := { stood := { row := silenceErrorsRow, standIns := [], harness := (true, "08984982688134c8f29be1d7aaea7e29dc30945751bc74652f10e94408c0193e"), looks := true }, kinds := [], alts := [], laidByText := true, laidKinds := [.data, .data, .data], laidTests := true, laidLooks := .later }
def SilenceErrorsCardSaid : Prop := Claim7.holds Tryz.pinned (.plain (OpenSpec.ofChange silenceErrorsSpec)) silenceErrorsCard

/-- THE TIED CARD OF 'bombardelaw27.SilenceAdds'. -/
def silenceAddsCard : Claim7 := { stood := { row := silenceAddsRow, standIns := [], harness := (true, "08984982688134c8f29be1d7aaea7e29dc30945751bc74652f10e94408c0193e"), looks := true }, kinds := [], alts := [], laidByText := true, laidKinds := [.data, .data, .data], laidTests := true, laidLooks := .later }
def SilenceAddsCardSaid : Prop := Claim7.holds Tryz.pinned (.plain (OpenSpec.ofChange silenceAddsSpec)) silenceAddsCard

/-- THE TIED CARD OF 'bombardelaw27.SilenceApart'. -/
def silenceApartCard : Claim7 := { stood := { row := silenceApartRow, standIns := [], harness := (true, "08984982688134c8f29be1d7aaea7e29dc30945751bc74652f10e94408c0193e"), looks := true }, kinds := [], alts := [], laidByText := true, laidKinds := [.data, .data, .data], laidTests := true, laidLooks := .later }
def SilenceApartCardSaid : Prop := Claim7.holds Tryz.pinned (.plain (OpenSpec.ofChange silenceApartSpec)) silenceApartCard

/-- THE TIED CARD OF 'bombardelaw27.SilenceKeys'. -/
def silenceKeysCard : Claim7 := { stood := { row := silenceKeysRow, standIns := [], harness := (true, "08984982688134c8f29be1d7aaea7e29dc30945751bc74652f10e94408c0193e"), looks := true }, kinds := [], alts := [], laidByText := true, laidKinds := [.data, .data, .data], laidTests := true, laidLooks := .later }
def SilenceKeysCardSaid : Prop := Claim7.holds Tryz.pinned (.plain (OpenSpec.ofChange silenceKeysSpec)) silenceKeysCard

/-- THE SECOND FORM's CARD OF 'bombardelaw25.SoundRegistrations'. -/
def soundRegistrationsUptoCard : Claim7 := { stood := { row := soundRegistrationsUptoRow, standIns := [], harness := (true, "08984982688134c8f29be1d7aaea7e29dc30945751bc74652f10e94408c0193e"), looks := true }, kinds := [], alts := [], laidByText := true, laidKinds := [.data, .data, .data], laidTests := true, laidLooks := .later }
def SoundRegistrationsUptoCardSaid : Prop := Claim7.holds Tryz.pinned (.plain (OpenSpec.upto soundRegistrationsSpec)) soundRegistrationsUptoCard

/-- THE SECOND FORM's CARD OF 'bombardelaw25.SoundErrors'. -/
def soundErrorsUptoCard : Claim7 := { stood := { row := soundErrorsUptoRow, standIns := [], harness := (true, "08984982688134c8f29be1d7aaea7e29dc30945751bc74652f10e94408c0193e"), looks := true }, kinds := [], alts := [], laidByText := true, laidKinds := [.data, .data, .data], laidTests := true, laidLooks := .later }
def SoundErrorsUptoCardSaid : Prop := Claim7.holds Tryz.pinned (.plain (OpenSpec.upto soundErrorsSpec)) soundErrorsUptoCard

/-- THE SECOND FORM's CARD OF 'bombardelaw25.SoundSpeaks'. -/
def soundSpeaksUptoCard : Claim7 := { stood := { row := soundSpeaksUptoRow, standIns := [], harness := (true, "08984982688134c8f29be1d7aaea7e29dc30945751bc74652f10e94408c0193e"), looks := true }, kinds := [], alts := [], laidByText := true, laidKinds := [.data, .data, .data, .sentinel, .sentinel], laidTests := true, laidLooks := .later }
def SoundSpeaksUptoCardSaid : Prop := Claim7.holds Tryz.pinned (.plain (OpenSpec.upto soundSpeaksSpec)) soundSpeaksUptoCard

/-- THE SECOND FORM's CARD OF 'bombardelaw27.SilenceErrors'. -/
def silenceErrorsUptoCard : Claim7 := { stood := { row := silenceErrorsUptoRow, standIns := [], harness := (true, "08984982688134c8f29be1d7aaea7e29dc30945751bc74652f10e94408c0193e"), looks := true }, kinds := [], alts := [], laidByText := true, laidKinds := [.data, .data, .data], laidTests := true, laidLooks := .later }
def SilenceErrorsUptoCardSaid : Prop := Claim7.holds Tryz.pinned (.plain (OpenSpec.upto silenceErrorsSpec)) silenceErrorsUptoCard

/-- THE SECOND FORM's CARD OF 'bombardelaw27.SilenceAdds'. -/
def silenceAddsUptoCard : Claim7 := { stood := { row := silenceAddsUptoRow, standIns := [], harness := (true, "08984982688134c8f29be1d7aaea7e29dc30945751bc74652f10e94408c0193e"), looks := true }, kinds := [], alts := [], laidByText := true, laidKinds := [.data, .data, .data], laidTests := true, laidLooks := .later }
def SilenceAddsUptoCardSaid : Prop := Claim7.holds Tryz.pinned (.plain (OpenSpec.upto silenceAddsSpec)) silenceAddsUptoCard

/-- THE SECOND FORM's CARD OF 'bombardelaw27.SilenceApart'. -/
def silenceApartUptoCard : Claim7 := { stood := { row := silenceApartUptoRow, standIns := [], harness := (true, "08984982688134c8f29be1d7aaea7e29dc30945751bc74652f10e94408c0193e"), looks := true }, kinds := [], alts := [], laidByText := true, laidKinds := [.data, .data, .data], laidTests := true, laidLooks := .later }
def SilenceApartUptoCardSaid : Prop := Claim7.holds Tryz.pinned (.plain (OpenSpec.upto silenceApartSpec)) silenceApartUptoCard

/-- THE SECOND FORM's CARD OF 'bombardelaw27.SilenceKeys'. -/
def silenceKeysUptoCard : Claim7 := { stood := { row := silenceKeysUptoRow, standIns := [], harness := (true, "08984982688134c8f29be1d7aaea7e29dc30945751bc74652f10e94408c0193e"), looks := true }, kinds := [], alts := [], laidByText := true, laidKinds := [.data, .data, .data], laidTests := true, laidLooks := .later }
def SilenceKeysUptoCardSaid : Prop := Claim7.holds Tryz.pinned (.plain (OpenSpec.upto silenceKeysSpec)) silenceKeysUptoCard
end Rows
end Go.Proofs.YtmhekfhdnednjaaGreatDoor
