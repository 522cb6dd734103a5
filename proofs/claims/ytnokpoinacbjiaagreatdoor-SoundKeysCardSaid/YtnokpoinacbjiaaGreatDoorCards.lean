/-
  DERIVED. GIVEN WITH THE SEED: THE CARDS: each row of YtnokpoinacbjiaaGreatDoorRows.lean that lists a variable, with what it lists TIED to the program's text (the seventh form; the later family's looks); each row that meets fmt, with fmt's text TOLD by the authors' own Lean function (tested against real Go, not proved from fmt's source: count such statements apart). THE CARD IS WHAT COUNTS. Prove the row's statement (the work); the ties are given (YtnokpoinacbjiaaGreatDoorTie.lean); close each card by the builder's one call (the guide's Derived/Test/ToyasCard.lean, 'card_holds'). Laid BY PROGRAM, IN A SANDBOX (cutbox-door.mjs). By AI agents, Wed Nov 11 2026. No macro, syntax, notation, axiom, sorry.
-/
import Derived.Test.YtnokpoinacbjiaaGreatDoorRows
import GoSem.ClaimSeven
namespace Go.Proofs.YtnokpoinacbjiaaGreatDoor
namespace Rows

/-- THE TIED CARD OF 'bombardelaw25.SoundContacts'. -/
def soundContactsCard : Claim7 := { stood := { row := soundContactsRow, standIns := [], harness := (true, "4825c3d815000bd946f71ead44f66e985008172768fb4020d963e4e96c33ae38"), looks := true }, kinds := [], alts := [], laidByText := true, laidKinds := [.data, .data, .data], laidTests := true, laidLooks := .later }
def SoundContactsCardSaid : Prop := Claim7.holds Tryz.pinned (.plain (OpenSpec.ofChange soundContactsSpec)) soundContactsCard

/-- THE TIED CARD OF 'bombardelaw25.SoundRegistrations'. -/
def soundRegistrationsCard : Claim7 := { stood := { row := soundRegistrationsRow, standIns := [], harness := (true, "4825c3d815000bd946f71ead44f66e985008172768fb4020d963e4e96c33ae38"), looks := true }, kinds := [], alts := [], laidByText := true, laidKinds := [.data, .data, .data], laidTests := true, laidLooks := .later }
def SoundRegistrationsCardSaid : Prop := Claim7.holds Tryz.pinned (.plain (OpenSpec.ofChange soundRegistrationsSpec)) soundRegistrationsCard

/-- THE TIED CARD OF 'bombardelaw25.SoundGrows'. -/
def soundGrowsCard : Claim7 := { stood := { row := soundGrowsRow, standIns := [], harness := (true, "4825c3d815000bd946f71ead44f66e985008172768fb4020d963e4e96c33ae38"), looks := true }, kinds := [], alts := [], laidByText := true, laidKinds := [.data, .data, .data], laidTests := true, laidLooks := .later }
def SoundGrowsCardSaid : Prop := Claim7.holds Tryz.pinned (.plain (OpenSpec.ofChange soundGrowsSpec)) soundGrowsCard

/-- THE TIED CARD OF 'bombardelaw25.SoundDiffers'. -/
def soundDiffersCard : Claim7 := { stood := { row := soundDiffersRow, standIns := [], harness := (true, "4825c3d815000bd946f71ead44f66e985008172768fb4020d963e4e96c33ae38"), looks := true }, kinds := [], alts := [], laidByText := true, laidKinds := [.data, .data, .data], laidTests := true, laidLooks := .later }
def SoundDiffersCardSaid : Prop := Claim7.holds Tryz.pinned (.plain (OpenSpec.ofChange soundDiffersSpec)) soundDiffersCard

/-- THE TIED CARD OF 'bombardelaw25.SoundKeys'. -/
def soundKeysCard : Claim7 := { stood := { row := soundKeysRow, standIns := [], harness := (true, "4825c3d815000bd946f71ead44f66e985008172768fb4020d963e4e96c33ae38"), looks := true }, kinds := [], alts := [], laidByText := true, laidKinds := [.data, .data, .data], laidTests := true, laidLooks := .later }
def SoundKeysCardSaid : Prop := Claim7.holds Tryz.pinned (.plain (OpenSpec.ofChange soundKeysSpec)) soundKeysCard

/-- THE TIED CARD OF 'bombardelaw25.SoundErrors'. -/
def soundErrorsCard : Claim7 := { stood := { row := soundErrorsRow, standIns := [], harness := (true, "4825c3d815000bd946f71ead44f66e985008172768fb4020d963e4e96c33ae38"), looks := true }, kinds := [], alts := [], laidByText := true, laidKinds := [.data, .data, .data], laidTests := true, laidLooks := .later }
def SoundErrorsCardSaid : Prop := Claim7.holds Tryz.pinned (.plain (OpenSpec.ofChange soundErrorsSpec)) soundErrorsCard

/-- THE TIED CARD OF 'bombardelaw25.SoundSpeaks'. -/
def soundSpeaksCard : Claim7 := { stood := { row := soundSpeaksRow, standIns := [], harness := (true, "4825c3d815000bd946f71ead44f66e985008172768fb4020d963e4e96c33ae38"), looks := true }, kinds := [], alts := [], laidByText := true, laidKinds := [.data, .data, .data, .sentinel, .sentinel], laidTests := true, laidLooks := .later }
def SoundSpeaksCardSaid : Prop := Claim7.holds Tryz.pinned (.plain (OpenSpec.ofChange soundSpeaksSpec)) soundSpeaksCard

/-- THE SECOND FORM's CARD OF 'bombardelaw25.SoundContacts'. -/
def soundContactsUptoCard : Claim7 := { stood := { row := soundContactsUptoRow, standIns := [], harness := (true, "4825c3d815000bd946f71ead44f66e985008172768fb4020d963e4e96c33ae38"), looks := true }, kinds := [], alts := [], laidByText := true, laidKinds := [.data, .data, .data], laidTests := true, laidLooks := .later }
def SoundContactsUptoCardSaid : Prop := Claim7.holds Tryz.pinned (.plain (OpenSpec.upto soundContactsSpec)) soundContactsUptoCard

/-- THE SECOND FORM's CARD OF 'bombardelaw25.SoundRegistrations'. -/
def soundRegistrationsUptoCard : Claim7 := { stood := { row := soundRegistrationsUptoRow, standIns := [], harness := (true, "4825c3d815000bd946f71ead44f66e985008172768fb4020d963e4e96c33ae38"), looks := true }, kinds := [], alts := [], laidByText := true, laidKinds := [.data, .data, .data], laidTests := true, laidLooks := .later }
def SoundRegistrationsUptoCardSaid : Prop := Claim7.holds Tryz.pinned (.plain (OpenSpec.upto soundRegistrationsSpec)) soundRegistrationsUptoCard

/-- THE SECOND FORM's CARD OF 'bombardelaw25.SoundGrows'. -/
def soundGrowsUptoCard : Claim7 := { stood := { row := soundGrowsUptoRow, standIns := [], harness := (true, "4825c3d815000bd946f71ead44f66e985008172768fb4020d963e4e96c33ae38"), looks := true }, kinds := [], alts := [], laidByText := true, laidKinds := [.data, .data, .data], laidTests := true, laidLooks := .later }
def SoundGrowsUptoCardSaid : Prop := Claim7.holds Tryz.pinned (.plain (OpenSpec.upto soundGrowsSpec)) soundGrowsUptoCard

/-- THE SECOND FORM's CARD OF 'bombardelaw25.SoundDiffers'. -/
def soundDiffersUptoCard : Claim7 := { stood := { row := soundDiffersUptoRow, standIns := [], harness := (true, "4825c3d815000bd946f71ead44f66e985008172768fb4020d963e4e96c33ae38"), looks := true }, kinds := [], alts := [], laidByText := true, laidKinds := [.data, .data, .data], laidTests := true, laidLooks := .later }
def SoundDiffersUptoCardSaid : Prop := Claim7.holds Tryz.pinned (.plain (OpenSpec.upto soundDiffersSpec)) soundDiffersUptoCard

/-- THE SECOND FORM's CARD OF 'bombardelaw25.SoundKeys'. -/
def soundKeysUptoCard : Claim7 := { stood := { row := soundKeysUptoRow, standIns := [], harness := (true, "4825c3d815000bd946f71ead44f66e985008172768fb4020d963e4e96c33ae38"), looks := true }, kinds := [], alts := [], laidByText := true, laidKinds := [.data, .data, .data], laidTests := true, laidLooks := .later }
def SoundKeysUptoCardSaid : Prop := Claim7.holds Tryz.pinned (.plain (OpenSpec.upto soundKeysSpec)) soundKeysUptoCard

/-- THE SECOND FORM's CARD OF 'bombardelaw25.SoundErrors'. -/
def soundErrorsUptoCard : Claim7 := { stood := { row := soundErrorsUptoRow, standIns := [], harness := (true, "4825c3d815000bd946f71ead44f66e985008172768fb4020d963e4e96c33ae38"), looks := true }, kinds := [], alts := [], laidByText := true, laidKinds := [.data, .data, .data], laidTests := true, laidLooks := .later }
def SoundErrorsUptoCardSaid : Prop := Claim7.holds Tryz.pinned (.plain (OpenSpec.upto soundErrorsSpec)) soundErrorsUptoCard

/-- THE SECOND FORM's CARD OF 'bombardelaw25.SoundSpeaks'. -/
def soundSpeaksUptoCard : Claim7 := { stood := { row := soundSpeaksUptoRow, standIns := [], harness := (true, "4825c3d815000bd946f71ead44f66e985008172768fb4020d963e4e96c33ae38"), looks := true }, kinds := [], alts := [], laidByText := true, laidKinds := [.data, .data, .data, .sentinel, .sentinel], laidTests := true, laidLooks := .later }
def SoundSpeaksUptoCardSaid : Prop := Claim7.holds Tryz.pinned (.plain (OpenSpec.upto soundSpeaksSpec)) soundSpeaksUptoCard
end Rows
end Go.Proofs.YtnokpoinacbjiaaGreatDoor
