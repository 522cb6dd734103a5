/-
  DERIVED. GIVEN WITH THE SEED: THE CARDS: each row of YtkklaffajfjopaaGreatDoorRows.lean that lists a variable, with what it lists TIED to the program's text (the seventh form; the later family's looks); each row that meets fmt, with fmt's text TOLD by the authors' own Lean function (tested against real Go, not proved from fmt's source: count such statements apart). THE CARD IS WHAT COUNTS. Prove the row's statement (the work); the ties are given (YtkklaffajfjopaaGreatDoorTie.lean); close each card by the builder's one call (the guide's Derived/Test/ToyasCard.lean, 'card_holds'). Laid BY PROGRAM, IN A SANDBOX (cutbox-door.mjs). By AI agents, Wed Nov 11 2026. No macro, syntax, notation, axiom, sorry.
-/
import Derived.Test.YtkklaffajfjopaaGreatDoorRows
import GoSem.ClaimSeven
namespace Go.Proofs.YtkklaffajfjopaaGreatDoor
namespace Rows

/-- THE TIED CARD OF 'bombardelaw27.SilenceAdds'. -/
def silenceAddsCard : Claim7 := { stood := { row := silenceAddsRow, standIns := [], harness := (true, "476273a486d50ad21eb092e72d8df60a88874b4123af0f618419f5ffe69324ca"), looks := true }, kinds := [], alts := [], laidByText := true, laidKinds := [.data, .data, .data], laidTests := true, laidLooks := .later }
def SilenceAddsCardSaid : Prop := Claim7.holds Tryz.pinned (.plain (OpenSpec.ofChange silenceAddsSpec)) silenceAddsCard

/-- THE TIED CARD OF 'bombardelaw25.SoundSpeaks'. -/
def soundSpeaksCard : Claim7 := { stood := { row := soundSpeaksRow, standIns := [], harness := (true, "476273a486d50ad21eb092e72d8df60a88874b4123af0f618419f5ffe69324ca"), looks := true }, kinds := [], alts := [], laidByText := true, laidKinds := [.data, .data, .data, .sentinel, .sentinel], laidTests := true, laidLooks := .later }
def SoundSpeaksCardSaid : Prop := Claim7.holds Tryz.pinned (.plain (OpenSpec.ofChange soundSpeaksSpec)) soundSpeaksCard

/-- THE TIED CARD OF 'bombardelaw27.SilenceKeys'. -/
def silenceKeysCard : Claim7 := { stood := { row := silenceKeysRow, standIns := [], harness := (true, "476273a486d50ad21eb092e72d8df60a88874b4123af0f618419f5ffe69324ca"), looks := true }, kinds := [], alts := [], laidByText := true, laidKinds := [.data, .data, .data], laidTests := true, laidLooks := .later }
def SilenceKeysCardSaid : Prop := Claim7.holds Tryz.pinned (.plain (OpenSpec.ofChange silenceKeysSpec)) silenceKeysCard

/-- THE SECOND FORM's CARD OF 'bombardelaw27.SilenceAdds'. -/
def silenceAddsUptoCard : Claim7 := { stood := { row := silenceAddsUptoRow, standIns := [], harness := (true, "476273a486d50ad21eb092e72d8df60a88874b4123af0f618419f5ffe69324ca"), looks := true }, kinds := [], alts := [], laidByText := true, laidKinds := [.data, .data, .data], laidTests := true, laidLooks := .later }
def SilenceAddsUptoCardSaid : Prop := Claim7.holds Tryz.pinned (.plain (OpenSpec.upto silenceAddsSpec)) silenceAddsUptoCard

/-- THE SECOND FORM's CARD OF 'bombardelaw25.SoundSpeaks'. -/
def soundSpeaksUptoCard : Claim7 := { stood := { row := soundSpeaksUptoRow, standIns := [], harness := (true, "476273a486d50ad21eb092e72d8df60a88874b4123af0f618419f5ffe69324ca"), looks := true }, kinds := [], alts := [], laidByText := true, laidKinds := [.data, .data, .data, .sentinel, .sentinel], laidTests := true, laidLooks := .later }
def SoundSpeaksUptoCardSaid : Prop := Claim7.holds Tryz.pinned (.plain (OpenSpec.upto soundSpeaksSpec)) soundSpeaksUptoCard

/-- THE SECOND FORM's CARD OF 'bombardelaw27.SilenceKeys'. -/
def silenceKeysUptoCard : Claim7 := { stood := { row := silenceKeysUptoRow, standIns := [], harness := (true, "476273a486d50ad21eb092e72d8df60a88874b4123af0f618419f5ffe69324ca"), looks := true }, kinds := [], alts := [], laidByText := true, laidKinds := [.data, .data, .data], laidTests := true, laidLooks := .later }
def SilenceKeysUptoCardSaid : Prop := Claim7.holds Tryz.pinned (.plain (OpenSpec.upto silenceKeysSpec)) silenceKeysUptoCard
end Rows
end Go.Proofs.YtkklaffajfjopaaGreatDoor
