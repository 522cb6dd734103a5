/-
  DERIVED. GIVEN WITH THE SEED: THE CARDS: each row of YtnfcbhnjapmmcaaGreatDoorRows.lean that lists a variable, with what it lists TIED to the program's text (the seventh form; the later family's looks); each row that meets fmt, with fmt's text TOLD by the authors' own Lean function (tested against real Go, not proved from fmt's source: count such statements apart). THE CARD IS WHAT COUNTS. Prove the row's statement (the work); the ties are given (YtnfcbhnjapmmcaaGreatDoorTie.lean); close each card by the builder's one call (the guide's Derived/Test/ToyasCard.lean, 'card_holds'). Laid BY PROGRAM, IN A SANDBOX (cutbox-door.mjs). By AI agents, Wed Nov 11 2026. No macro, syntax, notation, axiom, sorry.
-/
import Derived.Test.YtnfcbhnjapmmcaaGreatDoorRows
import GoSem.ClaimSeven
namespace Go.Proofs.YtnfcbhnjapmmcaaGreatDoor
namespace Rows

/-- THE TIED CARD OF 'bombardelaw47.RegistrationChanges'. -/
def registrationChangesCard : Claim7 := { stood := { row := registrationChangesRow, standIns := [], harness := (true, "5653423c8ced916f34c321a308e1f2bfc39724f73feca934c2e3bd29c6876721"), looks := false }, kinds := [], alts := [], laidByText := true, laidKinds := [.data, .data, .data], laidTests := true, laidLooks := .later }
def RegistrationChangesCardSaid : Prop := Claim7.holds Tryz.pinned (.plain (OpenSpec.ofChange registrationChangesSpec)) registrationChangesCard

/-- THE TIED CARD OF 'bombardelaw47.RegistrationHolds'. -/
def registrationHoldsCard : Claim7 := { stood := { row := registrationHoldsRow, standIns := [], harness := (true, "5653423c8ced916f34c321a308e1f2bfc39724f73feca934c2e3bd29c6876721"), looks := false }, kinds := [], alts := [], laidByText := true, laidKinds := [.data, .data, .data], laidTests := true, laidLooks := .later }
def RegistrationHoldsCardSaid : Prop := Claim7.holds Tryz.pinned (.plain (OpenSpec.ofChange registrationHoldsSpec)) registrationHoldsCard

/-- THE TIED CARD OF 'bombardelaw47.RegistrationFree'. -/
def registrationFreeCard : Claim7 := { stood := { row := registrationFreeRow, standIns := [], harness := (true, "5653423c8ced916f34c321a308e1f2bfc39724f73feca934c2e3bd29c6876721"), looks := false }, kinds := [], alts := [], laidByText := true, laidKinds := [.data, .data, .data], laidTests := true, laidLooks := .later }
def RegistrationFreeCardSaid : Prop := Claim7.holds Tryz.pinned (.plain (OpenSpec.ofChange registrationFreeSpec)) registrationFreeCard

/-- THE TIED CARD OF 'bombardelaw47.RegistrationChecks'. -/
def registrationChecksCard : Claim7 := { stood := { row := registrationChecksRow, standIns := [], harness := (true, "5653423c8ced916f34c321a308e1f2bfc39724f73feca934c2e3bd29c6876721"), looks := false }, kinds := [], alts := [], laidByText := true, laidKinds := [.data, .data, .data], laidTests := true, laidLooks := .later }
def RegistrationChecksCardSaid : Prop := Claim7.holds Tryz.pinned (.plain (OpenSpec.ofChange registrationChecksSpec)) registrationChecksCard

/-- THE TIED CARD OF 'bombardelaw47.RegistrationApplies'. -/
def registrationAppliesCard : Claim7 := { stood := { row := registrationAppliesRow, standIns := [], harness := (true, "5653423c8ced916f34c321a308e1f2bfc39724f73feca934c2e3bd29c6876721"), looks := false }, kinds := [], alts := [], laidByText := true, laidKinds := [.data, .data, .data], laidTests := true, laidLooks := .later }
def RegistrationAppliesCardSaid : Prop := Claim7.holds Tryz.pinned (.plain (OpenSpec.ofChange registrationAppliesSpec)) registrationAppliesCard

/-- THE TIED CARD OF 'bombardelaw47.RegistrationLaws'. -/
def registrationLawsCard : Claim7 := { stood := { row := registrationLawsRow, standIns := [], harness := (true, "5653423c8ced916f34c321a308e1f2bfc39724f73feca934c2e3bd29c6876721"), looks := false }, kinds := [], alts := [], laidByText := true, laidKinds := [.data, .data, .data], laidTests := true, laidLooks := .later }
def RegistrationLawsCardSaid : Prop := Claim7.holds Tryz.pinned (.plain (OpenSpec.ofChange registrationLawsSpec)) registrationLawsCard

/-- THE SECOND FORM's CARD OF 'bombardelaw47.RegistrationChanges'. -/
def registrationChangesUptoCard : Claim7 := { stood := { row := registrationChangesUptoRow, standIns := [], harness := (true, "5653423c8ced916f34c321a308e1f2bfc39724f73feca934c2e3bd29c6876721"), looks := false }, kinds := [], alts := [], laidByText := true, laidKinds := [.data, .data, .data], laidTests := true, laidLooks := .later }
def RegistrationChangesUptoCardSaid : Prop := Claim7.holds Tryz.pinned (.plain (OpenSpec.upto registrationChangesSpec)) registrationChangesUptoCard

/-- THE SECOND FORM's CARD OF 'bombardelaw47.RegistrationHolds'. -/
def registrationHoldsUptoCard : Claim7 := { stood := { row := registrationHoldsUptoRow, standIns := [], harness := (true, "5653423c8ced916f34c321a308e1f2bfc39724f73feca934c2e3bd29c6876721"), looks := false }, kinds := [], alts := [], laidByText := true, laidKinds := [.data, .data, .data], laidTests := true, laidLooks := .later }
def RegistrationHoldsUptoCardSaid : Prop := Claim7.holds Tryz.pinned (.plain (OpenSpec.upto registrationHoldsSpec)) registrationHoldsUptoCard

/-- THE SECOND FORM's CARD OF 'bombardelaw47.RegistrationFree'. -/
def registrationFreeUptoCard : Claim7 := { stood := { row := registrationFreeUptoRow, standIns := [], harness := (true, "5653423c8ced916f34c321a308e1f2bfc39724f73feca934c2e3bd29c6876721"), looks := false }, kinds := [], alts := [], laidByText := true, laidKinds := [.data, .data, .data], laidTests := true, laidLooks := .later }
def RegistrationFreeUptoCardSaid : Prop := Claim7.holds Tryz.pinned (.plain (OpenSpec.upto registrationFreeSpec)) registrationFreeUptoCard

/-- THE SECOND FORM's CARD OF 'bombardelaw47.RegistrationChecks'. -/
def registrationChecksUptoCard : Claim7 := { stood := { row := registrationChecksUptoRow, standIns := [], harness := (true, "5653423c8ced916f34c321a308e1f2bfc39724f73feca934c2e3bd29c6876721"), looks := false }, kinds := [], alts := [], laidByText := true, laidKinds := [.data, .data, .data], laidTests := true, laidLooks := .later }
def RegistrationChecksUptoCardSaid : Prop := Claim7.holds Tryz.pinned (.plain (OpenSpec.upto registrationChecksSpec)) registrationChecksUptoCard

/-- THE SECOND FORM's CARD OF 'bombardelaw47.RegistrationApplies'. -/
def registrationAppliesUptoCard : Claim7 := { stood := { row := registrationAppliesUptoRow, standIns := [], harness := (true, "5653423c8ced916f34c321a308e1f2bfc39724f73feca934c2e3bd29c6876721"), looks := false }, kinds := [], alts := [], laidByText := true, laidKinds := [.data, .data, .data], laidTests := true, laidLooks := .later }
def RegistrationAppliesUptoCardSaid : Prop := Claim7.holds Tryz.pinned (.plain (OpenSpec.upto registrationAppliesSpec)) registrationAppliesUptoCard

/-- THE SECOND FORM's CARD OF 'bombardelaw47.RegistrationLaws'. -/
def registrationLawsUptoCard : Claim7 := { stood := { row := registrationLawsUptoRow, standIns := [], harness := (true, "5653423c8ced916f34c321a308e1f2bfc39724f73feca934c2e3bd29c6876721"), looks := false }, kinds := [], alts := [], laidByText := true, laidKinds := [.data, .data, .data], laidTests := true, laidLooks := .later }
def RegistrationLawsUptoCardSaid : Prop := Claim7.holds Tryz.pinned (.plain (OpenSpec.upto registrationLawsSpec)) registrationLawsUptoCard
end Rows
end Go.Proofs.YtnfcbhnjapmmcaaGreatDoor
