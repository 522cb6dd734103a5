/-
  DERIVED. GIVEN WITH THE SEED: THE CARDS: each row of YteeidkllchpplaaGreatDoorRows.lean that lists a variable, with what it lists TIED to the program's text (the seventh form; the later family's looks); each row that meets fmt, with fmt's text TOLD by the authors' own Lean function (tested against real Go, not proved from fmt's source: count such statements apart). THE CARD IS WHAT COUNTS. Prove the row's statement (the work); the ties are given (YteeidkllchpplaaGreatDoorTie.lean); close each card by the builder's one call (the guide's Derived/Test/ToyasCard.lean, 'card_holds'). Laid BY PROGRAM, IN A SANDBOX (cutbox-door.mjs). By AI agents, Wed Nov 11 2026. No macro, syntax, notation, axiom, sorry.
-/
import Derived.Test.YteeidkllchpplaaGreatDoorRows
import GoSem.ClaimSeven
namespace Go.Proofs.YteeidkllchpplaaGreatDoor
namespace Rows

/-- THE TIED CARD OF 'bombardelaw33.DemandShrinks'. -/
def demandShrinksCard : Claim7 := { stood := { row := demandShrinksRow, standIns := [], harness := (true, "3f5229ba27cd0ad1ce7c0815b3c63c5b9fc05dec9be42522deacf3bb2c48deb6"), looks := false }, kinds := [], alts := [], laidByText := true, laidKinds := [.data, .data, .data], laidTests := true, laidLooks := .later }
def DemandShrinksCardSaid : Prop := Claim7.holds Tryz.pinned (.plain (OpenSpec.ofChange demandShrinksSpec)) demandShrinksCard

/-- THE TIED CARD OF 'bombardelaw26.ReasonCompares'. -/
def reasonComparesCard : Claim7 := { stood := { row := reasonComparesRow, standIns := [], harness := (true, "3f5229ba27cd0ad1ce7c0815b3c63c5b9fc05dec9be42522deacf3bb2c48deb6"), looks := false }, kinds := [], alts := [], laidByText := true, laidKinds := [.data, .data, .data], laidTests := true, laidLooks := .later }
def ReasonComparesCardSaid : Prop := Claim7.holds Tryz.pinned (.plain (OpenSpec.ofChange reasonComparesSpec)) reasonComparesCard

/-- THE TIED CARD OF 'bombardelaw26.ReasonWithout'. -/
def reasonWithoutCard : Claim7 := { stood := { row := reasonWithoutRow, standIns := [], harness := (true, "3f5229ba27cd0ad1ce7c0815b3c63c5b9fc05dec9be42522deacf3bb2c48deb6"), looks := false }, kinds := [], alts := [], laidByText := true, laidKinds := [.data, .data, .data], laidTests := true, laidLooks := .later }
def ReasonWithoutCardSaid : Prop := Claim7.holds Tryz.pinned (.plain (OpenSpec.ofChange reasonWithoutSpec)) reasonWithoutCard

/-- THE TIED CARD OF 'bombardelaw26.ReasonChecks'. -/
def reasonChecksCard : Claim7 := { stood := { row := reasonChecksRow, standIns := [], harness := (true, "3f5229ba27cd0ad1ce7c0815b3c63c5b9fc05dec9be42522deacf3bb2c48deb6"), looks := false }, kinds := [], alts := [], laidByText := true, laidKinds := [.data, .data, .data], laidTests := true, laidLooks := .later }
def ReasonChecksCardSaid : Prop := Claim7.holds Tryz.pinned (.plain (OpenSpec.ofChange reasonChecksSpec)) reasonChecksCard

/-- THE TIED CARD OF 'bombardelaw26.ReasonVerifies'. -/
def reasonVerifiesCard : Claim7 := { stood := { row := reasonVerifiesRow, standIns := [], harness := (true, "3f5229ba27cd0ad1ce7c0815b3c63c5b9fc05dec9be42522deacf3bb2c48deb6"), looks := false }, kinds := [], alts := [], laidByText := true, laidKinds := [.data, .data, .data], laidTests := true, laidLooks := .later }
def ReasonVerifiesCardSaid : Prop := Claim7.holds Tryz.pinned (.plain (OpenSpec.ofChange reasonVerifiesSpec)) reasonVerifiesCard

/-- THE TIED CARD OF 'bombardelaw26.ReasonAll'. -/
def reasonAllCard : Claim7 := { stood := { row := reasonAllRow, standIns := [], harness := (true, "3f5229ba27cd0ad1ce7c0815b3c63c5b9fc05dec9be42522deacf3bb2c48deb6"), looks := false }, kinds := [], alts := [], laidByText := true, laidKinds := [.data, .data, .data], laidTests := true, laidLooks := .later }
def ReasonAllCardSaid : Prop := Claim7.holds Tryz.pinned (.plain (OpenSpec.ofChange reasonAllSpec)) reasonAllCard

/-- THE SECOND FORM's CARD OF 'bombardelaw33.DemandShrinks'. -/
def demandShrinksUptoCard : Claim7 := { stood := { row := demandShrinksUptoRow, standIns := [], harness := (true, "3f5229ba27cd0ad1ce7c0815b3c63c5b9fc05dec9be42522deacf3bb2c48deb6"), looks := false }, kinds := [], alts := [], laidByText := true, laidKinds := [.data, .data, .data], laidTests := true, laidLooks := .later }
def DemandShrinksUptoCardSaid : Prop := Claim7.holds Tryz.pinned (.plain (OpenSpec.upto demandShrinksSpec)) demandShrinksUptoCard

/-- THE SECOND FORM's CARD OF 'bombardelaw26.ReasonCompares'. -/
def reasonComparesUptoCard : Claim7 := { stood := { row := reasonComparesUptoRow, standIns := [], harness := (true, "3f5229ba27cd0ad1ce7c0815b3c63c5b9fc05dec9be42522deacf3bb2c48deb6"), looks := false }, kinds := [], alts := [], laidByText := true, laidKinds := [.data, .data, .data], laidTests := true, laidLooks := .later }
def ReasonComparesUptoCardSaid : Prop := Claim7.holds Tryz.pinned (.plain (OpenSpec.upto reasonComparesSpec)) reasonComparesUptoCard

/-- THE SECOND FORM's CARD OF 'bombardelaw26.ReasonWithout'. -/
def reasonWithoutUptoCard : Claim7 := { stood := { row := reasonWithoutUptoRow, standIns := [], harness := (true, "3f5229ba27cd0ad1ce7c0815b3c63c5b9fc05dec9be42522deacf3bb2c48deb6"), looks := false }, kinds := [], alts := [], laidByText := true, laidKinds := [.data, .data, .data], laidTests := true, laidLooks := .later }
def ReasonWithoutUptoCardSaid : Prop := Claim7.holds Tryz.pinned (.plain (OpenSpec.upto reasonWithoutSpec)) reasonWithoutUptoCard

/-- THE SECOND FORM's CARD OF 'bombardelaw26.ReasonChecks'. -/
def reasonChecksUptoCard : Claim7 := { stood := { row := reasonChecksUptoRow, standIns := [], harness := (true, "3f5229ba27cd0ad1ce7c0815b3c63c5b9fc05dec9be42522deacf3bb2c48deb6"), looks := false }, kinds := [], alts := [], laidByText := true, laidKinds := [.data, .data, .data], laidTests := true, laidLooks := .later }
def ReasonChecksUptoCardSaid : Prop := Claim7.holds Tryz.pinned (.plain (OpenSpec.upto reasonChecksSpec)) reasonChecksUptoCard

/-- THE SECOND FORM's CARD OF 'bombardelaw26.ReasonVerifies'. -/
def reasonVerifiesUptoCard : Claim7 := { stood := { row := reasonVerifiesUptoRow, standIns := [], harness := (true, "3f5229ba27cd0ad1ce7c0815b3c63c5b9fc05dec9be42522deacf3bb2c48deb6"), looks := false }, kinds := [], alts := [], laidByText := true, laidKinds := [.data, .data, .data], laidTests := true, laidLooks := .later }
def ReasonVerifiesUptoCardSaid : Prop := Claim7.holds Tryz.pinned (.plain (OpenSpec.upto reasonVerifiesSpec)) reasonVerifiesUptoCard

/-- THE SECOND FORM's CARD OF 'bombardelaw26.ReasonAll'. -/
def reasonAllUptoCard : Claim7 := { stood := { row := reasonAllUptoRow, standIns := [], harness := (true, "3f5229ba27cd0ad1ce7c0815b3c63c5b9fc05dec9be42522deacf3bb2c48deb6"), looks := false }, kinds := [], alts := [], laidByText := true, laidKinds := [.data, .data, .data], laidTests := true, laidLooks := .later }
def ReasonAllUptoCardSaid : Prop := Claim7.holds Tryz.pinned (.plain (OpenSpec.upto reasonAllSpec)) reasonAllUptoCard
end Rows
end Go.Proofs.YteeidkllchpplaaGreatDoor
