/-
  DERIVED. GIVEN WITH THE SEED: THE CARDS: each row of YtbdbnfhkdmhobaaGreatDoorRows.lean that lists a variable, with what it lists TIED to the program's text (the seventh form; the later family's looks); each row that meets fmt, with fmt's text TOLD by the authors' own Lean function (tested against real Go, not proved from fmt's source: count such statements apart). THE CARD IS WHAT COUNTS. Prove the row's statement (the work); the ties are given (YtbdbnfhkdmhobaaGreatDoorTie.lean); close each card by the builder's one call (the guide's Derived/Test/ToyasCard.lean, 'card_holds'). Laid BY PROGRAM, IN A SANDBOX (cutbox-door.mjs). By AI agents, Wed Nov 11 2026. No macro, syntax, notation, axiom, sorry.
-/
import Derived.Test.YtbdbnfhkdmhobaaGreatDoorRows
import GoSem.ClaimSeven
namespace Go.Proofs.YtbdbnfhkdmhobaaGreatDoor
namespace Rows

/-- THE TIED CARD OF 'bombardelaw33.DemandLists'. -/
def demandListsCard : Claim7 := { stood := { row := demandListsRow, standIns := [], harness := (true, "063d9196951329cb5faa08eee4e7e8532ed8421fef677a4cadbc3112ccbf87c8"), looks := false }, kinds := [], alts := [], laidByText := true, laidKinds := [.data, .data, .data], laidTests := true, laidLooks := .later }
def DemandListsCardSaid : Prop := Claim7.holds Tryz.pinned (.plain (OpenSpec.ofChange demandListsSpec)) demandListsCard

/-- THE TIED CARD OF 'bombardelaw33.DemandErrors'. -/
def demandErrorsCard : Claim7 := { stood := { row := demandErrorsRow, standIns := [], harness := (true, "063d9196951329cb5faa08eee4e7e8532ed8421fef677a4cadbc3112ccbf87c8"), looks := false }, kinds := [], alts := [], laidByText := true, laidKinds := [.data, .data, .data], laidTests := true, laidLooks := .later }
def DemandErrorsCardSaid : Prop := Claim7.holds Tryz.pinned (.plain (OpenSpec.ofChange demandErrorsSpec)) demandErrorsCard

/-- THE TIED CARD OF 'bombardelaw33.DemandOrgans'. -/
def demandOrgansCard : Claim7 := { stood := { row := demandOrgansRow, standIns := [], harness := (true, "063d9196951329cb5faa08eee4e7e8532ed8421fef677a4cadbc3112ccbf87c8"), looks := false }, kinds := [], alts := [], laidByText := true, laidKinds := [.data, .data, .data], laidTests := true, laidLooks := .later }
def DemandOrgansCardSaid : Prop := Claim7.holds Tryz.pinned (.plain (OpenSpec.ofChange demandOrgansSpec)) demandOrgansCard

/-- THE SECOND FORM's CARD OF 'bombardelaw33.DemandLists'. -/
def demandListsUptoCard : Claim7 := { stood := { row := demandListsUptoRow, standIns := [], harness := (true, "063d9196951329cb5faa08eee4e7e8532ed8421fef677a4cadbc3112ccbf87c8"), looks := false }, kinds := [], alts := [], laidByText := true, laidKinds := [.data, .data, .data], laidTests := true, laidLooks := .later }
def DemandListsUptoCardSaid : Prop := Claim7.holds Tryz.pinned (.plain (OpenSpec.upto demandListsSpec)) demandListsUptoCard

/-- THE SECOND FORM's CARD OF 'bombardelaw33.DemandErrors'. -/
def demandErrorsUptoCard : Claim7 := { stood := { row := demandErrorsUptoRow, standIns := [], harness := (true, "063d9196951329cb5faa08eee4e7e8532ed8421fef677a4cadbc3112ccbf87c8"), looks := false }, kinds := [], alts := [], laidByText := true, laidKinds := [.data, .data, .data], laidTests := true, laidLooks := .later }
def DemandErrorsUptoCardSaid : Prop := Claim7.holds Tryz.pinned (.plain (OpenSpec.upto demandErrorsSpec)) demandErrorsUptoCard

/-- THE SECOND FORM's CARD OF 'bombardelaw33.DemandOrgans'. -/
def demandOrgansUptoCard : Claim7 := { stood := { row := demandOrgansUptoRow, standIns := [], harness := (true, "063d9196951329cb5faa08eee4e7e8532ed8421fef677a4cadbc3112ccbf87c8"), looks := false }, kinds := [], alts := [], laidByText := true, laidKinds := [.data, .data, .data], laidTests := true, laidLooks := .later }
def DemandOrgansUptoCardSaid : Prop := Claim7.holds Tryz.pinned (.plain (OpenSpec.upto demandOrgansSpec)) demandOrgansUptoCard
end Rows
end Go.Proofs.YtbdbnfhkdmhobaaGreatDoor
