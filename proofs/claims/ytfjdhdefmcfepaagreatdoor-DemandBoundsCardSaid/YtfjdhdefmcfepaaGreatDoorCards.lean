/-
  DERIVED. GIVEN WITH THE SEED: THE CARDS: each row of YtfjdhdefmcfepaaGreatDoorRows.lean that lists a variable, with what it lists TIED to the program's text (the seventh form; the later family's looks); each row that meets fmt, with fmt's text TOLD by the authors' own Lean function (tested against real Go, not proved from fmt's source: count such statements apart). THE CARD IS WHAT COUNTS. Prove the row's statement (the work); the ties are given (YtfjdhdefmcfepaaGreatDoorTie.lean); close each card by the builder's one call (the guide's Derived/Test/ToyasCard.lean, 'card_holds'). Laid BY PROGRAM, IN A SANDBOX (cutbox-door.mjs). By AI agents, Wed Nov 11 2026. No macro, syntax, notation, axiom, sorry.
-/
import Derived.Test.YtfjdhdefmcfepaaGreatDoorRows
import GoSem.ClaimSeven
namespace Go.Proofs.YtfjdhdefmcfepaaGreatDoor
namespace Rows

/-- THE TIED CARD OF 'bombardelaw33.DemandSums'. -/
def demandSumsCard : Claim7 := { stood := { row := demandSumsRow, standIns := [], harness := (true, "3ba778fccbe6f30dfb7964ed839f65922445925d09cb293c884ba75a56d53c09"), looks := false }, kinds := [], alts := [], laidByText := true, laidKinds := [.data, .data, .data], laidTests := true, laidLooks := .later }
def DemandSumsCardSaid : Prop := Claim7.holds Tryz.pinned (.plain (OpenSpec.ofChange demandSumsSpec)) demandSumsCard

/-- THE TIED CARD OF 'bombardelaw33.DemandGreatest'. -/
def demandGreatestCard : Claim7 := { stood := { row := demandGreatestRow, standIns := [], harness := (true, "3ba778fccbe6f30dfb7964ed839f65922445925d09cb293c884ba75a56d53c09"), looks := false }, kinds := [], alts := [], laidByText := true, laidKinds := [.data, .data, .data], laidTests := true, laidLooks := .later }
def DemandGreatestCardSaid : Prop := Claim7.holds Tryz.pinned (.plain (OpenSpec.ofChange demandGreatestSpec)) demandGreatestCard

/-- THE TIED CARD OF 'bombardelaw33.DemandLists'. -/
def demandListsCard : Claim7 := { stood := { row := demandListsRow, standIns := [], harness := (true, "3ba778fccbe6f30dfb7964ed839f65922445925d09cb293c884ba75a56d53c09"), looks := false }, kinds := [], alts := [], laidByText := true, laidKinds := [.data, .data, .data], laidTests := true, laidLooks := .later }
def DemandListsCardSaid : Prop := Claim7.holds Tryz.pinned (.plain (OpenSpec.ofChange demandListsSpec)) demandListsCard

/-- THE TIED CARD OF 'bombardelaw33.DemandKeys'. -/
def demandKeysCard : Claim7 := { stood := { row := demandKeysRow, standIns := [], harness := (true, "3ba778fccbe6f30dfb7964ed839f65922445925d09cb293c884ba75a56d53c09"), looks := false }, kinds := [], alts := [], laidByText := true, laidKinds := [.data, .data, .data], laidTests := true, laidLooks := .later }
def DemandKeysCardSaid : Prop := Claim7.holds Tryz.pinned (.plain (OpenSpec.ofChange demandKeysSpec)) demandKeysCard

/-- THE TIED CARD OF 'bombardelaw33.DemandBounds'. -/
def demandBoundsCard : Claim7 := { stood := { row := demandBoundsRow, standIns := [], harness := (true, "3ba778fccbe6f30dfb7964ed839f65922445925d09cb293c884ba75a56d53c09"), looks := false }, kinds := [], alts := [], laidByText := true, laidKinds := [.data, .data, .data], laidTests := true, laidLooks := .later }
def DemandBoundsCardSaid : Prop := Claim7.holds Tryz.pinned (.plain (OpenSpec.ofChange demandBoundsSpec)) demandBoundsCard

/-- THE TIED CARD OF 'bombardelaw33.DemandErrors'. -/
def demandErrorsCard : Claim7 := { stood := { row := demandErrorsRow, standIns := [], harness := (true, "3ba778fccbe6f30dfb7964ed839f65922445925d09cb293c884ba75a56d53c09"), looks := false }, kinds := [], alts := [], laidByText := true, laidKinds := [.data, .data, .data], laidTests := true, laidLooks := .later }
def DemandErrorsCardSaid : Prop := Claim7.holds Tryz.pinned (.plain (OpenSpec.ofChange demandErrorsSpec)) demandErrorsCard

/-- THE TIED CARD OF 'bombardelaw33.DemandOrgans'. -/
def demandOrgansCard : Claim7 := { stood := { row := demandOrgansRow, standIns := [], harness := (true, "3ba778fccbe6f30dfb7964ed839f65922445925d09cb293c884ba75a56d53c09"), looks := false }, kinds := [], alts := [], laidByText := true, laidKinds := [.data, .data, .data], laidTests := true, laidLooks := .later }
def DemandOrgansCardSaid : Prop := Claim7.holds Tryz.pinned (.plain (OpenSpec.ofChange demandOrgansSpec)) demandOrgansCard

/-- THE SECOND FORM's CARD OF 'bombardelaw33.DemandSums'. -/
def demandSumsUptoCard : Claim7 := { stood := { row := demandSumsUptoRow, standIns := [], harness := (true, "3ba778fccbe6f30dfb7964ed839f65922445925d09cb293c884ba75a56d53c09"), looks := false }, kinds := [], alts := [], laidByText := true, laidKinds := [.data, .data, .data], laidTests := true, laidLooks := .later }
def DemandSumsUptoCardSaid : Prop := Claim7.holds Tryz.pinned (.plain (OpenSpec.upto demandSumsSpec)) demandSumsUptoCard

/-- THE SECOND FORM's CARD OF 'bombardelaw33.DemandGreatest'. -/
def demandGreatestUptoCard : Claim7 := { stood := { row := demandGreatestUptoRow, standIns := [], harness := (true, "3ba778fccbe6f30dfb7964ed839f65922445925d09cb293c884ba75a56d53c09"), looks := false }, kinds := [], alts := [], laidByText := true, laidKinds := [.data, .data, .data], laidTests := true, laidLooks := .later }
def DemandGreatestUptoCardSaid : Prop := Claim7.holds Tryz.pinned (.plain (OpenSpec.upto demandGreatestSpec)) demandGreatestUptoCard

/-- THE SECOND FORM's CARD OF 'bombardelaw33.DemandLists'. -/
def demandListsUptoCard : Claim7 := { stood := { row := demandListsUptoRow, standIns := [], harness := (true, "3ba778fccbe6f30dfb7964ed839f65922445925d09cb293c884ba75a56d53c09"), looks := false }, kinds := [], alts := [], laidByText := true, laidKinds := [.data, .data, .data], laidTests := true, laidLooks := .later }
def DemandListsUptoCardSaid : Prop := Claim7.holds Tryz.pinned (.plain (OpenSpec.upto demandListsSpec)) demandListsUptoCard

/-- THE SECOND FORM's CARD OF 'bombardelaw33.DemandKeys'. -/
def demandKeysUptoCard : Claim7 := { stood := { row := demandKeysUptoRow, standIns := [], harness := (true, "3ba778fccbe6f30dfb7964ed839f65922445925d09cb293c884ba75a56d53c09"), looks := false }, kinds := [], alts := [], laidByText := true, laidKinds := [.data, .data, .data], laidTests := true, laidLooks := .later }
def DemandKeysUptoCardSaid : Prop := Claim7.holds Tryz.pinned (.plain (OpenSpec.upto demandKeysSpec)) demandKeysUptoCard

/-- THE SECOND FORM's CARD OF 'bombardelaw33.DemandBounds'. -/
def demandBoundsUptoCard : Claim7 := { stood := { row := demandBoundsUptoRow, standIns := [], harness := (true, "3ba778fccbe6f30dfb7964ed839f65922445925d09cb293c884ba75a56d53c09"), looks := false }, kinds := [], alts := [], laidByText := true, laidKinds := [.data, .data, .data], laidTests := true, laidLooks := .later }
def DemandBoundsUptoCardSaid : Prop := Claim7.holds Tryz.pinned (.plain (OpenSpec.upto demandBoundsSpec)) demandBoundsUptoCard

/-- THE SECOND FORM's CARD OF 'bombardelaw33.DemandErrors'. -/
def demandErrorsUptoCard : Claim7 := { stood := { row := demandErrorsUptoRow, standIns := [], harness := (true, "3ba778fccbe6f30dfb7964ed839f65922445925d09cb293c884ba75a56d53c09"), looks := false }, kinds := [], alts := [], laidByText := true, laidKinds := [.data, .data, .data], laidTests := true, laidLooks := .later }
def DemandErrorsUptoCardSaid : Prop := Claim7.holds Tryz.pinned (.plain (OpenSpec.upto demandErrorsSpec)) demandErrorsUptoCard

/-- THE SECOND FORM's CARD OF 'bombardelaw33.DemandOrgans'. -/
def demandOrgansUptoCard : Claim7 := { stood := { row := demandOrgansUptoRow, standIns := [], harness := (true, "3ba778fccbe6f30dfb7964ed839f65922445925d09cb293c884ba75a56d53c09"), looks := false }, kinds := [], alts := [], laidByText := true, laidKinds := [.data, .data, .data], laidTests := true, laidLooks := .later }
def DemandOrgansUptoCardSaid : Prop := Claim7.holds Tryz.pinned (.plain (OpenSpec.upto demandOrgansSpec)) demandOrgansUptoCard
end Rows
end Go.Proofs.YtfjdhdefmcfepaaGreatDoor
