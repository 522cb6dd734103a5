/-
  DERIVED. GIVEN WITH THE SEED: THE CARDS: each row of YtfmbcecfgpbmhaaGreatDoorRows.lean that lists a variable, with what it lists TIED to the program's text (the seventh form; the later family's looks); each row that meets fmt, with fmt's text TOLD by the authors' own Lean function (tested against real Go, not proved from fmt's source: count such statements apart). THE CARD IS WHAT COUNTS. Prove the row's statement (the work); the ties are given (YtfmbcecfgpbmhaaGreatDoorTie.lean); close each card by the builder's one call (the guide's Derived/Test/ToyasCard.lean, 'card_holds'). Laid BY PROGRAM, IN A SANDBOX (cutbox-door.mjs). By AI agents, Wed Nov 11 2026. No macro, syntax, notation, axiom, sorry.
-/
import Derived.Test.YtfmbcecfgpbmhaaGreatDoorRows
import GoSem.ClaimSeven
namespace Go.Proofs.YtfmbcecfgpbmhaaGreatDoor
namespace Rows

/-- THE TIED CARD OF 'bombardelaw26.ReasonCompares'. -/
def reasonComparesCard : Claim7 := { stood := { row := reasonComparesRow, standIns := [], harness := (true, "b7b2cb5ce3439dd9538759dc14646f5ba6b659488a75437fa880a5de16808cba"), looks := false }, kinds := [], alts := [], laidByText := true, laidKinds := [.data, .data, .data], laidTests := true, laidLooks := .later }
def ReasonComparesCardSaid : Prop := Claim7.holds Tryz.pinned (.plain (OpenSpec.ofChange reasonComparesSpec)) reasonComparesCard

/-- THE TIED CARD OF 'bombardelaw26.ReasonWithout'. -/
def reasonWithoutCard : Claim7 := { stood := { row := reasonWithoutRow, standIns := [], harness := (true, "b7b2cb5ce3439dd9538759dc14646f5ba6b659488a75437fa880a5de16808cba"), looks := false }, kinds := [], alts := [], laidByText := true, laidKinds := [.data, .data, .data], laidTests := true, laidLooks := .later }
def ReasonWithoutCardSaid : Prop := Claim7.holds Tryz.pinned (.plain (OpenSpec.ofChange reasonWithoutSpec)) reasonWithoutCard

/-- THE TIED CARD OF 'bombardelaw26.ReasonChecks'. -/
def reasonChecksCard : Claim7 := { stood := { row := reasonChecksRow, standIns := [], harness := (true, "b7b2cb5ce3439dd9538759dc14646f5ba6b659488a75437fa880a5de16808cba"), looks := false }, kinds := [], alts := [], laidByText := true, laidKinds := [.data, .data, .data], laidTests := true, laidLooks := .later }
def ReasonChecksCardSaid : Prop := Claim7.holds Tryz.pinned (.plain (OpenSpec.ofChange reasonChecksSpec)) reasonChecksCard

/-- THE TIED CARD OF 'bombardelaw26.ReasonVerifies'. -/
def reasonVerifiesCard : Claim7 := { stood := { row := reasonVerifiesRow, standIns := [], harness := (true, "b7b2cb5ce3439dd9538759dc14646f5ba6b659488a75437fa880a5de16808cba"), looks := false }, kinds := [], alts := [], laidByText := true, laidKinds := [.data, .data, .data], laidTests := true, laidLooks := .later }
def ReasonVerifiesCardSaid : Prop := Claim7.holds Tryz.pinned (.plain (OpenSpec.ofChange reasonVerifiesSpec)) reasonVerifiesCard

/-- THE TIED CARD OF 'bombardelaw26.ReasonAll'. -/
def reasonAllCard : Claim7 := { stood := { row := reasonAllRow, standIns := [], harness := (true, "b7b2cb5ce3439dd9538759dc14646f5ba6b659488a75437fa880a5de16808cba"), looks := false }, kinds := [], alts := [], laidByText := true, laidKinds := [.data, .data, .data], laidTests := true, laidLooks := .later }
def ReasonAllCardSaid : Prop := Claim7.holds Tryz.pinned (.plain (OpenSpec.ofChange reasonAllSpec)) reasonAllCard

/-- THE TIED CARD OF 'bombardelaw26.ReasonLaws'. -/
def reasonLawsCard : Claim7 := { stood := { row := reasonLawsRow, standIns := [], harness := (true, "b7b2cb5ce3439dd9538759dc14646f5ba6b659488a75437fa880a5de16808cba"), looks := false }, kinds := [], alts := [], laidByText := true, laidKinds := [.data, .data, .data], laidTests := true, laidLooks := .later }
def ReasonLawsCardSaid : Prop := Claim7.holds Tryz.pinned (.plain (OpenSpec.ofChange reasonLawsSpec)) reasonLawsCard

/-- THE TIED CARD OF 'bombardelaw26.ReasonNeeds'. -/
def reasonNeedsCard : Claim7 := { stood := { row := reasonNeedsRow, standIns := [], harness := (true, "b7b2cb5ce3439dd9538759dc14646f5ba6b659488a75437fa880a5de16808cba"), looks := false }, kinds := [], alts := [], laidByText := true, laidKinds := [.data, .data, .data], laidTests := true, laidLooks := .later }
def ReasonNeedsCardSaid : Prop := Claim7.holds Tryz.pinned (.plain (OpenSpec.ofChange reasonNeedsSpec)) reasonNeedsCard

/-- THE SECOND FORM's CARD OF 'bombardelaw26.ReasonCompares'. -/
def reasonComparesUptoCard : Claim7 := { stood := { row := reasonComparesUptoRow, standIns := [], harness := (true, "b7b2cb5ce3439dd9538759dc14646f5ba6b659488a75437fa880a5de16808cba"), looks := false }, kinds := [], alts := [], laidByText := true, laidKinds := [.data, .data, .data], laidTests := true, laidLooks := .later }
def ReasonComparesUptoCardSaid : Prop := Claim7.holds Tryz.pinned (.plain (OpenSpec.upto reasonComparesSpec)) reasonComparesUptoCard

/-- THE SECOND FORM's CARD OF 'bombardelaw26.ReasonWithout'. -/
def reasonWithoutUptoCard : Claim7 := { stood := { row := reasonWithoutUptoRow, standIns := [], harness := (true, "b7b2cb5ce3439dd9538759dc14646f5ba6b659488a75437fa880a5de16808cba"), looks := false }, kinds := [], alts := [], laidByText := true, laidKinds := [.data, .data, .data], laidTests := true, laidLooks := .later }
def ReasonWithoutUptoCardSaid : Prop := Claim7.holds Tryz.pinned (.plain (OpenSpec.upto reasonWithoutSpec)) reasonWithoutUptoCard

/-- THE SECOND FORM's CARD OF 'bombardelaw26.ReasonChecks'. -/
def reasonChecksUptoCard : Claim7 := { stood := { row := reasonChecksUptoRow, standIns := [], harness := (true, "b7b2cb5ce3439dd9538759dc14646f5ba6b659488a75437fa880a5de16808cba"), looks := false }, kinds := [], alts := [], laidByText := true, laidKinds := [.data, .data, .data], laidTests := true, laidLooks := .later }
def ReasonChecksUptoCardSaid : Prop := Claim7.holds Tryz.pinned (.plain (OpenSpec.upto reasonChecksSpec)) reasonChecksUptoCard

/-- THE SECOND FORM's CARD OF 'bombardelaw26.ReasonVerifies'. -/
def reasonVerifiesUptoCard : Claim7 := { stood := { row := reasonVerifiesUptoRow, standIns := [], harness := (true, "b7b2cb5ce3439dd9538759dc14646f5ba6b659488a75437fa880a5de16808cba"), looks := false }, kinds := [], alts := [], laidByText := true, laidKinds := [.data, .data, .data], laidTests := true, laidLooks := .later }
def ReasonVerifiesUptoCardSaid : Prop := Claim7.holds Tryz.pinned (.plain (OpenSpec.upto reasonVerifiesSpec)) reasonVerifiesUptoCard

/-- THE SECOND FORM's CARD OF 'bombardelaw26.ReasonAll'. -/
def reasonAllUptoCard : Claim7 := { stood := { row := reasonAllUptoRow, standIns := [], harness := (true, "b7b2cb5ce3439dd9538759dc14646f5ba6b659488a75437fa880a5de16808cba"), looks := false }, kinds := [], alts := [], laidByText := true, laidKinds := [.data, .data, .data], laidTests := true, laidLooks := .later }
def ReasonAllUptoCardSaid : Prop := Claim7.holds Tryz.pinned (.plain (OpenSpec.upto reasonAllSpec)) reasonAllUptoCard

/-- THE SECOND FORM's CARD OF 'bombardelaw26.ReasonLaws'. -/
def reasonLawsUptoCard : Claim7 := { stood := { row := reasonLawsUptoRow, standIns := [], harness := (true, "b7b2cb5ce3439dd9538759dc14646f5ba6b659488a75437fa880a5de16808cba"), looks := false }, kinds := [], alts := [], laidByText := true, laidKinds := [.data, .data, .data], laidTests := true, laidLooks := .later }
def ReasonLawsUptoCardSaid : Prop := Claim7.holds Tryz.pinned (.plain (OpenSpec.upto reasonLawsSpec)) reasonLawsUptoCard

/-- THE SECOND FORM's CARD OF 'bombardelaw26.ReasonNeeds'. -/
def reasonNeedsUptoCard : Claim7 := { stood := { row := reasonNeedsUptoRow, standIns := [], harness := (true, "b7b2cb5ce3439dd9538759dc14646f5ba6b659488a75437fa880a5de16808cba"), looks := false }, kinds := [], alts := [], laidByText := true, laidKinds := [.data, .data, .data], laidTests := true, laidLooks := .later }
def ReasonNeedsUptoCardSaid : Prop := Claim7.holds Tryz.pinned (.plain (OpenSpec.upto reasonNeedsSpec)) reasonNeedsUptoCard
end Rows
end Go.Proofs.YtfmbcecfgpbmhaaGreatDoor
