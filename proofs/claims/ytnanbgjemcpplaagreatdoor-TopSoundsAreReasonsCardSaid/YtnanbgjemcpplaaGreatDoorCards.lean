/-
  DERIVED. GIVEN WITH THE SEED: THE CARDS: each row of YtnanbgjemcpplaaGreatDoorRows.lean that lists a variable, with what it lists TIED to the program's text (the seventh form; the later family's looks); each row that meets fmt, with fmt's text TOLD by the authors' own Lean function (tested against real Go, not proved from fmt's source: count such statements apart). THE CARD IS WHAT COUNTS. Prove the row's statement (the work); the ties are given (YtnanbgjemcpplaaGreatDoorTie.lean); close each card by the builder's one call (the guide's Derived/Test/ToyasCard.lean, 'card_holds'). Laid BY PROGRAM, IN A SANDBOX (cutbox-door.mjs). By AI agents, Wed Nov 11 2026. No macro, syntax, notation, axiom, sorry.
-/
import Derived.Test.YtnanbgjemcpplaaGreatDoorRows
import GoSem.ClaimSeven
namespace Go.Proofs.YtnanbgjemcpplaaGreatDoor
namespace Rows

/-- THE TIED CARD OF 'bombardetop.TopSoundsAreReasons'. -/
def topSoundsAreReasonsCard : Claim7 := { stood := { row := topSoundsAreReasonsRow, standIns := [], harness := (true, "b0bce07c4787bb130c10b2969750039a453907f6657a7fc363b0b4d123040aaf"), looks := false }, kinds := [], alts := [], laidByText := true, laidKinds := [.data, .data, .data], laidTests := true, laidLooks := .later }
def TopSoundsAreReasonsCardSaid : Prop := Claim7.holds Tryz.pinned (.plain (OpenSpec.ofChange topSoundsAreReasonsSpec)) topSoundsAreReasonsCard

/-- THE TIED CARD OF 'bombardelaw26.ReasonVerifies'. -/
def reasonVerifiesCard : Claim7 := { stood := { row := reasonVerifiesRow, standIns := [], harness := (true, "b0bce07c4787bb130c10b2969750039a453907f6657a7fc363b0b4d123040aaf"), looks := false }, kinds := [], alts := [], laidByText := true, laidKinds := [.data, .data, .data], laidTests := true, laidLooks := .later }
def ReasonVerifiesCardSaid : Prop := Claim7.holds Tryz.pinned (.plain (OpenSpec.ofChange reasonVerifiesSpec)) reasonVerifiesCard

/-- THE TIED CARD OF 'bombardetop.TopPistonsRecall'. -/
def topPistonsRecallCard : Claim7 := { stood := { row := topPistonsRecallRow, standIns := [], harness := (true, "b0bce07c4787bb130c10b2969750039a453907f6657a7fc363b0b4d123040aaf"), looks := false }, kinds := [], alts := [], laidByText := true, laidKinds := [.data, .data, .data], laidTests := true, laidLooks := .later }
def TopPistonsRecallCardSaid : Prop := Claim7.holds Tryz.pinned (.plain (OpenSpec.ofChange topPistonsRecallSpec)) topPistonsRecallCard

/-- THE SECOND FORM's CARD OF 'bombardetop.TopSoundsAreReasons'. -/
def topSoundsAreReasonsUptoCard : Claim7 := { stood := { row := topSoundsAreReasonsUptoRow, standIns := [], harness := (true, "b0bce07c4787bb130c10b2969750039a453907f6657a7fc363b0b4d123040aaf"), looks := false }, kinds := [], alts := [], laidByText := true, laidKinds := [.data, .data, .data], laidTests := true, laidLooks := .later }
def TopSoundsAreReasonsUptoCardSaid : Prop := Claim7.holds Tryz.pinned (.plain (OpenSpec.upto topSoundsAreReasonsSpec)) topSoundsAreReasonsUptoCard

/-- THE SECOND FORM's CARD OF 'bombardelaw26.ReasonVerifies'. -/
def reasonVerifiesUptoCard : Claim7 := { stood := { row := reasonVerifiesUptoRow, standIns := [], harness := (true, "b0bce07c4787bb130c10b2969750039a453907f6657a7fc363b0b4d123040aaf"), looks := false }, kinds := [], alts := [], laidByText := true, laidKinds := [.data, .data, .data], laidTests := true, laidLooks := .later }
def ReasonVerifiesUptoCardSaid : Prop := Claim7.holds Tryz.pinned (.plain (OpenSpec.upto reasonVerifiesSpec)) reasonVerifiesUptoCard

/-- THE SECOND FORM's CARD OF 'bombardetop.TopPistonsRecall'. -/
def topPistonsRecallUptoCard : Claim7 := { stood := { row := topPistonsRecallUptoRow, standIns := [], harness := (true, "b0bce07c4787bb130c10b2969750039a453907f6657a7fc363b0b4d123040aaf"), looks := false }, kinds := [], alts := [], laidByText := true, laidKinds := [.data, .data, .data], laidTests := true, laidLooks := .later }
def TopPistonsRecallUptoCardSaid : Prop := Claim7.holds Tryz.pinned (.plain (OpenSpec.upto topPistonsRecallSpec)) topPistonsRecallUptoCard
end Rows
end Go.Proofs.YtnanbgjemcpplaaGreatDoor
