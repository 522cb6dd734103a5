/-
  No cell of these rows narrows 'for every input' (looked for: loops, veiled, ifaces, maps, wideKeys, modest, calm, conditions, laid).
  DERIVED. THE GIVEN ROWS OF THIS SEAT. 9 by the template 'for every input the law returns true; each argument reads behind the call as it read before'; 0 by the template 'total and deterministic' (their statements: YtoanhpaipfgnfaaTotals.lean).
  GIVEN WITH THE SEED: the statements are not yours to turn. If you find one false, say at which input.
  Laid BY PROGRAM, IN A SANDBOX (cutbox-rows.mjs): the forced cells as the released guide's own fill.sh prints them over the translation bd439d7596fa4f36… (all of the seat's roots in one cut). By AI agents, Wed Nov 11 2026. No macro, syntax, notation, axiom, sorry.
-/
import Derived.Test.YtoanhpaipfgnfaaChecked
import GoSem.Claim
import GoSem.ClaimJoined
import GoSem.ClaimMapViews
import Derived.JoinedTies
import Derived.KernelRfl
namespace Go.Proofs.Ytoanhpaipfgnfaa
/- THE CELL 'sum', in the pinned program and in every row, IS THE sha256 OF THE DUMP (.gsa) THAT YtoanhpaipfgnfaaProg.lean LOADS. Nothing in Lean hashes anything: it is a label: what it is worth is what the hold of that sum in a sandbox is worth. -/
noncomputable def Try.pinned : Pinned := { name := "ytoanhpaipfgnfaa", sum := "bd439d7596fa4f36f651d4a7c4d4fc3adf53177e3de113cbe454bfbce3dfdd73", checked := Try.checked }
namespace Rows
def none {H : Type} : Left H := { results := [], args := [] }

/-- 'bombardelaw06.DigraphPaths': WHATEVER THE INPUT: true; the input reads as it did. -/
def digraphPathsSpec : ChangeSpec := { name := "digraphPaths", fn := fun _ => fun
  | [d1, d2, d3] => { results := [.lit (.bool true)], args := [d1, d2, d3] }
  | _ => none }
def digraphPathsRow : OpenClaim := { program := "ytoanhpaipfgnfaa", sum := "bd439d7596fa4f36f651d4a7c4d4fc3adf53177e3de113cbe454bfbce3dfdd73", func := "bombarde/bombardelaw06.DigraphPaths", spec := "digraphPaths", unfollowed := true, recurses := true, apart := false }
def DigraphPathsSaid : Prop := digraphPathsRow.holds Try.pinned (OpenSpec.ofChange digraphPathsSpec)

/-- ITS FALSE NEIGHBOUR: 'it returns false'. Refute it at one input. -/
def digraphPathsWrong : ChangeSpec := { name := "digraphPaths", fn := fun _ => fun
  | [d1, d2, d3] => { results := [.lit (.bool false)], args := [d1, d2, d3] }
  | _ => none }
def DigraphPathsWrongFalsely : Prop := digraphPathsRow.holds Try.pinned (OpenSpec.ofChange digraphPathsWrong)

/-- 'bombardelaw06.DigraphCycles': WHATEVER THE INPUT: true; the input reads as it did. -/
def digraphCyclesSpec : ChangeSpec := { name := "digraphCycles", fn := fun _ => fun
  | [d1, d2] => { results := [.lit (.bool true)], args := [d1, d2] }
  | _ => none }
def digraphCyclesRow : OpenClaim := { program := "ytoanhpaipfgnfaa", sum := "bd439d7596fa4f36f651d4a7c4d4fc3adf53177e3de113cbe454bfbce3dfdd73", func := "bombarde/bombardelaw06.DigraphCycles", spec := "digraphCycles", unfollowed := true, recurses := true, apart := false }
def DigraphCyclesSaid : Prop := digraphCyclesRow.holds Try.pinned (OpenSpec.ofChange digraphCyclesSpec)

/-- ITS FALSE NEIGHBOUR: 'it returns false'. Refute it at one input. -/
def digraphCyclesWrong : ChangeSpec := { name := "digraphCycles", fn := fun _ => fun
  | [d1, d2] => { results := [.lit (.bool false)], args := [d1, d2] }
  | _ => none }
def DigraphCyclesWrongFalsely : Prop := digraphCyclesRow.holds Try.pinned (OpenSpec.ofChange digraphCyclesWrong)

/-- 'bombardelaw06.DigraphOrders': WHATEVER THE INPUT: true; the input reads as it did. -/
def digraphOrdersSpec : ChangeSpec := { name := "digraphOrders", fn := fun _ => fun
  | [d1, d2] => { results := [.lit (.bool true)], args := [d1, d2] }
  | _ => none }
def digraphOrdersRow : OpenClaim := { program := "ytoanhpaipfgnfaa", sum := "bd439d7596fa4f36f651d4a7c4d4fc3adf53177e3de113cbe454bfbce3dfdd73", func := "bombarde/bombardelaw06.DigraphOrders", spec := "digraphOrders", unfollowed := true, recurses := true, apart := false }
def DigraphOrdersSaid : Prop := digraphOrdersRow.holds Try.pinned (OpenSpec.ofChange digraphOrdersSpec)

/-- ITS FALSE NEIGHBOUR: 'it returns false'. Refute it at one input. -/
def digraphOrdersWrong : ChangeSpec := { name := "digraphOrders", fn := fun _ => fun
  | [d1, d2] => { results := [.lit (.bool false)], args := [d1, d2] }
  | _ => none }
def DigraphOrdersWrongFalsely : Prop := digraphOrdersRow.holds Try.pinned (OpenSpec.ofChange digraphOrdersWrong)

/-- 'bombardelaw06.DigraphReaches': WHATEVER THE INPUT: true; the input reads as it did. -/
def digraphReachesSpec : ChangeSpec := { name := "digraphReaches", fn := fun _ => fun
  | [d1, d2, d3] => { results := [.lit (.bool true)], args := [d1, d2, d3] }
  | _ => none }
def digraphReachesRow : OpenClaim := { program := "ytoanhpaipfgnfaa", sum := "bd439d7596fa4f36f651d4a7c4d4fc3adf53177e3de113cbe454bfbce3dfdd73", func := "bombarde/bombardelaw06.DigraphReaches", spec := "digraphReaches", unfollowed := true, recurses := true, apart := false }
def DigraphReachesSaid : Prop := digraphReachesRow.holds Try.pinned (OpenSpec.ofChange digraphReachesSpec)

/-- ITS FALSE NEIGHBOUR: 'it returns false'. Refute it at one input. -/
def digraphReachesWrong : ChangeSpec := { name := "digraphReaches", fn := fun _ => fun
  | [d1, d2, d3] => { results := [.lit (.bool false)], args := [d1, d2, d3] }
  | _ => none }
def DigraphReachesWrongFalsely : Prop := digraphReachesRow.holds Try.pinned (OpenSpec.ofChange digraphReachesWrong)

/-- 'bombardelaw06.DigraphLimits': WHATEVER THE INPUT: true; the input reads as it did. -/
def digraphLimitsSpec : ChangeSpec := { name := "digraphLimits", fn := fun _ => fun
  | [d] => { results := [.lit (.bool true)], args := [d] }
  | _ => none }
def digraphLimitsRow : OpenClaim := { program := "ytoanhpaipfgnfaa", sum := "bd439d7596fa4f36f651d4a7c4d4fc3adf53177e3de113cbe454bfbce3dfdd73", func := "bombarde/bombardelaw06.DigraphLimits", spec := "digraphLimits", unfollowed := true, recurses := true, apart := false }
def DigraphLimitsSaid : Prop := digraphLimitsRow.holds Try.pinned (OpenSpec.ofChange digraphLimitsSpec)

/-- ITS FALSE NEIGHBOUR: 'it returns false'. Refute it at one input. -/
def digraphLimitsWrong : ChangeSpec := { name := "digraphLimits", fn := fun _ => fun
  | [d] => { results := [.lit (.bool false)], args := [d] }
  | _ => none }
def DigraphLimitsWrongFalsely : Prop := digraphLimitsRow.holds Try.pinned (OpenSpec.ofChange digraphLimitsWrong)

/-- 'bombardelaw06.DigraphClosures': WHATEVER THE INPUT: true; the input reads as it did. -/
def digraphClosuresSpec : ChangeSpec := { name := "digraphClosures", fn := fun _ => fun
  | [d1, d2] => { results := [.lit (.bool true)], args := [d1, d2] }
  | _ => none }
def digraphClosuresRow : OpenClaim := { program := "ytoanhpaipfgnfaa", sum := "bd439d7596fa4f36f651d4a7c4d4fc3adf53177e3de113cbe454bfbce3dfdd73", func := "bombarde/bombardelaw06.DigraphClosures", spec := "digraphClosures", unfollowed := true, recurses := true, apart := false }
def DigraphClosuresSaid : Prop := digraphClosuresRow.holds Try.pinned (OpenSpec.ofChange digraphClosuresSpec)

/-- ITS FALSE NEIGHBOUR: 'it returns false'. Refute it at one input. -/
def digraphClosuresWrong : ChangeSpec := { name := "digraphClosures", fn := fun _ => fun
  | [d1, d2] => { results := [.lit (.bool false)], args := [d1, d2] }
  | _ => none }
def DigraphClosuresWrongFalsely : Prop := digraphClosuresRow.holds Try.pinned (OpenSpec.ofChange digraphClosuresWrong)

/-- 'bombardelaw06.DigraphComponents': WHATEVER THE INPUT: true; the input reads as it did. -/
def digraphComponentsSpec : ChangeSpec := { name := "digraphComponents", fn := fun _ => fun
  | [d1, d2] => { results := [.lit (.bool true)], args := [d1, d2] }
  | _ => none }
def digraphComponentsRow : OpenClaim := { program := "ytoanhpaipfgnfaa", sum := "bd439d7596fa4f36f651d4a7c4d4fc3adf53177e3de113cbe454bfbce3dfdd73", func := "bombarde/bombardelaw06.DigraphComponents", spec := "digraphComponents", unfollowed := true, recurses := true, apart := false }
def DigraphComponentsSaid : Prop := digraphComponentsRow.holds Try.pinned (OpenSpec.ofChange digraphComponentsSpec)

/-- ITS FALSE NEIGHBOUR: 'it returns false'. Refute it at one input. -/
def digraphComponentsWrong : ChangeSpec := { name := "digraphComponents", fn := fun _ => fun
  | [d1, d2] => { results := [.lit (.bool false)], args := [d1, d2] }
  | _ => none }
def DigraphComponentsWrongFalsely : Prop := digraphComponentsRow.holds Try.pinned (OpenSpec.ofChange digraphComponentsWrong)

/-- 'bombardelaw06.DigraphLaws': WHATEVER THE INPUT: true; the input reads as it did. -/
def digraphLawsSpec : ChangeSpec := { name := "digraphLaws", fn := fun _ => fun
  | [d1, d2] => { results := [.lit (.bool true)], args := [d1, d2] }
  | _ => none }
def digraphLawsRow : OpenClaim := { program := "ytoanhpaipfgnfaa", sum := "bd439d7596fa4f36f651d4a7c4d4fc3adf53177e3de113cbe454bfbce3dfdd73", func := "bombarde/bombardelaw06.DigraphLaws", spec := "digraphLaws", unfollowed := true, recurses := true, apart := false }
def DigraphLawsSaid : Prop := digraphLawsRow.holds Try.pinned (OpenSpec.ofChange digraphLawsSpec)

/-- ITS FALSE NEIGHBOUR: 'it returns false'. Refute it at one input. -/
def digraphLawsWrong : ChangeSpec := { name := "digraphLaws", fn := fun _ => fun
  | [d1, d2] => { results := [.lit (.bool false)], args := [d1, d2] }
  | _ => none }
def DigraphLawsWrongFalsely : Prop := digraphLawsRow.holds Try.pinned (OpenSpec.ofChange digraphLawsWrong)

/-- 'bombardelaw06.DigraphChecks': WHATEVER THE INPUT: true; the input reads as it did. -/
def digraphChecksSpec : ChangeSpec := { name := "digraphChecks", fn := fun _ => fun
  | [d1, d2] => { results := [.lit (.bool true)], args := [d1, d2] }
  | _ => none }
def digraphChecksRow : OpenClaim := { program := "ytoanhpaipfgnfaa", sum := "bd439d7596fa4f36f651d4a7c4d4fc3adf53177e3de113cbe454bfbce3dfdd73", func := "bombarde/bombardelaw06.DigraphChecks", spec := "digraphChecks", unfollowed := true, recurses := true, apart := false }
def DigraphChecksSaid : Prop := digraphChecksRow.holds Try.pinned (OpenSpec.ofChange digraphChecksSpec)

/-- ITS FALSE NEIGHBOUR: 'it returns false'. Refute it at one input. -/
def digraphChecksWrong : ChangeSpec := { name := "digraphChecks", fn := fun _ => fun
  | [d1, d2] => { results := [.lit (.bool false)], args := [d1, d2] }
  | _ => none }
def DigraphChecksWrongFalsely : Prop := digraphChecksRow.holds Try.pinned (OpenSpec.ofChange digraphChecksWrong)

/- THE SECOND FORM. 'bulk': how many values and letters a reading holds, each counted each time it is reached (what is shared counts as often as it is met; a slice's spare places count too). A statement '..UptoSaid' is the law's where the arguments, and the package variables that the reading takes, are together of bulk at most 1048576: NARROWER than '..Said'. Prove '..Said' where nothing that the law and all that it calls make is longer than what came in: it says more and counts as full. Else prove '..UptoSaid'. A law counts once. -/
mutual
def uptoBulk {H : Type} : DataW H → Nat
  | .lit (.string bytes) => bytes.length + 1
  | .lit _ => 1
  | .nil => 1
  | .ptr d => uptoBulk d + 1
  | .slice elems spare => uptoBulkAll elems + uptoBulkAll spare + 1
  | .agg parts => uptoBulkAll parts + 1
  | .iface _ d => uptoBulk d + 1
  | .map entries => uptoBulkEntries entries + 1
  | .held _ => 1
def uptoBulkAll {H : Type} : List (DataW H) → Nat
  | [] => 0
  | d :: r => uptoBulk d + uptoBulkAll r
def uptoBulkEntries {H : Type} : List (Lit × DataW H) → Nat
  | [] => 0
  | x :: r => uptoBulkEntry x + uptoBulkEntries r
def uptoBulkEntry {H : Type} : Lit × DataW H → Nat
  | (.string bytes, d) => bytes.length + uptoBulk d + 1
  | (_, d) => uptoBulk d + 1
 end
def uptoSmall : (H : Type) → List (DataW H) → Bool := fun _ ds => decide (uptoBulkAll ds ≤ 1048576)
def OpenSpec.upto (s : _root_.Go.ChangeSpec) : _root_.Go.OpenSpec := { _root_.Go.OpenSpec.ofChange s with cond := some uptoSmall }

/-- 'bombardelaw06.DigraphPaths', WHERE WHAT IT READS IS OF BULK AT MOST 1048576: true; the input reads as it did. -/
def digraphPathsUptoRow : OpenClaim := { program := "ytoanhpaipfgnfaa", sum := "bd439d7596fa4f36f651d4a7c4d4fc3adf53177e3de113cbe454bfbce3dfdd73", func := "bombarde/bombardelaw06.DigraphPaths", spec := "digraphPaths", unfollowed := true, recurses := true, apart := false, narrowed := true }
def DigraphPathsUptoSaid : Prop := digraphPathsUptoRow.holds Try.pinned (OpenSpec.upto digraphPathsSpec)

/-- 'bombardelaw06.DigraphCycles', WHERE WHAT IT READS IS OF BULK AT MOST 1048576: true; the input reads as it did. -/
def digraphCyclesUptoRow : OpenClaim := { program := "ytoanhpaipfgnfaa", sum := "bd439d7596fa4f36f651d4a7c4d4fc3adf53177e3de113cbe454bfbce3dfdd73", func := "bombarde/bombardelaw06.DigraphCycles", spec := "digraphCycles", unfollowed := true, recurses := true, apart := false, narrowed := true }
def DigraphCyclesUptoSaid : Prop := digraphCyclesUptoRow.holds Try.pinned (OpenSpec.upto digraphCyclesSpec)

/-- 'bombardelaw06.DigraphOrders', WHERE WHAT IT READS IS OF BULK AT MOST 1048576: true; the input reads as it did. -/
def digraphOrdersUptoRow : OpenClaim := { program := "ytoanhpaipfgnfaa", sum := "bd439d7596fa4f36f651d4a7c4d4fc3adf53177e3de113cbe454bfbce3dfdd73", func := "bombarde/bombardelaw06.DigraphOrders", spec := "digraphOrders", unfollowed := true, recurses := true, apart := false, narrowed := true }
def DigraphOrdersUptoSaid : Prop := digraphOrdersUptoRow.holds Try.pinned (OpenSpec.upto digraphOrdersSpec)

/-- 'bombardelaw06.DigraphReaches', WHERE WHAT IT READS IS OF BULK AT MOST 1048576: true; the input reads as it did. -/
def digraphReachesUptoRow : OpenClaim := { program := "ytoanhpaipfgnfaa", sum := "bd439d7596fa4f36f651d4a7c4d4fc3adf53177e3de113cbe454bfbce3dfdd73", func := "bombarde/bombardelaw06.DigraphReaches", spec := "digraphReaches", unfollowed := true, recurses := true, apart := false, narrowed := true }
def DigraphReachesUptoSaid : Prop := digraphReachesUptoRow.holds Try.pinned (OpenSpec.upto digraphReachesSpec)

/-- 'bombardelaw06.DigraphLimits', WHERE WHAT IT READS IS OF BULK AT MOST 1048576: true; the input reads as it did. -/
def digraphLimitsUptoRow : OpenClaim := { program := "ytoanhpaipfgnfaa", sum := "bd439d7596fa4f36f651d4a7c4d4fc3adf53177e3de113cbe454bfbce3dfdd73", func := "bombarde/bombardelaw06.DigraphLimits", spec := "digraphLimits", unfollowed := true, recurses := true, apart := false, narrowed := true }
def DigraphLimitsUptoSaid : Prop := digraphLimitsUptoRow.holds Try.pinned (OpenSpec.upto digraphLimitsSpec)

/-- 'bombardelaw06.DigraphClosures', WHERE WHAT IT READS IS OF BULK AT MOST 1048576: true; the input reads as it did. -/
def digraphClosuresUptoRow : OpenClaim := { program := "ytoanhpaipfgnfaa", sum := "bd439d7596fa4f36f651d4a7c4d4fc3adf53177e3de113cbe454bfbce3dfdd73", func := "bombarde/bombardelaw06.DigraphClosures", spec := "digraphClosures", unfollowed := true, recurses := true, apart := false, narrowed := true }
def DigraphClosuresUptoSaid : Prop := digraphClosuresUptoRow.holds Try.pinned (OpenSpec.upto digraphClosuresSpec)

/-- 'bombardelaw06.DigraphComponents', WHERE WHAT IT READS IS OF BULK AT MOST 1048576: true; the input reads as it did. -/
def digraphComponentsUptoRow : OpenClaim := { program := "ytoanhpaipfgnfaa", sum := "bd439d7596fa4f36f651d4a7c4d4fc3adf53177e3de113cbe454bfbce3dfdd73", func := "bombarde/bombardelaw06.DigraphComponents", spec := "digraphComponents", unfollowed := true, recurses := true, apart := false, narrowed := true }
def DigraphComponentsUptoSaid : Prop := digraphComponentsUptoRow.holds Try.pinned (OpenSpec.upto digraphComponentsSpec)

/-- 'bombardelaw06.DigraphLaws', WHERE WHAT IT READS IS OF BULK AT MOST 1048576: true; the input reads as it did. -/
def digraphLawsUptoRow : OpenClaim := { program := "ytoanhpaipfgnfaa", sum := "bd439d7596fa4f36f651d4a7c4d4fc3adf53177e3de113cbe454bfbce3dfdd73", func := "bombarde/bombardelaw06.DigraphLaws", spec := "digraphLaws", unfollowed := true, recurses := true, apart := false, narrowed := true }
def DigraphLawsUptoSaid : Prop := digraphLawsUptoRow.holds Try.pinned (OpenSpec.upto digraphLawsSpec)

/-- 'bombardelaw06.DigraphChecks', WHERE WHAT IT READS IS OF BULK AT MOST 1048576: true; the input reads as it did. -/
def digraphChecksUptoRow : OpenClaim := { program := "ytoanhpaipfgnfaa", sum := "bd439d7596fa4f36f651d4a7c4d4fc3adf53177e3de113cbe454bfbce3dfdd73", func := "bombarde/bombardelaw06.DigraphChecks", spec := "digraphChecks", unfollowed := true, recurses := true, apart := false, narrowed := true }
def DigraphChecksUptoSaid : Prop := digraphChecksUptoRow.holds Try.pinned (OpenSpec.upto digraphChecksSpec)

end Rows
end Go.Proofs.Ytoanhpaipfgnfaa
