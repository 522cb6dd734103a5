/-
  NARROWER THAN 'FOR EVERY INPUT', by the rows' own cells (each row's printed sentence says how): RegistrationChanges: laid · RegistrationHolds: laid · RegistrationFree: laid · RegistrationChecks: laid · RegistrationApplies: laid · RegistrationLaws: laid.
  DERIVED. THE GIVEN ROWS OF THIS SEAT. 6 by the template 'for every input the law returns true; each argument reads behind the call as it read before'; 0 by the template 'total and deterministic' (their statements: YtnfcbhnjapmmcaaGreatDoorTotals.lean).
  GIVEN WITH THE SEED: the statements are not yours to turn. If you find one false, say at which input.
  Laid BY PROGRAM, IN A SANDBOX (cutbox-rows.mjs): the forced cells as the released guide's own fill.sh prints them over the translation 5a2e242c1655f913… (all of the seat's roots in one cut). By AI agents, Wed Nov 11 2026. No macro, syntax, notation, axiom, sorry.
-/
import Derived.Test.YtnfcbhnjapmmcaaGreatDoorChecked
import GoSem.Claim
import GoSem.ClaimJoined
import GoSem.ClaimMapViews
import Derived.JoinedTies
import Derived.KernelRfl
namespace Go.Proofs.YtnfcbhnjapmmcaaGreatDoor
/- THE CELL 'sum', in the pinned program and in every row, IS THE sha256 OF THE DUMP (.gsa) THAT YtnfcbhnjapmmcaaGreatDoorProg.lean LOADS. Nothing in Lean hashes anything: it is a label: what it is worth is what the hold of that sum in a sandbox is worth. -/
noncomputable def Tryz.pinned : Pinned := { name := "ytnfcbhnjapmmcaagreatdoor", sum := "5a2e242c1655f9134cbe90ef351d0a9495a11b002ab00e527de8763919a5bf85", checked := Tryz.checked }
namespace Rows
def none {H : Type} : Left H := { results := [], args := [] }

/- WHAT THE LISTED PACKAGE-LEVEL VARIABLES READ AS WHEN THE CALL BEGINS. Each datum BY PROGRAM (the guide's laid-datum.mjs) off the statement by which the dump's own 'gosem.cut.vars' lays the variable. In a bare row this is a premise. The card (YtnfcbhnjapmmcaaGreatDoorCards.lean) ties it to the program's text. -/
def laid_math_bits_deBruijn32tab {H : Type} : DataW H := .agg [.lit (.int .u8 0), .lit (.int .u8 1), .lit (.int .u8 28), .lit (.int .u8 2), .lit (.int .u8 29), .lit (.int .u8 14), .lit (.int .u8 24), .lit (.int .u8 3), .lit (.int .u8 30), .lit (.int .u8 22), .lit (.int .u8 20), .lit (.int .u8 15), .lit (.int .u8 25), .lit (.int .u8 17), .lit (.int .u8 4), .lit (.int .u8 8), .lit (.int .u8 31), .lit (.int .u8 27), .lit (.int .u8 13), .lit (.int .u8 23), .lit (.int .u8 21), .lit (.int .u8 19), .lit (.int .u8 16), .lit (.int .u8 7), .lit (.int .u8 26), .lit (.int .u8 12), .lit (.int .u8 18), .lit (.int .u8 6), .lit (.int .u8 11), .lit (.int .u8 5), .lit (.int .u8 10), .lit (.int .u8 9)]
def laid_math_bits_deBruijn64tab {H : Type} : DataW H := .agg [.lit (.int .u8 0), .lit (.int .u8 1), .lit (.int .u8 56), .lit (.int .u8 2), .lit (.int .u8 57), .lit (.int .u8 49), .lit (.int .u8 28), .lit (.int .u8 3), .lit (.int .u8 61), .lit (.int .u8 58), .lit (.int .u8 42), .lit (.int .u8 50), .lit (.int .u8 38), .lit (.int .u8 29), .lit (.int .u8 17), .lit (.int .u8 4), .lit (.int .u8 62), .lit (.int .u8 47), .lit (.int .u8 59), .lit (.int .u8 36), .lit (.int .u8 45), .lit (.int .u8 43), .lit (.int .u8 51), .lit (.int .u8 22), .lit (.int .u8 53), .lit (.int .u8 39), .lit (.int .u8 33), .lit (.int .u8 30), .lit (.int .u8 24), .lit (.int .u8 18), .lit (.int .u8 12), .lit (.int .u8 5), .lit (.int .u8 63), .lit (.int .u8 55), .lit (.int .u8 48), .lit (.int .u8 27), .lit (.int .u8 60), .lit (.int .u8 41), .lit (.int .u8 37), .lit (.int .u8 16), .lit (.int .u8 46), .lit (.int .u8 35), .lit (.int .u8 44), .lit (.int .u8 21), .lit (.int .u8 52), .lit (.int .u8 32), .lit (.int .u8 23), .lit (.int .u8 11), .lit (.int .u8 54), .lit (.int .u8 26), .lit (.int .u8 40), .lit (.int .u8 15), .lit (.int .u8 34), .lit (.int .u8 20), .lit (.int .u8 31), .lit (.int .u8 10), .lit (.int .u8 25), .lit (.int .u8 14), .lit (.int .u8 19), .lit (.int .u8 9), .lit (.int .u8 13), .lit (.int .u8 8), .lit (.int .u8 7), .lit (.int .u8 6)]
def laid_internal_strconv_uint64pow10 {H : Type} : DataW H := .agg [.lit (.int .u64 1), .lit (.int .u64 10), .lit (.int .u64 100), .lit (.int .u64 1000), .lit (.int .u64 10000), .lit (.int .u64 100000), .lit (.int .u64 1000000), .lit (.int .u64 10000000), .lit (.int .u64 100000000), .lit (.int .u64 1000000000), .lit (.int .u64 10000000000), .lit (.int .u64 100000000000), .lit (.int .u64 1000000000000), .lit (.int .u64 10000000000000), .lit (.int .u64 100000000000000), .lit (.int .u64 1000000000000000), .lit (.int .u64 10000000000000000), .lit (.int .u64 100000000000000000), .lit (.int .u64 1000000000000000000), .lit (.int .u64 10000000000000000000)]

/-- 'bombardelaw47.RegistrationChanges': WHATEVER THE INPUT: true; the input reads as it did. -/
def registrationChangesSpec : ChangeSpec := { name := "registrationChanges", fn := fun _ => fun
  | [d] => { results := [.lit (.bool true)], args := [d] }
  | _ => none }
def registrationChangesRow : OpenClaim := { program := "ytnfcbhnjapmmcaagreatdoor", sum := "5a2e242c1655f9134cbe90ef351d0a9495a11b002ab00e527de8763919a5bf85", func := "bombarde/bombardelaw47.RegistrationChanges", spec := "registrationChanges", inPlace := ["internal/abi.NoEscape", "internal/bytealg.MakeNoZero", "internal/bytealg.abigen_runtime_cmpstring"], unfollowed := true, recurses := true, named := ["math/bits.deBruijn64tab", "internal/strconv.uint64pow10", "math/bits.deBruijn32tab"], plainKeys := false, apart := false, laid := [("math/bits.deBruijn32tab", laid_math_bits_deBruijn32tab), ("math/bits.deBruijn64tab", laid_math_bits_deBruijn64tab), ("internal/strconv.uint64pow10", laid_internal_strconv_uint64pow10)] }
def RegistrationChangesSaid : Prop := registrationChangesRow.holds Tryz.pinned (OpenSpec.ofChange registrationChangesSpec)

/-- ITS FALSE NEIGHBOUR: 'it returns false'. Refute it at one input. -/
def registrationChangesWrong : ChangeSpec := { name := "registrationChanges", fn := fun _ => fun
  | [d] => { results := [.lit (.bool false)], args := [d] }
  | _ => none }
def RegistrationChangesWrongFalsely : Prop := registrationChangesRow.holds Tryz.pinned (OpenSpec.ofChange registrationChangesWrong)

/-- 'bombardelaw47.RegistrationHolds': WHATEVER THE INPUT: true; the input reads as it did. -/
def registrationHoldsSpec : ChangeSpec := { name := "registrationHolds", fn := fun _ => fun
  | [d] => { results := [.lit (.bool true)], args := [d] }
  | _ => none }
def registrationHoldsRow : OpenClaim := { program := "ytnfcbhnjapmmcaagreatdoor", sum := "5a2e242c1655f9134cbe90ef351d0a9495a11b002ab00e527de8763919a5bf85", func := "bombarde/bombardelaw47.RegistrationHolds", spec := "registrationHolds", inPlace := ["internal/abi.NoEscape", "internal/bytealg.MakeNoZero", "internal/bytealg.abigen_runtime_cmpstring"], unfollowed := true, recurses := true, named := ["math/bits.deBruijn64tab", "internal/strconv.uint64pow10", "math/bits.deBruijn32tab"], plainKeys := false, apart := false, laid := [("math/bits.deBruijn32tab", laid_math_bits_deBruijn32tab), ("math/bits.deBruijn64tab", laid_math_bits_deBruijn64tab), ("internal/strconv.uint64pow10", laid_internal_strconv_uint64pow10)] }
def RegistrationHoldsSaid : Prop := registrationHoldsRow.holds Tryz.pinned (OpenSpec.ofChange registrationHoldsSpec)

/-- ITS FALSE NEIGHBOUR: 'it returns false'. Refute it at one input. -/
def registrationHoldsWrong : ChangeSpec := { name := "registrationHolds", fn := fun _ => fun
  | [d] => { results := [.lit (.bool false)], args := [d] }
  | _ => none }
def RegistrationHoldsWrongFalsely : Prop := registrationHoldsRow.holds Tryz.pinned (OpenSpec.ofChange registrationHoldsWrong)

/-- 'bombardelaw47.RegistrationFree': WHATEVER THE INPUT: true; the input reads as it did. -/
def registrationFreeSpec : ChangeSpec := { name := "registrationFree", fn := fun _ => fun
  | [d1, d2] => { results := [.lit (.bool true)], args := [d1, d2] }
  | _ => none }
def registrationFreeRow : OpenClaim := { program := "ytnfcbhnjapmmcaagreatdoor", sum := "5a2e242c1655f9134cbe90ef351d0a9495a11b002ab00e527de8763919a5bf85", func := "bombarde/bombardelaw47.RegistrationFree", spec := "registrationFree", inPlace := ["internal/abi.NoEscape", "internal/bytealg.MakeNoZero", "internal/bytealg.abigen_runtime_cmpstring"], unfollowed := true, recurses := true, named := ["math/bits.deBruijn64tab", "internal/strconv.uint64pow10", "math/bits.deBruijn32tab"], plainKeys := false, apart := false, laid := [("math/bits.deBruijn32tab", laid_math_bits_deBruijn32tab), ("math/bits.deBruijn64tab", laid_math_bits_deBruijn64tab), ("internal/strconv.uint64pow10", laid_internal_strconv_uint64pow10)] }
def RegistrationFreeSaid : Prop := registrationFreeRow.holds Tryz.pinned (OpenSpec.ofChange registrationFreeSpec)

/-- ITS FALSE NEIGHBOUR: 'it returns false'. Refute it at one input. -/
def registrationFreeWrong : ChangeSpec := { name := "registrationFree", fn := fun _ => fun
  | [d1, d2] => { results := [.lit (.bool false)], args := [d1, d2] }
  | _ => none }
def RegistrationFreeWrongFalsely : Prop := registrationFreeRow.holds Tryz.pinned (OpenSpec.ofChange registrationFreeWrong)

/-- 'bombardelaw47.RegistrationChecks': WHATEVER THE INPUT: true; the input reads as it did. -/
def registrationChecksSpec : ChangeSpec := { name := "registrationChecks", fn := fun _ => fun
  | [d1, d2, d3] => { results := [.lit (.bool true)], args := [d1, d2, d3] }
  | _ => none }
def registrationChecksRow : OpenClaim := { program := "ytnfcbhnjapmmcaagreatdoor", sum := "5a2e242c1655f9134cbe90ef351d0a9495a11b002ab00e527de8763919a5bf85", func := "bombarde/bombardelaw47.RegistrationChecks", spec := "registrationChecks", inPlace := ["internal/abi.NoEscape", "internal/bytealg.MakeNoZero", "internal/bytealg.abigen_runtime_cmpstring"], unfollowed := true, recurses := true, named := ["math/bits.deBruijn64tab", "internal/strconv.uint64pow10", "math/bits.deBruijn32tab"], plainKeys := false, apart := false, laid := [("math/bits.deBruijn32tab", laid_math_bits_deBruijn32tab), ("math/bits.deBruijn64tab", laid_math_bits_deBruijn64tab), ("internal/strconv.uint64pow10", laid_internal_strconv_uint64pow10)] }
def RegistrationChecksSaid : Prop := registrationChecksRow.holds Tryz.pinned (OpenSpec.ofChange registrationChecksSpec)

/-- ITS FALSE NEIGHBOUR: 'it returns false'. Refute it at one input. -/
def registrationChecksWrong : ChangeSpec := { name := "registrationChecks", fn := fun _ => fun
  | [d1, d2, d3] => { results := [.lit (.bool false)], args := [d1, d2, d3] }
  | _ => none }
def RegistrationChecksWrongFalsely : Prop := registrationChecksRow.holds Tryz.pinned (OpenSpec.ofChange registrationChecksWrong)

/-- 'bombardelaw47.RegistrationApplies': WHATEVER THE INPUT: true; the input reads as it did. -/
def registrationAppliesSpec : ChangeSpec := { name := "registrationApplies", fn := fun _ => fun
  | [d1, d2, d3] => { results := [.lit (.bool true)], args := [d1, d2, d3] }
  | _ => none }
def registrationAppliesRow : OpenClaim := { program := "ytnfcbhnjapmmcaagreatdoor", sum := "5a2e242c1655f9134cbe90ef351d0a9495a11b002ab00e527de8763919a5bf85", func := "bombarde/bombardelaw47.RegistrationApplies", spec := "registrationApplies", inPlace := ["internal/abi.NoEscape", "internal/bytealg.MakeNoZero", "internal/bytealg.abigen_runtime_cmpstring"], unfollowed := true, recurses := true, named := ["math/bits.deBruijn64tab", "internal/strconv.uint64pow10", "math/bits.deBruijn32tab"], plainKeys := false, apart := false, laid := [("math/bits.deBruijn32tab", laid_math_bits_deBruijn32tab), ("math/bits.deBruijn64tab", laid_math_bits_deBruijn64tab), ("internal/strconv.uint64pow10", laid_internal_strconv_uint64pow10)] }
def RegistrationAppliesSaid : Prop := registrationAppliesRow.holds Tryz.pinned (OpenSpec.ofChange registrationAppliesSpec)

/-- ITS FALSE NEIGHBOUR: 'it returns false'. Refute it at one input. -/
def registrationAppliesWrong : ChangeSpec := { name := "registrationApplies", fn := fun _ => fun
  | [d1, d2, d3] => { results := [.lit (.bool false)], args := [d1, d2, d3] }
  | _ => none }
def RegistrationAppliesWrongFalsely : Prop := registrationAppliesRow.holds Tryz.pinned (OpenSpec.ofChange registrationAppliesWrong)

/-- 'bombardelaw47.RegistrationLaws': WHATEVER THE INPUT: true; the input reads as it did. -/
def registrationLawsSpec : ChangeSpec := { name := "registrationLaws", fn := fun _ => fun
  | [d] => { results := [.lit (.bool true)], args := [d] }
  | _ => none }
def registrationLawsRow : OpenClaim := { program := "ytnfcbhnjapmmcaagreatdoor", sum := "5a2e242c1655f9134cbe90ef351d0a9495a11b002ab00e527de8763919a5bf85", func := "bombarde/bombardelaw47.RegistrationLaws", spec := "registrationLaws", inPlace := ["internal/abi.NoEscape", "internal/bytealg.MakeNoZero", "internal/bytealg.abigen_runtime_cmpstring"], unfollowed := true, recurses := true, named := ["math/bits.deBruijn64tab", "internal/strconv.uint64pow10", "math/bits.deBruijn32tab"], plainKeys := false, apart := false, laid := [("math/bits.deBruijn32tab", laid_math_bits_deBruijn32tab), ("math/bits.deBruijn64tab", laid_math_bits_deBruijn64tab), ("internal/strconv.uint64pow10", laid_internal_strconv_uint64pow10)] }
def RegistrationLawsSaid : Prop := registrationLawsRow.holds Tryz.pinned (OpenSpec.ofChange registrationLawsSpec)

/-- ITS FALSE NEIGHBOUR: 'it returns false'. Refute it at one input. -/
def registrationLawsWrong : ChangeSpec := { name := "registrationLaws", fn := fun _ => fun
  | [d] => { results := [.lit (.bool false)], args := [d] }
  | _ => none }
def RegistrationLawsWrongFalsely : Prop := registrationLawsRow.holds Tryz.pinned (OpenSpec.ofChange registrationLawsWrong)

/- THE SECOND FORM. 'bulk': how many values and letters a reading holds, each counted each time it is reached (what is shared counts as often as it is met; a slice's spare places count too). A statement '..UptoSaid' is the law's where the arguments, and the package variables that the reading takes, are together of bulk at most 1048576: NARROWER than '..Said'. Prove '..Said' where nothing that the law and all that it calls make is longer than what came in: it says more and counts as full. Else prove '..UptoSaid'. A law counts once. -/
mutual
def uptoBulk {H : Type} : DataW H → Nat
  | .lit (.string bytes) => bytes.length + 1
  | .lit _ => 1
  | .nil => 1
  | .ptr d => uptoBulk d + 1
  | .slice elems spare => uptoBulkAll elems + uptoBulkAll spare + 1
  | .agg parts => uptoBulkAll parts + 1
  | .iface _ d => uptoBulk d + 1
  | .map entries => uptoBulkEntries entries + 1
  | .held _ => 1
def uptoBulkAll {H : Type} : List (DataW H) → Nat
  | [] => 0
  | d :: r => uptoBulk d + uptoBulkAll r
def uptoBulkEntries {H : Type} : List (Lit × DataW H) → Nat
  | [] => 0
  | x :: r => uptoBulkEntry x + uptoBulkEntries r
def uptoBulkEntry {H : Type} : Lit × DataW H → Nat
  | (.string bytes, d) => bytes.length + uptoBulk d + 1
  | (_, d) => uptoBulk d + 1
 end
def uptoSmall : (H : Type) → List (DataW H) → Bool := fun _ ds => decide (uptoBulkAll ds ≤ 1048576)
def OpenSpec.upto (s : _root_.Go.ChangeSpec) : _root_.Go.OpenSpec := { _root_.Go.OpenSpec.ofChange s with cond := some uptoSmall }

/-- 'bombardelaw47.RegistrationChanges', WHERE WHAT IT READS IS OF BULK AT MOST 1048576: true; the input reads as it did. -/
def registrationChangesUptoRow : OpenClaim := { program := "ytnfcbhnjapmmcaagreatdoor", sum := "5a2e242c1655f9134cbe90ef351d0a9495a11b002ab00e527de8763919a5bf85", func := "bombarde/bombardelaw47.RegistrationChanges", spec := "registrationChanges", inPlace := ["internal/abi.NoEscape", "internal/bytealg.MakeNoZero", "internal/bytealg.abigen_runtime_cmpstring"], unfollowed := true, recurses := true, named := ["math/bits.deBruijn64tab", "internal/strconv.uint64pow10", "math/bits.deBruijn32tab"], plainKeys := false, apart := false, laid := [("math/bits.deBruijn32tab", laid_math_bits_deBruijn32tab), ("math/bits.deBruijn64tab", laid_math_bits_deBruijn64tab), ("internal/strconv.uint64pow10", laid_internal_strconv_uint64pow10)], narrowed := true }
def RegistrationChangesUptoSaid : Prop := registrationChangesUptoRow.holds Tryz.pinned (OpenSpec.upto registrationChangesSpec)

/-- 'bombardelaw47.RegistrationHolds', WHERE WHAT IT READS IS OF BULK AT MOST 1048576: true; the input reads as it did. -/
def registrationHoldsUptoRow : OpenClaim := { program := "ytnfcbhnjapmmcaagreatdoor", sum := "5a2e242c1655f9134cbe90ef351d0a9495a11b002ab00e527de8763919a5bf85", func := "bombarde/bombardelaw47.RegistrationHolds", spec := "registrationHolds", inPlace := ["internal/abi.NoEscape", "internal/bytealg.MakeNoZero", "internal/bytealg.abigen_runtime_cmpstring"], unfollowed := true, recurses := true, named := ["math/bits.deBruijn64tab", "internal/strconv.uint64pow10", "math/bits.deBruijn32tab"], plainKeys := false, apart := false, laid := [("math/bits.deBruijn32tab", laid_math_bits_deBruijn32tab), ("math/bits.deBruijn64tab", laid_math_bits_deBruijn64tab), ("internal/strconv.uint64pow10", laid_internal_strconv_uint64pow10)], narrowed := true }
def RegistrationHoldsUptoSaid : Prop := registrationHoldsUptoRow.holds Tryz.pinned (OpenSpec.upto registrationHoldsSpec)

/-- 'bombardelaw47.RegistrationFree', WHERE WHAT IT READS IS OF BULK AT MOST 1048576: true; the input reads as it did. -/
def registrationFreeUptoRow : OpenClaim := { program := "ytnfcbhnjapmmcaagreatdoor", sum := "5a2e242c1655f9134cbe90ef351d0a9495a11b002ab00e527de8763919a5bf85", func := "bombarde/bombardelaw47.RegistrationFree", spec := "registrationFree", inPlace := ["internal/abi.NoEscape", "internal/bytealg.MakeNoZero", "internal/bytealg.abigen_runtime_cmpstring"], unfollowed := true, recurses := true, named := ["math/bits.deBruijn64tab", "internal/strconv.uint64pow10", "math/bits.deBruijn32tab"], plainKeys := false, apart := false, laid := [("math/bits.deBruijn32tab", laid_math_bits_deBruijn32tab), ("math/bits.deBruijn64tab", laid_math_bits_deBruijn64tab), ("internal/strconv.uint64pow10", laid_internal_strconv_uint64pow10)], narrowed := true }
def RegistrationFreeUptoSaid : Prop := registrationFreeUptoRow.holds Tryz.pinned (OpenSpec.upto registrationFreeSpec)

/-- 'bombardelaw47.RegistrationChecks', WHERE WHAT IT READS IS OF BULK AT MOST 1048576: true; the input reads as it did. -/
def registrationChecksUptoRow : OpenClaim := { program := "ytnfcbhnjapmmcaagreatdoor", sum := "5a2e242c1655f9134cbe90ef351d0a9495a11b002ab00e527de8763919a5bf85", func := "bombarde/bombardelaw47.RegistrationChecks", spec := "registrationChecks", inPlace := ["internal/abi.NoEscape", "internal/bytealg.MakeNoZero", "internal/bytealg.abigen_runtime_cmpstring"], unfollowed := true, recurses := true, named := ["math/bits.deBruijn64tab", "internal/strconv.uint64pow10", "math/bits.deBruijn32tab"], plainKeys := false, apart := false, laid := [("math/bits.deBruijn32tab", laid_math_bits_deBruijn32tab), ("math/bits.deBruijn64tab", laid_math_bits_deBruijn64tab), ("internal/strconv.uint64pow10", laid_internal_strconv_uint64pow10)], narrowed := true }
def RegistrationChecksUptoSaid : Prop := registrationChecksUptoRow.holds Tryz.pinned (OpenSpec.upto registrationChecksSpec)

/-- 'bombardelaw47.RegistrationApplies', WHERE WHAT IT READS IS OF BULK AT MOST 1048576: true; the input reads as it did. -/
def registrationAppliesUptoRow : OpenClaim := { program := "ytnfcbhnjapmmcaagreatdoor", sum := "5a2e242c1655f9134cbe90ef351d0a9495a11b002ab00e527de8763919a5bf85", func := "bombarde/bombardelaw47.RegistrationApplies", spec := "registrationApplies", inPlace := ["internal/abi.NoEscape", "internal/bytealg.MakeNoZero", "internal/bytealg.abigen_runtime_cmpstring"], unfollowed := true, recurses := true, named := ["math/bits.deBruijn64tab", "internal/strconv.uint64pow10", "math/bits.deBruijn32tab"], plainKeys := false, apart := false, laid := [("math/bits.deBruijn32tab", laid_math_bits_deBruijn32tab), ("math/bits.deBruijn64tab", laid_math_bits_deBruijn64tab), ("internal/strconv.uint64pow10", laid_internal_strconv_uint64pow10)], narrowed := true }
def RegistrationAppliesUptoSaid : Prop := registrationAppliesUptoRow.holds Tryz.pinned (OpenSpec.upto registrationAppliesSpec)

/-- 'bombardelaw47.RegistrationLaws', WHERE WHAT IT READS IS OF BULK AT MOST 1048576: true; the input reads as it did. -/
def registrationLawsUptoRow : OpenClaim := { program := "ytnfcbhnjapmmcaagreatdoor", sum := "5a2e242c1655f9134cbe90ef351d0a9495a11b002ab00e527de8763919a5bf85", func := "bombarde/bombardelaw47.RegistrationLaws", spec := "registrationLaws", inPlace := ["internal/abi.NoEscape", "internal/bytealg.MakeNoZero", "internal/bytealg.abigen_runtime_cmpstring"], unfollowed := true, recurses := true, named := ["math/bits.deBruijn64tab", "internal/strconv.uint64pow10", "math/bits.deBruijn32tab"], plainKeys := false, apart := false, laid := [("math/bits.deBruijn32tab", laid_math_bits_deBruijn32tab), ("math/bits.deBruijn64tab", laid_math_bits_deBruijn64tab), ("internal/strconv.uint64pow10", laid_internal_strconv_uint64pow10)], narrowed := true }
def RegistrationLawsUptoSaid : Prop := registrationLawsUptoRow.holds Tryz.pinned (OpenSpec.upto registrationLawsSpec)

end Rows
end Go.Proofs.YtnfcbhnjapmmcaaGreatDoor
