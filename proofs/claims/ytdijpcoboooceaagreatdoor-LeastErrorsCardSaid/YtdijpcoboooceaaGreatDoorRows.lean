/-
  NARROWER THAN 'FOR EVERY INPUT', by the rows' own cells (each row's printed sentence says how): LeastSets: laid · LeastLaws: laid · LeastIdle: laid · LeastFinds: laid · LeastVerifies: laid · LeastFor: laid · LeastErrors: laid · TopEquivalentSound: laid.
  DERIVED. THE GIVEN ROWS OF THIS SEAT. 8 by the template 'for every input the law returns true; each argument reads behind the call as it read before'; 0 by the template 'total and deterministic' (their statements: YtdijpcoboooceaaGreatDoorTotals.lean).
  GIVEN WITH THE SEED: the statements are not yours to turn. If you find one false, say at which input.
  Laid BY PROGRAM, IN A SANDBOX (cutbox-rows.mjs): the forced cells as the released guide's own fill.sh prints them over the translation c68a29506f0df9fa… (all of the seat's roots in one cut). By AI agents, Wed Nov 11 2026. No macro, syntax, notation, axiom, sorry.
-/
import Derived.Test.YtdijpcoboooceaaGreatDoorChecked
import GoSem.Claim
import GoSem.ClaimJoined
import GoSem.ClaimMapViews
import Derived.JoinedTies
import Derived.KernelRfl
namespace Go.Proofs.YtdijpcoboooceaaGreatDoor
/- THE CELL 'sum', in the pinned program and in every row, IS THE sha256 OF THE DUMP (.gsa) THAT YtdijpcoboooceaaGreatDoorProg.lean LOADS. Nothing in Lean hashes anything: it is a label: what it is worth is what the hold of that sum in a sandbox is worth. -/
noncomputable def Tryz.pinned : Pinned := { name := "ytdijpcoboooceaagreatdoor", sum := "c68a29506f0df9faefa16ecb79c5dba5d7b64849381712bd0bd48bb0a68dbbe7", checked := Tryz.checked }
namespace Rows
def none {H : Type} : Left H := { results := [], args := [] }

/- WHAT THE LISTED PACKAGE-LEVEL VARIABLES READ AS WHEN THE CALL BEGINS. Each datum BY PROGRAM (the guide's laid-datum.mjs) off the statement by which the dump's own 'gosem.cut.vars' lays the variable. In a bare row this is a premise. The card (YtdijpcoboooceaaGreatDoorCards.lean) ties it to the program's text. -/
def laid_math_bits_deBruijn32tab {H : Type} : DataW H := .agg [.lit (.int .u8 0), .lit (.int .u8 1), .lit (.int .u8 28), .lit (.int .u8 2), .lit (.int .u8 29), .lit (.int .u8 14), .lit (.int .u8 24), .lit (.int .u8 3), .lit (.int .u8 30), .lit (.int .u8 22), .lit (.int .u8 20), .lit (.int .u8 15), .lit (.int .u8 25), .lit (.int .u8 17), .lit (.int .u8 4), .lit (.int .u8 8), .lit (.int .u8 31), .lit (.int .u8 27), .lit (.int .u8 13), .lit (.int .u8 23), .lit (.int .u8 21), .lit (.int .u8 19), .lit (.int .u8 16), .lit (.int .u8 7), .lit (.int .u8 26), .lit (.int .u8 12), .lit (.int .u8 18), .lit (.int .u8 6), .lit (.int .u8 11), .lit (.int .u8 5), .lit (.int .u8 10), .lit (.int .u8 9)]
def laid_math_bits_deBruijn64tab {H : Type} : DataW H := .agg [.lit (.int .u8 0), .lit (.int .u8 1), .lit (.int .u8 56), .lit (.int .u8 2), .lit (.int .u8 57), .lit (.int .u8 49), .lit (.int .u8 28), .lit (.int .u8 3), .lit (.int .u8 61), .lit (.int .u8 58), .lit (.int .u8 42), .lit (.int .u8 50), .lit (.int .u8 38), .lit (.int .u8 29), .lit (.int .u8 17), .lit (.int .u8 4), .lit (.int .u8 62), .lit (.int .u8 47), .lit (.int .u8 59), .lit (.int .u8 36), .lit (.int .u8 45), .lit (.int .u8 43), .lit (.int .u8 51), .lit (.int .u8 22), .lit (.int .u8 53), .lit (.int .u8 39), .lit (.int .u8 33), .lit (.int .u8 30), .lit (.int .u8 24), .lit (.int .u8 18), .lit (.int .u8 12), .lit (.int .u8 5), .lit (.int .u8 63), .lit (.int .u8 55), .lit (.int .u8 48), .lit (.int .u8 27), .lit (.int .u8 60), .lit (.int .u8 41), .lit (.int .u8 37), .lit (.int .u8 16), .lit (.int .u8 46), .lit (.int .u8 35), .lit (.int .u8 44), .lit (.int .u8 21), .lit (.int .u8 52), .lit (.int .u8 32), .lit (.int .u8 23), .lit (.int .u8 11), .lit (.int .u8 54), .lit (.int .u8 26), .lit (.int .u8 40), .lit (.int .u8 15), .lit (.int .u8 34), .lit (.int .u8 20), .lit (.int .u8 31), .lit (.int .u8 10), .lit (.int .u8 25), .lit (.int .u8 14), .lit (.int .u8 19), .lit (.int .u8 9), .lit (.int .u8 13), .lit (.int .u8 8), .lit (.int .u8 7), .lit (.int .u8 6)]
def laid_internal_strconv_uint64pow10 {H : Type} : DataW H := .agg [.lit (.int .u64 1), .lit (.int .u64 10), .lit (.int .u64 100), .lit (.int .u64 1000), .lit (.int .u64 10000), .lit (.int .u64 100000), .lit (.int .u64 1000000), .lit (.int .u64 10000000), .lit (.int .u64 100000000), .lit (.int .u64 1000000000), .lit (.int .u64 10000000000), .lit (.int .u64 100000000000), .lit (.int .u64 1000000000000), .lit (.int .u64 10000000000000), .lit (.int .u64 100000000000000), .lit (.int .u64 1000000000000000), .lit (.int .u64 10000000000000000), .lit (.int .u64 100000000000000000), .lit (.int .u64 1000000000000000000), .lit (.int .u64 10000000000000000000)]

/-- 'bombardelaw30.LeastSets': WHATEVER THE INPUT: true; the input reads as it did. -/
def leastSetsSpec : ChangeSpec := { name := "leastSets", fn := fun _ => fun
  | [d1, d2, d3] => { results := [.lit (.bool true)], args := [d1, d2, d3] }
  | _ => none }
def leastSetsRow : OpenClaim := { program := "ytdijpcoboooceaagreatdoor", sum := "c68a29506f0df9faefa16ecb79c5dba5d7b64849381712bd0bd48bb0a68dbbe7", func := "bombarde/bombardelaw30.LeastSets", spec := "leastSets", inPlace := ["internal/abi.NoEscape", "internal/bytealg.MakeNoZero", "internal/bytealg.abigen_runtime_cmpstring"], unfollowed := true, recurses := true, named := ["math/bits.deBruijn64tab", "math/bits.deBruijn32tab", "internal/strconv.uint64pow10"], plainKeys := false, apart := false, laid := [("math/bits.deBruijn32tab", laid_math_bits_deBruijn32tab), ("math/bits.deBruijn64tab", laid_math_bits_deBruijn64tab), ("internal/strconv.uint64pow10", laid_internal_strconv_uint64pow10)] }
def LeastSetsSaid : Prop := leastSetsRow.holds Tryz.pinned (OpenSpec.ofChange leastSetsSpec)

/-- ITS FALSE NEIGHBOUR: 'it returns false'. Refute it at one input. -/
def leastSetsWrong : ChangeSpec := { name := "leastSets", fn := fun _ => fun
  | [d1, d2, d3] => { results := [.lit (.bool false)], args := [d1, d2, d3] }
  | _ => none }
def LeastSetsWrongFalsely : Prop := leastSetsRow.holds Tryz.pinned (OpenSpec.ofChange leastSetsWrong)

/-- 'bombardelaw30.LeastLaws': WHATEVER THE INPUT: true; the input reads as it did. -/
def leastLawsSpec : ChangeSpec := { name := "leastLaws", fn := fun _ => fun
  | [d1, d2, d3] => { results := [.lit (.bool true)], args := [d1, d2, d3] }
  | _ => none }
def leastLawsRow : OpenClaim := { program := "ytdijpcoboooceaagreatdoor", sum := "c68a29506f0df9faefa16ecb79c5dba5d7b64849381712bd0bd48bb0a68dbbe7", func := "bombarde/bombardelaw30.LeastLaws", spec := "leastLaws", inPlace := ["internal/abi.NoEscape", "internal/bytealg.MakeNoZero", "internal/bytealg.abigen_runtime_cmpstring"], unfollowed := true, recurses := true, named := ["math/bits.deBruijn64tab", "math/bits.deBruijn32tab", "internal/strconv.uint64pow10"], plainKeys := false, apart := false, laid := [("math/bits.deBruijn32tab", laid_math_bits_deBruijn32tab), ("math/bits.deBruijn64tab", laid_math_bits_deBruijn64tab), ("internal/strconv.uint64pow10", laid_internal_strconv_uint64pow10)] }
def LeastLawsSaid : Prop := leastLawsRow.holds Tryz.pinned (OpenSpec.ofChange leastLawsSpec)

/-- ITS FALSE NEIGHBOUR: 'it returns false'. Refute it at one input. -/
def leastLawsWrong : ChangeSpec := { name := "leastLaws", fn := fun _ => fun
  | [d1, d2, d3] => { results := [.lit (.bool false)], args := [d1, d2, d3] }
  | _ => none }
def LeastLawsWrongFalsely : Prop := leastLawsRow.holds Tryz.pinned (OpenSpec.ofChange leastLawsWrong)

/-- 'bombardelaw30.LeastIdle': WHATEVER THE INPUT: true; the input reads as it did. -/
def leastIdleSpec : ChangeSpec := { name := "leastIdle", fn := fun _ => fun
  | [d1, d2] => { results := [.lit (.bool true)], args := [d1, d2] }
  | _ => none }
def leastIdleRow : OpenClaim := { program := "ytdijpcoboooceaagreatdoor", sum := "c68a29506f0df9faefa16ecb79c5dba5d7b64849381712bd0bd48bb0a68dbbe7", func := "bombarde/bombardelaw30.LeastIdle", spec := "leastIdle", inPlace := ["internal/abi.NoEscape", "internal/bytealg.MakeNoZero", "internal/bytealg.abigen_runtime_cmpstring"], unfollowed := true, recurses := true, named := ["math/bits.deBruijn64tab", "math/bits.deBruijn32tab", "internal/strconv.uint64pow10"], plainKeys := false, apart := false, laid := [("math/bits.deBruijn32tab", laid_math_bits_deBruijn32tab), ("math/bits.deBruijn64tab", laid_math_bits_deBruijn64tab), ("internal/strconv.uint64pow10", laid_internal_strconv_uint64pow10)] }
def LeastIdleSaid : Prop := leastIdleRow.holds Tryz.pinned (OpenSpec.ofChange leastIdleSpec)

/-- ITS FALSE NEIGHBOUR: 'it returns false'. Refute it at one input. -/
def leastIdleWrong : ChangeSpec := { name := "leastIdle", fn := fun _ => fun
  | [d1, d2] => { results := [.lit (.bool false)], args := [d1, d2] }
  | _ => none }
def LeastIdleWrongFalsely : Prop := leastIdleRow.holds Tryz.pinned (OpenSpec.ofChange leastIdleWrong)

/-- 'bombardelaw30.LeastFinds': WHATEVER THE INPUT: true; the input reads as it did. -/
def leastFindsSpec : ChangeSpec := { name := "leastFinds", fn := fun _ => fun
  | [d1, d2] => { results := [.lit (.bool true)], args := [d1, d2] }
  | _ => none }
def leastFindsRow : OpenClaim := { program := "ytdijpcoboooceaagreatdoor", sum := "c68a29506f0df9faefa16ecb79c5dba5d7b64849381712bd0bd48bb0a68dbbe7", func := "bombarde/bombardelaw30.LeastFinds", spec := "leastFinds", inPlace := ["internal/abi.NoEscape", "internal/bytealg.MakeNoZero", "internal/bytealg.abigen_runtime_cmpstring"], unfollowed := true, recurses := true, named := ["math/bits.deBruijn64tab", "math/bits.deBruijn32tab", "internal/strconv.uint64pow10"], plainKeys := false, apart := false, laid := [("math/bits.deBruijn32tab", laid_math_bits_deBruijn32tab), ("math/bits.deBruijn64tab", laid_math_bits_deBruijn64tab), ("internal/strconv.uint64pow10", laid_internal_strconv_uint64pow10)] }
def LeastFindsSaid : Prop := leastFindsRow.holds Tryz.pinned (OpenSpec.ofChange leastFindsSpec)

/-- ITS FALSE NEIGHBOUR: 'it returns false'. Refute it at one input. -/
def leastFindsWrong : ChangeSpec := { name := "leastFinds", fn := fun _ => fun
  | [d1, d2] => { results := [.lit (.bool false)], args := [d1, d2] }
  | _ => none }
def LeastFindsWrongFalsely : Prop := leastFindsRow.holds Tryz.pinned (OpenSpec.ofChange leastFindsWrong)

/-- 'bombardelaw30.LeastVerifies': WHATEVER THE INPUT: true; the input reads as it did. -/
def leastVerifiesSpec : ChangeSpec := { name := "leastVerifies", fn := fun _ => fun
  | [d1, d2, d3] => { results := [.lit (.bool true)], args := [d1, d2, d3] }
  | _ => none }
def leastVerifiesRow : OpenClaim := { program := "ytdijpcoboooceaagreatdoor", sum := "c68a29506f0df9faefa16ecb79c5dba5d7b64849381712bd0bd48bb0a68dbbe7", func := "bombarde/bombardelaw30.LeastVerifies", spec := "leastVerifies", inPlace := ["internal/abi.NoEscape", "internal/bytealg.MakeNoZero", "internal/bytealg.abigen_runtime_cmpstring"], unfollowed := true, recurses := true, named := ["math/bits.deBruijn64tab", "math/bits.deBruijn32tab", "internal/strconv.uint64pow10"], plainKeys := false, apart := false, laid := [("math/bits.deBruijn32tab", laid_math_bits_deBruijn32tab), ("math/bits.deBruijn64tab", laid_math_bits_deBruijn64tab), ("internal/strconv.uint64pow10", laid_internal_strconv_uint64pow10)] }
def LeastVerifiesSaid : Prop := leastVerifiesRow.holds Tryz.pinned (OpenSpec.ofChange leastVerifiesSpec)

/-- ITS FALSE NEIGHBOUR: 'it returns false'. Refute it at one input. -/
def leastVerifiesWrong : ChangeSpec := { name := "leastVerifies", fn := fun _ => fun
  | [d1, d2, d3] => { results := [.lit (.bool false)], args := [d1, d2, d3] }
  | _ => none }
def LeastVerifiesWrongFalsely : Prop := leastVerifiesRow.holds Tryz.pinned (OpenSpec.ofChange leastVerifiesWrong)

/-- 'bombardelaw30.LeastFor': WHATEVER THE INPUT: true; the input reads as it did. -/
def leastForSpec : ChangeSpec := { name := "leastFor", fn := fun _ => fun
  | [d1, d2, d3] => { results := [.lit (.bool true)], args := [d1, d2, d3] }
  | _ => none }
def leastForRow : OpenClaim := { program := "ytdijpcoboooceaagreatdoor", sum := "c68a29506f0df9faefa16ecb79c5dba5d7b64849381712bd0bd48bb0a68dbbe7", func := "bombarde/bombardelaw30.LeastFor", spec := "leastFor", inPlace := ["internal/abi.NoEscape", "internal/bytealg.MakeNoZero", "internal/bytealg.abigen_runtime_cmpstring"], unfollowed := true, recurses := true, named := ["math/bits.deBruijn64tab", "math/bits.deBruijn32tab", "internal/strconv.uint64pow10"], plainKeys := false, apart := false, laid := [("math/bits.deBruijn32tab", laid_math_bits_deBruijn32tab), ("math/bits.deBruijn64tab", laid_math_bits_deBruijn64tab), ("internal/strconv.uint64pow10", laid_internal_strconv_uint64pow10)] }
def LeastForSaid : Prop := leastForRow.holds Tryz.pinned (OpenSpec.ofChange leastForSpec)

/-- ITS FALSE NEIGHBOUR: 'it returns false'. Refute it at one input. -/
def leastForWrong : ChangeSpec := { name := "leastFor", fn := fun _ => fun
  | [d1, d2, d3] => { results := [.lit (.bool false)], args := [d1, d2, d3] }
  | _ => none }
def LeastForWrongFalsely : Prop := leastForRow.holds Tryz.pinned (OpenSpec.ofChange leastForWrong)

/-- 'bombardelaw30.LeastErrors': WHATEVER THE INPUT: true; the input reads as it did. -/
def leastErrorsSpec : ChangeSpec := { name := "leastErrors", fn := fun _ => fun
  | [d1, d2, d3] => { results := [.lit (.bool true)], args := [d1, d2, d3] }
  | _ => none }
def leastErrorsRow : OpenClaim := { program := "ytdijpcoboooceaagreatdoor", sum := "c68a29506f0df9faefa16ecb79c5dba5d7b64849381712bd0bd48bb0a68dbbe7", func := "bombarde/bombardelaw30.LeastErrors", spec := "leastErrors", inPlace := ["internal/abi.NoEscape", "internal/bytealg.MakeNoZero", "internal/bytealg.abigen_runtime_cmpstring"], unfollowed := true, recurses := true, named := ["math/bits.deBruijn64tab", "math/bits.deBruijn32tab", "internal/strconv.uint64pow10"], plainKeys := false, apart := false, laid := [("math/bits.deBruijn32tab", laid_math_bits_deBruijn32tab), ("math/bits.deBruijn64tab", laid_math_bits_deBruijn64tab), ("internal/strconv.uint64pow10", laid_internal_strconv_uint64pow10)] }
def LeastErrorsSaid : Prop := leastErrorsRow.holds Tryz.pinned (OpenSpec.ofChange leastErrorsSpec)

/-- ITS FALSE NEIGHBOUR: 'it returns false'. Refute it at one input. -/
def leastErrorsWrong : ChangeSpec := { name := "leastErrors", fn := fun _ => fun
  | [d1, d2, d3] => { results := [.lit (.bool false)], args := [d1, d2, d3] }
  | _ => none }
def LeastErrorsWrongFalsely : Prop := leastErrorsRow.holds Tryz.pinned (OpenSpec.ofChange leastErrorsWrong)

/-- 'bombardetop.TopEquivalentSound': WHATEVER THE INPUT: true; the input reads as it did. -/
def topEquivalentSoundSpec : ChangeSpec := { name := "topEquivalentSound", fn := fun _ => fun
  | [d1, d2, d3] => { results := [.lit (.bool true)], args := [d1, d2, d3] }
  | _ => none }
def topEquivalentSoundRow : OpenClaim := { program := "ytdijpcoboooceaagreatdoor", sum := "c68a29506f0df9faefa16ecb79c5dba5d7b64849381712bd0bd48bb0a68dbbe7", func := "bombarde/bombardetop.TopEquivalentSound", spec := "topEquivalentSound", inPlace := ["internal/abi.NoEscape", "internal/bytealg.MakeNoZero", "internal/bytealg.abigen_runtime_cmpstring"], unfollowed := true, recurses := true, named := ["math/bits.deBruijn64tab", "internal/strconv.uint64pow10", "math/bits.deBruijn32tab"], plainKeys := false, apart := false, laid := [("math/bits.deBruijn32tab", laid_math_bits_deBruijn32tab), ("math/bits.deBruijn64tab", laid_math_bits_deBruijn64tab), ("internal/strconv.uint64pow10", laid_internal_strconv_uint64pow10)] }
def TopEquivalentSoundSaid : Prop := topEquivalentSoundRow.holds Tryz.pinned (OpenSpec.ofChange topEquivalentSoundSpec)

/-- ITS FALSE NEIGHBOUR: 'it returns false'. Refute it at one input. -/
def topEquivalentSoundWrong : ChangeSpec := { name := "topEquivalentSound", fn := fun _ => fun
  | [d1, d2, d3] => { results := [.lit (.bool false)], args := [d1, d2, d3] }
  | _ => none }
def TopEquivalentSoundWrongFalsely : Prop := topEquivalentSoundRow.holds Tryz.pinned (OpenSpec.ofChange topEquivalentSoundWrong)

/- THE SECOND FORM. 'bulk': how many values and letters a reading holds, each counted each time it is reached (what is shared counts as often as it is met; a slice's spare places count too). A statement '..UptoSaid' is the law's where the arguments, and the package variables that the reading takes, are together of bulk at most 1048576: NARROWER than '..Said'. Prove '..Said' where nothing that the law and all that it calls make is longer than what came in: it says more and counts as full. Else prove '..UptoSaid'. A law counts once. -/
mutual
def uptoBulk {H : Type} : DataW H → Nat
  | .lit (.string bytes) => bytes.length + 1
  | .lit _ => 1
  | .nil => 1
  | .ptr d => uptoBulk d + 1
  | .slice elems spare => uptoBulkAll elems + uptoBulkAll spare + 1
  | .agg parts => uptoBulkAll parts + 1
  | .iface _ d => uptoBulk d + 1
  | .map entries => uptoBulkEntries entries + 1
  | .held _ => 1
def uptoBulkAll {H : Type} : List (DataW H) → Nat
  | [] => 0
  | d :: r => uptoBulk d + uptoBulkAll r
def uptoBulkEntries {H : Type} : List (Lit × DataW H) → Nat
  | [] => 0
  | x :: r => uptoBulkEntry x + uptoBulkEntries r
def uptoBulkEntry {H : Type} : Lit × DataW H → Nat
  | (.string bytes, d) => bytes.length + uptoBulk d + 1
  | (_, d) => uptoBulk d + 1
 end
def uptoSmall : (H : Type) → List (DataW H) → Bool := fun _ ds => decide (uptoBulkAll ds ≤ 1048576)
def OpenSpec.upto (s : _root_.Go.ChangeSpec) : _root_.Go.OpenSpec := { _root_.Go.OpenSpec.ofChange s with cond := some uptoSmall }

/-- 'bombardelaw30.LeastSets', WHERE WHAT IT READS IS OF BULK AT MOST 1048576: true; the input reads as it did. -/
def leastSetsUptoRow : OpenClaim := { program := "ytdijpcoboooceaagreatdoor", sum := "c68a29506f0df9faefa16ecb79c5dba5d7b64849381712bd0bd48bb0a68dbbe7", func := "bombarde/bombardelaw30.LeastSets", spec := "leastSets", inPlace := ["internal/abi.NoEscape", "internal/bytealg.MakeNoZero", "internal/bytealg.abigen_runtime_cmpstring"], unfollowed := true, recurses := true, named := ["math/bits.deBruijn64tab", "math/bits.deBruijn32tab", "internal/strconv.uint64pow10"], plainKeys := false, apart := false, laid := [("math/bits.deBruijn32tab", laid_math_bits_deBruijn32tab), ("math/bits.deBruijn64tab", laid_math_bits_deBruijn64tab), ("internal/strconv.uint64pow10", laid_internal_strconv_uint64pow10)], narrowed := true }
def LeastSetsUptoSaid : Prop := leastSetsUptoRow.holds Tryz.pinned (OpenSpec.upto leastSetsSpec)

/-- 'bombardelaw30.LeastLaws', WHERE WHAT IT READS IS OF BULK AT MOST 1048576: true; the input reads as it did. -/
def leastLawsUptoRow : OpenClaim := { program := "ytdijpcoboooceaagreatdoor", sum := "c68a29506f0df9faefa16ecb79c5dba5d7b64849381712bd0bd48bb0a68dbbe7", func := "bombarde/bombardelaw30.LeastLaws", spec := "leastLaws", inPlace := ["internal/abi.NoEscape", "internal/bytealg.MakeNoZero", "internal/bytealg.abigen_runtime_cmpstring"], unfollowed := true, recurses := true, named := ["math/bits.deBruijn64tab", "math/bits.deBruijn32tab", "internal/strconv.uint64pow10"], plainKeys := false, apart := false, laid := [("math/bits.deBruijn32tab", laid_math_bits_deBruijn32tab), ("math/bits.deBruijn64tab", laid_math_bits_deBruijn64tab), ("internal/strconv.uint64pow10", laid_internal_strconv_uint64pow10)], narrowed := true }
def LeastLawsUptoSaid : Prop := leastLawsUptoRow.holds Tryz.pinned (OpenSpec.upto leastLawsSpec)

/-- 'bombardelaw30.LeastIdle', WHERE WHAT IT READS IS OF BULK AT MOST 1048576: true; the input reads as it did. -/
def leastIdleUptoRow : OpenClaim := { program := "ytdijpcoboooceaagreatdoor", sum := "c68a29506f0df9faefa16ecb79c5dba5d7b64849381712bd0bd48bb0a68dbbe7", func := "bombarde/bombardelaw30.LeastIdle", spec := "leastIdle", inPlace := ["internal/abi.NoEscape", "internal/bytealg.MakeNoZero", "internal/bytealg.abigen_runtime_cmpstring"], unfollowed := true, recurses := true, named := ["math/bits.deBruijn64tab", "math/bits.deBruijn32tab", "internal/strconv.uint64pow10"], plainKeys := false, apart := false, laid := [("math/bits.deBruijn32tab", laid_math_bits_deBruijn32tab), ("math/bits.deBruijn64tab", laid_math_bits_deBruijn64tab), ("internal/strconv.uint64pow10", laid_internal_strconv_uint64pow10)], narrowed := true }
def LeastIdleUptoSaid : Prop := leastIdleUptoRow.holds Tryz.pinned (OpenSpec.upto leastIdleSpec)

/-- 'bombardelaw30.LeastFinds', WHERE WHAT IT READS IS OF BULK AT MOST 1048576: true; the input reads as it did. -/
def leastFindsUptoRow : OpenClaim := { program := "ytdijpcoboooceaagreatdoor", sum := "c68a29506f0df9faefa16ecb79c5dba5d7b64849381712bd0bd48bb0a68dbbe7", func := "bombarde/bombardelaw30.LeastFinds", spec := "leastFinds", inPlace := ["internal/abi.NoEscape", "internal/bytealg.MakeNoZero", "internal/bytealg.abigen_runtime_cmpstring"], unfollowed := true, recurses := true, named := ["math/bits.deBruijn64tab", "math/bits.deBruijn32tab", "internal/strconv.uint64pow10"], plainKeys := false, apart := false, laid := [("math/bits.deBruijn32tab", laid_math_bits_deBruijn32tab), ("math/bits.deBruijn64tab", laid_math_bits_deBruijn64tab), ("internal/strconv.uint64pow10", laid_internal_strconv_uint64pow10)], narrowed := true }
def LeastFindsUptoSaid : Prop := leastFindsUptoRow.holds Tryz.pinned (OpenSpec.upto leastFindsSpec)

/-- 'bombardelaw30.LeastVerifies', WHERE WHAT IT READS IS OF BULK AT MOST 1048576: true; the input reads as it did. -/
def leastVerifiesUptoRow : OpenClaim := { program := "ytdijpcoboooceaagreatdoor", sum := "c68a29506f0df9faefa16ecb79c5dba5d7b64849381712bd0bd48bb0a68dbbe7", func := "bombarde/bombardelaw30.LeastVerifies", spec := "leastVerifies", inPlace := ["internal/abi.NoEscape", "internal/bytealg.MakeNoZero", "internal/bytealg.abigen_runtime_cmpstring"], unfollowed := true, recurses := true, named := ["math/bits.deBruijn64tab", "math/bits.deBruijn32tab", "internal/strconv.uint64pow10"], plainKeys := false, apart := false, laid := [("math/bits.deBruijn32tab", laid_math_bits_deBruijn32tab), ("math/bits.deBruijn64tab", laid_math_bits_deBruijn64tab), ("internal/strconv.uint64pow10", laid_internal_strconv_uint64pow10)], narrowed := true }
def LeastVerifiesUptoSaid : Prop := leastVerifiesUptoRow.holds Tryz.pinned (OpenSpec.upto leastVerifiesSpec)

/-- 'bombardelaw30.LeastFor', WHERE WHAT IT READS IS OF BULK AT MOST 1048576: true; the input reads as it did. -/
def leastForUptoRow : OpenClaim := { program := "ytdijpcoboooceaagreatdoor", sum := "c68a29506f0df9faefa16ecb79c5dba5d7b64849381712bd0bd48bb0a68dbbe7", func := "bombarde/bombardelaw30.LeastFor", spec := "leastFor", inPlace := ["internal/abi.NoEscape", "internal/bytealg.MakeNoZero", "internal/bytealg.abigen_runtime_cmpstring"], unfollowed := true, recurses := true, named := ["math/bits.deBruijn64tab", "math/bits.deBruijn32tab", "internal/strconv.uint64pow10"], plainKeys := false, apart := false, laid := [("math/bits.deBruijn32tab", laid_math_bits_deBruijn32tab), ("math/bits.deBruijn64tab", laid_math_bits_deBruijn64tab), ("internal/strconv.uint64pow10", laid_internal_strconv_uint64pow10)], narrowed := true }
def LeastForUptoSaid : Prop := leastForUptoRow.holds Tryz.pinned (OpenSpec.upto leastForSpec)

/-- 'bombardelaw30.LeastErrors', WHERE WHAT IT READS IS OF BULK AT MOST 1048576: true; the input reads as it did. -/
def leastErrorsUptoRow : OpenClaim := { program := "ytdijpcoboooceaagreatdoor", sum := "c68a29506f0df9faefa16ecb79c5dba5d7b64849381712bd0bd48bb0a68dbbe7", func := "bombarde/bombardelaw30.LeastErrors", spec := "leastErrors", inPlace := ["internal/abi.NoEscape", "internal/bytealg.MakeNoZero", "internal/bytealg.abigen_runtime_cmpstring"], unfollowed := true, recurses := true, named := ["math/bits.deBruijn64tab", "math/bits.deBruijn32tab", "internal/strconv.uint64pow10"], plainKeys := false, apart := false, laid := [("math/bits.deBruijn32tab", laid_math_bits_deBruijn32tab), ("math/bits.deBruijn64tab", laid_math_bits_deBruijn64tab), ("internal/strconv.uint64pow10", laid_internal_strconv_uint64pow10)], narrowed := true }
def LeastErrorsUptoSaid : Prop := leastErrorsUptoRow.holds Tryz.pinned (OpenSpec.upto leastErrorsSpec)

/-- 'bombardetop.TopEquivalentSound', WHERE WHAT IT READS IS OF BULK AT MOST 1048576: true; the input reads as it did. -/
def topEquivalentSoundUptoRow : OpenClaim := { program := "ytdijpcoboooceaagreatdoor", sum := "c68a29506f0df9faefa16ecb79c5dba5d7b64849381712bd0bd48bb0a68dbbe7", func := "bombarde/bombardetop.TopEquivalentSound", spec := "topEquivalentSound", inPlace := ["internal/abi.NoEscape", "internal/bytealg.MakeNoZero", "internal/bytealg.abigen_runtime_cmpstring"], unfollowed := true, recurses := true, named := ["math/bits.deBruijn64tab", "internal/strconv.uint64pow10", "math/bits.deBruijn32tab"], plainKeys := false, apart := false, laid := [("math/bits.deBruijn32tab", laid_math_bits_deBruijn32tab), ("math/bits.deBruijn64tab", laid_math_bits_deBruijn64tab), ("internal/strconv.uint64pow10", laid_internal_strconv_uint64pow10)], narrowed := true }
def TopEquivalentSoundUptoSaid : Prop := topEquivalentSoundUptoRow.holds Tryz.pinned (OpenSpec.upto topEquivalentSoundSpec)

end Rows
end Go.Proofs.YtdijpcoboooceaaGreatDoor
