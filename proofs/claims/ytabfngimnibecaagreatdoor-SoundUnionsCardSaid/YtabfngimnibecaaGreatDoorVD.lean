/-
  A part of the proof of SoundUnions.
-/
import Derived.Test.YtabfngimnibecaaGreatDoorVC
import Derived.Test.YtabfngimnibecaaGreatDoorProg
import Derived.KernelRfl
import Derived.Test.YtabfngimnibecaaGreatDoorVB
import Derived.Shelf.SlSortCmp.NoneTotal
import Derived.Shelf.SlGeneric
import Derived.Shelf.SlLaysF0
set_option linter.unusedVariables false
set_option linter.unusedSimpArgs false
set_option linter.defProp false
set_option linter.unusedSectionVars false
namespace Go.Ds
open Go.Proofs
abbrev I (n : Int) : Value := .int .i64 n
theorem cD : Tryz.prog.follows .mixedOrders = true := by kernel_rfl
theorem tA3 : bJ Tryz.prog 3 = some false := by kernel_rfl
theorem tS3 : aE Tryz.prog 3 = some 1 := by kernel_rfl
theorem tA4 : bJ Tryz.prog 4 = some false := by kernel_rfl
theorem tS4 : aE Tryz.prog 4 = some 1 := by kernel_rfl
theorem tA5 : bJ Tryz.prog 5 = some false := by kernel_rfl
theorem tS5 : aE Tryz.prog 5 = some 1 := by kernel_rfl
theorem tA9 : bJ Tryz.prog 9 = some false := by kernel_rfl
theorem tS9 : aE Tryz.prog 9 = some 1 := by kernel_rfl
theorem c2V : bJ Tryz.prog 23 = some true := by kernel_rfl
theorem kP : aE Tryz.prog 23 = some 2 := by kernel_rfl
theorem c2F : bJ Tryz.prog 24 = some false := by kernel_rfl
theorem b3n : aE Tryz.prog 24 = some 1 := by kernel_rfl
theorem c3N : bJ Tryz.prog 30 = some false := by kernel_rfl
theorem c2N : aE Tryz.prog 30 = some 1 := by kernel_rfl
theorem c3I : bJ Tryz.prog 31 = some false := by kernel_rfl
theorem c3c : aE Tryz.prog 31 = some 1 := by kernel_rfl
theorem c3Q : bJ Tryz.prog 32 = some false := by kernel_rfl
theorem c3k : aE Tryz.prog 32 = some 1 := by kernel_rfl
theorem c4p : bJ Tryz.prog 34 = some true := by kernel_rfl
theorem b4T : aE Tryz.prog 34 = some 3 := by kernel_rfl
theorem c3v : bJ Tryz.prog 36 = some false := by kernel_rfl
theorem c0l : aE Tryz.prog 36 = some 1 := by kernel_rfl
theorem c3t : bJ Tryz.prog 37 = some false := by kernel_rfl
theorem b9L : aE Tryz.prog 37 = some 1 := by kernel_rfl
theorem c4g : bJ Tryz.prog 38 = some false := by kernel_rfl
theorem b2w : aE Tryz.prog 38 = some 1 := by kernel_rfl
theorem c2L : bJ Tryz.prog 40 = some true := by kernel_rfl
theorem fW : aE Tryz.prog 40 = some 4 := by kernel_rfl
theorem c4o : bJ Tryz.prog 52 = some true := by kernel_rfl
theorem mV : aE Tryz.prog 52 = some 2 := by kernel_rfl
theorem c4H : bJ Tryz.prog 54 = some false := by kernel_rfl
theorem b2L : aE Tryz.prog 54 = some 1 := by kernel_rfl
theorem c4w : bJ Tryz.prog 56 = some true := by kernel_rfl
theorem eU : aE Tryz.prog 56 = some 2 := by kernel_rfl
theorem c2I : bJ Tryz.prog 58 = some true := by kernel_rfl
theorem tF : aE Tryz.prog 58 = some 2 := by kernel_rfl
theorem c3o : bJ Tryz.prog 59 = some false := by kernel_rfl
theorem c1b : aE Tryz.prog 59 = some 1 := by kernel_rfl
theorem c4G : bJ Tryz.prog 61 = some true := by kernel_rfl
theorem wY : aE Tryz.prog 61 = some 5 := by kernel_rfl
theorem c2X : bJ Tryz.prog 68 = some true := by kernel_rfl
theorem sB : aE Tryz.prog 68 = some 2 := by kernel_rfl
theorem c4P : bJ Tryz.prog 69 = some false := by kernel_rfl
theorem xD : aE Tryz.prog 69 = some 1 := by kernel_rfl
theorem c4O : bJ Tryz.prog 71 = some true := by kernel_rfl
theorem lN : aE Tryz.prog 71 = some 4 := by kernel_rfl
theorem c3C : bJ Tryz.prog 72 = some false := by kernel_rfl
theorem c4n : aE Tryz.prog 72 = some 1 := by kernel_rfl
theorem c4m : bJ Tryz.prog 74 = some true := by kernel_rfl
theorem a4Z : aE Tryz.prog 74 = some 3 := by kernel_rfl
theorem c3K : bJ Tryz.prog 87 = some true := by kernel_rfl
theorem b7z : aE Tryz.prog 87 = some 5 := by kernel_rfl
theorem c4N : bJ Tryz.prog 88 = some false := by kernel_rfl
theorem b9A : aE Tryz.prog 88 = some 1 := by kernel_rfl
theorem c2O : bJ Tryz.prog 90 = some true := by kernel_rfl
theorem kD : aE Tryz.prog 90 = some 3 := by kernel_rfl
theorem c0r : bJ Tryz.prog 114 = some false := by kernel_rfl
theorem a6k : aE Tryz.prog 114 = some 1 := by kernel_rfl
theorem b9Y : bJ Tryz.prog 122 = some false := by kernel_rfl
theorem c1J : aE Tryz.prog 122 = some 1 := by kernel_rfl
theorem c0Q : bJ Tryz.prog 123 = some true := by kernel_rfl
theorem b1Y : aE Tryz.prog 123 = some 3 := by kernel_rfl
theorem c0a : bJ Tryz.prog 160 = some false := by kernel_rfl
theorem c0B : aE Tryz.prog 160 = some 1 := by kernel_rfl
theorem b8R : bJ Tryz.prog 162 = some true := by kernel_rfl
theorem a6T : aE Tryz.prog 162 = some 4 := by kernel_rfl
theorem b9w : bJ Tryz.prog 164 = some true := by kernel_rfl
theorem jF : aE Tryz.prog 164 = some 6 := by kernel_rfl
theorem b9l : bJ Tryz.prog 166 = some false := by kernel_rfl
theorem b9k : aE Tryz.prog 166 = some 1 := by kernel_rfl
theorem c0g : bJ Tryz.prog 168 = some true := by kernel_rfl
theorem b1F : aE Tryz.prog 168 = some 9 := by kernel_rfl
theorem c2m : bJ Tryz.prog 172 = some true := by kernel_rfl
theorem a9N : aE Tryz.prog 172 = some 4 := by kernel_rfl
theorem c0k : bJ Tryz.prog 174 = some true := by kernel_rfl
theorem a6O : aE Tryz.prog 174 = some 4 := by kernel_rfl
theorem c1p : bJ Tryz.prog 176 = some true := by kernel_rfl
theorem nP : aE Tryz.prog 176 = some 5 := by kernel_rfl
theorem b9Q : bJ Tryz.prog 199 = some true := by kernel_rfl
theorem sJ : aE Tryz.prog 199 = some 2 := by kernel_rfl
theorem c2e : bJ Tryz.prog 233 = some true := by kernel_rfl
theorem c2w : aE Tryz.prog 233 = some 3 := by kernel_rfl
theorem c2n : bJ Tryz.prog 274 = some true := by kernel_rfl
theorem a6C : aE Tryz.prog 274 = some 3 := by kernel_rfl
theorem b9Z : bJ Tryz.prog 347 = some false := by kernel_rfl
theorem a9u : aE Tryz.prog 347 = some 1 := by kernel_rfl
theorem b6P : aP Tryz.prog 24 = some 1 := by kernel_rfl
theorem c4B : aP Tryz.prog 30 = some 9 := by kernel_rfl
theorem c3T : aP Tryz.prog 31 = some 4 := by kernel_rfl
theorem c3D : aP Tryz.prog 32 = some 4 := by kernel_rfl
theorem c2D : aP Tryz.prog 36 = some 6 := by kernel_rfl
theorem c4f : aP Tryz.prog 37 = some 5 := by kernel_rfl
theorem c3x : aP Tryz.prog 38 = some 5 := by kernel_rfl
theorem c3j : aP Tryz.prog 42 = some 2 := by kernel_rfl
theorem c4u : aP Tryz.prog 59 = some 4 := by kernel_rfl
theorem c3z : aP Tryz.prog 69 = some 3 := by kernel_rfl
theorem c4C : aP Tryz.prog 72 = some 2 := by kernel_rfl
theorem c4r : aP Tryz.prog 88 = some 1 := by kernel_rfl
theorem c2f : aP Tryz.prog 107 = some 2 := by kernel_rfl
theorem b8Y : aP Tryz.prog 114 = some 2 := by kernel_rfl
theorem c0A : aP Tryz.prog 160 = some 4 := by kernel_rfl
theorem c0d : aP Tryz.prog 169 = some 1 := by kernel_rfl
theorem c2t : aP Tryz.prog 185 = some 1 := by kernel_rfl
theorem c1V : aP Tryz.prog 186 = some 2 := by kernel_rfl
theorem b9M : aP Tryz.prog 223 = some 3 := by kernel_rfl
theorem c0D : aP Tryz.prog 227 = some 3 := by kernel_rfl
theorem c0T : aP Tryz.prog 331 = some 2 := by kernel_rfl
theorem fB : cU Tryz.prog 169 = true ∧ gB Tryz.prog 9 = true ∧ cU Tryz.prog 9 = false := ⟨by kernel_rfl, by kernel_rfl, by kernel_rfl⟩
theorem c3H (A i e : Nat) (k : IntKind) (j : Int) (h0 : 0 ≤ j) (h1 : j < 5) : oR (aP Tryz.prog 87) Tryz.prog 87 (ptr A i e) (.int k j) = some (ptr A (i + j.toNat * 1) e) := a0a (n := 5) (elem := 5) (size := 1) (by kernel_rfl) (by kernel_rfl) A i e k j h0 h1
theorem b9P (A i e : Nat) (k : IntKind) (j : Int) (h0 : 0 ≤ j) (h1 : j < 3) : oR (aP Tryz.prog 123) Tryz.prog 123 (ptr A i e) (.int k j) = some (ptr A (i + j.toNat * 1) e) := a0a (n := 3) (elem := 122) (size := 1) (by kernel_rfl) (by kernel_rfl) A i e k j h0 h1
theorem b9X (A i e : Nat) (k : IntKind) (j : Int) (h0 : 0 ≤ j) (h1 : j < 64) : oR (aP Tryz.prog 394) Tryz.prog 394 (ptr A i e) (.int k j) = some (ptr A (i + j.toNat * 1) e) := a0a (n := 64) (elem := 5) (size := 1) (by kernel_rfl) (by kernel_rfl) A i e k j h0 h1
theorem wX : eZ Tryz.prog 24 = some (1, 8) := by kernel_rfl
theorem c4a : cZ Tryz.prog 24 = true := by kernel_rfl
theorem a2G : ((aH Tryz.prog 24).bind (aZ Tryz.prog)).any aY = true := by kernel_rfl
theorem b7J : eZ Tryz.prog 36 = some (6, 80) := by kernel_rfl
theorem c2W : cZ Tryz.prog 36 = true := by kernel_rfl
theorem c0N : ((aH Tryz.prog 36).bind (aZ Tryz.prog)).any aY = true := by kernel_rfl
theorem b6o : eZ Tryz.prog 37 = some (5, 64) := by kernel_rfl
theorem c2E : cZ Tryz.prog 37 = true := by kernel_rfl
theorem b9O : ((aH Tryz.prog 37).bind (aZ Tryz.prog)).any aY = true := by kernel_rfl
theorem a5o : eZ Tryz.prog 38 = some (5, 48) := by kernel_rfl
theorem c3y : cZ Tryz.prog 38 = true := by kernel_rfl
theorem b4j : ((aH Tryz.prog 38).bind (aZ Tryz.prog)).any aY = true := by kernel_rfl
theorem b1H : eZ Tryz.prog 42 = some (2, 16) := by kernel_rfl
theorem c3a : cZ Tryz.prog 42 = true := by kernel_rfl
theorem c1x : ((aH Tryz.prog 42).bind (aZ Tryz.prog)).any aY = true := by kernel_rfl
theorem b6N : eZ Tryz.prog 59 = some (4, 56) := by kernel_rfl
theorem c3L : cZ Tryz.prog 59 = true := by kernel_rfl
theorem c1r : ((aH Tryz.prog 59).bind (aZ Tryz.prog)).any aY = true := by kernel_rfl
theorem nJ : eZ Tryz.prog 69 = some (3, 40) := by kernel_rfl
theorem c4k : cZ Tryz.prog 69 = true := by kernel_rfl
theorem xA : ((aH Tryz.prog 69).bind (aZ Tryz.prog)).any aY = true := by kernel_rfl
theorem a8n : eZ Tryz.prog 72 = some (2, 16) := by kernel_rfl
theorem c2J : cZ Tryz.prog 72 = true := by kernel_rfl
theorem a7d : ((aH Tryz.prog 72).bind (aZ Tryz.prog)).any aY = true := by kernel_rfl
theorem b8h : eZ Tryz.prog 88 = some (1, 8) := by kernel_rfl
theorem c4y : cZ Tryz.prog 88 = true := by kernel_rfl
theorem c2p : ((aH Tryz.prog 88).bind (aZ Tryz.prog)).any aY = true := by kernel_rfl
theorem a2q : eZ Tryz.prog 107 = some (2, 16) := by kernel_rfl
theorem c2v : cZ Tryz.prog 107 = true := by kernel_rfl
theorem b0z : ((aH Tryz.prog 107).bind (aZ Tryz.prog)).any aY = true := by kernel_rfl
theorem jR : eZ Tryz.prog 114 = some (2, 16) := by kernel_rfl
theorem c0c : cZ Tryz.prog 114 = true := by kernel_rfl
theorem vR : ((aH Tryz.prog 114).bind (aZ Tryz.prog)).any aY = true := by kernel_rfl
theorem a6U : eZ Tryz.prog 169 = some (1, 1) := by kernel_rfl
theorem c2d : cZ Tryz.prog 169 = true := by kernel_rfl
theorem a6E : ((aH Tryz.prog 169).bind (aZ Tryz.prog)).any aY = true := by kernel_rfl
theorem b8N : eZ Tryz.prog 185 = some (1, 16) := by kernel_rfl
theorem c1l : cZ Tryz.prog 185 = true := by kernel_rfl
theorem b9c : ((aH Tryz.prog 185).bind (aZ Tryz.prog)).any aY = true := by kernel_rfl
theorem b5Q : eZ Tryz.prog 186 = some (2, 16) := by kernel_rfl
theorem c0V : cZ Tryz.prog 186 = true := by kernel_rfl
theorem b9F : ((aH Tryz.prog 186).bind (aZ Tryz.prog)).any aY = true := by kernel_rfl
theorem b0L : eZ Tryz.prog 223 = some (3, 40) := by kernel_rfl
theorem b9i : cZ Tryz.prog 223 = true := by kernel_rfl
theorem b0B : ((aH Tryz.prog 223).bind (aZ Tryz.prog)).any aY = true := by kernel_rfl
theorem a9V : eZ Tryz.prog 227 = some (3, 24) := by kernel_rfl
theorem b9I : cZ Tryz.prog 227 = true := by kernel_rfl
theorem b5V : ((aH Tryz.prog 227).bind (aZ Tryz.prog)).any aY = true := by kernel_rfl
theorem b5L : eZ Tryz.prog 331 = some (2, 16) := by kernel_rfl
theorem c1P : cZ Tryz.prog 331 = true := by kernel_rfl
theorem b5B : ((aH Tryz.prog 331).bind (aZ Tryz.prog)).any aY = true := by kernel_rfl
theorem c4F : b6K Tryz.prog 24 = some (8, .int .i64 0) := by kernel_rfl
theorem tL9 : aP Tryz.prog 9 = none := by kernel_rfl
theorem tT9 : gB Tryz.prog 9 = true := by kernel_rfl
theorem b6l : aU Tryz.prog 23 0 = some 0 := by kernel_rfl
theorem b7n : aU Tryz.prog 23 1 = some 1 := by kernel_rfl
theorem b6Q : aU Tryz.prog 34 0 = some 0 := by kernel_rfl
theorem b8r : aU Tryz.prog 34 1 = some 1 := by kernel_rfl
theorem b7D : aU Tryz.prog 34 2 = some 2 := by kernel_rfl
theorem b6Z : aU Tryz.prog 40 0 = some 0 := by kernel_rfl
theorem b7E : aU Tryz.prog 40 1 = some 1 := by kernel_rfl
theorem b7G : aU Tryz.prog 40 2 = some 2 := by kernel_rfl
theorem b8x : aU Tryz.prog 40 3 = some 3 := by kernel_rfl
theorem b8i : aU Tryz.prog 52 0 = some 0 := by kernel_rfl
theorem b7I : aU Tryz.prog 52 1 = some 1 := by kernel_rfl
theorem b7e : aU Tryz.prog 56 0 = some 0 := by kernel_rfl
theorem b7k : aU Tryz.prog 56 1 = some 1 := by kernel_rfl
theorem b7w : aU Tryz.prog 58 0 = some 0 := by kernel_rfl
theorem b8u : aU Tryz.prog 58 1 = some 1 := by kernel_rfl
theorem b8q : aU Tryz.prog 61 0 = some 0 := by kernel_rfl
theorem b8o : aU Tryz.prog 61 2 = some 2 := by kernel_rfl
theorem b7L : aU Tryz.prog 61 3 = some 4 := by kernel_rfl
theorem b8b : aU Tryz.prog 68 0 = some 0 := by kernel_rfl
theorem b7q : aU Tryz.prog 68 1 = some 1 := by kernel_rfl
theorem b6O : aU Tryz.prog 71 0 = some 0 := by kernel_rfl
theorem b6S : aU Tryz.prog 71 1 = some 1 := by kernel_rfl
theorem b6T : aU Tryz.prog 71 2 = some 3 := by kernel_rfl
theorem b6M : aU Tryz.prog 74 0 = some 0 := by kernel_rfl
theorem b7m : aU Tryz.prog 74 1 = some 1 := by kernel_rfl
theorem b6u : aU Tryz.prog 74 2 = some 2 := by kernel_rfl
theorem b7X : aU Tryz.prog 90 0 = some 0 := by kernel_rfl
theorem b8e : aU Tryz.prog 90 1 = some 1 := by kernel_rfl
theorem b6x : aU Tryz.prog 90 2 = some 2 := by kernel_rfl
theorem b3Z : aU Tryz.prog 162 0 = some 0 := by kernel_rfl
theorem b5n : aU Tryz.prog 162 1 = some 1 := by kernel_rfl
theorem b4L : aU Tryz.prog 162 2 = some 2 := by kernel_rfl
theorem b4l : aU Tryz.prog 162 3 = some 3 := by kernel_rfl
theorem b3Y : aU Tryz.prog 164 0 = some 0 := by kernel_rfl
theorem b3N : aU Tryz.prog 164 1 = some 1 := by kernel_rfl
theorem b3j : aU Tryz.prog 164 2 = some 2 := by kernel_rfl
theorem b3y : aU Tryz.prog 164 3 = some 4 := by kernel_rfl
theorem b3r : aU Tryz.prog 164 4 = some 5 := by kernel_rfl
theorem b3K : aU Tryz.prog 168 0 = some 0 := by kernel_rfl
theorem b4H : aU Tryz.prog 168 1 = some 1 := by kernel_rfl
theorem b4c : aU Tryz.prog 168 2 = some 2 := by kernel_rfl
theorem b4w : aU Tryz.prog 168 3 = some 3 := by kernel_rfl
theorem b4V : aU Tryz.prog 168 4 = some 4 := by kernel_rfl
theorem b2H : aU Tryz.prog 172 0 = some 0 := by kernel_rfl
theorem b3v : aU Tryz.prog 172 1 = some 1 := by kernel_rfl
theorem b3q : aU Tryz.prog 172 2 = some 2 := by kernel_rfl
theorem b4q : aU Tryz.prog 172 3 = some 3 := by kernel_rfl
theorem b2P : aU Tryz.prog 174 0 = some 0 := by kernel_rfl
theorem b5c : aU Tryz.prog 174 1 = some 1 := by kernel_rfl
theorem b3E : aU Tryz.prog 174 2 = some 2 := by kernel_rfl
theorem b2G : aU Tryz.prog 174 3 = some 3 := by kernel_rfl
theorem b5m : aU Tryz.prog 176 0 = some 0 := by kernel_rfl
theorem b2s : aU Tryz.prog 176 1 = some 1 := by kernel_rfl
theorem b5q : aU Tryz.prog 176 2 = some 2 := by kernel_rfl
theorem b4O : aU Tryz.prog 176 3 = some 3 := by kernel_rfl
theorem b3m : aU Tryz.prog 176 4 = some 4 := by kernel_rfl
theorem b3c : aU Tryz.prog 199 0 = some 0 := by kernel_rfl
theorem b4I : aU Tryz.prog 199 1 = some 1 := by kernel_rfl
theorem b3p : aU Tryz.prog 274 0 = some 0 := by kernel_rfl
theorem b2A : aU Tryz.prog 274 1 = some 1 := by kernel_rfl
theorem c3G : aZ Tryz.prog 23 = some (.agg #[.int .i64 0, .int .i64 0]) := by kernel_rfl
theorem c3E : bK Tryz.prog 23 = none := by kernel_rfl
theorem c3w : aZ Tryz.prog 40 = some (.agg #[.string ⟨#[]⟩, .slice none 0 0, .slice none 0 0, .slice none 0 0]) := by kernel_rfl
theorem c3m : bK Tryz.prog 40 = none := by kernel_rfl
theorem c3A : aZ Tryz.prog 52 = some (.agg #[.int .i64 0, .int .i64 0]) := by kernel_rfl
theorem c3q : bK Tryz.prog 52 = none := by kernel_rfl
theorem c4J : aZ Tryz.prog 56 = some (.agg #[.int .u64 0, .int .u64 0]) := by kernel_rfl
theorem c4t : bK Tryz.prog 56 = none := by kernel_rfl
theorem c3X : aZ Tryz.prog 58 = some (.agg #[.int .i64 0, .int .i64 0]) := by kernel_rfl
theorem c3g : bK Tryz.prog 58 = none := by kernel_rfl
theorem c4x : aZ Tryz.prog 61 = some (.agg #[.string ⟨#[]⟩, .bool false, .int .i64 0, .int .i64 0, .slice none 0 0]) := by kernel_rfl
theorem c3F : bK Tryz.prog 61 = none := by kernel_rfl
theorem c4q : aZ Tryz.prog 68 = some (.agg #[.int .i64 0, .int .i64 0]) := by kernel_rfl
theorem c4z : bK Tryz.prog 68 = none := by kernel_rfl
theorem c2M : aZ Tryz.prog 71 = some (.agg #[.string ⟨#[]⟩, .int .i64 0, .int .i64 0, .slice none 0 0]) := by kernel_rfl
theorem c4A : bK Tryz.prog 71 = none := by kernel_rfl
theorem c2K : aZ Tryz.prog 74 = some (.agg #[.int .i64 0, .int .i64 0, .slice none 0 0]) := by kernel_rfl
theorem c3s : bK Tryz.prog 74 = none := by kernel_rfl
theorem c4h : aZ Tryz.prog 90 = some (.agg #[.slice none 0 0, .int .u64 0, .int .u64 0]) := by kernel_rfl
theorem c3U : bK Tryz.prog 90 = none := by kernel_rfl
theorem c0b : aZ Tryz.prog 114 = some (.slice none 0 0) := by kernel_rfl
theorem b9g : bK Tryz.prog 114 = none := by kernel_rfl
theorem c1A : aZ Tryz.prog 162 = some (.agg #[.int .u8 0, .int .u8 0, .bool false, .slice none 0 0]) := by kernel_rfl
theorem c0L : bK Tryz.prog 162 = none := by kernel_rfl
theorem c1f : aZ Tryz.prog 164 = some (.agg #[.string ⟨#[]⟩, .string ⟨#[]⟩, .int .i64 0, .int .i64 0, .int .i64 0, .slice none 0 0]) := by kernel_rfl
theorem b9b : bK Tryz.prog 164 = none := by kernel_rfl
theorem c2o : aZ Tryz.prog 174 = some (.agg #[.int .u8 0, .int .u8 0, .int .i8 0, .bool false]) := by kernel_rfl
theorem b9T : bK Tryz.prog 174 = none := by kernel_rfl
theorem c1d : aZ Tryz.prog 176 = some (.agg #[.string ⟨#[]⟩, .int .i64 0, .int .i64 0, .int .i64 0, .bool false]) := by kernel_rfl
theorem c1Z : bK Tryz.prog 176 = none := by kernel_rfl
theorem b8S : aZ Tryz.prog 199 = some (.agg #[.int .i64 0, .int .i64 0]) := by kernel_rfl
theorem b8K : bK Tryz.prog 199 = none := by kernel_rfl
theorem c1W : aZ Tryz.prog 347 = some (.map none) := by kernel_rfl
theorem b8V : bK Tryz.prog 347 = none := by kernel_rfl
theorem tI3 : tC Tryz.prog 3 = some .i64 := by kernel_rfl
theorem tI5 : tC Tryz.prog 5 = some .u8 := by kernel_rfl
theorem c4L : tC Tryz.prog 54 = some .u64 := by kernel_rfl
theorem c0Z : tC Tryz.prog 166 = some .i8 := by kernel_rfl
theorem c0v : tC Tryz.prog 183 = some .u64 := by kernel_rfl
theorem c1c (t2 : TypeId) (cx cy : Bool) (a0 : Int) (a1 : Int) (b0 : Int) (b1 : Int) : cW Tryz.prog .eql 23 t2 cx cy (.agg #[.int .i64 a0, .int .i64 a1]) (.agg #[.int .i64 b0, .int .i64 b1]) = some (.bool (decide (a0 = b0 ∧ a1 = b1))) ∧ cW Tryz.prog .neq 23 t2 cx cy (.agg #[.int .i64 a0, .int .i64 a1]) (.agg #[.int .i64 b0, .int .i64 b1]) = some (.bool (decide (¬ (a0 = b0 ∧ a1 = b1)))) := by
 have h := qN (P := Tryz.prog) (t := 23) (t2 := t2) (cx := cx) (cy := cy) (xs := [.int .i64 a0, .int .i64 a1]) (ys := [.int .i64 b0, .int .i64 b1]) (by kernel_rfl) (by kernel_rfl) (by kernel_rfl) (by kernel_rfl) rfl (by kernel_rfl) rfl rfl
 have e : ((List.range [Value.int .i64 a0, .int .i64 a1].length).all fun j => tY ([Value.int .i64 a0, .int .i64 a1].getD j undef) ([Value.int .i64 b0, .int .i64 b1].getD j undef)) = decide (a0 = b0 ∧ a1 = b1) := by
  show (tY (Value.int .i64 a0) (.int .i64 b0) && (tY (Value.int .i64 a1) (.int .i64 b1) && true)) = _
  rw [Bool.eq_iff_iff]
  simp [tY]
 rw [e] at h
 exact ⟨h.1, by rw [h.2]; simp⟩
theorem c1Q (t2 : TypeId) (cx cy : Bool) (a0 : Int) (a1 : Int) (b0 : Int) (b1 : Int) : cW Tryz.prog .eql 23 t2 cx cy (.agg #[.int .i64 a0, .int .i64 a1]) (.agg #[.int .i64 b0, .int .i64 b1]) = some (.bool (decide (a0 = b0 ∧ a1 = b1))) := (c1c t2 cx cy a0 a1 b0 b1).1
theorem c2b (t2 : TypeId) (cx cy : Bool) (a0 : Int) (a1 : Int) (b0 : Int) (b1 : Int) : cW Tryz.prog .neq 23 t2 cx cy (.agg #[.int .i64 a0, .int .i64 a1]) (.agg #[.int .i64 b0, .int .i64 b1]) = some (.bool (decide (¬ (a0 = b0 ∧ a1 = b1)))) := (c1c t2 cx cy a0 a1 b0 b1).2
theorem c0o (t2 : TypeId) (cx cy : Bool) (a0 : Int) (a1 : Int) (b0 : Int) (b1 : Int) : cW Tryz.prog .eql 52 t2 cx cy (.agg #[.int .i64 a0, .int .i64 a1]) (.agg #[.int .i64 b0, .int .i64 b1]) = some (.bool (decide (a0 = b0 ∧ a1 = b1))) ∧ cW Tryz.prog .neq 52 t2 cx cy (.agg #[.int .i64 a0, .int .i64 a1]) (.agg #[.int .i64 b0, .int .i64 b1]) = some (.bool (decide (¬ (a0 = b0 ∧ a1 = b1)))) := by
 have h := qN (P := Tryz.prog) (t := 52) (t2 := t2) (cx := cx) (cy := cy) (xs := [.int .i64 a0, .int .i64 a1]) (ys := [.int .i64 b0, .int .i64 b1]) (by kernel_rfl) (by kernel_rfl) (by kernel_rfl) (by kernel_rfl) rfl (by kernel_rfl) rfl rfl
 have e : ((List.range [Value.int .i64 a0, .int .i64 a1].length).all fun j => tY ([Value.int .i64 a0, .int .i64 a1].getD j undef) ([Value.int .i64 b0, .int .i64 b1].getD j undef)) = decide (a0 = b0 ∧ a1 = b1) := by
  show (tY (Value.int .i64 a0) (.int .i64 b0) && (tY (Value.int .i64 a1) (.int .i64 b1) && true)) = _
  rw [Bool.eq_iff_iff]
  simp [tY]
 rw [e] at h
 exact ⟨h.1, by rw [h.2]; simp⟩
theorem c0e (t2 : TypeId) (cx cy : Bool) (a0 : Int) (a1 : Int) (b0 : Int) (b1 : Int) : cW Tryz.prog .eql 52 t2 cx cy (.agg #[.int .i64 a0, .int .i64 a1]) (.agg #[.int .i64 b0, .int .i64 b1]) = some (.bool (decide (a0 = b0 ∧ a1 = b1))) := (c0o t2 cx cy a0 a1 b0 b1).1
theorem b9o (t2 : TypeId) (cx cy : Bool) (a0 : Int) (a1 : Int) (b0 : Int) (b1 : Int) : cW Tryz.prog .neq 52 t2 cx cy (.agg #[.int .i64 a0, .int .i64 a1]) (.agg #[.int .i64 b0, .int .i64 b1]) = some (.bool (decide (¬ (a0 = b0 ∧ a1 = b1)))) := (c0o t2 cx cy a0 a1 b0 b1).2
theorem b9h (t2 : TypeId) (cx cy : Bool) (a0 : Int) (a1 : Int) (b0 : Int) (b1 : Int) : cW Tryz.prog .eql 56 t2 cx cy (.agg #[.int .u64 a0, .int .u64 a1]) (.agg #[.int .u64 b0, .int .u64 b1]) = some (.bool (decide (a0 = b0 ∧ a1 = b1))) ∧ cW Tryz.prog .neq 56 t2 cx cy (.agg #[.int .u64 a0, .int .u64 a1]) (.agg #[.int .u64 b0, .int .u64 b1]) = some (.bool (decide (¬ (a0 = b0 ∧ a1 = b1)))) := by
 have h := qN (P := Tryz.prog) (t := 56) (t2 := t2) (cx := cx) (cy := cy) (xs := [.int .u64 a0, .int .u64 a1]) (ys := [.int .u64 b0, .int .u64 b1]) (by kernel_rfl) (by kernel_rfl) (by kernel_rfl) (by kernel_rfl) rfl (by kernel_rfl) rfl rfl
 have e : ((List.range [Value.int .u64 a0, .int .u64 a1].length).all fun j => tY ([Value.int .u64 a0, .int .u64 a1].getD j undef) ([Value.int .u64 b0, .int .u64 b1].getD j undef)) = decide (a0 = b0 ∧ a1 = b1) := by
  show (tY (Value.int .u64 a0) (.int .u64 b0) && (tY (Value.int .u64 a1) (.int .u64 b1) && true)) = _
  rw [Bool.eq_iff_iff]
  simp [tY]
 rw [e] at h
 exact ⟨h.1, by rw [h.2]; simp⟩
theorem c1Y (t2 : TypeId) (cx cy : Bool) (a0 : Int) (a1 : Int) (b0 : Int) (b1 : Int) : cW Tryz.prog .eql 56 t2 cx cy (.agg #[.int .u64 a0, .int .u64 a1]) (.agg #[.int .u64 b0, .int .u64 b1]) = some (.bool (decide (a0 = b0 ∧ a1 = b1))) := (b9h t2 cx cy a0 a1 b0 b1).1
theorem c0j (t2 : TypeId) (cx cy : Bool) (a0 : Int) (a1 : Int) (b0 : Int) (b1 : Int) : cW Tryz.prog .neq 56 t2 cx cy (.agg #[.int .u64 a0, .int .u64 a1]) (.agg #[.int .u64 b0, .int .u64 b1]) = some (.bool (decide (¬ (a0 = b0 ∧ a1 = b1)))) := (b9h t2 cx cy a0 a1 b0 b1).2
theorem b5W (t2 : TypeId) (cx cy : Bool) (a0 : Int) (a1 : Int) (b0 : Int) (b1 : Int) : cW Tryz.prog .eql 199 t2 cx cy (.agg #[.int .i64 a0, .int .i64 a1]) (.agg #[.int .i64 b0, .int .i64 b1]) = some (.bool (decide (a0 = b0 ∧ a1 = b1))) ∧ cW Tryz.prog .neq 199 t2 cx cy (.agg #[.int .i64 a0, .int .i64 a1]) (.agg #[.int .i64 b0, .int .i64 b1]) = some (.bool (decide (¬ (a0 = b0 ∧ a1 = b1)))) := by
 have h := qN (P := Tryz.prog) (t := 199) (t2 := t2) (cx := cx) (cy := cy) (xs := [.int .i64 a0, .int .i64 a1]) (ys := [.int .i64 b0, .int .i64 b1]) (by kernel_rfl) (by kernel_rfl) (by kernel_rfl) (by kernel_rfl) rfl (by kernel_rfl) rfl rfl
 have e : ((List.range [Value.int .i64 a0, .int .i64 a1].length).all fun j => tY ([Value.int .i64 a0, .int .i64 a1].getD j undef) ([Value.int .i64 b0, .int .i64 b1].getD j undef)) = decide (a0 = b0 ∧ a1 = b1) := by
  show (tY (Value.int .i64 a0) (.int .i64 b0) && (tY (Value.int .i64 a1) (.int .i64 b1) && true)) = _
  rw [Bool.eq_iff_iff]
  simp [tY]
 rw [e] at h
 exact ⟨h.1, by rw [h.2]; simp⟩
theorem b6H (t2 : TypeId) (cx cy : Bool) (a0 : Int) (a1 : Int) (b0 : Int) (b1 : Int) : cW Tryz.prog .eql 199 t2 cx cy (.agg #[.int .i64 a0, .int .i64 a1]) (.agg #[.int .i64 b0, .int .i64 b1]) = some (.bool (decide (a0 = b0 ∧ a1 = b1))) := (b5W t2 cx cy a0 a1 b0 b1).1
theorem b6F (t2 : TypeId) (cx cy : Bool) (a0 : Int) (a1 : Int) (b0 : Int) (b1 : Int) : cW Tryz.prog .neq 199 t2 cx cy (.agg #[.int .i64 a0, .int .i64 a1]) (.agg #[.int .i64 b0, .int .i64 b1]) = some (.bool (decide (¬ (a0 = b0 ∧ a1 = b1)))) := (b5W t2 cx cy a0 a1 b0 b1).2
theorem lZ {a1 : Int} {a2 : Int} : cO Tryz.prog 23 [(0, .int .i64 a1), (1, .int .i64 a2)] = some (.agg #[.int .i64 a1, .int .i64 a2]) := by kernel_rfl
theorem b6W {a1 : ByteArray} : cO Tryz.prog 40 [(0, .string a1)] = some (.agg #[.string a1, .slice none 0 0, .slice none 0 0, .slice none 0 0]) := by kernel_rfl
theorem a0L {a1 : ByteArray} {a2 : Value} {a3 : Value} {a4 : Value} (h2 : a2.cells = #[a2] ∧ oneCell a2 = true ∧ gU a2 = true) (h3 : a3.cells = #[a3] ∧ oneCell a3 = true ∧ gU a3 = true) (h4 : a4.cells = #[a4] ∧ oneCell a4 = true ∧ gU a4 = true) : cO Tryz.prog 40 [(0, .string a1), (1, a2), (2, a3), (3, a4)] = some (.agg #[.string a1, a2, a3, a4]) := by cases a2 <;> cases a3 <;> cases a4 <;> first | (exfalso; simp [oneCell] at h2; done) | (exfalso; simp [oneCell] at h3; done) | (exfalso; simp [oneCell] at h4; done) | kernel_rfl
theorem b5G : cO Tryz.prog 52 [] = some (.agg #[.int .i64 0, .int .i64 0]) := by kernel_rfl
theorem vY {a1 : Int} {a2 : Int} : cO Tryz.prog 52 [(0, .int .i64 a1), (1, .int .i64 a2)] = some (.agg #[.int .i64 a1, .int .i64 a2]) := by kernel_rfl
theorem b5R : cO Tryz.prog 56 [] = some (.agg #[.int .u64 0, .int .u64 0]) := by kernel_rfl
theorem b1r {a1 : Int} {a2 : Int} : cO Tryz.prog 56 [(0, .int .u64 a1), (1, .int .u64 a2)] = some (.agg #[.int .u64 a1, .int .u64 a2]) := by kernel_rfl
theorem a3B {a1 : Int} {a2 : Int} : cO Tryz.prog 58 [(0, .int .i64 a1), (1, .int .i64 a2)] = some (.agg #[.int .i64 a1, .int .i64 a2]) := by kernel_rfl
theorem a3E {a1 : ByteArray} {a2 : Bool} {a3 : Int} {a4 : Int} : cO Tryz.prog 61 [(0, .string a1), (1, .bool a2), (2, .agg #[.int .i64 a3, .int .i64 a4])] = some (.agg #[.string a1, .bool a2, .int .i64 a3, .int .i64 a4, .slice none 0 0]) := by kernel_rfl
theorem vQ {a1 : ByteArray} {a2 : Int} {a3 : Int} {a4 : Value} (h4 : a4.cells = #[a4] ∧ oneCell a4 = true ∧ gU a4 = true) : cO Tryz.prog 61 [(0, .string a1), (2, .agg #[.int .i64 a2, .int .i64 a3]), (3, a4)] = some (.agg #[.string a1, .bool false, .int .i64 a2, .int .i64 a3, a4]) := by cases a4 <;> first | (exfalso; simp [oneCell] at h4; done) | kernel_rfl
theorem mA {a1 : Int} {a2 : Int} : cO Tryz.prog 68 [(0, .int .i64 a1), (1, .int .i64 a2)] = some (.agg #[.int .i64 a1, .int .i64 a2]) := by kernel_rfl
theorem b2d {a1 : ByteArray} {a2 : Int} {a3 : Int} : cO Tryz.prog 71 [(0, .string a1), (1, .agg #[.int .i64 a2, .int .i64 a3])] = some (.agg #[.string a1, .int .i64 a2, .int .i64 a3, .slice none 0 0]) := by kernel_rfl
theorem a5A {a1 : ByteArray} {a2 : Int} {a3 : Int} {a4 : Value} (h4 : a4.cells = #[a4] ∧ oneCell a4 = true ∧ gU a4 = true) : cO Tryz.prog 71 [(0, .string a1), (1, .agg #[.int .i64 a2, .int .i64 a3]), (2, a4)] = some (.agg #[.string a1, .int .i64 a2, .int .i64 a3, a4]) := by cases a4 <;> first | (exfalso; simp [oneCell] at h4; done) | kernel_rfl
theorem c0R : cO Tryz.prog 74 [] = some (.agg #[.int .i64 0, .int .i64 0, .slice none 0 0]) := by kernel_rfl
theorem dJ {a1 : Int} {a2 : Int} {a3 : Value} (h3 : a3.cells = #[a3] ∧ oneCell a3 = true ∧ gU a3 = true) : cO Tryz.prog 74 [(0, .int .i64 a1), (1, .int .i64 a2), (2, a3)] = some (.agg #[.int .i64 a1, .int .i64 a2, a3]) := by cases a3 <;> first | (exfalso; simp [oneCell] at h3; done) | kernel_rfl
theorem b0h {a1 : Value} {a2 : Int} (h1 : a1.cells = #[a1] ∧ oneCell a1 = true ∧ gU a1 = true) : cO Tryz.prog 90 [(0, a1), (1, .int .u64 a2)] = some (.agg #[a1, .int .u64 a2, .int .u64 0]) := by cases a1 <;> first | (exfalso; simp [oneCell] at h1; done) | kernel_rfl
theorem b0t {a1 : Int} {a2 : Int} : cO Tryz.prog 90 [(1, .int .u64 a1), (2, .int .u64 a2)] = some (.agg #[.slice none 0 0, .int .u64 a1, .int .u64 a2]) := by kernel_rfl
theorem xR {a1 : ByteArray} {a2 : ByteArray} {a3 : Int} {a4 : Int} {a5 : Int} : cO Tryz.prog 164 [(0, .string a1), (1, .string a2), (2, .agg #[.int .i64 a3, .int .i64 a4]), (3, .int .i64 a5)] = some (.agg #[.string a1, .string a2, .int .i64 a3, .int .i64 a4, .int .i64 a5, .slice none 0 0]) := by kernel_rfl
theorem tL {a1 : ByteArray} {a2 : ByteArray} {a3 : Int} {a4 : Int} {a5 : Int} {a6 : Value} (h6 : a6.cells = #[a6] ∧ oneCell a6 = true ∧ gU a6 = true) : cO Tryz.prog 164 [(0, .string a1), (1, .string a2), (2, .agg #[.int .i64 a3, .int .i64 a4]), (3, .int .i64 a5), (4, a6)] = some (.agg #[.string a1, .string a2, .int .i64 a3, .int .i64 a4, .int .i64 a5, a6]) := by cases a6 <;> first | (exfalso; simp [oneCell] at h6; done) | kernel_rfl
theorem a2J {a1 : ByteArray} {a2 : Int} {a3 : Int} : cO Tryz.prog 176 [(0, .string a1), (1, .int .i64 a2), (2, .int .i64 a3)] = some (.agg #[.string a1, .int .i64 a2, .int .i64 a3, .int .i64 0, .bool false]) := by kernel_rfl
theorem tH {a1 : ByteArray} {a2 : Int} {a3 : Int} {a4 : Int} {a5 : Bool} : cO Tryz.prog 176 [(0, .string a1), (1, .int .i64 a2), (2, .int .i64 a3), (3, .int .i64 a4), (4, .bool a5)] = some (.agg #[.string a1, .int .i64 a2, .int .i64 a3, .int .i64 a4, .bool a5]) := by kernel_rfl
theorem iN {a1 : Int} {a2 : Int} : cO Tryz.prog 199 [(0, .int .i64 a1), (1, .int .i64 a2)] = some (.agg #[.int .i64 a1, .int .i64 a2]) := by kernel_rfl
theorem xY {a1 : Int} {a2 : Int} {a3 : Int} : cO Tryz.prog 233 [(0, .agg #[.int .i64 a1, .int .i64 a2]), (1, .int .i64 a3)] = some (.agg #[.int .i64 a1, .int .i64 a2, .int .i64 a3]) := by kernel_rfl
theorem a7l {a1 : Value} {a2 : Int} {a3 : Int} (h1 : a1.cells = #[a1] ∧ oneCell a1 = true ∧ gU a1 = true) : cO Tryz.prog 274 [(0, a1), (1, .agg #[.int .i64 a2, .int .i64 a3])] = some (.agg #[a1, .int .i64 a2, .int .i64 a3]) := by cases a1 <;> first | (exfalso; simp [oneCell] at h1; done) | kernel_rfl
theorem a7I {a1 : Int} {a2 : Int} : cO Tryz.prog 354 [(0, .int .u64 a1), (1, .int .u64 a2)] = some (.agg #[.int .u64 a1, .int .u64 a2]) := by kernel_rfl
theorem b9S (l : List Value) (H : Heap) : aD Tryz.prog Tryz.f14 l H = some (get l 6) := rfl
theorem a5I (l : List Value) (H : Heap) : aD Tryz.prog Tryz.f19 l H = some (get l 2) := rfl
theorem c4Q (l : List Value) (H : Heap) : aD Tryz.prog Tryz.f20 l H = gY (bJ Tryz.prog 40) (aE Tryz.prog 40) H (get l 2) := by
 show (Option.bind (Option.bind (dH Tryz.prog H 40 (get l 2)) fun v => some [v]) fun vs => _) = _
 rw [dC]
 cases gY _ _ H (get l 2) <;> rfl
theorem xU (l : List Value) (H : Heap) : aD Tryz.prog Tryz.f32 l H = some (get l 2) := rfl
theorem c4D (l : List Value) (H : Heap) : aD Tryz.prog Tryz.f37 l H = gY (bJ Tryz.prog 90) (aE Tryz.prog 90) H (get l 4) := by
 show (Option.bind (Option.bind (dH Tryz.prog H 90 (get l 4)) fun v => some [v]) fun vs => _) = _
 rw [dC]
 cases gY _ _ H (get l 4) <;> rfl
theorem c3e (l : List Value) (H : Heap) : aD Tryz.prog Tryz.f57 l H = some (get l 4) := rfl
theorem a8K (l : List Value) (H : Heap) : aD Tryz.prog Tryz.f60 l H = some (get l 4) := rfl
theorem b3W (l : List Value) (H : Heap) : aD Tryz.prog Tryz.f62 l H = some (get l 4) := rfl
theorem b9B (l : List Value) (H : Heap) : aD Tryz.prog Tryz.f63 l H = if (bP (get l 6) && (bP (get l 7) && true)) = true then some (.tuple #[get l 6, get l 7]) else none := rfl
theorem c3f (l : List Value) (H : Heap) : aD Tryz.prog Tryz.f64 l H = some (get l 0) := rfl
theorem c4l (l : List Value) (H : Heap) : aD Tryz.prog Tryz.f65 l H = if (bP (get l 4) && (bP (get l 5) && true)) = true then some (.tuple #[get l 4, get l 5]) else none := rfl
theorem c1v (l : List Value) (H : Heap) : aD Tryz.prog Tryz.f66 l H = if (bP (get l 6) && (bP (get l 7) && true)) = true then some (.tuple #[get l 6, get l 7]) else none := rfl
theorem c0X (l : List Value) (H : Heap) : aD Tryz.prog Tryz.f68 l H = some (get l 4) := rfl
theorem b7C (l : List Value) (H : Heap) : aD Tryz.prog Tryz.f69 l H = some (get l 4) := rfl
theorem b7B (l : List Value) (H : Heap) : aD Tryz.prog Tryz.f70 l H = some (get l 2) := rfl
theorem b8L (l : List Value) (H : Heap) : aD Tryz.prog Tryz.f75 l H = some (get l 2) := rfl
theorem b6Y (l : List Value) (H : Heap) : aD Tryz.prog Tryz.f76 l H = some (get l 4) := rfl
theorem c4K (l : List Value) (H : Heap) : aD Tryz.prog Tryz.f80 l H = gY (bJ Tryz.prog 164) (aE Tryz.prog 164) H (get l 4) := by
 show (Option.bind (Option.bind (dH Tryz.prog H 164 (get l 4)) fun v => some [v]) fun vs => _) = _
 rw [dC]
 cases gY _ _ H (get l 4) <;> rfl
theorem a5y (l : List Value) (H : Heap) : aD Tryz.prog Tryz.f81 l H = gY (bJ Tryz.prog 71) (aE Tryz.prog 71) H (get l 8) := by
 show (Option.bind (Option.bind (dH Tryz.prog H 71 (get l 8)) fun v => some [v]) fun vs => _) = _
 rw [dC]
 cases gY _ _ H (get l 8) <;> rfl
theorem c3Z (l : List Value) (H : Heap) : aD Tryz.prog Tryz.f88 l H = some (get l 6) := rfl
theorem a7P (l : List Value) (H : Heap) : aD Tryz.prog Tryz.f91 l H = some (get l 2) := rfl
theorem a5x (l : List Value) (H : Heap) : aD Tryz.prog Tryz.f92 l H = some (get l 2) := rfl
theorem c0J (l : List Value) (H : Heap) : aD Tryz.prog Tryz.f93 l H = some (get l 4) := rfl
theorem b0U (l : List Value) (H : Heap) : aD Tryz.prog Tryz.f94 l H = some (get l 4) := rfl
theorem rN (l : List Value) (H : Heap) : aD Tryz.prog Tryz.f95 l H = some (get l 4) := rfl
theorem c2Z (l : List Value) (H : Heap) : aD Tryz.prog Tryz.f98 l H = if (bP (get l 4) && (bP (get l 5) && true)) = true then some (.tuple #[get l 4, get l 5]) else none := rfl
theorem c2y (l : List Value) (H : Heap) : aD Tryz.prog Tryz.f107 l H = (gY (bJ Tryz.prog 56) (aE Tryz.prog 56) H (get l 2)).bind fun v => if (bP v && (bP (get l 3) && true)) = true then some (.tuple #[v, get l 3]) else none := by
 show (Option.bind (Option.bind (dH Tryz.prog H 56 (get l 2)) fun v => some [v, get l 3]) fun vs => _) = _
 rw [dC]
 cases gY _ _ H (get l 2) <;> rfl
theorem b9N (l : List Value) (H : Heap) : aD Tryz.prog Tryz.f118 l H = (gY (bJ Tryz.prog 56) (aE Tryz.prog 56) H (get l 2)).bind fun v => if (bP v && (bP (get l 3) && true)) = true then some (.tuple #[v, get l 3]) else none := by
 show (Option.bind (Option.bind (dH Tryz.prog H 56 (get l 2)) fun v => some [v, get l 3]) fun vs => _) = _
 rw [dC]
 cases gY _ _ H (get l 2) <;> rfl
theorem c2u (l : List Value) (H : Heap) : aD Tryz.prog Tryz.f119 l H = some (get l 4) := rfl
theorem b5v (l : List Value) (H : Heap) : aD Tryz.prog Tryz.f120 l H = some (get l 6) := rfl
theorem c0S (l : List Value) (H : Heap) : aD Tryz.prog Tryz.f121 l H = some (get l 6) := rfl
theorem c1R (l : List Value) (H : Heap) : aD Tryz.prog Tryz.f122 l H = some (get l 2) := rfl
theorem c1n (l : List Value) (H : Heap) : aD Tryz.prog Tryz.f123 l H = gY (bJ Tryz.prog 40) (aE Tryz.prog 40) H (get l 0) := by
 show (Option.bind (Option.bind (dH Tryz.prog H 40 (get l 0)) fun v => some [v]) fun vs => _) = _
 rw [dC]
 cases gY _ _ H (get l 0) <;> rfl
theorem b5S (l : List Value) (H : Heap) : aD Tryz.prog Tryz.f124 l H = if (bP (get l 6) && (bP (get l 7) && true)) = true then some (.tuple #[get l 6, get l 7]) else none := rfl
theorem b9s (l : List Value) (H : Heap) : aD Tryz.prog Tryz.f125 l H = if (bP (get l 6) && (bP (get l 7) && true)) = true then some (.tuple #[get l 6, get l 7]) else none := rfl
theorem b1u (l : List Value) (H : Heap) : aD Tryz.prog Tryz.f126 l H = some (get l 4) := rfl
theorem a9B (l : List Value) (H : Heap) : aD Tryz.prog Tryz.f127 l H = some (get l 4) := rfl
theorem c1C (l : List Value) (H : Heap) : aD Tryz.prog Tryz.f128 l H = some (get l 2) := rfl
theorem b5E (l : List Value) (H : Heap) : aD Tryz.prog Tryz.f129 l H = some (get l 6) := rfl
theorem c2k (l : List Value) (H : Heap) : aD Tryz.prog Tryz.f148 l H = some (get l 2) := rfl
theorem c1i (l : List Value) (H : Heap) : aD Tryz.prog Tryz.f149 l H = some (get l 4) := rfl
theorem c0x (l : List Value) (H : Heap) : aD Tryz.prog Tryz.f150 l H = gY (bJ Tryz.prog 68) (aE Tryz.prog 68) H (get l 2) := by
 show (Option.bind (Option.bind (dH Tryz.prog H 68 (get l 2)) fun v => some [v]) fun vs => _) = _
 rw [dC]
 cases gY _ _ H (get l 2) <;> rfl
theorem c1X (l : List Value) (H : Heap) : aD Tryz.prog Tryz.f151 l H = gY (bJ Tryz.prog 68) (aE Tryz.prog 68) H (get l 2) := by
 show (Option.bind (Option.bind (dH Tryz.prog H 68 (get l 2)) fun v => some [v]) fun vs => _) = _
 rw [dC]
 cases gY _ _ H (get l 2) <;> rfl
theorem b5Y (l : List Value) (H : Heap) : aD Tryz.prog Tryz.f155 l H = gY (bJ Tryz.prog 74) (aE Tryz.prog 74) H (get l 4) := by
 show (Option.bind (Option.bind (dH Tryz.prog H 74 (get l 4)) fun v => some [v]) fun vs => _) = _
 rw [dC]
 cases gY _ _ H (get l 4) <;> rfl
theorem a6e (l : List Value) (H : Heap) : aD Tryz.prog Tryz.f156 l H = (gY (bJ Tryz.prog 52) (aE Tryz.prog 52) H (get l 6)).bind fun v => if (bP v && (bP (get l 7) && true)) = true then some (.tuple #[v, get l 7]) else none := by
 show (Option.bind (Option.bind (dH Tryz.prog H 52 (get l 6)) fun v => some [v, get l 7]) fun vs => _) = _
 rw [dC]
 cases gY _ _ H (get l 6) <;> rfl
theorem b9V (l : List Value) (H : Heap) : aD Tryz.prog Tryz.f157 l H = some (get l 2) := rfl
theorem a1S (l : List Value) (H : Heap) : aD Tryz.prog Tryz.f158 l H = some (get l 2) := rfl
theorem a2M (l : List Value) (H : Heap) : aD Tryz.prog Tryz.f159 l H = some (get l 2) := rfl
theorem b5C (l : List Value) (H : Heap) : aD Tryz.prog Tryz.f160 l H = some (get l 2) := rfl
theorem b5D (l : List Value) (H : Heap) : aD Tryz.prog Tryz.f161 l H = some (get l 2) := rfl
theorem a6J (l : List Value) (H : Heap) : aD Tryz.prog Tryz.f162 l H = some (get l 2) := rfl
theorem lK (l : List Value) (H : Heap) : aD Tryz.prog Tryz.f163 l H = some (get l 4) := rfl
theorem b8M (l : List Value) (H : Heap) : aD Tryz.prog Tryz.f164 l H = some (get l 4) := rfl
theorem b8W (l : List Value) (H : Heap) : aD Tryz.prog Tryz.f165 l H = some (get l 3) := rfl
theorem b6g (l : List Value) (H : Heap) : aD Tryz.prog Tryz.f166 l H = some (get l 4) := rfl
theorem b9U (l : List Value) (H : Heap) : aD Tryz.prog Tryz.f167 l H = some (get l 4) := rfl
theorem c2q (l : List Value) (H : Heap) : aD Tryz.prog Tryz.f175 l H = some (get l 2) := rfl
theorem b5F (l : List Value) (H : Heap) : aD Tryz.prog Tryz.f176 l H = gY (bJ Tryz.prog 56) (aE Tryz.prog 56) H (get l 4) := by
 show (Option.bind (Option.bind (dH Tryz.prog H 56 (get l 4)) fun v => some [v]) fun vs => _) = _
 rw [dC]
 cases gY _ _ H (get l 4) <;> rfl
theorem c1w (l : List Value) (H : Heap) : aD Tryz.prog Tryz.f179 l H = gY (bJ Tryz.prog 56) (aE Tryz.prog 56) H (get l 4) := by
 show (Option.bind (Option.bind (dH Tryz.prog H 56 (get l 4)) fun v => some [v]) fun vs => _) = _
 rw [dC]
 cases gY _ _ H (get l 4) <;> rfl
theorem a9S (l : List Value) (H : Heap) : aD Tryz.prog Tryz.f180 l H = some (get l 4) := rfl
theorem c0I (l : List Value) (H : Heap) : aD Tryz.prog Tryz.f181 l H = some (get l 6) := rfl
theorem c0C (l : List Value) (H : Heap) : aD Tryz.prog Tryz.f182 l H = some (get l 6) := rfl
theorem b9H (l : List Value) (H : Heap) : aD Tryz.prog Tryz.f183 l H = some (get l 6) := rfl
theorem b9G (l : List Value) (H : Heap) : aD Tryz.prog Tryz.f184 l H = gY (bJ Tryz.prog 164) (aE Tryz.prog 164) H (get l 2) := by
 show (Option.bind (Option.bind (dH Tryz.prog H 164 (get l 2)) fun v => some [v]) fun vs => _) = _
 rw [dC]
 cases gY _ _ H (get l 2) <;> rfl
theorem b9j (l : List Value) (H : Heap) : aD Tryz.prog Tryz.f185 l H = some (.tuple #[]) := rfl
theorem c2r (l : List Value) (H : Heap) : aD Tryz.prog Tryz.f187 l H = some (get l 2) := rfl
theorem c1L (l : List Value) (H : Heap) : aD Tryz.prog Tryz.f188 l H = some (get l 2) := rfl
theorem a2r (l : List Value) (H : Heap) : aD Tryz.prog Tryz.f189 l H = some (get l 4) := rfl
theorem b5w (l : List Value) (H : Heap) : aD Tryz.prog Tryz.f216 l H = some (get l 4) := rfl
theorem b5N (l : List Value) (H : Heap) : aD Tryz.prog Tryz.f217 l H = some (get l 3) := rfl
theorem b8Z (l : List Value) (H : Heap) : aD Tryz.prog Tryz.f218 l H = some (get l 4) := rfl
theorem yB (l : List Value) (H : Heap) : aD Tryz.prog Tryz.f219 l H = some (get l 2) := rfl
theorem b9K (l : List Value) (H : Heap) : aD Tryz.prog Tryz.f220 l H = some (get l 4) := rfl
theorem b5H (l : List Value) (H : Heap) : aD Tryz.prog Tryz.f221 l H = some (get l 2) := rfl
theorem b0w (l : List Value) (H : Heap) : aD Tryz.prog Tryz.f222 l H = some (get l 2) := rfl
theorem wR (l : List Value) (H : Heap) : aD Tryz.prog Tryz.f223 l H = some (get l 4) := rfl
theorem b6f (l : List Value) (H : Heap) : aD Tryz.prog Tryz.f224 l H = some (get l 4) := rfl
theorem c2s (l : List Value) (H : Heap) : aD Tryz.prog Tryz.f231 l H = some (get l 4) := rfl
theorem b6b (l : List Value) (H : Heap) : aD Tryz.prog Tryz.f232 l H = some (.tuple #[]) := rfl
theorem b9E (l : List Value) (H : Heap) : aD Tryz.prog Tryz.f234 l H = some (get l 4) := rfl
theorem a9o (l : List Value) (H : Heap) : aD Tryz.prog Tryz.f235 l H = some (get l 2) := rfl
theorem c1g (l : List Value) (H : Heap) : aD Tryz.prog Tryz.f236 l H = some (.tuple #[]) := rfl
theorem c1N (l : List Value) (H : Heap) : aD Tryz.prog Tryz.f237 l H = some (get l 4) := rfl
theorem c0U (l : List Value) (H : Heap) : aD Tryz.prog Tryz.f238 l H = some (.tuple #[]) := rfl
theorem c0E (l : List Value) (H : Heap) : aD Tryz.prog Tryz.f239 l H = some (get l 2) := rfl
theorem c1q (l : List Value) (H : Heap) : aD Tryz.prog Tryz.f265 l H = some (get l 4) := rfl
theorem b6e (l : List Value) (H : Heap) : aD Tryz.prog Tryz.f266 l H = some (get l 2) := rfl
theorem b5K (l : List Value) (H : Heap) : aD Tryz.prog Tryz.f267 l H = some (get l 4) := rfl
theorem c1M (l : List Value) (H : Heap) : aD Tryz.prog Tryz.f268 l H = some (get l 4) := rfl
theorem c2i (l : List Value) (H : Heap) : aD Tryz.prog Tryz.f278 l H = some (.tuple #[]) := rfl
theorem b5x (l : List Value) (H : Heap) : aD Tryz.prog Tryz.f295 l H = some (get l 4) := rfl
theorem a2Z : MapK Tryz.prog 188 Value.string (.bool false) := MapK.str (kt := 9) (et := 4) (by kernel_rfl) (by kernel_rfl) (by kernel_rfl) rfl
theorem a1U : MapK Tryz.prog 347 (fun p : Int × Int => .agg #[I p.1, I p.2]) (.bool false) := MapK.struct (kt := 23) (et := 4) (fs := (lO Tryz.prog 23).toArray) (by kernel_rfl) (by kernel_rfl) (by kernel_rfl) rfl (fun b k => by cases b <;> kernel_rfl) (fun a b => b6j (by kernel_rfl) (by kernel_rfl) (by kernel_rfl) (fun _ _ _ _ => by kernel_rfl) a b) (fun k => b6v k)
def TS :=
 And.intro (And.intro (And.intro (And.intro (And.intro (And.intro (And.intro (@tA3) (And.intro @tS3 @tA4)) (And.intro (And.intro @tS4 @tA5) (And.intro @tS5 @tA9))) (And.intro (And.intro (@tS9) (And.intro @c2V @kP)) (And.intro (And.intro @c2F @b3n) (And.intro @c3N @c2N)))) (And.intro (And.intro (And.intro (@c3I) (And.intro @c3c @c3Q)) (And.intro (And.intro @c3k @c4p) (And.intro @b4T @c3v))) (And.intro (And.intro (And.intro @c0l @c3t) (And.intro @b9L @c4g)) (And.intro (And.intro @b2w @c2L) (And.intro @fW @c4o))))) (And.intro (And.intro (And.intro (And.intro (@mV) (And.intro @c4H @b2L)) (And.intro (And.intro @c4w @eU) (And.intro @c2I @tF))) (And.intro (And.intro (And.intro @c3o @c1b) (And.intro @c4G @wY)) (And.intro (And.intro @c2X @sB) (And.intro @c4P @xD)))) (And.intro (And.intro (And.intro (@c4O) (And.intro @lN @c3C)) (And.intro (And.intro @c4n @c4m) (And.intro @a4Z @c3K))) (And.intro (And.intro (And.intro @b7z @c4N) (And.intro @b9A @c2O)) (And.intro (And.intro @kD @c0r) (And.intro @a6k @b9Y)))))) (And.intro (And.intro (And.intro (And.intro (And.intro (@c1J) (And.intro @c0Q @b1Y)) (And.intro (And.intro @c0a @c0B) (And.intro @b8R @a6T))) (And.intro (And.intro (@b9w) (And.intro @jF @b9l)) (And.intro (And.intro @b9k @c0g) (And.intro @b1F @c2m)))) (And.intro (And.intro (And.intro (@a9N) (And.intro @c0k @a6O)) (And.intro (And.intro @c1p @nP) (And.intro @b9Q @sJ))) (And.intro (And.intro (And.intro @c2e @c2w) (And.intro @c2n @a6C)) (And.intro (And.intro @b9Z @a9u) (And.intro @b6P @c4B))))) (And.intro (And.intro (And.intro (And.intro (@c3T) (And.intro @c3D @c2D)) (And.intro (And.intro @c4f @c3x) (And.intro @c3j @c4u))) (And.intro (And.intro (And.intro @c3z @c4C) (And.intro @c4r @c2f)) (And.intro (And.intro @b8Y @c0A) (And.intro @c0d @c2t)))) (And.intro (And.intro (And.intro (@c1V) (And.intro @b9M @c0D)) (And.intro (And.intro @c0T @c3H) (And.intro @b9P @b9X))) (And.intro (And.intro (And.intro @c4a @c2W) (And.intro @c2E @c3y)) (And.intro (And.intro @c3a @c3L) (And.intro @c4k @c2J))))))) (And.intro (And.intro (And.intro (And.intro (And.intro (And.intro (@c4y) (And.intro @c2v @c0c)) (And.intro (And.intro @c2d @c1l) (And.intro @c0V @b9i))) (And.intro (And.intro (@b9I) (And.intro @c1P @tL9)) (And.intro (And.intro @tT9 @b6l) (And.intro @b7n @b6Q)))) (And.intro (And.intro (And.intro (@b8r) (And.intro @b7D @b6Z)) (And.intro (And.intro @b7E @b7G) (And.intro @b8x @b8i))) (And.intro (And.intro (And.intro @b7I @b7e) (And.intro @b7k @b7w)) (And.intro (And.intro @b8u @b8q) (And.intro @b8o @b7L))))) (And.intro (And.intro (And.intro (And.intro (@b8b) (And.intro @b7q @b6O)) (And.intro (And.intro @b6S @b6T) (And.intro @b6M @b7m))) (And.intro (And.intro (And.intro @b6u @b7X) (And.intro @b8e @b6x)) (And.intro (And.intro @b3Z @b5n) (And.intro @b4L @b4l)))) (And.intro (And.intro (And.intro (@b3Y) (And.intro @b3N @b3j)) (And.intro (And.intro @b3y @b3r) (And.intro @b3K @b4H))) (And.intro (And.intro (And.intro @b4c @b4w) (And.intro @b4V @b2H)) (And.intro (And.intro @b3v @b3q) (And.intro @b4q @b2P)))))) (And.intro (And.intro (And.intro (And.intro (And.intro (@b5c) (And.intro @b3E @b2G)) (And.intro (And.intro @b5m @b2s) (And.intro @b5q @b4O))) (And.intro (And.intro (@b3m) (And.intro @b3c @b4I)) (And.intro (And.intro @b3p @b2A) (And.intro @c3G @c3E)))) (And.intro (And.intro (And.intro (@c3w) (And.intro @c3m @c3A)) (And.intro (And.intro @c3q @c4J) (And.intro @c4t @c3X))) (And.intro (And.intro (And.intro @c3g @c4x) (And.intro @c3F @c4q)) (And.intro (And.intro @c4z @c2M) (And.intro @c4A @c2K))))) (And.intro (And.intro (And.intro (And.intro (@c3s) (And.intro @c4h @c3U)) (And.intro (And.intro @c0b @b9g) (And.intro @c1A @c0L))) (And.intro (And.intro (And.intro @c1f @b9b) (And.intro @c2o @b9T)) (And.intro (And.intro @c1d @c1Z) (And.intro @b8S @b8K)))) (And.intro (And.intro (And.intro (@c1W) (And.intro @b8V @tI3)) (And.intro (And.intro @tI5 @c4L) (And.intro @c0Z @c0v))) (And.intro (And.intro (And.intro @c1Q @c2b) (And.intro @c0e @b9o)) (And.intro (And.intro @c1Y @c0j) (And.intro @b6H @b6F)))))))
def RZ := And.intro @RB (And.intro @RC @TS)
end Go.Ds
namespace Go.Ds
open Go.Proofs
variable {P : Program} {H : Heap}
structure Drw where
 rank : Int
 shift : Int
 deriving DecidableEq, Inhabited
structure Seg where
 lo : Int
 hi : Int
 dv : Value
 draws : List Drw
 deriving Inhabited
structure Stp where
 name : ByteArray
 num : Int
 den : Int
 gv : Value
 segs : List Seg
 deriving Inhabited
structure Dvn where
 name : ByteArray
 pedal : Bool
 lo : Int
 hi : Int
 sv : Value
 stops : List Stp
 deriving Inhabited
structure Rk where
 name : ByteArray
 tone : ByteArray
 num : Int
 den : Int
 first : Int
 wv : Value
 wind : List Int
 deriving Inhabited
structure Cpl where
 name : ByteArray
 src : Int
 dst : Int
 shift : Int
 thr : Bool
 deriving Inhabited
structure Org where
 name : ByteArray
 rv : Value
 ranks : List Rk
 dv : Value
 dvs : List Dvn
 cv : Value
 cpls : List Cpl
 deriving Inhabited
def Drw.cells (d : Drw) : List Value := [I d.rank, I d.shift]
def Seg.cells (s : Seg) : List Value := [I s.lo, I s.hi, s.dv]
def Stp.cells (s : Stp) : List Value := [.string s.name, I s.num, I s.den, s.gv]
def Dvn.cells (d : Dvn) : List Value := [.string d.name, .bool d.pedal, I d.lo, I d.hi, d.sv]
def Rk.cells (r : Rk) : List Value := [.string r.name, .string r.tone, I r.num, I r.den, I r.first, r.wv]
def Cpl.cells (c : Cpl) : List Value := [.string c.name, I c.src, I c.dst, I c.shift, .bool c.thr]
def Org.cells (o : Org) : List Value := [.string o.name, o.rv, o.dv, o.cv]
def Seg.In (H : Heap) (s : Seg) : Prop := Sl 2 Drw.cells H s.dv s.draws ∧ s.draws.length < 1000000000
def Stp.In (H : Heap) (s : Stp) : Prop := Sl 3 Seg.cells H s.gv s.segs ∧ (∀ g ∈ s.segs, g.In H) ∧ s.segs.length < 1000000000
def Dvn.In (H : Heap) (d : Dvn) : Prop := Sl 4 Stp.cells H d.sv d.stops ∧ (∀ s ∈ d.stops, s.In H) ∧ d.stops.length < 1000000000
def Rk.In (H : Heap) (r : Rk) : Prop := Sl 1 (one I) H r.wv r.wind ∧ r.wind.length < 1000000000
def Org.In (H : Heap) (o : Org) : Prop := Sl 6 Rk.cells H o.rv o.ranks ∧ (∀ r ∈ o.ranks, r.In H) ∧ Sl 5 Dvn.cells H o.dv o.dvs ∧ (∀ d ∈ o.dvs, d.In H) ∧ Sl 5 Cpl.cells H o.cv o.cpls ∧ o.ranks.length < 1000000000 ∧ o.dvs.length < 1000000000 ∧ o.cpls.length < 1000000000
section
variable {H0 : Heap} {os : List Ob}
theorem Seg.In.keep {s : Seg} (h : s.In H0) (hS : St P H0 H os) : s.In H := ⟨hS.sl h.1, h.2⟩
theorem Stp.In.keep {s : Stp} (h : s.In H0) (hS : St P H0 H os) : s.In H := ⟨hS.sl h.1, fun g hg => (h.2.1 g hg).keep hS, h.2.2⟩
theorem Dvn.In.keep {d : Dvn} (h : d.In H0) (hS : St P H0 H os) : d.In H := ⟨hS.sl h.1, fun g hg => (h.2.1 g hg).keep hS, h.2.2⟩
theorem Rk.In.keep {r : Rk} (h : r.In H0) (hS : St P H0 H os) : r.In H := ⟨hS.sl h.1, h.2⟩
theorem Org.In.keep {o : Org} (h : o.In H0) (hS : St P H0 H os) : o.In H := ⟨hS.sl h.1, fun r hr => (h.2.1 r hr).keep hS, hS.sl h.2.2.1, fun d hd => (h.2.2.2.1 d hd).keep hS, hS.sl h.2.2.2.2.1, h.2.2.2.2.2⟩
end
def c0G (n : Int) : Prop := -9223372036854775808 ≤ n ∧ n < 9223372036854775808
end Go.Ds
namespace Go.Ds
open Go.Proofs
variable {H : Heap}
def iC (b : Int) : Bool := (decide (65 ≤ b) && decide (b ≤ 90)) || (decide (97 ≤ b) && decide (b ≤ 122))
theorem xW (b : Int) : Fn Tryz.prog 158 [.int .u8 b] H fun r H' => r = .bool (iC b) ∧ St Tryz.prog H H' [] := by
 refine Fn.of_sw Tryz.func158 rfl (by kernel_rfl) fun l hl => ?_
 have hn : l.length = 17 := by rw [hl]; rfl
 have g0 : get l 0 = (.int .u8 b) := by rw [hl]; rfl
 clear hl
 simp (disch := omega) only [↓RA, RZ, simprocAttr, hn, g0]
 refine cK (fun h1 => ?_) (fun h1 => ?_)
 ·simp (disch := omega) only [↓RA, RZ, simprocAttr, hn, g0, h1]
  refine aL (fun h2 => ?_) (fun h2 => ?_)
  ·simp (disch := omega) only [↓RA, RZ, simprocAttr, hn, a1S, h1, h2]
   first | exact (St.refl Tryz.prog H) | exact ⟨by simp [iC, h1, h2], (St.refl Tryz.prog H)⟩
  simp (disch := omega) only [↓RA, RZ, simprocAttr, hn, g0, h1, h2]
  refine cK (fun h3 => ?_) (fun h3 => ?_)
  ·simp (disch := omega) only [↓RA, RZ, simprocAttr, hn, g0, a1S, h1, h2, h3]
   first | exact (St.refl Tryz.prog H) | exact ⟨by simp [iC, h1, h2, h3], (St.refl Tryz.prog H)⟩
  simp (disch := omega) only [↓RA, RZ, simprocAttr, hn, a1S, h1, h2, h3]
  first | exact (St.refl Tryz.prog H) | exact ⟨by simp [iC, h1, h2, h3], (St.refl Tryz.prog H)⟩
 simp (disch := omega) only [↓RA, RZ, simprocAttr, hn, g0, h1]
 refine cK (fun h4 => ?_) (fun h4 => ?_)
 ·simp (disch := omega) only [↓RA, RZ, simprocAttr, hn, g0, a1S, h1, h4]
  first | exact (St.refl Tryz.prog H) | exact ⟨by simp [iC, h1, h4], (St.refl Tryz.prog H)⟩
 simp (disch := omega) only [↓RA, RZ, simprocAttr, hn, a1S, h1, h4]
 first | exact (St.refl Tryz.prog H) | exact ⟨by simp [iC, h1, h4], (St.refl Tryz.prog H)⟩
theorem b1s (b : Int) : Fn Tryz.prog 160 [I b] H fun r H' => r = .bool (decide (-256 ≤ b) && decide (b ≤ 256)) ∧ St Tryz.prog H H' [] := by
 refine Fn.of_sw Tryz.func160 rfl (by kernel_rfl) fun l hl => ?_
 have hn : l.length = 9 := by rw [hl]; rfl
 have g0 : get l 0 = I b := by rw [hl]; rfl
 clear hl
 simp (disch := omega) only [↓RA, RZ, simprocAttr, hn, g0]
 refine cK (fun h1 => ?_) (fun h1 => ?_)
 ·simp (disch := omega) only [↓RA, RZ, simprocAttr, hn, g0, b5C, h1]
  first | exact (St.refl Tryz.prog H) | exact ⟨by simp [h1], (St.refl Tryz.prog H)⟩
 simp (disch := omega) only [↓RA, RZ, simprocAttr, hn, b5C, h1]
 first | exact (St.refl Tryz.prog H) | exact ⟨by simp [], (St.refl Tryz.prog H)⟩
theorem b1y (b : Int) : Fn Tryz.prog 221 [I b] H fun r H' => r = .bool (decide (b < 0) || decide (1000000 < b)) ∧ St Tryz.prog H H' [] := by
 refine Fn.of_sw Tryz.func221 rfl (by kernel_rfl) fun l hl => ?_
 have hn : l.length = 9 := by rw [hl]; rfl
 have g0 : get l 0 = I b := by rw [hl]; rfl
 clear hl
 simp (disch := omega) only [↓RA, RZ, simprocAttr, hn, g0]
 refine aL (fun h1 => ?_) (fun h1 => ?_)
 ·simp (disch := omega) only [↓RA, RZ, simprocAttr, hn, b5H, h1]
  first | exact (St.refl Tryz.prog H) | exact ⟨by simp [], (St.refl Tryz.prog H)⟩
 simp (disch := omega) only [↓RA, RZ, simprocAttr, hn, g0, b5H, h1]
 first | exact (St.refl Tryz.prog H) | exact ⟨by simp [], (St.refl Tryz.prog H)⟩
end Go.Ds
namespace Go.Ds
open Go.Proofs
variable {H : Heap}
theorem a0Z (n : Int) (h : -9223372036854775808 ≤ n) (h0 : n < 0) : IntKind.wrap .u64 (0 - IntKind.wrap .u64 n) = n.natAbs := by
 have e : ∀ m : Int, IntKind.wrap .u64 m = m % 18446744073709551616 := fun m => by
  show (if (false && decide (m % 18446744073709551616 ≥ 9223372036854775808)) = true then m % 18446744073709551616 - 18446744073709551616 else m % 18446744073709551616) = _
  simp
 rw [e, e]
 omega
theorem a0C (n : Int) (hn0 : c0G n) : Fn Tryz.prog 266 [I n] H fun r H' => r = .int .u64 n.natAbs ∧ St Tryz.prog H H' [] := by
 refine Fn.of_sw Tryz.func266 rfl (by kernel_rfl) fun l hl => ?_
 have hn : l.length = 10 := by rw [hl]; rfl
 have g0 : get l 0 = I n := by rw [hl]; rfl
 clear hl
 simp (disch := omega) only [↓RA, RB, simprocAttr, hn, g0]
 refine aA (fun h => ?_) (fun h => ?_)
 ·simp (disch := omega) only [↓RA, RZ, simprocAttr, hn, g0, b6e, h]
  exact ⟨by rw [a0Z n hn0.1 h], (St.refl Tryz.prog H)⟩
 simp (disch := omega) only [↓RA, RZ, simprocAttr, hn, g0, b6e, h]
 refine ⟨?_, (St.refl Tryz.prog H)⟩
 have := hn0.2
 rw [gR n (by omega) (by omega)]
 congr 1
 omega
theorem b6y (a b : Nat) (ha : a < 18446744073709551616) (hb : b < 18446744073709551616) : Fn Tryz.prog 265 [.int .u64 a, .int .u64 b] H fun r H' => r = .int .u64 (Nat.gcd a b) ∧ St Tryz.prog H H' [] := by
 refine Fn.of_sw Tryz.func265 rfl (by kernel_rfl) fun l hl => ?_
 have hn : l.length = 12 := by rw [hl]; rfl
 have g0 : get l 0 = (.int .u64 a) := by rw [hl]; rfl
 have g1 : get l 1 = (.int .u64 b) := by rw [hl]; rfl
 clear hl
 simp (disch := omega) only [↓RA, RB, simprocAttr]
 refine Wp.loopS (fun n l H' => l.length = 12 ∧ get l 4 = (.int .u64 0) ∧ ∃ (x y : Nat), (n = y ∧ x < 18446744073709551616 ∧ y < 18446744073709551616 ∧ Nat.gcd a b = Nat.gcd x y) ∧ get l 0 = (.int .u64 x) ∧ get l 1 = (.int .u64 y) ∧ St Tryz.prog H H' []) b ?_ ?_
 ·simp (disch := omega) only [RB, RC, simprocAttr, hn, g0, g1]
  exact ⟨a, b, ⟨rfl, ha, hb, rfl⟩, rfl, rfl, (St.refl Tryz.prog H)⟩
 rintro n l H1 ⟨hn, g4, x, y, ⟨hy,hx1,hy1,hg⟩, g0, g1, hS1⟩
 simp (disch := omega) only [↓RA, RB, simprocAttr, hn, g1]
 refine aA (fun h => ?_) (fun h => ?_)
 ·simp (disch := omega) only [↓RA, RC, simprocAttr, h]
  refine Wp.drw cD (by kernel_rfl) ?_
  simp (disch := omega) only [↓RA, RZ, simprocAttr, hn, g4, g0, g1]
  refine ⟨x % y, ?_, y, x % y, ⟨rfl, hy1, ?_, ?_⟩, rfl, ?_, hS1⟩
  ·rw [hy]; exact Nat.mod_lt _ (by omega)
  ·exact Nat.lt_of_lt_of_le (Nat.mod_lt _ (by omega)) (by omega)
  ·rw [hg, Nat.gcd_comm x y, Nat.gcd_rec]
   exact Nat.gcd_comm _ _
  ·rw [Int.ofNat_tmod]
 simp (disch := omega) only [↓RA, RZ, simprocAttr, hn, g0, c1q, h]
 have h0 : y = 0 := by omega
 subst h0
 exact ⟨by rw [hg, Nat.gcd_zero_right], hS1⟩
end Go.Ds
namespace Go.Ds
open Go.Proofs
variable {H : Heap}
theorem b4m (a b : Int) (ha0 : 0 ≤ a) (ha : a < 18446744073709551616) (hb0 : 0 ≤ b) (hb : b < 18446744073709551616) : Fn Tryz.prog 265 [.int .u64 a, .int .u64 b] H fun r H' => r = .int .u64 (Nat.gcd a.toNat b.toNat) ∧ St Tryz.prog H H' [] := by
 have := b6y (H := H) a.toNat b.toNat (by omega) (by omega)
 rwa [Int.toNat_of_nonneg ha0, Int.toNat_of_nonneg hb0] at this
def nQ (num den : Int) : Int := if 0 < den ∧ den ≤ 1000000 ∧ -1000000 ≤ num ∧ num ≤ 1000000 ∧ Nat.gcd num.natAbs den.toNat = 1 then 0 else 2
theorem b3s (num den : Int) : Fn Tryz.prog 219 [.agg #[I num, I den]] H fun r H' => r = I (nQ num den) ∧ St Tryz.prog H H' [] := by
 refine Fn.of_sw Tryz.func219 rfl (by kernel_rfl) fun l hl => ?_
 have hn : l.length = 31 := by rw [hl]; rfl
 have g0 : get l 0 = (.agg #[I num, I den]) := by rw [hl]; rfl
 clear hl
 simp (disch := omega) only [↓RA, RB, simprocAttr, g0]
 refine (St.refl Tryz.prog H).eNew 2 [I num, I den] rfl rfl rfl sB fun A1 H1 hS1 => ?_
 simp only [RT] at hS1
 simp (disch := omega) only [↓RA, RB, simprocAttr]
 refine Wp.drwT cD [(23, 0), (24, 0)] (by kernel_rfl) (by kernel_rfl) ?_
 simp (disch := omega) only [↓RA, RZ, simprocAttr, hn, hS1.ld 0 rfl]
 refine aL (fun h1 => ?_) (fun h1 => ?_)
 ·simp (disch := omega) only [↓RA, RZ, simprocAttr, hn, yB, h1]
  refine ⟨?_, hS1.forget⟩; unfold nQ; (repeat' split); all_goals first | rfl | omega
 simp (disch := omega) only [↓RA, RZ, simprocAttr, hn, hS1.ld 0 rfl, h1]
 refine aL (fun h2 => ?_) (fun h2 => ?_)
 ·simp (disch := omega) only [↓RA, RZ, simprocAttr, hn, yB, h1, h2]
  refine ⟨?_, hS1.forget⟩; unfold nQ; (repeat' split); all_goals first | rfl | omega
 simp (disch := omega) only [↓RA, RZ, simprocAttr, hn, hS1.ld 0 rfl, h1, h2]
 refine aL (fun h3 => ?_) (fun h3 => ?_)
 ·simp (disch := omega) only [↓RA, RZ, simprocAttr, hn, yB, h1, h2, h3]
  refine ⟨?_, hS1.forget⟩; unfold nQ; (repeat' split); all_goals first | rfl | omega
 simp (disch := omega) only [↓RA, RZ, simprocAttr, hn, hS1.ld 0 rfl, h1, h2, h3]
 refine aL (fun h4 => ?_) (fun h4 => ?_)
 ·simp (disch := omega) only [↓RA, RZ, simprocAttr, hn, yB, h1, h2, h3, h4]
  refine ⟨?_, hS1.forget⟩; unfold nQ; (repeat' split); all_goals first | rfl | omega
 simp (disch := omega) only [↓RA, RZ, simprocAttr, hn, hS1.ld 0 rfl, h1, h2, h3, h4]
 refine aB (a0C num ⟨by omega, by omega⟩) ?_
 rintro r H2 ⟨rfl, hT1⟩
 have hS2 := hS1.trans hT1
 simp only [RT] at hS2
 simp (disch := omega) only [↓RA, RZ, simprocAttr, hn, hS2.ld 0 rfl, h1, h2, h3, h4]
 refine aB (b4m _ _ (by omega) (by omega) (by omega) (by omega)) ?_
 rintro r H3 ⟨rfl, hT2⟩
 have hS3 := hS2.trans hT2
 simp only [RT] at hS3
 simp (disch := omega) only [↓RA, RZ, simprocAttr, hn, hS1.ld 0 rfl, h1, h2, h3, h4]
 refine aA (fun h5 => ?_) (fun h5 => ?_)
 ·simp (disch := omega) only [↓RA, RZ, simprocAttr, hn, yB, h1, h2, h3, h4, h5]
  refine ⟨?_, hS3.forget⟩; unfold nQ; (repeat' split); all_goals first | rfl | omega
 simp (disch := omega) only [↓RA, RZ, simprocAttr, hn, yB, h1, h2, h3, h4, h5]
 refine ⟨?_, hS3.forget⟩; unfold nQ; (repeat' split); all_goals first | rfl | omega
def fU (num den : Int) : Int := if nQ num den ≠ 0 then 2 else if num ≤ 0 ∨ 128 * den < num then 3 else if 128 < den then 4 else 0
theorem b1p {num den : Int} (h : nQ num den = 0) : 0 < den ∧ den ≤ 1000000 ∧ -1000000 ≤ num ∧ num ≤ 1000000 ∧ Nat.gcd num.natAbs den.toNat = 1 := by
 unfold nQ at h
 split at h
 ·assumption
 ·cases h
theorem tP (num den : Int) : Fn Tryz.prog 159 [.agg #[I num, I den]] H fun r H' => r = I (fU num den) ∧ St Tryz.prog H H' [] := by
 refine Fn.of_sw Tryz.func159 rfl (by kernel_rfl) fun l hl => ?_
 have hn : l.length = 23 := by rw [hl]; rfl
 have g0 : get l 0 = (.agg #[I num, I den]) := by rw [hl]; rfl
 clear hl
 simp (disch := omega) only [↓RA, RB, simprocAttr, g0]
 refine (St.refl Tryz.prog H).eNew 2 [I num, I den] rfl rfl rfl sB fun A1 H1 hS1 => ?_
 simp only [RT] at hS1
 simp (disch := omega) only [↓RA, RZ, simprocAttr, hn, hS1.ldA 0 rfl]
 refine aB (b3s num den) ?_
 rintro r H2 ⟨rfl, hT1⟩
 have hS2 := hS1.trans hT1
 simp only [RT] at hS2
 simp (disch := omega) only [↓RA, RB, simprocAttr, hn]
 refine aA (fun h => ?_) (fun h => ?_)
 ·simp (disch := omega) only [↓RA, RZ, simprocAttr, hn, a2M, h]
  exact ⟨by rw [fU, if_pos h], hS2.forget⟩
 have hf := b1p (Classical.not_not.1 h)
 simp (disch := omega) only [↓RA, RZ, simprocAttr, hn, hS2.ld 0 rfl, h]
 refine aL (fun h1 => ?_) (fun h1 => ?_)
 ·simp (disch := omega) only [↓RA, RZ, simprocAttr, hn, a2M, h, h1]
  refine ⟨?_, hS2.forget⟩; unfold fU; (repeat' split); all_goals first | rfl | omega
 simp (disch := omega) only [↓RA, RZ, simprocAttr, hn, hS2.ld 0 rfl, h, h1]
 refine aA (fun h2 => ?_) (fun h2 => ?_)
 ·simp (disch := omega) only [↓RA, RZ, simprocAttr, hn, a2M, h, h1, h2]
  refine ⟨?_, hS2.forget⟩; unfold fU; (repeat' split); all_goals first | rfl | omega
 simp (disch := omega) only [↓RA, RZ, simprocAttr, hn, hS2.ld 0 rfl, h, h1, h2]
 refine aA (fun h3 => ?_) (fun h3 => ?_)
 ·simp (disch := omega) only [↓RA, RZ, simprocAttr, hn, a2M, h, h1, h2, h3]
  refine ⟨?_, hS2.forget⟩; unfold fU; (repeat' split); all_goals first | rfl | omega
 simp (disch := omega) only [↓RA, RZ, simprocAttr, hn, a2M, h, h1, h2, h3]
 refine ⟨?_, hS2.forget⟩; unfold fU; (repeat' split); all_goals first | rfl | omega
end Go.Ds
namespace Go.Ds
open Go.Proofs
variable {H : Heap}
def jM (p : Nat → Bool) (n : Nat) : Int := match (List.range n).find? p with | some j => j | none => -1
theorem nU (p : Nat → Bool) (n i : Nat) (hi : i < n) (hp : p i = true) (h0 : ∀ j, j < i → p j = false) : (List.range n).find? p = some i := by
 rw [List.find?_eq_some_iff_getElem]
 refine ⟨hp, i, by simpa using hi, by simp, fun j hj => by simp [h0 j hj]⟩
theorem tS (p : Nat → Bool) (n i : Nat) (hi : i < n) (hp : p i = true) (h0 : ∀ j, j < i → p j = false) : jM p n = i := by
 unfold jM
 rw [nU p n i hi hp h0]
theorem tQ (p : Nat → Bool) (n : Nat) (h0 : ∀ j, j < n → p j = false) : jM p n = -1 := by
 unfold jM
 have : (List.range n).find? p = none := by
  rw [List.find?_eq_none]
  intro j hj
  simp [h0 j (List.mem_range.1 hj)]
 rw [this]
theorem a0K (p : Nat → Bool) (n : Nat) : (0 ≤ jM p n) ↔ ∃ j, j < n ∧ p j = true := by
 unfold jM
 cases h : (List.range n).find? p with
 | none =>
   rw [List.find?_eq_none] at h
   simp only [List.mem_range] at h
   constructor
   ·intro hh; exact absurd hh (by decide)
   ·rintro ⟨j, hj, hp⟩; exact absurd hp (h j hj)
 | some j =>
   constructor
   ·intro _
    exact ⟨j, List.mem_range.1 (List.mem_of_find?_eq_some h), List.find?_some h⟩
   ·intro _; show (0 : Int) ≤ (j : Int); omega
theorem b3u (v : Value) (xs : List Int) (hv : Sl 1 (one I) H v xs) (hl : xs.length < 1000000000) (k : FuncId) (caps : List Value) (p : Nat → Bool)
 (hf : ∀ j H1, j < xs.length → St Tryz.prog H H1 [] → Fn Tryz.prog k (I (aC xs j) :: caps) H1 fun r H2 => r = .bool (p j) ∧ St Tryz.prog H1 H2 []) :
 Fn Tryz.prog 267 [v, .func (.func k) #[] caps.toArray] H fun r H' => r = I (jM p xs.length) ∧ St Tryz.prog H H' [] := by
 refine Fn.of_sw Tryz.func267 rfl (by kernel_rfl) fun l hl => ?_
 have hn : l.length = 19 := by rw [hl]; rfl
 have g0 : get l 0 = v := by rw [hl]; rfl
 have g1 : get l 1 = .func (.func k) #[] caps.toArray := by rw [hl]; rfl
 clear hl
 simp (disch := omega) only [↓RA, RZ, simprocAttr, hn, g0, ((St.refl Tryz.prog H).sl hv).len]
 refine Wp.loopS (fun n l H' => l.length = 19 ∧ get l 0 = v ∧ get l 1 = .func (.func k) #[] caps.toArray ∧ get l 7 = I xs.length ∧ ∃ (j : Nat), (n + j = xs.length ∧ ∀ q, q < j → p q = false) ∧ get l 8 = I j ∧ St Tryz.prog H H' []) xs.length ?_ ?_
 ·simp (disch := omega) only [RB, RC, simprocAttr, hn, g0, g1]
  exact ⟨0, ⟨by omega, fun q hq => absurd hq (Nat.not_lt_zero _)⟩, rfl, (St.refl Tryz.prog H)⟩
 rintro n l H1 ⟨hn, g0, g1, g7, j, ⟨hi,h0⟩, g8, hS1⟩
 simp (disch := omega) only [↓RA, RB, simprocAttr, hn, g7, g8]
 refine aA (fun h => ?_) (fun h => ?_)
 ·simp (disch := omega) only [↓RA, RZ, simprocAttr, hn, g0, g1, g8, (hS1.sl hv).idx, (hS1.sl hv).ld, one, h]
  refine aB (hf j _ (by omega) hS1) ?_
  rintro r H2 ⟨rfl, hT1⟩
  have hS2 := hS1.trans hT1
  simp only [RT] at hS2
  simp (disch := omega) only [↓RA, RZ, simprocAttr, hn, h]
  refine bU (fun hp => ?_) (fun hp => ?_)
  ·simp (disch := omega) only [↓RA, RZ, simprocAttr, hn, b5K, h, hp]
   exact ⟨by rw [tS p xs.length j (by omega) hp h0], hS2⟩
  simp (disch := omega) only [↓RA, RZ, simprocAttr, hn, g0, g1, g7, g8, h, hp]
  exact ⟨n - 1, by omega, j + 1, ⟨by omega, fun q hq => by rcases Nat.lt_succ_iff_lt_or_eq.1 hq with e | e; (· exact h0 q e); (· rw [e]; exact hp)⟩, by simp, hS2⟩
 simp (disch := omega) only [↓RA, RZ, simprocAttr, hn, b5K, h]
 exact ⟨by rw [tQ p xs.length fun q hq => h0 q (by omega)], hS1⟩
theorem b3g (v : Value) (xs : List Int) (hv : Sl 1 (one I) H v xs) (hl : xs.length < 1000000000) (k : FuncId) (caps : List Value) (p : Nat → Bool)
 (hf : ∀ j H1, j < xs.length → St Tryz.prog H H1 [] → Fn Tryz.prog k (I (aC xs j) :: caps) H1 fun r H2 => r = .bool (p j) ∧ St Tryz.prog H1 H2 []) :
 Fn Tryz.prog 220 [v, .func (.func k) #[] caps.toArray] H fun r H' => r = .bool (decide (0 ≤ jM p xs.length)) ∧ St Tryz.prog H H' [] := by
 refine Fn.of_sw Tryz.func220 rfl (by kernel_rfl) fun l hl => ?_
 have hn : l.length = 9 := by rw [hl]; rfl
 have g0 : get l 0 = v := by rw [hl]; rfl
 have g1 : get l 1 = .func (.func k) #[] caps.toArray := by rw [hl]; rfl
 clear hl
 simp (disch := omega) only [↓RA, RZ, simprocAttr, hn, g0, g1]
 refine aB (b3u v xs hv hl k caps p hf) ?_
 rintro r H1 ⟨rfl, hT1⟩
 have hS1 := (St.refl Tryz.prog H).trans hT1
 simp only [RT] at hS1
 simp (disch := omega) only [↓RA, RZ, simprocAttr, hn, b9K]
 first | exact hS1 | exact ⟨rfl, hS1⟩
def qU (xs : List Int) : Int := if xs.any fun w => decide (w < 0) || decide (1000000 < w) then 3 else 0
theorem b0Z (v : Value) (xs : List Int) (hv : Sl 1 (one I) H v xs) (hl : xs.length < 1000000000) : Fn Tryz.prog 161 [v] H fun r H' => r = I (qU xs) ∧ St Tryz.prog H H' [] := by
 have key : (0 ≤ jM (fun j => decide (aC xs j < 0) || decide (1000000 < aC xs j)) xs.length) ↔ (xs.any fun w => decide (w < 0) || decide (1000000 < w)) = true := by
  rw [a0K, List.any_eq_true]
  constructor
  ·rintro ⟨j, hj, hp⟩; exact ⟨_, aF hj, hp⟩
  ·rintro ⟨x, hx, hp⟩
   obtain ⟨j, hj, rfl⟩ := List.mem_iff_getElem.1 hx
   exact ⟨j, hj, by rw [bV xs j hj]; exact hp⟩
 refine Fn.of_sw Tryz.func161 rfl (by kernel_rfl) fun l hl => ?_
 have hn : l.length = 5 := by rw [hl]; rfl
 have g0 : get l 0 = v := by rw [hl]; rfl
 clear hl
 simp (disch := omega) only [↓RA, RZ, simprocAttr, hn, g0]
 refine aB (b3g v xs hv hl 221 [] _ (fun j H1 hj hS => b1y (aC xs j))) ?_
 rintro r H1 ⟨rfl, hT1⟩
 have hS1 := (St.refl Tryz.prog H).trans hT1
 simp only [RT] at hS1
 simp (disch := omega) only [↓RA, RB, simprocAttr, hn]
 refine aA (fun h => ?_) (fun h => ?_)
 ·simp (disch := omega) only [↓RA, RZ, simprocAttr, hn, b5D, h]
  exact ⟨by rw [qU, if_pos (key.1 h)], hS1⟩
 simp (disch := omega) only [↓RA, RZ, simprocAttr, hn, b5D, h]
 exact ⟨by rw [qU, if_neg (fun hh => h (key.2 hh))], hS1⟩
end Go.Ds
namespace Go.Ds
open Go.Proofs
variable {H : Heap}
def ncF (b : Int) : Bool := iC b || (decide (48 ≤ b) && decide (b ≤ 57)) || decide (b = 95)
def cP (s : ByteArray) : Bool := decide (0 < s.size) && decide (s.size ≤ 32) && iC (fR s 0) && (List.range (s.size - 1)).all fun j => ncF (fR s (j + 1))
theorem b9q (s z : ByteArray) (hz : z.size = 0) : s = z ↔ s.size = 0 := ⟨fun h => by rw [h, hz], fun h => by
 apply sN
 have h1 : s.data.toList = [] := List.eq_nil_of_length_eq_zero (by simpa using h)
 have h2 : z.data.toList = [] := List.eq_nil_of_length_eq_zero (by simpa using hz)
 rw [h1, h2]⟩
theorem iM (s : ByteArray) : Fn Tryz.prog 91 [.string s] H fun r H' => r = .bool (cP s) ∧ St Tryz.prog H H' [] := by
 have hz := b9q s { data := #[] } rfl
 refine Fn.of_sw Tryz.func91 rfl (by kernel_rfl) fun l hl => ?_
 have hn : l.length = 42 := by rw [hl]; rfl
 have g0 : get l 0 = (.string s) := by rw [hl]; rfl
 clear hl
 simp (disch := omega) only [↓RA, RZ, simprocAttr, hn, g0, hz]
 refine aL (fun h1 => ?_) (fun h1 => ?_)
 ·simp (disch := omega) only [↓RA, RZ, simprocAttr, hn, a7P, h1]
  first | exact (St.refl Tryz.prog H) | exact ⟨by simp [cP, h1], (St.refl Tryz.prog H)⟩
 simp (disch := omega) only [↓RA, RZ, simprocAttr, hn, g0, h1]
 refine aL (fun h2 => ?_) (fun h2 => ?_)
 ·simp (disch := omega) only [↓RA, RZ, simprocAttr, hn, a7P, h1, h2]
  first | exact (St.refl Tryz.prog H) | exact ⟨by simp [cP, show ¬ s.size ≤ 32 by omega], (St.refl Tryz.prog H)⟩
 simp (disch := omega) only [↓RA, RZ, simprocAttr, hn, g0, h1, h2]
 refine aB (xW _) ?_
 rintro r H1 ⟨rfl, hT1⟩
 have hS1 := (St.refl Tryz.prog H).trans hT1
 simp only [RT] at hS1
 simp (disch := omega) only [↓RA, RZ, simprocAttr, hn, h1, h2]
 refine bU (fun h3 => ?_) (fun h3 => ?_)
 ·simp (disch := omega) only [↓RA, RZ, simprocAttr, hn, a7P, h1, h2, h3]
  first | exact hS1 | exact ⟨by simp at h3; simp [cP, h3], hS1⟩
 simp (disch := omega) only [↓RA, RZ, simprocAttr, h1, h2, h3]
 have h4 : iC (fR s 0) = true := by simpa using h3
 have hA : cP s = (List.range (s.size - 1)).all fun j => ncF (fR s (j + 1)) := by simp [cP, h4, show 0 < s.size by omega, show s.size ≤ 32 by omega]
 refine Wp.loopS (fun n l H' => l.length = 42 ∧ get l 0 = (.string s) ∧ ∃ (i : Nat), (n + i = s.size ∧ 1 ≤ i ∧ ∀ j, 1 ≤ j → j < i → ncF (fR s j) = true) ∧ get l 3 = I i ∧ St Tryz.prog H H' []) (s.size - 1) ?_ ?_
 ·simp (disch := omega) only [RB, RC, simprocAttr, hn, g0]
  exact ⟨1, ⟨by omega, by omega, fun j h1 h2 => by omega⟩, rfl, hS1⟩
 rintro n l H2 ⟨hn, g0, i, ⟨hi,hi1,h0⟩, g3, hS2⟩
 simp (disch := omega) only [↓RA, RZ, simprocAttr, hn, g0, g3]
 refine aA (fun h5 => ?_) (fun h5 => ?_)
 ·simp (disch := omega) only [↓RA, RZ, simprocAttr, hn, g0, g3, h5]
  refine aB (xW _) ?_
  rintro r H3 ⟨rfl, hT2⟩
  have hS3 := hS2.trans hT2
  simp only [RT] at hS3
  have hF : ncF (fR s i) = false → cP s = false := fun hh => by
   rw [hA, List.all_eq_false]
   exact ⟨i - 1, List.mem_range.2 (by omega), by rw [show i - 1 + 1 = i by omega, hh]; simp⟩
  have hT : ncF (fR s i) = true → ∀ j, 1 ≤ j → j < i + 1 → ncF (fR s j) = true := fun hh j h1 h2 => by
   by_cases e : j = i
   ·rw [e]; exact hh
   ·exact h0 j h1 (by omega)
  simp (disch := omega) only [↓RA, RZ, simprocAttr, hn, h5]
  refine zE (fun h1 => ?_) (fun h1 => ?_)
  ·simp (disch := omega) only [↓RA, RZ, simprocAttr, hn, h5, h1]
   refine aL (fun h2 => ?_) (fun h2 => ?_)
   ·simp (disch := omega) only [↓RA, RZ, simprocAttr, hn, h5, h1, h2]
    refine aA (fun h3 => ?_) (fun h3 => ?_)
    ·simp (disch := omega) only [↓RA, RZ, simprocAttr, hn, a7P, h5, h1, h2, h3]
     exact ⟨by rw [hF (by simp_all [ncF] <;> omega)], hS3⟩
    simp (disch := omega) only [↓RA, RZ, simprocAttr, hn, g0, g3, h5, h1, h2, h3]
    exact ⟨n - 1, by omega, i + 1, ⟨by omega, by omega, hT (by simp_all [ncF] <;> omega)⟩, by simp, hS3⟩
   simp (disch := omega) only [↓RA, RZ, simprocAttr, hn, h5, h1, h2]
   refine cK (fun h4 => ?_) (fun h4 => ?_)
   ·simp (disch := omega) only [↓RA, RZ, simprocAttr, hn, h5, h1, h2, h4]
    refine aA (fun h5 => ?_) (fun h5 => ?_)
    ·simp (disch := omega) only [↓RA, RZ, simprocAttr, hn, a7P, h1, h2, h4, h5]
     exact ⟨by rw [hF (by simp_all [ncF] <;> omega)], hS3⟩
    simp (disch := omega) only [↓RA, RZ, simprocAttr, hn, g0, g3, h1, h2, h4, h5]
    exact ⟨n - 1, by omega, i + 1, ⟨by omega, by omega, hT (by simp_all [ncF] <;> omega)⟩, by simp, hS3⟩
   simp (disch := omega) only [↓RA, RZ, simprocAttr, hn, g0, g3, h5, h1, h2, h4]
   exact ⟨n - 1, by omega, i + 1, ⟨by omega, by omega, hT (by simp_all [ncF] <;> omega)⟩, by simp, hS3⟩
  simp (disch := omega) only [↓RA, RZ, simprocAttr, hn, g0, g3, h5, h1]
  exact ⟨n - 1, by omega, i + 1, ⟨by omega, by omega, hT (by simp_all [ncF] <;> omega)⟩, by simp, hS3⟩
 simp (disch := omega) only [↓RA, RZ, simprocAttr, hn, a7P, h5]
 refine ⟨?_, hS2⟩
 rw [hA]
 congr 1
 symm
 rw [List.all_eq_true]
 intro j hj
 exact h0 (j + 1) (by omega) (by have := List.mem_range.1 hj; omega)
end Go.Ds
namespace Go.Ds
open Go.Proofs
variable {H : Heap}
def rankE (r : Rk) : Int := if cP r.name = false ∨ cP r.tone = false then 8 else if fU r.num r.den ≠ 0 then fU r.num r.den else if ¬ (-256 ≤ r.first ∧ r.first ≤ 256) then 3 else if r.wind.length = 0 then 13 else if 128 < r.wind.length then 4 else qU r.wind
theorem a6w (r : Rk) (hr : r.In H) : Fn Tryz.prog 92 [.agg #[.string r.name, .string r.tone, I r.num, I r.den, I r.first, r.wv]] H fun v H' => v = I (rankE r) ∧ St Tryz.prog H H' [] := by
 have hl := hr.2
 refine Fn.of_sw Tryz.func92 rfl (by kernel_rfl) fun l hl => ?_
 have hn : l.length = 38 := by rw [hl]; rfl
 have g0 : get l 0 = (.agg #[(.string r.name), (.string r.tone), I r.num, I r.den, I r.first, r.wv]) := by rw [hl]; rfl
 clear hl
 simp (disch := omega) only [↓RA, RB, simprocAttr, g0]
 refine (St.refl Tryz.prog H).eNew 6 [(.string r.name), (.string r.tone), I r.num, I r.den, I r.first, r.wv] rfl rfl (by simp [OC, ((St.refl Tryz.prog H).sl hr.1).cells.2.1]) jF fun A1 H1 hS1 => ?_
 simp only [RT] at hS1
 simp (disch := omega) only [↓RA, RZ, simprocAttr, hn, hS1.ld 0 rfl]
 refine aB (iM _) ?_
 rintro r H2 ⟨rfl, hT1⟩
 have hS2 := hS1.trans hT1
 simp only [RT] at hS2
 simp (disch := omega) only [↓RA, RZ, simprocAttr, hn]
 refine zE (fun h1 => ?_) (fun h1 => ?_)
 ·simp (disch := omega) only [↓RA, RZ, simprocAttr, hn, a5x, h1]
  refine ⟨?_, hS2.forget⟩; clear hS1; unfold rankE; (try simp only [Bool.not_eq_true'] at *); (repeat' split); all_goals first | rfl | omega | simp_all
 simp (disch := omega) only [↓RA, RZ, simprocAttr, hn, hS2.ld 0 rfl, h1]
 refine aB (iM _) ?_
 rintro r H3 ⟨rfl, hT2⟩
 have hS3 := hS2.trans hT2
 simp only [RT] at hS3
 simp (disch := omega) only [↓RA, RZ, simprocAttr, hn, h1]
 refine bU (fun h2 => ?_) (fun h2 => ?_)
 ·simp (disch := omega) only [↓RA, RB, simprocAttr, hn, a5x, h1, h2]
  refine ⟨?_, hS3.forget⟩; clear hS1; unfold rankE; (try simp only [Bool.not_eq_true'] at *); (repeat' split); all_goals first | rfl | omega | simp_all
 simp (disch := omega) only [↓RA, RZ, simprocAttr, hn, hS3.ldA 0 rfl, h1, h2]
 refine aB (tP _ _) ?_
 rintro r H4 ⟨rfl, hT3⟩
 have hS4 := hS3.trans hT3
 simp only [RT] at hS4
 simp (disch := omega) only [↓RA, RB, simprocAttr, hn, h1, h2]
 refine aA (fun h3 => ?_) (fun h3 => ?_)
 ·simp (disch := omega) only [↓RA, RZ, simprocAttr, hn, a5x, h1, h2, h3]
  refine ⟨?_, hS4.forget⟩; clear hS1; unfold rankE; (try simp only [Bool.not_eq_true, Bool.not_eq_true', Bool.and_eq_true, decide_eq_true_eq, Bool.not_eq_false, Bool.and_eq_false_iff, decide_eq_false_iff_not] at *); (repeat' split); all_goals first | rfl | omega | simp_all
 simp (disch := omega) only [↓RA, RZ, simprocAttr, hn, hS4.ld 0 rfl, h1, h2, h3]
 refine aB (b1s _) ?_
 rintro r H5 ⟨rfl, hT4⟩
 have hS5 := hS4.trans hT4
 simp only [RT] at hS5
 simp (disch := omega) only [↓RA, RZ, simprocAttr, hn, h1, h2, h3]
 refine bU (fun h4 => ?_) (fun h4 => ?_)
 ·simp (disch := omega) only [↓RA, RZ, simprocAttr, hn, a5x, h1, h2, h3, h4]
  refine ⟨?_, hS5.forget⟩; clear hS1; unfold rankE; (try simp only [Bool.not_eq_true', Bool.and_eq_false_iff, decide_eq_false_iff_not] at *); (repeat' split); all_goals first | rfl | omega | simp_all
 simp (disch := omega) only [↓RA, RZ, simprocAttr, hn, hS5.ld 0 rfl, (hS5.sl hr.1).len, h1, h2, h3, h4]
 refine aA (fun h5 => ?_) (fun h5 => ?_)
 ·simp (disch := omega) only [↓RA, RZ, simprocAttr, hn, a5x, h1, h2, h3, h4, h5]
  refine ⟨?_, hS5.forget⟩; clear hS1; unfold rankE; (try simp only [Bool.not_eq_true, Bool.not_eq_true', Bool.and_eq_true, decide_eq_true_eq, Bool.not_eq_false, Bool.and_eq_false_iff, decide_eq_false_iff_not] at *); (repeat' split); all_goals first | rfl | omega | simp_all
 simp (disch := omega) only [↓RA, RZ, simprocAttr, hn, hS5.ld 0 rfl, (hS5.sl hr.1).len, h1, h2, h3, h4, h5]
 refine aA (fun h6 => ?_) (fun h6 => ?_)
 ·simp (disch := omega) only [↓RA, RZ, simprocAttr, hn, a5x, h1, h2, h3, h4, h5, h6]
  refine ⟨?_, hS5.forget⟩; clear hS1; unfold rankE; (try simp only [Bool.not_eq_true, Bool.not_eq_true', Bool.and_eq_true, decide_eq_true_eq, Bool.not_eq_false, Bool.and_eq_false_iff, decide_eq_false_iff_not] at *); (repeat' split); all_goals first | rfl | omega | simp_all
 simp (disch := omega) only [↓RA, RZ, simprocAttr, hn, hS5.ld 0 rfl, h1, h2, h3, h4, h5, h6]
 refine aB (b0Z r.wv r.wind (hS5.sl hr.1) (by have := hr.2; omega)) ?_
 rintro r H6 ⟨rfl, hT5⟩
 have hS6 := hS5.trans hT5
 simp only [RT] at hS6
 simp (disch := omega) only [↓RA, RZ, simprocAttr, hn, a5x, h1, h2, h3, h4, h5, h6]
 refine ⟨?_, hS6.forget⟩; clear hS1; unfold rankE; (try simp only [Bool.not_eq_true, Bool.not_eq_true', Bool.and_eq_true, decide_eq_true_eq, Bool.not_eq_false, Bool.and_eq_false_iff, decide_eq_false_iff_not] at *); (repeat' split); all_goals first | rfl | omega | simp_all
end Go.Ds
namespace Go.Ds
open Go.Proofs
variable {H : Heap}
abbrev KS (kvs : List (ByteArray × Bool)) : List Value := kcs Value.string Value.bool kvs
def iE (kvs : List (ByteArray × Bool)) (s : ByteArray) : Bool := (vX kvs s).getD false
theorem wD (B : Base) (A : Nat) (kvs : List (ByteArray × Bool)) (s : ByteArray) (hS : St Tryz.prog B H [⟨.map (some A), 0, KS kvs⟩]) :
 Fn Tryz.prog 93 [.map (some A), .string s] H fun r H' => r = I (if iE kvs s = true then 9 else 0) ∧ ∃ kvs', (∀ t, iE kvs' t = (iE kvs t || decide (t = s))) ∧ St Tryz.prog B H' [⟨.map (some A), 0, KS kvs'⟩] := by
 refine Fn.of_sw Tryz.func93 rfl (by kernel_rfl) fun l hl => ?_
 have hn : l.length = 10 := by rw [hl]; rfl
 have g0 : get l 0 = (.map (some A)) := by rw [hl]; rfl
 have g1 : get l 1 = (.string s) := by rw [hl]; rfl
 clear hl
 simp (disch := omega) only [↓RA, RB, simprocAttr, hn, g0, g1]
 refine hS.eLook 0 rfl a2Z (fun _ => rfl) ?_
 simp (disch := omega) only [↓RA, RB, simprocAttr, hn]
 refine bU (fun h => ?_) (fun h => ?_)
 ·simp (disch := omega) only [↓RA, RB, simprocAttr, hn, c0J, h]
  refine ⟨by simp [iE, h], kvs, fun t => ?_, hS⟩
  by_cases e : t = s
  ·subst e; simp [iE, h]
  ·simp [e]
 simp (disch := omega) only [↓RA, RB, simprocAttr, hn, g0, g1, h]
 refine hS.eUpd 0 rfl a2Z fun H1 hS1 => ?_
 simp only [RT] at hS1
 simp (disch := omega) only [↓RA, RB, simprocAttr, hn, c0J, h]
 refine ⟨by simp [iE, h], _, fun t => ?_, hS1⟩
 unfold iE
 rw [vG]
 by_cases e : t = s
 ·simp [e]
 ·simp [e]
def iS (lo hi : Int) : Int := if lo < 0 ∨ 127 < hi then 3 else if hi < lo then 23 else 0
theorem tT (lo hi : Int) : Fn Tryz.prog 162 [.agg #[I lo, I hi]] H fun r H' => r = I (iS lo hi) ∧ St Tryz.prog H H' [] := by
 refine Fn.of_sw Tryz.func162 rfl (by kernel_rfl) fun l hl => ?_
 have hn : l.length = 18 := by rw [hl]; rfl
 have g0 : get l 0 = (.agg #[I lo, I hi]) := by rw [hl]; rfl
 clear hl
 simp (disch := omega) only [↓RA, RB, simprocAttr, g0]
 refine (St.refl Tryz.prog H).eNew 2 [I lo, I hi] rfl rfl rfl tF fun A1 H1 hS1 => ?_
 simp only [RT] at hS1
 simp (disch := omega) only [↓RA, RZ, simprocAttr, hn, hS1.ld 0 rfl]
 refine aL (fun h1 => ?_) (fun h1 => ?_)
 ·simp (disch := omega) only [↓RA, RZ, simprocAttr, hn, a6J, h1]
  refine ⟨?_, hS1.forget⟩; unfold iS; (repeat' split); all_goals first | rfl | omega
 simp (disch := omega) only [↓RA, RZ, simprocAttr, hn, hS1.ld 0 rfl, h1]
 refine aA (fun h2 => ?_) (fun h2 => ?_)
 ·simp (disch := omega) only [↓RA, RZ, simprocAttr, hn, a6J, h1, h2]
  refine ⟨?_, hS1.forget⟩; unfold iS; (repeat' split); all_goals first | rfl | omega
 simp (disch := omega) only [↓RA, RZ, simprocAttr, hn, hS1.ld 0 rfl, h1, h2]
 refine aA (fun h3 => ?_) (fun h3 => ?_)
 ·simp (disch := omega) only [↓RA, RZ, simprocAttr, hn, a6J, h1, h2, h3]
  refine ⟨?_, hS1.forget⟩; unfold iS; (repeat' split); all_goals first | rfl | omega
 simp (disch := omega) only [↓RA, RZ, simprocAttr, hn, a6J, h1, h2, h3]
 refine ⟨?_, hS1.forget⟩; unfold iS; (repeat' split); all_goals first | rfl | omega
def dB (f : Nat → Int) (n : Nat) : Int := match (List.range n).find? (fun j => decide (f j ≠ 0)) with | some j => f j | none => 0
theorem fZ (f : Nat → Int) (n i : Nat) (hi : i < n) (hp : f i ≠ 0) (h0 : ∀ j, j < i → f j = 0) : dB f n = f i := by
 unfold dB
 rw [nU _ n i hi (by simpa using hp) (fun j hj => by simpa using h0 j hj)]
theorem cN (f : Nat → Int) (n : Nat) (h0 : ∀ j, j < n → f j = 0) : dB f n = 0 := by
 unfold dB
 have : (List.range n).find? (fun j => decide (f j ≠ 0)) = none := by
  rw [List.find?_eq_none]
  intro j hj
  simpa using h0 j (List.mem_range.1 hj)
 rw [this]
end Go.Ds
namespace Go.Ds
open Go.Proofs
variable {H : Heap}
def kQ (rs : List Rk) (lo hi : Int) : Int := if 60 < rs.length then 4 else if dB (fun j => rankE (aC rs j)) rs.length ≠ 0 then dB (fun j => rankE (aC rs j)) rs.length else iS lo hi
theorem a9m (rv : Value) (rs : List Rk) (lo hi : Int) (hr : Sl 6 Rk.cells H rv rs) (hrk : ∀ r ∈ rs, r.In H) (hl : rs.length < 1000000000) :
 Fn Tryz.prog 222 [.agg #[rv, I lo, I hi]] H fun v H' => v = I (kQ rs lo hi) ∧ St Tryz.prog H H' [] := by
 refine Fn.of_sw Tryz.func222 rfl (by kernel_rfl) fun l hl => ?_
 have hn : l.length = 26 := by rw [hl]; rfl
 have g0 : get l 0 = (.agg #[rv, I lo, I hi]) := by rw [hl]; rfl
 clear hl
 simp (disch := omega) only [↓RA, RB, simprocAttr, g0]
 refine (St.refl Tryz.prog H).eNew 3 [rv, I lo, I hi] rfl rfl (by simp [OC, ((St.refl Tryz.prog H).sl hr).cells.2.1]) a6C fun A1 H1 hS1 => ?_
 simp only [RT] at hS1
 simp (disch := omega) only [↓RA, RZ, simprocAttr, hn, hS1.ld 0 rfl, (hS1.sl hr).len]
 refine aA (fun h => ?_) (fun h => ?_)
 ·simp (disch := omega) only [↓RA, RZ, simprocAttr, hn, b0w, h]
  exact ⟨by rw [kQ, if_pos (by omega)], hS1.forget⟩
 simp (disch := omega) only [↓RA, RZ, simprocAttr, hn, hS1.ld 0 rfl, (hS1.sl hr).len, h]
 refine Wp.loopS (fun n l H' => l.length = 26 ∧ get l 1 = (ptr A1 0 3) ∧ get l 11 = rv ∧ get l 12 = I rs.length ∧ ∃ (i : Nat), (n + i = rs.length ∧ ∀ j, j < i → rankE (aC rs j) = 0) ∧ get l 13 = I i ∧ St Tryz.prog H H' [⟨ptr A1 0 3, 0, [rv, I lo, I hi]⟩]) rs.length ?_ ?_
 ·simp (disch := omega) only [RB, RC, simprocAttr, hn]
  exact ⟨0, ⟨by omega, by simp⟩, rfl, hS1⟩
 rintro n l H2 ⟨hn, g1, g11, g12, i, ⟨hi1,h0⟩, g13, hS2⟩
 simp (disch := omega) only [↓RA, RB, simprocAttr, hn, g12, g13]
 refine aA (fun h1 => ?_) (fun h1 => ?_)
 ·simp (disch := omega) only [↓RA, RZ, simprocAttr, hn, g11, g13, (hS2.sl hr).idx, (hS2.sl hr).ldA, Rk.cells, h1]
  refine hS2.eNew 6 [(.string ⟨#[]⟩), (.string ⟨#[]⟩), I 0, I 0, I 0, (.slice none 0 0)] rfl rfl rfl jF fun A2 H3 hS3 => ?_
  simp only [RT] at hS3
  simp (disch := omega) only [↓RA, RZ, simprocAttr, hn, h1]
  refine hS3.eStore 1 rfl [(.string (aC rs i).name), (.string (aC rs i).tone), I (aC rs i).num, I (aC rs i).den, I (aC rs i).first, (aC rs i).wv] rfl (by simp [OC, (hS3.sl (hrk (aC rs i) (aF (by omega))).1).cells.2.1]) jF (by simp) fun H4 hS4 => ?_
  simp only [RT] at hS4
  simp (disch := omega) only [↓RA, RZ, simprocAttr, hn, hS4.ldA 1 rfl, h1]
  refine aB (a6w (aC rs i) ((hrk _ (aF (by omega))).keep hS4)) ?_
  rintro r H5 ⟨rfl, hT1⟩
  have hS5 := hS4.trans hT1
  simp only [RT] at hS5
  simp (disch := omega) only [↓RA, RZ, simprocAttr, hn, h1]
  refine aA (fun h2 => ?_) (fun h2 => ?_)
  ·simp (disch := omega) only [↓RA, RZ, simprocAttr, hn, b0w, h1, h2]
   refine ⟨?_, hS5.forget⟩
   rw [kQ, if_neg (by omega), fZ _ rs.length i (by omega) h2 h0, if_pos h2]
  simp (disch := omega) only [↓RA, RZ, simprocAttr, hn, g1, g11, g12, g13, h1, h2]
  exact ⟨n - 1, by omega, i + 1, ⟨by omega, fun j hj => by rcases Nat.lt_succ_iff_lt_or_eq.1 hj with e | e; (· exact h0 j e); (· rw [e]; exact Classical.not_not.1 h2)⟩, by simp, hS5.sub (by simp)⟩
 simp (disch := omega) only [↓RA, RZ, simprocAttr, hn, g1, hS2.ldA 0 rfl, h1]
 refine aB (tT lo hi) ?_
 rintro r H6 ⟨rfl, hT2⟩
 have hS6 := hS2.trans hT2
 simp only [RT] at hS6
 simp (disch := omega) only [↓RA, RZ, simprocAttr, hn, b0w, h1]
 refine ⟨?_, hS6.forget⟩
 have e := cN (fun j => rankE (aC rs j)) rs.length fun j hj => h0 j (by omega)
 rw [kQ, if_neg (by omega), if_neg (by rw [e]; simp)]
end Go.Ds
namespace Go.Ds
open Go.Proofs
variable {H : Heap}
theorem Drw.eq (a b : Drw) : (a.rank = b.rank ∧ a.shift = b.shift) ↔ b = a := by
 cases a; cases b; simp [eq_comm]
theorem a8U (v : Value) (xs : List Drw) (hv : Sl 2 Drw.cells H v xs) (hl : xs.length < 1000000000) (d : Drw) :
 Fn Tryz.prog 295 [v, .agg #[I d.rank, I d.shift]] H fun r H' => r = I (jM (fun j => decide (aC xs j = d)) xs.length) ∧ St Tryz.prog H H' [] := by
 refine Fn.of_sw Tryz.func295 rfl (by kernel_rfl) fun l hl => ?_
 have hn : l.length = 19 := by rw [hl]; rfl
 have g0 : get l 0 = v := by rw [hl]; rfl
 have g1 : get l 1 = (.agg #[I d.rank, I d.shift]) := by rw [hl]; rfl
 clear hl
 simp (disch := omega) only [↓RA, RB, simprocAttr, g1]
 refine (St.refl Tryz.prog H).eNew 2 [I d.rank, I d.shift] rfl rfl rfl sJ fun A1 H1 hS1 => ?_
 simp only [RT] at hS1
 simp (disch := omega) only [↓RA, RZ, simprocAttr, hn, g0, (hS1.sl hv).len]
 refine Wp.loopS (fun n l H' => l.length = 19 ∧ get l 0 = v ∧ get l 3 = (ptr A1 0 2) ∧ get l 7 = I xs.length ∧ ∃ (j : Nat), (n + j = xs.length ∧ ∀ q, q < j → decide (aC xs q = d) = false) ∧ get l 8 = I j ∧ St Tryz.prog H H' [⟨ptr A1 0 2, 0, [I d.rank, I d.shift]⟩]) xs.length ?_ ?_
 ·simp (disch := omega) only [RB, RC, simprocAttr, hn, g0]
  exact ⟨0, ⟨by omega, fun q hq => absurd hq (Nat.not_lt_zero _)⟩, rfl, hS1⟩
 rintro n l H2 ⟨hn, g0, g3, g7, j, ⟨hi,h0⟩, g8, hS2⟩
 simp (disch := omega) only [↓RA, RB, simprocAttr, hn, g7, g8]
 refine aA (fun h => ?_) (fun h => ?_)
 ·simp (disch := omega) only [↓RA, RZ, simprocAttr, hn, g8, h]
  refine Wp.drw cD (by kernel_rfl) ?_
  simp (disch := omega) only [↓RA, RZ, simprocAttr, hn, g0, g3, hS2.ldA 0 rfl, (hS2.sl hv).idx, (hS2.sl hv).ldA, Drw.cells]
  refine aA (fun hp => ?_) (fun hp => ?_)
  ·simp (disch := omega) only [↓RA, RZ, simprocAttr, hn, b5x, hp]
   exact ⟨by rw [tS _ xs.length j (by omega) (by simpa using (Drw.eq _ _).1 hp) h0], hS2.forget⟩
  simp (disch := omega) only [↓RA, RZ, simprocAttr, hn, g0, g3, g7, g8, hp]
  exact ⟨n - 1, by omega, j + 1, ⟨by omega, fun q hq => by rcases Nat.lt_succ_iff_lt_or_eq.1 hq with e | e; (· exact h0 q e); (· rw [e]; simpa using fun hh => hp ((Drw.eq _ _).2 hh))⟩, by simp, hS2⟩
 simp (disch := omega) only [↓RA, RZ, simprocAttr, hn, b5x, h]
 exact ⟨by rw [tQ _ xs.length fun q hq => h0 q (by omega)], hS2.forget⟩
theorem b5p (v : Value) (xs : List Drw) (hv : Sl 2 Drw.cells H v xs) (hl : xs.length < 1000000000) (d : Drw) :
 Fn Tryz.prog 268 [v, .agg #[I d.rank, I d.shift]] H fun r H' => r = .bool (decide (d ∈ xs)) ∧ St Tryz.prog H H' [] := by
 have e : decide (0 ≤ jM (fun j => decide (aC xs j = d)) xs.length) = decide (d ∈ xs) := by
  rw [Bool.eq_iff_iff, decide_eq_true_iff, decide_eq_true_iff, a0K]
  constructor
  ·rintro ⟨j, hj, hp⟩
   rw [← of_decide_eq_true hp]; exact aF hj
  ·intro hx
   obtain ⟨j, hj, rfl⟩ := List.mem_iff_getElem.1 hx
   exact ⟨j, hj, by rw [bV xs j hj]; simp⟩
 refine Fn.of_sw Tryz.func268 rfl (by kernel_rfl) fun l hl => ?_
 have hn : l.length = 9 := by rw [hl]; rfl
 have g0 : get l 0 = v := by rw [hl]; rfl
 have g1 : get l 1 = (.agg #[I d.rank, I d.shift]) := by rw [hl]; rfl
 clear hl
 simp (disch := omega) only [↓RA, RB, simprocAttr, g1]
 refine (St.refl Tryz.prog H).eNew 2 [I d.rank, I d.shift] rfl rfl rfl sJ fun A1 H1 hS1 => ?_
 simp only [RT] at hS1
 simp (disch := omega) only [↓RA, RZ, simprocAttr, hn, g0, hS1.ldA 0 rfl]
 refine aB (a8U v xs (hS1.sl hv) hl d) ?_
 rintro r H2 ⟨rfl, hT1⟩
 have hS2 := hS1.trans hT1
 simp only [RT] at hS2
 simp (disch := omega) only [↓RA, RB, simprocAttr, hn, c1M]
 rw [← e]
 first | exact hS2.forget | exact ⟨rfl, hS2.forget⟩
def cG (m : Nat) (l : List Drw) (j : Nat) : Int := if (aC l j).rank < 0 ∨ m ≤ (aC l j).rank then 10 else if (aC l j).shift < -127 ∨ 127 < (aC l j).shift then 3 else if aC l j ∈ l.take j then 9 else 0
def dE (m : Nat) (l : List Drw) : Int := if 8 < l.length then 4 else dB (cG m l) l.length
theorem a3r (rv : Value) (rs : List Rk) (lo hi : Int) (hr : Sl 6 Rk.cells H rv rs) (hl : rs.length < 1000000000) (dv : Value) (ds : List Drw) (hd : Sl 2 Drw.cells H dv ds) (hl2 : ds.length < 1000000000) :
 Fn Tryz.prog 223 [.agg #[rv, I lo, I hi], dv] H fun v H' => v = I (dE rs.length ds) ∧ St Tryz.prog H H' [] := by
 refine Fn.of_sw Tryz.func223 rfl (by kernel_rfl) fun l hl => ?_
 have hn : l.length = 45 := by rw [hl]; rfl
 have g0 : get l 0 = (.agg #[rv, I lo, I hi]) := by rw [hl]; rfl
 have g1 : get l 1 = dv := by rw [hl]; rfl
 clear hl
 simp (disch := omega) only [↓RA, RB, simprocAttr, g0]
 refine (St.refl Tryz.prog H).eNew 3 [rv, I lo, I hi] rfl rfl (by simp [OC, ((St.refl Tryz.prog H).sl hr).cells.2.1]) a6C fun A1 H1 hS1 => ?_
 simp only [RT] at hS1
 simp (disch := omega) only [↓RA, RZ, simprocAttr, hn, g1, (hS1.sl hd).len]
 refine aA (fun h => ?_) (fun h => ?_)
 ·simp (disch := omega) only [↓RA, RZ, simprocAttr, hn, wR, h]
  exact ⟨by rw [dE, if_pos (by omega)], hS1.forget⟩
 simp (disch := omega) only [↓RA, RZ, simprocAttr, hn, g1, (hS1.sl hd).len, h]
 refine Wp.loopS (fun n l H' => l.length = 45 ∧ get l 1 = dv ∧ get l 2 = (ptr A1 0 3) ∧ get l 10 = dv ∧ get l 11 = I ds.length ∧ ∃ (i : Nat), (n + i = ds.length ∧ ∀ j, j < i → cG rs.length ds j = 0) ∧ get l 12 = I i ∧ St Tryz.prog H H' [⟨ptr A1 0 3, 0, [rv, I lo, I hi]⟩]) ds.length ?_ ?_
 ·simp (disch := omega) only [RB, RC, simprocAttr, hn, g1]
  exact ⟨0, ⟨by omega, by simp⟩, rfl, hS1⟩
 rintro n l H2 ⟨hn, g1, g2, kV, g11, i, ⟨hi1,h0⟩, g12, hS2⟩
 simp (disch := omega) only [↓RA, RB, simprocAttr, hn, g11, g12]
 refine aA (fun h1 => ?_) (fun h1 => ?_)
 ·have key : cG rs.length ds i ≠ 0 → dE rs.length ds = cG rs.length ds i := fun hne => by rw [dE, if_neg (by omega), fZ _ ds.length i (by omega) hne h0]
  simp (disch := omega) only [↓RA, RZ, simprocAttr, hn, kV, g12, (hS2.sl hd).idx, (hS2.sl hd).ldA, Drw.cells, h1]
  refine hS2.eNew 2 [I 0, I 0] rfl rfl rfl sJ fun A2 H3 hS3 => ?_
  simp only [RT] at hS3
  simp (disch := omega) only [↓RA, RZ, simprocAttr, hn, h1]
  refine hS3.eStore 1 rfl [I (aC ds i).rank, I (aC ds i).shift] rfl rfl sJ (by simp) fun H4 hS4 => ?_
  simp only [RT] at hS4
  simp (disch := omega) only [↓RA, RZ, simprocAttr, hn, hS4.ld 1 rfl, h1]
  refine aL (fun h1 => ?_) (fun h1 => ?_)
  ·simp (disch := omega) only [↓RA, RZ, simprocAttr, hn, wR, h1]
   (first | (have e1 : cG rs.length ds i = 10 := by rw [cG, if_pos (by omega)]); exact ⟨by rw [key (by rw [e1]; decide), e1], hS4.forget⟩ | (have e1 : cG rs.length ds i = 3 := by rw [cG, if_neg (by omega), if_pos (by omega)]); exact ⟨by rw [key (by rw [e1]; decide), e1], hS4.forget⟩ | (have e1 : cG rs.length ds i = 9 := by rw [cG, if_neg (by omega), if_neg (by omega), if_pos (by simp_all)]); exact ⟨by rw [key (by rw [e1]; decide), e1], hS4.forget⟩)
  simp (disch := omega) only [↓RA, RZ, simprocAttr, hn, g2, hS4.ld 1 rfl, hS4.ld 0 rfl, (hS4.sl hr).len, h1]
  refine aA (fun h2 => ?_) (fun h2 => ?_)
  ·simp (disch := omega) only [↓RA, RZ, simprocAttr, hn, wR, h1, h2]
   (first | (have e1 : cG rs.length ds i = 10 := by rw [cG, if_pos (by omega)]); exact ⟨by rw [key (by rw [e1]; decide), e1], hS4.forget⟩ | (have e1 : cG rs.length ds i = 3 := by rw [cG, if_neg (by omega), if_pos (by omega)]); exact ⟨by rw [key (by rw [e1]; decide), e1], hS4.forget⟩ | (have e1 : cG rs.length ds i = 9 := by rw [cG, if_neg (by omega), if_neg (by omega), if_pos (by simp_all)]); exact ⟨by rw [key (by rw [e1]; decide), e1], hS4.forget⟩)
  simp (disch := omega) only [↓RA, RZ, simprocAttr, hn, hS4.ld 1 rfl, h1, h2]
  refine aL (fun h3 => ?_) (fun h3 => ?_)
  ·simp (disch := omega) only [↓RA, RZ, simprocAttr, hn, wR, h1, h2, h3]
   (first | (have e1 : cG rs.length ds i = 10 := by rw [cG, if_pos (by omega)]); exact ⟨by rw [key (by rw [e1]; decide), e1], hS4.forget⟩ | (have e1 : cG rs.length ds i = 3 := by rw [cG, if_neg (by omega), if_pos (by omega)]); exact ⟨by rw [key (by rw [e1]; decide), e1], hS4.forget⟩ | (have e1 : cG rs.length ds i = 9 := by rw [cG, if_neg (by omega), if_neg (by omega), if_pos (by simp_all)]); exact ⟨by rw [key (by rw [e1]; decide), e1], hS4.forget⟩)
  simp (disch := omega) only [↓RA, RZ, simprocAttr, hn, hS4.ld 1 rfl, h1, h2, h3]
  refine aA (fun h4 => ?_) (fun h4 => ?_)
  ·simp (disch := omega) only [↓RA, RZ, simprocAttr, hn, wR, h1, h2, h3, h4]
   (first | (have e1 : cG rs.length ds i = 10 := by rw [cG, if_pos (by omega)]); exact ⟨by rw [key (by rw [e1]; decide), e1], hS4.forget⟩ | (have e1 : cG rs.length ds i = 3 := by rw [cG, if_neg (by omega), if_pos (by omega)]); exact ⟨by rw [key (by rw [e1]; decide), e1], hS4.forget⟩ | (have e1 : cG rs.length ds i = 9 := by rw [cG, if_neg (by omega), if_neg (by omega), if_pos (by simp_all)]); exact ⟨by rw [key (by rw [e1]; decide), e1], hS4.forget⟩)
  simp (disch := omega) only [↓RA, RZ, simprocAttr, h1, h2, h3, h4]
  refine Wp.drw cD (by kernel_rfl) ?_
  simp (disch := omega) only [↓RA, RZ, simprocAttr, hn, g1, (hS4.sl hd).sliceH, hS4.ldA 1 rfl]
  refine aB (b5p _ (ds.take i) ((hS4.sl hd).subH i (by omega) (by omega)) (by simp; omega) (aC ds i)) ?_
  rintro r H5 ⟨rfl, hT1⟩
  have hS5 := hS4.trans hT1
  simp only [RT] at hS5
  simp (disch := omega) only [↓RA, RB, simprocAttr, hn]
  refine aA (fun h5 => ?_) (fun h5 => ?_)
  ·simp (disch := omega) only [↓RA, RZ, simprocAttr, hn, wR, h5]
   (first | (have e1 : cG rs.length ds i = 10 := by rw [cG, if_pos (by omega)]); exact ⟨by rw [key (by rw [e1]; decide), e1], hS5.forget⟩ | (have e1 : cG rs.length ds i = 3 := by rw [cG, if_neg (by omega), if_pos (by omega)]); exact ⟨by rw [key (by rw [e1]; decide), e1], hS5.forget⟩ | (have e1 : cG rs.length ds i = 9 := by rw [cG, if_neg (by omega), if_neg (by omega), if_pos (by simp_all)]); exact ⟨by rw [key (by rw [e1]; decide), e1], hS5.forget⟩)
  simp (disch := omega) only [↓RA, RZ, simprocAttr, hn, g1, g2, kV, g11, g12, h5]
  have e0 : cG rs.length ds i = 0 := by rw [cG, if_neg (by omega), if_neg (by omega), if_neg (by simp_all)]
  exact ⟨n - 1, by omega, i + 1, ⟨by omega, fun j hj => by rcases Nat.lt_succ_iff_lt_or_eq.1 hj with e | e; (· exact h0 j e); (· rw [e]; exact e0)⟩, by simp, hS5.sub (by simp)⟩
 simp (disch := omega) only [↓RA, RZ, simprocAttr, hn, wR, h1]
 exact ⟨by rw [dE, if_neg (by omega), cN _ _ fun j hj => h0 j (by omega)], hS2.forget⟩
end Go.Ds
namespace Go.Ds
open Go.Proofs
variable {H : Heap}
def cR (lo hi : Int) (m : Nat) (gs : List Seg) (j : Nat) : Int := if min (aC gs j).lo (aC gs j).hi < lo ∨ hi < max (aC gs j).lo (aC gs j).hi then 23 else if (aC gs j).hi < (aC gs j).lo ∨ (0 < j ∧ (aC gs j).lo ≤ (aC gs (j - 1)).hi) then 6 else dE m (aC gs j).draws
def stopE (rs : List Rk) (lo hi : Int) (s : Stp) : Int := if kQ rs lo hi ≠ 0 then kQ rs lo hi else if cP s.name = false then 8 else if fU s.num s.den ≠ 0 then fU s.num s.den else if s.segs.length = 0 then 13 else if 12 < s.segs.length then 4 else dB (cR lo hi rs.length s.segs) s.segs.length
theorem b3w (rv : Value) (rs : List Rk) (lo hi : Int) (hr : Sl 6 Rk.cells H rv rs) (hrk : ∀ r ∈ rs, r.In H) (hl : rs.length < 1000000000) (s : Stp) (hs : s.In H) :
 Fn Tryz.prog 163 [.agg #[rv, I lo, I hi], .agg #[.string s.name, I s.num, I s.den, s.gv]] H fun v H' => v = I (stopE rs lo hi s) ∧ St Tryz.prog H H' [] := by
 have hl2 := hs.2.2
 refine Fn.of_sw Tryz.func163 rfl (by kernel_rfl) fun l hl => ?_
 have hn : l.length = 94 := by rw [hl]; rfl
 have g0 : get l 0 = (.agg #[rv, I lo, I hi]) := by rw [hl]; rfl
 have g1 : get l 1 = (.agg #[(.string s.name), I s.num, I s.den, s.gv]) := by rw [hl]; rfl
 clear hl
 simp (disch := omega) only [↓RA, RB, simprocAttr, g0]
 refine (St.refl Tryz.prog H).eNew 3 [rv, I lo, I hi] rfl rfl (by simp [OC, ((St.refl Tryz.prog H).sl hr).cells.2.1]) a6C fun A1 H1 hS1 => ?_
 simp only [RT] at hS1
 simp (disch := omega) only [↓RA, RB, simprocAttr, g1]
 refine hS1.eNew 4 [(.string s.name), I s.num, I s.den, s.gv] rfl rfl (by simp [OC, (hS1.sl hs.1).cells.2.1]) lN fun A2 H2 hS2 => ?_
 simp only [RT] at hS2
 simp (disch := omega) only [↓RA, RZ, simprocAttr, hn, hS2.ldA 0 rfl]
 refine aB (a9m rv rs lo hi (hS2.sl hr) (fun r h => (hrk r h).keep hS2) hl) ?_
 rintro r H3 ⟨rfl, hT1⟩
 have hS3 := hS2.trans hT1
 simp only [RT] at hS3
 simp (disch := omega) only [↓RA, RB, simprocAttr, hn]
 refine aA (fun p1 => ?_) (fun p1 => ?_)
 ·simp (disch := omega) only [↓RA, RZ, simprocAttr, hn, lK, p1]
  exact ⟨by rw [stopE, if_pos p1], hS3.forget⟩
 simp (disch := omega) only [↓RA, RZ, simprocAttr, hn, hS3.ld 1 rfl, p1]
 refine aB (iM s.name) ?_
 rintro r H4 ⟨rfl, hT2⟩
 have hS4 := hS3.trans hT2
 simp only [RT] at hS4
 simp (disch := omega) only [↓RA, RZ, simprocAttr, hn, p1]
 refine bU (fun p2 => ?_) (fun p2 => ?_)
 ·simp (disch := omega) only [↓RA, RZ, simprocAttr, hn, lK, p1, p2]
  exact ⟨by rw [stopE, if_neg p1, if_pos (by simpa using p2)], hS4.forget⟩
 have p2' : ¬ cP s.name = false := by simpa using p2
 simp (disch := omega) only [↓RA, RZ, simprocAttr, hn, hS4.ldA 1 rfl, p1, p2]
 refine aB (tP s.num s.den) ?_
 rintro r H5 ⟨rfl, hT3⟩
 have hS5 := hS4.trans hT3
 simp only [RT] at hS5
 simp (disch := omega) only [↓RA, RZ, simprocAttr, hn, p1, p2]
 refine aA (fun p3 => ?_) (fun p3 => ?_)
 ·simp (disch := omega) only [↓RA, RZ, simprocAttr, hn, lK, p1, p2, p3]
  exact ⟨by rw [stopE, if_neg p1, if_neg p2', if_pos p3], hS5.forget⟩
 simp (disch := omega) only [↓RA, RZ, simprocAttr, hn, hS5.ld 1 rfl, (hS5.sl hs.1).len, p1, p2, p3]
 refine aA (fun p4 => ?_) (fun p4 => ?_)
 ·simp (disch := omega) only [↓RA, RZ, simprocAttr, hn, lK, p1, p2, p3, p4]
  exact ⟨by rw [stopE, if_neg p1, if_neg p2', if_neg p3, if_pos (by omega)], hS5.forget⟩
 simp (disch := omega) only [↓RA, RZ, simprocAttr, hn, hS5.ld 1 rfl, (hS5.sl hs.1).len, p1, p2, p3, p4]
 refine aA (fun p5 => ?_) (fun p5 => ?_)
 ·simp (disch := omega) only [↓RA, RZ, simprocAttr, hn, lK, p1, p2, p3, p4, p5]
  exact ⟨by rw [stopE, if_neg p1, if_neg p2', if_neg p3, if_neg (by omega), if_pos (by omega)], hS5.forget⟩
 have hE : stopE rs lo hi s = dB (cR lo hi rs.length s.segs) s.segs.length := by rw [stopE, if_neg p1, if_neg p2', if_neg p3, if_neg (by omega), if_neg (by omega)]
 simp (disch := omega) only [↓RA, RZ, simprocAttr, hn, hS5.ld 1 rfl, (hS5.sl hs.1).len, p1, p2, p3, p4, p5]
 refine Wp.loopS (fun n l H' => l.length = 94 ∧ get l 2 = (ptr A1 0 3) ∧ get l 3 = (ptr A2 0 4) ∧ get l 36 = s.gv ∧ get l 37 = I s.segs.length ∧ ∃ (i : Nat), (n + i = s.segs.length ∧ ∀ j, j < i → cR lo hi rs.length s.segs j = 0) ∧ get l 38 = I i ∧ St Tryz.prog H H' [⟨ptr A1 0 3, 0, [rv, I lo, I hi]⟩, ⟨ptr A2 0 4, 0, [(.string s.name), I s.num, I s.den, s.gv]⟩]) s.segs.length ?_ ?_
 ·simp (disch := omega) only [RB, RC, simprocAttr, hn]
  exact ⟨0, ⟨by omega, by simp⟩, rfl, hS5⟩
 rintro n l H6 ⟨hn, g2, g3, g36, g37, i, ⟨hi1,h0⟩, g38, hS6⟩
 simp (disch := omega) only [↓RA, RB, simprocAttr, hn, g37, g38]
 refine aA (fun q1 => ?_) (fun q1 => ?_)
 ·have key : cR lo hi rs.length s.segs i ≠ 0 → stopE rs lo hi s = cR lo hi rs.length s.segs i := fun hne => by rw [hE, fZ _ _ i (by omega) hne h0]
  have ei : ((i : Int) - 1).toNat = i - 1 := by omega
  simp (disch := omega) only [↓RA, RZ, simprocAttr, hn, g36, g38, (hS6.sl hs.1).idx, (hS6.sl hs.1).ldA, Seg.cells, q1]
  refine hS6.eNew 3 [I 0, I 0, (.slice none 0 0)] rfl rfl rfl a4Z fun A3 H7 hS7 => ?_
  simp only [RT] at hS7
  simp (disch := omega) only [↓RA, RZ, simprocAttr, hn, q1]
  refine hS7.eStore 2 rfl [I (aC s.segs i).lo, I (aC s.segs i).hi, (aC s.segs i).dv] rfl (by simp [OC, (hS7.sl (hs.2.1 (aC s.segs i) (aF (by omega))).1).cells.2.1]) a4Z (by simp) fun H8 hS8 => ?_
  simp only [RT] at hS8
  simp (disch := omega) only [↓RA, RZ, simprocAttr, hn, g2, hS8.ld 2 rfl, hS8.ld 0 rfl, q1]
  refine aL (fun h1 => ?_) (fun h1 => ?_)
  ·simp (disch := omega) only [↓RA, RZ, simprocAttr, hn, lK, q1, h1]
   (first | (have e1 : cR lo hi rs.length s.segs i = 23 := by rw [cR, if_pos (by omega)]); exact ⟨by rw [key (by rw [e1]; decide), e1], hS8.forget⟩ | (have e1 : cR lo hi rs.length s.segs i = 6 := by rw [cR, if_neg (by omega), if_pos (by omega)]); exact ⟨by rw [key (by rw [e1]; decide), e1], hS8.forget⟩ | (have e1 : cR lo hi rs.length s.segs i = dE rs.length (aC s.segs i).draws := by rw [cR, if_neg (by omega), if_neg (by omega)]); exact ⟨by rw [key (by rw [e1]; assumption), e1], hS8.forget⟩)
  simp (disch := omega) only [↓RA, RZ, simprocAttr, hn, g2, hS8.ld 2 rfl, hS8.ld 0 rfl, q1, h1]
  refine aA (fun h2 => ?_) (fun h2 => ?_)
  ·simp (disch := omega) only [↓RA, RZ, simprocAttr, hn, lK, q1, h1, h2]
   (first | (have e1 : cR lo hi rs.length s.segs i = 23 := by rw [cR, if_pos (by omega)]); exact ⟨by rw [key (by rw [e1]; decide), e1], hS8.forget⟩ | (have e1 : cR lo hi rs.length s.segs i = 6 := by rw [cR, if_neg (by omega), if_pos (by omega)]); exact ⟨by rw [key (by rw [e1]; decide), e1], hS8.forget⟩ | (have e1 : cR lo hi rs.length s.segs i = dE rs.length (aC s.segs i).draws := by rw [cR, if_neg (by omega), if_neg (by omega)]); exact ⟨by rw [key (by rw [e1]; assumption), e1], hS8.forget⟩)
  simp (disch := omega) only [↓RA, RZ, simprocAttr, q1, h1, h2]
  refine Wp.drw cD (by kernel_rfl) ?_
  simp (disch := omega) only [↓RA, RZ, simprocAttr, hn, hS8.ld 2 rfl]
  refine aL (fun h3 => ?_) (fun h3 => ?_)
  ·simp (disch := omega) only [↓RA, RZ, simprocAttr, hn, lK, h3]
   (first | (have e1 : cR lo hi rs.length s.segs i = 23 := by rw [cR, if_pos (by omega)]); exact ⟨by rw [key (by rw [e1]; decide), e1], hS8.forget⟩ | (have e1 : cR lo hi rs.length s.segs i = 6 := by rw [cR, if_neg (by omega), if_pos (by omega)]); exact ⟨by rw [key (by rw [e1]; decide), e1], hS8.forget⟩ | (have e1 : cR lo hi rs.length s.segs i = dE rs.length (aC s.segs i).draws := by rw [cR, if_neg (by omega), if_neg (by omega)]); exact ⟨by rw [key (by rw [e1]; assumption), e1], hS8.forget⟩)
  simp (disch := omega) only [↓RA, RZ, simprocAttr, hn, h3]
  refine cK (fun h4 => ?_) (fun h4 => ?_)
  ·simp (disch := omega) only [↓RA, RZ, simprocAttr, hn, g3, hS8.ld 2 rfl, hS8.ld 1 rfl, (hS8.sl hs.1).idx, (hS8.sl hs.1).fld, (hS8.sl hs.1).ld, Seg.cells, ei, h3, h4]
   refine aA (fun h5 => ?_) (fun h5 => ?_)
   ·simp (disch := omega) only [↓RA, RZ, simprocAttr, hn, lK, h3, h4, h5]
    (first | (have e1 : cR lo hi rs.length s.segs i = 23 := by rw [cR, if_pos (by omega)]); exact ⟨by rw [key (by rw [e1]; decide), e1], hS8.forget⟩ | (have e1 : cR lo hi rs.length s.segs i = 6 := by rw [cR, if_neg (by omega), if_pos (by omega)]); exact ⟨by rw [key (by rw [e1]; decide), e1], hS8.forget⟩ | (have e1 : cR lo hi rs.length s.segs i = dE rs.length (aC s.segs i).draws := by rw [cR, if_neg (by omega), if_neg (by omega)]); exact ⟨by rw [key (by rw [e1]; assumption), e1], hS8.forget⟩)
   simp (disch := omega) only [↓RA, RZ, simprocAttr, hn, g2, hS8.ldA 0 rfl, hS8.ld 2 rfl, h3, h4, h5]
   refine aB (a3r rv rs lo hi (hS8.sl hr) hl _ _ (hS8.sl (hs.2.1 _ (aF (by omega))).1) (hs.2.1 _ (aF (by omega))).2) ?_
   rintro r H9 ⟨rfl, hT4⟩
   have hS9 := hS8.trans hT4
   simp only [RT] at hS9
   simp (disch := omega) only [↓RA, RZ, simprocAttr, hn, h3, h4, h5]
   refine aA (fun h6 => ?_) (fun h6 => ?_)
   ·simp (disch := omega) only [↓RA, RZ, simprocAttr, hn, lK, h3, h4, h5, h6]
    (first | (have e1 : cR lo hi rs.length s.segs i = 23 := by rw [cR, if_pos (by omega)]); exact ⟨by rw [key (by rw [e1]; decide), e1], hS9.forget⟩ | (have e1 : cR lo hi rs.length s.segs i = 6 := by rw [cR, if_neg (by omega), if_pos (by omega)]); exact ⟨by rw [key (by rw [e1]; decide), e1], hS9.forget⟩ | (have e1 : cR lo hi rs.length s.segs i = dE rs.length (aC s.segs i).draws := by rw [cR, if_neg (by omega), if_neg (by omega)]); exact ⟨by rw [key (by rw [e1]; assumption), e1], hS9.forget⟩)
   simp (disch := omega) only [↓RA, RZ, simprocAttr, hn, g2, g3, g36, g37, g38, h3, h4, h5, h6]
   have e0 : cR lo hi rs.length s.segs i = 0 := by rw [cR, if_neg (by omega), if_neg (by omega)]; omega
   exact ⟨n - 1, by omega, i + 1, ⟨by omega, fun j hj => by rcases Nat.lt_succ_iff_lt_or_eq.1 hj with e | e; (· exact h0 j e); (· rw [e]; exact e0)⟩, by simp, hS9.sub (by simp)⟩
  simp (disch := omega) only [↓RA, RZ, simprocAttr, hn, g2, hS8.ldA 0 rfl, hS8.ld 2 rfl, h3, h4]
  refine aB (a3r rv rs lo hi (hS8.sl hr) hl _ _ (hS8.sl (hs.2.1 _ (aF (by omega))).1) (hs.2.1 _ (aF (by omega))).2) ?_
  rintro r H10 ⟨rfl, hT5⟩
  have hS10 := hS8.trans hT5
  simp only [RT] at hS10
  simp (disch := omega) only [↓RA, RZ, simprocAttr, hn, h3, h4]
  refine aA (fun h7 => ?_) (fun h7 => ?_)
  ·simp (disch := omega) only [↓RA, RZ, simprocAttr, hn, lK, h3, h4, h7]
   (first | (have e1 : cR lo hi rs.length s.segs i = 23 := by rw [cR, if_pos (by omega)]); exact ⟨by rw [key (by rw [e1]; decide), e1], hS10.forget⟩ | (have e1 : cR lo hi rs.length s.segs i = 6 := by rw [cR, if_neg (by omega), if_pos (by omega)]); exact ⟨by rw [key (by rw [e1]; decide), e1], hS10.forget⟩ | (have e1 : cR lo hi rs.length s.segs i = dE rs.length (aC s.segs i).draws := by rw [cR, if_neg (by omega), if_neg (by omega)]); exact ⟨by rw [key (by rw [e1]; assumption), e1], hS10.forget⟩)
  simp (disch := omega) only [↓RA, RZ, simprocAttr, hn, g2, g3, g36, g37, g38, h3, h4, h7]
  have e0 : cR lo hi rs.length s.segs i = 0 := by rw [cR, if_neg (by omega), if_neg (by omega)]; omega
  exact ⟨n - 1, by omega, i + 1, ⟨by omega, fun j hj => by rcases Nat.lt_succ_iff_lt_or_eq.1 hj with e | e; (· exact h0 j e); (· rw [e]; exact e0)⟩, by simp, hS10.sub (by simp)⟩
 simp (disch := omega) only [↓RA, RZ, simprocAttr, hn, lK, q1]
 exact ⟨by rw [hE, cN _ _ fun j hj => h0 j (by omega)], hS6.forget⟩
end Go.Ds
namespace Go.Ds
open Go.Proofs
variable {H : Heap}
theorem b2v (v : Value) (xs : List Cpl) (hv : Sl 5 Cpl.cells H v xs) (hl : xs.length < 1000000000) (k : FuncId) (caps : List Value) (p : Nat → Bool)
 (hf : ∀ j H1, j < xs.length → St Tryz.prog H H1 [] → Fn Tryz.prog k (.agg #[.string (aC xs j).name, I (aC xs j).src, I (aC xs j).dst, I (aC xs j).shift, .bool (aC xs j).thr] :: caps) H1 fun r H2 => r = .bool (p j) ∧ St Tryz.prog H1 H2 []) :
 Fn Tryz.prog 224 [v, .func (.func k) #[] caps.toArray] H fun r H' => r = I (jM p xs.length) ∧ St Tryz.prog H H' [] := by
 refine Fn.of_sw Tryz.func224 rfl (by kernel_rfl) fun l hl => ?_
 have hn : l.length = 19 := by rw [hl]; rfl
 have g0 : get l 0 = v := by rw [hl]; rfl
 have g1 : get l 1 = .func (.func k) #[] caps.toArray := by rw [hl]; rfl
 clear hl
 simp (disch := omega) only [↓RA, RZ, simprocAttr, hn, g0, ((St.refl Tryz.prog H).sl hv).len]
 refine Wp.loopS (fun n l H' => l.length = 19 ∧ get l 0 = v ∧ get l 1 = .func (.func k) #[] caps.toArray ∧ get l 7 = I xs.length ∧ ∃ (j : Nat), (n + j = xs.length ∧ ∀ q, q < j → p q = false) ∧ get l 8 = I j ∧ St Tryz.prog H H' []) xs.length ?_ ?_
 ·simp (disch := omega) only [RB, RC, simprocAttr, hn, g0, g1]
  exact ⟨0, ⟨by omega, fun q hq => absurd hq (Nat.not_lt_zero _)⟩, rfl, (St.refl Tryz.prog H)⟩
 rintro n l H1 ⟨hn, g0, g1, g7, j, ⟨hi,h0⟩, g8, hS1⟩
 simp (disch := omega) only [↓RA, RB, simprocAttr, hn, g7, g8]
 refine aA (fun h => ?_) (fun h => ?_)
 ·simp (disch := omega) only [↓RA, RZ, simprocAttr, hn, g0, g1, g8, (hS1.sl hv).idx, (hS1.sl hv).ldA, Cpl.cells, h]
  refine aB (hf j _ (by omega) hS1) ?_
  rintro r H2 ⟨rfl, hT1⟩
  have hS2 := hS1.trans hT1
  simp only [RT] at hS2
  simp (disch := omega) only [↓RA, RZ, simprocAttr, hn, h]
  refine bU (fun hp => ?_) (fun hp => ?_)
  ·simp (disch := omega) only [↓RA, RZ, simprocAttr, hn, b6f, h, hp]
   exact ⟨by rw [tS p xs.length j (by omega) hp h0], hS2⟩
  simp (disch := omega) only [↓RA, RZ, simprocAttr, hn, g0, g1, g7, g8, h, hp]
  exact ⟨n - 1, by omega, j + 1, ⟨by omega, fun q hq => by rcases Nat.lt_succ_iff_lt_or_eq.1 hq with e | e; (· exact h0 q e); (· rw [e]; exact hp)⟩, by simp, hS2⟩
 simp (disch := omega) only [↓RA, RZ, simprocAttr, hn, b6f, h]
 exact ⟨by rw [tQ p xs.length fun q hq => h0 q (by omega)], hS1⟩
theorem b4k (v : Value) (xs : List Cpl) (hv : Sl 5 Cpl.cells H v xs) (hl : xs.length < 1000000000) (k : FuncId) (caps : List Value) (p : Nat → Bool)
 (hf : ∀ j H1, j < xs.length → St Tryz.prog H H1 [] → Fn Tryz.prog k (.agg #[.string (aC xs j).name, I (aC xs j).src, I (aC xs j).dst, I (aC xs j).shift, .bool (aC xs j).thr] :: caps) H1 fun r H2 => r = .bool (p j) ∧ St Tryz.prog H1 H2 []) :
 Fn Tryz.prog 164 [v, .func (.func k) #[] caps.toArray] H fun r H' => r = .bool (decide (0 ≤ jM p xs.length)) ∧ St Tryz.prog H H' [] := by
 refine Fn.of_sw Tryz.func164 rfl (by kernel_rfl) fun l hl => ?_
 have hn : l.length = 9 := by rw [hl]; rfl
 have g0 : get l 0 = v := by rw [hl]; rfl
 have g1 : get l 1 = .func (.func k) #[] caps.toArray := by rw [hl]; rfl
 clear hl
 simp (disch := omega) only [↓RA, RZ, simprocAttr, hn, g0, g1]
 refine aB (b2v v xs hv hl k caps p hf) ?_
 rintro r H1 ⟨rfl, hT1⟩
 have hS1 := (St.refl Tryz.prog H).trans hT1
 simp only [RT] at hS1
 simp (disch := omega) only [↓RA, RZ, simprocAttr, hn, b8M]
 first | exact hS1 | exact ⟨rfl, hS1⟩
theorem a3F (c : Cpl) (A : Nat) (d : Cpl) (hA : Var H A 5 d.cells) : Fn Tryz.prog 165 [.agg #[.string c.name, I c.src, I c.dst, I c.shift, .bool c.thr], ptr A 0 5] H fun r H' => r = .bool (decide (c.name = d.name)) ∧ St Tryz.prog H H' [] := by
 refine Fn.of_sw Tryz.func165 rfl (by kernel_rfl) fun l hl => ?_
 have hn : l.length = 9 := by rw [hl]; rfl
 have g0 : get l 0 = (.agg #[(.string c.name), I c.src, I c.dst, I c.shift, (.bool c.thr)]) := by rw [hl]; rfl
 have g1 : get l 1 = (ptr A 0 5) := by rw [hl]; rfl
 clear hl
 simp (disch := omega) only [↓RA, RB, simprocAttr, g0]
 refine (St.refl Tryz.prog H).eNew 5 [(.string c.name), I c.src, I c.dst, I c.shift, (.bool c.thr)] rfl rfl rfl nP fun A1 H1 hS1 => ?_
 simp only [RT] at hS1
 simp (disch := omega) only [↓RA, RZ, simprocAttr, hn, g1, hS1.ld 0 rfl, (hS1.va hA).ld, b8W, Cpl.cells]
 first | exact hS1.forget | exact ⟨rfl, hS1.forget⟩
def eH (m : Nat) (cs : List Cpl) (j : Nat) : Int :=
 let c := aC cs j
 if cP c.name = false then 8 else if ∃ q, q < j ∧ (aC cs q).name = c.name then 9 else if c.src < 0 ∨ m ≤ c.src ∨ c.dst < 0 ∨ m ≤ c.dst then 10 else if c.shift < -127 ∨ 127 < c.shift then 3 else if c.src = c.dst ∧ c.shift = 0 then 7 else 0
def lJ (ks : List (Int × Int)) (cs : List Cpl) : Int := if 8 < ks.length ∨ 40 < cs.length then 4 else if ∃ k ∈ ks, iS k.1 k.2 ≠ 0 then 23 else dB (eH ks.length cs) cs.length
end Go.Ds
namespace Go.Ds
open Go.Proofs
variable {H : Heap}
def kpc (k : Int × Int) : List Value := [I k.1, I k.2]
theorem a1v {α : Type} [Inhabited α] (xs : List α) (i j : Nat) (h : j < i) : aC (xs.take i) j = aC xs j := by
 unfold aC
 rw [List.getD_eq_getElem?_getD, List.getD_eq_getElem?_getD, List.getElem?_take_of_lt h]
theorem a3t (kv cv : Value) (ks : List (Int × Int)) (cs : List Cpl) (hk : Sl 2 kpc H kv ks) (hc : Sl 5 Cpl.cells H cv cs) (hl : ks.length < 1000000000) (hl2 : cs.length < 1000000000) :
 Fn Tryz.prog 95 [kv, cv] H fun v H' => v = I (lJ ks cs) ∧ St Tryz.prog H H' [] := by
 refine Fn.of_sw Tryz.func95 rfl (by kernel_rfl) fun l hl => ?_
 have hn : l.length = 89 := by rw [hl]; rfl
 have g0 : get l 0 = kv := by rw [hl]; rfl
 have g1 : get l 1 = cv := by rw [hl]; rfl
 clear hl
 simp (disch := omega) only [↓RA, RZ, simprocAttr, hn, g0, ((St.refl Tryz.prog H).sl hk).len]
 refine aL (fun p1 => ?_) (fun p1 => ?_)
 ·simp (disch := omega) only [↓RA, RZ, simprocAttr, hn, rN, p1]
  exact ⟨by rw [lJ, if_pos (by omega)], (St.refl Tryz.prog H)⟩
 simp (disch := omega) only [↓RA, RZ, simprocAttr, hn, g1, ((St.refl Tryz.prog H).sl hc).len, p1]
 refine aA (fun p2 => ?_) (fun p2 => ?_)
 ·simp (disch := omega) only [↓RA, RZ, simprocAttr, hn, rN, p1, p2]
  exact ⟨by rw [lJ, if_pos (by omega)], (St.refl Tryz.prog H)⟩
 simp (disch := omega) only [↓RA, RZ, simprocAttr, hn, g0, ((St.refl Tryz.prog H).sl hk).len, p1, p2]
 refine Wp.loopS (fun n l H' => l.length = 89 ∧ get l 0 = kv ∧ get l 1 = cv ∧ get l 17 = kv ∧ get l 18 = I ks.length ∧ ∃ (i : Nat), (n + i = ks.length ∧ ∀ j, j < i → iS (aC ks j).1 (aC ks j).2 = 0) ∧ get l 19 = I i ∧ St Tryz.prog H H' []) ks.length ?_ ?_
 ·simp (disch := omega) only [RB, RC, simprocAttr, hn, g0, g1]
  exact ⟨0, ⟨by omega, by simp⟩, rfl, (St.refl Tryz.prog H)⟩
 rintro n l H1 ⟨hn, g0, g1, g17, g18, i, ⟨hi1,h0⟩, g19, hS1⟩
 simp (disch := omega) only [↓RA, RB, simprocAttr, hn, g18, g19]
 refine aA (fun p3 => ?_) (fun p3 => ?_)
 ·simp (disch := omega) only [↓RA, RZ, simprocAttr, hn, g17, g19, (hS1.sl hk).idx, (hS1.sl hk).ldA, kpc, p3]
  refine hS1.eNew 2 [I 0, I 0] rfl rfl rfl tF fun A1 H2 hS2 => ?_
  simp only [RT] at hS2
  simp (disch := omega) only [↓RA, RZ, simprocAttr, hn, p3]
  refine hS2.eStore 0 rfl [I (aC ks i).1, I (aC ks i).2] rfl rfl tF (by simp) fun H3 hS3 => ?_
  simp only [RT] at hS3
  simp (disch := omega) only [↓RA, RZ, simprocAttr, hn, hS3.ldA 0 rfl, p3]
  refine aB (tT _ _) ?_
  rintro r H4 ⟨rfl, hT1⟩
  have hS4 := hS3.trans hT1
  simp only [RT] at hS4
  simp (disch := omega) only [↓RA, RZ, simprocAttr, hn, p3]
  refine aA (fun p4 => ?_) (fun p4 => ?_)
  ·simp (disch := omega) only [↓RA, RZ, simprocAttr, hn, rN, p3, p4]
   exact ⟨by rw [lJ, if_neg (by omega), if_pos ⟨_, aF (by omega), p4⟩], hS4.forget⟩
  simp (disch := omega) only [↓RA, RZ, simprocAttr, hn, g0, g1, g17, g18, g19, p3, p4]
  exact ⟨n - 1, by omega, i + 1, ⟨by omega, fun j hj => by rcases Nat.lt_succ_iff_lt_or_eq.1 hj with e | e; (· exact h0 j e); (· rw [e]; exact Classical.not_not.1 p4)⟩, by simp, hS4.sub (by simp)⟩
 have hE : lJ ks cs = dB (eH ks.length cs) cs.length := by
  rw [lJ, if_neg (by omega), if_neg]
  rintro ⟨k, hk, hne⟩
  obtain ⟨j, hj, rfl⟩ := List.mem_iff_getElem.1 hk
  rw [← bV ks j hj] at hne
  exact hne (h0 j (by omega))
 simp (disch := omega) only [↓RA, RZ, simprocAttr, hn, g1, (hS1.sl hc).len, p3]
 refine Wp.loopS (fun n l H' => l.length = 89 ∧ get l 0 = kv ∧ get l 1 = cv ∧ get l 27 = cv ∧ get l 28 = I cs.length ∧ ∃ (i : Nat), (n + i = cs.length ∧ ∀ j, j < i → eH ks.length cs j = 0) ∧ get l 29 = I i ∧ St Tryz.prog H H' []) cs.length ?_ ?_
 ·simp (disch := omega) only [RB, RC, simprocAttr, hn, g0, g1]
  exact ⟨0, ⟨by omega, by simp⟩, rfl, hS1⟩
 rintro n l H5 ⟨hn, g0, g1, g27, g28, i, ⟨hi2,hz⟩, g29, hS5⟩
 simp (disch := omega) only [↓RA, RB, simprocAttr, hn, g28, g29]
 refine aA (fun q1 => ?_) (fun q1 => ?_)
 ·have key : eH ks.length cs i ≠ 0 → lJ ks cs = eH ks.length cs i := fun hne => by rw [hE, fZ _ _ i (by omega) hne hz]
  simp (disch := omega) only [↓RA, RZ, simprocAttr, hn, g27, g29, (hS5.sl hc).idx, (hS5.sl hc).ldA, Cpl.cells, q1]
  refine hS5.eNew 5 [(.string ⟨#[]⟩), I 0, I 0, I 0, (.bool false)] rfl rfl rfl nP fun A2 H6 hS6 => ?_
  simp only [RT] at hS6
  simp (disch := omega) only [↓RA, RZ, simprocAttr, hn, q1]
  refine hS6.eStore 0 rfl [(.string (aC cs i).name), I (aC cs i).src, I (aC cs i).dst, I (aC cs i).shift, (.bool (aC cs i).thr)] rfl rfl nP (by simp) fun H7 hS7 => ?_
  simp only [RT] at hS7
  simp (disch := omega) only [↓RA, RZ, simprocAttr, hn, hS7.ld 0 rfl, q1]
  refine aB (iM _) ?_
  rintro r H8 ⟨rfl, hT2⟩
  have hS8 := hS7.trans hT2
  simp only [RT] at hS8
  simp (disch := omega) only [↓RA, RZ, simprocAttr, hn, q1]
  refine bU (fun q2 => ?_) (fun q2 => ?_)
  ·have e1 : eH ks.length cs i = 8 := by unfold eH; simp only; rw [if_pos (by simpa using q2)]
   simp (disch := omega) only [↓RA, RZ, simprocAttr, hn, rN, q1, q2]
   exact ⟨by rw [key (by rw [e1]; decide), e1], hS8.forget⟩
  have q2' : ¬ cP (aC cs i).name = false := by simpa using q2
  simp (disch := omega) only [↓RA, RZ, simprocAttr, hn, g1, (hS8.sl hc).sliceH, q1, q2]
  have hA := hS8.var 0 rfl
  refine aB (b4k _ (cs.take i) ((hS8.sl hc).subH i (by omega) (by omega)) (by simp; omega) 165 [ptr A2 0 5] (fun j => decide ((aC (cs.take i) j).name = (aC cs i).name)) (fun j H1 hj hS' => a3F _ A2 (aC cs i) (hS'.va hA))) ?_
  rintro r H9 ⟨rfl, hT3⟩
  have hS9 := hS8.trans hT3
  simp only [RT] at hS9
  have hx : 0 ≤ jM (fun j => decide ((aC (cs.take i) j).name = (aC cs i).name)) (cs.take i).length ↔ ∃ q, q < i ∧ (aC cs q).name = (aC cs i).name := by
   rw [a0K]
   constructor
   ·rintro ⟨j, hj, hp⟩
    have hj' : j < i := by simp at hj; omega
    exact ⟨j, hj', by rw [← a1v cs i j hj']; exact of_decide_eq_true hp⟩
   ·rintro ⟨j, hj, hp⟩
    exact ⟨j, by simp; omega, decide_eq_true (by rw [a1v cs i j hj]; exact hp)⟩
  simp (disch := omega) only [↓RA, RZ, simprocAttr, hn, q1, q2]
  refine aA (fun q3 => ?_) (fun q3 => ?_)
  ·have e1 : eH ks.length cs i = 9 := by unfold eH; simp only; rw [if_neg q2', if_pos (hx.1 q3)]
   simp (disch := omega) only [↓RA, RZ, simprocAttr, hn, rN, q1, q2, q3]
   exact ⟨by rw [key (by rw [e1]; decide), e1], hS9.forget⟩
  have q3' : ¬ ∃ q, q < i ∧ (aC cs q).name = (aC cs i).name := fun hh => q3 (hx.2 hh)
  have hC : eH ks.length cs i = if (aC cs i).src < 0 ∨ ks.length ≤ (aC cs i).src ∨ (aC cs i).dst < 0 ∨ ks.length ≤ (aC cs i).dst then 10 else if (aC cs i).shift < -127 ∨ 127 < (aC cs i).shift then 3 else if (aC cs i).src = (aC cs i).dst ∧ (aC cs i).shift = 0 then 7 else 0 := by
   unfold eH; simp only; rw [if_neg q2', if_neg q3']
  clear hx
  simp (disch := omega) only [↓RA, RZ, simprocAttr, hn, hS9.ld 0 rfl, q1, q2, q3]
  refine aL (fun h1 => ?_) (fun h1 => ?_)
  ·simp (disch := omega) only [↓RA, RZ, simprocAttr, hn, rN, q1, q2, q3, h1]
   (first | (have e1 : eH ks.length cs i = 10 := by rw [hC, if_pos (by omega)]); exact ⟨by rw [key (by rw [e1]; decide), e1], hS9.forget⟩ | (have e1 : eH ks.length cs i = 3 := by rw [hC, if_neg (by omega), if_pos (by omega)]); exact ⟨by rw [key (by rw [e1]; decide), e1], hS9.forget⟩ | (have e1 : eH ks.length cs i = 7 := by rw [hC, if_neg (by omega), if_neg (by omega), if_pos (by omega)]); exact ⟨by rw [key (by rw [e1]; decide), e1], hS9.forget⟩)
  simp (disch := omega) only [↓RA, RZ, simprocAttr, hn, g0, hS9.ld 0 rfl, (hS9.sl hk).len, q1, q2, q3, h1]
  refine aL (fun h2 => ?_) (fun h2 => ?_)
  ·simp (disch := omega) only [↓RA, RZ, simprocAttr, hn, rN, q1, q2, q3, h1, h2]
   (first | (have e1 : eH ks.length cs i = 10 := by rw [hC, if_pos (by omega)]); exact ⟨by rw [key (by rw [e1]; decide), e1], hS9.forget⟩ | (have e1 : eH ks.length cs i = 3 := by rw [hC, if_neg (by omega), if_pos (by omega)]); exact ⟨by rw [key (by rw [e1]; decide), e1], hS9.forget⟩ | (have e1 : eH ks.length cs i = 7 := by rw [hC, if_neg (by omega), if_neg (by omega), if_pos (by omega)]); exact ⟨by rw [key (by rw [e1]; decide), e1], hS9.forget⟩)
  simp (disch := omega) only [↓RA, RZ, simprocAttr, hn, hS9.ld 0 rfl, q1, q2, q3, h1, h2]
  refine aL (fun h3 => ?_) (fun h3 => ?_)
  ·simp (disch := omega) only [↓RA, RZ, simprocAttr, hn, rN, q1, q2, q3, h1, h2, h3]
   (first | (have e1 : eH ks.length cs i = 10 := by rw [hC, if_pos (by omega)]); exact ⟨by rw [key (by rw [e1]; decide), e1], hS9.forget⟩ | (have e1 : eH ks.length cs i = 3 := by rw [hC, if_neg (by omega), if_pos (by omega)]); exact ⟨by rw [key (by rw [e1]; decide), e1], hS9.forget⟩ | (have e1 : eH ks.length cs i = 7 := by rw [hC, if_neg (by omega), if_neg (by omega), if_pos (by omega)]); exact ⟨by rw [key (by rw [e1]; decide), e1], hS9.forget⟩)
  simp (disch := omega) only [↓RA, RZ, simprocAttr, hn, g0, hS9.ld 0 rfl, (hS9.sl hk).len, q1, q2, q3, h1, h2, h3]
  refine aA (fun h4 => ?_) (fun h4 => ?_)
  ·simp (disch := omega) only [↓RA, RZ, simprocAttr, hn, rN, q1, q2, q3, h1, h2, h3, h4]
   (first | (have e1 : eH ks.length cs i = 10 := by rw [hC, if_pos (by omega)]); exact ⟨by rw [key (by rw [e1]; decide), e1], hS9.forget⟩ | (have e1 : eH ks.length cs i = 3 := by rw [hC, if_neg (by omega), if_pos (by omega)]); exact ⟨by rw [key (by rw [e1]; decide), e1], hS9.forget⟩ | (have e1 : eH ks.length cs i = 7 := by rw [hC, if_neg (by omega), if_neg (by omega), if_pos (by omega)]); exact ⟨by rw [key (by rw [e1]; decide), e1], hS9.forget⟩)
  simp (disch := omega) only [↓RA, RZ, simprocAttr, hn, hS9.ld 0 rfl, q1, q2, q3, h1, h2, h3, h4]
  refine aL (fun h5 => ?_) (fun h5 => ?_)
  ·simp (disch := omega) only [↓RA, RZ, simprocAttr, hn, rN, q1, q2, q3, h1, h2, h3, h4, h5]
   (first | (have e1 : eH ks.length cs i = 10 := by rw [hC, if_pos (by omega)]); exact ⟨by rw [key (by rw [e1]; decide), e1], hS9.forget⟩ | (have e1 : eH ks.length cs i = 3 := by rw [hC, if_neg (by omega), if_pos (by omega)]); exact ⟨by rw [key (by rw [e1]; decide), e1], hS9.forget⟩ | (have e1 : eH ks.length cs i = 7 := by rw [hC, if_neg (by omega), if_neg (by omega), if_pos (by omega)]); exact ⟨by rw [key (by rw [e1]; decide), e1], hS9.forget⟩)
  simp (disch := omega) only [↓RA, RZ, simprocAttr, hn, hS9.ld 0 rfl, q1, q2, q3, h1, h2, h3, h4, h5]
  refine aA (fun h6 => ?_) (fun h6 => ?_)
  ·simp (disch := omega) only [↓RA, RZ, simprocAttr, hn, rN, q1, q2, q3, h1, h2, h3, h4, h5, h6]
   (first | (have e1 : eH ks.length cs i = 10 := by rw [hC, if_pos (by omega)]); exact ⟨by rw [key (by rw [e1]; decide), e1], hS9.forget⟩ | (have e1 : eH ks.length cs i = 3 := by rw [hC, if_neg (by omega), if_pos (by omega)]); exact ⟨by rw [key (by rw [e1]; decide), e1], hS9.forget⟩ | (have e1 : eH ks.length cs i = 7 := by rw [hC, if_neg (by omega), if_neg (by omega), if_pos (by omega)]); exact ⟨by rw [key (by rw [e1]; decide), e1], hS9.forget⟩)
  simp (disch := omega) only [↓RA, RZ, simprocAttr, hn, hS9.ld 0 rfl, q1, q2, q3, h1, h2, h3, h4, h5, h6]
  refine cK (fun h7 => ?_) (fun h7 => ?_)
  ·simp (disch := omega) only [↓RA, RZ, simprocAttr, hn, hS9.ld 0 rfl, q1, q2, q3, h3, h4, h5, h6, h7]
   refine aA (fun h8 => ?_) (fun h8 => ?_)
   ·simp (disch := omega) only [↓RA, RZ, simprocAttr, hn, rN, q1, q2, q3, h3, h4, h7, h8]
    (first | (have e1 : eH ks.length cs i = 10 := by rw [hC, if_pos (by omega)]); exact ⟨by rw [key (by rw [e1]; decide), e1], hS9.forget⟩ | (have e1 : eH ks.length cs i = 3 := by rw [hC, if_neg (by omega), if_pos (by omega)]); exact ⟨by rw [key (by rw [e1]; decide), e1], hS9.forget⟩ | (have e1 : eH ks.length cs i = 7 := by rw [hC, if_neg (by omega), if_neg (by omega), if_pos (by omega)]); exact ⟨by rw [key (by rw [e1]; decide), e1], hS9.forget⟩)
   simp (disch := omega) only [↓RA, RZ, simprocAttr, hn, g0, g1, g27, g28, g29, q1, q2, q3, h3, h4, h5, h6, h7, h8]
   have e0 : eH ks.length cs i = 0 := by rw [hC, if_neg (by omega), if_neg (by omega), if_neg (by omega)]
   exact ⟨n - 1, by omega, i + 1, ⟨by omega, fun j hj => by rcases Nat.lt_succ_iff_lt_or_eq.1 hj with e | e; (· exact hz j e); (· rw [e]; exact e0)⟩, by simp, hS9.sub (by simp)⟩
  simp (disch := omega) only [↓RA, RZ, simprocAttr, hn, g0, g1, g27, g28, g29, q1, q2, q3, h1, h2, h3, h4, h5, h6, h7]
  have e0 : eH ks.length cs i = 0 := by rw [hC, if_neg (by omega), if_neg (by omega), if_neg (by omega)]
  exact ⟨n - 1, by omega, i + 1, ⟨by omega, fun j hj => by rcases Nat.lt_succ_iff_lt_or_eq.1 hj with e | e; (· exact hz j e); (· rw [e]; exact e0)⟩, by simp, hS9.sub (by simp)⟩
 simp (disch := omega) only [↓RA, RZ, simprocAttr, hn, rN, q1]
 exact ⟨by rw [hE, cN _ _ fun j hj => hz j (by omega)], hS5.forget⟩
end Go.Ds
namespace Go.Ds
open Go.Proofs
variable {H : Heap}
def gJ (rs : List Rk) (lo hi : Int) (l : List Stp) (j : Nat) : Int := if stopE rs lo hi (aC l j) ≠ 0 then stopE rs lo hi (aC l j) else if ∃ q, q < j ∧ (aC l q).name = (aC l j).name then 9 else 0
def divE (rs : List Rk) (d : Dvn) : Int := if iS d.lo d.hi ≠ 0 then iS d.lo d.hi else if 60 < d.stops.length then 4 else dB (gJ rs d.lo d.hi d.stops) d.stops.length
theorem rL {kvs kvs' : List (ByteArray × Bool)} {f : Nat → ByteArray} {i : Nat} (h : ∀ t, iE kvs t = true ↔ ∃ q, q < i ∧ f q = t) (h' : ∀ t, iE kvs' t = (iE kvs t || decide (t = f i))) : ∀ t, iE kvs' t = true ↔ ∃ q, q < i + 1 ∧ f q = t := by
 intro t
 rw [h', Bool.or_eq_true, h, decide_eq_true_iff]
 constructor
 ·rintro (⟨q, hq, e⟩ | e)
  ·exact ⟨q, by omega, e⟩
  ·exact ⟨i, by omega, e.symm⟩
 ·rintro ⟨q, hq, e⟩
  rcases Nat.lt_succ_iff_lt_or_eq.1 hq with hh | hh
  ·exact .inl ⟨q, hh, e⟩
  ·right; rw [← e, hh]
theorem wW (t : ByteArray) : iE [] t = false := rfl
theorem b7H (o : Org) (ho : o.In H) (d : Dvn) (hd : d.In H) :
 Fn Tryz.prog 94 [.agg #[.string o.name, o.rv, o.dv, o.cv], .agg #[.string d.name, .bool d.pedal, I d.lo, I d.hi, d.sv]] H fun v H' => v = I (divE o.ranks d) ∧ St Tryz.prog H H' [] := by
 have hl := hd.2.2
 refine Fn.of_sw Tryz.func94 rfl (by kernel_rfl) fun l hl => ?_
 have hn : l.length = 47 := by rw [hl]; rfl
 have g0 : get l 0 = (.agg #[(.string o.name), o.rv, o.dv, o.cv]) := by rw [hl]; rfl
 have g1 : get l 1 = (.agg #[(.string d.name), (.bool d.pedal), I d.lo, I d.hi, d.sv]) := by rw [hl]; rfl
 clear hl
 simp (disch := omega) only [↓RA, RB, simprocAttr, g0]
 refine (St.refl Tryz.prog H).eNew 4 [(.string o.name), o.rv, o.dv, o.cv] rfl rfl (by simp [OC, ((St.refl Tryz.prog H).sl ho.1).cells.2.1, ((St.refl Tryz.prog H).sl ho.2.2.1).cells.2.1, ((St.refl Tryz.prog H).sl ho.2.2.2.2.1).cells.2.1]) fW fun A1 H1 hS1 => ?_
 simp only [RT] at hS1
 simp (disch := omega) only [↓RA, RB, simprocAttr, g1]
 refine hS1.eNew 5 [(.string d.name), (.bool d.pedal), I d.lo, I d.hi, d.sv] rfl rfl (by simp [OC, (hS1.sl hd.1).cells.2.1]) wY fun A2 H2 hS2 => ?_
 simp only [RT] at hS2
 simp (disch := omega) only [↓RA, RZ, simprocAttr, hn, hS2.ldA 1 rfl]
 refine aB (tT d.lo d.hi) ?_
 rintro r H3 ⟨rfl, hT1⟩
 have hS3 := hS2.trans hT1
 simp only [RT] at hS3
 simp (disch := omega) only [↓RA, RB, simprocAttr, hn]
 refine aA (fun p1 => ?_) (fun p1 => ?_)
 ·simp (disch := omega) only [↓RA, RZ, simprocAttr, hn, b0U, p1]
  exact ⟨by rw [divE, if_pos p1], hS3.forget⟩
 simp (disch := omega) only [↓RA, RZ, simprocAttr, hn, hS3.ld 1 rfl, (hS3.sl hd.1).len, p1]
 refine aA (fun p2 => ?_) (fun p2 => ?_)
 ·simp (disch := omega) only [↓RA, RZ, simprocAttr, hn, b0U, p1, p2]
  exact ⟨by rw [divE, if_neg p1, if_pos (by omega)], hS3.forget⟩
 have hE : divE o.ranks d = dB (gJ o.ranks d.lo d.hi d.stops) d.stops.length := by rw [divE, if_neg p1, if_neg (by omega)]
 simp (disch := omega) only [↓RA, simprocAttr]
 refine hS3.eMap a2Z fun M1 H4 hS4 => ?_
 simp only [RT] at hS4
 simp (disch := omega) only [↓RA, RZ, simprocAttr, hn, hS4.ld 1 rfl, (hS4.sl hd.1).len, p1, p2]
 refine Wp.loopS (fun n l H' => l.length = 47 ∧ get l 2 = (ptr A1 0 4) ∧ get l 3 = (ptr A2 0 5) ∧ get l 6 = (.map (some M1)) ∧ get l 23 = d.sv ∧ get l 24 = I d.stops.length ∧ ∃ (i : Nat) (kvs : List (ByteArray × Bool)), (n + i = d.stops.length ∧ (∀ j, j < i → gJ o.ranks d.lo d.hi d.stops j = 0) ∧ (∀ t, iE kvs t = true ↔ ∃ q, q < i ∧ (aC d.stops q).name = t)) ∧ get l 25 = I i ∧ St Tryz.prog H H' [⟨ptr A1 0 4, 0, [(.string o.name), o.rv, o.dv, o.cv]⟩, ⟨ptr A2 0 5, 0, [(.string d.name), (.bool d.pedal), I d.lo, I d.hi, d.sv]⟩, ⟨.map (some M1), 0, KS kvs⟩]) d.stops.length ?_ ?_
 ·simp (disch := omega) only [RB, RC, simprocAttr, hn]
  exact ⟨0, [], ⟨by omega, by simp, by simp [wW]⟩, rfl, hS4⟩
 rintro n l H5 ⟨hn, g2, g3, g6, g23, g24, i, kvs, ⟨hi1,hz,hk⟩, g25, hS5⟩
 simp (disch := omega) only [↓RA, RB, simprocAttr, hn, g24, g25]
 refine aA (fun q1 => ?_) (fun q1 => ?_)
 ·have key : gJ o.ranks d.lo d.hi d.stops i ≠ 0 → divE o.ranks d = gJ o.ranks d.lo d.hi d.stops i := fun hne => by rw [hE, fZ _ _ i (by omega) hne hz]
  simp (disch := omega) only [↓RA, RZ, simprocAttr, hn, g23, g25, (hS5.sl hd.1).idx, (hS5.sl hd.1).ldA, Stp.cells, q1]
  refine hS5.eNew 4 [(.string ⟨#[]⟩), I 0, I 0, (.slice none 0 0)] rfl rfl rfl lN fun A3 H6 hS6 => ?_
  simp only [RT] at hS6
  simp (disch := omega) only [↓RA, RZ, simprocAttr, hn, q1]
  refine hS6.eStore 3 rfl [(.string (aC d.stops i).name), I (aC d.stops i).num, I (aC d.stops i).den, (aC d.stops i).gv] rfl (by simp [OC, (hS6.sl (hd.2.1 (aC d.stops i) (aF (by omega))).1).cells.2.1]) lN (by simp) fun H7 hS7 => ?_
  simp only [RT] at hS7
  simp (disch := omega) only [↓RA, RZ, simprocAttr, hn, g2, g3, hS7.ld 0 rfl, hS7.ldA 1 rfl, a7l (hS7.sl ho.1).cells, hS7.ldA 3 rfl, q1]
  refine aB (b3w o.rv o.ranks d.lo d.hi (hS7.sl ho.1) (fun r h => (ho.2.1 r h).keep hS7) ho.2.2.2.2.2.1 (aC d.stops i) ((hd.2.1 _ (aF (by omega))).keep hS7)) ?_
  rintro r H8 ⟨rfl, hT2⟩
  have hS8 := hS7.trans hT2
  simp only [RT] at hS8
  simp (disch := omega) only [↓RA, RZ, simprocAttr, hn, q1]
  refine aA (fun q2 => ?_) (fun q2 => ?_)
  ·have e1 : gJ o.ranks d.lo d.hi d.stops i = stopE o.ranks d.lo d.hi (aC d.stops i) := by rw [gJ, if_pos q2]
   simp (disch := omega) only [↓RA, RZ, simprocAttr, hn, b0U, q1, q2]
   exact ⟨by rw [key (by rw [e1]; exact q2), e1], hS8.forget⟩
  simp (disch := omega) only [↓RA, RZ, simprocAttr, hn, g6, hS8.ld 3 rfl, q1, q2]
  have hM1 := hS8.pick (os' := [⟨.map (some M1), 0, _⟩]) [2] (by decide) rfl
  have hR1 := hS8.pick (os' := [⟨.map (some M1), 0, _⟩, ⟨ptr A1 0 4, 0, _⟩, ⟨ptr A2 0 5, 0, _⟩, ⟨ptr A3 0 4, 0, _⟩]) [2, 0, 1, 3] (by decide) rfl
  refine aB (wD _ M1 kvs (aC d.stops i).name hM1.rebase) ?_
  rintro r H9 ⟨rfl, kvs', hk', hT3⟩
  have hS9 := hR1.frame hT3
  simp only [RT] at hS9
  simp (disch := omega) only [↓RA, RZ, simprocAttr, hn, q1, q2]
  refine aA (fun q3 => ?_) (fun q3 => ?_)
  ·have q3' : iE kvs (aC d.stops i).name = true := by
    by_cases hh : iE kvs (aC d.stops i).name = true
    ·exact hh
    ·rw [if_neg hh] at q3; exact absurd rfl q3
   have e1 : gJ o.ranks d.lo d.hi d.stops i = 9 := by rw [gJ, if_neg q2, if_pos ((hk _).1 q3')]
   simp (disch := omega) only [↓RA, RZ, simprocAttr, hn, b0U, q1, q2, q3]
   exact ⟨by rw [key (by rw [e1]; decide), e1, if_pos q3'], hS9.forget⟩
  have q3' : ¬ iE kvs (aC d.stops i).name = true := fun hh => q3 (by rw [if_pos hh]; decide)
  have e0 : gJ o.ranks d.lo d.hi d.stops i = 0 := by rw [gJ, if_neg q2, if_neg (fun hh => q3' ((hk _).2 hh))]
  simp (disch := omega) only [↓RA, RZ, simprocAttr, hn, g2, g3, g6, g23, g24, g25, q1, q2, q3]
  exact ⟨n - 1, by omega, i + 1, kvs', ⟨by omega, fun j hj => by rcases Nat.lt_succ_iff_lt_or_eq.1 hj with e | e; (· exact hz j e); (· rw [e]; exact e0), rL (f := fun q => (aC d.stops q).name) hk hk'⟩, by simp, hS9.pick [1, 2, 0] (by decide) rfl⟩
 simp (disch := omega) only [↓RA, RZ, simprocAttr, hn, b0U, q1]
 exact ⟨by rw [hE, cN _ _ fun j hj => hz j (by omega)], hS5.forget⟩
end Go.Ds
namespace Go.Ds
open Go.Proofs
variable {H : Heap}
def fL (l : List Rk) (j : Nat) : Int := if rankE (aC l j) ≠ 0 then rankE (aC l j) else if ∃ q, q < j ∧ (aC l q).name = (aC l j).name then 9 else 0
def lP (rs : List Rk) (l : List Dvn) (j : Nat) : Int := if cP (aC l j).name = false then 8 else if ∃ q, q < j ∧ (aC l q).name = (aC l j).name then 9 else divE rs (aC l j)
def kps (l : List Dvn) : List (Int × Int) := l.map fun d => (d.lo, d.hi)
def organE (o : Org) : Int := if cP o.name = false then 8 else if 60 < o.ranks.length then 4 else if dB (fL o.ranks) o.ranks.length ≠ 0 then dB (fL o.ranks) o.ranks.length else
 if o.dvs.length = 0 then 13 else if 8 < o.dvs.length then 4 else if dB (lP o.ranks o.dvs) o.dvs.length ≠ 0 then dB (lP o.ranks o.dvs) o.dvs.length else lJ (kps o.dvs) o.cpls
theorem nD (k : Int × Int) : (kpc k).length = 2 := rfl
theorem b0g (l : List Dvn) (i : Nat) (h : i < l.length) : (kps (l.take (i + 1))).flatMap kpc = (kps (l.take i)).flatMap kpc ++ [I (aC l i).lo, I (aC l i).hi] := by
 unfold kps
 rw [xV l i h, List.map_append, List.flatMap_append]
 rfl
theorem wT (o : Org) (ho : o.In H) : Fn Tryz.prog 32 [.agg #[.string o.name, o.rv, o.dv, o.cv]] H fun v H' => v = I (organE o) ∧ St Tryz.prog H H' [] := by
 have hlr := ho.2.2.2.2.2.1
 have hld := ho.2.2.2.2.2.2.1
 have hlc := ho.2.2.2.2.2.2.2
 refine Fn.of_sw Tryz.func32 rfl (by kernel_rfl) fun l hl => ?_
 have hn : l.length = 89 := by rw [hl]; rfl
 have g0 : get l 0 = (.agg #[(.string o.name), o.rv, o.dv, o.cv]) := by rw [hl]; rfl
 clear hl
 simp (disch := omega) only [↓RA, RB, simprocAttr, g0]
 refine (St.refl Tryz.prog H).eNew 4 [(.string o.name), o.rv, o.dv, o.cv] rfl rfl (by simp [OC, ((St.refl Tryz.prog H).sl ho.1).cells.2.1, ((St.refl Tryz.prog H).sl ho.2.2.1).cells.2.1, ((St.refl Tryz.prog H).sl ho.2.2.2.2.1).cells.2.1]) fW fun A1 H1 hS1 => ?_
 simp only [RT] at hS1
 simp (disch := omega) only [↓RA, RZ, simprocAttr, hn, hS1.ld 0 rfl]
 refine aB (iM _) ?_
 rintro r H2 ⟨rfl, hT1⟩
 have hS2 := hS1.trans hT1
 simp only [RT] at hS2
 simp (disch := omega) only [↓RA, RB, simprocAttr, hn]
 refine bU (fun p1 => ?_) (fun p1 => ?_)
 ·simp (disch := omega) only [↓RA, RB, simprocAttr, hn, xU, p1]
  exact ⟨by rw [organE, if_pos (by simpa using p1)], hS2.forget⟩
 have p1' : ¬ cP o.name = false := by simpa using p1
 simp (disch := omega) only [↓RA, RZ, simprocAttr, hn, hS2.ld 0 rfl, (hS2.sl ho.1).len, p1]
 refine aA (fun p2 => ?_) (fun p2 => ?_)
 ·simp (disch := omega) only [↓RA, RZ, simprocAttr, hn, xU, p1, p2]
  exact ⟨by rw [organE, if_neg p1', if_pos (by omega)], hS2.forget⟩
 simp (disch := omega) only [↓RA, simprocAttr]
 refine hS2.eMap a2Z fun M1 H3 hS3 => ?_
 simp only [RT] at hS3
 simp (disch := omega) only [↓RA, RZ, simprocAttr, hn, hS3.ld 0 rfl, (hS3.sl ho.1).len, p1, p2]
 refine Wp.loopS (fun n l H' => l.length = 89 ∧ get l 1 = (ptr A1 0 4) ∧ get l 3 = (.map (some M1)) ∧ get l 25 = o.rv ∧ get l 26 = I o.ranks.length ∧ ∃ (i : Nat) (kvs : List (ByteArray × Bool)), (n + i = o.ranks.length ∧ (∀ j, j < i → fL o.ranks j = 0) ∧ (∀ t, iE kvs t = true ↔ ∃ q, q < i ∧ (aC o.ranks q).name = t)) ∧ get l 27 = I i ∧ St Tryz.prog H H' [⟨ptr A1 0 4, 0, [(.string o.name), o.rv, o.dv, o.cv]⟩, ⟨.map (some M1), 0, KS kvs⟩]) o.ranks.length ?_ ?_
 ·simp (disch := omega) only [RB, RC, simprocAttr, hn]
  exact ⟨0, [], ⟨by omega, by simp, by simp [wW]⟩, rfl, hS3⟩
 rintro n l H4 ⟨hn, g1, g3, g25, g26, i, kvs, ⟨hi1,hz,hk⟩, g27, hS4⟩
 simp (disch := omega) only [↓RA, RB, simprocAttr, hn, g26, g27]
 refine aA (fun q1 => ?_) (fun q1 => ?_)
 ·have key : fL o.ranks i ≠ 0 → organE o = fL o.ranks i := fun hne => by rw [organE, if_neg p1', if_neg (by omega), fZ _ _ i (by omega) hne hz, if_pos hne]
  simp (disch := omega) only [↓RA, RZ, simprocAttr, hn, g25, g27, (hS4.sl ho.1).idx, (hS4.sl ho.1).ldA, Rk.cells, q1]
  refine hS4.eNew 6 [(.string ⟨#[]⟩), (.string ⟨#[]⟩), I 0, I 0, I 0, (.slice none 0 0)] rfl rfl rfl jF fun A2 H5 hS5 => ?_
  simp only [RT] at hS5
  simp (disch := omega) only [↓RA, RZ, simprocAttr, hn, q1]
  refine hS5.eStore 2 rfl [(.string (aC o.ranks i).name), (.string (aC o.ranks i).tone), I (aC o.ranks i).num, I (aC o.ranks i).den, I (aC o.ranks i).first, (aC o.ranks i).wv] rfl (by simp [OC, (hS5.sl (ho.2.1 (aC o.ranks i) (aF (by omega))).1).cells.2.1]) jF (by simp) fun H6 hS6 => ?_
  simp only [RT] at hS6
  simp (disch := omega) only [↓RA, RZ, simprocAttr, hn, hS6.ldA 2 rfl, q1]
  refine aB (a6w (aC o.ranks i) ((ho.2.1 _ (aF (by omega))).keep hS6)) ?_
  rintro r H7 ⟨rfl, hT2⟩
  have hS7 := hS6.trans hT2
  simp only [RT] at hS7
  simp (disch := omega) only [↓RA, RZ, simprocAttr, hn, q1]
  refine aA (fun q2 => ?_) (fun q2 => ?_)
  ·have e1 : fL o.ranks i = rankE (aC o.ranks i) := by rw [fL, if_pos q2]
   simp (disch := omega) only [↓RA, RZ, simprocAttr, hn, xU, q1, q2]
   exact ⟨by rw [key (by rw [e1]; exact q2), e1], hS7.forget⟩
  simp (disch := omega) only [↓RA, RZ, simprocAttr, hn, g3, hS7.ld 2 rfl, q1, q2]
  have hM1 := hS7.pick (os' := [⟨.map (some M1), 0, _⟩]) [1] (by decide) rfl
  have hR1 := hS7.pick (os' := [⟨.map (some M1), 0, _⟩, ⟨ptr A1 0 4, 0, _⟩, ⟨ptr A2 0 6, 0, _⟩]) [1, 0, 2] (by decide) rfl
  refine aB (wD _ M1 kvs (aC o.ranks i).name hM1.rebase) ?_
  rintro r H8 ⟨rfl, kvs', hk', hT3⟩
  have hS8 := hR1.frame hT3
  simp only [RT] at hS8
  simp (disch := omega) only [↓RA, RZ, simprocAttr, hn, q1, q2]
  refine aA (fun q3 => ?_) (fun q3 => ?_)
  ·have q3' : iE kvs (aC o.ranks i).name = true := by
    by_cases hh : iE kvs (aC o.ranks i).name = true
    ·exact hh
    ·rw [if_neg hh] at q3; exact absurd rfl q3
   have e1 : fL o.ranks i = 9 := by rw [fL, if_neg q2, if_pos ((hk _).1 q3')]
   simp (disch := omega) only [↓RA, RZ, simprocAttr, hn, xU, q1, q2, q3]
   exact ⟨by rw [key (by rw [e1]; decide), e1, if_pos q3'], hS8.forget⟩
  have q3' : ¬ iE kvs (aC o.ranks i).name = true := fun hh => q3 (by rw [if_pos hh]; decide)
  have e0 : fL o.ranks i = 0 := by rw [fL, if_neg q2, if_neg (fun hh => q3' ((hk _).2 hh))]
  simp (disch := omega) only [↓RA, RZ, simprocAttr, hn, g1, g3, g25, g26, g27, q1, q2, q3]
  exact ⟨n - 1, by omega, i + 1, kvs', ⟨by omega, fun j hj => by rcases Nat.lt_succ_iff_lt_or_eq.1 hj with e | e; (· exact hz j e); (· rw [e]; exact e0), rL (f := fun q => (aC o.ranks q).name) hk hk'⟩, by simp, hS8.pick [1, 0] (by decide) rfl⟩
 have hR : dB (fL o.ranks) o.ranks.length = 0 := cN _ _ fun j hj => hz j (by omega)
 clear hk hz
 simp (disch := omega) only [↓RA, RZ, simprocAttr, hn, g1, hS4.ld 0 rfl, (hS4.sl ho.2.2.1).len, q1]
 refine aA (fun p4 => ?_) (fun p4 => ?_)
 ·simp (disch := omega) only [↓RA, RZ, simprocAttr, hn, xU, q1, p4]
  exact ⟨by rw [organE, if_neg p1', if_neg (by omega), if_neg (by rw [hR]; simp), if_pos (by omega)], hS4.forget⟩
 simp (disch := omega) only [↓RA, RZ, simprocAttr, hn, g1, hS4.ld 0 rfl, (hS4.sl ho.2.2.1).len, q1, p4]
 refine aA (fun p5 => ?_) (fun p5 => ?_)
 ·simp (disch := omega) only [↓RA, RZ, simprocAttr, hn, xU, q1, p4, p5]
  exact ⟨by rw [organE, if_neg p1', if_neg (by omega), if_neg (by rw [hR]; simp), if_neg (by omega), if_pos (by omega)], hS4.forget⟩
 have hE : organE o = if dB (lP o.ranks o.dvs) o.dvs.length ≠ 0 then dB (lP o.ranks o.dvs) o.dvs.length else lJ (kps o.dvs) o.cpls := by
  rw [organE, if_neg p1', if_neg (by omega), if_neg (by rw [hR]; simp), if_neg (by omega), if_neg (by omega)]
 clear hR
 simp (disch := omega) only [↓RA, simprocAttr]
 refine hS4.eMap a2Z fun M2 H9 hS9 => ?_
 simp only [RT] at hS9
 simp (disch := omega) only [↓RA, RZ, simprocAttr, hn, g1, hS9.ld 0 rfl, (hS9.sl ho.2.2.1).len, q1, p4, p5]
 have hS10 := hS9.pick (os' := [⟨ptr A1 0 4, 0, _⟩, ⟨.map (some M2), 0, _⟩]) [0, 2] (by decide) rfl
 have hS11 := hS10.nil 1
 simp only [RT] at hS11
 refine Wp.loopS (fun n l H' => l.length = 89 ∧ get l 1 = (ptr A1 0 4) ∧ get l 3 = (.map (some M2)) ∧ get l 56 = o.dv ∧ get l 57 = I o.dvs.length ∧ ∃ (i : Nat) (kvs : List (ByteArray × Bool)) (w : Value), (n + i = o.dvs.length ∧ (∀ j, j < i → lP o.ranks o.dvs j = 0) ∧ (∀ t, iE kvs t = true ↔ ∃ q, q < i ∧ (aC o.dvs q).name = t)) ∧ get l 58 = I i ∧ get l 8 = w ∧ St Tryz.prog H H' [⟨ptr A1 0 4, 0, [(.string o.name), o.rv, o.dv, o.cv]⟩, ⟨.map (some M2), 0, KS kvs⟩, ⟨w, 2, (kps (o.dvs.take i)).flatMap kpc⟩]) o.dvs.length ?_ ?_
 ·simp (disch := omega) only [RB, RC, simprocAttr, hn, g1]
  exact ⟨0, [], _, ⟨by omega, by simp, by simp [wW]⟩, rfl, rfl, hS11⟩
 rintro n l H10 ⟨hn, g1, g3, g56, g57, i, kvs, w, ⟨hi1,hz,hk⟩, g58, g8, hS12⟩
 simp (disch := omega) only [↓RA, RB, simprocAttr, hn, g57, g58]
 refine aA (fun q1 => ?_) (fun q1 => ?_)
 ·have key : lP o.ranks o.dvs i ≠ 0 → organE o = lP o.ranks o.dvs i := fun hne => by rw [hE, fZ _ _ i (by omega) hne hz, if_pos hne]
  simp (disch := omega) only [↓RA, RZ, simprocAttr, hn, g56, g58, (hS12.sl ho.2.2.1).idx, (hS12.sl ho.2.2.1).ldA, Dvn.cells, q1]
  refine hS12.eNew 5 [(.string ⟨#[]⟩), (.bool false), I 0, I 0, (.slice none 0 0)] rfl rfl rfl wY fun A3 H11 hS13 => ?_
  simp only [RT] at hS13
  simp (disch := omega) only [↓RA, RZ, simprocAttr, hn, q1]
  refine hS13.eStore 3 rfl [(.string (aC o.dvs i).name), (.bool (aC o.dvs i).pedal), I (aC o.dvs i).lo, I (aC o.dvs i).hi, (aC o.dvs i).sv] rfl (by simp [OC, (hS13.sl (ho.2.2.2.1 (aC o.dvs i) (aF (by omega))).1).cells.2.1]) wY (by simp) fun H12 hS14 => ?_
  simp only [RT] at hS14
  simp (disch := omega) only [↓RA, RZ, simprocAttr, hn, hS14.ld 3 rfl, q1]
  refine aB (iM _) ?_
  rintro r H13 ⟨rfl, hT4⟩
  have hS15 := hS14.trans hT4
  simp only [RT] at hS15
  simp (disch := omega) only [↓RA, RZ, simprocAttr, hn, q1]
  refine bU (fun q2 => ?_) (fun q2 => ?_)
  ·have e1 : lP o.ranks o.dvs i = 8 := by rw [lP, if_pos (by simpa using q2)]
   simp (disch := omega) only [↓RA, RZ, simprocAttr, hn, xU, q1, q2]
   exact ⟨by rw [key (by rw [e1]; decide), e1], hS15.forget⟩
  have q2' : ¬ cP (aC o.dvs i).name = false := by simpa using q2
  simp (disch := omega) only [↓RA, RZ, simprocAttr, hn, g3, hS15.ld 3 rfl, q1, q2]
  have hM2 := hS15.pick (os' := [⟨.map (some M2), 0, _⟩]) [1] (by decide) rfl
  have hR2 := hS15.pick (os' := [⟨.map (some M2), 0, _⟩, ⟨ptr A1 0 4, 0, _⟩, ⟨w, 2, _⟩, ⟨ptr A3 0 5, 0, _⟩]) [1, 0, 2, 3] (by decide) rfl
  refine aB (wD _ M2 kvs (aC o.dvs i).name hM2.rebase) ?_
  rintro r H14 ⟨rfl, kvs', hk', hT5⟩
  have hS16 := hR2.frame hT5
  simp only [RT] at hS16
  simp (disch := omega) only [↓RA, RZ, simprocAttr, hn, q1, q2]
  refine aA (fun q3 => ?_) (fun q3 => ?_)
  ·have q3' : iE kvs (aC o.dvs i).name = true := by
    by_cases hh : iE kvs (aC o.dvs i).name = true
    ·exact hh
    ·rw [if_neg hh] at q3; exact absurd rfl q3
   have e1 : lP o.ranks o.dvs i = 9 := by rw [lP, if_neg q2', if_pos ((hk _).1 q3')]
   simp (disch := omega) only [↓RA, RZ, simprocAttr, hn, xU, q1, q2, q3]
   exact ⟨by rw [key (by rw [e1]; decide), e1, if_pos q3'], hS16.forget⟩
  have q3' : ¬ iE kvs (aC o.dvs i).name = true := fun hh => q3 (by rw [if_pos hh]; decide)
  simp (disch := omega) only [↓RA, RZ, simprocAttr, hn, g1, hS16.ldA 1 rfl, hS16.ldA 3 rfl, q1, q2, q3]
  refine aB (b7H o (ho.keep hS16) (aC o.dvs i) ((ho.2.2.2.1 _ (aF (by omega))).keep hS16)) ?_
  rintro r H15 ⟨rfl, hT6⟩
  have hS17 := hS16.trans hT6
  simp only [RT] at hS17
  have e0 : lP o.ranks o.dvs i = divE o.ranks (aC o.dvs i) := by rw [lP, if_neg q2', if_neg (fun hh => q3' ((hk _).2 hh))]
  simp (disch := omega) only [↓RA, RZ, simprocAttr, hn, q1, q2, q3]
  refine aA (fun q4 => ?_) (fun q4 => ?_)
  ·simp (disch := omega) only [↓RA, RZ, simprocAttr, hn, xU, q1, q2, q3, q4]
   exact ⟨by rw [key (by rw [e0]; exact q4), e0], hS17.forget⟩
  have e2 : lP o.ranks o.dvs i = 0 := by rw [e0]; exact Classical.not_not.1 q4
  simp (disch := omega) only [↓RA, RZ, simprocAttr, hn, g8, hS17.ldA 3 rfl, q1, q2, q3, q4]
  refine hS17.eSlice [I (aC o.dvs i).lo, I (aC o.dvs i).hi] b5Q b9F rfl rfl (by simp [Value.cells]) rfl rfl (by decide) (by decide) fun w1 H16 hS18 => ?_
  simp only [RT] at hS18
  simp (disch := omega) only [↓RA, RZ, simprocAttr, hn, q1, q2, q3, q4]
  refine hS18.eAppend 2 rfl (hS18.rd 4 rfl) b5Q (by rw [aR nD]; simp [kps]; omega) fun w2 H17 hS19 => ?_
  simp only [RT] at hS19
  simp (disch := omega) only [↓RA, RZ, simprocAttr, hn, g1, g3, g56, g57, g58, q1, q2, q3, q4]
  refine ⟨n - 1, by omega, i + 1, kvs', _, ⟨by omega, fun j hj => by rcases Nat.lt_succ_iff_lt_or_eq.1 hj with e | e; (· exact hz j e); (· rw [e]; exact e2), rL (f := fun q => (aC o.dvs q).name) hk hk'⟩, by simp, rfl, ?_⟩
  rw [b0g _ _ (by omega)]
  exact hS19.pick [1, 0, 2] (by decide) rfl
 have hD : dB (lP o.ranks o.dvs) o.dvs.length = 0 := cN _ _ fun j hj => hz j (by omega)
 have hi : i = o.dvs.length := by omega
 subst hi
 rw [List.take_length] at hS12
 simp (disch := omega) only [↓RA, RZ, simprocAttr, hn, g1, g8, hS12.ld 0 rfl, q1]
 refine aB (a3t w o.cv (kps o.dvs) o.cpls (hS12.slo 2 rfl nD) (hS12.sl ho.2.2.2.2.1) (by simp [kps]; omega) hlc) ?_
 rintro r H18 ⟨rfl, hT7⟩
 have hS20 := hS12.trans hT7
 simp only [RT] at hS20
 simp (disch := omega) only [↓RA, RZ, simprocAttr, hn, xU, q1]
 exact ⟨by rw [hE, if_neg (by rw [hD]; simp)], hS20.forget⟩
end Go.Ds
namespace Go.Ds
open Go.Proofs
variable {H : Heap}
def cQ : List (Int × Int) := [(8, 1), (4, 1), (16, 1), (8, 3), (2, 1), (8, 5)]
def dL : List (Int × Int) := [(8, 1), (4, 1), (16, 1), (2, 1), (8, 3), (8, 5), (4, 3), (1, 1), (32, 1), (16, 3), (16, 5), (32, 3), (8, 7), (2, 3), (1, 2), (64, 1)]
theorem a1C (k : Nat) : Fn Tryz.prog 151 [.int .u8 k] H fun r H' => r = .agg #[I (aC cQ (k % 6)).1, I (aC cQ (k % 6)).2] ∧ St Tryz.prog H H' [] := by
 refine Fn.of_sw Tryz.func151 rfl (by kernel_rfl) fun l hl => ?_
 have hn : l.length = 14 := by rw [hl]; rfl
 have g0 : get l 0 = (.int .u8 k) := by rw [hl]; rfl
 clear hl
 simp (disch := omega) only [↓RA, RZ, simprocAttr]
 refine (St.refl Tryz.prog H).eNew 2 [I 0, I 0] rfl rfl rfl sB fun A1 H1 hS1 => ?_
 simp only [RT] at hS1
 simp (disch := omega) only [↓RA, RB, simprocAttr, hn, mA]
 refine hS1.eSlice [I 8, I 1, I 4, I 1, I 16, I 1, I 8, I 3, I 2, I 1, I 8, I 5] b5L b5B rfl rfl (by simp [Value.cells]) rfl rfl (by decide) (by decide) fun w1 H2 hS2 => ?_
 simp only [RT] at hS2
 simp (disch := omega) only [↓RA, RZ, simprocAttr, hn, g0]
 have hR : St Tryz.prog H H2 [⟨ptr A1 0 2, 0, _⟩, ⟨w1, 2, cQ.flatMap kpc⟩] := hS2
 have hL : cQ.length = 6 := rfl
 have hk : k % 6 < 6 := Nat.mod_lt _ (by decide)
 have hk2 : (k : Int).tmod 6 = ((k % 6 : Nat) : Int) := (Int.ofNat_tmod k 6).symm
 try rw [hk2]
 simp (disch := omega) only [↓RA, RZ, simprocAttr, hn, (hR.slo 1 rfl nD).idx, (hR.slo 1 rfl nD).ldA, kpc]
 refine hR.eStore 0 rfl [I (aC cQ (k % 6 : Nat)).1, I (aC cQ (k % 6 : Nat)).2] rfl rfl sB (by simp) fun H3 hS3 => ?_
 simp only [RT] at hS3
 simp (disch := omega) only [↓RA, RZ, simprocAttr, hn, c1X, hS3.ldA 0 rfl]
 first | exact hS3.forget | exact ⟨rfl, hS3.forget⟩
theorem a2I (k : Nat) : Fn Tryz.prog 150 [.int .u8 k] H fun r H' => r = .agg #[I (aC dL (k % 16)).1, I (aC dL (k % 16)).2] ∧ St Tryz.prog H H' [] := by
 refine Fn.of_sw Tryz.func150 rfl (by kernel_rfl) fun l hl => ?_
 have hn : l.length = 24 := by rw [hl]; rfl
 have g0 : get l 0 = (.int .u8 k) := by rw [hl]; rfl
 clear hl
 simp (disch := omega) only [↓RA, RZ, simprocAttr]
 refine (St.refl Tryz.prog H).eNew 2 [I 0, I 0] rfl rfl rfl sB fun A1 H1 hS1 => ?_
 simp only [RT] at hS1
 simp (disch := omega) only [↓RA, RB, simprocAttr, hn, mA]
 refine hS1.eSlice [I 8, I 1, I 4, I 1, I 16, I 1, I 2, I 1, I 8, I 3, I 8, I 5, I 4, I 3, I 1, I 1, I 32, I 1, I 16, I 3, I 16, I 5, I 32, I 3, I 8, I 7, I 2, I 3, I 1, I 2, I 64, I 1] b5L b5B rfl rfl (by simp [Value.cells]) rfl rfl (by decide) (by decide) fun w1 H2 hS2 => ?_
 simp only [RT] at hS2
 simp (disch := omega) only [↓RA, RZ, simprocAttr, hn, g0]
 have hR : St Tryz.prog H H2 [⟨ptr A1 0 2, 0, _⟩, ⟨w1, 2, dL.flatMap kpc⟩] := hS2
 have hL : dL.length = 16 := rfl
 have hk : k % 16 < 16 := Nat.mod_lt _ (by decide)
 have hk2 : (k : Int).tmod 16 = ((k % 16 : Nat) : Int) := (Int.ofNat_tmod k 16).symm
 try rw [hk2]
 simp (disch := omega) only [↓RA, RZ, simprocAttr, hn, (hR.slo 1 rfl nD).idx, (hR.slo 1 rfl nD).ldA, kpc]
 refine hR.eStore 0 rfl [I (aC dL (k % 16 : Nat)).1, I (aC dL (k % 16 : Nat)).2] rfl rfl sB (by simp) fun H3 hS3 => ?_
 simp only [RT] at hS3
 simp (disch := omega) only [↓RA, RZ, simprocAttr, hn, c0x, hS3.ldA 0 rfl]
 first | exact hS3.forget | exact ⟨rfl, hS3.forget⟩
end Go.Ds
namespace Go.Ds
open Go.Proofs
variable {H : Heap}
set_option maxRecDepth 10000
structure RPl where
 tone : Nat
 feet : Nat
 first : Int
 pipes : Nat
 w0 : Nat
 w1 : Nat
 w2 : Nat
 w3 : Nat
 w4 : Nat
 deriving Inhabited
def RPl.cells (p : RPl) : List Value := [.int .u8 p.tone, .int .u8 p.feet, .int .i8 p.first, .int .u8 p.pipes, .int .u8 p.w0, .int .u8 p.w1, .int .u8 p.w2, .int .u8 p.w3, .int .u8 p.w4]
def RPl.Ok (p : RPl) : Prop := p.tone < 256 ∧ p.feet < 256 ∧ -128 ≤ p.first ∧ p.first < 128 ∧ p.pipes < 256 ∧ p.w0 < 256 ∧ p.w1 < 256 ∧ p.w2 < 256 ∧ p.w3 < 256 ∧ p.w4 < 256
def RPl.wind (p : RPl) (j : Nat) : Nat := aC [p.w0, p.w1, p.w2, p.w3, p.w4] (j % 5)
theorem RPl.Ok.wind {p : RPl} (hp : p.Ok) (j : Nat) : p.wind j < 256 := by
 obtain ⟨_, _, _, _, _, h0, h1, h2, h3, h4⟩ := hp
 have : j % 5 = 0 ∨ j % 5 = 1 ∨ j % 5 = 2 ∨ j % 5 = 3 ∨ j % 5 = 4 := by omega
 unfold RPl.wind
 rcases this with e | e | e | e | e <;> rw [e] <;> assumption
def lI : List ByteArray := [⟨#[79, 112, 101, 110]⟩, ⟨#[70, 108, 117, 116, 101]⟩, ⟨#[82, 101, 101, 100]⟩]
theorem a7G (p : RPl) (hp : p.Ok) (i : Nat) (hi : i < 10) : Fn Tryz.prog 80 [.agg #[.int .u8 p.tone, .int .u8 p.feet, .int .i8 p.first, .int .u8 p.pipes, .int .u8 p.w0, .int .u8 p.w1, .int .u8 p.w2, .int .u8 p.w3, .int .u8 p.w4], I i] H fun r H' =>
 ∃ wv, r = .agg #[.string ⟨#[82, UInt8.ofNat (48 + i)]⟩, .string (aC lI (p.tone % 3)), I (aC dL (p.feet % 16)).1, I (aC dL (p.feet % 16)).2, I p.first, wv] ∧
   St Tryz.prog H H' [⟨wv, 1, (List.range (1 + p.pipes % 25)).map fun j => I (p.wind j)⟩] := by
 have hwb := fun j => hp.wind j
 obtain ⟨h1, h2, h3, h4, h5, _⟩ := hp
 refine Fn.of_sw Tryz.func80 rfl (by kernel_rfl) fun l hl => ?_
 have hn : l.length = 48 := by rw [hl]; rfl
 have g0 : get l 0 = (.agg #[(.int .u8 p.tone), (.int .u8 p.feet), (.int .i8 p.first), (.int .u8 p.pipes), (.int .u8 p.w0), (.int .u8 p.w1), (.int .u8 p.w2), (.int .u8 p.w3), (.int .u8 p.w4)]) := by rw [hl]; rfl
 have g1 : get l 1 = I i := by rw [hl]; rfl
 clear hl
 have hm : (i : Int).tmod 10 = i := ((Int.ofNat_tmod i 10).symm).trans (by rw [Nat.mod_eq_of_lt hi])
 have ht : (p.tone : Int).tmod 3 = ((p.tone % 3 : Nat) : Int) := (Int.ofNat_tmod p.tone 3).symm
 have ht3 : p.tone % 3 < 3 := Nat.mod_lt _ (by decide)
 have htl : lI.length = 3 := rfl
 simp (disch := omega) only [↓RA, RB, simprocAttr, g0]
 refine (St.refl Tryz.prog H).eNew 9 [(.int .u8 p.tone), (.int .u8 p.feet), (.int .i8 p.first), (.int .u8 p.pipes), (.int .u8 p.w0), (.int .u8 p.w1), (.int .u8 p.w2), (.int .u8 p.w3), (.int .u8 p.w4)] rfl rfl rfl b1F fun A1 H1 hS1 => ?_
 simp only [RT] at hS1
 simp (disch := omega) only [↓RA, RZ, simprocAttr]
 refine hS1.eNew 6 [(.string ⟨#[]⟩), (.string ⟨#[]⟩), I 0, I 0, I 0, (.slice none 0 0)] rfl rfl rfl jF fun A2 H2 hS2 => ?_
 simp only [RT] at hS2
 simp (disch := omega) only [↓RA, simprocAttr]
 refine Wp.drwM cD [13, 14, 15, 16, 17, 18, 0, 1, 2, 3, 4, 5, 6, 7, 8, 9, 10, 11, 12, 19, 20, 21] [6, 7, 8, 9, 10, 11, 12, 13, 14, 15, 16, 17, 18, 0, 1, 2, 3, 4, 5, 19, 20, 21] ⟨true, [], [(11, 10), (17, 13), (18, 13)]⟩ [(4, 0), (5, 0), (9, 0), (15, 0), (15, 3)] (by kernel_rfl) (by kernel_rfl) (by kernel_rfl) ?_
 simp (disch := omega) only [↓RA, RZ, simprocAttr, hn, hS2.ld 0 rfl]
 refine aB (a2I p.feet) ?_
 rintro r H3 ⟨rfl, hT1⟩
 have hS3 := hS2.trans hT1
 simp only [RT] at hS3
 simp (disch := omega) only [↓RA, RZ, simprocAttr, hn, g1, hS3.ld 0 rfl, hm]
 refine hS3.eSlice [_] a6U a6E rfl rfl (by simp [Value.cells]) rfl rfl (by decide) (by decide) fun w1 H4 hS4 => ?_
 simp only [RT] at hS4
 simp (disch := omega) only [↓RA, RB, simprocAttr, hn, nE (hS4.rd 2 rfl) fB.1 fB.2.1 fB.2.2, kL]
 refine hS4.eSlice [(.string ⟨#[79, 112, 101, 110]⟩), (.string ⟨#[70, 108, 117, 116, 101]⟩), (.string ⟨#[82, 101, 101, 100]⟩)] b8N b9c rfl rfl (by simp [Value.cells]) rfl rfl (by decide) (by decide) fun w2 H5 hS5 => ?_
 simp only [RT] at hS5
 simp (disch := omega) only [↓RA, RZ, simprocAttr, hn, hS5.ld 0 rfl, ht]
 have hR : St Tryz.prog H H5 [⟨ptr A1 0 9, 0, _⟩, ⟨ptr A2 0 6, 0, _⟩, ⟨w1, 1, _⟩, ⟨w2, 1, lI.flatMap (one Value.string)⟩] := hS5
 simp (disch := omega) only [↓RA, RZ, simprocAttr, hn, (hR.slo 3 rfl (kH _)).idx, (hR.slo 3 rfl (kH _)).ld, one, xR]
 refine hR.eNew 6 [(.string ⟨#[]⟩), (.string ⟨#[]⟩), I 0, I 0, I 0, (.slice none 0 0)] rfl rfl rfl jF fun A3 H6 hS6 => ?_
 simp only [RT] at hS6
 simp (disch := omega) only [↓RA, RB, simprocAttr, hn]
 refine hS6.eStore 4 rfl [(.string ⟨#[82, UInt8.ofNat (48 + (i : Int)).toNat]⟩), (.string (aC lI (p.tone % 3 : Nat))), I (aC dL (p.feet % 16)).1, I (aC dL (p.feet % 16)).2, _, (.slice none 0 0)] rfl rfl jF (by simp) fun H7 hS7 => ?_
 simp only [RT] at hS7
 simp (disch := omega) only [↓RA, RZ, simprocAttr, hn, hS2.ld 0 rfl, hS3.ld 0 rfl]
 have hN : St Tryz.prog H H7 [⟨ptr A1 0 9, 0, _⟩, ⟨ptr A2 0 6, 0, _⟩, ⟨ptr A3 0 6, 0, [.string ⟨#[82, UInt8.ofNat (48 + (i : Int)).toNat]⟩, .string (aC lI (p.tone % 3)), I (aC dL (p.feet % 16)).1, I (aC dL (p.feet % 16)).2, I p.first, .slice none 0 0]⟩, ⟨.slice none 0 0, 1, []⟩] := (hS7.nil 0).pick [0, 1, 4, 5] (by decide) rfl
 refine Wp.loopS (fun n l H' => l.length = 48 ∧ get l 2 = (ptr A1 0 9) ∧ get l 4 = (ptr A2 0 6) ∧ get l 5 = (ptr A3 0 6) ∧ ∃ (j : Nat) (wv : Value), (n + j = 1 + p.pipes % 25) ∧ get l 6 = I j ∧ St Tryz.prog H H' [⟨ptr A1 0 9, 0, [(.int .u8 p.tone), (.int .u8 p.feet), (.int .i8 p.first), (.int .u8 p.pipes), (.int .u8 p.w0), (.int .u8 p.w1), (.int .u8 p.w2), (.int .u8 p.w3), (.int .u8 p.w4)]⟩, ⟨ptr A2 0 6, 0, [(.string ⟨#[]⟩), (.string ⟨#[]⟩), I 0, I 0, I 0, (.slice none 0 0)]⟩, ⟨ptr A3 0 6, 0, [.string ⟨#[82, UInt8.ofNat (48 + (i : Int)).toNat]⟩, .string (aC lI (p.tone % 3)), I (aC dL (p.feet % 16)).1, I (aC dL (p.feet % 16)).2, I p.first, wv]⟩, ⟨wv, 1, (List.range j).map fun q => I (p.wind q)⟩]) (1 + p.pipes % 25) ?_ ?_
 ·simp (disch := omega) only [RB, RC, simprocAttr, hn]
  exact ⟨0, _, by omega, rfl, hN⟩
 rintro n l H8 ⟨hn, g2, g4, g5, j, wv, hj, g6, hS8⟩
 have hpp : (p.pipes : Int).tmod 25 = ((p.pipes % 25 : Nat) : Int) := (Int.ofNat_tmod p.pipes 25).symm
 have hj5 : (j : Int).tmod 5 = ((j % 5 : Nat) : Int) := (Int.ofNat_tmod j 5).symm
 have hw : (p.cells)[4 + j % 5]? = some (.int .u8 (p.wind j)) := by
  have : j % 5 = 0 ∨ j % 5 = 1 ∨ j % 5 = 2 ∨ j % 5 = 3 ∨ j % 5 = 4 := by omega
  unfold RPl.wind
  rcases this with e | e | e | e | e <;> rw [e] <;> rfl
 simp only [RPl.cells] at hw
 have hwj := hwb j
 simp (disch := omega) only [↓RA, RZ, simprocAttr, hn, g2, g6, hS8.ld 0 rfl, hpp]
 refine aA (fun q => ?_) (fun q => ?_)
 ·simp (disch := omega) only [↓RA, RC, simprocAttr, q]
  refine Wp.drwT cD [(1, 9)] (by kernel_rfl) (by kernel_rfl) ?_
  simp (disch := omega) only [↓RA, RZ, simprocAttr, hn, g2, g5, g6, hS8.ld 2 rfl, hS8.ld 0 rfl, hw, hj5]
  refine hS8.eSlice [_] wX a2G rfl rfl (by simp [Value.cells]) rfl rfl (by decide) (by decide) fun w3 H9 hS9 => ?_
  simp only [RT] at hS9
  simp (disch := omega) only [↓RA, RZ, simprocAttr, hn]
  refine hS9.eAppend 3 rfl (hS9.rd 4 rfl) wX (by first | (simp; done) | (simp; omega)) fun w4 H10 hS10 => ?_
  simp only [RT] at hS10
  simp (disch := omega) only [↓RA, RZ, simprocAttr, hn, g5]
  refine hS10.eStore 2 rfl [w4] (by rw [(hS10.rd 3 rfl).cells.1]) (by simp [(hS10.rd 3 rfl).cells.2.1]) b3n (by simp) fun H11 hS11 => ?_
  simp only [RT] at hS11
  simp (disch := omega) only [↓RA, RZ, simprocAttr, hn, g2, g4, g5, g6, hS9.ld 2 rfl]
  refine ⟨n - 1, by omega, j + 1, w4, by omega, rfl, ?_⟩
  rw [List.range_succ, List.map_append]
  exact hS11.pick [0, 1, 2, 3] (by decide) rfl
 simp (disch := omega) only [↓RA, RZ, simprocAttr, hn, g4, g5, hS8.ldA 2 rfl, q]
 refine hS8.eStore 1 rfl [(.string ⟨#[82, UInt8.ofNat (48 + (i : Int)).toNat]⟩), (.string (aC lI (p.tone % 3))), I (aC dL (p.feet % 16)).1, I (aC dL (p.feet % 16)).2, I p.first, wv] rfl (by simp [OC, (hS8.rd 3 rfl).cells.2.1]) jF (by simp) fun H12 hS12 => ?_
 simp only [RT] at hS12
 simp (disch := omega) only [↓RA, RZ, simprocAttr, g4, c4K, hS12.ldA 1 rfl, q]
 have hjj : j = 1 + p.pipes % 25 := by omega
 subst hjj
 have he : (48 + (i : Int)).toNat = 48 + i := by omega
 exact ⟨wv, by rw [he], hS12.pick [3] (by decide) rfl⟩
end Go.Ds
namespace Go.Ds
open Go.Proofs
variable {P : Program} {H : Heap} {α : Type} {n : Nat} {cel : α → List Value} {v : Value} {xs : List α} {X Y : Nat → Prop}
theorem RdAt.lt {size : Nat} {cs : List Value} (h : RdAt H v size cs) {B : Nat} (hb : cA v = some B) : B < H.length := by
 rcases h with ⟨h1, _⟩ | ⟨A, i, e, row, ty, rw, lo, ver, n, h, _, _, _, _, _, h7⟩
 ·rw [h1] at hb; simp [cA] at hb
 ·rw [h7] at hb
  simp [cA] at hb
  exact hb ▸ bG h
theorem RdAt.keepB {H' : Heap} {size : Nat} {cs : List Value} (h : RdAt H v size cs) (hk : ∀ B, cA v = some B → aQ H' B = aQ H B) : RdAt H' v size cs := by
 rcases h with h | ⟨A, i, e, row, ty, rw, lo, ver, n, h, h2, h3, h4, h5, h6, h7⟩
 ·exact .inl h
 ·exact .inr ⟨A, i, e, row, ty, rw, lo, ver, n, by rw [hk A (by rw [h7]; rfl), h], h2, h3, h4, h5, h6, h7⟩
theorem St.rebaseE {B0 : Base} {os : List Ob} (hS : St P B0 H os) : ∃ B : Base, B = ⟨H, jN os⟩ ∧ St P B H os := ⟨_, rfl, hS.rebase⟩
theorem St.unbaseE {B0 B : Base} {H1 : Heap} {os os1 : List Ob} (hS : St P B0 H os) (hB : B = ⟨H, jN os⟩) (h1 : St P B H1 os1) : St P B0 H1 os1 := by
 subst hB
 exact hS.unbase h1
def Slx (n : Nat) (cel : α → List Value) (H : Heap) (X : Nat → Prop) (v : Value) (xs : List α) : Prop := Sl n cel H v xs ∧ ∀ B, cA v = some B → X B
def Kept (H : Heap) (X : Nat → Prop) (H' : Heap) (Y : Nat → Prop) : Prop := ∀ B, X B → B < H.length → aQ H' B = aQ H B ∧ Y B
theorem Slx.step {H' : Heap} (h : Slx n cel H X v xs) (hk : Kept H X H' Y) : Slx n cel H' Y v xs :=
 ⟨⟨h.1.rd.keepB fun B hb => (hk B (h.2 B hb) (h.1.rd.lt hb)).1, h.1.hc, h.1.pos⟩, fun B hb => (hk B (h.2 B hb) (h.1.rd.lt hb)).2⟩
def nb (vs : List Value) : Nat → Prop := fun B => ∀ v ∈ vs, cA v ≠ some B
theorem a4j (os : List Ob) (B : Nat) : nb (os.map (·.v)) B ↔ ¬ jN os B := by
 unfold nb jN
 constructor
 ·rintro h ⟨o, ho, hb⟩
  exact h o.v (List.mem_map_of_mem ho) hb
 ·intro h v hv hb
  obtain ⟨o, ho, rfl⟩ := List.mem_map.1 hv
  exact h ⟨o, ho, hb⟩
theorem St.kept {B : Base} {H' : Heap} {os os' : List Ob} (hS : St P B H' os') (hB : B = ⟨H, jN os⟩) : Kept H (nb (os.map (·.v))) H' (nb (os'.map (·.v))) := by
 subst hB
 intro B hX hB
 rw [a4j] at hX ⊢
 exact ⟨hS.old B hB hX, fun ⟨o, ho, hb⟩ => by
  rcases hS.new o ho B hb with h | h
  ·have h : H.length ≤ B := h
   omega
  ·exact hX h⟩
theorem St.keptNew {H0 : Base} {H' : Heap} {os : List Ob} (hS : St P H0 H os) : Kept H' (fun B => H.length ≤ B) H' (nb (os.map (·.v))) := by
 intro B hX hB
 rw [a4j]
 exact ⟨rfl, fun ⟨o, ho, hb⟩ => by
  have := (hS.own o ho).lt hb
  omega⟩
theorem Kept.trans {H' H'' : Heap} {X Y Z : Nat → Prop} (h : Kept H X H' Y) (h' : Kept H' Y H'' Z) (hl : H.length ≤ H'.length) : Kept H X H'' Z :=
 fun B hX hB => by
  obtain ⟨e, hY⟩ := h B hX hB
  obtain ⟨e', hZ⟩ := h' B hY (Nat.lt_of_lt_of_le hB hl)
  exact ⟨e'.trans e, hZ⟩
theorem Slx.any (h : Slx n cel H X v xs) : Slx n cel H (fun _ => True) v xs := ⟨h.1, fun _ _ => trivial⟩
theorem St.slx {H0 : Base} {os os' : List Ob} (hS : St P H0 H os) (i : Nat) {m : Nat} (ho : os[i]? = some ⟨v, m + 1, xs.flatMap cel⟩) (hc : ∀ x, (cel x).length = m + 1) (idx : List Nat) (hi : i ∉ idx) (h : idx.map (os[·]?) = os'.map some) :
 Slx (m + 1) cel H (nb (os'.map (·.v))) v xs := by
 refine ⟨hS.slo i ho hc, fun B hb => ?_⟩
 rw [a4j]
 rintro ⟨o, hmem, hob⟩
 have : some o ∈ idx.map (os[·]?) := by rw [h]; exact List.mem_map_of_mem hmem
 obtain ⟨j, hj, hj2⟩ := List.mem_map.1 this
 have hne : i ≠ j := fun e => hi (e ▸ hj)
 have hpw := List.pairwise_iff_getElem.1 hS.sep
 obtain ⟨hi1, ei⟩ := List.getElem?_eq_some_iff.1 ho
 obtain ⟨hj1, ej⟩ := List.getElem?_eq_some_iff.1 hj2
 rcases Nat.lt_or_gt_of_ne hne with hh | hh
 ·have := hpw i j hi1 hj1 hh B (by rw [ei]; exact hb)
  rw [ej] at this
  exact this hob
 ·have := hpw j i hj1 hi1 hh B (by rw [ej]; exact hob)
  rw [ei] at this
  exact this hb
theorem St.slf {H0 : Heap} {os : List Ob} (hS : St P H0 H os) (i : Nat) {m : Nat} (ho : os[i]? = some ⟨v, m + 1, xs.flatMap cel⟩) (hc : ∀ x, (cel x).length = m + 1) : Slx (m + 1) cel H (fun B => H0.length ≤ B) v xs :=
 ⟨hS.slo i ho hc, fun B hb => by
  rcases hS.new _ (List.mem_of_getElem? ho) B hb with h | h
  ·exact h
  ·exact h.elim⟩
def Seg.Ix (H : Heap) (X : Nat → Prop) (s : Seg) : Prop := Slx 2 Drw.cells H X s.dv s.draws ∧ s.draws.length < 1000000000
def Stp.Ix (H : Heap) (X : Nat → Prop) (s : Stp) : Prop := Slx 3 Seg.cells H X s.gv s.segs ∧ (∀ g ∈ s.segs, g.Ix H X) ∧ s.segs.length < 1000000000
def Dvn.Ix (H : Heap) (X : Nat → Prop) (d : Dvn) : Prop := Slx 4 Stp.cells H X d.sv d.stops ∧ (∀ s ∈ d.stops, s.Ix H X) ∧ d.stops.length < 1000000000
def Rk.Ix (H : Heap) (X : Nat → Prop) (r : Rk) : Prop := Slx 1 (one I) H X r.wv r.wind ∧ r.wind.length < 1000000000
section
variable {H' : Heap}
theorem Seg.Ix.step {s : Seg} (h : s.Ix H X) (hk : Kept H X H' Y) : s.Ix H' Y := ⟨h.1.step hk, h.2⟩
theorem Stp.Ix.step {s : Stp} (h : s.Ix H X) (hk : Kept H X H' Y) : s.Ix H' Y := ⟨h.1.step hk, fun g hg => (h.2.1 g hg).step hk, h.2.2⟩
theorem Dvn.Ix.step {d : Dvn} (h : d.Ix H X) (hk : Kept H X H' Y) : d.Ix H' Y := ⟨h.1.step hk, fun g hg => (h.2.1 g hg).step hk, h.2.2⟩
theorem Rk.Ix.step {r : Rk} (h : r.Ix H X) (hk : Kept H X H' Y) : r.Ix H' Y := ⟨h.1.step hk, h.2⟩
theorem Seg.Ix.in {s : Seg} (h : s.Ix H X) : s.In H := ⟨h.1.1, h.2⟩
theorem Stp.Ix.in {s : Stp} (h : s.Ix H X) : s.In H := ⟨h.1.1, fun g hg => (h.2.1 g hg).in, h.2.2⟩
theorem Dvn.Ix.in {d : Dvn} (h : d.Ix H X) : d.In H := ⟨h.1.1, fun g hg => (h.2.1 g hg).in, h.2.2⟩
theorem Rk.Ix.in {r : Rk} (h : r.Ix H X) : r.In H := ⟨h.1.1, h.2⟩
end
theorem qE {α : Type} (f : α → Value) (l : List α) : l.flatMap (one f) = l.map f := by
 induction l with
 | nil => rfl
 | cons a l ih => rw [List.flatMap_cons, ih]; rfl
end Go.Ds
namespace Go.Ds
open Go.Proofs
theorem a4q (m : Nat) (n s : Int) (h0 : 0 ≤ n) (h1 : n < m) (h2 : -127 ≤ s) (h3 : s ≤ 127) : dE m [⟨n, s⟩] = 0 := by
 rw [dE, if_neg (by simp)]
 refine cN _ _ fun j hj => ?_
 have hj0 : j = 0 := by simpa using hj
 subst hj0
 have e : aC ([⟨n, s⟩] : List Drw) 0 = ⟨n, s⟩ := rfl
 unfold cG
 rw [e, if_neg (by simp only; omega), if_neg (by simp only; omega), if_neg (by simp)]
theorem b6C (m : Nat) (n s t : Int) (h0 : 0 ≤ n) (h1 : n < m) (h2 : -127 ≤ s) (h3 : s ≤ 127) (h4 : -127 ≤ t) (h5 : t ≤ 127) (hne : s ≠ t) : dE m [⟨n, s⟩, ⟨n, t⟩] = 0 := by
 rw [dE, if_neg (by simp)]
 refine cN _ _ fun j hj => ?_
 have hj0 : j = 0 ∨ j = 1 := by
  have : j < 2 := by simpa using hj
  omega
 rcases hj0 with rfl | rfl
 ·have e : aC ([⟨n, s⟩, ⟨n, t⟩] : List Drw) 0 = ⟨n, s⟩ := rfl
  unfold cG
  rw [e, if_neg (by simp only; omega), if_neg (by simp only; omega), if_neg (by simp)]
 ·have e : aC ([⟨n, s⟩, ⟨n, t⟩] : List Drw) 1 = ⟨n, t⟩ := rfl
  unfold cG
  rw [e, if_neg (by simp only; omega), if_neg (by simp only; omega), if_neg (by simp [Ne.symm hne])]
theorem a1H (lo hi a b : Int) (m : Nat) (dv : Value) (ds : List Drw) (h1 : lo ≤ a) (h2 : a ≤ b) (h3 : b ≤ hi) (hd : dE m ds = 0) : dB (cR lo hi m [⟨a, b, dv, ds⟩]) 1 = 0 := by
 refine cN _ _ fun j hj => ?_
 have hj0 : j = 0 := by omega
 subst hj0
 have e : aC ([⟨a, b, dv, ds⟩] : List Seg) 0 = ⟨a, b, dv, ds⟩ := rfl
 unfold cR
 rw [e, if_neg (by simp only; omega), if_neg (by simp only; omega)]
 exact hd
theorem b5U (lo hi c : Int) (m : Nat) (dv dv' : Value) (ds ds' : List Drw) (h1 : lo < c) (h2 : c ≤ hi) (hd : dE m ds = 0) (hd' : dE m ds' = 0) : dB (cR lo hi m [⟨lo, c - 1, dv, ds⟩, ⟨c, hi, dv', ds'⟩]) 2 = 0 := by
 refine cN _ _ fun j hj => ?_
 have e0 : aC ([⟨lo, c - 1, dv, ds⟩, ⟨c, hi, dv', ds'⟩] : List Seg) 0 = ⟨lo, c - 1, dv, ds⟩ := rfl
 have e1 : aC ([⟨lo, c - 1, dv, ds⟩, ⟨c, hi, dv', ds'⟩] : List Seg) 1 = ⟨c, hi, dv', ds'⟩ := rfl
 have hj0 : j = 0 ∨ j = 1 := by omega
 rcases hj0 with rfl | rfl
 ·unfold cR
  rw [e0, if_neg (by simp only; omega), if_neg (by simp only; omega)]
  exact hd
 ·unfold cR
  rw [e1, show (1 : Nat) - 1 = 0 from rfl, e0, if_neg (by simp only; omega), if_neg (by simp only; omega)]
  exact hd'
def nm (c : UInt8) (i : Nat) : ByteArray := ⟨#[c, UInt8.ofNat (48 + i)]⟩
theorem a0I {c : UInt8} {i j : Nat} (hi : i < 10) (hj : j < 10) (h : nm c i = nm c j) : i = j := by
 unfold nm at h
 have h2 : (#[c, UInt8.ofNat (48 + i)] : Array UInt8) = #[c, UInt8.ofNat (48 + j)] := congrArg ByteArray.data h
 have h3 : UInt8.ofNat (48 + i) = UInt8.ofNat (48 + j) := by simpa using h2
 have h4 := congrArg UInt8.toNat h3
 simp only [UInt8.toNat_ofNat'] at h4
 omega
theorem tX {c : UInt8} (hc : c = 82 ∨ c = 68 ∨ c = 83 ∨ c = 67) {i : Nat} (hi : i < 10) : cP (nm c i) = true := by
 have h : i = 0 ∨ i = 1 ∨ i = 2 ∨ i = 3 ∨ i = 4 ∨ i = 5 ∨ i = 6 ∨ i = 7 ∨ i = 8 ∨ i = 9 := by omega
 rcases hc with rfl | rfl | rfl | rfl <;> rcases h with rfl | rfl | rfl | rfl | rfl | rfl | rfl | rfl | rfl | rfl <;> decide
structure StpOk (m : Nat) (lo hi : Int) (i : Nat) (s : Stp) : Prop where
 name : s.name = nm 83 i
 feet : (s.num, s.den) ∈ cQ
 pos : 0 < s.segs.length
 len : s.segs.length ≤ 2
 segs : dB (cR lo hi m s.segs) s.segs.length = 0
theorem b2k {p : Int × Int} (h : p ∈ cQ) : fU p.1 p.2 = 0 := by
 have : cQ.all (fun p => decide (fU p.1 p.2 = 0)) = true := by decide
 exact of_decide_eq_true (List.all_eq_true.1 this p h)
theorem b0j {p : Int × Int} (h : p ∈ dL) : fU p.1 p.2 = 0 := by
 have : dL.all (fun p => decide (fU p.1 p.2 = 0)) = true := by decide
 exact of_decide_eq_true (List.all_eq_true.1 this p h)
theorem StpOk.stopE {rs : List Rk} {lo hi : Int} {i : Nat} {s : Stp} (h : StpOk rs.length lo hi i s) (hi10 : i < 10) (hp : kQ rs lo hi = 0) : stopE rs lo hi s = 0 := by
 unfold Go.Ds.stopE
 rw [if_neg (by rw [hp]; simp), if_neg (by rw [h.name, tX (by simp) hi10]; simp), if_neg (by rw [b2k h.feet]; simp), if_neg (by have := h.pos; omega), if_neg (by have := h.len; omega)]
 exact h.segs
structure RkOk (i : Nat) (r : Rk) : Prop where
 name : r.name = nm 82 i
 tone : r.tone ∈ lI
 feet : (r.num, r.den) ∈ dL
 first : -128 ≤ r.first ∧ r.first < 128
 pos : 0 < r.wind.length
 len : r.wind.length ≤ 25
 wind : ∀ x ∈ r.wind, 0 ≤ x ∧ x < 256
theorem a9s {s : ByteArray} (h : s ∈ lI) : cP s = true := by
 have : lI.all (fun s => cP s) = true := by decide
 exact List.all_eq_true.1 this s h
theorem RkOk.rankE {i : Nat} {r : Rk} (h : RkOk i r) (hi : i < 10) : rankE r = 0 := by
 have hf := h.first
 have hp := h.pos
 have hl := h.len
 have hw : qU r.wind = 0 := by
  unfold qU
  rw [if_neg]
  intro hh
  rw [List.any_eq_true] at hh
  obtain ⟨x, hx, hp⟩ := hh
  have := h.wind x hx
  simp only [Bool.or_eq_true, decide_eq_true_eq] at hp
  omega
 unfold Go.Ds.rankE
 rw [if_neg (by rw [h.name, tX (by simp) hi, a9s h.tone]; simp), if_neg (by rw [b0j h.feet]; simp), if_neg (by omega), if_neg (by omega), if_neg (by omega), hw]
theorem uK {lo hi : Int} (h0 : 0 ≤ lo) (h1 : lo ≤ hi) (h2 : hi ≤ 127) : iS lo hi = 0 := by
 unfold iS
 rw [if_neg (by omega), if_neg (by omega)]
theorem b6D {rs : List Rk} {lo hi : Int} (hl : rs.length ≤ 3) (hr : ∀ j, j < rs.length → RkOk j (aC rs j)) (h0 : 0 ≤ lo) (h1 : lo ≤ hi) (h2 : hi ≤ 127) : kQ rs lo hi = 0 := by
 have e := cN (fun j => Go.Ds.rankE (aC rs j)) rs.length fun j hj => (hr j hj).rankE (by omega)
 unfold kQ
 rw [if_neg (by omega), if_neg (by rw [e]; simp)]
 exact uK h0 h1 h2
structure DvOk (m i : Nat) (d : Dvn) : Prop where
 name : d.name = nm 68 i
 lo : 36 ≤ d.lo
 le : d.lo ≤ d.hi
 hi : d.hi ≤ 60
 len : d.stops.length ≤ 3
 stops : ∀ k, k < d.stops.length → StpOk m d.lo d.hi k (aC d.stops k)
structure CpOk (n i : Nat) (c : Cpl) : Prop where
 name : c.name = nm 67 i
 src : 0 ≤ c.src ∧ c.src < n
 dst : 0 ≤ c.dst ∧ c.dst < n
 shift : -24 ≤ c.shift ∧ c.shift ≤ 24
 ne : ¬ (c.src = c.dst ∧ c.shift = 0)
def b0s : ByteArray := ⟨#[79, 114, 103, 97, 110]⟩
structure OrgOk (o : Org) : Prop where
 name : o.name = b0s
 rpos : 0 < o.ranks.length
 rlen : o.ranks.length ≤ 3
 ranks : ∀ j, j < o.ranks.length → RkOk j (aC o.ranks j)
 dpos : 0 < o.dvs.length
 dlen : o.dvs.length ≤ 3
 dvs : ∀ j, j < o.dvs.length → DvOk o.ranks.length j (aC o.dvs j)
 clen : o.cpls.length ≤ 3
 cpls : ∀ j, j < o.cpls.length → CpOk o.dvs.length j (aC o.cpls j)
theorem a7C : cP b0s = true := by decide
theorem DvOk.divE {rs : List Rk} {i : Nat} {d : Dvn} (h : DvOk rs.length i d) (hl : rs.length ≤ 3) (hr : ∀ j, j < rs.length → RkOk j (aC rs j)) : divE rs d = 0 := by
 have h1 := h.lo
 have h2 := h.le
 have h3 := h.hi
 have h4 := h.len
 unfold Go.Ds.divE
 rw [if_neg (by rw [uK (by omega) h2 (by omega)]; simp), if_neg (by omega)]
 refine cN _ _ fun j hj => ?_
 have hs := h.stops j hj
 unfold gJ
 rw [if_neg (by rw [hs.stopE (by omega) (b6D hl hr (by omega) h2 (by omega))]; simp), if_neg]
 rintro ⟨q, hq, e⟩
 rw [hs.name, (h.stops q (by omega)).name] at e
 have := a0I (by omega) (by omega) e
 omega
theorem OrgOk.organE {o : Org} (h : OrgOk o) : organE o = 0 := by
 have h1 := h.rpos
 have h2 := h.rlen
 have h3 := h.dpos
 have h4 := h.dlen
 have h5 := h.clen
 have e1 : dB (fL o.ranks) o.ranks.length = 0 := cN _ _ fun j hj => by
  unfold fL
  rw [if_neg (by rw [(h.ranks j hj).rankE (by omega)]; simp), if_neg]
  rintro ⟨q, hq, e⟩
  rw [(h.ranks j hj).name, (h.ranks q (by omega)).name] at e
  have := a0I (by omega) (by omega) e
  omega
 have e2 : dB (lP o.ranks o.dvs) o.dvs.length = 0 := cN _ _ fun j hj => by
  unfold lP
  rw [if_neg (by rw [(h.dvs j hj).name, tX (by simp) (by omega)]; simp), if_neg]
  ·exact (h.dvs j hj).divE h2 h.ranks
  rintro ⟨q, hq, e⟩
  rw [(h.dvs j hj).name, (h.dvs q (by omega)).name] at e
  have := a0I (by omega) (by omega) e
  omega
 have e3 : lJ (kps o.dvs) o.cpls = 0 := by
  have hk : (kps o.dvs).length = o.dvs.length := by simp [kps]
  unfold lJ
  rw [if_neg (by omega), if_neg]
  ·refine cN _ _ fun j hj => ?_
   have hc := h.cpls j hj
   have c1 := hc.src
   have c2 := hc.dst
   have c3 := hc.shift
   unfold eH
   simp only
   rw [if_neg (by rw [hc.name, tX (by simp) (by omega)]; simp), if_neg, if_neg (by rw [hk]; omega), if_neg (by omega), if_neg hc.ne]
   rintro ⟨q, hq, e⟩
   rw [hc.name, (h.cpls q (by omega)).name] at e
   have := a0I (by omega) (by omega) e
   omega
  ·rintro ⟨k, hk, hne⟩
   unfold kps at hk
   obtain ⟨d, hd, rfl⟩ := List.mem_map.1 hk
   obtain ⟨j, hj, rfl⟩ := List.mem_iff_getElem.1 hd
   have hd := h.dvs j hj
   rw [bV o.dvs j hj] at hd
   have h1 := hd.lo
   have h2 := hd.le
   have h3 := hd.hi
   exact hne (uK (by omega) h2 (by omega))
 unfold Go.Ds.organE
 rw [if_neg (by rw [h.name, a7C]; simp), if_neg (by omega), if_neg (by rw [e1]; simp), if_neg (by omega), if_neg (by omega), if_neg (by rw [e2]; simp)]
 exact e3
end Go.Ds
namespace Go.Ds
open Go.Proofs
def cC (x : Int × Int) : List Value := [I x.1, I x.2]
def pr (l : List (Int × Int)) : List Value := l.flatMap cC
theorem cH (x : Int × Int) : (cC x).length = 2 := rfl
theorem aJ (l : List (Int × Int)) : (pr l).length = l.length * 2 := aR cH l
def tV (x y : Int × Int) : Bool := decide (x.1 < y.1) || (decide (x.1 = y.1) && decide (x.2 ≤ y.2))
theorem fM (x y : Int × Int) : tV x y = true ↔ x.1 < y.1 ∨ (x.1 = y.1 ∧ x.2 ≤ y.2) := by
 unfold tV
 simp only [Bool.or_eq_true, Bool.and_eq_true, decide_eq_true_eq]
def mN (es : List (Int × Int)) : List (Int × Int) := es.mergeSort tV
theorem gA (es : List (Int × Int)) : (mN es).Perm es := List.mergeSort_perm _ _
theorem eK (es : List (Int × Int)) : (mN es).length = es.length := (gA es).length_eq
theorem nX (es : List (Int × Int)) : (mN es).Pairwise fun a b => tV a b = true := by
 unfold mN
 refine List.pairwise_mergeSort ?_ ?_ _
 ·intro a b c h1 h2
  rw [fM] at *
  omega
 ·intro a b
  rw [Bool.or_eq_true, fM, fM]
  omega
def cf2 (x y : Int × Int) : Int := if x.1 < y.1 then -1 else if y.1 < x.1 then 1 else if x.2 < y.2 then -1 else if y.2 < x.2 then 1 else 0
def pC {α : Type} [Inhabited α] [DecidableEq α] (es : List α) (m : Nat) : List α := ((List.range m).filter fun i => decide (i = 0 ∨ aC es i ≠ aC es (i - 1))).map fun i => aC es i
def dd {α : Type} [Inhabited α] [DecidableEq α] (es : List α) : List α := pC es es.length
section
variable {α : Type} [Inhabited α] [DecidableEq α]
theorem kA (es : List α) (m : Nat) : pC es (m + 1) = pC es m ++ (if m = 0 ∨ aC es m ≠ aC es (m - 1) then [aC es m] else []) := by
 unfold pC
 rw [List.range_succ, List.filter_append, List.map_append]
 congr 1
 by_cases h : m = 0 ∨ aC es m ≠ aC es (m - 1)
 ·rw [if_pos h]
  simp only [List.filter_cons, List.filter_nil, decide_eq_true h, if_true, List.map_cons, List.map_nil]
 ·rw [if_neg h]
  simp only [List.filter_cons, List.filter_nil, decide_eq_false h, Bool.false_eq_true, if_false, List.map_nil]
theorem b7h (es : List α) (m : Nat) : (pC es m).length ≤ m := by
 unfold pC
 rw [List.length_map]
 refine Nat.le_trans (List.length_filter_le _ _) ?_
 simp
theorem dW (es : List α) (m : Nat) (h : m < es.length) : es.take (m + 1) = es.take m ++ [aC es m] := by
 rw [bV es m h, List.take_succ_eq_append_getElem h]
theorem kM (es : List α) : ∀ m, m ≤ es.length → (∀ j, 0 < j → j < m → aC es j ≠ aC es (j - 1)) → pC es m = es.take m
 | 0, _, _ => by simp [pC]
 | m + 1, hm, h => by
   have ih := kM es m (by omega) fun j h1 h2 => h j h1 (by omega)
   rw [kA, ih, dW es m (by omega), if_pos]
   by_cases h0 : m = 0
   ·exact .inl h0
   ·exact .inr (h m (by omega) (by omega))
end
theorem a3c {v : Value} {n lo k b : Nat} (h : cA (iU v n lo k) = some b) : cA v = some b := by
 unfold iU at h
 split at h <;> exact h
theorem bW (a b : List (Int × Int)) : pr (a ++ b) = pr a ++ pr b := List.flatMap_append
end Go.Ds
namespace Go.Ds
open Go.Proofs
structure Reg where
 stops : List Nat
 cpl : Nat
 off : Nat
 deriving Inhabited, DecidableEq
def u64 (n : Nat) : Value := .int .u64 n
def Reg.cells (r : Reg) (sv : Value) : List Value := [sv, u64 r.cpl, u64 r.off]
def Reg.Ok (r : Reg) : Prop := r.stops.length < 1000000000 ∧ (∀ x ∈ r.stops, x < 18446744073709551616) ∧ r.cpl < 18446744073709551616 ∧ r.off < 18446744073709551616
def Reg.In (H : Heap) (r : Reg) (sv : Value) : Prop := Sl 1 (one u64) H sv r.stops ∧ r.Ok
theorem Reg.In.keep {P : Program} {H H0 : Heap} {os : List Ob} {r : Reg} {sv : Value} (h : r.In H0 sv) (hS : St P H0 H os) : r.In H sv := ⟨hS.sl h.1, h.2⟩
abbrev Ct := Int × Int
abbrev nK (n : Int) : Int := IntKind.wrap .i64 n
def gZ (o : Org) (c : Ct) : Bool := decide (0 ≤ c.1) && decide (c.1 < o.dvs.length) && decide ((aC o.dvs c.1.toNat).lo ≤ c.2) && decide (c.2 ≤ (aC o.dvs c.1.toNat).hi)
def sS (o : Org) (c : Ct) : Int := if c.1 < 0 ∨ o.dvs.length ≤ c.1 then 10 else if c.2 < (aC o.dvs c.1.toNat).lo ∨ (aC o.dvs c.1.toNat).hi < c.2 then 23 else 0
theorem iZ (o : Org) (c : Ct) : sS o c = 0 ↔ gZ o c = true := by
 unfold sS gZ
 by_cases h1 : c.1 < 0 ∨ o.dvs.length ≤ c.1
 ·rw [if_pos h1]
  simp
  omega
 ·rw [if_neg h1]
  by_cases h2 : c.2 < (aC o.dvs c.1.toNat).lo ∨ (aC o.dvs c.1.toNat).hi < c.2
  ·rw [if_pos h2]
   simp
   omega
  ·rw [if_neg h2]
   simp
   omega
def to1 (x : Cpl) (c : Ct) : Ct := (x.dst, nK (c.2 + x.shift))
def oK (cp : Nat) (thr : Bool) (c : Ct) (x : Cpl) (i : Nat) : Bool := cp.testBit i && decide (x.src = c.1) && (!thr || x.thr)
def step1 (o : Org) (cp : Nat) (thr : Bool) (c : Ct) (q : List Ct) (i : Nat) : List Ct :=
 if oK cp thr c (aC o.cpls i) i && gZ o (to1 (aC o.cpls i) c) && !decide (to1 (aC o.cpls i) c ∈ q) then q ++ [to1 (aC o.cpls i) c] else q
def stepN (o : Org) (cp : Nat) (thr : Bool) (c : Ct) (q : List Ct) (n : Nat) : List Ct := (List.range n).foldl (step1 o cp thr c) q
def stepF (o : Org) (cp : Nat) (thr : Bool) (c : Ct) (q : List Ct) : List Ct := stepN o cp thr c q o.cpls.length
theorem dS (o : Org) (cp : Nat) (thr : Bool) (c : Ct) (q : List Ct) (n : Nat) : stepN o cp thr c q (n + 1) = step1 o cp thr c (stepN o cp thr c q n) n := by
 unfold stepN
 rw [List.range_succ, List.foldl_append]
 rfl
def Que (o : Org) (q : List Ct) : Prop := q.Nodup ∧ ∀ c ∈ q, gZ o c = true
theorem Que.nil (o : Org) : Que o [] := ⟨.nil, by simp⟩
theorem Que.step1 {o : Org} {q : List Ct} (h : Que o q) (cp : Nat) (thr : Bool) (c : Ct) (i : Nat) : Que o (step1 o cp thr c q i) := by
 unfold Go.Ds.step1
 split
 ·rename_i hh
  simp only [Bool.and_eq_true, Bool.not_eq_true', decide_eq_false_iff_not] at hh
  refine ⟨?_, ?_⟩
  ·rw [List.nodup_append]
   exact ⟨h.1, by simp, fun a ha b hb e => hh.2 (by simp at hb; rw [← hb, ← e]; exact ha)⟩
  ·intro x hx
   rcases List.mem_append.1 hx with hx | hx
   ·exact h.2 x hx
   ·simp at hx
    rw [hx]
    exact hh.1.2
 ·exact h
theorem Que.stepN {o : Org} {q : List Ct} (h : Que o q) (cp : Nat) (thr : Bool) (c : Ct) : ∀ n, Que o (stepN o cp thr c q n)
 | 0 => h
 | n + 1 => by rw [dS]; exact (h.stepN cp thr c n).step1 cp thr c n
theorem Que.stepF {o : Org} {q : List Ct} (h : Que o q) (cp : Nat) (thr : Bool) (c : Ct) : Que o (stepF o cp thr c q) := h.stepN cp thr c _
theorem a2T : ∀ (N : Nat) (l : List Nat), l.Nodup → (∀ i ∈ l, i < N) → l.length ≤ N
 | 0, l, hn, h => by
   cases l with
   | nil => simp
   | cons a l => exact absurd (h a (by simp)) (Nat.not_lt_zero _)
 | N + 1, l, hn, h => by
   have h1 : (l.erase N).length ≤ N := by
    refine a2T N _ (hn.erase N) fun i hi => ?_
    have h2 := (List.Nodup.mem_erase_iff hn).1 hi
    have := h i h2.2
    omega
   rw [List.length_erase] at h1
   split at h1 <;> omega
theorem rO {f : Nat → Int} {n : Nat} (h : dB f n = 0) : ∀ j, j < n → f j = 0 := by
 intro j hj
 unfold dB at h
 cases hf : (List.range n).find? (fun j => decide (f j ≠ 0)) with
 | some i =>
   rw [hf] at h
   have := List.find?_some hf
   simp only [decide_eq_true_eq] at this
   exact absurd h this
 | none =>
   rw [List.find?_eq_none] at hf
   have := hf j (List.mem_range.2 hj)
   simpa using this
structure Org.Fine (o : Org) : Prop where
 dpos : 0 < o.dvs.length
 dlen : o.dvs.length ≤ 8
 rlen : o.ranks.length ≤ 60
 keys : ∀ j, j < o.dvs.length → 0 ≤ (aC o.dvs j).lo ∧ (aC o.dvs j).lo ≤ (aC o.dvs j).hi ∧ (aC o.dvs j).hi ≤ 127
 stops : ∀ j, j < o.dvs.length → (aC o.dvs j).stops.length ≤ 60
 clen : o.cpls.length ≤ 40
 draws : ∀ j, j < o.dvs.length → ∀ s ∈ (aC o.dvs j).stops, ∀ g ∈ s.segs, g.draws.length ≤ 8
theorem Org.fine {o : Org} (h : organE o = 0) : o.Fine := by
 unfold organE at h
 split at h
 ·omega
 split at h
 ·omega
 rename_i _ h2
 split at h
 ·rename_i hh; exact absurd h hh
 split at h
 ·omega
 rename_i h4
 split at h
 ·omega
 rename_i h5
 split at h
 ·rename_i hh; exact absurd h hh
 rename_i h6
 have h6 := Classical.not_not.1 h6
 have hd : ∀ j, j < o.dvs.length → (0 ≤ (aC o.dvs j).lo ∧ (aC o.dvs j).lo ≤ (aC o.dvs j).hi ∧ (aC o.dvs j).hi ≤ 127) ∧ (aC o.dvs j).stops.length ≤ 60 ∧ ∀ s ∈ (aC o.dvs j).stops, ∀ g ∈ s.segs, g.draws.length ≤ 8 := by
  intro j hj
  have e := rO h6 j hj
  unfold lP at e
  split at e
  ·omega
  split at e
  ·omega
  unfold divE at e
  split at e
  ·rename_i hh; exact absurd e hh
  rename_i hc
  have hc := Classical.not_not.1 hc
  split at e
  ·omega
  unfold iS at hc
  split at hc
  ·omega
  split at hc
  ·omega
  refine ⟨by omega, by omega, fun s hs g hg => ?_⟩
  obtain ⟨k, hk, rfl⟩ := List.mem_iff_getElem.1 hs
  obtain ⟨i, hi, rfl⟩ := List.mem_iff_getElem.1 hg
  have e2 := rO e k hk
  unfold gJ at e2
  rw [bV _ k hk] at e2
  split at e2
  ·rename_i hh; exact absurd e2 hh
  rename_i e3
  have e3 := Classical.not_not.1 e3
  unfold stopE at e3
  split at e3
  ·rename_i hh; exact absurd e3 hh
  split at e3
  ·omega
  split at e3
  ·rename_i hh; exact absurd e3 hh
  split at e3
  ·omega
  split at e3
  ·omega
  have e4 := rO e3 i hi
  unfold cR at e4
  rw [bV _ i hi] at e4
  split at e4
  ·omega
  split at e4
  ·omega
  unfold dE at e4
  split at e4
  ·omega
  omega
 refine ⟨by omega, by omega, by omega, fun j hj => (hd j hj).1, fun j hj => (hd j hj).2.1, ?_, fun j hj => (hd j hj).2.2⟩
 unfold lJ at h
 split at h <;> omega
theorem mT (o : Org) (c : Ct) : gZ o c = true ↔ 0 ≤ c.1 ∧ c.1 < o.dvs.length ∧ (aC o.dvs c.1.toNat).lo ≤ c.2 ∧ c.2 ≤ (aC o.dvs c.1.toNat).hi := by
 unfold gZ
 simp only [Bool.and_eq_true, decide_eq_true_eq, and_assoc]
theorem wG {o : Org} (ho : o.Fine) {c : Ct} (h : gZ o c = true) : 0 ≤ c.1 ∧ c.1 < 8 ∧ 0 ≤ c.2 ∧ c.2 ≤ 127 := by
 have h := (mT o c).1 h
 have hk := ho.keys c.1.toNat (by omega)
 have := ho.dlen
 omega
theorem Que.len {o : Org} {q : List Ct} (h : Que o q) (ho : o.Fine) : q.length ≤ 1024 := by
 have h1 := a2T 1024 (q.map fun c => c.1.toNat * 128 + c.2.toNat) ?_ ?_
 ·simpa using h1
 ·unfold List.Nodup
  rw [List.pairwise_map]
  refine List.Pairwise.imp_of_mem (fun {a b} ha hb hne e => hne ?_) h.1
  have h1 := wG ho (h.2 a ha)
  have h2 := wG ho (h.2 b hb)
  apply Prod.ext <;> omega
 ·intro i hi
  obtain ⟨c, hc, rfl⟩ := List.mem_map.1 hi
  have h1 := wG ho (h.2 c hc)
  omega
def bfs (o : Org) (cp : Nat) : Nat → Nat → List Ct → List Ct
 | 0, _, q => q
 | n + 1, i, q => if i < q.length then bfs o cp n (i + 1) (stepF o cp true (aC q i) q) else q
def dX (o : Org) (cp : Nat) (l : List Ct) : List Ct := l.foldl (fun q c => stepF o cp false c q) []
def eI (o : Org) (r : Reg) (l : List Ct) : List Ct := dd (mN (l.filter (fun c => !r.off.testBit c.1.toNat) ++ bfs o r.cpl 1100 0 (dX o r.cpl l)))
def fX (rs : List Rk) (d : Drw) (key : Int) : Ct := if d.rank < 0 ∨ rs.length ≤ d.rank then (0, 0) else (d.rank, nK (nK (key + d.shift) - (aC rs d.rank.toNat).first))
def pM (rs : List Rk) (d : Drw) (key : Int) : Bool := !decide (d.rank < 0 ∨ rs.length ≤ d.rank) && decide (0 ≤ (fX rs d key).2) && decide ((fX rs d key).2 < (aC rs d.rank.toNat).wind.length)
def a4t (s : Stp) (key : Int) (j : Nat) : Bool := decide ((aC s.segs j).lo ≤ key) && decide (key ≤ (aC s.segs j).hi)
def a5l (s : Stp) (key : Int) : List Drw := if jM (a4t s key) s.segs.length < 0 then [] else (aC s.segs (jM (a4t s key) s.segs.length).toNat).draws
def iP (rs : List Rk) (s : Stp) (key : Int) : List Ct := dd (mN (((a5l s key).filter fun d => pM rs d key).map fun d => fX rs d key))
def fQ (o : Org) (r : Reg) (c : Ct) : List Ct := (List.range (aC o.dvs c.1.toNat).stops.length).flatMap fun i => if (aC r.stops c.1.toNat).testBit i then iP o.ranks (aC (aC o.dvs c.1.toNat).stops i) c.2 else []
def rF (o : Org) (r : Reg) (l : List Ct) : List Ct := dd (mN (l.flatMap (fQ o r)))
def dT (o : Org) (r : Reg) (l : List Ct) : List Ct := rF o r (eI o r l)
end Go.Ds
namespace Go.Ds
open Go.Proofs
variable {H : Heap}
theorem a5R (a b : Nat) (h : a < 18446744073709551616) : ((a : Nat) : Int).fdiv (2 ^ min b (IntKind.bits .u64)) = ((a >>> b : Nat) : Int) := by
 have e : IntKind.bits .u64 = 64 := rfl
 rw [e]
 have h1 : ((a : Nat) : Int).fdiv (2 ^ min b 64) = ((a / 2 ^ min b 64 : Nat) : Int) := by
  rw [Int.fdiv_eq_ediv_of_nonneg _ (by exact Int.le_of_lt (Int.pow_pos (by decide)))]
  simp
 rw [h1, Nat.shiftRight_eq_div_pow]
 by_cases hb : b ≤ 64
 ·rw [Nat.min_eq_left hb]
 ·rw [Nat.min_eq_right (by omega)]
  have h2 : a / 2 ^ 64 = 0 := Nat.div_eq_of_lt (by simpa using h)
  have h3 : a / 2 ^ b = 0 := Nat.div_eq_of_lt (Nat.lt_of_lt_of_le (by simpa using h) (Nat.pow_le_pow_right (by decide) (show 64 ≤ b by omega)))
  rw [h2, h3]
theorem a6A (n : Nat) (h : n < 18446744073709551616) : IntKind.wrap .u64 ((BitVec.ofInt (IntKind.bits .u64) (n : Int) &&& BitVec.ofInt (IntKind.bits .u64) 1).toNat : Int) = ((n % 2 : Nat) : Int) := by
 have e : (BitVec.ofInt (IntKind.bits .u64) (n : Int) &&& BitVec.ofInt (IntKind.bits .u64) 1).toNat = n % 2 := by
  show (BitVec.ofInt 64 (n : Int) &&& BitVec.ofInt 64 1).toNat = n % 2
  rw [BitVec.toNat_and]
  have h1 : (BitVec.ofInt 64 (n : Int)).toNat = n := by
   rw [BitVec.ofInt_natCast, BitVec.toNat_ofNat]
   exact Nat.mod_eq_of_lt (by simpa using h)
  have h2 : (BitVec.ofInt 64 1).toNat = 1 := rfl
  rw [h1, h2, Nat.and_one_is_mod]
 rw [e]
 have : n % 2 < 2 := Nat.mod_lt _ (by decide)
 have hh : n % 2 = 0 ∨ n % 2 = 1 := by omega
 rcases hh with h | h <;> rw [h] <;> rfl
theorem tb (a i : Nat) : a.testBit i = decide (a >>> i % 2 = 1) := by
 rw [Nat.testBit_eq_decide_div_mod_eq, Nat.shiftRight_eq_div_pow]
theorem a0S {a : Nat} (b : Nat) (h : a < 18446744073709551616) : a >>> b < 18446744073709551616 := by
 rw [Nat.shiftRight_eq_div_pow]
 exact Nat.lt_of_le_of_lt (Nat.div_le_self _ _) h
theorem oA (o : Org) (ho : o.In H) (c : Ct) : Fn Tryz.prog 189 [.agg #[.string o.name, o.rv, o.dv, o.cv], .agg #[I c.1, I c.2]] H fun r H' => r = I (sS o c) ∧ St Tryz.prog H H' [] := by
 have hl := ho.2.2.2.2.2.2.1
 refine Fn.of_sw Tryz.func189 rfl (by kernel_rfl) fun l hl => ?_
 have hn : l.length = 36 := by rw [hl]; rfl
 have g0 : get l 0 = (.agg #[(.string o.name), o.rv, o.dv, o.cv]) := by rw [hl]; rfl
 have g1 : get l 1 = (.agg #[I c.1, I c.2]) := by rw [hl]; rfl
 clear hl
 simp (disch := omega) only [↓RA, RB, simprocAttr, g0]
 refine (St.refl Tryz.prog H).eNew 4 [(.string o.name), o.rv, o.dv, o.cv] rfl rfl (by simp [OC, ((St.refl Tryz.prog H).sl ho.1).cells.2.1, ((St.refl Tryz.prog H).sl ho.2.2.1).cells.2.1, ((St.refl Tryz.prog H).sl ho.2.2.2.2.1).cells.2.1]) fW fun A1 H1 hS1 => ?_
 simp only [RT] at hS1
 simp (disch := omega) only [↓RA, RB, simprocAttr, g1]
 refine hS1.eNew 2 [I c.1, I c.2] rfl rfl rfl kP fun A2 H2 hS2 => ?_
 simp only [RT] at hS2
 simp (disch := omega) only [↓RA, RZ, simprocAttr, hn, hS2.ld 1 rfl]
 refine aL (fun h1 => ?_) (fun h1 => ?_)
 ·simp (disch := omega) only [↓RA, RZ, simprocAttr, hn, a2r, h1]
  exact ⟨by rw [sS, if_pos (by omega)], hS2.forget⟩
 simp (disch := omega) only [↓RA, RZ, simprocAttr, hn, hS2.ld 1 rfl, hS2.ld 0 rfl, (hS2.sl ho.2.2.1).len, h1]
 refine aA (fun h2 => ?_) (fun h2 => ?_)
 ·simp (disch := omega) only [↓RA, RZ, simprocAttr, hn, a2r, h1, h2]
  exact ⟨by rw [sS, if_pos (by omega)], hS2.forget⟩
 obtain ⟨j, hj⟩ : ∃ j : Nat, c.1 = j := ⟨c.1.toNat, by omega⟩
 have hc : sS o c = if c.2 < (aC o.dvs j).lo ∨ (aC o.dvs j).hi < c.2 then 23 else 0 := by
  rw [sS, if_neg (by omega), hj]
  rfl
 rw [hj] at h1 h2
 simp (disch := omega) only [↓RA, RZ, simprocAttr, hn, hS2.ld 0 rfl, h1, h2, hj]
 simp (disch := omega) only [↓RA, RZ, simprocAttr, hn, hS2.ld 1 rfl, (hS2.sl ho.2.2.1).idx, (hS2.sl ho.2.2.1).fld, (hS2.sl ho.2.2.1).ldP 2, Dvn.cells, h1, h2, hj]
 refine hS2.eNew 2 [I 0, I 0] rfl rfl rfl tF fun A3 H3 hS3 => ?_
 simp only [RT] at hS3
 simp (disch := omega) only [↓RA, RZ, simprocAttr, hn, h1, h2, hj]
 refine hS3.eStore 2 rfl [I (aC o.dvs j).lo, I (aC o.dvs j).hi] rfl rfl tF (by simp) fun H4 hS4 => ?_
 simp only [RT] at hS4
 simp (disch := omega) only [↓RA, RZ, simprocAttr, hn, hS4.ld 1 rfl, hS4.ld 2 rfl, h1, h2, hj]
 refine aL (fun h3 => ?_) (fun h3 => ?_)
 ·simp (disch := omega) only [↓RA, RZ, simprocAttr, hn, a2r, h1, h2, hj, h3]
  exact ⟨by rw [hc, if_pos (by omega)], hS4.forget⟩
 simp (disch := omega) only [↓RA, RZ, simprocAttr, hn, hS4.ld 1 rfl, hS4.ld 2 rfl, h1, h2, hj, h3]
 refine aA (fun h4 => ?_) (fun h4 => ?_)
 ·simp (disch := omega) only [↓RA, RZ, simprocAttr, hn, a2r, h1, h2, hj, h3, h4]
  exact ⟨by rw [hc, if_pos (by omega)], hS4.forget⟩
 simp (disch := omega) only [↓RA, RZ, simprocAttr, hn, a2r, h1, h2, hj, h3, h4]
 exact ⟨by rw [hc, if_neg (by omega)], hS4.forget⟩
def gX (o : Org) (r : Reg) : Int := if organE o ≠ 0 then organE o else if r.stops.length ≠ o.dvs.length then 5 else if ∃ j, j < o.dvs.length ∧ aC r.stops j >>> (aC o.dvs j).stops.length ≠ 0 then 3 else if r.cpl >>> o.cpls.length ≠ 0 ∨ r.off >>> o.dvs.length ≠ 0 then 3 else 0
theorem b7x (o : Org) (ho : o.In H) (r : Reg) (sv : Value) (hr : r.In H sv) : Fn Tryz.prog 60 [.agg #[.string o.name, o.rv, o.dv, o.cv], .agg #[sv, .int .u64 r.cpl, .int .u64 r.off]] H fun v H' => v = I (gX o r) ∧ St Tryz.prog H H' [] := by
 have hl := ho.2.2.2.2.2.2.1
 have hlc := ho.2.2.2.2.2.2.2
 obtain ⟨hr1, hr2, hr3, hr4, hr5⟩ := hr
 refine Fn.of_sw Tryz.func60 rfl (by kernel_rfl) fun l hl => ?_
 have hn : l.length = 55 := by rw [hl]; rfl
 have g0 : get l 0 = (.agg #[(.string o.name), o.rv, o.dv, o.cv]) := by rw [hl]; rfl
 have g1 : get l 1 = (.agg #[sv, (.int .u64 r.cpl), (.int .u64 r.off)]) := by rw [hl]; rfl
 clear hl
 simp (disch := omega) only [↓RA, RB, simprocAttr, g0]
 refine (St.refl Tryz.prog H).eNew 4 [(.string o.name), o.rv, o.dv, o.cv] rfl rfl (by simp [OC, ((St.refl Tryz.prog H).sl ho.1).cells.2.1, ((St.refl Tryz.prog H).sl ho.2.2.1).cells.2.1, ((St.refl Tryz.prog H).sl ho.2.2.2.2.1).cells.2.1]) fW fun A1 H1 hS1 => ?_
 simp only [RT] at hS1
 simp (disch := omega) only [↓RA, RB, simprocAttr, g1]
 refine hS1.eNew 3 [sv, (.int .u64 r.cpl), (.int .u64 r.off)] rfl rfl (by simp [OC, (hS1.sl hr1).cells.2.1]) kD fun A2 H2 hS2 => ?_
 simp only [RT] at hS2
 simp (disch := omega) only [↓RA, RZ, simprocAttr, hn, hS2.ldA 0 rfl]
 refine aB (wT o (ho.keep hS2)) ?_
 rintro r H3 ⟨rfl, hT1⟩
 have hS3 := hS2.trans hT1
 simp only [RT] at hS3
 simp (disch := omega) only [↓RA, RB, simprocAttr, hn]
 refine aA (fun h1 => ?_) (fun h1 => ?_)
 ·simp (disch := omega) only [↓RA, RZ, simprocAttr, hn, a8K, h1]
  exact ⟨by rw [gX, if_pos h1], hS3.forget⟩
 simp (disch := omega) only [↓RA, RZ, simprocAttr, hn, hS3.ld 1 rfl, (hS3.sl hr1).len, hS3.ld 0 rfl, (hS3.sl ho.2.2.1).len, h1]
 refine aA (fun h2 => ?_) (fun h2 => ?_)
 ·simp (disch := omega) only [↓RA, RZ, simprocAttr, hn, a8K, h1, h2]
  exact ⟨by rw [gX, if_neg h1, if_pos (by omega)], hS3.forget⟩
 simp (disch := omega) only [↓RA, RZ, simprocAttr, hn, hS3.ld 0 rfl, (hS3.sl ho.2.2.1).len, h1, h2]
 have hE : gX o r = if ∃ j, j < o.dvs.length ∧ aC r.stops j >>> (aC o.dvs j).stops.length ≠ 0 then 3 else if r.cpl >>> o.cpls.length ≠ 0 ∨ r.off >>> o.dvs.length ≠ 0 then 3 else 0 := by rw [gX, if_neg h1, if_neg (by omega)]
 refine Wp.loopS (fun n l H' => l.length = 55 ∧ get l 2 = (ptr A1 0 4) ∧ get l 3 = (ptr A2 0 3) ∧ get l 21 = o.dv ∧ get l 22 = I o.dvs.length ∧ ∃ (j : Nat), (n + j = o.dvs.length ∧ ∀ q, q < j → aC r.stops q >>> (aC o.dvs q).stops.length = 0) ∧ get l 23 = I j ∧ St Tryz.prog H H' [⟨ptr A1 0 4, 0, [(.string o.name), o.rv, o.dv, o.cv]⟩, ⟨ptr A2 0 3, 0, [sv, (.int .u64 r.cpl), (.int .u64 r.off)]⟩]) o.dvs.length ?_ ?_
 ·simp (disch := omega) only [RB, RC, simprocAttr, hn]
  exact ⟨0, ⟨by omega, fun q hq => absurd hq (Nat.not_lt_zero _)⟩, rfl, hS3⟩
 rintro n l H4 ⟨hn, g2, g3, g21, g22, j, ⟨hj,hz⟩, g23, hS4⟩
 have e1 := a5R r.cpl o.cpls.length hr4
 have e2 := a5R r.off o.dvs.length hr5
 simp (disch := omega) only [↓RA, RB, simprocAttr, hn, g22, g23]
 refine aA (fun q1 => ?_) (fun q1 => ?_)
 ·have hst := (ho.2.2.2.1 _ (aF (xs := o.dvs) (j := j) (by omega))).2.2
  have e3 := a5R (aC r.stops j) (aC o.dvs j).stops.length (hr3 _ (aF (by omega)))
  simp (disch := omega) only [↓RA, RZ, simprocAttr, hn, g21, g23, (hS4.sl ho.2.2.1).idx, (hS4.sl ho.2.2.1).ldA, Dvn.cells, q1]
  refine hS4.eNew 5 [(.string ⟨#[]⟩), (.bool false), I 0, I 0, (.slice none 0 0)] rfl rfl rfl wY fun A3 H5 hS5 => ?_
  simp only [RT] at hS5
  simp (disch := omega) only [↓RA, RZ, simprocAttr, hn, q1]
  refine hS5.eStore 2 rfl [(.string (aC o.dvs j).name), (.bool (aC o.dvs j).pedal), I (aC o.dvs j).lo, I (aC o.dvs j).hi, (aC o.dvs j).sv] rfl (by simp [OC, (hS5.sl (ho.2.2.2.1 (aC o.dvs j) (aF (by omega))).1).cells.2.1]) wY (by simp) fun H6 hS6 => ?_
  simp only [RT] at hS6
  simp (disch := omega) only [↓RA, RZ, simprocAttr, q1]
  refine Wp.drw cD (by kernel_rfl) ?_
  simp (disch := omega) only [↓RA, RZ, simprocAttr, hn, g3, hS6.ld 1 rfl, (hS6.sl hr1).idx, (hS6.sl hr1).ld, one, u64, hS6.ld 2 rfl, (hS6.sl (ho.2.2.2.1 (aC o.dvs j) (aF (by omega))).1).len, e3]
  refine aA (fun q2 => ?_) (fun q2 => ?_)
  ·simp (disch := omega) only [↓RA, RZ, simprocAttr, hn, a8K, q2]
   exact ⟨by rw [hE, if_pos ⟨j, by omega, by omega⟩], hS6.forget⟩
  simp (disch := omega) only [↓RA, RZ, simprocAttr, hn, g2, g3, g21, g22, g23, q2]
  exact ⟨n - 1, by omega, j + 1, ⟨by omega, fun q hq => by rcases Nat.lt_succ_iff_lt_or_eq.1 hq with e | e; (· exact hz q e); (· rw [e]; omega)⟩, by simp, hS6.sub (by simp)⟩
 simp (disch := omega) only [↓RA, RZ, simprocAttr, hn, g2, g3, hS4.ld 1 rfl, hS4.ld 0 rfl, (hS4.sl ho.2.2.2.2.1).len, q1, e1]
 have hno : ¬ ∃ j, j < o.dvs.length ∧ aC r.stops j >>> (aC o.dvs j).stops.length ≠ 0 := by
  rintro ⟨q, hq, hne⟩
  exact hne (hz q (by omega))
 rw [if_neg hno] at hE
 clear hno
 refine aL (fun q3 => ?_) (fun q3 => ?_)
 ·simp (disch := omega) only [↓RA, RZ, simprocAttr, hn, a8K, q1, q3]
  exact ⟨by rw [hE, if_pos (by omega)], hS4.forget⟩
 simp (disch := omega) only [↓RA, RZ, simprocAttr, hn, g2, g3, hS4.ld 1 rfl, hS4.ld 0 rfl, (hS4.sl ho.2.2.1).len, q1, e2, q3]
 refine aA (fun q4 => ?_) (fun q4 => ?_)
 ·simp (disch := omega) only [↓RA, RZ, simprocAttr, hn, a8K, q1, q3, q4]
  exact ⟨by rw [hE, if_pos (by omega)], hS4.forget⟩
 simp (disch := omega) only [↓RA, RZ, simprocAttr, hn, a8K, q1, q3, q4]
 exact ⟨by rw [hE, if_neg (by omega)], hS4.forget⟩
end Go.Ds
namespace Go.Ds
open Go.Proofs
variable {H : Heap}
def mO (o : Org) (b : Nat → Nat) : Reg := ⟨(List.range o.dvs.length).map fun i => b (i % 3) % 2 ^ (aC o.dvs i).stops.length, b 3 % 2 ^ o.cpls.length, b 4 % 2 ^ o.dvs.length⟩
theorem mB (n : Nat) (h : n < 18446744073709551616) : (BitVec.ofInt (IntKind.bits .u64) (n : Int)).toNat = n := by
 show (BitVec.ofInt 64 (n : Int)).toNat = n
 rw [BitVec.ofInt_natCast, BitVec.toNat_ofNat]
 exact Nat.mod_eq_of_lt (by simpa using h)
theorem b1m (b n : Nat) (h : n ≤ 8) (hb : b < 256) : IntKind.wrap .u64 ((BitVec.ofInt (IntKind.bits .u64) (b : Int) &&& BitVec.ofInt (IntKind.bits .u64) (IntKind.wrap .u64 (IntKind.wrap .u64 (1 * 2 ^ min n (IntKind.bits .u64)) - 1))).toNat : Int) = ((b % 2 ^ n : Nat) : Int) := by
 have key : IntKind.wrap .u64 (IntKind.wrap .u64 (1 * 2 ^ min n (IntKind.bits .u64)) - 1) = ((2 ^ n - 1 : Nat) : Int) := by
  have : n = 0 ∨ n = 1 ∨ n = 2 ∨ n = 3 ∨ n = 4 ∨ n = 5 ∨ n = 6 ∨ n = 7 ∨ n = 8 := by omega
  rcases this with rfl | rfl | rfl | rfl | rfl | rfl | rfl | rfl | rfl <;> rfl
 have hp : 2 ^ n ≤ 2 ^ 8 := Nat.pow_le_pow_right (by decide) h
 have e8 : 2 ^ 8 = 256 := rfl
 rw [key, BitVec.toNat_and, mB b (by omega), mB _ (by omega), Nat.and_two_pow_sub_one_eq_mod]
 have : b % 2 ^ n ≤ b := Nat.mod_le _ _
 exact gR _ (by omega) (by omega)
theorem a7X {o : Org} (b : Nat → Nat) (ho : organE o = 0) : gX o (mO o b) = 0 := by
 have hz : ∀ x n : Nat, (x % 2 ^ n) >>> n = 0 := fun x n => by
  rw [Nat.shiftRight_eq_div_pow]
  exact Nat.div_eq_of_lt (Nat.mod_lt _ (Nat.two_pow_pos n))
 unfold gX mO
 rw [if_neg (by rw [ho]; simp), if_neg (by simp), if_neg, if_neg (by simp only [hz]; simp)]
 rintro ⟨j, hj, hne⟩
 simp only at hne
 rw [bV _ j (by simpa using hj)] at hne
 simp only [List.getElem_map, List.getElem_range, hz, ne_eq, not_true_eq_false] at hne
theorem a4e (o : Org) (ho : o.In H) (h1 : o.cpls.length ≤ 3) (h2 : o.dvs.length ≤ 3) (h3 : ∀ j, j < o.dvs.length → (aC o.dvs j).stops.length ≤ 3) (b : Nat → Nat) (hb : ∀ i, b i < 256) :
 Fn Tryz.prog 37 [.agg #[.string o.name, o.rv, o.dv, o.cv], .agg #[.int .u8 (b 0), .int .u8 (b 1), .int .u8 (b 2), .int .u8 (b 3), .int .u8 (b 4)]] H fun r H' =>
  ∃ sv, r = .agg #[sv, .int .u64 (mO o b).cpl, .int .u64 (mO o b).off] ∧ St Tryz.prog H H' [⟨sv, 1, ((mO o b).stops).flatMap (one u64)⟩] := by
 have k0 := hb 0
 have k1 := hb 1
 have k2 := hb 2
 have k3 := hb 3
 have k4 := hb 4
 refine Fn.of_sw Tryz.func37 rfl (by kernel_rfl) fun l hl => ?_
 have hn : l.length = 57 := by rw [hl]; rfl
 have g0 : get l 0 = (.agg #[(.string o.name), o.rv, o.dv, o.cv]) := by rw [hl]; rfl
 have g1 : get l 1 = (.agg #[(.int .u8 (b 0)), (.int .u8 (b 1)), (.int .u8 (b 2)), (.int .u8 (b 3)), (.int .u8 (b 4))]) := by rw [hl]; rfl
 clear hl
 simp (disch := omega) only [↓RA, RB, simprocAttr, g0]
 refine (St.refl Tryz.prog H).eNew 4 [(.string o.name), o.rv, o.dv, o.cv] rfl rfl (by simp [OC, ((St.refl Tryz.prog H).sl ho.1).cells.2.1, ((St.refl Tryz.prog H).sl ho.2.2.1).cells.2.1, ((St.refl Tryz.prog H).sl ho.2.2.2.2.1).cells.2.1]) fW fun A1 H1 hS1 => ?_
 simp only [RT] at hS1
 simp (disch := omega) only [↓RA, RB, simprocAttr, g1]
 refine hS1.eNew 5 [(.int .u8 (b 0)), (.int .u8 (b 1)), (.int .u8 (b 2)), (.int .u8 (b 3)), (.int .u8 (b 4))] rfl rfl rfl b7z fun A2 H2 hS2 => ?_
 simp only [RT] at hS2
 simp (disch := omega) only [↓RA, RZ, simprocAttr]
 refine hS2.eNew 3 [(.slice none 0 0), (.int .u64 0), (.int .u64 0)] rfl rfl rfl kD fun A3 H3 hS3 => ?_
 simp only [RT] at hS3
 simp (disch := omega) only [↓RA, RZ, simprocAttr, hn, hS3.ld 1 rfl, hS3.ld 0 rfl, (hS3.sl ho.2.2.2.2.1).len, (hS3.sl ho.2.2.1).len, b0t]
 refine hS3.eNew 3 [(.slice none 0 0), (.int .u64 0), (.int .u64 0)] rfl rfl rfl kD fun A4 H4 hS4 => ?_
 simp only [RT] at hS4
 simp (disch := omega) only [↓RA, RB, simprocAttr, hn]
 refine hS4.eStore 3 rfl [(.slice none 0 0), _, _] rfl rfl kD (by simp) fun H5 hS5 => ?_
 simp only [RT] at hS5
 simp (disch := omega) only [↓RA, RB, simprocAttr]
 have m1 := b1m (b 3) o.cpls.length (by omega) (hb 3)
 have m2 := b1m (b 4) o.dvs.length (by omega) (hb 4)
 have hS6 := hS5.nil 0
 simp only [RT] at hS6
 simp only [m1, m2] at hS6
 refine Wp.loopS (fun n l H' => l.length = 57 ∧ get l 2 = (ptr A1 0 4) ∧ get l 3 = (ptr A2 0 5) ∧ get l 4 = (ptr A3 0 3) ∧ get l 5 = (ptr A4 0 3) ∧ ∃ (i : Nat) (sv : Value), (n + i = o.dvs.length) ∧ get l 6 = I i ∧ St Tryz.prog H H' [⟨ptr A1 0 4, 0, [(.string o.name), o.rv, o.dv, o.cv]⟩, ⟨ptr A2 0 5, 0, [(.int .u8 (b 0)), (.int .u8 (b 1)), (.int .u8 (b 2)), (.int .u8 (b 3)), (.int .u8 (b 4))]⟩, ⟨ptr A3 0 3, 0, [(.slice none 0 0), (.int .u64 0), (.int .u64 0)]⟩, ⟨ptr A4 0 3, 0, [sv, .int .u64 (b 3 % 2 ^ o.cpls.length : Nat), .int .u64 (b 4 % 2 ^ o.dvs.length : Nat)]⟩, ⟨sv, 1, ((List.range i).map fun i => b (i % 3) % 2 ^ (aC o.dvs i).stops.length).flatMap (one u64)⟩]) o.dvs.length ?_ ?_
 ·simp (disch := omega) only [RB, RC, simprocAttr, hn]
  exact ⟨0, _, by omega, rfl, hS6⟩
 rintro n l H6 ⟨hn, g2, g3, g4, g5, i, sv, hi, g6, hS7⟩
 simp (disch := omega) only [↓RA, RZ, simprocAttr, hn, g2, g6, hS7.ld 0 rfl, (hS7.sl ho.2.2.1).len]
 refine aA (fun q => ?_) (fun q => ?_)
 ·have hi3 : (i : Int).tmod 3 = ((i % 3 : Nat) : Int) := (Int.ofNat_tmod i 3).symm
  have hw : ([Value.int .u8 (b 0), .int .u8 (b 1), .int .u8 (b 2), .int .u8 (b 3), .int .u8 (b 4)] : List Value)[i % 3]? = some (.int .u8 (b (i % 3))) := by
   have : i % 3 = 0 ∨ i % 3 = 1 ∨ i % 3 = 2 := by omega
   rcases this with e | e | e <;> rw [e] <;> rfl
  have hst := h3 i (by omega)
  have hbi := hb (i % 3)
  have m3 := b1m (b (i % 3)) (aC o.dvs i).stops.length (by omega) (hb _)
  simp (disch := omega) only [↓RA, RC, simprocAttr, q]
  refine Wp.drwT cD [(1, 19)] (by kernel_rfl) (by kernel_rfl) ?_
  simp (disch := omega) only [↓RA, RZ, simprocAttr, hn, g2, g3, g5, g6, hS7.ld 3 rfl, hS7.ld 1 rfl, hw, hS7.ld 0 rfl, (hS7.sl ho.2.2.1).idx, (hS7.sl ho.2.2.1).fld, (hS7.sl ho.2.2.1).ld, Dvn.cells, (hS7.sl (ho.2.2.2.1 (aC o.dvs i) (aF (by omega))).1).len, hi3, m3]
  refine hS7.eSlice [_] b8h c2p rfl rfl (by simp [Value.cells]) rfl rfl (by decide) (by decide) fun w1 H7 hS8 => ?_
  simp only [RT] at hS8
  simp (disch := omega) only [↓RA, RZ, simprocAttr, hn]
  refine hS8.eAppend 4 rfl (hS8.rd 5 rfl) b8h (by rw [aR (n := 1) (cel := one u64) (fun _ => rfl)]; simp; omega) fun w2 H8 hS9 => ?_
  simp only [RT] at hS9
  simp (disch := omega) only [↓RA, RZ, simprocAttr, hn, g5]
  refine hS9.eStore 3 rfl [w2] (by rw [(hS9.rd 4 rfl).cells.1]) (by simp [(hS9.rd 4 rfl).cells.2.1]) b9A (by simp) fun H9 hS10 => ?_
  simp only [RT] at hS10
  simp (disch := omega) only [↓RA, RZ, simprocAttr, hn, g2, g3, g4, g5, g6, hS8.ld 3 rfl]
  refine ⟨n - 1, by omega, i + 1, w2, by omega, rfl, ?_⟩
  rw [List.range_succ, List.map_append, List.flatMap_append]
  exact hS10.pick [0, 1, 2, 3, 4] (by decide) rfl
 simp (disch := omega) only [↓RA, RZ, simprocAttr, hn, g4, g5, hS7.ldA 3 rfl, q]
 refine hS7.eStore 2 rfl [sv, (.int .u64 (b 3 % 2 ^ o.cpls.length : Nat)), (.int .u64 (b 4 % 2 ^ o.dvs.length : Nat))] rfl (by simp [OC, (hS7.rd 4 rfl).cells.2.1]) kD (by simp) fun H10 hS11 => ?_
 simp only [RT] at hS11
 simp (disch := omega) only [↓RA, RZ, simprocAttr, g4, c4D, hS11.ldA 2 rfl, q]
 have hii : i = o.dvs.length := by omega
 subst hii
 exact ⟨sv, rfl, hS11.pick [4] (by decide) rfl⟩
end Go.Ds
namespace Go.Ds
open Go.Proofs
variable {H : Heap}
set_option maxRecDepth 10000
theorem b8A : a5Y Tryz.prog 114 = some (1 + 1) := by kernel_rfl
theorem c0P : a5Y Tryz.prog 42 = some (1 + 1) := by kernel_rfl
theorem a2D {B : Base} {v : Value} {es : List (Int × Int)} (hS : St Tryz.prog B H [⟨v, 2, pr es⟩]) (hl : es.length < 100000000000) :
 Fn Tryz.prog 235 [v] H fun r H' => ∃ rest : List Value, (∀ b, cA r = some b → cA v = some b) ∧ (∀ H2, RdAt H2 v 2 (pr (dd es) ++ rest) → RdAt H2 r 2 (pr (dd es))) ∧ St Tryz.prog B H' [⟨v, 2, pr (dd es) ++ rest⟩] := by
 refine Fn.of_sw Tryz.func235 rfl (by kernel_rfl) fun l hl => ?_
 have hn : l.length = 61 := by rw [hl]; rfl
 have g0 : get l 0 = v := by rw [hl]; rfl
 clear hl
 simp (disch := omega) only [↓RA, RZ, simprocAttr, hn, g0, (hS.slo 0 rfl (fun _ => rfl)).len]
 refine aA (fun h => ?_) (fun h => ?_)
 ·have hd := kM es es.length (Nat.le_refl _) fun j h1 h2 => by omega
  rw [List.take_length] at hd
  simp (disch := omega) only [↓RA, RZ, simprocAttr, hn, g0, a9o, h]
  exact ⟨[], fun _ h => h, by unfold dd; rw [hd, List.append_nil]; exact fun _ h => h, by unfold dd; rw [hd, List.append_nil]; exact hS⟩
 simp (disch := omega) only [↓RA, RZ, simprocAttr, h]
 refine Wp.loopS (fun n l H' => l.length = 61 ∧ get l 0 = v ∧ ∃ (k : Nat), (0 < k ∧ n + k = es.length ∧ ∀ j, 0 < j → j < k → aC es j ≠ aC es (j - 1)) ∧ get l 3 = I k ∧ St Tryz.prog B H' [⟨v, 2, pr es⟩]) (es.length - 1) ?_ ?_
 ·simp (disch := omega) only [RB, RC, simprocAttr, hn, g0]
  exact ⟨1, ⟨by omega, by omega, fun j h1 h2 => by omega⟩, rfl, hS⟩
 rintro n l H1 ⟨hn, g0, k, ⟨hk0,hk,hdis⟩, g3, hS1⟩
 simp (disch := omega) only [↓RA, RZ, simprocAttr, hn, g0, g3, (hS1.slo 0 rfl (fun _ => rfl)).len]
 refine aA (fun h2 => ?_) (fun h2 => ?_)
 ·have hkl : k < es.length := by omega
  have hpre : (k : Int) - 1 = ((k - 1 : Nat) : Int) := by omega
  simp (disch := omega) only [↓RA, RC, simprocAttr, h2]
  refine Wp.drw cD (by kernel_rfl) ?_
  simp (disch := omega) only [↓RA, RZ, simprocAttr, hn, g0, g3, (hS1.slo 0 rfl (fun _ => rfl)).idx, (hS1.slo 0 rfl (fun _ => rfl)).ldA, cC, hpre]
  refine aA (fun h3 => ?_) (fun h3 => ?_)
  ·have h3 : aC es k = aC es (k - 1) := Prod.ext h3.1 h3.2
   have hlen : (pr es).length = es.length * (1 + 1) := aJ es
   have hpos : 0 < es.length := by omega
   have hdk := kM es k (by omega) hdis
   have hdk1 : pC es (k + 1) = es.take k := by rw [kA, hdk, if_neg (by rintro (h4 | h4); omega; exact h4 h3), List.append_nil]
   have hrow : St Tryz.prog B H1 [⟨v, 2, pr (pC es (k + 1) ++ es.drop k)⟩] := by rw [hdk1, List.take_append_drop]; exact hS1
   have hdl : (pC es (k + 1)).length = k := by rw [hdk1, List.length_take]; omega
   simp (disch := omega) only [↓RA, RZ, simprocAttr, hn, g0, g3, (hS1.slo 0 rfl (fun _ => rfl)).sliceL, h3]
   refine Wp.loopS (fun n l H' => l.length = 61 ∧ get l 0 = v ∧ ∃ k2 : Nat, (0 < k2 ∧ n + k + k2 = es.length ∧ (pC es (k + k2)).length < k + k2) ∧ get l 3 = I (pC es (k + k2)).length ∧ get l 4 = iU v 2 k (es.length - k) ∧ get l 5 = I k2 ∧ St Tryz.prog B H' [⟨v, 2, pr (pC es (k + k2) ++ es.drop (pC es (k + k2)).length)⟩]) (es.length - k - 1) ?_ ?_
   ·simp (disch := omega) only [RB, RC, simprocAttr, hn, g0, g3]
    refine ⟨1, ⟨by omega, by omega, by omega⟩, by rw [hdl], by congr 1; omega, rfl, ?_⟩
    rw [hdl]
    exact hrow
   clear hrow hdk hdk1 hdl hdis
   rintro n l H9 ⟨hn, g0, k2, ⟨hk20, hk2, hlt⟩, g3, g4, g5, hS9⟩
   have hsucc := kA es (k + k2)
   generalize hD : pC es (k + k2) = D at g3 hlt hS9 hsucc
   have hrl : (D ++ es.drop D.length).length = es.length := by rw [List.length_append, List.length_drop]; omega
   have hv : Sl 2 cC H9 v (D ++ es.drop D.length) := hS9.slo 0 rfl cH
   have hat : ∀ j, D.length ≤ j → aC (D ++ es.drop D.length) j = aC es j := fun j hj => by
    unfold aC
    rw [List.getD_eq_getElem?_getD, List.getElem?_append_right hj, List.getElem?_drop, List.getD_eq_getElem?_getD]
    congr 2; omega
   have hsub : Sl 2 cC H9 (iU v 2 k ((D ++ es.drop D.length).length - k)) ((D ++ es.drop D.length).drop k) := hv.subL k (by omega) (by omega)
   rw [hrl] at hsub
   have hsl : ((D ++ es.drop D.length).drop k).length = es.length - k := by rw [List.length_drop, hrl]
   have hsat : ∀ j, D.length ≤ k + j → aC ((D ++ es.drop D.length).drop k) j = aC es (k + j) := fun j hj => by
    rw [← hat (k + j) hj]
    unfold aC
    rw [List.getD_eq_getElem?_getD, List.getElem?_drop, List.getD_eq_getElem?_getD]
   have hbd : ((es.length - k : Nat) : Int) = (es.length : Int) - k := by omega
   simp (disch := omega) only [↓RA, RZ, simprocAttr, hn, g4, g5, hsub.len, hsl, hbd]
   refine aA (fun h4 => ?_) (fun h4 => ?_)
   ·have hj : k + k2 < es.length := by omega
    have hpre2 : (k2 : Int) - 1 = ((k2 - 1 : Nat) : Int) := by omega
    have e1 := hsat k2 (by omega)
    have e2 := hsat (k2 - 1) (by omega)
    rw [show k + (k2 - 1) = k + k2 - 1 from by omega] at e2
    simp (disch := omega) only [↓RA, RC, simprocAttr, h4]
    refine Wp.drw cD (by kernel_rfl) ?_
    simp (disch := omega) only [↓RA, RZ, simprocAttr, hn, g4, g5, hsub.idx, hsub.ldA, cC, hpre2, e1, e2]
    refine aA (fun h5 => ?_) (fun h5 => ?_)
    ·have hne : aC es (k + k2) ≠ aC es (k + k2 - 1) := fun e => h5 (by rw [e]; exact ⟨rfl, rfl⟩)
     rw [if_pos (.inr hne)] at hsucc
     simp (disch := omega) only [↓RA, RZ, simprocAttr, hn, g0, g3, g4, g5, hsub.idx, hsub.ldA, cC, e1, h5]
     simp (disch := omega) only [↓RA, RZ, simprocAttr, hn, (hS9.slo 0 rfl (fun _ => rfl)).idx, h5]
     refine hS9.eStoreE 0 rfl [I (aC es (k + k2)).1, I (aC es (k + k2)).2] rfl rfl kP (by simp) (by rw [aJ, hrl]; simp; omega) fun H2 hS2 => ?_
     simp only [RT] at hS2
     simp (disch := omega) only [↓RA, RZ, simprocAttr, hn, g0, g3, g4, g5, h5]
     refine ⟨n - 1, by omega, k2 + 1, ?_⟩
     rw [show k + (k2 + 1) = k + k2 + 1 from by omega, hsucc]
     refine ⟨⟨by omega, by omega, by simp; omega⟩, by simp, by simp, ?_⟩
     have e3 : pr (D ++ [aC es (k + k2)] ++ es.drop (D ++ [aC es (k + k2)]).length) = ((pr (D ++ es.drop D.length)).set (D.length * 2) (I (aC es (k + k2)).1)).set (D.length * 2 + 1) (I (aC es (k + k2)).2) := by
      have hx : es.drop D.length = aC es D.length :: es.drop (D.length + 1) := by
       rw [bV es _ (by omega)]
       exact List.drop_eq_getElem_cons (by omega)
      rw [hx, List.length_append, List.length_singleton, bW, bW, bW]
      have e4 : pr (aC es D.length :: es.drop (D.length + 1)) = I (aC es D.length).1 :: I (aC es D.length).2 :: pr (es.drop (D.length + 1)) := rfl
      have e5 : pr [aC es (k + k2)] = [I (aC es (k + k2)).1, I (aC es (k + k2)).2] := rfl
      have e6 : (pr D).length = D.length * 2 := aJ D
      rw [e4, e5, List.set_append_right _ _ (by omega), List.set_append_right _ _ (by omega), e6, Nat.sub_self, Nat.add_sub_cancel_left]
      simp
     rw [e3]
     exact hS2
    have heq : aC es (k + k2) = aC es (k + k2 - 1) := by
     have h6 := Classical.not_not.1 h5
     exact Prod.ext h6.1 h6.2
    rw [if_neg (by rintro (h6 | h6); omega; exact h6 heq), List.append_nil] at hsucc
    simp (disch := omega) only [↓RA, RZ, simprocAttr, hn, g0, g3, g4, g5, h5]
    refine ⟨n - 1, by omega, k2 + 1, ?_⟩
    rw [show k + (k2 + 1) = k + k2 + 1 from by omega, hsucc]
    exact ⟨⟨by omega, by omega, by omega⟩, rfl, by simp, hS9⟩
   have hke : k + k2 = es.length := by omega
   rw [hke] at hD
   have hcl : (pr (D ++ es.drop D.length)).length = es.length * (1 + 1) := by rw [aJ, hrl]
   have hDn : D.length ≤ es.length := by omega
   simp (disch := omega) only [↓RA, RZ, simprocAttr, hn, g0, g3, (hS9.slo 0 rfl (fun _ => rfl)).sliceL, h4]
   rw [show (((D ++ es.drop D.length).length : Int) - D.length).toNat = es.length - D.length from by rw [hrl]; omega]
   refine hS9.eClear (size := 1) 0 rfl D.length (es.length - D.length) (by rw [hcl]; omega) (by
    intro e
    have h2 : (pr (D ++ es.drop D.length)).length = 0 := by rw [e]; rfl
    rw [aJ, hrl] at h2; omega) b8A fun z H3 hz hSc => ?_
   simp only [RT] at hSc
   have e3 : aX (pr (D ++ es.drop D.length)) (D.length * 2) z = pr D ++ z := by
    rw [bW, show D.length * 2 = (pr D).length from (aJ D).symm, eP z (pr D) (pr (es.drop D.length)) (by rw [aJ, List.length_drop]; omega)]
    rw [List.drop_of_length_le (by rw [aJ, List.length_drop]; omega), List.append_nil]
   rw [show D.length * (1 + 1) = D.length * 2 from rfl, e3] at hSc
   have hw : RdAt H3 v (1 + 1) (pr D ++ z) := hSc.rd 0 rfl
   have hwl : (pr D ++ z).length = es.length * (1 + 1) := by rw [List.length_append, aJ, hz]; omega
   simp (disch := omega) only [↓RA, RZ, simprocAttr, hn, g0, g3, hw.sliceH hwl, a9o, h4]
   refine ⟨z, fun b h => a3c h, fun H2 h2 => ?_, by unfold dd; rw [hD]; exact hSc⟩
   unfold dd at h2 ⊢
   rw [hD] at h2 ⊢
   have h5 := RdAt.sub h2 0 D.length (by rw [hwl]; omega) (by
    intro e
    rw [e] at hwl
    simp at hwl; omega)
   rw [Nat.zero_mul, List.drop_zero, show D.length * 2 = (pr D).length from (aJ D).symm, List.take_left' rfl] at h5
   exact h5
  have hne : aC es k ≠ aC es (k - 1) := fun e => h3 (by rw [e]; exact ⟨rfl, rfl⟩)
  simp (disch := omega) only [↓RA, RZ, simprocAttr, hn, g0, g3, h3]
  refine ⟨n - 1, by omega, k + 1, ⟨by omega, by omega, fun j h4 h5 => ?_⟩, by simp, hS1⟩
  by_cases e : j = k
  ·rw [e]; exact hne
  ·exact hdis j h4 (by omega)
 have hke : k = es.length := by omega
 have hd := kM es es.length (Nat.le_refl _) (hke ▸ hdis)
 rw [List.take_length] at hd
 simp (disch := omega) only [↓RA, RZ, simprocAttr, hn, g0, a9o, h2]
 exact ⟨[], fun _ h => h, by unfold dd; rw [hd, List.append_nil]; exact fun _ h => h, by unfold dd; rw [hd, List.append_nil]; exact hS1⟩
theorem lR {B : Base} {v : Value} {es : List (Int × Int)} (hS : St Tryz.prog B H [⟨v, 2, pr es⟩]) (hl : es.length < 100000000000) :
 Fn Tryz.prog 70 [v] H fun r H' => ∃ rest : List Value, (∀ b, cA r = some b → cA v = some b) ∧ (∀ H2, RdAt H2 v 2 (pr (dd es) ++ rest) → RdAt H2 r 2 (pr (dd es))) ∧ St Tryz.prog B H' [⟨v, 2, pr (dd es) ++ rest⟩] := by
 refine Fn.of_sw Tryz.func70 rfl (by kernel_rfl) fun l hl => ?_
 have hn : l.length = 61 := by rw [hl]; rfl
 have g0 : get l 0 = v := by rw [hl]; rfl
 clear hl
 simp (disch := omega) only [↓RA, RZ, simprocAttr, hn, g0, (hS.slo 0 rfl (fun _ => rfl)).len]
 refine aA (fun h => ?_) (fun h => ?_)
 ·have hd := kM es es.length (Nat.le_refl _) fun j h1 h2 => by omega
  rw [List.take_length] at hd
  simp (disch := omega) only [↓RA, RZ, simprocAttr, hn, g0, b7B, h]
  exact ⟨[], fun _ h => h, by unfold dd; rw [hd, List.append_nil]; exact fun _ h => h, by unfold dd; rw [hd, List.append_nil]; exact hS⟩
 simp (disch := omega) only [↓RA, RZ, simprocAttr, h]
 refine Wp.loopS (fun n l H' => l.length = 61 ∧ get l 0 = v ∧ ∃ (k : Nat), (0 < k ∧ n + k = es.length ∧ ∀ j, 0 < j → j < k → aC es j ≠ aC es (j - 1)) ∧ get l 3 = I k ∧ St Tryz.prog B H' [⟨v, 2, pr es⟩]) (es.length - 1) ?_ ?_
 ·simp (disch := omega) only [RB, RC, simprocAttr, hn, g0]
  exact ⟨1, ⟨by omega, by omega, fun j h1 h2 => by omega⟩, rfl, hS⟩
 rintro n l H1 ⟨hn, g0, k, ⟨hk0,hk,hdis⟩, g3, hS1⟩
 simp (disch := omega) only [↓RA, RZ, simprocAttr, hn, g0, g3, (hS1.slo 0 rfl (fun _ => rfl)).len]
 refine aA (fun h2 => ?_) (fun h2 => ?_)
 ·have hkl : k < es.length := by omega
  have hpre : (k : Int) - 1 = ((k - 1 : Nat) : Int) := by omega
  simp (disch := omega) only [↓RA, RC, simprocAttr, h2]
  refine Wp.drw cD (by kernel_rfl) ?_
  simp (disch := omega) only [↓RA, RZ, simprocAttr, hn, g0, g3, (hS1.slo 0 rfl (fun _ => rfl)).idx, (hS1.slo 0 rfl (fun _ => rfl)).ldA, cC, hpre]
  refine aA (fun h3 => ?_) (fun h3 => ?_)
  ·have h3 : aC es k = aC es (k - 1) := Prod.ext h3.1 h3.2
   have hlen : (pr es).length = es.length * (1 + 1) := aJ es
   have hpos : 0 < es.length := by omega
   have hdk := kM es k (by omega) hdis
   have hdk1 : pC es (k + 1) = es.take k := by rw [kA, hdk, if_neg (by rintro (h4 | h4); omega; exact h4 h3), List.append_nil]
   have hrow : St Tryz.prog B H1 [⟨v, 2, pr (pC es (k + 1) ++ es.drop k)⟩] := by rw [hdk1, List.take_append_drop]; exact hS1
   have hdl : (pC es (k + 1)).length = k := by rw [hdk1, List.length_take]; omega
   simp (disch := omega) only [↓RA, RZ, simprocAttr, hn, g0, g3, (hS1.slo 0 rfl (fun _ => rfl)).sliceL, h3]
   refine Wp.loopS (fun n l H' => l.length = 61 ∧ get l 0 = v ∧ ∃ k2 : Nat, (0 < k2 ∧ n + k + k2 = es.length ∧ (pC es (k + k2)).length < k + k2) ∧ get l 3 = I (pC es (k + k2)).length ∧ get l 4 = iU v 2 k (es.length - k) ∧ get l 5 = I k2 ∧ St Tryz.prog B H' [⟨v, 2, pr (pC es (k + k2) ++ es.drop (pC es (k + k2)).length)⟩]) (es.length - k - 1) ?_ ?_
   ·simp (disch := omega) only [RB, RC, simprocAttr, hn, g0, g3]
    refine ⟨1, ⟨by omega, by omega, by omega⟩, by rw [hdl], by congr 1; omega, rfl, ?_⟩
    rw [hdl]
    exact hrow
   clear hrow hdk hdk1 hdl hdis
   rintro n l H9 ⟨hn, g0, k2, ⟨hk20, hk2, hlt⟩, g3, g4, g5, hS9⟩
   have hsucc := kA es (k + k2)
   generalize hD : pC es (k + k2) = D at g3 hlt hS9 hsucc
   have hrl : (D ++ es.drop D.length).length = es.length := by rw [List.length_append, List.length_drop]; omega
   have hv : Sl 2 cC H9 v (D ++ es.drop D.length) := hS9.slo 0 rfl cH
   have hat : ∀ j, D.length ≤ j → aC (D ++ es.drop D.length) j = aC es j := fun j hj => by
    unfold aC
    rw [List.getD_eq_getElem?_getD, List.getElem?_append_right hj, List.getElem?_drop, List.getD_eq_getElem?_getD]
    congr 2; omega
   have hsub : Sl 2 cC H9 (iU v 2 k ((D ++ es.drop D.length).length - k)) ((D ++ es.drop D.length).drop k) := hv.subL k (by omega) (by omega)
   rw [hrl] at hsub
   have hsl : ((D ++ es.drop D.length).drop k).length = es.length - k := by rw [List.length_drop, hrl]
   have hsat : ∀ j, D.length ≤ k + j → aC ((D ++ es.drop D.length).drop k) j = aC es (k + j) := fun j hj => by
    rw [← hat (k + j) hj]
    unfold aC
    rw [List.getD_eq_getElem?_getD, List.getElem?_drop, List.getD_eq_getElem?_getD]
   have hbd : ((es.length - k : Nat) : Int) = (es.length : Int) - k := by omega
   simp (disch := omega) only [↓RA, RZ, simprocAttr, hn, g4, g5, hsub.len, hsl, hbd]
   refine aA (fun h4 => ?_) (fun h4 => ?_)
   ·have hj : k + k2 < es.length := by omega
    have hpre2 : (k2 : Int) - 1 = ((k2 - 1 : Nat) : Int) := by omega
    have e1 := hsat k2 (by omega)
    have e2 := hsat (k2 - 1) (by omega)
    rw [show k + (k2 - 1) = k + k2 - 1 from by omega] at e2
    simp (disch := omega) only [↓RA, RC, simprocAttr, h4]
    refine Wp.drw cD (by kernel_rfl) ?_
    simp (disch := omega) only [↓RA, RZ, simprocAttr, hn, g4, g5, hsub.idx, hsub.ldA, cC, hpre2, e1, e2]
    refine aA (fun h5 => ?_) (fun h5 => ?_)
    ·have hne : aC es (k + k2) ≠ aC es (k + k2 - 1) := fun e => h5 (by rw [e]; exact ⟨rfl, rfl⟩)
     rw [if_pos (.inr hne)] at hsucc
     simp (disch := omega) only [↓RA, RZ, simprocAttr, hn, g0, g3, g4, g5, hsub.idx, hsub.ldA, cC, e1, h5]
     simp (disch := omega) only [↓RA, RZ, simprocAttr, hn, (hS9.slo 0 rfl (fun _ => rfl)).idx, h5]
     refine hS9.eStoreE 0 rfl [I (aC es (k + k2)).1, I (aC es (k + k2)).2] rfl rfl mV (by simp) (by rw [aJ, hrl]; simp; omega) fun H2 hS2 => ?_
     simp only [RT] at hS2
     simp (disch := omega) only [↓RA, RZ, simprocAttr, hn, g0, g3, g4, g5, h5]
     refine ⟨n - 1, by omega, k2 + 1, ?_⟩
     rw [show k + (k2 + 1) = k + k2 + 1 from by omega, hsucc]
     refine ⟨⟨by omega, by omega, by simp; omega⟩, by simp, by simp, ?_⟩
     have e3 : pr (D ++ [aC es (k + k2)] ++ es.drop (D ++ [aC es (k + k2)]).length) = ((pr (D ++ es.drop D.length)).set (D.length * 2) (I (aC es (k + k2)).1)).set (D.length * 2 + 1) (I (aC es (k + k2)).2) := by
      have hx : es.drop D.length = aC es D.length :: es.drop (D.length + 1) := by
       rw [bV es _ (by omega)]
       exact List.drop_eq_getElem_cons (by omega)
      rw [hx, List.length_append, List.length_singleton, bW, bW, bW]
      have e4 : pr (aC es D.length :: es.drop (D.length + 1)) = I (aC es D.length).1 :: I (aC es D.length).2 :: pr (es.drop (D.length + 1)) := rfl
      have e5 : pr [aC es (k + k2)] = [I (aC es (k + k2)).1, I (aC es (k + k2)).2] := rfl
      have e6 : (pr D).length = D.length * 2 := aJ D
      rw [e4, e5, List.set_append_right _ _ (by omega), List.set_append_right _ _ (by omega), e6, Nat.sub_self, Nat.add_sub_cancel_left]
      simp
     rw [e3]
     exact hS2
    have heq : aC es (k + k2) = aC es (k + k2 - 1) := by
     have h6 := Classical.not_not.1 h5
     exact Prod.ext h6.1 h6.2
    rw [if_neg (by rintro (h6 | h6); omega; exact h6 heq), List.append_nil] at hsucc
    simp (disch := omega) only [↓RA, RZ, simprocAttr, hn, g0, g3, g4, g5, h5]
    refine ⟨n - 1, by omega, k2 + 1, ?_⟩
    rw [show k + (k2 + 1) = k + k2 + 1 from by omega, hsucc]
    exact ⟨⟨by omega, by omega, by omega⟩, rfl, by simp, hS9⟩
   have hke : k + k2 = es.length := by omega
   rw [hke] at hD
   have hcl : (pr (D ++ es.drop D.length)).length = es.length * (1 + 1) := by rw [aJ, hrl]
   have hDn : D.length ≤ es.length := by omega
   simp (disch := omega) only [↓RA, RZ, simprocAttr, hn, g0, g3, (hS9.slo 0 rfl (fun _ => rfl)).sliceL, h4]
   rw [show (((D ++ es.drop D.length).length : Int) - D.length).toNat = es.length - D.length from by rw [hrl]; omega]
   refine hS9.eClear (size := 1) 0 rfl D.length (es.length - D.length) (by rw [hcl]; omega) (by
    intro e
    have h2 : (pr (D ++ es.drop D.length)).length = 0 := by rw [e]; rfl
    rw [aJ, hrl] at h2; omega) c0P fun z H3 hz hSc => ?_
   simp only [RT] at hSc
   have e3 : aX (pr (D ++ es.drop D.length)) (D.length * 2) z = pr D ++ z := by
    rw [bW, show D.length * 2 = (pr D).length from (aJ D).symm, eP z (pr D) (pr (es.drop D.length)) (by rw [aJ, List.length_drop]; omega)]
    rw [List.drop_of_length_le (by rw [aJ, List.length_drop]; omega), List.append_nil]
   rw [show D.length * (1 + 1) = D.length * 2 from rfl, e3] at hSc
   have hw : RdAt H3 v (1 + 1) (pr D ++ z) := hSc.rd 0 rfl
   have hwl : (pr D ++ z).length = es.length * (1 + 1) := by rw [List.length_append, aJ, hz]; omega
   simp (disch := omega) only [↓RA, RZ, simprocAttr, hn, g0, g3, hw.sliceH hwl, b7B, h4]
   refine ⟨z, fun b h => a3c h, fun H2 h2 => ?_, by unfold dd; rw [hD]; exact hSc⟩
   unfold dd at h2 ⊢
   rw [hD] at h2 ⊢
   have h5 := RdAt.sub h2 0 D.length (by rw [hwl]; omega) (by
    intro e
    rw [e] at hwl
    simp at hwl; omega)
   rw [Nat.zero_mul, List.drop_zero, show D.length * 2 = (pr D).length from (aJ D).symm, List.take_left' rfl] at h5
   exact h5
  have hne : aC es k ≠ aC es (k - 1) := fun e => h3 (by rw [e]; exact ⟨rfl, rfl⟩)
  simp (disch := omega) only [↓RA, RZ, simprocAttr, hn, g0, g3, h3]
  refine ⟨n - 1, by omega, k + 1, ⟨by omega, by omega, fun j h4 h5 => ?_⟩, by simp, hS1⟩
  by_cases e : j = k
  ·rw [e]; exact hne
  ·exact hdis j h4 (by omega)
 have hke : k = es.length := by omega
 have hd := kM es es.length (Nat.le_refl _) (hke ▸ hdis)
 rw [List.take_length] at hd
 simp (disch := omega) only [↓RA, RZ, simprocAttr, hn, g0, b7B, h2]
 exact ⟨[], fun _ h => h, by unfold dd; rw [hd, List.append_nil]; exact fun _ h => h, by unfold dd; rw [hd, List.append_nil]; exact hS1⟩
end Go.Ds
namespace Go.Ds
open Go.Proofs
variable {H : Heap}
theorem a3v (a : Int) : Fn Tryz.prog 148 [I a] H fun r H' => r = .bool false ∧ St Tryz.prog H H' [] := by
 refine Fn.of_sw Tryz.func148 rfl (by kernel_rfl) fun l hl => ?_
 have hn : l.length = 6 := by rw [hl]; rfl
 have g0 : get l 0 = I a := by rw [hl]; rfl
 clear hl
 simp (disch := omega) only [↓RA, RZ, simprocAttr, hn, g0, c2k]
 exact .refl _ _
def kU (a b : Int) : Int := if a < b then -1 else if b < a then 1 else 0
theorem nA (a b : Int) : Fn Tryz.prog 76 [I a, I b] H fun r H' => r = I (kU a b) ∧ St Tryz.prog H H' [] := by
 refine Fn.of_sw Tryz.func76 rfl (by kernel_rfl) fun l hl => ?_
 have hn : l.length = 20 := by rw [hl]; rfl
 have g0 : get l 0 = I a := by rw [hl]; rfl
 have g1 : get l 1 = I b := by rw [hl]; rfl
 clear hl
 simp (disch := omega) only [↓RA, RZ, simprocAttr, hn, g0]
 refine aB (a3v _) ?_
 rintro r H1 ⟨rfl, hT1⟩
 have hS1 := (St.refl Tryz.prog H).trans hT1
 simp only [RT] at hS1
 simp (disch := omega) only [↓RA, RZ, simprocAttr, hn, g1]
 refine aB (a3v _) ?_
 rintro r H2 ⟨rfl, hT2⟩
 have hS2 := hS1.trans hT2
 simp only [RT] at hS2
 simp (disch := omega) only [↓RA, RB, simprocAttr, hn, g0, g1]
 refine aA (fun h => ?_) (fun h => ?_)
 ·simp (disch := omega) only [↓RA, RZ, simprocAttr, hn, b6Y, h]
  exact ⟨by simp [kU, h], hS2⟩
 simp (disch := omega) only [↓RA, RZ, simprocAttr, hn, g0, g1, h]
 refine aA (fun h2 => ?_) (fun h2 => ?_)
 ·simp (disch := omega) only [↓RA, RZ, simprocAttr, hn, b6Y, h, h2]
  exact ⟨by simp [kU, h, h2], hS2⟩
 simp (disch := omega) only [↓RA, RZ, simprocAttr, hn, b6Y, h, h2]
 exact ⟨by simp [kU, h, h2], hS2⟩
def orI : List Int → Int
 | [] => 0
 | a :: l => if a = 0 then orI l else a
theorem wB (xs : List Int) : ∀ i, i ≤ xs.length → (∀ j, j < i → aC xs j = 0) → orI xs = orI (xs.drop i)
 | 0, _, _ => rfl
 | i + 1, hi, h => by
   rw [wB xs i (by omega) (fun j hj => h j (by omega)), qL xs i (by omega), orI, if_pos (h i (by omega))]
theorem b0V (v : Value) (xs : List Int) (hv : Sl 1 (one I) H v xs) (hl : xs.length < 1000000) : Fn Tryz.prog 75 [v] H fun r H' => r = I (orI xs) ∧ St Tryz.prog H H' [] := by
 refine Fn.of_sw Tryz.func75 rfl (by kernel_rfl) fun l hl => ?_
 have hn : l.length = 18 := by rw [hl]; rfl
 have g0 : get l 0 = v := by rw [hl]; rfl
 clear hl
 simp (disch := omega) only [↓RA, RZ, simprocAttr, hn, g0, ((St.refl Tryz.prog H).sl hv).len]
 refine Wp.loopS (fun n l H' => l.length = 18 ∧ get l 3 = I 0 ∧ get l 6 = v ∧ get l 7 = I xs.length ∧ ∃ (i : Nat), (n + i = xs.length ∧ ∀ j, j < i → aC xs j = 0) ∧ get l 8 = I i ∧ St Tryz.prog H H' []) xs.length ?_ ?_
 ·simp (disch := omega) only [RB, RC, simprocAttr, hn]
  exact ⟨0, ⟨by omega, by simp⟩, rfl, (St.refl Tryz.prog H)⟩
 rintro n l H1 ⟨hn, g3, g6, g7, i, ⟨hi,h0⟩, g8, hS1⟩
 simp (disch := omega) only [↓RA, RB, simprocAttr, hn, g7, g8]
 refine aA (fun h => ?_) (fun h => ?_)
 ·simp (disch := omega) only [↓RA, RZ, simprocAttr, hn, g3, g6, g8, (hS1.sl hv).idx, (hS1.sl hv).ld, one, h]
  refine aA (fun h2 => ?_) (fun h2 => ?_)
  ·simp (disch := omega) only [↓RA, RZ, simprocAttr, hn, b8L, h, h2]
   refine ⟨?_, hS1⟩
   rw [wB xs i (by omega) h0, qL xs i (by omega), orI, if_neg h2]
  simp (disch := omega) only [↓RA, RZ, simprocAttr, hn, g3, g6, g7, g8, h, h2]
  exact ⟨n - 1, by omega, i + 1, ⟨by omega, fun j hj => by by_cases e : j = i; (· subst e; exact Classical.not_not.1 h2); exact h0 j (by omega)⟩, by simp, hS1⟩
 simp (disch := omega) only [↓RA, RZ, simprocAttr, hn, g3, b8L, h]
 refine ⟨?_, hS1⟩
 rw [wB xs i (by omega) h0, List.drop_eq_nil_of_le (by omega), orI]
end Go.Ds
namespace Go.Ds
open Go.Proofs
variable {H : Heap}
theorem a5J (x y : Int × Int) : orI [kU x.1 y.1, kU x.2 y.2] = cf2 x y := by
 unfold cf2 kU orI orI orI
 split
 ·simp
 ·split
  ·simp
  ·simp
   intro h
   exact h.symm
theorem b4i (x y : Int × Int) : Fn Tryz.prog 234 [.agg #[I x.1, I x.2], .agg #[I y.1, I y.2]] H fun r H' => r = I (cf2 x y) ∧ St Tryz.prog H H' [] := by
 refine Fn.of_sw Tryz.func234 rfl (by kernel_rfl) fun l hl => ?_
 have hn : l.length = 17 := by rw [hl]; rfl
 have g0 : get l 0 = (.agg #[I x.1, I x.2]) := by rw [hl]; rfl
 have g1 : get l 1 = (.agg #[I y.1, I y.2]) := by rw [hl]; rfl
 clear hl
 simp (disch := omega) only [↓RA, RB, simprocAttr, g0]
 refine (St.refl Tryz.prog H).eNew 2 [I x.1, I x.2] rfl rfl rfl kP fun A1 H1 hS1 => ?_
 simp only [RT] at hS1
 simp (disch := omega) only [↓RA, RB, simprocAttr, g1]
 refine hS1.eNew 2 [I y.1, I y.2] rfl rfl rfl kP fun A2 H2 hS2 => ?_
 simp only [RT] at hS2
 simp (disch := omega) only [↓RA, RB, simprocAttr]
 refine Wp.drwT cD [(6, 0), (8, 0)] (by kernel_rfl) (by kernel_rfl) ?_
 simp (disch := omega) only [↓RA, RZ, simprocAttr, hn, hS2.ld 0 rfl, hS2.ld 1 rfl]
 refine aB (nA x.1 y.1) ?_
 rintro r H3 ⟨rfl, hT1⟩
 have hS3 := hS2.trans hT1
 simp only [RT] at hS3
 simp (disch := omega) only [↓RA, RZ, simprocAttr, hn, hS3.ld 0 rfl, hS3.ld 1 rfl]
 refine aB (nA x.2 y.2) ?_
 rintro r H4 ⟨rfl, hT2⟩
 have hS4 := hS3.trans hT2
 simp only [RT] at hS4
 simp (disch := omega) only [↓RA, RB, simprocAttr, hn]
 refine hS4.eSlice [I (kU x.1 y.1), I (kU x.2 y.2)] wX a2G rfl rfl (by simp [Value.cells]) rfl rfl (by decide) (by decide) fun w1 H5 hS5 => ?_
 simp only [RT] at hS5
 simp (disch := omega) only [↓RA, RZ, simprocAttr, hn]
 refine aB (b0V w1 [kU x.1 y.1, kU x.2 y.2] (hS5.slo 2 rfl (kH _)) (by simp)) ?_
 rintro r H6 ⟨rfl, hT3⟩
 have hS6 := hS5.trans hT3
 simp only [RT] at hS6
 simp (disch := omega) only [↓RA, RZ, simprocAttr, hn, hS2.ld 0 rfl, hS2.ld 1 rfl, b9E]
 exact ⟨by rw [a5J], hS6.forget⟩
theorem b3V (x y : Int × Int) : Fn Tryz.prog 231 [.agg #[I x.1, I x.2], .agg #[I y.1, I y.2]] H fun r H' => r = I (cf2 x y) ∧ St Tryz.prog H H' [] := by
 refine Fn.of_sw Tryz.func231 rfl (by kernel_rfl) fun l hl => ?_
 have hn : l.length = 17 := by rw [hl]; rfl
 have g0 : get l 0 = (.agg #[I x.1, I x.2]) := by rw [hl]; rfl
 have g1 : get l 1 = (.agg #[I y.1, I y.2]) := by rw [hl]; rfl
 clear hl
 simp (disch := omega) only [↓RA, RB, simprocAttr, g0]
 refine (St.refl Tryz.prog H).eNew 2 [I x.1, I x.2] rfl rfl rfl mV fun A1 H1 hS1 => ?_
 simp only [RT] at hS1
 simp (disch := omega) only [↓RA, RB, simprocAttr, g1]
 refine hS1.eNew 2 [I y.1, I y.2] rfl rfl rfl mV fun A2 H2 hS2 => ?_
 simp only [RT] at hS2
 simp (disch := omega) only [↓RA, RB, simprocAttr]
 refine Wp.drwT cD [(6, 0), (8, 0)] (by kernel_rfl) (by kernel_rfl) ?_
 simp (disch := omega) only [↓RA, RZ, simprocAttr, hn, hS2.ld 0 rfl, hS2.ld 1 rfl]
 refine aB (nA x.1 y.1) ?_
 rintro r H3 ⟨rfl, hT1⟩
 have hS3 := hS2.trans hT1
 simp only [RT] at hS3
 simp (disch := omega) only [↓RA, RZ, simprocAttr, hn, hS3.ld 0 rfl, hS3.ld 1 rfl]
 refine aB (nA x.2 y.2) ?_
 rintro r H4 ⟨rfl, hT2⟩
 have hS4 := hS3.trans hT2
 simp only [RT] at hS4
 simp (disch := omega) only [↓RA, RB, simprocAttr, hn]
 refine hS4.eSlice [I (kU x.1 y.1), I (kU x.2 y.2)] wX a2G rfl rfl (by simp [Value.cells]) rfl rfl (by decide) (by decide) fun w1 H5 hS5 => ?_
 simp only [RT] at hS5
 simp (disch := omega) only [↓RA, RZ, simprocAttr, hn]
 refine aB (b0V w1 [kU x.1 y.1, kU x.2 y.2] (hS5.slo 2 rfl (kH _)) (by simp)) ?_
 rintro r H6 ⟨rfl, hT3⟩
 have hS6 := hS5.trans hT3
 simp only [RT] at hS6
 simp (disch := omega) only [↓RA, RZ, simprocAttr, hn, hS2.ld 0 rfl, hS2.ld 1 rfl, c2s]
 exact ⟨by rw [a5J], hS6.forget⟩
theorem b2T (x y : Int × Int) : Fn Tryz.prog 218 [.agg #[I x.1, I x.2], .agg #[I y.1, I y.2]] H fun r H' => r = I (cf2 x y) ∧ St Tryz.prog H H' [] := by
 refine Fn.of_sw Tryz.func218 rfl (by kernel_rfl) fun l hl => ?_
 have hn : l.length = 17 := by rw [hl]; rfl
 have g0 : get l 0 = (.agg #[I x.1, I x.2]) := by rw [hl]; rfl
 have g1 : get l 1 = (.agg #[I y.1, I y.2]) := by rw [hl]; rfl
 clear hl
 simp (disch := omega) only [↓RA, RB, simprocAttr, g0]
 refine (St.refl Tryz.prog H).eNew 2 [I x.1, I x.2] rfl rfl rfl mV fun A1 H1 hS1 => ?_
 simp only [RT] at hS1
 simp (disch := omega) only [↓RA, RB, simprocAttr, g1]
 refine hS1.eNew 2 [I y.1, I y.2] rfl rfl rfl mV fun A2 H2 hS2 => ?_
 simp only [RT] at hS2
 simp (disch := omega) only [↓RA, RB, simprocAttr]
 refine Wp.drwT cD [(6, 0), (8, 0)] (by kernel_rfl) (by kernel_rfl) ?_
 simp (disch := omega) only [↓RA, RZ, simprocAttr, hn, hS2.ld 0 rfl, hS2.ld 1 rfl]
 refine aB (nA x.1 y.1) ?_
 rintro r H3 ⟨rfl, hT1⟩
 have hS3 := hS2.trans hT1
 simp only [RT] at hS3
 simp (disch := omega) only [↓RA, RZ, simprocAttr, hn, hS3.ld 0 rfl, hS3.ld 1 rfl]
 refine aB (nA x.2 y.2) ?_
 rintro r H4 ⟨rfl, hT2⟩
 have hS4 := hS3.trans hT2
 simp only [RT] at hS4
 simp (disch := omega) only [↓RA, RB, simprocAttr, hn]
 refine hS4.eSlice [I (kU x.1 y.1), I (kU x.2 y.2)] wX a2G rfl rfl (by simp [Value.cells]) rfl rfl (by decide) (by decide) fun w1 H5 hS5 => ?_
 simp only [RT] at hS5
 simp (disch := omega) only [↓RA, RZ, simprocAttr, hn]
 refine aB (b0V w1 [kU x.1 y.1, kU x.2 y.2] (hS5.slo 2 rfl (kH _)) (by simp)) ?_
 rintro r H6 ⟨rfl, hT3⟩
 have hS6 := hS5.trans hT3
 simp only [RT] at hS6
 simp (disch := omega) only [↓RA, RZ, simprocAttr, hn, hS2.ld 0 rfl, hS2.ld 1 rfl, b8Z]
 exact ⟨by rw [a5J], hS6.forget⟩
end Go.Ds
namespace Go.Ds
open Go.Proofs
open Go.Shelf Go.RowKit Go.Lib Go.Sort
theorem lt2 (x y : Int × Int) : ltOf cf2 x y = decide (x.1 < y.1 ∨ (x.1 = y.1 ∧ x.2 < y.2)) := by
 unfold ltOf cf2
 congr 1
 apply propext
 split
 ·omega
 ·split
  ·omega
  ·split
   ·omega
   ·split <;> omega
theorem c1S : SWO (ltOf cf2) where
 irrefl x := by rw [lt2]; simp
 trans x y z h1 h2 := by rw [lt2] at *; simp at *; omega
 ntrans x y z h1 h2 := by rw [lt2] at *; simp at *; omega
theorem c1U (x y : Int × Int) (h1 : ltOf cf2 x y = false) (h2 : ltOf cf2 y x = false) : x = y := by
 rw [lt2] at *
 simp at h1 h2
 apply Prod.ext <;> omega
theorem a4C : (fun x y => !(ltOf cf2) y x) = tV := by
 funext x y
 rw [lt2]
 by_cases h : tV x y = true
 ·rw [h]
  rw [fM] at h
  rw [Bool.not_eq_true', decide_eq_false_iff_not]
  omega
 ·rw [Bool.not_eq_true] at h
  rw [h]
  rw [← Bool.not_eq_true, fM] at h
  rw [Bool.not_eq_false', decide_eq_true_eq]
  omega
def wO (P : Program) (K kc : FuncId) (sm : Int × Int → Prop) : Prop := ∀ (cA off cap : Nat) (d : Array (Int × Int)) (w : World), (∀ x ∈ d.toList, sm x) → HoldsK cC 2 w cA off d → cA < w.heap.size → d.size < 4611686018427387904 →
    Calls P K #[.slice (some ⟨cA, off, none⟩) d.size cap, .func (.func kc) #[] #[]] w fun e w' => e = .returned (.tuple #[]) ∧ ∃ n os, w' = sortWorldK cC 2 w cA off n (d.toList.mergeSort tV).toArray os
def wF (P : Program) (K : FuncId) : Prop := ∀ (p : Option Addr) (cap : Nat) (fv : Value) (w : World), Calls P K #[.slice p 0 cap, fv] w fun e w' => e = .returned (.tuple #[]) ∧ w' = w
theorem a2b {P : Program} {kc : FuncId} {α : Type} [Inhabited α] (val : α → Int × Int) (cf : α → α → Int) (hf : ∀ x y, Fn P kc [.agg #[I (val x).1, I (val x).2], .agg #[I (val y).1, I (val y).2]] .nil fun r H' => r = I (cf x y) ∧ St P (.nil : Heap) H' []) (cA off size : Nat) (w : World) : CmpLays P kc #[] (fun x => cC (val x)) 2 cf cA off size w := by
 intro m os dk hdk x y
 generalize sortWorldK (fun x => cC (val x)) 2 w cA off m dk os = W
 obtain ⟨_, v, H1, h1, hr, _⟩ := hf x y
 have ha : All2 (V (fun _ _ => none)) [.agg #[I (val x).1, I (val x).2], .agg #[I (val y).1, I (val y).2]] (#[.agg #[I (val x).1, I (val x).2], .agg #[I (val y).1, I (val y).2]] : Array Value).toList := ⟨.of_flat rfl, .of_flat rfl, trivial⟩
 have hc := CallOk.calls (f := kc) h1 (HRel.none W) ha
 have hargs : (#[.agg (cC (val x)).toArray, .agg (cC (val y)).toArray] ++ #[] : Array Value) = #[.agg #[I (val x).1, I (val x).2], .agg #[I (val y).1, I (val y).2]] := rfl
 rw [hargs]
 refine hc.mono ?_
 rintro e w' ⟨ρ', v', rfl, hp, hv⟩
 subst hr
 have hfr : ∀ b, b < W.heap.size → w'.heap[b]? = W.heap[b]? := fun b hb => (hp.frame b hb (by rintro ⟨A, e, p, cA, hq, _⟩; cases hq)).1
 refine ⟨by rw [hv.eq_of_flat rfl], w'.drawn - W.drawn, w'.heap.extract W.heap.size w'.heap.size, ?_⟩
 have h1 := hp.os
 have h2 := hp.tape
 have h3 := hp.output
 have h4 := hp.size
 clear hp hv
 obtain ⟨wh, wt, wd, wo, wu⟩ := W
 obtain ⟨ah, at', ad, ao, au⟩ := w'
 simp only at h1 h2 h3 h4 hfr
 simp only [grow, World.drewN, World.mk.injEq]
 refine ⟨?_, h2.1, by omega, h1, h3⟩
 apply Array.ext_getElem?
 intro i
 rw [Array.getElem?_append]
 split
 ·exact hfr i (by assumption)
 ·rw [Array.getElem?_extract]
  split
  ·congr 1; omega
  ·rw [Array.getElem?_eq_none (by omega)]
theorem a1n {P : Program} {kc : FuncId} (hf : ∀ x y, Fn P kc [.agg #[I x.1, I x.2], .agg #[I y.1, I y.2]] .nil fun r H' => r = I (cf2 x y) ∧ St P (.nil : Heap) H' []) (cA off size : Nat) (w : World) : CmpLays P kc #[] cC 2 cf2 cA off size w := a2b (fun x => x) cf2 hf cA off size w
section
variable {P : Program} {H : Heap} {ρ ρ' : Rho} {H' : Heap} {w w1 w2 : World}
theorem Post.like (h : Post P ρ H w ρ' H' w1) (hsz : w1.heap.size ≤ w2.heap.size) (hb : ∀ b, b < w1.heap.size → w2.heap[b]? = w1.heap[b]?) (h1 : w2.os = w1.os) (h2 : w2.tape = w1.tape ∧ w1.drawn ≤ w2.drawn) (h3 : w2.output = w1.output) : Post P ρ H w ρ' H' w2 where
 le := h.le
 rel := h.rel.other hsz fun A e p hp => hb _ (h.rel.dom _ _ _ hp).2
 len := h.len
 size := Nat.le_trans h.size hsz
 os := h1.trans h.os
 tape := ⟨h2.1.trans h.tape.1, Nat.le_trans h.tape.2 h2.2⟩
 output := h3.trans h.output
 frame b hlt hw := by
  obtain ⟨e, hw'⟩ := h.frame b hlt hw
  exact ⟨(hb b (Nat.lt_of_lt_of_le hlt h.size)).trans e, hw'⟩
 loops b r hr := by
  obtain ⟨r', hr'⟩ := h.loops b r hr
  exact ⟨r', by rw [hb b (eG hr')]; exact hr'⟩
 img := h.img
theorem b5t : ∀ (l : List (Int × Int)) (j : Nat), j < l.length * 2 → (cC (l.toArray[j / 2]!))[j % 2]! = (pr l).getD j undef := by
 intro l
 induction l with
 | nil => intro j hj; simp at hj
 | cons x l ih =>
   intro j hj
   have e : pr (x :: l) = I x.1 :: I x.2 :: pr l := rfl
   rw [e]
   match j with
   | 0 => rfl
   | 1 => rfl
   | j + 2 =>
     have h1 : (j + 2) / 2 = j / 2 + 1 := by omega
     have h2 : (j + 2) % 2 = j % 2 := by omega
     have := ih j (by simp at hj; omega)
     rw [h1, h2]
     simp only [List.getD_cons_succ]
     rw [← this]
     congr 2
     simp only [List.getElem!_toArray]
     simp
end
theorem V.func0 {ρ : Rho} {k : FuncId} {v' : Value} (h : V ρ (.func (.func k) #[] #[]) v') : v' = .func (.func k) #[] #[] := by
 cases h with
 | v1 h => cases h with
   | c1 h => cases h with
     | c0 h => cases h with
       | flat h => rfl
     | fn ha hb =>
       rename_i a' b'
       have e1 : a' = #[] := by
        obtain ⟨l⟩ := a'
        cases l with
        | nil => rfl
        | cons => exact ha.elim
       have e2 : b' = #[] := by
        obtain ⟨l⟩ := b'
        cases l with
        | nil => rfl
        | cons => exact hb.elim
       rw [e1, e2]
theorem a3W (es : List (Int × Int)) : cB (pr es) = true := by
 unfold cB
 rw [List.all_eq_true]
 intro c hc
 obtain ⟨x, _, hx⟩ := List.mem_flatMap.1 hc
 simp only [cC, List.mem_cons, List.not_mem_nil, or_false] at hx
 rcases hx with rfl | rfl <;> rfl
set_option maxRecDepth 10000 in
theorem b4p {P : Program} {K kc : FuncId} {sm : Int × Int → Prop} (hso : wO P K kc sm) {H : Heap} {A i lo ver n : Nat} {ty : TypeId} {pre : List Value} {es : List (Int × Int)} (hg : aQ H A = some (.cells (pre ++ pr es) ty true lo ver)) (hlo : lo ≤ i + (pr es).length) (hpre : pre.length = i)
 (hn : (pr es).length = n * 2) (hty : aE P ty = some 2) (hl : es.length < 100000000000) (h0 : es ≠ []) (hsm : ∀ x ∈ es, sm x) :
 CallOk P K [.slice (some ⟨A, i, some (i + (pr es).length)⟩) n 2, .func (.func kc) #[] #[]] H (.tuple #[]) (hset H A (.cells (aX (pre ++ pr es) i (pr (mN es))) ty true (pre ++ pr es).length ver)) := by
 intro k ρ w args' hr ha
 obtain ⟨l⟩ := args'
 match l, ha with
 | [x, f], ⟨hx, hf, _⟩ =>
   obtain rfl := V.func0 hf
   have hlen : (pre ++ pr es).length = i + (pr es).length := by rw [List.length_append, hpre]
   obtain ⟨p, c', a, hp, h0', hin, hnc, hac, hpk, rfl⟩ := hx.slice_inv
   rw [aJ] at hn
   have hne : 0 < es.length := List.length_pos_iff.2 h0
   have hnn : n = es.length := by omega
   subst hnn
   have ha' : a = ⟨p.b, p.at i, none⟩ := by
    rcases hac with h | h
    ·exact h.1
    ·omega
   subst ha'
   have hp2 : ρ A (pre ++ pr es).length = some p := by rw [hlen]; exact hp
   obtain ⟨_, _, hfit, cur, ty', fr, hw, hsz, hfr, hcell⟩ := (hr.cells _ _ _ _ _ _ hg).2 _ _ hp2
   obtain ⟨rfl, hd0, _⟩ := hfr rfl
   let d : Array (Int × Int) := es.toArray
   have hds : d.size = es.length := by simp [d]
   have hfl := fun j hj => b5t es j (by simpa using hj)
   have hH : Go.Sort.HoldsK cC 2 w p.b (p.at i) d := by
    intro j hj
    rw [Go.Sort.size_flatK, hds] at hj
    constructor
    ·have hc : (pre ++ pr es)[i + j]? = some ((pr es).getD j undef) := by
      rw [List.getElem?_append_right (by omega), hpre, Nat.add_sub_cancel_left, List.getD_eq_getElem?_getD, List.getElem?_eq_getElem (by rw [aJ]; omega)]
      rfl
     obtain ⟨c2, hc2, hrel⟩ := hcell (by rw [hlen]; exact hlo) (i + j) _ (by rw [hlen, aJ]; omega) (by omega) hc
     have hsc : aV ((pr es).getD j undef) = true := by
      have := a3W es
      unfold cB at this
      rw [List.all_eq_true] at this
      apply this
      rw [List.getD_eq_getElem?_getD, List.getElem?_eq_getElem (by rw [aJ]; omega)]
      exact List.getElem_mem _
     have := hrel.eq_of_scalar hsc
     subst this
     have hat : p.at (i + j) = p.at i + j := by unfold Place.at; omega
     rw [hat] at hc2
     simp only [World.cell?, hw]
     rw [Go.Sort.get_flatK _ _ _ _ (by rw [hds]; exact hj), hfl j hj]
     exact hc2
    ·simp only [World.frozen?, hw]
     simp
   have hcon := hso p.b (p.at i) c' d w (by simpa [d] using hsm) hH (hr.dom _ _ _ hp).2 (by rw [hds]; omega)
   rw [hds] at hcon
   obtain ⟨w1, hrun, hpost⟩ := lW hr hg hp2 h0' (.of_scalars (a3W (mN es))) (by rw [hlen, aJ, aJ, (gA es).length_eq]; omega) (by rw [hlen]; exact hlo)
   have hcsz : p.at i + (pr (mN es)).length ≤ cur.size := by
    rw [aJ, (gA es).length_eq, hsz]
    unfold Place.at
    rw [hlen, aJ] at hfit
    omega
   have hst := run_storeCells_at (P := P) p.b (p.at i) ty' (pr (mN es)) 0 cur w hw (by simpa using hcsz) (All2.of_scalars (ρ := ρ) (a3W (mN es))).oneCells
   rw [hst] at hrun
   injection hrun with _ hw1
   subst hw1
   refine callsIn_wide.2 (hcon.mono ?_)
   rintro e w' ⟨rfl, m, os, rfl⟩
   refine ⟨ρ, _, rfl, ?_, .tuple trivial⟩
   have hsl : (mN es).length = es.length := (gA es).length_eq
   have hml : ((d.toList.mergeSort tV)).length = es.length := by simp [d]
   have hfs : ∀ j, j < es.length * 2 → (Go.Sort.flatK cC 2 (d.toList.mergeSort tV).toArray)[j]! = (pr (mN es)).getD j undef := fun j hj => by
    rw [Go.Sort.get_flatK _ _ _ _ (by simpa [d] using hj)]
    exact b5t (d.toList.mergeSort tV) j (by rw [hml]; exact hj)
   have hFs : (Go.Sort.flatK cC 2 (d.toList.mergeSort tV).toArray).size = es.length * 2 := by simp [d]
   unfold sortWorldK Go.Sort.putRowK
   generalize Go.Sort.flatK cC 2 (d.toList.mergeSort tV).toArray = F at hfs hFs ⊢
   have hlt := eG hw
   have hh : ∀ b, b < w.heap.size → (Go.Sort.grow (Go.Sort.putRow id (Go.Sort.ahead w m) p.b (p.at i) F) os).heap[b]? = (Go.Sort.putRow id (Go.Sort.ahead w m) p.b (p.at i) F).heap[b]? := fun b hb => by
    have : b < (Go.Sort.putRow id (Go.Sort.ahead w m) p.b (p.at i) F).heap.size := by simpa [Go.Sort.putRow, Go.Sort.mapBlock, Go.Sort.ahead] using hb
    unfold Go.Sort.grow
    exact Array.getElem?_append_left this
   refine hpost.like ?_ ?_ rfl ⟨rfl, Nat.le_add_right _ _⟩ rfl
   ·simp [Go.Sort.grow, Go.Sort.putRow, Go.Sort.mapBlock, Go.Sort.ahead]
   ·intro b hbs
    rw [setRow_size] at hbs
    rw [hh b hbs]
    by_cases e : b = p.b
    ·subst e
     rw [setRow_heap w p.b cur _ ty' (0, 0) hw]
     have e2 : (Go.Sort.putRow id (Go.Sort.ahead w m) p.b (p.at i) F).heap[p.b]? = some (.cells (Go.Sort.putCells id (p.at i) F cur) ty' (0, 0)) := by
      simp [Go.Sort.putRow, Go.Sort.mapBlock, Go.Sort.ahead, Array.getElem?_modify, hw, Go.Sort.onCells]
     rw [e2]
     congr 2
     apply Array.ext_getElem?
     intro j
     have hseg := a0X cur.toList (pr (mN es)) (p.at i) j (by simpa using hcsz)
     have e3 : ((List.take (p.at i + 0) cur.toList ++ pr (mN es) ++ List.drop (p.at i + 0 + (pr (mN es)).length) cur.toList).toArray)[j]? = (List.take (p.at i) cur.toList ++ pr (mN es) ++ List.drop (p.at i + (pr (mN es)).length) cur.toList)[j]? := by simp
     rw [e3, hseg]
     simp only [Go.Sort.putCells, Array.getElem?_mapIdx, Array.getElem?_toList]
     rw [aJ, hsl] at hcsz ⊢
     by_cases h1 : p.at i ≤ j ∧ j < p.at i + es.length * 2
     ·rw [if_pos h1]
      have hjc : j < cur.size := by omega
      rw [Array.getElem?_eq_getElem hjc]
      simp only [Option.map_some]
      rw [if_pos (by rw [hFs]; exact h1), hfs _ (by omega), List.getD_eq_getElem?_getD, List.getElem?_eq_getElem (by rw [aJ, hsl]; omega)]
      rfl
     ·rw [if_neg h1]
      cases hc : cur[j]? with
      | none => simp
      | some c =>
        simp only [Option.map_some]
        rw [if_neg (by rw [hFs]; exact h1)]
    ·rw [setRow_other _ _ _ _ e]
     simp [Go.Sort.putRow, Go.Sort.mapBlock, Go.Sort.ahead, Array.getElem?_modify, Ne.symm e]
theorem qD {P : Program} {K kc : FuncId} {sm : Int × Int → Prop} (hso : wO P K kc sm) (hno : wF P K) (hent0 : jK P K) {H : Heap} {H0 : Base} {os : List Ob} (hS : St P H0 H os) (i : Nat) {v : Value} {es : List (Int × Int)} (ho : os[i]? = some ⟨v, 2, pr es⟩) (hl : es.length < 100000000000) (hsm : ∀ x ∈ es, sm x) {Q : Value → Heap → Prop}
 (h : ∀ H1, St P H0 H1 (os.set i ⟨v, 2, pr (mN es)⟩) → Q (.tuple #[]) H1) : oM P K [v, .func (.func kc) #[] #[]] H Q := by
 have hent : jK P K := hent0
 by_cases h0 : es = []
 ·subst h0
  refine ⟨.tuple #[], H, hent, ?_, h H ?_⟩
  ·intro k ρ w args' hr ha
   obtain ⟨l⟩ := args'
   match l, ha with
   | [x, f], ⟨hx, hf, _⟩ =>
     obtain rfl := V.func0 hf
     have hown := hS.own _ (List.mem_of_getElem? ho)
     unfold OwnAt at hown
     rw [if_neg (by simp)] at hown
     have hx0 : ∃ p cap, x = .slice p 0 cap := by
      rcases hown with ⟨h2, _⟩ | ⟨A, j, ty, lo', ver, pre, m, h2, h3, h4, h5, h6, h7⟩
      ·simp only at h2
       subst h2
       rcases hx.slice_any with ⟨_, _, _, rfl⟩ | ⟨A, j, e, p, c', a, hh, _⟩
       ·exact ⟨_, _, rfl⟩
       ·cases hh
      ·simp only at h5 h6
       subst h6
       have hm : m = 0 := by have : (pr []).length = 0 := rfl; omega
       subst hm
       obtain ⟨p, c', a, _, _, _, _, _, _, rfl⟩ := hx.slice_inv
       exact ⟨_, _, rfl⟩
     obtain ⟨p, cap, rfl⟩ := hx0
     refine callsIn_wide.2 ((hno p cap _ w).mono ?_)
     rintro e w' ⟨rfl, rfl⟩
     exact ⟨ρ, _, rfl, .refl hr, .tuple trivial⟩
  ·obtain ⟨hi, hoi⟩ := List.getElem?_eq_some_iff.1 ho
   have e : mN [] = [] := List.Perm.eq_nil (gA [])
   rw [e, ← hoi, List.set_getElem_self]
   exact hS
 ·have hown := hS.own _ (List.mem_of_getElem? ho)
  unfold OwnAt at hown
  rw [if_neg (by simp)] at hown
  have hne : 0 < es.length := List.length_pos_iff.2 h0
  rcases hown with ⟨_, h3⟩ | ⟨A, j, ty, lo', ver, pre, m, h2, h3, h4, h5, h6, h7⟩
  ·simp only at h3
   have := congrArg List.length h3
   rw [aJ, List.length_nil] at this
   omega
  ·simp only at h2 h3 h5 h6
   have hsl : (pr (mN es)).length = (pr es).length := by rw [aJ, aJ, (gA es).length_eq]
   have hcall := b4p hso h2 h3 h4 h5 h7 hl h0 hsm
   rw [← h6] at hcall
   refine ⟨_, _, hent, hcall, h _ (hS.put i ho ?_ ?_ ?_ ?_)⟩
   ·unfold OwnAt
    rw [if_neg (by simp)]
    refine .inr ⟨A, j, ty, (pre ++ pr es).length, ver, pre, m, ?_, ?_, h4, ?_, ?_, h7⟩
    ·rw [aO _ (bG h2)]
     have := eP (pr (mN es)) pre (pr es) (by rw [hsl]; exact Nat.le_refl _)
     rw [h4] at this
     rw [this, hsl, List.drop_length, List.append_nil]
    ·simp only [List.length_append, h4, hsl]; exact Nat.le_refl _
    ·simp only [hsl]; exact h5
    ·simp only [hsl]; exact h6
   ·rw [bI]; exact Nat.le_refl _
   ·intro B' hB hne'
    refine iW fun hh => hne' ?_
    simp [cA, h6, hh]
   ·intro B' hB
    exact .inl hB
end Go.Ds
namespace Go.Proofs
open Go.Shelf
def Tryz.sort67_ren : Go.Shelf.Ren := ⟨fun | 6 => 67 | 15 => 131 | 14 => 130 | 28 => 198 | 29 => 199 | 20 => 190 | 21 => 191 | 22 => 192 | 23 => 193 | 24 => 194 | 25 => 195 | 26 => 196 | 27 => 197 | 46 => 240 | 47 => 241 | 48 => 242 | 49 => 243 | 50 => 244 | 57 => 280 | n => n, fun | 22 => 42 | 24 => 52 | 25 => 141 | 3 => 3 | 39 => 183 | 0 => 0 | 53 => 305 | 55 => 54 | 4 => 4 | 46 => 298 | 45 => 297 | 50 => 302 | 5 => 5 | 9 => 9 | 66 => 355 | 70 => 359 | 76 => 395 | 77 => 396 | n => n, fun | n => n⟩
theorem Tryz.sort67 : Go.Proofs.SlLaysF0.n6 Tryz.prog Tryz.sort67_ren := {
 mixed := by kernel_rfl
 f6 := ⟨Tryz.f67.name, by decide, Tryz.func67.trans (congrArg some (by kernel_rfl))⟩
 f14 := ⟨Tryz.f130.name, by decide, Tryz.func130.trans (congrArg some (by kernel_rfl))⟩
 f15 := Tryz.func131.trans (congrArg some (by kernel_rfl))
 f20 := ⟨Tryz.f190.name, by decide, Tryz.func190.trans (congrArg some (by kernel_rfl))⟩
 f21 := ⟨Tryz.f191.name, by decide, Tryz.func191.trans (congrArg some (by kernel_rfl))⟩
 f22 := ⟨Tryz.f192.name, by decide, Tryz.func192.trans (congrArg some (by kernel_rfl))⟩
 f23 := ⟨Tryz.f193.name, by decide, Tryz.func193.trans (congrArg some (by kernel_rfl))⟩
 f24 := ⟨Tryz.f194.name, by decide, Tryz.func194.trans (congrArg some (by kernel_rfl))⟩
 f25 := ⟨Tryz.f195.name, by decide, Tryz.func195.trans (congrArg some (by kernel_rfl))⟩
 f26 := ⟨Tryz.f196.name, by decide, Tryz.func196.trans (congrArg some (by kernel_rfl))⟩
 f27 := ⟨Tryz.f197.name, by decide, Tryz.func197.trans (congrArg some (by kernel_rfl))⟩
 f28 := Tryz.func198.trans (congrArg some (by kernel_rfl))
 f29 := Tryz.func199.trans (congrArg some (by kernel_rfl))
 f46 := ⟨Tryz.f240.name, by decide, Tryz.func240.trans (congrArg some (by kernel_rfl))⟩
 f47 := Tryz.func241.trans (congrArg some (by kernel_rfl))
 f48 := Tryz.func242.trans (congrArg some (by kernel_rfl))
 f49 := ⟨Tryz.f243.name, by decide, Tryz.func243.trans (congrArg some (by kernel_rfl))⟩
 f50 := ⟨Tryz.f244.name, by decide, Tryz.func244.trans (congrArg some (by kernel_rfl))⟩
 f57 := ⟨Tryz.f280.name, by decide, Tryz.func280.trans (congrArg some (by kernel_rfl))⟩
 t0 := Tryz.underlying0
 a0 := Tryz.isAgg0
 z0 := Tryz.sizeOf0
 v0 := Tryz.zeroValue0
 t3 := Tryz.underlying3
 a3 := Tryz.isAgg3
 z3 := Tryz.sizeOf3
 v3 := Tryz.zeroValue3
 t4 := Tryz.underlying4
 a4 := Tryz.isAgg4
 z4 := Tryz.sizeOf4
 v4 := Tryz.zeroValue4
 t5 := Tryz.underlying5
 a5 := Tryz.isAgg5
 z5 := Tryz.sizeOf5
 v5 := Tryz.zeroValue5
 t9 := Tryz.underlying9
 a9 := Tryz.isAgg9
 z9 := Tryz.sizeOf9
 v9 := Tryz.zeroValue9
 t22 := Tryz.underlying42
 a22 := Tryz.isAgg42
 z22 := Tryz.sizeOf42
 v22 := Tryz.zeroValue42
 t25 := Tryz.underlying141
 a25 := Tryz.isAgg141
 z25 := Tryz.sizeOf141
 v25 := Tryz.zeroValue141
 t39 := Tryz.underlying183
 a39 := Tryz.isAgg183
 z39 := Tryz.sizeOf183
 v39 := Tryz.zeroValue183
 t45 := Tryz.underlying297
 a45 := Tryz.isAgg297
 z45 := Tryz.sizeOf297
 v45 := Tryz.zeroValue297
 t46 := Tryz.underlying298
 a46 := Tryz.isAgg298
 z46 := Tryz.sizeOf298
 v46 := Tryz.zeroValue298
 t50 := Tryz.underlying302
 a50 := Tryz.isAgg302
 z50 := Tryz.sizeOf302
 v50 := Tryz.zeroValue302
 t53 := Tryz.underlying305
 a53 := Tryz.isAgg305
 z53 := Tryz.sizeOf305
 v53 := Tryz.zeroValue305
 t55 := Tryz.underlying54
 a55 := Tryz.isAgg54
 z55 := Tryz.sizeOf54
 v55 := Tryz.zeroValue54
 t66 := Tryz.underlying355
 a66 := Tryz.isAgg355
 z66 := Tryz.sizeOf355
 v66 := Tryz.zeroValue355
 t70 := Tryz.underlying359
 a70 := Tryz.isAgg359
 z70 := Tryz.sizeOf359
 v70 := Tryz.zeroValue359
 t76 := Tryz.underlying395
 a76 := Tryz.isAgg395
 z76 := Tryz.sizeOf395
 v76 := Tryz.zeroValue395
 t77 := Tryz.underlying396
 a77 := Tryz.isAgg396
 z77 := Tryz.sizeOf396
 v77 := Tryz.zeroValue396 }
def Tryz.sort233_ren : Go.Shelf.Ren := ⟨fun | 6 => 233 | 15 => 131 | 14 => 277 | 28 => 198 | 29 => 199 | 20 => 304 | 21 => 305 | 22 => 306 | 23 => 307 | 24 => 308 | 25 => 309 | 26 => 310 | 27 => 311 | 46 => 323 | 47 => 241 | 48 => 242 | 49 => 324 | 50 => 325 | 57 => 332 | n => n, fun | 22 => 114 | 24 => 23 | 25 => 156 | 3 => 3 | 39 => 183 | 0 => 0 | 53 => 305 | 55 => 54 | 4 => 4 | 46 => 298 | 45 => 297 | 50 => 302 | 5 => 5 | 9 => 9 | 66 => 355 | 70 => 359 | 76 => 395 | 77 => 396 | n => n, fun | n => n⟩
theorem Tryz.sort233 : Go.Proofs.SlLaysF0.n6 Tryz.prog Tryz.sort233_ren := {
 mixed := by kernel_rfl
 f6 := ⟨Tryz.f233.name, by decide, Tryz.func233.trans (congrArg some (by kernel_rfl))⟩
 f14 := ⟨Tryz.f277.name, by decide, Tryz.func277.trans (congrArg some (by kernel_rfl))⟩
 f15 := Tryz.func131.trans (congrArg some (by kernel_rfl))
 f20 := ⟨Tryz.f304.name, by decide, Tryz.func304.trans (congrArg some (by kernel_rfl))⟩
 f21 := ⟨Tryz.f305.name, by decide, Tryz.func305.trans (congrArg some (by kernel_rfl))⟩
 f22 := ⟨Tryz.f306.name, by decide, Tryz.func306.trans (congrArg some (by kernel_rfl))⟩
 f23 := ⟨Tryz.f307.name, by decide, Tryz.func307.trans (congrArg some (by kernel_rfl))⟩
 f24 := ⟨Tryz.f308.name, by decide, Tryz.func308.trans (congrArg some (by kernel_rfl))⟩
 f25 := ⟨Tryz.f309.name, by decide, Tryz.func309.trans (congrArg some (by kernel_rfl))⟩
 f26 := ⟨Tryz.f310.name, by decide, Tryz.func310.trans (congrArg some (by kernel_rfl))⟩
 f27 := ⟨Tryz.f311.name, by decide, Tryz.func311.trans (congrArg some (by kernel_rfl))⟩
 f28 := Tryz.func198.trans (congrArg some (by kernel_rfl))
 f29 := Tryz.func199.trans (congrArg some (by kernel_rfl))
 f46 := ⟨Tryz.f323.name, by decide, Tryz.func323.trans (congrArg some (by kernel_rfl))⟩
 f47 := Tryz.func241.trans (congrArg some (by kernel_rfl))
 f48 := Tryz.func242.trans (congrArg some (by kernel_rfl))
 f49 := ⟨Tryz.f324.name, by decide, Tryz.func324.trans (congrArg some (by kernel_rfl))⟩
 f50 := ⟨Tryz.f325.name, by decide, Tryz.func325.trans (congrArg some (by kernel_rfl))⟩
 f57 := ⟨Tryz.f332.name, by decide, Tryz.func332.trans (congrArg some (by kernel_rfl))⟩
 t0 := Tryz.underlying0
 a0 := Tryz.isAgg0
 z0 := Tryz.sizeOf0
 v0 := Tryz.zeroValue0
 t3 := Tryz.underlying3
 a3 := Tryz.isAgg3
 z3 := Tryz.sizeOf3
 v3 := Tryz.zeroValue3
 t4 := Tryz.underlying4
 a4 := Tryz.isAgg4
 z4 := Tryz.sizeOf4
 v4 := Tryz.zeroValue4
 t5 := Tryz.underlying5
 a5 := Tryz.isAgg5
 z5 := Tryz.sizeOf5
 v5 := Tryz.zeroValue5
 t9 := Tryz.underlying9
 a9 := Tryz.isAgg9
 z9 := Tryz.sizeOf9
 v9 := Tryz.zeroValue9
 t22 := Tryz.underlying114
 a22 := Tryz.isAgg114
 z22 := Tryz.sizeOf114
 v22 := Tryz.zeroValue114
 t25 := Tryz.underlying156
 a25 := Tryz.isAgg156
 z25 := Tryz.sizeOf156
 v25 := Tryz.zeroValue156
 t39 := Tryz.underlying183
 a39 := Tryz.isAgg183
 z39 := Tryz.sizeOf183
 v39 := Tryz.zeroValue183
 t45 := Tryz.underlying297
 a45 := Tryz.isAgg297
 z45 := Tryz.sizeOf297
 v45 := Tryz.zeroValue297
 t46 := Tryz.underlying298
 a46 := Tryz.isAgg298
 z46 := Tryz.sizeOf298
 v46 := Tryz.zeroValue298
 t50 := Tryz.underlying302
 a50 := Tryz.isAgg302
 z50 := Tryz.sizeOf302
 v50 := Tryz.zeroValue302
 t53 := Tryz.underlying305
 a53 := Tryz.isAgg305
 z53 := Tryz.sizeOf305
 v53 := Tryz.zeroValue305
 t55 := Tryz.underlying54
 a55 := Tryz.isAgg54
 z55 := Tryz.sizeOf54
 v55 := Tryz.zeroValue54
 t66 := Tryz.underlying355
 a66 := Tryz.isAgg355
 z66 := Tryz.sizeOf355
 v66 := Tryz.zeroValue355
 t70 := Tryz.underlying359
 a70 := Tryz.isAgg359
 z70 := Tryz.sizeOf359
 v70 := Tryz.zeroValue359
 t76 := Tryz.underlying395
 a76 := Tryz.isAgg395
 z76 := Tryz.sizeOf395
 v76 := Tryz.zeroValue395
 t77 := Tryz.underlying396
 a77 := Tryz.isAgg396
 z77 := Tryz.sizeOf396
 v77 := Tryz.zeroValue396 }
end Go.Proofs
namespace Go.Ds
open Go.Proofs Go.Shelf Go.RowKit Go.Lib Go.Sort
theorem tZ (x : Int × Int) : ∀ v ∈ cC x, v.oneCell' = true := by
 intro v hv
 simp [cC] at hv
 rcases hv with rfl | rfl <;> rfl
theorem c1H (kc : FuncId) (eg : ∀ args w, (callFunc kc args).run Tryz.prog w = .ok (.enter kc args) w) (hf : ∀ x y, Fn Tryz.prog kc [.agg #[I x.1, I x.2], .agg #[I y.1, I y.2]] .nil fun r H' => r = I (cf2 x y) ∧ St Tryz.prog (.nil : Heap) H' []) : wO Tryz.prog 67 kc (fun _ => True) :=
 fun cA off cap d w _ hH hblk hsz => by
  have h := AnyQ.slices_SortFunc_total Tryz.sort67 2 Tryz.isAgg52 Tryz.sizeOf52 cC (fun _ => rfl) tZ cf2 c1S kc #[] cA off cap d w eg (a1n hf cA off d.size w) hH hblk hsz c1U
  rw [a4C] at h
  exact h
theorem c0O (kc : FuncId) (eg : ∀ args w, (callFunc kc args).run Tryz.prog w = .ok (.enter kc args) w) (hf : ∀ x y, Fn Tryz.prog kc [.agg #[I x.1, I x.2], .agg #[I y.1, I y.2]] .nil fun r H' => r = I (cf2 x y) ∧ St Tryz.prog (.nil : Heap) H' []) : wO Tryz.prog 233 kc (fun _ => True) :=
 fun cA off cap d w _ hH hblk hsz => by
  have h := AnyQ.slices_SortFunc_total Tryz.sort233 2 Tryz.isAgg23 Tryz.sizeOf23 cC (fun _ => rfl) tZ cf2 c1S kc #[] cA off cap d w eg (a1n hf cA off d.size w) hH hblk hsz c1U
  rw [a4C] at h
  exact h
theorem b6A : wF Tryz.prog 67 := fun p cap fv w => AnyF.slices_SortFunc_none { Tryz.sort67 with } p cap fv w
theorem c0F : wF Tryz.prog 233 := fun p cap fv w => AnyF.slices_SortFunc_none { Tryz.sort233 with } p cap fv w
def a5t (K kc : FuncId) : Prop := ∀ {H : Heap} {B : Base} {os : List Ob} (hS : St Tryz.prog B H os) (i : Nat) {v : Value} {es : List (Int × Int)} (ho : os[i]? = some ⟨v, 2, pr es⟩) (hl : es.length < 100000000000) {Q : Value → Heap → Prop}
    (h : ∀ H1, St Tryz.prog B H1 (os.set i ⟨v, 2, pr (mN es)⟩) → Q (.tuple #[]) H1), oM Tryz.prog K [v, .func (.func kc) #[] #[]] H Q
theorem b8d : jK Tryz.prog 67 := ⟨Tryz.f67, Tryz.func67, by kernel_rfl, by kernel_rfl⟩
theorem c0q : jK Tryz.prog 233 := ⟨Tryz.f233, Tryz.func233, by kernel_rfl, by kernel_rfl⟩
theorem b9R : a5t 67 218 := fun hS i _ _ ho hl _ h => qD (c1H 218 (enters_of Tryz.func218 (by kernel_rfl) rfl) fun x y => b2T x y) b6A b8d hS i ho hl (fun _ _ => trivial) h
theorem c0H : a5t 67 231 := fun hS i _ _ ho hl _ h => qD (c1H 231 (enters_of Tryz.func231 (by kernel_rfl) rfl) fun x y => b3V x y) b6A b8d hS i ho hl (fun _ _ => trivial) h
theorem c1a : a5t 233 234 := fun hS i _ _ ho hl _ h => qD (c0O 234 (enters_of Tryz.func234 (by kernel_rfl) rfl) fun x y => b4i x y) c0F c0q hS i ho hl (fun _ _ => trivial) h
end Go.Ds
