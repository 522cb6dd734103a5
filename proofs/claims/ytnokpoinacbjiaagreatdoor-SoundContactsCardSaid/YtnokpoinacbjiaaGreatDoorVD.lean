/-
  A part of the proof of SoundContacts.
-/
import Derived.Test.YtnokpoinacbjiaaGreatDoorVC
import Derived.Test.YtnokpoinacbjiaaGreatDoorProg
import Derived.KernelRfl
import Derived.Test.YtnokpoinacbjiaaGreatDoorVB
import Derived.Shelf.SlSortCmp.NoneTotal
import Derived.Shelf.SlGeneric
import Derived.Shelf.SlLaysF0
set_option linter.unusedVariables false
set_option linter.unusedSimpArgs false
set_option linter.defProp false
set_option linter.unusedSectionVars false
namespace Go.Ds
open Go.Proofs
abbrev I (n : Int) : Value := .int .i64 n
theorem cB : Tryz.prog.follows .mixedOrders = true := by kernel_rfl
theorem tA3 : bN Tryz.prog 3 = some false := by kernel_rfl
theorem tS3 : aE Tryz.prog 3 = some 1 := by kernel_rfl
theorem tA4 : bN Tryz.prog 4 = some false := by kernel_rfl
theorem tS4 : aE Tryz.prog 4 = some 1 := by kernel_rfl
theorem tA5 : bN Tryz.prog 5 = some false := by kernel_rfl
theorem tS5 : aE Tryz.prog 5 = some 1 := by kernel_rfl
theorem tA9 : bN Tryz.prog 9 = some false := by kernel_rfl
theorem tS9 : aE Tryz.prog 9 = some 1 := by kernel_rfl
theorem c3c : bN Tryz.prog 22 = some false := by kernel_rfl
theorem c2v : aE Tryz.prog 22 = some 1 := by kernel_rfl
theorem c2w : bN Tryz.prog 23 = some false := by kernel_rfl
theorem c4w : aE Tryz.prog 23 = some 1 := by kernel_rfl
theorem c2G : bN Tryz.prog 24 = some false := by kernel_rfl
theorem c3d : aE Tryz.prog 24 = some 1 := by kernel_rfl
theorem c4C : bN Tryz.prog 26 = some true := by kernel_rfl
theorem b4f : aE Tryz.prog 26 = some 3 := by kernel_rfl
theorem c3a : bN Tryz.prog 27 = some true := by kernel_rfl
theorem b6R : aE Tryz.prog 27 = some 5 := by kernel_rfl
theorem c3r : bN Tryz.prog 28 = some false := by kernel_rfl
theorem c4j : aE Tryz.prog 28 = some 1 := by kernel_rfl
theorem c2M : bN Tryz.prog 29 = some true := by kernel_rfl
theorem b8n : aE Tryz.prog 29 = some 3 := by kernel_rfl
theorem c4A : bN Tryz.prog 32 = some false := by kernel_rfl
theorem c1A : aE Tryz.prog 32 = some 1 := by kernel_rfl
theorem c3J : bN Tryz.prog 33 = some false := by kernel_rfl
theorem c1l : aE Tryz.prog 33 = some 1 := by kernel_rfl
theorem c2C : bN Tryz.prog 34 = some false := by kernel_rfl
theorem b3B : aE Tryz.prog 34 = some 1 := by kernel_rfl
theorem c4p : bN Tryz.prog 36 = some true := by kernel_rfl
theorem fH : aE Tryz.prog 36 = some 4 := by kernel_rfl
theorem c3z : bN Tryz.prog 38 = some false := by kernel_rfl
theorem c0N : aE Tryz.prog 38 = some 1 := by kernel_rfl
theorem c3j : bN Tryz.prog 39 = some false := by kernel_rfl
theorem b3Y : aE Tryz.prog 39 = some 1 := by kernel_rfl
theorem c2Y : bN Tryz.prog 41 = some true := by kernel_rfl
theorem jU : aE Tryz.prog 41 = some 3 := by kernel_rfl
theorem c4k : bN Tryz.prog 46 = some false := by kernel_rfl
theorem a4L : aE Tryz.prog 46 = some 1 := by kernel_rfl
theorem c2J : bN Tryz.prog 52 = some true := by kernel_rfl
theorem gC : aE Tryz.prog 52 = some 2 := by kernel_rfl
theorem c4I : bN Tryz.prog 70 = some true := by kernel_rfl
theorem oU : aE Tryz.prog 70 = some 2 := by kernel_rfl
theorem c3M : bN Tryz.prog 88 = some true := by kernel_rfl
theorem rC : aE Tryz.prog 88 = some 2 := by kernel_rfl
theorem c2U : bN Tryz.prog 89 = some false := by kernel_rfl
theorem b5i : aE Tryz.prog 89 = some 1 := by kernel_rfl
theorem c3y : bN Tryz.prog 91 = some true := by kernel_rfl
theorem pD : aE Tryz.prog 91 = some 6 := by kernel_rfl
theorem c2x : bN Tryz.prog 94 = some true := by kernel_rfl
theorem c4E : aE Tryz.prog 94 = some 3 := by kernel_rfl
theorem c1O : bN Tryz.prog 100 = some true := by kernel_rfl
theorem dE : aE Tryz.prog 100 = some 2 := by kernel_rfl
theorem c1U : bN Tryz.prog 103 = some false := by kernel_rfl
theorem b9j : aE Tryz.prog 103 = some 1 := by kernel_rfl
theorem b8Y : bN Tryz.prog 105 = some true := by kernel_rfl
theorem a6x : aE Tryz.prog 105 = some 4 := by kernel_rfl
theorem c0p : bN Tryz.prog 107 = some false := by kernel_rfl
theorem c0M : aE Tryz.prog 107 = some 1 := by kernel_rfl
theorem b9z : bN Tryz.prog 109 = some true := by kernel_rfl
theorem b0d : aE Tryz.prog 109 = some 9 := by kernel_rfl
theorem c2b : bN Tryz.prog 112 = some true := by kernel_rfl
theorem lN : aE Tryz.prog 112 = some 2 := by kernel_rfl
theorem b9a : bN Tryz.prog 113 = some false := by kernel_rfl
theorem b5Y : aE Tryz.prog 113 = some 1 := by kernel_rfl
theorem c0v : bN Tryz.prog 115 = some true := by kernel_rfl
theorem lP : aE Tryz.prog 115 = some 5 := by kernel_rfl
theorem b9d : bN Tryz.prog 116 = some false := by kernel_rfl
theorem nV : aE Tryz.prog 116 = some 1 := by kernel_rfl
theorem b8W : bN Tryz.prog 118 = some true := by kernel_rfl
theorem gF : aE Tryz.prog 118 = some 4 := by kernel_rfl
theorem c0O : bN Tryz.prog 121 = some true := by kernel_rfl
theorem b0h : aE Tryz.prog 121 = some 4 := by kernel_rfl
theorem c1g : bN Tryz.prog 123 = some true := by kernel_rfl
theorem a6n : aE Tryz.prog 123 = some 4 := by kernel_rfl
theorem c0T : bN Tryz.prog 125 = some true := by kernel_rfl
theorem lI : aE Tryz.prog 125 = some 5 := by kernel_rfl
theorem c1Z : bN Tryz.prog 148 = some false := by kernel_rfl
theorem c1z : aE Tryz.prog 148 = some 1 := by kernel_rfl
theorem b9Y : bN Tryz.prog 150 = some true := by kernel_rfl
theorem vM : aE Tryz.prog 150 = some 3 := by kernel_rfl
theorem c1s : bN Tryz.prog 152 = some true := by kernel_rfl
theorem tC : aE Tryz.prog 152 = some 2 := by kernel_rfl
theorem c0D : bN Tryz.prog 173 = some false := by kernel_rfl
theorem b1V : aE Tryz.prog 173 = some 1 := by kernel_rfl
theorem c0g : bN Tryz.prog 194 = some true := by kernel_rfl
theorem a6B : aE Tryz.prog 194 = some 3 := by kernel_rfl
theorem c4v : aQ Tryz.prog 22 = some 9 := by kernel_rfl
theorem c3w : aQ Tryz.prog 23 = some 4 := by kernel_rfl
theorem c4n : aQ Tryz.prog 24 = some 4 := by kernel_rfl
theorem c4r : aQ Tryz.prog 32 = some 6 := by kernel_rfl
theorem c3b : aQ Tryz.prog 33 = some 5 := by kernel_rfl
theorem c2r : aQ Tryz.prog 34 = some 5 := by kernel_rfl
theorem c4T : aQ Tryz.prog 38 = some 1 := by kernel_rfl
theorem c3Q : aQ Tryz.prog 44 = some 2 := by kernel_rfl
theorem c4z : aQ Tryz.prog 46 = some 2 := by kernel_rfl
theorem c3m : aQ Tryz.prog 58 = some 2 := by kernel_rfl
theorem c4B : aQ Tryz.prog 83 = some 3 := by kernel_rfl
theorem b6O : aQ Tryz.prog 89 = some 1 := by kernel_rfl
theorem b9B : aQ Tryz.prog 103 = some 4 := by kernel_rfl
theorem c0Y : aQ Tryz.prog 110 = some 1 := by kernel_rfl
theorem c0L : aQ Tryz.prog 113 = some 4 := by kernel_rfl
theorem c0Q : aQ Tryz.prog 116 = some 3 := by kernel_rfl
theorem c0j : aQ Tryz.prog 127 = some 3 := by kernel_rfl
theorem c1u : aQ Tryz.prog 148 = some 2 := by kernel_rfl
theorem c0U : aQ Tryz.prog 155 = some 1 := by kernel_rfl
theorem b9t : aQ Tryz.prog 156 = some 2 := by kernel_rfl
theorem c1G : aQ Tryz.prog 205 = some 2 := by kernel_rfl
theorem fB : cV Tryz.prog 110 = true ∧ fZ Tryz.prog 9 = true ∧ cV Tryz.prog 9 = false := ⟨by kernel_rfl, by kernel_rfl, by kernel_rfl⟩
theorem c2B (A i e : Nat) (k : IntKind) (j : Int) (h0 : 0 ≤ j) (h1 : j < 5) : oT (aQ Tryz.prog 27) Tryz.prog 27 (ptr A i e) (.int k j) = some (ptr A (i + j.toNat * 1) e) := a0R (n := 5) (elem := 5) (size := 1) (by kernel_rfl) (by kernel_rfl) A i e k j h0 h1
theorem c3Y (A i e : Nat) (k : IntKind) (j : Int) (h0 : 0 ≤ j) (h1 : j < 3) : oT (aQ Tryz.prog 29) Tryz.prog 29 (ptr A i e) (.int k j) = some (ptr A (i + j.toNat * 1) e) := a0R (n := 3) (elem := 28) (size := 1) (by kernel_rfl) (by kernel_rfl) A i e k j h0 h1
theorem b9k (A i e : Nat) (k : IntKind) (j : Int) (h0 : 0 ≤ j) (h1 : j < 64) : oT (aQ Tryz.prog 251) Tryz.prog 251 (ptr A i e) (.int k j) = some (ptr A (i + j.toNat * 1) e) := a0R (n := 64) (elem := 5) (size := 1) (by kernel_rfl) (by kernel_rfl) A i e k j h0 h1
theorem b7s : eX Tryz.prog 32 = some (6, 80) := by kernel_rfl
theorem c2u : dB Tryz.prog 32 = true := by kernel_rfl
theorem c0f : ((aH Tryz.prog 32).bind (aZ Tryz.prog)).any bA = true := by kernel_rfl
theorem b8E : eX Tryz.prog 33 = some (5, 64) := by kernel_rfl
theorem c4a : dB Tryz.prog 33 = true := by kernel_rfl
theorem c0E : ((aH Tryz.prog 33).bind (aZ Tryz.prog)).any bA = true := by kernel_rfl
theorem a4k : eX Tryz.prog 34 = some (5, 48) := by kernel_rfl
theorem c3K : dB Tryz.prog 34 = true := by kernel_rfl
theorem b3d : ((aH Tryz.prog 34).bind (aZ Tryz.prog)).any bA = true := by kernel_rfl
theorem b6w : eX Tryz.prog 38 = some (1, 8) := by kernel_rfl
theorem c2q : dB Tryz.prog 38 = true := by kernel_rfl
theorem c0C : ((aH Tryz.prog 38).bind (aZ Tryz.prog)).any bA = true := by kernel_rfl
theorem b1t : eX Tryz.prog 44 = some (2, 16) := by kernel_rfl
theorem c4c : dB Tryz.prog 44 = true := by kernel_rfl
theorem b6p : ((aH Tryz.prog 44).bind (aZ Tryz.prog)).any bA = true := by kernel_rfl
theorem jZ : eX Tryz.prog 46 = some (2, 16) := by kernel_rfl
theorem c4D : dB Tryz.prog 46 = true := by kernel_rfl
theorem xN : ((aH Tryz.prog 46).bind (aZ Tryz.prog)).any bA = true := by kernel_rfl
theorem b3r : eX Tryz.prog 58 = some (2, 16) := by kernel_rfl
theorem c4s : dB Tryz.prog 58 = true := by kernel_rfl
theorem b8T : ((aH Tryz.prog 58).bind (aZ Tryz.prog)).any bA = true := by kernel_rfl
theorem b7Y : eX Tryz.prog 83 = some (3, 24) := by kernel_rfl
theorem c2T : dB Tryz.prog 83 = true := by kernel_rfl
theorem b9l : ((aH Tryz.prog 83).bind (aZ Tryz.prog)).any bA = true := by kernel_rfl
theorem vW : eX Tryz.prog 89 = some (1, 8) := by kernel_rfl
theorem c4i : dB Tryz.prog 89 = true := by kernel_rfl
theorem a2d : ((aH Tryz.prog 89).bind (aZ Tryz.prog)).any bA = true := by kernel_rfl
theorem a5V : eX Tryz.prog 110 = some (1, 1) := by kernel_rfl
theorem c1q : dB Tryz.prog 110 = true := by kernel_rfl
theorem a6I : ((aH Tryz.prog 110).bind (aZ Tryz.prog)).any bA = true := by kernel_rfl
theorem a9H : eX Tryz.prog 113 = some (4, 56) := by kernel_rfl
theorem b9D : dB Tryz.prog 113 = true := by kernel_rfl
theorem b6b : ((aH Tryz.prog 113).bind (aZ Tryz.prog)).any bA = true := by kernel_rfl
theorem iC : eX Tryz.prog 116 = some (3, 40) := by kernel_rfl
theorem b8Q : dB Tryz.prog 116 = true := by kernel_rfl
theorem nR : ((aH Tryz.prog 116).bind (aZ Tryz.prog)).any bA = true := by kernel_rfl
theorem b5B : eX Tryz.prog 127 = some (3, 40) := by kernel_rfl
theorem c0b : dB Tryz.prog 127 = true := by kernel_rfl
theorem b5u : ((aH Tryz.prog 127).bind (aZ Tryz.prog)).any bA = true := by kernel_rfl
theorem yF : eX Tryz.prog 148 = some (2, 16) := by kernel_rfl
theorem c1E : dB Tryz.prog 148 = true := by kernel_rfl
theorem zZ : ((aH Tryz.prog 148).bind (aZ Tryz.prog)).any bA = true := by kernel_rfl
theorem c0e : eX Tryz.prog 155 = some (1, 16) := by kernel_rfl
theorem b9K : dB Tryz.prog 155 = true := by kernel_rfl
theorem c0w : ((aH Tryz.prog 155).bind (aZ Tryz.prog)).any bA = true := by kernel_rfl
theorem b5D : eX Tryz.prog 156 = some (2, 16) := by kernel_rfl
theorem c1d : dB Tryz.prog 156 = true := by kernel_rfl
theorem b9n : ((aH Tryz.prog 156).bind (aZ Tryz.prog)).any bA = true := by kernel_rfl
theorem b5P : eX Tryz.prog 205 = some (2, 16) := by kernel_rfl
theorem c1i : dB Tryz.prog 205 = true := by kernel_rfl
theorem b5Q : ((aH Tryz.prog 205).bind (aZ Tryz.prog)).any bA = true := by kernel_rfl
theorem c2y : b7Z Tryz.prog 89 = some (8, .int .i64 0) := by kernel_rfl
theorem tL9 : aQ Tryz.prog 9 = none := by kernel_rfl
theorem tT9 : fZ Tryz.prog 9 = true := by kernel_rfl
theorem b7o : aV Tryz.prog 26 0 = some 0 := by kernel_rfl
theorem b7x : aV Tryz.prog 26 1 = some 1 := by kernel_rfl
theorem b6k : aV Tryz.prog 26 2 = some 2 := by kernel_rfl
theorem b8x : aV Tryz.prog 36 0 = some 0 := by kernel_rfl
theorem b7W : aV Tryz.prog 36 1 = some 1 := by kernel_rfl
theorem b6v : aV Tryz.prog 36 2 = some 2 := by kernel_rfl
theorem b7T : aV Tryz.prog 36 3 = some 3 := by kernel_rfl
theorem b8l : aV Tryz.prog 41 0 = some 0 := by kernel_rfl
theorem b8y : aV Tryz.prog 41 1 = some 1 := by kernel_rfl
theorem b8f : aV Tryz.prog 41 2 = some 2 := by kernel_rfl
theorem b8u : aV Tryz.prog 52 0 = some 0 := by kernel_rfl
theorem b6o : aV Tryz.prog 52 1 = some 1 := by kernel_rfl
theorem b7M : aV Tryz.prog 70 0 = some 0 := by kernel_rfl
theorem b7m : aV Tryz.prog 70 1 = some 1 := by kernel_rfl
theorem b8t : aV Tryz.prog 88 0 = some 0 := by kernel_rfl
theorem b6Q : aV Tryz.prog 88 1 = some 1 := by kernel_rfl
theorem b8w : aV Tryz.prog 91 0 = some 0 := by kernel_rfl
theorem b7N : aV Tryz.prog 91 1 = some 1 := by kernel_rfl
theorem b7q : aV Tryz.prog 91 2 = some 2 := by kernel_rfl
theorem b7h : aV Tryz.prog 91 3 = some 4 := by kernel_rfl
theorem b6G : aV Tryz.prog 91 4 = some 5 := by kernel_rfl
theorem b2D : aV Tryz.prog 100 0 = some 0 := by kernel_rfl
theorem b3e : aV Tryz.prog 100 1 = some 1 := by kernel_rfl
theorem b3v : aV Tryz.prog 105 0 = some 0 := by kernel_rfl
theorem b4K : aV Tryz.prog 105 1 = some 1 := by kernel_rfl
theorem b3R : aV Tryz.prog 105 2 = some 2 := by kernel_rfl
theorem b2m : aV Tryz.prog 105 3 = some 3 := by kernel_rfl
theorem b4d : aV Tryz.prog 109 0 = some 0 := by kernel_rfl
theorem b2g : aV Tryz.prog 109 1 = some 1 := by kernel_rfl
theorem b5l : aV Tryz.prog 109 2 = some 2 := by kernel_rfl
theorem b3y : aV Tryz.prog 109 3 = some 3 := by kernel_rfl
theorem b4W : aV Tryz.prog 109 4 = some 4 := by kernel_rfl
theorem b3E : aV Tryz.prog 112 0 = some 0 := by kernel_rfl
theorem b2h : aV Tryz.prog 112 1 = some 1 := by kernel_rfl
theorem b3i : aV Tryz.prog 115 0 = some 0 := by kernel_rfl
theorem b4w : aV Tryz.prog 115 2 = some 2 := by kernel_rfl
theorem b4G : aV Tryz.prog 115 3 = some 4 := by kernel_rfl
theorem b3P : aV Tryz.prog 118 0 = some 0 := by kernel_rfl
theorem b2M : aV Tryz.prog 118 1 = some 1 := by kernel_rfl
theorem b3C : aV Tryz.prog 118 2 = some 3 := by kernel_rfl
theorem b5g : aV Tryz.prog 121 0 = some 0 := by kernel_rfl
theorem b3s : aV Tryz.prog 121 1 = some 1 := by kernel_rfl
theorem b5h : aV Tryz.prog 121 2 = some 2 := by kernel_rfl
theorem b3S : aV Tryz.prog 121 3 = some 3 := by kernel_rfl
theorem b2w : aV Tryz.prog 123 0 = some 0 := by kernel_rfl
theorem b2r : aV Tryz.prog 123 1 = some 1 := by kernel_rfl
theorem b2n : aV Tryz.prog 123 2 = some 2 := by kernel_rfl
theorem b2o : aV Tryz.prog 123 3 = some 3 := by kernel_rfl
theorem b4k : aV Tryz.prog 125 0 = some 0 := by kernel_rfl
theorem b2l : aV Tryz.prog 125 1 = some 1 := by kernel_rfl
theorem b4e : aV Tryz.prog 125 2 = some 2 := by kernel_rfl
theorem b5j : aV Tryz.prog 125 3 = some 3 := by kernel_rfl
theorem b2y : aV Tryz.prog 125 4 = some 4 := by kernel_rfl
theorem b2E : aV Tryz.prog 150 0 = some 0 := by kernel_rfl
theorem b4O : aV Tryz.prog 150 1 = some 1 := by kernel_rfl
theorem b2V : aV Tryz.prog 150 2 = some 2 := by kernel_rfl
theorem b4J : aV Tryz.prog 152 0 = some 0 := by kernel_rfl
theorem b2j : aV Tryz.prog 152 1 = some 1 := by kernel_rfl
theorem b2X : aV Tryz.prog 194 0 = some 0 := by kernel_rfl
theorem b5e : aV Tryz.prog 194 1 = some 1 := by kernel_rfl
theorem c3U : aZ Tryz.prog 36 = some (.agg #[.string ⟨#[]⟩, .slice none 0 0, .slice none 0 0, .slice none 0 0]) := by kernel_rfl
theorem c4q : bM Tryz.prog 36 = none := by kernel_rfl
theorem c2V : aZ Tryz.prog 41 = some (.agg #[.slice none 0 0, .int .u64 0, .int .u64 0]) := by kernel_rfl
theorem c4P : bM Tryz.prog 41 = none := by kernel_rfl
theorem c2E : aZ Tryz.prog 46 = some (.slice none 0 0) := by kernel_rfl
theorem c4J : bM Tryz.prog 46 = none := by kernel_rfl
theorem c3P : aZ Tryz.prog 52 = some (.agg #[.int .i64 0, .int .i64 0]) := by kernel_rfl
theorem c2K : bM Tryz.prog 52 = none := by kernel_rfl
theorem c4H : aZ Tryz.prog 70 = some (.agg #[.int .i64 0, .int .i64 0]) := by kernel_rfl
theorem c3D : bM Tryz.prog 70 = none := by kernel_rfl
theorem c2N : aZ Tryz.prog 88 = some (.agg #[.int .i64 0, .int .i64 0]) := by kernel_rfl
theorem c4N : bM Tryz.prog 88 = none := by kernel_rfl
theorem c3X : aZ Tryz.prog 91 = some (.agg #[.string ⟨#[]⟩, .string ⟨#[]⟩, .int .i64 0, .int .i64 0, .int .i64 0, .slice none 0 0]) := by kernel_rfl
theorem c3t : bM Tryz.prog 91 = none := by kernel_rfl
theorem b9h : aZ Tryz.prog 100 = some (.agg #[.int .u64 0, .int .u64 0]) := by kernel_rfl
theorem c1e : bM Tryz.prog 100 = none := by kernel_rfl
theorem c1D : aZ Tryz.prog 105 = some (.agg #[.int .u8 0, .int .u8 0, .bool false, .slice none 0 0]) := by kernel_rfl
theorem c1N : bM Tryz.prog 105 = none := by kernel_rfl
theorem c2a : aZ Tryz.prog 112 = some (.agg #[.int .i64 0, .int .i64 0]) := by kernel_rfl
theorem c1t : bM Tryz.prog 112 = none := by kernel_rfl
theorem c0S : aZ Tryz.prog 115 = some (.agg #[.string ⟨#[]⟩, .bool false, .int .i64 0, .int .i64 0, .slice none 0 0]) := by kernel_rfl
theorem c0h : bM Tryz.prog 115 = none := by kernel_rfl
theorem b9M : aZ Tryz.prog 118 = some (.agg #[.string ⟨#[]⟩, .int .i64 0, .int .i64 0, .slice none 0 0]) := by kernel_rfl
theorem b9I : bM Tryz.prog 118 = none := by kernel_rfl
theorem b8P : aZ Tryz.prog 123 = some (.agg #[.int .u8 0, .int .u8 0, .int .i8 0, .bool false]) := by kernel_rfl
theorem b9V : bM Tryz.prog 123 = none := by kernel_rfl
theorem b8R : aZ Tryz.prog 125 = some (.agg #[.string ⟨#[]⟩, .int .i64 0, .int .i64 0, .int .i64 0, .bool false]) := by kernel_rfl
theorem c1y : bM Tryz.prog 125 = none := by kernel_rfl
theorem b9E : aZ Tryz.prog 150 = some (.agg #[.int .i64 0, .int .i64 0, .slice none 0 0]) := by kernel_rfl
theorem c1j : bM Tryz.prog 150 = none := by kernel_rfl
theorem b9c : aZ Tryz.prog 152 = some (.agg #[.int .i64 0, .int .i64 0]) := by kernel_rfl
theorem b9R : bM Tryz.prog 152 = none := by kernel_rfl
theorem b9F : aZ Tryz.prog 173 = some (.map none) := by kernel_rfl
theorem c1n : bM Tryz.prog 173 = none := by kernel_rfl
theorem tI3 : tL Tryz.prog 3 = some .i64 := by kernel_rfl
theorem tI5 : tL Tryz.prog 5 = some .u8 := by kernel_rfl
theorem c3h : tL Tryz.prog 39 = some .u64 := by kernel_rfl
theorem c4Q : tL Tryz.prog 72 = some .u64 := by kernel_rfl
theorem c1S : tL Tryz.prog 107 = some .i8 := by kernel_rfl
theorem b9r (t2 : TypeId) (cx cy : Bool) (a0 : Int) (a1 : Int) (b0 : Int) (b1 : Int) : cW Tryz.prog .eql 52 t2 cx cy (.agg #[.int .i64 a0, .int .i64 a1]) (.agg #[.int .i64 b0, .int .i64 b1]) = some (.bool (decide (a0 = b0 ∧ a1 = b1))) ∧ cW Tryz.prog .neq 52 t2 cx cy (.agg #[.int .i64 a0, .int .i64 a1]) (.agg #[.int .i64 b0, .int .i64 b1]) = some (.bool (decide (¬ (a0 = b0 ∧ a1 = b1)))) := by
 have h := pH (P := Tryz.prog) (t := 52) (t2 := t2) (cx := cx) (cy := cy) (xs := [.int .i64 a0, .int .i64 a1]) (ys := [.int .i64 b0, .int .i64 b1]) (by kernel_rfl) (by kernel_rfl) (by kernel_rfl) (by kernel_rfl) rfl (by kernel_rfl) rfl rfl
 have e : ((List.range [Value.int .i64 a0, .int .i64 a1].length).all fun j => tR ([Value.int .i64 a0, .int .i64 a1].getD j undef) ([Value.int .i64 b0, .int .i64 b1].getD j undef)) = decide (a0 = b0 ∧ a1 = b1) := by
  show (tR (Value.int .i64 a0) (.int .i64 b0) && (tR (Value.int .i64 a1) (.int .i64 b1) && true)) = _
  rw [Bool.eq_iff_iff]
  simp [tR]
 rw [e] at h
 exact ⟨h.1, by rw [h.2]; simp⟩
theorem b9T (t2 : TypeId) (cx cy : Bool) (a0 : Int) (a1 : Int) (b0 : Int) (b1 : Int) : cW Tryz.prog .eql 52 t2 cx cy (.agg #[.int .i64 a0, .int .i64 a1]) (.agg #[.int .i64 b0, .int .i64 b1]) = some (.bool (decide (a0 = b0 ∧ a1 = b1))) := (b9r t2 cx cy a0 a1 b0 b1).1
theorem c0Z (t2 : TypeId) (cx cy : Bool) (a0 : Int) (a1 : Int) (b0 : Int) (b1 : Int) : cW Tryz.prog .neq 52 t2 cx cy (.agg #[.int .i64 a0, .int .i64 a1]) (.agg #[.int .i64 b0, .int .i64 b1]) = some (.bool (decide (¬ (a0 = b0 ∧ a1 = b1)))) := (b9r t2 cx cy a0 a1 b0 b1).2
theorem c0k (t2 : TypeId) (cx cy : Bool) (a0 : Int) (a1 : Int) (b0 : Int) (b1 : Int) : cW Tryz.prog .eql 70 t2 cx cy (.agg #[.int .i64 a0, .int .i64 a1]) (.agg #[.int .i64 b0, .int .i64 b1]) = some (.bool (decide (a0 = b0 ∧ a1 = b1))) ∧ cW Tryz.prog .neq 70 t2 cx cy (.agg #[.int .i64 a0, .int .i64 a1]) (.agg #[.int .i64 b0, .int .i64 b1]) = some (.bool (decide (¬ (a0 = b0 ∧ a1 = b1)))) := by
 have h := pH (P := Tryz.prog) (t := 70) (t2 := t2) (cx := cx) (cy := cy) (xs := [.int .i64 a0, .int .i64 a1]) (ys := [.int .i64 b0, .int .i64 b1]) (by kernel_rfl) (by kernel_rfl) (by kernel_rfl) (by kernel_rfl) rfl (by kernel_rfl) rfl rfl
 have e : ((List.range [Value.int .i64 a0, .int .i64 a1].length).all fun j => tR ([Value.int .i64 a0, .int .i64 a1].getD j undef) ([Value.int .i64 b0, .int .i64 b1].getD j undef)) = decide (a0 = b0 ∧ a1 = b1) := by
  show (tR (Value.int .i64 a0) (.int .i64 b0) && (tR (Value.int .i64 a1) (.int .i64 b1) && true)) = _
  rw [Bool.eq_iff_iff]
  simp [tR]
 rw [e] at h
 exact ⟨h.1, by rw [h.2]; simp⟩
theorem c0r (t2 : TypeId) (cx cy : Bool) (a0 : Int) (a1 : Int) (b0 : Int) (b1 : Int) : cW Tryz.prog .eql 70 t2 cx cy (.agg #[.int .i64 a0, .int .i64 a1]) (.agg #[.int .i64 b0, .int .i64 b1]) = some (.bool (decide (a0 = b0 ∧ a1 = b1))) := (c0k t2 cx cy a0 a1 b0 b1).1
theorem b8X (t2 : TypeId) (cx cy : Bool) (a0 : Int) (a1 : Int) (b0 : Int) (b1 : Int) : cW Tryz.prog .neq 70 t2 cx cy (.agg #[.int .i64 a0, .int .i64 a1]) (.agg #[.int .i64 b0, .int .i64 b1]) = some (.bool (decide (¬ (a0 = b0 ∧ a1 = b1)))) := (c0k t2 cx cy a0 a1 b0 b1).2
theorem b5J (t2 : TypeId) (cx cy : Bool) (a0 : Int) (a1 : Int) (b0 : Int) (b1 : Int) : cW Tryz.prog .eql 100 t2 cx cy (.agg #[.int .u64 a0, .int .u64 a1]) (.agg #[.int .u64 b0, .int .u64 b1]) = some (.bool (decide (a0 = b0 ∧ a1 = b1))) ∧ cW Tryz.prog .neq 100 t2 cx cy (.agg #[.int .u64 a0, .int .u64 a1]) (.agg #[.int .u64 b0, .int .u64 b1]) = some (.bool (decide (¬ (a0 = b0 ∧ a1 = b1)))) := by
 have h := pH (P := Tryz.prog) (t := 100) (t2 := t2) (cx := cx) (cy := cy) (xs := [.int .u64 a0, .int .u64 a1]) (ys := [.int .u64 b0, .int .u64 b1]) (by kernel_rfl) (by kernel_rfl) (by kernel_rfl) (by kernel_rfl) rfl (by kernel_rfl) rfl rfl
 have e : ((List.range [Value.int .u64 a0, .int .u64 a1].length).all fun j => tR ([Value.int .u64 a0, .int .u64 a1].getD j undef) ([Value.int .u64 b0, .int .u64 b1].getD j undef)) = decide (a0 = b0 ∧ a1 = b1) := by
  show (tR (Value.int .u64 a0) (.int .u64 b0) && (tR (Value.int .u64 a1) (.int .u64 b1) && true)) = _
  rw [Bool.eq_iff_iff]
  simp [tR]
 rw [e] at h
 exact ⟨h.1, by rw [h.2]; simp⟩
theorem b7G (t2 : TypeId) (cx cy : Bool) (a0 : Int) (a1 : Int) (b0 : Int) (b1 : Int) : cW Tryz.prog .eql 100 t2 cx cy (.agg #[.int .u64 a0, .int .u64 a1]) (.agg #[.int .u64 b0, .int .u64 b1]) = some (.bool (decide (a0 = b0 ∧ a1 = b1))) := (b5J t2 cx cy a0 a1 b0 b1).1
theorem b6V (t2 : TypeId) (cx cy : Bool) (a0 : Int) (a1 : Int) (b0 : Int) (b1 : Int) : cW Tryz.prog .neq 100 t2 cx cy (.agg #[.int .u64 a0, .int .u64 a1]) (.agg #[.int .u64 b0, .int .u64 b1]) = some (.bool (decide (¬ (a0 = b0 ∧ a1 = b1)))) := (b5J t2 cx cy a0 a1 b0 b1).2
theorem b5S (t2 : TypeId) (cx cy : Bool) (a0 : Int) (a1 : Int) (b0 : Int) (b1 : Int) : cW Tryz.prog .eql 152 t2 cx cy (.agg #[.int .i64 a0, .int .i64 a1]) (.agg #[.int .i64 b0, .int .i64 b1]) = some (.bool (decide (a0 = b0 ∧ a1 = b1))) ∧ cW Tryz.prog .neq 152 t2 cx cy (.agg #[.int .i64 a0, .int .i64 a1]) (.agg #[.int .i64 b0, .int .i64 b1]) = some (.bool (decide (¬ (a0 = b0 ∧ a1 = b1)))) := by
 have h := pH (P := Tryz.prog) (t := 152) (t2 := t2) (cx := cx) (cy := cy) (xs := [.int .i64 a0, .int .i64 a1]) (ys := [.int .i64 b0, .int .i64 b1]) (by kernel_rfl) (by kernel_rfl) (by kernel_rfl) (by kernel_rfl) rfl (by kernel_rfl) rfl rfl
 have e : ((List.range [Value.int .i64 a0, .int .i64 a1].length).all fun j => tR ([Value.int .i64 a0, .int .i64 a1].getD j undef) ([Value.int .i64 b0, .int .i64 b1].getD j undef)) = decide (a0 = b0 ∧ a1 = b1) := by
  show (tR (Value.int .i64 a0) (.int .i64 b0) && (tR (Value.int .i64 a1) (.int .i64 b1) && true)) = _
  rw [Bool.eq_iff_iff]
  simp [tR]
 rw [e] at h
 exact ⟨h.1, by rw [h.2]; simp⟩
theorem b7S (t2 : TypeId) (cx cy : Bool) (a0 : Int) (a1 : Int) (b0 : Int) (b1 : Int) : cW Tryz.prog .eql 152 t2 cx cy (.agg #[.int .i64 a0, .int .i64 a1]) (.agg #[.int .i64 b0, .int .i64 b1]) = some (.bool (decide (a0 = b0 ∧ a1 = b1))) := (b5S t2 cx cy a0 a1 b0 b1).1
theorem b7j (t2 : TypeId) (cx cy : Bool) (a0 : Int) (a1 : Int) (b0 : Int) (b1 : Int) : cW Tryz.prog .neq 152 t2 cx cy (.agg #[.int .i64 a0, .int .i64 a1]) (.agg #[.int .i64 b0, .int .i64 b1]) = some (.bool (decide (¬ (a0 = b0 ∧ a1 = b1)))) := (b5S t2 cx cy a0 a1 b0 b1).2
theorem b6y {a1 : ByteArray} : cP Tryz.prog 36 [(0, .string a1)] = some (.agg #[.string a1, .slice none 0 0, .slice none 0 0, .slice none 0 0]) := by kernel_rfl
theorem a0o {a1 : ByteArray} {a2 : Value} {a3 : Value} {a4 : Value} (h2 : a2.cells = #[a2] ∧ oneCell a2 = true ∧ gV a2 = true) (h3 : a3.cells = #[a3] ∧ oneCell a3 = true ∧ gV a3 = true) (h4 : a4.cells = #[a4] ∧ oneCell a4 = true ∧ gV a4 = true) : cP Tryz.prog 36 [(0, .string a1), (1, a2), (2, a3), (3, a4)] = some (.agg #[.string a1, a2, a3, a4]) := by cases a2 <;> cases a3 <;> cases a4 <;> first | (exfalso; simp [oneCell] at h2; done) | (exfalso; simp [oneCell] at h3; done) | (exfalso; simp [oneCell] at h4; done) | kernel_rfl
theorem b1G {a1 : Value} {a2 : Int} (h1 : a1.cells = #[a1] ∧ oneCell a1 = true ∧ gV a1 = true) : cP Tryz.prog 41 [(0, a1), (1, .int .u64 a2)] = some (.agg #[a1, .int .u64 a2, .int .u64 0]) := by cases a1 <;> first | (exfalso; simp [oneCell] at h1; done) | kernel_rfl
theorem b1j {a1 : Int} {a2 : Int} : cP Tryz.prog 41 [(1, .int .u64 a1), (2, .int .u64 a2)] = some (.agg #[.slice none 0 0, .int .u64 a1, .int .u64 a2]) := by kernel_rfl
theorem jD {a1 : Int} {a2 : Int} : cP Tryz.prog 52 [(0, .int .i64 a1), (1, .int .i64 a2)] = some (.agg #[.int .i64 a1, .int .i64 a2]) := by kernel_rfl
theorem b5G : cP Tryz.prog 70 [] = some (.agg #[.int .i64 0, .int .i64 0]) := by kernel_rfl
theorem wU {a1 : Int} {a2 : Int} : cP Tryz.prog 70 [(0, .int .i64 a1), (1, .int .i64 a2)] = some (.agg #[.int .i64 a1, .int .i64 a2]) := by kernel_rfl
theorem mR {a1 : Int} {a2 : Int} : cP Tryz.prog 88 [(0, .int .i64 a1), (1, .int .i64 a2)] = some (.agg #[.int .i64 a1, .int .i64 a2]) := by kernel_rfl
theorem a0I {a1 : ByteArray} {a2 : ByteArray} {a3 : Int} {a4 : Int} {a5 : Int} : cP Tryz.prog 91 [(0, .string a1), (1, .string a2), (2, .agg #[.int .i64 a3, .int .i64 a4]), (3, .int .i64 a5)] = some (.agg #[.string a1, .string a2, .int .i64 a3, .int .i64 a4, .int .i64 a5, .slice none 0 0]) := by kernel_rfl
theorem uS {a1 : ByteArray} {a2 : ByteArray} {a3 : Int} {a4 : Int} {a5 : Int} {a6 : Value} (h6 : a6.cells = #[a6] ∧ oneCell a6 = true ∧ gV a6 = true) : cP Tryz.prog 91 [(0, .string a1), (1, .string a2), (2, .agg #[.int .i64 a3, .int .i64 a4]), (3, .int .i64 a5), (4, a6)] = some (.agg #[.string a1, .string a2, .int .i64 a3, .int .i64 a4, .int .i64 a5, a6]) := by cases a6 <;> first | (exfalso; simp [oneCell] at h6; done) | kernel_rfl
theorem a2p {a1 : Int} {a2 : Int} {a3 : Int} : cP Tryz.prog 94 [(0, .agg #[.int .i64 a1, .int .i64 a2]), (1, .int .i64 a3)] = some (.agg #[.int .i64 a1, .int .i64 a2, .int .i64 a3]) := by kernel_rfl
theorem a9g : cP Tryz.prog 100 [] = some (.agg #[.int .u64 0, .int .u64 0]) := by kernel_rfl
theorem a8j {a1 : Int} {a2 : Int} : cP Tryz.prog 100 [(0, .int .u64 a1), (1, .int .u64 a2)] = some (.agg #[.int .u64 a1, .int .u64 a2]) := by kernel_rfl
theorem zA {a1 : Int} {a2 : Int} : cP Tryz.prog 112 [(0, .int .i64 a1), (1, .int .i64 a2)] = some (.agg #[.int .i64 a1, .int .i64 a2]) := by kernel_rfl
theorem a2l {a1 : ByteArray} {a2 : Bool} {a3 : Int} {a4 : Int} : cP Tryz.prog 115 [(0, .string a1), (1, .bool a2), (2, .agg #[.int .i64 a3, .int .i64 a4])] = some (.agg #[.string a1, .bool a2, .int .i64 a3, .int .i64 a4, .slice none 0 0]) := by kernel_rfl
theorem tA {a1 : ByteArray} {a2 : Int} {a3 : Int} {a4 : Value} (h4 : a4.cells = #[a4] ∧ oneCell a4 = true ∧ gV a4 = true) : cP Tryz.prog 115 [(0, .string a1), (2, .agg #[.int .i64 a2, .int .i64 a3]), (3, a4)] = some (.agg #[.string a1, .bool false, .int .i64 a2, .int .i64 a3, a4]) := by cases a4 <;> first | (exfalso; simp [oneCell] at h4; done) | kernel_rfl
theorem a8O {a1 : ByteArray} {a2 : Int} {a3 : Int} : cP Tryz.prog 118 [(0, .string a1), (1, .agg #[.int .i64 a2, .int .i64 a3])] = some (.agg #[.string a1, .int .i64 a2, .int .i64 a3, .slice none 0 0]) := by kernel_rfl
theorem a2v {a1 : ByteArray} {a2 : Int} {a3 : Int} {a4 : Value} (h4 : a4.cells = #[a4] ∧ oneCell a4 = true ∧ gV a4 = true) : cP Tryz.prog 118 [(0, .string a1), (1, .agg #[.int .i64 a2, .int .i64 a3]), (2, a4)] = some (.agg #[.string a1, .int .i64 a2, .int .i64 a3, a4]) := by cases a4 <;> first | (exfalso; simp [oneCell] at h4; done) | kernel_rfl
theorem a2x {a1 : ByteArray} {a2 : Int} {a3 : Int} : cP Tryz.prog 125 [(0, .string a1), (1, .int .i64 a2), (2, .int .i64 a3)] = some (.agg #[.string a1, .int .i64 a2, .int .i64 a3, .int .i64 0, .bool false]) := by kernel_rfl
theorem tJ {a1 : ByteArray} {a2 : Int} {a3 : Int} {a4 : Int} {a5 : Bool} : cP Tryz.prog 125 [(0, .string a1), (1, .int .i64 a2), (2, .int .i64 a3), (3, .int .i64 a4), (4, .bool a5)] = some (.agg #[.string a1, .int .i64 a2, .int .i64 a3, .int .i64 a4, .bool a5]) := by kernel_rfl
theorem b6T : cP Tryz.prog 150 [] = some (.agg #[.int .i64 0, .int .i64 0, .slice none 0 0]) := by kernel_rfl
theorem dC {a1 : Int} {a2 : Int} {a3 : Value} (h3 : a3.cells = #[a3] ∧ oneCell a3 = true ∧ gV a3 = true) : cP Tryz.prog 150 [(0, .int .i64 a1), (1, .int .i64 a2), (2, a3)] = some (.agg #[.int .i64 a1, .int .i64 a2, a3]) := by cases a3 <;> first | (exfalso; simp [oneCell] at h3; done) | kernel_rfl
theorem iR {a1 : Int} {a2 : Int} : cP Tryz.prog 152 [(0, .int .i64 a1), (1, .int .i64 a2)] = some (.agg #[.int .i64 a1, .int .i64 a2]) := by kernel_rfl
theorem a6Y {a1 : Value} {a2 : Int} {a3 : Int} (h1 : a1.cells = #[a1] ∧ oneCell a1 = true ∧ gV a1 = true) : cP Tryz.prog 194 [(0, a1), (1, .agg #[.int .i64 a2, .int .i64 a3])] = some (.agg #[a1, .int .i64 a2, .int .i64 a3]) := by cases a1 <;> first | (exfalso; simp [oneCell] at h1; done) | kernel_rfl
theorem a8I {a1 : Int} {a2 : Int} : cP Tryz.prog 219 [(0, .int .u64 a1), (1, .int .u64 a2)] = some (.agg #[.int .u64 a1, .int .u64 a2]) := by kernel_rfl
theorem tR3 (l : List Value) (H : Heap) : aD Tryz.prog Tryz.f3 l H = some (get l 6) := rfl
theorem c4R (l : List Value) (H : Heap) : aD Tryz.prog Tryz.f10 l H = some (get l 0) := rfl
theorem a4O (l : List Value) (H : Heap) : aD Tryz.prog Tryz.f11 l H = some (get l 2) := rfl
theorem c4F (l : List Value) (H : Heap) : aD Tryz.prog Tryz.f12 l H = hK (bN Tryz.prog 36) (aE Tryz.prog 36) H (get l 2) := by
 show (Option.bind (Option.bind (dK Tryz.prog H 36 (get l 2)) fun v => some [v]) fun vs => _) = _
 rw [dH]
 cases hK _ _ H (get l 2) <;> rfl
theorem c2I (l : List Value) (H : Heap) : aD Tryz.prog Tryz.f13 l H = hK (bN Tryz.prog 41) (aE Tryz.prog 41) H (get l 4) := by
 show (Option.bind (Option.bind (dK Tryz.prog H 41 (get l 4)) fun v => some [v]) fun vs => _) = _
 rw [dH]
 cases hK _ _ H (get l 4) <;> rfl
theorem c3L (l : List Value) (H : Heap) : aD Tryz.prog Tryz.f14 l H = some (get l 4) := rfl
theorem c1c (l : List Value) (H : Heap) : aD Tryz.prog Tryz.f15 l H = if (bZ (get l 6) && (bZ (get l 7) && true)) = true then some (.tuple #[get l 6, get l 7]) else none := rfl
theorem b7F (l : List Value) (H : Heap) : aD Tryz.prog Tryz.f16 l H = some (get l 4) := rfl
theorem c3B (l : List Value) (H : Heap) : aD Tryz.prog Tryz.f17 l H = some (get l 6) := rfl
theorem a7f (l : List Value) (H : Heap) : aD Tryz.prog Tryz.f18 l H = some (get l 4) := rfl
theorem b3b (l : List Value) (H : Heap) : aD Tryz.prog Tryz.f19 l H = some (get l 4) := rfl
theorem c0G (l : List Value) (H : Heap) : aD Tryz.prog Tryz.f20 l H = if (bZ (get l 6) && (bZ (get l 7) && true)) = true then some (.tuple #[get l 6, get l 7]) else none := rfl
theorem b6W (l : List Value) (H : Heap) : aD Tryz.prog Tryz.f26 l H = some (get l 4) := rfl
theorem xQ (l : List Value) (H : Heap) : aD Tryz.prog Tryz.f35 l H = some (get l 2) := rfl
theorem c4f (l : List Value) (H : Heap) : aD Tryz.prog Tryz.f36 l H = if (bZ (get l 6) && (bZ (get l 7) && true)) = true then some (.tuple #[get l 6, get l 7]) else none := rfl
theorem c2A (l : List Value) (H : Heap) : aD Tryz.prog Tryz.f38 l H = some (.tuple #[]) := rfl
theorem b6t (l : List Value) (H : Heap) : aD Tryz.prog Tryz.f40 l H = some (get l 4) := rfl
theorem c3H (l : List Value) (H : Heap) : aD Tryz.prog Tryz.f41 l H = hK (bN Tryz.prog 36) (aE Tryz.prog 36) H (get l 0) := by
 show (Option.bind (Option.bind (dK Tryz.prog H 36 (get l 0)) fun v => some [v]) fun vs => _) = _
 rw [dH]
 cases hK _ _ H (get l 0) <;> rfl
theorem c2Z (l : List Value) (H : Heap) : aD Tryz.prog Tryz.f42 l H = (hK (bN Tryz.prog 100) (aE Tryz.prog 100) H (get l 2)).bind fun v => if (bZ v && (bZ (get l 3) && true)) = true then some (.tuple #[v, get l 3]) else none := by
 show (Option.bind (Option.bind (dK Tryz.prog H 100 (get l 2)) fun v => some [v, get l 3]) fun vs => _) = _
 rw [dH]
 cases hK _ _ H (get l 2) <;> rfl
theorem c2t (l : List Value) (H : Heap) : aD Tryz.prog Tryz.f43 l H = hK (bN Tryz.prog 91) (aE Tryz.prog 91) H (get l 4) := by
 show (Option.bind (Option.bind (dK Tryz.prog H 91 (get l 4)) fun v => some [v]) fun vs => _) = _
 rw [dH]
 cases hK _ _ H (get l 4) <;> rfl
theorem a5e (l : List Value) (H : Heap) : aD Tryz.prog Tryz.f44 l H = hK (bN Tryz.prog 118) (aE Tryz.prog 118) H (get l 8) := by
 show (Option.bind (Option.bind (dK Tryz.prog H 118 (get l 8)) fun v => some [v]) fun vs => _) = _
 rw [dH]
 cases hK _ _ H (get l 8) <;> rfl
theorem c0X (l : List Value) (H : Heap) : aD Tryz.prog Tryz.f45 l H = some (get l 6) := rfl
theorem c4L (l : List Value) (H : Heap) : aD Tryz.prog Tryz.f46 l H = some (get l 6) := rfl
theorem c3i (l : List Value) (H : Heap) : aD Tryz.prog Tryz.f47 l H = some (get l 2) := rfl
theorem c3l (l : List Value) (H : Heap) : aD Tryz.prog Tryz.f48 l H = some (get l 4) := rfl
theorem c4m (l : List Value) (H : Heap) : aD Tryz.prog Tryz.f49 l H = some (get l 6) := rfl
theorem c4y (l : List Value) (H : Heap) : aD Tryz.prog Tryz.f50 l H = some (get l 4) := rfl
theorem c1B (l : List Value) (H : Heap) : aD Tryz.prog Tryz.f52 l H = some (get l 4) := rfl
theorem c3o (l : List Value) (H : Heap) : aD Tryz.prog Tryz.f53 l H = (hK (bN Tryz.prog 100) (aE Tryz.prog 100) H (get l 2)).bind fun v => if (bZ v && (bZ (get l 3) && true)) = true then some (.tuple #[v, get l 3]) else none := by
 show (Option.bind (Option.bind (dK Tryz.prog H 100 (get l 2)) fun v => some [v, get l 3]) fun vs => _) = _
 rw [dH]
 cases hK _ _ H (get l 2) <;> rfl
theorem c2Q (l : List Value) (H : Heap) : aD Tryz.prog Tryz.f54 l H = some (get l 4) := rfl
theorem c3T (l : List Value) (H : Heap) : aD Tryz.prog Tryz.f55 l H = some (get l 6) := rfl
theorem c4g (l : List Value) (H : Heap) : aD Tryz.prog Tryz.f57 l H = some (get l 2) := rfl
theorem b7I (l : List Value) (H : Heap) : aD Tryz.prog Tryz.f64 l H = some (get l 2) := rfl
theorem c3Z (l : List Value) (H : Heap) : aD Tryz.prog Tryz.f66 l H = some (get l 6) := rfl
theorem a9u (l : List Value) (H : Heap) : aD Tryz.prog Tryz.f67 l H = some (get l 4) := rfl
theorem b3j (l : List Value) (H : Heap) : aD Tryz.prog Tryz.f69 l H = some (get l 4) := rfl
theorem a6Q (l : List Value) (H : Heap) : aD Tryz.prog Tryz.f73 l H = some (get l 2) := rfl
theorem a5O (l : List Value) (H : Heap) : aD Tryz.prog Tryz.f74 l H = some (get l 2) := rfl
theorem c0P (l : List Value) (H : Heap) : aD Tryz.prog Tryz.f75 l H = some (get l 4) := rfl
theorem a9V (l : List Value) (H : Heap) : aD Tryz.prog Tryz.f76 l H = some (get l 4) := rfl
theorem sE (l : List Value) (H : Heap) : aD Tryz.prog Tryz.f77 l H = some (get l 4) := rfl
theorem c4O (l : List Value) (H : Heap) : aD Tryz.prog Tryz.f78 l H = if (bZ (get l 4) && (bZ (get l 5) && true)) = true then some (.tuple #[get l 4, get l 5]) else none := rfl
theorem b8m (l : List Value) (H : Heap) : aD Tryz.prog Tryz.f80 l H = some (get l 4) := rfl
theorem c2O (l : List Value) (H : Heap) : aD Tryz.prog Tryz.f82 l H = some (.tuple #[]) := rfl
theorem c2S (l : List Value) (H : Heap) : aD Tryz.prog Tryz.f83 l H = some (get l 6) := rfl
theorem c2z (l : List Value) (H : Heap) : aD Tryz.prog Tryz.f84 l H = hK (bN Tryz.prog 91) (aE Tryz.prog 91) H (get l 2) := by
 show (Option.bind (Option.bind (dK Tryz.prog H 91 (get l 2)) fun v => some [v]) fun vs => _) = _
 rw [dH]
 cases hK _ _ H (get l 2) <;> rfl
theorem c2X (l : List Value) (H : Heap) : aD Tryz.prog Tryz.f85 l H = some (get l 2) := rfl
theorem c1T (l : List Value) (H : Heap) : aD Tryz.prog Tryz.f86 l H = hK (bN Tryz.prog 100) (aE Tryz.prog 100) H (get l 4) := by
 show (Option.bind (Option.bind (dK Tryz.prog H 100 (get l 4)) fun v => some [v]) fun vs => _) = _
 rw [dH]
 cases hK _ _ H (get l 4) <;> rfl
theorem c3C (l : List Value) (H : Heap) : aD Tryz.prog Tryz.f87 l H = hK (bN Tryz.prog 88) (aE Tryz.prog 88) H (get l 2) := by
 show (Option.bind (Option.bind (dK Tryz.prog H 88 (get l 2)) fun v => some [v]) fun vs => _) = _
 rw [dH]
 cases hK _ _ H (get l 2) <;> rfl
theorem c3N (l : List Value) (H : Heap) : aD Tryz.prog Tryz.f88 l H = hK (bN Tryz.prog 88) (aE Tryz.prog 88) H (get l 2) := by
 show (Option.bind (Option.bind (dK Tryz.prog H 88 (get l 2)) fun v => some [v]) fun vs => _) = _
 rw [dH]
 cases hK _ _ H (get l 2) <;> rfl
theorem b6N (l : List Value) (H : Heap) : aD Tryz.prog Tryz.f89 l H = some (get l 4) := rfl
theorem c1o (l : List Value) (H : Heap) : aD Tryz.prog Tryz.f90 l H = some (.tuple #[]) := rfl
theorem c3R (l : List Value) (H : Heap) : aD Tryz.prog Tryz.f91 l H = some (get l 4) := rfl
theorem b8B (l : List Value) (H : Heap) : aD Tryz.prog Tryz.f92 l H = some (get l 2) := rfl
theorem c3g (l : List Value) (H : Heap) : aD Tryz.prog Tryz.f93 l H = some (.tuple #[]) := rfl
theorem c1m (l : List Value) (H : Heap) : aD Tryz.prog Tryz.f94 l H = some (get l 4) := rfl
theorem b3a (l : List Value) (H : Heap) : aD Tryz.prog Tryz.f97 l H = some (get l 2) := rfl
theorem c3n (l : List Value) (H : Heap) : aD Tryz.prog Tryz.f98 l H = hK (bN Tryz.prog 100) (aE Tryz.prog 100) H (get l 4) := by
 show (Option.bind (Option.bind (dK Tryz.prog H 100 (get l 4)) fun v => some [v]) fun vs => _) = _
 rw [dH]
 cases hK _ _ H (get l 4) <;> rfl
theorem b9H (l : List Value) (H : Heap) : aD Tryz.prog Tryz.f100 l H = some (get l 4) := rfl
theorem b9u (l : List Value) (H : Heap) : aD Tryz.prog Tryz.f101 l H = some (get l 2) := rfl
theorem c2i (l : List Value) (H : Heap) : aD Tryz.prog Tryz.f102 l H = some (get l 2) := rfl
theorem b9o (l : List Value) (H : Heap) : aD Tryz.prog Tryz.f106 l H = some (get l 6) := rfl
theorem a3o (l : List Value) (H : Heap) : aD Tryz.prog Tryz.f107 l H = some (get l 2) := rfl
theorem a3n (l : List Value) (H : Heap) : aD Tryz.prog Tryz.f108 l H = some (get l 2) := rfl
theorem b5v (l : List Value) (H : Heap) : aD Tryz.prog Tryz.f109 l H = some (get l 2) := rfl
theorem b5A (l : List Value) (H : Heap) : aD Tryz.prog Tryz.f110 l H = some (get l 2) := rfl
theorem lQ (l : List Value) (H : Heap) : aD Tryz.prog Tryz.f111 l H = some (get l 4) := rfl
theorem c1R (l : List Value) (H : Heap) : aD Tryz.prog Tryz.f112 l H = some (get l 4) := rfl
theorem c0l (l : List Value) (H : Heap) : aD Tryz.prog Tryz.f113 l H = some (get l 3) := rfl
theorem b5H (l : List Value) (H : Heap) : aD Tryz.prog Tryz.f114 l H = some (get l 4) := rfl
theorem c1h (l : List Value) (H : Heap) : aD Tryz.prog Tryz.f115 l H = some (get l 4) := rfl
theorem c2j (l : List Value) (H : Heap) : aD Tryz.prog Tryz.f116 l H = some (get l 2) := rfl
theorem c1b (l : List Value) (H : Heap) : aD Tryz.prog Tryz.f120 l H = some (.tuple #[]) := rfl
theorem c0B (l : List Value) (H : Heap) : aD Tryz.prog Tryz.f122 l H = some (get l 4) := rfl
theorem b5F (l : List Value) (H : Heap) : aD Tryz.prog Tryz.f123 l H = some (get l 2) := rfl
theorem c1Y (l : List Value) (H : Heap) : aD Tryz.prog Tryz.f134 l H = some (get l 4) := rfl
theorem c1p (l : List Value) (H : Heap) : aD Tryz.prog Tryz.f135 l H = some (.tuple #[]) := rfl
theorem c1C (l : List Value) (H : Heap) : aD Tryz.prog Tryz.f136 l H = some (get l 2) := rfl
theorem b5t (l : List Value) (H : Heap) : aD Tryz.prog Tryz.f145 l H = hK (bN Tryz.prog 150) (aE Tryz.prog 150) H (get l 4) := by
 show (Option.bind (Option.bind (dK Tryz.prog H 150 (get l 4)) fun v => some [v]) fun vs => _) = _
 rw [dH]
 cases hK _ _ H (get l 4) <;> rfl
theorem a6a (l : List Value) (H : Heap) : aD Tryz.prog Tryz.f146 l H = (hK (bN Tryz.prog 70) (aE Tryz.prog 70) H (get l 6)).bind fun v => if (bZ v && (bZ (get l 7) && true)) = true then some (.tuple #[v, get l 7]) else none := by
 show (Option.bind (Option.bind (dK Tryz.prog H 70 (get l 6)) fun v => some [v, get l 7]) fun vs => _) = _
 rw [dH]
 cases hK _ _ H (get l 6) <;> rfl
theorem b9C (l : List Value) (H : Heap) : aD Tryz.prog Tryz.f147 l H = some (get l 2) := rfl
theorem zH (l : List Value) (H : Heap) : aD Tryz.prog Tryz.f148 l H = some (get l 2) := rfl
theorem b9G (l : List Value) (H : Heap) : aD Tryz.prog Tryz.f149 l H = some (get l 4) := rfl
theorem b5y (l : List Value) (H : Heap) : aD Tryz.prog Tryz.f150 l H = some (get l 2) := rfl
theorem a9y (l : List Value) (H : Heap) : aD Tryz.prog Tryz.f151 l H = some (get l 2) := rfl
theorem wP (l : List Value) (H : Heap) : aD Tryz.prog Tryz.f152 l H = some (get l 4) := rfl
theorem b5E (l : List Value) (H : Heap) : aD Tryz.prog Tryz.f153 l H = some (get l 4) := rfl
theorem b6f (l : List Value) (H : Heap) : aD Tryz.prog Tryz.f177 l H = some (get l 4) := rfl
theorem b5X (l : List Value) (H : Heap) : aD Tryz.prog Tryz.f178 l H = some (get l 3) := rfl
theorem b9W (l : List Value) (H : Heap) : aD Tryz.prog Tryz.f179 l H = some (get l 4) := rfl
theorem b9s (l : List Value) (H : Heap) : aD Tryz.prog Tryz.f180 l H = some (get l 4) := rfl
theorem b6c (l : List Value) (H : Heap) : aD Tryz.prog Tryz.f181 l H = some (get l 2) := rfl
theorem b6g (l : List Value) (H : Heap) : aD Tryz.prog Tryz.f182 l H = some (get l 4) := rfl
theorem c2k (l : List Value) (H : Heap) : aD Tryz.prog Tryz.f183 l H = some (get l 4) := rfl
theorem b5T (l : List Value) (H : Heap) : aD Tryz.prog Tryz.f205 l H = some (get l 4) := rfl
theorem a2t : MapK Tryz.prog 158 Value.string (.bool false) := MapK.str (kt := 9) (et := 4) (by kernel_rfl) (by kernel_rfl) (by kernel_rfl) rfl
theorem a2i : MapK Tryz.prog 173 (fun p : Int × Int => .agg #[I p.1, I p.2]) (.bool false) := MapK.struct (kt := 52) (et := 4) (fs := (lV Tryz.prog 52).toArray) (by kernel_rfl) (by kernel_rfl) (by kernel_rfl) rfl (fun b k => by cases b <;> kernel_rfl) (fun a b => b8q (by kernel_rfl) (by kernel_rfl) (by kernel_rfl) (fun _ _ _ _ => by kernel_rfl) a b) (fun k => b6Z k)
def TS :=
 And.intro (And.intro (And.intro (And.intro (And.intro (And.intro (And.intro (@tA3) (And.intro @tS3 @tA4)) (And.intro (And.intro @tS4 @tA5) (And.intro @tS5 @tA9))) (And.intro (And.intro (@tS9) (And.intro @c3c @c2v)) (And.intro (And.intro @c2w @c4w) (And.intro @c2G @c3d)))) (And.intro (And.intro (And.intro (@c4C) (And.intro @b4f @c3a)) (And.intro (And.intro @b6R @c3r) (And.intro @c4j @c2M))) (And.intro (And.intro (And.intro @b8n @c4A) (And.intro @c1A @c3J)) (And.intro (And.intro @c1l @c2C) (And.intro @b3B @c4p))))) (And.intro (And.intro (And.intro (And.intro (@fH) (And.intro @c3z @c0N)) (And.intro (And.intro @c3j @b3Y) (And.intro @c2Y @jU))) (And.intro (And.intro (And.intro @c4k @a4L) (And.intro @c2J @gC)) (And.intro (And.intro @c4I @oU) (And.intro @c3M @rC)))) (And.intro (And.intro (And.intro (@c2U) (And.intro @b5i @c3y)) (And.intro (And.intro @pD @c2x) (And.intro @c4E @c1O))) (And.intro (And.intro (And.intro @dE @c1U) (And.intro @b9j @b8Y)) (And.intro (And.intro @a6x @c0p) (And.intro @c0M @b9z)))))) (And.intro (And.intro (And.intro (And.intro (And.intro (@b0d) (And.intro @c2b @lN)) (And.intro (And.intro @b9a @b5Y) (And.intro @c0v @lP))) (And.intro (And.intro (@b9d) (And.intro @nV @b8W)) (And.intro (And.intro @gF @c0O) (And.intro @b0h @c1g)))) (And.intro (And.intro (And.intro (@a6n) (And.intro @c0T @lI)) (And.intro (And.intro @c1Z @c1z) (And.intro @b9Y @vM))) (And.intro (And.intro (And.intro @c1s @tC) (And.intro @c0D @b1V)) (And.intro (And.intro @c0g @a6B) (And.intro @c4v @c3w))))) (And.intro (And.intro (And.intro (And.intro (@c4n) (And.intro @c4r @c3b)) (And.intro (And.intro @c2r @c4T) (And.intro @c3Q @c4z))) (And.intro (And.intro (And.intro @c3m @c4B) (And.intro @b6O @b9B)) (And.intro (And.intro @c0Y @c0L) (And.intro @c0Q @c0j)))) (And.intro (And.intro (And.intro (@c1u) (And.intro @c0U @b9t)) (And.intro (And.intro @c1G @c2B) (And.intro @c3Y @b9k))) (And.intro (And.intro (And.intro @c2u @c4a) (And.intro @c3K @c2q)) (And.intro (And.intro @c4c @c4D) (And.intro @c4s @c2T))))))) (And.intro (And.intro (And.intro (And.intro (And.intro (And.intro (@c4i) (And.intro @c1q @b9D)) (And.intro (And.intro @b8Q @c0b) (And.intro @c1E @b9K))) (And.intro (And.intro (@c1d) (And.intro @c1i @tL9)) (And.intro (And.intro @tT9 @b7o) (And.intro @b7x @b6k)))) (And.intro (And.intro (And.intro (@b8x) (And.intro @b7W @b6v)) (And.intro (And.intro @b7T @b8l) (And.intro @b8y @b8f))) (And.intro (And.intro (And.intro @b8u @b6o) (And.intro @b7M @b7m)) (And.intro (And.intro @b8t @b6Q) (And.intro @b8w @b7N))))) (And.intro (And.intro (And.intro (And.intro (@b7q) (And.intro @b7h @b6G)) (And.intro (And.intro @b2D @b3e) (And.intro @b3v @b4K))) (And.intro (And.intro (And.intro @b3R @b2m) (And.intro @b4d @b2g)) (And.intro (And.intro @b5l @b3y) (And.intro @b4W @b3E)))) (And.intro (And.intro (And.intro (@b2h) (And.intro @b3i @b4w)) (And.intro (And.intro @b4G @b3P) (And.intro @b2M @b3C))) (And.intro (And.intro (And.intro @b5g @b3s) (And.intro @b5h @b3S)) (And.intro (And.intro @b2w @b2r) (And.intro @b2n @b2o)))))) (And.intro (And.intro (And.intro (And.intro (And.intro (@b4k) (And.intro @b2l @b4e)) (And.intro (And.intro @b5j @b2y) (And.intro @b2E @b4O))) (And.intro (And.intro (@b2V) (And.intro @b4J @b2j)) (And.intro (And.intro @b2X @b5e) (And.intro @c3U @c4q)))) (And.intro (And.intro (And.intro (@c2V) (And.intro @c4P @c2E)) (And.intro (And.intro @c4J @c3P) (And.intro @c2K @c4H))) (And.intro (And.intro (And.intro @c3D @c2N) (And.intro @c4N @c3X)) (And.intro (And.intro @c3t @b9h) (And.intro @c1e @c1D))))) (And.intro (And.intro (And.intro (And.intro (@c1N) (And.intro @c2a @c1t)) (And.intro (And.intro @c0S @c0h) (And.intro @b9M @b9I))) (And.intro (And.intro (And.intro @b8P @b9V) (And.intro @b8R @c1y)) (And.intro (And.intro @b9E @c1j) (And.intro @b9c @b9R)))) (And.intro (And.intro (And.intro (@b9F) (And.intro @c1n @tI3)) (And.intro (And.intro @tI5 @c3h) (And.intro @c4Q @c1S))) (And.intro (And.intro (And.intro @b9T @c0Z) (And.intro @c0r @b8X)) (And.intro (And.intro @b7G @b6V) (And.intro @b7S @b7j)))))))
def RZ := And.intro @RB (And.intro @RC @TS)
end Go.Ds
namespace Go.Ds
open Go.Proofs
variable {P : Program} {H : Heap}
structure Drw where
 rank : Int
 shift : Int
 deriving DecidableEq, Inhabited
structure Seg where
 lo : Int
 hi : Int
 dv : Value
 draws : List Drw
 deriving Inhabited
structure Stp where
 name : ByteArray
 num : Int
 den : Int
 gv : Value
 segs : List Seg
 deriving Inhabited
structure Dvn where
 name : ByteArray
 pedal : Bool
 lo : Int
 hi : Int
 sv : Value
 stops : List Stp
 deriving Inhabited
structure Rk where
 name : ByteArray
 tone : ByteArray
 num : Int
 den : Int
 first : Int
 wv : Value
 wind : List Int
 deriving Inhabited
structure Cpl where
 name : ByteArray
 src : Int
 dst : Int
 shift : Int
 thr : Bool
 deriving Inhabited
structure Org where
 name : ByteArray
 rv : Value
 ranks : List Rk
 dv : Value
 dvs : List Dvn
 cv : Value
 cpls : List Cpl
 deriving Inhabited
def Drw.cells (d : Drw) : List Value := [I d.rank, I d.shift]
def Seg.cells (s : Seg) : List Value := [I s.lo, I s.hi, s.dv]
def Stp.cells (s : Stp) : List Value := [.string s.name, I s.num, I s.den, s.gv]
def Dvn.cells (d : Dvn) : List Value := [.string d.name, .bool d.pedal, I d.lo, I d.hi, d.sv]
def Rk.cells (r : Rk) : List Value := [.string r.name, .string r.tone, I r.num, I r.den, I r.first, r.wv]
def Cpl.cells (c : Cpl) : List Value := [.string c.name, I c.src, I c.dst, I c.shift, .bool c.thr]
def Org.cells (o : Org) : List Value := [.string o.name, o.rv, o.dv, o.cv]
def Seg.In (H : Heap) (s : Seg) : Prop := Sl 2 Drw.cells H s.dv s.draws ∧ s.draws.length < 1000000000
def Stp.In (H : Heap) (s : Stp) : Prop := Sl 3 Seg.cells H s.gv s.segs ∧ (∀ g ∈ s.segs, g.In H) ∧ s.segs.length < 1000000000
def Dvn.In (H : Heap) (d : Dvn) : Prop := Sl 4 Stp.cells H d.sv d.stops ∧ (∀ s ∈ d.stops, s.In H) ∧ d.stops.length < 1000000000
def Rk.In (H : Heap) (r : Rk) : Prop := Sl 1 (one I) H r.wv r.wind ∧ r.wind.length < 1000000000
def Org.In (H : Heap) (o : Org) : Prop := Sl 6 Rk.cells H o.rv o.ranks ∧ (∀ r ∈ o.ranks, r.In H) ∧ Sl 5 Dvn.cells H o.dv o.dvs ∧ (∀ d ∈ o.dvs, d.In H) ∧ Sl 5 Cpl.cells H o.cv o.cpls ∧ o.ranks.length < 1000000000 ∧ o.dvs.length < 1000000000 ∧ o.cpls.length < 1000000000
section
variable {H0 : Heap} {os : List Ob}
theorem Seg.In.keep {s : Seg} (h : s.In H0) (hS : St P H0 H os) : s.In H := ⟨hS.sl h.1, h.2⟩
theorem Stp.In.keep {s : Stp} (h : s.In H0) (hS : St P H0 H os) : s.In H := ⟨hS.sl h.1, fun g hg => (h.2.1 g hg).keep hS, h.2.2⟩
theorem Dvn.In.keep {d : Dvn} (h : d.In H0) (hS : St P H0 H os) : d.In H := ⟨hS.sl h.1, fun g hg => (h.2.1 g hg).keep hS, h.2.2⟩
theorem Rk.In.keep {r : Rk} (h : r.In H0) (hS : St P H0 H os) : r.In H := ⟨hS.sl h.1, h.2⟩
theorem Org.In.keep {o : Org} (h : o.In H0) (hS : St P H0 H os) : o.In H := ⟨hS.sl h.1, fun r hr => (h.2.1 r hr).keep hS, hS.sl h.2.2.1, fun d hd => (h.2.2.2.1 d hd).keep hS, hS.sl h.2.2.2.2.1, h.2.2.2.2.2⟩
end
def c1x (n : Int) : Prop := -9223372036854775808 ≤ n ∧ n < 9223372036854775808
end Go.Ds
namespace Go.Ds
open Go.Proofs
variable {H : Heap}
def iF (b : Int) : Bool := (decide (65 ≤ b) && decide (b ≤ 90)) || (decide (97 ≤ b) && decide (b ≤ 122))
theorem zD (b : Int) : Fn Tryz.prog 107 [.int .u8 b] H fun r H' => r = .bool (iF b) ∧ St Tryz.prog H H' [] := by
 refine Fn.of_sw Tryz.func107 rfl (by kernel_rfl) fun l hl => ?_
 have hn : l.length = 17 := by rw [hl]; rfl
 have g0 : get l 0 = (.int .u8 b) := by rw [hl]; rfl
 clear hl
 simp (disch := omega) only [↓RA, RZ, simprocAttr, hn, g0]
 refine bH (fun h1 => ?_) (fun h1 => ?_)
 ·simp (disch := omega) only [↓RA, RZ, simprocAttr, hn, g0, h1]
  refine aK (fun h2 => ?_) (fun h2 => ?_)
  ·simp (disch := omega) only [↓RA, RZ, simprocAttr, hn, a3o, h1, h2]
   first | exact (St.refl Tryz.prog H) | exact ⟨by simp [iF, h1, h2], (St.refl Tryz.prog H)⟩
  simp (disch := omega) only [↓RA, RZ, simprocAttr, hn, g0, h1, h2]
  refine bH (fun h3 => ?_) (fun h3 => ?_)
  ·simp (disch := omega) only [↓RA, RZ, simprocAttr, hn, g0, a3o, h1, h2, h3]
   first | exact (St.refl Tryz.prog H) | exact ⟨by simp [iF, h1, h2, h3], (St.refl Tryz.prog H)⟩
  simp (disch := omega) only [↓RA, RZ, simprocAttr, hn, a3o, h1, h2, h3]
  first | exact (St.refl Tryz.prog H) | exact ⟨by simp [iF, h1, h2, h3], (St.refl Tryz.prog H)⟩
 simp (disch := omega) only [↓RA, RZ, simprocAttr, hn, g0, h1]
 refine bH (fun h4 => ?_) (fun h4 => ?_)
 ·simp (disch := omega) only [↓RA, RZ, simprocAttr, hn, g0, a3o, h1, h4]
  first | exact (St.refl Tryz.prog H) | exact ⟨by simp [iF, h1, h4], (St.refl Tryz.prog H)⟩
 simp (disch := omega) only [↓RA, RZ, simprocAttr, hn, a3o, h1, h4]
 first | exact (St.refl Tryz.prog H) | exact ⟨by simp [iF, h1, h4], (St.refl Tryz.prog H)⟩
theorem b0b (b : Int) : Fn Tryz.prog 109 [I b] H fun r H' => r = .bool (decide (-256 ≤ b) && decide (b ≤ 256)) ∧ St Tryz.prog H H' [] := by
 refine Fn.of_sw Tryz.func109 rfl (by kernel_rfl) fun l hl => ?_
 have hn : l.length = 9 := by rw [hl]; rfl
 have g0 : get l 0 = I b := by rw [hl]; rfl
 clear hl
 simp (disch := omega) only [↓RA, RZ, simprocAttr, hn, g0]
 refine bH (fun h1 => ?_) (fun h1 => ?_)
 ·simp (disch := omega) only [↓RA, RZ, simprocAttr, hn, g0, b5v, h1]
  first | exact (St.refl Tryz.prog H) | exact ⟨by simp [h1], (St.refl Tryz.prog H)⟩
 simp (disch := omega) only [↓RA, RZ, simprocAttr, hn, b5v, h1]
 first | exact (St.refl Tryz.prog H) | exact ⟨by simp [], (St.refl Tryz.prog H)⟩
theorem b0s (b : Int) : Fn Tryz.prog 150 [I b] H fun r H' => r = .bool (decide (b < 0) || decide (1000000 < b)) ∧ St Tryz.prog H H' [] := by
 refine Fn.of_sw Tryz.func150 rfl (by kernel_rfl) fun l hl => ?_
 have hn : l.length = 9 := by rw [hl]; rfl
 have g0 : get l 0 = I b := by rw [hl]; rfl
 clear hl
 simp (disch := omega) only [↓RA, RZ, simprocAttr, hn, g0]
 refine aK (fun h1 => ?_) (fun h1 => ?_)
 ·simp (disch := omega) only [↓RA, RZ, simprocAttr, hn, b5y, h1]
  first | exact (St.refl Tryz.prog H) | exact ⟨by simp [], (St.refl Tryz.prog H)⟩
 simp (disch := omega) only [↓RA, RZ, simprocAttr, hn, g0, b5y, h1]
 first | exact (St.refl Tryz.prog H) | exact ⟨by simp [], (St.refl Tryz.prog H)⟩
end Go.Ds
namespace Go.Ds
open Go.Proofs
variable {H : Heap}
theorem a1f (n : Int) (h : -9223372036854775808 ≤ n) (h0 : n < 0) : IntKind.wrap .u64 (0 - IntKind.wrap .u64 n) = n.natAbs := by
 have e : ∀ m : Int, IntKind.wrap .u64 m = m % 18446744073709551616 := fun m => by
  show (if (false && decide (m % 18446744073709551616 ≥ 9223372036854775808)) = true then m % 18446744073709551616 - 18446744073709551616 else m % 18446744073709551616) = _
  simp
 rw [e, e]
 omega
theorem a0H (n : Int) (hn0 : c1x n) : Fn Tryz.prog 181 [I n] H fun r H' => r = .int .u64 n.natAbs ∧ St Tryz.prog H H' [] := by
 refine Fn.of_sw Tryz.func181 rfl (by kernel_rfl) fun l hl => ?_
 have hn : l.length = 10 := by rw [hl]; rfl
 have g0 : get l 0 = I n := by rw [hl]; rfl
 clear hl
 simp (disch := omega) only [↓RA, RB, simprocAttr, hn, g0]
 refine aA (fun h => ?_) (fun h => ?_)
 ·simp (disch := omega) only [↓RA, RZ, simprocAttr, hn, g0, b6c, h]
  exact ⟨by rw [a1f n hn0.1 h], (St.refl Tryz.prog H)⟩
 simp (disch := omega) only [↓RA, RZ, simprocAttr, hn, g0, b6c, h]
 refine ⟨?_, (St.refl Tryz.prog H)⟩
 have := hn0.2
 rw [fP n (by omega) (by omega)]
 congr 1
 omega
theorem b7g (a b : Nat) (ha : a < 18446744073709551616) (hb : b < 18446744073709551616) : Fn Tryz.prog 180 [.int .u64 a, .int .u64 b] H fun r H' => r = .int .u64 (Nat.gcd a b) ∧ St Tryz.prog H H' [] := by
 refine Fn.of_sw Tryz.func180 rfl (by kernel_rfl) fun l hl => ?_
 have hn : l.length = 12 := by rw [hl]; rfl
 have g0 : get l 0 = (.int .u64 a) := by rw [hl]; rfl
 have g1 : get l 1 = (.int .u64 b) := by rw [hl]; rfl
 clear hl
 simp (disch := omega) only [↓RA, RB, simprocAttr]
 refine Wp.loopS (fun n l H' => l.length = 12 ∧ get l 4 = (.int .u64 0) ∧ ∃ (x y : Nat), (n = y ∧ x < 18446744073709551616 ∧ y < 18446744073709551616 ∧ Nat.gcd a b = Nat.gcd x y) ∧ get l 0 = (.int .u64 x) ∧ get l 1 = (.int .u64 y) ∧ St Tryz.prog H H' []) b ?_ ?_
 ·simp (disch := omega) only [RB, RC, simprocAttr, hn, g0, g1]
  exact ⟨a, b, ⟨rfl, ha, hb, rfl⟩, rfl, rfl, (St.refl Tryz.prog H)⟩
 rintro n l H1 ⟨hn, g4, x, y, ⟨hy,hx1,hy1,hg⟩, g0, g1, hS1⟩
 simp (disch := omega) only [↓RA, RB, simprocAttr, hn, g1]
 refine aA (fun h => ?_) (fun h => ?_)
 ·simp (disch := omega) only [↓RA, RC, simprocAttr, h]
  refine Wp.drw cB (by kernel_rfl) ?_
  simp (disch := omega) only [↓RA, RZ, simprocAttr, hn, g4, g0, g1]
  refine ⟨x % y, ?_, y, x % y, ⟨rfl, hy1, ?_, ?_⟩, rfl, ?_, hS1⟩
  ·rw [hy]; exact Nat.mod_lt _ (by omega)
  ·exact Nat.lt_of_lt_of_le (Nat.mod_lt _ (by omega)) (by omega)
  ·rw [hg, Nat.gcd_comm x y, Nat.gcd_rec]
   exact Nat.gcd_comm _ _
  ·rw [Int.ofNat_tmod]
 simp (disch := omega) only [↓RA, RZ, simprocAttr, hn, g0, b9s, h]
 have h0 : y = 0 := by omega
 subst h0
 exact ⟨by rw [hg, Nat.gcd_zero_right], hS1⟩
end Go.Ds
namespace Go.Ds
open Go.Proofs
variable {H : Heap}
theorem b4M (a b : Int) (ha0 : 0 ≤ a) (ha : a < 18446744073709551616) (hb0 : 0 ≤ b) (hb : b < 18446744073709551616) : Fn Tryz.prog 180 [.int .u64 a, .int .u64 b] H fun r H' => r = .int .u64 (Nat.gcd a.toNat b.toNat) ∧ St Tryz.prog H H' [] := by
 have := b7g (H := H) a.toNat b.toNat (by omega) (by omega)
 rwa [Int.toNat_of_nonneg ha0, Int.toNat_of_nonneg hb0] at this
def nS (num den : Int) : Int := if 0 < den ∧ den ≤ 1000000 ∧ -1000000 ≤ num ∧ num ≤ 1000000 ∧ Nat.gcd num.natAbs den.toNat = 1 then 0 else 2
theorem b4S (num den : Int) : Fn Tryz.prog 148 [.agg #[I num, I den]] H fun r H' => r = I (nS num den) ∧ St Tryz.prog H H' [] := by
 refine Fn.of_sw Tryz.func148 rfl (by kernel_rfl) fun l hl => ?_
 have hn : l.length = 31 := by rw [hl]; rfl
 have g0 : get l 0 = (.agg #[I num, I den]) := by rw [hl]; rfl
 clear hl
 simp (disch := omega) only [↓RA, RB, simprocAttr, g0]
 refine (St.refl Tryz.prog H).eNew 2 [I num, I den] rfl rfl rfl rC fun A1 H1 hS1 => ?_
 simp only [RT] at hS1
 simp (disch := omega) only [↓RA, RB, simprocAttr]
 refine Wp.drwT cB [(23, 0), (24, 0)] (by kernel_rfl) (by kernel_rfl) ?_
 simp (disch := omega) only [↓RA, RZ, simprocAttr, hn, hS1.ld 0 rfl]
 refine aK (fun h1 => ?_) (fun h1 => ?_)
 ·simp (disch := omega) only [↓RA, RZ, simprocAttr, hn, zH, h1]
  refine ⟨?_, hS1.forget⟩; unfold nS; (repeat' split); all_goals first | rfl | omega
 simp (disch := omega) only [↓RA, RZ, simprocAttr, hn, hS1.ld 0 rfl, h1]
 refine aK (fun h2 => ?_) (fun h2 => ?_)
 ·simp (disch := omega) only [↓RA, RZ, simprocAttr, hn, zH, h1, h2]
  refine ⟨?_, hS1.forget⟩; unfold nS; (repeat' split); all_goals first | rfl | omega
 simp (disch := omega) only [↓RA, RZ, simprocAttr, hn, hS1.ld 0 rfl, h1, h2]
 refine aK (fun h3 => ?_) (fun h3 => ?_)
 ·simp (disch := omega) only [↓RA, RZ, simprocAttr, hn, zH, h1, h2, h3]
  refine ⟨?_, hS1.forget⟩; unfold nS; (repeat' split); all_goals first | rfl | omega
 simp (disch := omega) only [↓RA, RZ, simprocAttr, hn, hS1.ld 0 rfl, h1, h2, h3]
 refine aK (fun h4 => ?_) (fun h4 => ?_)
 ·simp (disch := omega) only [↓RA, RZ, simprocAttr, hn, zH, h1, h2, h3, h4]
  refine ⟨?_, hS1.forget⟩; unfold nS; (repeat' split); all_goals first | rfl | omega
 simp (disch := omega) only [↓RA, RZ, simprocAttr, hn, hS1.ld 0 rfl, h1, h2, h3, h4]
 refine aB (a0H num ⟨by omega, by omega⟩) ?_
 rintro r H2 ⟨rfl, hT1⟩
 have hS2 := hS1.trans hT1
 simp only [RT] at hS2
 simp (disch := omega) only [↓RA, RZ, simprocAttr, hn, hS2.ld 0 rfl, h1, h2, h3, h4]
 refine aB (b4M _ _ (by omega) (by omega) (by omega) (by omega)) ?_
 rintro r H3 ⟨rfl, hT2⟩
 have hS3 := hS2.trans hT2
 simp only [RT] at hS3
 simp (disch := omega) only [↓RA, RZ, simprocAttr, hn, hS1.ld 0 rfl, h1, h2, h3, h4]
 refine aA (fun h5 => ?_) (fun h5 => ?_)
 ·simp (disch := omega) only [↓RA, RZ, simprocAttr, hn, zH, h1, h2, h3, h4, h5]
  refine ⟨?_, hS3.forget⟩; unfold nS; (repeat' split); all_goals first | rfl | omega
 simp (disch := omega) only [↓RA, RZ, simprocAttr, hn, zH, h1, h2, h3, h4, h5]
 refine ⟨?_, hS3.forget⟩; unfold nS; (repeat' split); all_goals first | rfl | omega
def gA (num den : Int) : Int := if nS num den ≠ 0 then 2 else if num ≤ 0 ∨ 128 * den < num then 3 else if 128 < den then 4 else 0
theorem b1B {num den : Int} (h : nS num den = 0) : 0 < den ∧ den ≤ 1000000 ∧ -1000000 ≤ num ∧ num ≤ 1000000 ∧ Nat.gcd num.natAbs den.toNat = 1 := by
 unfold nS at h
 split at h
 ·assumption
 ·cases h
theorem uA (num den : Int) : Fn Tryz.prog 108 [.agg #[I num, I den]] H fun r H' => r = I (gA num den) ∧ St Tryz.prog H H' [] := by
 refine Fn.of_sw Tryz.func108 rfl (by kernel_rfl) fun l hl => ?_
 have hn : l.length = 23 := by rw [hl]; rfl
 have g0 : get l 0 = (.agg #[I num, I den]) := by rw [hl]; rfl
 clear hl
 simp (disch := omega) only [↓RA, RB, simprocAttr, g0]
 refine (St.refl Tryz.prog H).eNew 2 [I num, I den] rfl rfl rfl rC fun A1 H1 hS1 => ?_
 simp only [RT] at hS1
 simp (disch := omega) only [↓RA, RZ, simprocAttr, hn, hS1.ldA 0 rfl]
 refine aB (b4S num den) ?_
 rintro r H2 ⟨rfl, hT1⟩
 have hS2 := hS1.trans hT1
 simp only [RT] at hS2
 simp (disch := omega) only [↓RA, RB, simprocAttr, hn]
 refine aA (fun h => ?_) (fun h => ?_)
 ·simp (disch := omega) only [↓RA, RZ, simprocAttr, hn, a3n, h]
  exact ⟨by rw [gA, if_pos h], hS2.forget⟩
 have hf := b1B (Classical.not_not.1 h)
 simp (disch := omega) only [↓RA, RZ, simprocAttr, hn, hS2.ld 0 rfl, h]
 refine aK (fun h1 => ?_) (fun h1 => ?_)
 ·simp (disch := omega) only [↓RA, RZ, simprocAttr, hn, a3n, h, h1]
  refine ⟨?_, hS2.forget⟩; unfold gA; (repeat' split); all_goals first | rfl | omega
 simp (disch := omega) only [↓RA, RZ, simprocAttr, hn, hS2.ld 0 rfl, h, h1]
 refine aA (fun h2 => ?_) (fun h2 => ?_)
 ·simp (disch := omega) only [↓RA, RZ, simprocAttr, hn, a3n, h, h1, h2]
  refine ⟨?_, hS2.forget⟩; unfold gA; (repeat' split); all_goals first | rfl | omega
 simp (disch := omega) only [↓RA, RZ, simprocAttr, hn, hS2.ld 0 rfl, h, h1, h2]
 refine aA (fun h3 => ?_) (fun h3 => ?_)
 ·simp (disch := omega) only [↓RA, RZ, simprocAttr, hn, a3n, h, h1, h2, h3]
  refine ⟨?_, hS2.forget⟩; unfold gA; (repeat' split); all_goals first | rfl | omega
 simp (disch := omega) only [↓RA, RZ, simprocAttr, hn, a3n, h, h1, h2, h3]
 refine ⟨?_, hS2.forget⟩; unfold gA; (repeat' split); all_goals first | rfl | omega
end Go.Ds
namespace Go.Ds
open Go.Proofs
variable {H : Heap}
def jE (p : Nat → Bool) (n : Nat) : Int := match (List.range n).find? p with | some j => j | none => -1
theorem nX (p : Nat → Bool) (n i : Nat) (hi : i < n) (hp : p i = true) (h0 : ∀ j, j < i → p j = false) : (List.range n).find? p = some i := by
 rw [List.find?_eq_some_iff_getElem]
 refine ⟨hp, i, by simpa using hi, by simp, fun j hj => by simp [h0 j hj]⟩
theorem qA (p : Nat → Bool) (n i : Nat) (hi : i < n) (hp : p i = true) (h0 : ∀ j, j < i → p j = false) : jE p n = i := by
 unfold jE
 rw [nX p n i hi hp h0]
theorem pE (p : Nat → Bool) (n : Nat) (h0 : ∀ j, j < n → p j = false) : jE p n = -1 := by
 unfold jE
 have : (List.range n).find? p = none := by
  rw [List.find?_eq_none]
  intro j hj
  simp [h0 j (List.mem_range.1 hj)]
 rw [this]
theorem tU (p : Nat → Bool) (n : Nat) : (0 ≤ jE p n) ↔ ∃ j, j < n ∧ p j = true := by
 unfold jE
 cases h : (List.range n).find? p with
 | none =>
   rw [List.find?_eq_none] at h
   simp only [List.mem_range] at h
   constructor
   ·intro hh; exact absurd hh (by decide)
   ·rintro ⟨j, hj, hp⟩; exact absurd hp (h j hj)
 | some j =>
   constructor
   ·intro _
    exact ⟨j, List.mem_range.1 (List.mem_of_find?_eq_some h), List.find?_some h⟩
   ·intro _; show (0 : Int) ≤ (j : Int); omega
theorem b2f (v : Value) (xs : List Int) (hv : Sl 1 (one I) H v xs) (hl : xs.length < 1000000000) (k : FuncId) (caps : List Value) (p : Nat → Bool)
 (hf : ∀ j H1, j < xs.length → St Tryz.prog H H1 [] → Fn Tryz.prog k (I (aC xs j) :: caps) H1 fun r H2 => r = .bool (p j) ∧ St Tryz.prog H1 H2 []) :
 Fn Tryz.prog 182 [v, .func (.func k) #[] caps.toArray] H fun r H' => r = I (jE p xs.length) ∧ St Tryz.prog H H' [] := by
 refine Fn.of_sw Tryz.func182 rfl (by kernel_rfl) fun l hl => ?_
 have hn : l.length = 19 := by rw [hl]; rfl
 have g0 : get l 0 = v := by rw [hl]; rfl
 have g1 : get l 1 = .func (.func k) #[] caps.toArray := by rw [hl]; rfl
 clear hl
 simp (disch := omega) only [↓RA, RZ, simprocAttr, hn, g0, ((St.refl Tryz.prog H).sl hv).len]
 refine Wp.loopS (fun n l H' => l.length = 19 ∧ get l 0 = v ∧ get l 1 = .func (.func k) #[] caps.toArray ∧ get l 7 = I xs.length ∧ ∃ (j : Nat), (n + j = xs.length ∧ ∀ q, q < j → p q = false) ∧ get l 8 = I j ∧ St Tryz.prog H H' []) xs.length ?_ ?_
 ·simp (disch := omega) only [RB, RC, simprocAttr, hn, g0, g1]
  exact ⟨0, ⟨by omega, fun q hq => absurd hq (Nat.not_lt_zero _)⟩, rfl, (St.refl Tryz.prog H)⟩
 rintro n l H1 ⟨hn, g0, g1, g7, j, ⟨hi,h0⟩, g8, hS1⟩
 simp (disch := omega) only [↓RA, RB, simprocAttr, hn, g7, g8]
 refine aA (fun h => ?_) (fun h => ?_)
 ·simp (disch := omega) only [↓RA, RZ, simprocAttr, hn, g0, g1, g8, (hS1.sl hv).idx, (hS1.sl hv).ld, one, h]
  refine aB (hf j _ (by omega) hS1) ?_
  rintro r H2 ⟨rfl, hT1⟩
  have hS2 := hS1.trans hT1
  simp only [RT] at hS2
  simp (disch := omega) only [↓RA, RZ, simprocAttr, hn, h]
  refine bK (fun hp => ?_) (fun hp => ?_)
  ·simp (disch := omega) only [↓RA, RZ, simprocAttr, hn, b6g, h, hp]
   exact ⟨by rw [qA p xs.length j (by omega) hp h0], hS2⟩
  simp (disch := omega) only [↓RA, RZ, simprocAttr, hn, g0, g1, g7, g8, h, hp]
  exact ⟨n - 1, by omega, j + 1, ⟨by omega, fun q hq => by rcases Nat.lt_succ_iff_lt_or_eq.1 hq with e | e; (· exact h0 q e); (· rw [e]; exact hp)⟩, by simp, hS2⟩
 simp (disch := omega) only [↓RA, RZ, simprocAttr, hn, b6g, h]
 exact ⟨by rw [pE p xs.length fun q hq => h0 q (by omega)], hS1⟩
theorem b3k (v : Value) (xs : List Int) (hv : Sl 1 (one I) H v xs) (hl : xs.length < 1000000000) (k : FuncId) (caps : List Value) (p : Nat → Bool)
 (hf : ∀ j H1, j < xs.length → St Tryz.prog H H1 [] → Fn Tryz.prog k (I (aC xs j) :: caps) H1 fun r H2 => r = .bool (p j) ∧ St Tryz.prog H1 H2 []) :
 Fn Tryz.prog 149 [v, .func (.func k) #[] caps.toArray] H fun r H' => r = .bool (decide (0 ≤ jE p xs.length)) ∧ St Tryz.prog H H' [] := by
 refine Fn.of_sw Tryz.func149 rfl (by kernel_rfl) fun l hl => ?_
 have hn : l.length = 9 := by rw [hl]; rfl
 have g0 : get l 0 = v := by rw [hl]; rfl
 have g1 : get l 1 = .func (.func k) #[] caps.toArray := by rw [hl]; rfl
 clear hl
 simp (disch := omega) only [↓RA, RZ, simprocAttr, hn, g0, g1]
 refine aB (b2f v xs hv hl k caps p hf) ?_
 rintro r H1 ⟨rfl, hT1⟩
 have hS1 := (St.refl Tryz.prog H).trans hT1
 simp only [RT] at hS1
 simp (disch := omega) only [↓RA, RZ, simprocAttr, hn, b9G]
 first | exact hS1 | exact ⟨rfl, hS1⟩
def rS (xs : List Int) : Int := if xs.any fun w => decide (w < 0) || decide (1000000 < w) then 3 else 0
theorem b0C (v : Value) (xs : List Int) (hv : Sl 1 (one I) H v xs) (hl : xs.length < 1000000000) : Fn Tryz.prog 110 [v] H fun r H' => r = I (rS xs) ∧ St Tryz.prog H H' [] := by
 have key : (0 ≤ jE (fun j => decide (aC xs j < 0) || decide (1000000 < aC xs j)) xs.length) ↔ (xs.any fun w => decide (w < 0) || decide (1000000 < w)) = true := by
  rw [tU, List.any_eq_true]
  constructor
  ·rintro ⟨j, hj, hp⟩; exact ⟨_, aF hj, hp⟩
  ·rintro ⟨x, hx, hp⟩
   obtain ⟨j, hj, rfl⟩ := List.mem_iff_getElem.1 hx
   exact ⟨j, hj, by rw [cF xs j hj]; exact hp⟩
 refine Fn.of_sw Tryz.func110 rfl (by kernel_rfl) fun l hl => ?_
 have hn : l.length = 5 := by rw [hl]; rfl
 have g0 : get l 0 = v := by rw [hl]; rfl
 clear hl
 simp (disch := omega) only [↓RA, RZ, simprocAttr, hn, g0]
 refine aB (b3k v xs hv hl 150 [] _ (fun j H1 hj hS => b0s (aC xs j))) ?_
 rintro r H1 ⟨rfl, hT1⟩
 have hS1 := (St.refl Tryz.prog H).trans hT1
 simp only [RT] at hS1
 simp (disch := omega) only [↓RA, RB, simprocAttr, hn]
 refine aA (fun h => ?_) (fun h => ?_)
 ·simp (disch := omega) only [↓RA, RZ, simprocAttr, hn, b5A, h]
  exact ⟨by rw [rS, if_pos (key.1 h)], hS1⟩
 simp (disch := omega) only [↓RA, RZ, simprocAttr, hn, b5A, h]
 exact ⟨by rw [rS, if_neg (fun hh => h (key.2 hh))], hS1⟩
end Go.Ds
namespace Go.Ds
open Go.Proofs
variable {H : Heap}
def ncF (b : Int) : Bool := iF b || (decide (48 ≤ b) && decide (b ≤ 57)) || decide (b = 95)
def cQ (s : ByteArray) : Bool := decide (0 < s.size) && decide (s.size ≤ 32) && iF (fW s 0) && (List.range (s.size - 1)).all fun j => ncF (fW s (j + 1))
theorem c0i (s z : ByteArray) (hz : z.size = 0) : s = z ↔ s.size = 0 := ⟨fun h => by rw [h, hz], fun h => by
 apply sL
 have h1 : s.data.toList = [] := List.eq_nil_of_length_eq_zero (by simpa using h)
 have h2 : z.data.toList = [] := List.eq_nil_of_length_eq_zero (by simpa using hz)
 rw [h1, h2]⟩
theorem iS (s : ByteArray) : Fn Tryz.prog 73 [.string s] H fun r H' => r = .bool (cQ s) ∧ St Tryz.prog H H' [] := by
 have hz := c0i s { data := #[] } rfl
 refine Fn.of_sw Tryz.func73 rfl (by kernel_rfl) fun l hl => ?_
 have hn : l.length = 42 := by rw [hl]; rfl
 have g0 : get l 0 = (.string s) := by rw [hl]; rfl
 clear hl
 simp (disch := omega) only [↓RA, RZ, simprocAttr, hn, g0, hz]
 refine aK (fun h1 => ?_) (fun h1 => ?_)
 ·simp (disch := omega) only [↓RA, RZ, simprocAttr, hn, a6Q, h1]
  first | exact (St.refl Tryz.prog H) | exact ⟨by simp [cQ, h1], (St.refl Tryz.prog H)⟩
 simp (disch := omega) only [↓RA, RZ, simprocAttr, hn, g0, h1]
 refine aK (fun h2 => ?_) (fun h2 => ?_)
 ·simp (disch := omega) only [↓RA, RZ, simprocAttr, hn, a6Q, h1, h2]
  first | exact (St.refl Tryz.prog H) | exact ⟨by simp [cQ, show ¬ s.size ≤ 32 by omega], (St.refl Tryz.prog H)⟩
 simp (disch := omega) only [↓RA, RZ, simprocAttr, hn, g0, h1, h2]
 refine aB (zD _) ?_
 rintro r H1 ⟨rfl, hT1⟩
 have hS1 := (St.refl Tryz.prog H).trans hT1
 simp only [RT] at hS1
 simp (disch := omega) only [↓RA, RZ, simprocAttr, hn, h1, h2]
 refine bK (fun h3 => ?_) (fun h3 => ?_)
 ·simp (disch := omega) only [↓RA, RZ, simprocAttr, hn, a6Q, h1, h2, h3]
  first | exact hS1 | exact ⟨by simp at h3; simp [cQ, h3], hS1⟩
 simp (disch := omega) only [↓RA, RZ, simprocAttr, h1, h2, h3]
 have h4 : iF (fW s 0) = true := by simpa using h3
 have hA : cQ s = (List.range (s.size - 1)).all fun j => ncF (fW s (j + 1)) := by simp [cQ, h4, show 0 < s.size by omega, show s.size ≤ 32 by omega]
 refine Wp.loopS (fun n l H' => l.length = 42 ∧ get l 0 = (.string s) ∧ ∃ (i : Nat), (n + i = s.size ∧ 1 ≤ i ∧ ∀ j, 1 ≤ j → j < i → ncF (fW s j) = true) ∧ get l 3 = I i ∧ St Tryz.prog H H' []) (s.size - 1) ?_ ?_
 ·simp (disch := omega) only [RB, RC, simprocAttr, hn, g0]
  exact ⟨1, ⟨by omega, by omega, fun j h1 h2 => by omega⟩, rfl, hS1⟩
 rintro n l H2 ⟨hn, g0, i, ⟨hi,hi1,h0⟩, g3, hS2⟩
 simp (disch := omega) only [↓RA, RZ, simprocAttr, hn, g0, g3]
 refine aA (fun h5 => ?_) (fun h5 => ?_)
 ·simp (disch := omega) only [↓RA, RZ, simprocAttr, hn, g0, g3, h5]
  refine aB (zD _) ?_
  rintro r H3 ⟨rfl, hT2⟩
  have hS3 := hS2.trans hT2
  simp only [RT] at hS3
  have hF : ncF (fW s i) = false → cQ s = false := fun hh => by
   rw [hA, List.all_eq_false]
   exact ⟨i - 1, List.mem_range.2 (by omega), by rw [show i - 1 + 1 = i by omega, hh]; simp⟩
  have hT : ncF (fW s i) = true → ∀ j, 1 ≤ j → j < i + 1 → ncF (fW s j) = true := fun hh j h1 h2 => by
   by_cases e : j = i
   ·rw [e]; exact hh
   ·exact h0 j h1 (by omega)
  simp (disch := omega) only [↓RA, RZ, simprocAttr, hn, h5]
  refine iP (fun h1 => ?_) (fun h1 => ?_)
  ·simp (disch := omega) only [↓RA, RZ, simprocAttr, hn, h5, h1]
   refine aK (fun h2 => ?_) (fun h2 => ?_)
   ·simp (disch := omega) only [↓RA, RZ, simprocAttr, hn, h5, h1, h2]
    refine aA (fun h3 => ?_) (fun h3 => ?_)
    ·simp (disch := omega) only [↓RA, RZ, simprocAttr, hn, a6Q, h5, h1, h2, h3]
     exact ⟨by rw [hF (by simp_all [ncF] <;> omega)], hS3⟩
    simp (disch := omega) only [↓RA, RZ, simprocAttr, hn, g0, g3, h5, h1, h2, h3]
    exact ⟨n - 1, by omega, i + 1, ⟨by omega, by omega, hT (by simp_all [ncF] <;> omega)⟩, by simp, hS3⟩
   simp (disch := omega) only [↓RA, RZ, simprocAttr, hn, h5, h1, h2]
   refine bH (fun h4 => ?_) (fun h4 => ?_)
   ·simp (disch := omega) only [↓RA, RZ, simprocAttr, hn, h5, h1, h2, h4]
    refine aA (fun h5 => ?_) (fun h5 => ?_)
    ·simp (disch := omega) only [↓RA, RZ, simprocAttr, hn, a6Q, h1, h2, h4, h5]
     exact ⟨by rw [hF (by simp_all [ncF] <;> omega)], hS3⟩
    simp (disch := omega) only [↓RA, RZ, simprocAttr, hn, g0, g3, h1, h2, h4, h5]
    exact ⟨n - 1, by omega, i + 1, ⟨by omega, by omega, hT (by simp_all [ncF] <;> omega)⟩, by simp, hS3⟩
   simp (disch := omega) only [↓RA, RZ, simprocAttr, hn, g0, g3, h5, h1, h2, h4]
   exact ⟨n - 1, by omega, i + 1, ⟨by omega, by omega, hT (by simp_all [ncF] <;> omega)⟩, by simp, hS3⟩
  simp (disch := omega) only [↓RA, RZ, simprocAttr, hn, g0, g3, h5, h1]
  exact ⟨n - 1, by omega, i + 1, ⟨by omega, by omega, hT (by simp_all [ncF] <;> omega)⟩, by simp, hS3⟩
 simp (disch := omega) only [↓RA, RZ, simprocAttr, hn, a6Q, h5]
 refine ⟨?_, hS2⟩
 rw [hA]
 congr 1
 symm
 rw [List.all_eq_true]
 intro j hj
 exact h0 (j + 1) (by omega) (by have := List.mem_range.1 hj; omega)
end Go.Ds
namespace Go.Ds
open Go.Proofs
variable {H : Heap}
def rankE (r : Rk) : Int := if cQ r.name = false ∨ cQ r.tone = false then 8 else if gA r.num r.den ≠ 0 then gA r.num r.den else if ¬ (-256 ≤ r.first ∧ r.first ≤ 256) then 3 else if r.wind.length = 0 then 13 else if 128 < r.wind.length then 4 else rS r.wind
theorem a6q (r : Rk) (hr : r.In H) : Fn Tryz.prog 74 [.agg #[.string r.name, .string r.tone, I r.num, I r.den, I r.first, r.wv]] H fun v H' => v = I (rankE r) ∧ St Tryz.prog H H' [] := by
 have hl := hr.2
 refine Fn.of_sw Tryz.func74 rfl (by kernel_rfl) fun l hl => ?_
 have hn : l.length = 38 := by rw [hl]; rfl
 have g0 : get l 0 = (.agg #[(.string r.name), (.string r.tone), I r.num, I r.den, I r.first, r.wv]) := by rw [hl]; rfl
 clear hl
 simp (disch := omega) only [↓RA, RB, simprocAttr, g0]
 refine (St.refl Tryz.prog H).eNew 6 [(.string r.name), (.string r.tone), I r.num, I r.den, I r.first, r.wv] rfl rfl (by simp [OC, ((St.refl Tryz.prog H).sl hr.1).cells.2.1]) pD fun A1 H1 hS1 => ?_
 simp only [RT] at hS1
 simp (disch := omega) only [↓RA, RZ, simprocAttr, hn, hS1.ld 0 rfl]
 refine aB (iS _) ?_
 rintro r H2 ⟨rfl, hT1⟩
 have hS2 := hS1.trans hT1
 simp only [RT] at hS2
 simp (disch := omega) only [↓RA, RZ, simprocAttr, hn]
 refine iP (fun h1 => ?_) (fun h1 => ?_)
 ·simp (disch := omega) only [↓RA, RZ, simprocAttr, hn, a5O, h1]
  refine ⟨?_, hS2.forget⟩; clear hS1; unfold rankE; (try simp only [Bool.not_eq_true'] at *); (repeat' split); all_goals first | rfl | omega | simp_all
 simp (disch := omega) only [↓RA, RZ, simprocAttr, hn, hS2.ld 0 rfl, h1]
 refine aB (iS _) ?_
 rintro r H3 ⟨rfl, hT2⟩
 have hS3 := hS2.trans hT2
 simp only [RT] at hS3
 simp (disch := omega) only [↓RA, RZ, simprocAttr, hn, h1]
 refine bK (fun h2 => ?_) (fun h2 => ?_)
 ·simp (disch := omega) only [↓RA, RB, simprocAttr, hn, a5O, h1, h2]
  refine ⟨?_, hS3.forget⟩; clear hS1; unfold rankE; (try simp only [Bool.not_eq_true'] at *); (repeat' split); all_goals first | rfl | omega | simp_all
 simp (disch := omega) only [↓RA, RZ, simprocAttr, hn, hS3.ldA 0 rfl, h1, h2]
 refine aB (uA _ _) ?_
 rintro r H4 ⟨rfl, hT3⟩
 have hS4 := hS3.trans hT3
 simp only [RT] at hS4
 simp (disch := omega) only [↓RA, RB, simprocAttr, hn, h1, h2]
 refine aA (fun h3 => ?_) (fun h3 => ?_)
 ·simp (disch := omega) only [↓RA, RZ, simprocAttr, hn, a5O, h1, h2, h3]
  refine ⟨?_, hS4.forget⟩; clear hS1; unfold rankE; (try simp only [Bool.not_eq_true, Bool.not_eq_true', Bool.and_eq_true, decide_eq_true_eq, Bool.not_eq_false, Bool.and_eq_false_iff, decide_eq_false_iff_not] at *); (repeat' split); all_goals first | rfl | omega | simp_all
 simp (disch := omega) only [↓RA, RZ, simprocAttr, hn, hS4.ld 0 rfl, h1, h2, h3]
 refine aB (b0b _) ?_
 rintro r H5 ⟨rfl, hT4⟩
 have hS5 := hS4.trans hT4
 simp only [RT] at hS5
 simp (disch := omega) only [↓RA, RZ, simprocAttr, hn, h1, h2, h3]
 refine bK (fun h4 => ?_) (fun h4 => ?_)
 ·simp (disch := omega) only [↓RA, RZ, simprocAttr, hn, a5O, h1, h2, h3, h4]
  refine ⟨?_, hS5.forget⟩; clear hS1; unfold rankE; (try simp only [Bool.not_eq_true', Bool.and_eq_false_iff, decide_eq_false_iff_not] at *); (repeat' split); all_goals first | rfl | omega | simp_all
 simp (disch := omega) only [↓RA, RZ, simprocAttr, hn, hS5.ld 0 rfl, (hS5.sl hr.1).len, h1, h2, h3, h4]
 refine aA (fun h5 => ?_) (fun h5 => ?_)
 ·simp (disch := omega) only [↓RA, RZ, simprocAttr, hn, a5O, h1, h2, h3, h4, h5]
  refine ⟨?_, hS5.forget⟩; clear hS1; unfold rankE; (try simp only [Bool.not_eq_true, Bool.not_eq_true', Bool.and_eq_true, decide_eq_true_eq, Bool.not_eq_false, Bool.and_eq_false_iff, decide_eq_false_iff_not] at *); (repeat' split); all_goals first | rfl | omega | simp_all
 simp (disch := omega) only [↓RA, RZ, simprocAttr, hn, hS5.ld 0 rfl, (hS5.sl hr.1).len, h1, h2, h3, h4, h5]
 refine aA (fun h6 => ?_) (fun h6 => ?_)
 ·simp (disch := omega) only [↓RA, RZ, simprocAttr, hn, a5O, h1, h2, h3, h4, h5, h6]
  refine ⟨?_, hS5.forget⟩; clear hS1; unfold rankE; (try simp only [Bool.not_eq_true, Bool.not_eq_true', Bool.and_eq_true, decide_eq_true_eq, Bool.not_eq_false, Bool.and_eq_false_iff, decide_eq_false_iff_not] at *); (repeat' split); all_goals first | rfl | omega | simp_all
 simp (disch := omega) only [↓RA, RZ, simprocAttr, hn, hS5.ld 0 rfl, h1, h2, h3, h4, h5, h6]
 refine aB (b0C r.wv r.wind (hS5.sl hr.1) (by have := hr.2; omega)) ?_
 rintro r H6 ⟨rfl, hT5⟩
 have hS6 := hS5.trans hT5
 simp only [RT] at hS6
 simp (disch := omega) only [↓RA, RZ, simprocAttr, hn, a5O, h1, h2, h3, h4, h5, h6]
 refine ⟨?_, hS6.forget⟩; clear hS1; unfold rankE; (try simp only [Bool.not_eq_true, Bool.not_eq_true', Bool.and_eq_true, decide_eq_true_eq, Bool.not_eq_false, Bool.and_eq_false_iff, decide_eq_false_iff_not] at *); (repeat' split); all_goals first | rfl | omega | simp_all
end Go.Ds
namespace Go.Ds
open Go.Proofs
variable {H : Heap}
abbrev KS (kvs : List (ByteArray × Bool)) : List Value := kcs Value.string Value.bool kvs
def iK (kvs : List (ByteArray × Bool)) (s : ByteArray) : Bool := (uV kvs s).getD false
theorem xF (B : Base) (A : Nat) (kvs : List (ByteArray × Bool)) (s : ByteArray) (hS : St Tryz.prog B H [⟨.map (some A), 0, KS kvs⟩]) :
 Fn Tryz.prog 75 [.map (some A), .string s] H fun r H' => r = I (if iK kvs s = true then 9 else 0) ∧ ∃ kvs', (∀ t, iK kvs' t = (iK kvs t || decide (t = s))) ∧ St Tryz.prog B H' [⟨.map (some A), 0, KS kvs'⟩] := by
 refine Fn.of_sw Tryz.func75 rfl (by kernel_rfl) fun l hl => ?_
 have hn : l.length = 10 := by rw [hl]; rfl
 have g0 : get l 0 = (.map (some A)) := by rw [hl]; rfl
 have g1 : get l 1 = (.string s) := by rw [hl]; rfl
 clear hl
 simp (disch := omega) only [↓RA, RB, simprocAttr, hn, g0, g1]
 refine hS.eLook 0 rfl a2t (fun _ => rfl) ?_
 simp (disch := omega) only [↓RA, RB, simprocAttr, hn]
 refine bK (fun h => ?_) (fun h => ?_)
 ·simp (disch := omega) only [↓RA, RB, simprocAttr, hn, c0P, h]
  refine ⟨by simp [iK, h], kvs, fun t => ?_, hS⟩
  by_cases e : t = s
  ·subst e; simp [iK, h]
  ·simp [e]
 simp (disch := omega) only [↓RA, RB, simprocAttr, hn, g0, g1, h]
 refine hS.eUpd 0 rfl a2t fun H1 hS1 => ?_
 simp only [RT] at hS1
 simp (disch := omega) only [↓RA, RB, simprocAttr, hn, c0P, h]
 refine ⟨by simp [iK, h], _, fun t => ?_, hS1⟩
 unfold iK
 rw [uX]
 by_cases e : t = s
 ·simp [e]
 ·simp [e]
def iV (lo hi : Int) : Int := if lo < 0 ∨ 127 < hi then 3 else if hi < lo then 23 else 0
theorem tQ (lo hi : Int) : Fn Tryz.prog 97 [.agg #[I lo, I hi]] H fun r H' => r = I (iV lo hi) ∧ St Tryz.prog H H' [] := by
 refine Fn.of_sw Tryz.func97 rfl (by kernel_rfl) fun l hl => ?_
 have hn : l.length = 18 := by rw [hl]; rfl
 have g0 : get l 0 = (.agg #[I lo, I hi]) := by rw [hl]; rfl
 clear hl
 simp (disch := omega) only [↓RA, RB, simprocAttr, g0]
 refine (St.refl Tryz.prog H).eNew 2 [I lo, I hi] rfl rfl rfl lN fun A1 H1 hS1 => ?_
 simp only [RT] at hS1
 simp (disch := omega) only [↓RA, RZ, simprocAttr, hn, hS1.ld 0 rfl]
 refine aK (fun h1 => ?_) (fun h1 => ?_)
 ·simp (disch := omega) only [↓RA, RZ, simprocAttr, hn, b3a, h1]
  refine ⟨?_, hS1.forget⟩; unfold iV; (repeat' split); all_goals first | rfl | omega
 simp (disch := omega) only [↓RA, RZ, simprocAttr, hn, hS1.ld 0 rfl, h1]
 refine aA (fun h2 => ?_) (fun h2 => ?_)
 ·simp (disch := omega) only [↓RA, RZ, simprocAttr, hn, b3a, h1, h2]
  refine ⟨?_, hS1.forget⟩; unfold iV; (repeat' split); all_goals first | rfl | omega
 simp (disch := omega) only [↓RA, RZ, simprocAttr, hn, hS1.ld 0 rfl, h1, h2]
 refine aA (fun h3 => ?_) (fun h3 => ?_)
 ·simp (disch := omega) only [↓RA, RZ, simprocAttr, hn, b3a, h1, h2, h3]
  refine ⟨?_, hS1.forget⟩; unfold iV; (repeat' split); all_goals first | rfl | omega
 simp (disch := omega) only [↓RA, RZ, simprocAttr, hn, b3a, h1, h2, h3]
 refine ⟨?_, hS1.forget⟩; unfold iV; (repeat' split); all_goals first | rfl | omega
def dG (f : Nat → Int) (n : Nat) : Int := match (List.range n).find? (fun j => decide (f j ≠ 0)) with | some j => f j | none => 0
theorem fX (f : Nat → Int) (n i : Nat) (hi : i < n) (hp : f i ≠ 0) (h0 : ∀ j, j < i → f j = 0) : dG f n = f i := by
 unfold dG
 rw [nX _ n i hi (by simpa using hp) (fun j hj => by simpa using h0 j hj)]
theorem cO (f : Nat → Int) (n : Nat) (h0 : ∀ j, j < n → f j = 0) : dG f n = 0 := by
 unfold dG
 have : (List.range n).find? (fun j => decide (f j ≠ 0)) = none := by
  rw [List.find?_eq_none]
  intro j hj
  simpa using h0 j (List.mem_range.1 hj)
 rw [this]
end Go.Ds
namespace Go.Ds
open Go.Proofs
variable {H : Heap}
def kX (rs : List Rk) (lo hi : Int) : Int := if 60 < rs.length then 4 else if dG (fun j => rankE (aC rs j)) rs.length ≠ 0 then dG (fun j => rankE (aC rs j)) rs.length else iV lo hi
theorem a9x (rv : Value) (rs : List Rk) (lo hi : Int) (hr : Sl 6 Rk.cells H rv rs) (hrk : ∀ r ∈ rs, r.In H) (hl : rs.length < 1000000000) :
 Fn Tryz.prog 151 [.agg #[rv, I lo, I hi]] H fun v H' => v = I (kX rs lo hi) ∧ St Tryz.prog H H' [] := by
 refine Fn.of_sw Tryz.func151 rfl (by kernel_rfl) fun l hl => ?_
 have hn : l.length = 26 := by rw [hl]; rfl
 have g0 : get l 0 = (.agg #[rv, I lo, I hi]) := by rw [hl]; rfl
 clear hl
 simp (disch := omega) only [↓RA, RB, simprocAttr, g0]
 refine (St.refl Tryz.prog H).eNew 3 [rv, I lo, I hi] rfl rfl (by simp [OC, ((St.refl Tryz.prog H).sl hr).cells.2.1]) a6B fun A1 H1 hS1 => ?_
 simp only [RT] at hS1
 simp (disch := omega) only [↓RA, RZ, simprocAttr, hn, hS1.ld 0 rfl, (hS1.sl hr).len]
 refine aA (fun h => ?_) (fun h => ?_)
 ·simp (disch := omega) only [↓RA, RZ, simprocAttr, hn, a9y, h]
  exact ⟨by rw [kX, if_pos (by omega)], hS1.forget⟩
 simp (disch := omega) only [↓RA, RZ, simprocAttr, hn, hS1.ld 0 rfl, (hS1.sl hr).len, h]
 refine Wp.loopS (fun n l H' => l.length = 26 ∧ get l 1 = (ptr A1 0 3) ∧ get l 11 = rv ∧ get l 12 = I rs.length ∧ ∃ (i : Nat), (n + i = rs.length ∧ ∀ j, j < i → rankE (aC rs j) = 0) ∧ get l 13 = I i ∧ St Tryz.prog H H' [⟨ptr A1 0 3, 0, [rv, I lo, I hi]⟩]) rs.length ?_ ?_
 ·simp (disch := omega) only [RB, RC, simprocAttr, hn]
  exact ⟨0, ⟨by omega, by simp⟩, rfl, hS1⟩
 rintro n l H2 ⟨hn, g1, g11, g12, i, ⟨hi1,h0⟩, g13, hS2⟩
 simp (disch := omega) only [↓RA, RB, simprocAttr, hn, g12, g13]
 refine aA (fun h1 => ?_) (fun h1 => ?_)
 ·simp (disch := omega) only [↓RA, RZ, simprocAttr, hn, g11, g13, (hS2.sl hr).idx, (hS2.sl hr).ldA, Rk.cells, h1]
  refine hS2.eNew 6 [(.string ⟨#[]⟩), (.string ⟨#[]⟩), I 0, I 0, I 0, (.slice none 0 0)] rfl rfl rfl pD fun A2 H3 hS3 => ?_
  simp only [RT] at hS3
  simp (disch := omega) only [↓RA, RZ, simprocAttr, hn, h1]
  refine hS3.eStore 1 rfl [(.string (aC rs i).name), (.string (aC rs i).tone), I (aC rs i).num, I (aC rs i).den, I (aC rs i).first, (aC rs i).wv] rfl (by simp [OC, (hS3.sl (hrk (aC rs i) (aF (by omega))).1).cells.2.1]) pD (by simp) fun H4 hS4 => ?_
  simp only [RT] at hS4
  simp (disch := omega) only [↓RA, RZ, simprocAttr, hn, hS4.ldA 1 rfl, h1]
  refine aB (a6q (aC rs i) ((hrk _ (aF (by omega))).keep hS4)) ?_
  rintro r H5 ⟨rfl, hT1⟩
  have hS5 := hS4.trans hT1
  simp only [RT] at hS5
  simp (disch := omega) only [↓RA, RZ, simprocAttr, hn, h1]
  refine aA (fun h2 => ?_) (fun h2 => ?_)
  ·simp (disch := omega) only [↓RA, RZ, simprocAttr, hn, a9y, h1, h2]
   refine ⟨?_, hS5.forget⟩
   rw [kX, if_neg (by omega), fX _ rs.length i (by omega) h2 h0, if_pos h2]
  simp (disch := omega) only [↓RA, RZ, simprocAttr, hn, g1, g11, g12, g13, h1, h2]
  exact ⟨n - 1, by omega, i + 1, ⟨by omega, fun j hj => by rcases Nat.lt_succ_iff_lt_or_eq.1 hj with e | e; (· exact h0 j e); (· rw [e]; exact Classical.not_not.1 h2)⟩, by simp, hS5.sub (by simp)⟩
 simp (disch := omega) only [↓RA, RZ, simprocAttr, hn, g1, hS2.ldA 0 rfl, h1]
 refine aB (tQ lo hi) ?_
 rintro r H6 ⟨rfl, hT2⟩
 have hS6 := hS2.trans hT2
 simp only [RT] at hS6
 simp (disch := omega) only [↓RA, RZ, simprocAttr, hn, a9y, h1]
 refine ⟨?_, hS6.forget⟩
 have e := cO (fun j => rankE (aC rs j)) rs.length fun j hj => h0 j (by omega)
 rw [kX, if_neg (by omega), if_neg (by rw [e]; simp)]
end Go.Ds
namespace Go.Ds
open Go.Proofs
variable {H : Heap}
theorem Drw.eq (a b : Drw) : (a.rank = b.rank ∧ a.shift = b.shift) ↔ b = a := by
 cases a; cases b; simp [eq_comm]
theorem a7w (v : Value) (xs : List Drw) (hv : Sl 2 Drw.cells H v xs) (hl : xs.length < 1000000000) (d : Drw) :
 Fn Tryz.prog 205 [v, .agg #[I d.rank, I d.shift]] H fun r H' => r = I (jE (fun j => decide (aC xs j = d)) xs.length) ∧ St Tryz.prog H H' [] := by
 refine Fn.of_sw Tryz.func205 rfl (by kernel_rfl) fun l hl => ?_
 have hn : l.length = 19 := by rw [hl]; rfl
 have g0 : get l 0 = v := by rw [hl]; rfl
 have g1 : get l 1 = (.agg #[I d.rank, I d.shift]) := by rw [hl]; rfl
 clear hl
 simp (disch := omega) only [↓RA, RB, simprocAttr, g1]
 refine (St.refl Tryz.prog H).eNew 2 [I d.rank, I d.shift] rfl rfl rfl tC fun A1 H1 hS1 => ?_
 simp only [RT] at hS1
 simp (disch := omega) only [↓RA, RZ, simprocAttr, hn, g0, (hS1.sl hv).len]
 refine Wp.loopS (fun n l H' => l.length = 19 ∧ get l 0 = v ∧ get l 3 = (ptr A1 0 2) ∧ get l 7 = I xs.length ∧ ∃ (j : Nat), (n + j = xs.length ∧ ∀ q, q < j → decide (aC xs q = d) = false) ∧ get l 8 = I j ∧ St Tryz.prog H H' [⟨ptr A1 0 2, 0, [I d.rank, I d.shift]⟩]) xs.length ?_ ?_
 ·simp (disch := omega) only [RB, RC, simprocAttr, hn, g0]
  exact ⟨0, ⟨by omega, fun q hq => absurd hq (Nat.not_lt_zero _)⟩, rfl, hS1⟩
 rintro n l H2 ⟨hn, g0, g3, g7, j, ⟨hi,h0⟩, g8, hS2⟩
 simp (disch := omega) only [↓RA, RB, simprocAttr, hn, g7, g8]
 refine aA (fun h => ?_) (fun h => ?_)
 ·simp (disch := omega) only [↓RA, RZ, simprocAttr, hn, g8, h]
  refine Wp.drw cB (by kernel_rfl) ?_
  simp (disch := omega) only [↓RA, RZ, simprocAttr, hn, g0, g3, hS2.ldA 0 rfl, (hS2.sl hv).idx, (hS2.sl hv).ldA, Drw.cells]
  refine aA (fun hp => ?_) (fun hp => ?_)
  ·simp (disch := omega) only [↓RA, RZ, simprocAttr, hn, b5T, hp]
   exact ⟨by rw [qA _ xs.length j (by omega) (by simpa using (Drw.eq _ _).1 hp) h0], hS2.forget⟩
  simp (disch := omega) only [↓RA, RZ, simprocAttr, hn, g0, g3, g7, g8, hp]
  exact ⟨n - 1, by omega, j + 1, ⟨by omega, fun q hq => by rcases Nat.lt_succ_iff_lt_or_eq.1 hq with e | e; (· exact h0 q e); (· rw [e]; simpa using fun hh => hp ((Drw.eq _ _).2 hh))⟩, by simp, hS2⟩
 simp (disch := omega) only [↓RA, RZ, simprocAttr, hn, b5T, h]
 exact ⟨by rw [pE _ xs.length fun q hq => h0 q (by omega)], hS2.forget⟩
theorem b3Z (v : Value) (xs : List Drw) (hv : Sl 2 Drw.cells H v xs) (hl : xs.length < 1000000000) (d : Drw) :
 Fn Tryz.prog 183 [v, .agg #[I d.rank, I d.shift]] H fun r H' => r = .bool (decide (d ∈ xs)) ∧ St Tryz.prog H H' [] := by
 have e : decide (0 ≤ jE (fun j => decide (aC xs j = d)) xs.length) = decide (d ∈ xs) := by
  rw [Bool.eq_iff_iff, decide_eq_true_iff, decide_eq_true_iff, tU]
  constructor
  ·rintro ⟨j, hj, hp⟩
   rw [← of_decide_eq_true hp]; exact aF hj
  ·intro hx
   obtain ⟨j, hj, rfl⟩ := List.mem_iff_getElem.1 hx
   exact ⟨j, hj, by rw [cF xs j hj]; simp⟩
 refine Fn.of_sw Tryz.func183 rfl (by kernel_rfl) fun l hl => ?_
 have hn : l.length = 9 := by rw [hl]; rfl
 have g0 : get l 0 = v := by rw [hl]; rfl
 have g1 : get l 1 = (.agg #[I d.rank, I d.shift]) := by rw [hl]; rfl
 clear hl
 simp (disch := omega) only [↓RA, RB, simprocAttr, g1]
 refine (St.refl Tryz.prog H).eNew 2 [I d.rank, I d.shift] rfl rfl rfl tC fun A1 H1 hS1 => ?_
 simp only [RT] at hS1
 simp (disch := omega) only [↓RA, RZ, simprocAttr, hn, g0, hS1.ldA 0 rfl]
 refine aB (a7w v xs (hS1.sl hv) hl d) ?_
 rintro r H2 ⟨rfl, hT1⟩
 have hS2 := hS1.trans hT1
 simp only [RT] at hS2
 simp (disch := omega) only [↓RA, RB, simprocAttr, hn, c2k]
 rw [← e]
 first | exact hS2.forget | exact ⟨rfl, hS2.forget⟩
def cK (m : Nat) (l : List Drw) (j : Nat) : Int := if (aC l j).rank < 0 ∨ m ≤ (aC l j).rank then 10 else if (aC l j).shift < -127 ∨ 127 < (aC l j).shift then 3 else if aC l j ∈ l.take j then 9 else 0
def dA (m : Nat) (l : List Drw) : Int := if 8 < l.length then 4 else dG (cK m l) l.length
theorem a2y (rv : Value) (rs : List Rk) (lo hi : Int) (hr : Sl 6 Rk.cells H rv rs) (hl : rs.length < 1000000000) (dv : Value) (ds : List Drw) (hd : Sl 2 Drw.cells H dv ds) (hl2 : ds.length < 1000000000) :
 Fn Tryz.prog 152 [.agg #[rv, I lo, I hi], dv] H fun v H' => v = I (dA rs.length ds) ∧ St Tryz.prog H H' [] := by
 refine Fn.of_sw Tryz.func152 rfl (by kernel_rfl) fun l hl => ?_
 have hn : l.length = 45 := by rw [hl]; rfl
 have g0 : get l 0 = (.agg #[rv, I lo, I hi]) := by rw [hl]; rfl
 have g1 : get l 1 = dv := by rw [hl]; rfl
 clear hl
 simp (disch := omega) only [↓RA, RB, simprocAttr, g0]
 refine (St.refl Tryz.prog H).eNew 3 [rv, I lo, I hi] rfl rfl (by simp [OC, ((St.refl Tryz.prog H).sl hr).cells.2.1]) a6B fun A1 H1 hS1 => ?_
 simp only [RT] at hS1
 simp (disch := omega) only [↓RA, RZ, simprocAttr, hn, g1, (hS1.sl hd).len]
 refine aA (fun h => ?_) (fun h => ?_)
 ·simp (disch := omega) only [↓RA, RZ, simprocAttr, hn, wP, h]
  exact ⟨by rw [dA, if_pos (by omega)], hS1.forget⟩
 simp (disch := omega) only [↓RA, RZ, simprocAttr, hn, g1, (hS1.sl hd).len, h]
 refine Wp.loopS (fun n l H' => l.length = 45 ∧ get l 1 = dv ∧ get l 2 = (ptr A1 0 3) ∧ get l 10 = dv ∧ get l 11 = I ds.length ∧ ∃ (i : Nat), (n + i = ds.length ∧ ∀ j, j < i → cK rs.length ds j = 0) ∧ get l 12 = I i ∧ St Tryz.prog H H' [⟨ptr A1 0 3, 0, [rv, I lo, I hi]⟩]) ds.length ?_ ?_
 ·simp (disch := omega) only [RB, RC, simprocAttr, hn, g1]
  exact ⟨0, ⟨by omega, by simp⟩, rfl, hS1⟩
 rintro n l H2 ⟨hn, g1, g2, lX, g11, i, ⟨hi1,h0⟩, g12, hS2⟩
 simp (disch := omega) only [↓RA, RB, simprocAttr, hn, g11, g12]
 refine aA (fun h1 => ?_) (fun h1 => ?_)
 ·have key : cK rs.length ds i ≠ 0 → dA rs.length ds = cK rs.length ds i := fun hne => by rw [dA, if_neg (by omega), fX _ ds.length i (by omega) hne h0]
  simp (disch := omega) only [↓RA, RZ, simprocAttr, hn, lX, g12, (hS2.sl hd).idx, (hS2.sl hd).ldA, Drw.cells, h1]
  refine hS2.eNew 2 [I 0, I 0] rfl rfl rfl tC fun A2 H3 hS3 => ?_
  simp only [RT] at hS3
  simp (disch := omega) only [↓RA, RZ, simprocAttr, hn, h1]
  refine hS3.eStore 1 rfl [I (aC ds i).rank, I (aC ds i).shift] rfl rfl tC (by simp) fun H4 hS4 => ?_
  simp only [RT] at hS4
  simp (disch := omega) only [↓RA, RZ, simprocAttr, hn, hS4.ld 1 rfl, h1]
  refine aK (fun h1 => ?_) (fun h1 => ?_)
  ·simp (disch := omega) only [↓RA, RZ, simprocAttr, hn, wP, h1]
   (first | (have e1 : cK rs.length ds i = 10 := by rw [cK, if_pos (by omega)]); exact ⟨by rw [key (by rw [e1]; decide), e1], hS4.forget⟩ | (have e1 : cK rs.length ds i = 3 := by rw [cK, if_neg (by omega), if_pos (by omega)]); exact ⟨by rw [key (by rw [e1]; decide), e1], hS4.forget⟩ | (have e1 : cK rs.length ds i = 9 := by rw [cK, if_neg (by omega), if_neg (by omega), if_pos (by simp_all)]); exact ⟨by rw [key (by rw [e1]; decide), e1], hS4.forget⟩)
  simp (disch := omega) only [↓RA, RZ, simprocAttr, hn, g2, hS4.ld 1 rfl, hS4.ld 0 rfl, (hS4.sl hr).len, h1]
  refine aA (fun h2 => ?_) (fun h2 => ?_)
  ·simp (disch := omega) only [↓RA, RZ, simprocAttr, hn, wP, h1, h2]
   (first | (have e1 : cK rs.length ds i = 10 := by rw [cK, if_pos (by omega)]); exact ⟨by rw [key (by rw [e1]; decide), e1], hS4.forget⟩ | (have e1 : cK rs.length ds i = 3 := by rw [cK, if_neg (by omega), if_pos (by omega)]); exact ⟨by rw [key (by rw [e1]; decide), e1], hS4.forget⟩ | (have e1 : cK rs.length ds i = 9 := by rw [cK, if_neg (by omega), if_neg (by omega), if_pos (by simp_all)]); exact ⟨by rw [key (by rw [e1]; decide), e1], hS4.forget⟩)
  simp (disch := omega) only [↓RA, RZ, simprocAttr, hn, hS4.ld 1 rfl, h1, h2]
  refine aK (fun h3 => ?_) (fun h3 => ?_)
  ·simp (disch := omega) only [↓RA, RZ, simprocAttr, hn, wP, h1, h2, h3]
   (first | (have e1 : cK rs.length ds i = 10 := by rw [cK, if_pos (by omega)]); exact ⟨by rw [key (by rw [e1]; decide), e1], hS4.forget⟩ | (have e1 : cK rs.length ds i = 3 := by rw [cK, if_neg (by omega), if_pos (by omega)]); exact ⟨by rw [key (by rw [e1]; decide), e1], hS4.forget⟩ | (have e1 : cK rs.length ds i = 9 := by rw [cK, if_neg (by omega), if_neg (by omega), if_pos (by simp_all)]); exact ⟨by rw [key (by rw [e1]; decide), e1], hS4.forget⟩)
  simp (disch := omega) only [↓RA, RZ, simprocAttr, hn, hS4.ld 1 rfl, h1, h2, h3]
  refine aA (fun h4 => ?_) (fun h4 => ?_)
  ·simp (disch := omega) only [↓RA, RZ, simprocAttr, hn, wP, h1, h2, h3, h4]
   (first | (have e1 : cK rs.length ds i = 10 := by rw [cK, if_pos (by omega)]); exact ⟨by rw [key (by rw [e1]; decide), e1], hS4.forget⟩ | (have e1 : cK rs.length ds i = 3 := by rw [cK, if_neg (by omega), if_pos (by omega)]); exact ⟨by rw [key (by rw [e1]; decide), e1], hS4.forget⟩ | (have e1 : cK rs.length ds i = 9 := by rw [cK, if_neg (by omega), if_neg (by omega), if_pos (by simp_all)]); exact ⟨by rw [key (by rw [e1]; decide), e1], hS4.forget⟩)
  simp (disch := omega) only [↓RA, RZ, simprocAttr, h1, h2, h3, h4]
  refine Wp.drw cB (by kernel_rfl) ?_
  simp (disch := omega) only [↓RA, RZ, simprocAttr, hn, g1, (hS4.sl hd).sliceH, hS4.ldA 1 rfl]
  refine aB (b3Z _ (ds.take i) ((hS4.sl hd).subH i (by omega) (by omega)) (by simp; omega) (aC ds i)) ?_
  rintro r H5 ⟨rfl, hT1⟩
  have hS5 := hS4.trans hT1
  simp only [RT] at hS5
  simp (disch := omega) only [↓RA, RB, simprocAttr, hn]
  refine aA (fun h5 => ?_) (fun h5 => ?_)
  ·simp (disch := omega) only [↓RA, RZ, simprocAttr, hn, wP, h5]
   (first | (have e1 : cK rs.length ds i = 10 := by rw [cK, if_pos (by omega)]); exact ⟨by rw [key (by rw [e1]; decide), e1], hS5.forget⟩ | (have e1 : cK rs.length ds i = 3 := by rw [cK, if_neg (by omega), if_pos (by omega)]); exact ⟨by rw [key (by rw [e1]; decide), e1], hS5.forget⟩ | (have e1 : cK rs.length ds i = 9 := by rw [cK, if_neg (by omega), if_neg (by omega), if_pos (by simp_all)]); exact ⟨by rw [key (by rw [e1]; decide), e1], hS5.forget⟩)
  simp (disch := omega) only [↓RA, RZ, simprocAttr, hn, g1, g2, lX, g11, g12, h5]
  have e0 : cK rs.length ds i = 0 := by rw [cK, if_neg (by omega), if_neg (by omega), if_neg (by simp_all)]
  exact ⟨n - 1, by omega, i + 1, ⟨by omega, fun j hj => by rcases Nat.lt_succ_iff_lt_or_eq.1 hj with e | e; (· exact h0 j e); (· rw [e]; exact e0)⟩, by simp, hS5.sub (by simp)⟩
 simp (disch := omega) only [↓RA, RZ, simprocAttr, hn, wP, h1]
 exact ⟨by rw [dA, if_neg (by omega), cO _ _ fun j hj => h0 j (by omega)], hS2.forget⟩
end Go.Ds
namespace Go.Ds
open Go.Proofs
variable {H : Heap}
def cR (lo hi : Int) (m : Nat) (gs : List Seg) (j : Nat) : Int := if min (aC gs j).lo (aC gs j).hi < lo ∨ hi < max (aC gs j).lo (aC gs j).hi then 23 else if (aC gs j).hi < (aC gs j).lo ∨ (0 < j ∧ (aC gs j).lo ≤ (aC gs (j - 1)).hi) then 6 else dA m (aC gs j).draws
def stopE (rs : List Rk) (lo hi : Int) (s : Stp) : Int := if kX rs lo hi ≠ 0 then kX rs lo hi else if cQ s.name = false then 8 else if gA s.num s.den ≠ 0 then gA s.num s.den else if s.segs.length = 0 then 13 else if 12 < s.segs.length then 4 else dG (cR lo hi rs.length s.segs) s.segs.length
theorem b3c (rv : Value) (rs : List Rk) (lo hi : Int) (hr : Sl 6 Rk.cells H rv rs) (hrk : ∀ r ∈ rs, r.In H) (hl : rs.length < 1000000000) (s : Stp) (hs : s.In H) :
 Fn Tryz.prog 111 [.agg #[rv, I lo, I hi], .agg #[.string s.name, I s.num, I s.den, s.gv]] H fun v H' => v = I (stopE rs lo hi s) ∧ St Tryz.prog H H' [] := by
 have hl2 := hs.2.2
 refine Fn.of_sw Tryz.func111 rfl (by kernel_rfl) fun l hl => ?_
 have hn : l.length = 94 := by rw [hl]; rfl
 have g0 : get l 0 = (.agg #[rv, I lo, I hi]) := by rw [hl]; rfl
 have g1 : get l 1 = (.agg #[(.string s.name), I s.num, I s.den, s.gv]) := by rw [hl]; rfl
 clear hl
 simp (disch := omega) only [↓RA, RB, simprocAttr, g0]
 refine (St.refl Tryz.prog H).eNew 3 [rv, I lo, I hi] rfl rfl (by simp [OC, ((St.refl Tryz.prog H).sl hr).cells.2.1]) a6B fun A1 H1 hS1 => ?_
 simp only [RT] at hS1
 simp (disch := omega) only [↓RA, RB, simprocAttr, g1]
 refine hS1.eNew 4 [(.string s.name), I s.num, I s.den, s.gv] rfl rfl (by simp [OC, (hS1.sl hs.1).cells.2.1]) gF fun A2 H2 hS2 => ?_
 simp only [RT] at hS2
 simp (disch := omega) only [↓RA, RZ, simprocAttr, hn, hS2.ldA 0 rfl]
 refine aB (a9x rv rs lo hi (hS2.sl hr) (fun r h => (hrk r h).keep hS2) hl) ?_
 rintro r H3 ⟨rfl, hT1⟩
 have hS3 := hS2.trans hT1
 simp only [RT] at hS3
 simp (disch := omega) only [↓RA, RB, simprocAttr, hn]
 refine aA (fun p1 => ?_) (fun p1 => ?_)
 ·simp (disch := omega) only [↓RA, RZ, simprocAttr, hn, lQ, p1]
  exact ⟨by rw [stopE, if_pos p1], hS3.forget⟩
 simp (disch := omega) only [↓RA, RZ, simprocAttr, hn, hS3.ld 1 rfl, p1]
 refine aB (iS s.name) ?_
 rintro r H4 ⟨rfl, hT2⟩
 have hS4 := hS3.trans hT2
 simp only [RT] at hS4
 simp (disch := omega) only [↓RA, RZ, simprocAttr, hn, p1]
 refine bK (fun p2 => ?_) (fun p2 => ?_)
 ·simp (disch := omega) only [↓RA, RZ, simprocAttr, hn, lQ, p1, p2]
  exact ⟨by rw [stopE, if_neg p1, if_pos (by simpa using p2)], hS4.forget⟩
 have p2' : ¬ cQ s.name = false := by simpa using p2
 simp (disch := omega) only [↓RA, RZ, simprocAttr, hn, hS4.ldA 1 rfl, p1, p2]
 refine aB (uA s.num s.den) ?_
 rintro r H5 ⟨rfl, hT3⟩
 have hS5 := hS4.trans hT3
 simp only [RT] at hS5
 simp (disch := omega) only [↓RA, RZ, simprocAttr, hn, p1, p2]
 refine aA (fun p3 => ?_) (fun p3 => ?_)
 ·simp (disch := omega) only [↓RA, RZ, simprocAttr, hn, lQ, p1, p2, p3]
  exact ⟨by rw [stopE, if_neg p1, if_neg p2', if_pos p3], hS5.forget⟩
 simp (disch := omega) only [↓RA, RZ, simprocAttr, hn, hS5.ld 1 rfl, (hS5.sl hs.1).len, p1, p2, p3]
 refine aA (fun p4 => ?_) (fun p4 => ?_)
 ·simp (disch := omega) only [↓RA, RZ, simprocAttr, hn, lQ, p1, p2, p3, p4]
  exact ⟨by rw [stopE, if_neg p1, if_neg p2', if_neg p3, if_pos (by omega)], hS5.forget⟩
 simp (disch := omega) only [↓RA, RZ, simprocAttr, hn, hS5.ld 1 rfl, (hS5.sl hs.1).len, p1, p2, p3, p4]
 refine aA (fun p5 => ?_) (fun p5 => ?_)
 ·simp (disch := omega) only [↓RA, RZ, simprocAttr, hn, lQ, p1, p2, p3, p4, p5]
  exact ⟨by rw [stopE, if_neg p1, if_neg p2', if_neg p3, if_neg (by omega), if_pos (by omega)], hS5.forget⟩
 have hE : stopE rs lo hi s = dG (cR lo hi rs.length s.segs) s.segs.length := by rw [stopE, if_neg p1, if_neg p2', if_neg p3, if_neg (by omega), if_neg (by omega)]
 simp (disch := omega) only [↓RA, RZ, simprocAttr, hn, hS5.ld 1 rfl, (hS5.sl hs.1).len, p1, p2, p3, p4, p5]
 refine Wp.loopS (fun n l H' => l.length = 94 ∧ get l 2 = (ptr A1 0 3) ∧ get l 3 = (ptr A2 0 4) ∧ get l 36 = s.gv ∧ get l 37 = I s.segs.length ∧ ∃ (i : Nat), (n + i = s.segs.length ∧ ∀ j, j < i → cR lo hi rs.length s.segs j = 0) ∧ get l 38 = I i ∧ St Tryz.prog H H' [⟨ptr A1 0 3, 0, [rv, I lo, I hi]⟩, ⟨ptr A2 0 4, 0, [(.string s.name), I s.num, I s.den, s.gv]⟩]) s.segs.length ?_ ?_
 ·simp (disch := omega) only [RB, RC, simprocAttr, hn]
  exact ⟨0, ⟨by omega, by simp⟩, rfl, hS5⟩
 rintro n l H6 ⟨hn, g2, g3, g36, g37, i, ⟨hi1,h0⟩, g38, hS6⟩
 simp (disch := omega) only [↓RA, RB, simprocAttr, hn, g37, g38]
 refine aA (fun q1 => ?_) (fun q1 => ?_)
 ·have key : cR lo hi rs.length s.segs i ≠ 0 → stopE rs lo hi s = cR lo hi rs.length s.segs i := fun hne => by rw [hE, fX _ _ i (by omega) hne h0]
  have ei : ((i : Int) - 1).toNat = i - 1 := by omega
  simp (disch := omega) only [↓RA, RZ, simprocAttr, hn, g36, g38, (hS6.sl hs.1).idx, (hS6.sl hs.1).ldA, Seg.cells, q1]
  refine hS6.eNew 3 [I 0, I 0, (.slice none 0 0)] rfl rfl rfl vM fun A3 H7 hS7 => ?_
  simp only [RT] at hS7
  simp (disch := omega) only [↓RA, RZ, simprocAttr, hn, q1]
  refine hS7.eStore 2 rfl [I (aC s.segs i).lo, I (aC s.segs i).hi, (aC s.segs i).dv] rfl (by simp [OC, (hS7.sl (hs.2.1 (aC s.segs i) (aF (by omega))).1).cells.2.1]) vM (by simp) fun H8 hS8 => ?_
  simp only [RT] at hS8
  simp (disch := omega) only [↓RA, RZ, simprocAttr, hn, g2, hS8.ld 2 rfl, hS8.ld 0 rfl, q1]
  refine aK (fun h1 => ?_) (fun h1 => ?_)
  ·simp (disch := omega) only [↓RA, RZ, simprocAttr, hn, lQ, q1, h1]
   (first | (have e1 : cR lo hi rs.length s.segs i = 23 := by rw [cR, if_pos (by omega)]); exact ⟨by rw [key (by rw [e1]; decide), e1], hS8.forget⟩ | (have e1 : cR lo hi rs.length s.segs i = 6 := by rw [cR, if_neg (by omega), if_pos (by omega)]); exact ⟨by rw [key (by rw [e1]; decide), e1], hS8.forget⟩ | (have e1 : cR lo hi rs.length s.segs i = dA rs.length (aC s.segs i).draws := by rw [cR, if_neg (by omega), if_neg (by omega)]); exact ⟨by rw [key (by rw [e1]; assumption), e1], hS8.forget⟩)
  simp (disch := omega) only [↓RA, RZ, simprocAttr, hn, g2, hS8.ld 2 rfl, hS8.ld 0 rfl, q1, h1]
  refine aA (fun h2 => ?_) (fun h2 => ?_)
  ·simp (disch := omega) only [↓RA, RZ, simprocAttr, hn, lQ, q1, h1, h2]
   (first | (have e1 : cR lo hi rs.length s.segs i = 23 := by rw [cR, if_pos (by omega)]); exact ⟨by rw [key (by rw [e1]; decide), e1], hS8.forget⟩ | (have e1 : cR lo hi rs.length s.segs i = 6 := by rw [cR, if_neg (by omega), if_pos (by omega)]); exact ⟨by rw [key (by rw [e1]; decide), e1], hS8.forget⟩ | (have e1 : cR lo hi rs.length s.segs i = dA rs.length (aC s.segs i).draws := by rw [cR, if_neg (by omega), if_neg (by omega)]); exact ⟨by rw [key (by rw [e1]; assumption), e1], hS8.forget⟩)
  simp (disch := omega) only [↓RA, RZ, simprocAttr, q1, h1, h2]
  refine Wp.drw cB (by kernel_rfl) ?_
  simp (disch := omega) only [↓RA, RZ, simprocAttr, hn, hS8.ld 2 rfl]
  refine aK (fun h3 => ?_) (fun h3 => ?_)
  ·simp (disch := omega) only [↓RA, RZ, simprocAttr, hn, lQ, h3]
   (first | (have e1 : cR lo hi rs.length s.segs i = 23 := by rw [cR, if_pos (by omega)]); exact ⟨by rw [key (by rw [e1]; decide), e1], hS8.forget⟩ | (have e1 : cR lo hi rs.length s.segs i = 6 := by rw [cR, if_neg (by omega), if_pos (by omega)]); exact ⟨by rw [key (by rw [e1]; decide), e1], hS8.forget⟩ | (have e1 : cR lo hi rs.length s.segs i = dA rs.length (aC s.segs i).draws := by rw [cR, if_neg (by omega), if_neg (by omega)]); exact ⟨by rw [key (by rw [e1]; assumption), e1], hS8.forget⟩)
  simp (disch := omega) only [↓RA, RZ, simprocAttr, hn, h3]
  refine bH (fun h4 => ?_) (fun h4 => ?_)
  ·simp (disch := omega) only [↓RA, RZ, simprocAttr, hn, g3, hS8.ld 2 rfl, hS8.ld 1 rfl, (hS8.sl hs.1).idx, (hS8.sl hs.1).fld, (hS8.sl hs.1).ld, Seg.cells, ei, h3, h4]
   refine aA (fun h5 => ?_) (fun h5 => ?_)
   ·simp (disch := omega) only [↓RA, RZ, simprocAttr, hn, lQ, h3, h4, h5]
    (first | (have e1 : cR lo hi rs.length s.segs i = 23 := by rw [cR, if_pos (by omega)]); exact ⟨by rw [key (by rw [e1]; decide), e1], hS8.forget⟩ | (have e1 : cR lo hi rs.length s.segs i = 6 := by rw [cR, if_neg (by omega), if_pos (by omega)]); exact ⟨by rw [key (by rw [e1]; decide), e1], hS8.forget⟩ | (have e1 : cR lo hi rs.length s.segs i = dA rs.length (aC s.segs i).draws := by rw [cR, if_neg (by omega), if_neg (by omega)]); exact ⟨by rw [key (by rw [e1]; assumption), e1], hS8.forget⟩)
   simp (disch := omega) only [↓RA, RZ, simprocAttr, hn, g2, hS8.ldA 0 rfl, hS8.ld 2 rfl, h3, h4, h5]
   refine aB (a2y rv rs lo hi (hS8.sl hr) hl _ _ (hS8.sl (hs.2.1 _ (aF (by omega))).1) (hs.2.1 _ (aF (by omega))).2) ?_
   rintro r H9 ⟨rfl, hT4⟩
   have hS9 := hS8.trans hT4
   simp only [RT] at hS9
   simp (disch := omega) only [↓RA, RZ, simprocAttr, hn, h3, h4, h5]
   refine aA (fun h6 => ?_) (fun h6 => ?_)
   ·simp (disch := omega) only [↓RA, RZ, simprocAttr, hn, lQ, h3, h4, h5, h6]
    (first | (have e1 : cR lo hi rs.length s.segs i = 23 := by rw [cR, if_pos (by omega)]); exact ⟨by rw [key (by rw [e1]; decide), e1], hS9.forget⟩ | (have e1 : cR lo hi rs.length s.segs i = 6 := by rw [cR, if_neg (by omega), if_pos (by omega)]); exact ⟨by rw [key (by rw [e1]; decide), e1], hS9.forget⟩ | (have e1 : cR lo hi rs.length s.segs i = dA rs.length (aC s.segs i).draws := by rw [cR, if_neg (by omega), if_neg (by omega)]); exact ⟨by rw [key (by rw [e1]; assumption), e1], hS9.forget⟩)
   simp (disch := omega) only [↓RA, RZ, simprocAttr, hn, g2, g3, g36, g37, g38, h3, h4, h5, h6]
   have e0 : cR lo hi rs.length s.segs i = 0 := by rw [cR, if_neg (by omega), if_neg (by omega)]; omega
   exact ⟨n - 1, by omega, i + 1, ⟨by omega, fun j hj => by rcases Nat.lt_succ_iff_lt_or_eq.1 hj with e | e; (· exact h0 j e); (· rw [e]; exact e0)⟩, by simp, hS9.sub (by simp)⟩
  simp (disch := omega) only [↓RA, RZ, simprocAttr, hn, g2, hS8.ldA 0 rfl, hS8.ld 2 rfl, h3, h4]
  refine aB (a2y rv rs lo hi (hS8.sl hr) hl _ _ (hS8.sl (hs.2.1 _ (aF (by omega))).1) (hs.2.1 _ (aF (by omega))).2) ?_
  rintro r H10 ⟨rfl, hT5⟩
  have hS10 := hS8.trans hT5
  simp only [RT] at hS10
  simp (disch := omega) only [↓RA, RZ, simprocAttr, hn, h3, h4]
  refine aA (fun h7 => ?_) (fun h7 => ?_)
  ·simp (disch := omega) only [↓RA, RZ, simprocAttr, hn, lQ, h3, h4, h7]
   (first | (have e1 : cR lo hi rs.length s.segs i = 23 := by rw [cR, if_pos (by omega)]); exact ⟨by rw [key (by rw [e1]; decide), e1], hS10.forget⟩ | (have e1 : cR lo hi rs.length s.segs i = 6 := by rw [cR, if_neg (by omega), if_pos (by omega)]); exact ⟨by rw [key (by rw [e1]; decide), e1], hS10.forget⟩ | (have e1 : cR lo hi rs.length s.segs i = dA rs.length (aC s.segs i).draws := by rw [cR, if_neg (by omega), if_neg (by omega)]); exact ⟨by rw [key (by rw [e1]; assumption), e1], hS10.forget⟩)
  simp (disch := omega) only [↓RA, RZ, simprocAttr, hn, g2, g3, g36, g37, g38, h3, h4, h7]
  have e0 : cR lo hi rs.length s.segs i = 0 := by rw [cR, if_neg (by omega), if_neg (by omega)]; omega
  exact ⟨n - 1, by omega, i + 1, ⟨by omega, fun j hj => by rcases Nat.lt_succ_iff_lt_or_eq.1 hj with e | e; (· exact h0 j e); (· rw [e]; exact e0)⟩, by simp, hS10.sub (by simp)⟩
 simp (disch := omega) only [↓RA, RZ, simprocAttr, hn, lQ, q1]
 exact ⟨by rw [hE, cO _ _ fun j hj => h0 j (by omega)], hS6.forget⟩
end Go.Ds
namespace Go.Ds
open Go.Proofs
variable {H : Heap}
theorem b4V (v : Value) (xs : List Cpl) (hv : Sl 5 Cpl.cells H v xs) (hl : xs.length < 1000000000) (k : FuncId) (caps : List Value) (p : Nat → Bool)
 (hf : ∀ j H1, j < xs.length → St Tryz.prog H H1 [] → Fn Tryz.prog k (.agg #[.string (aC xs j).name, I (aC xs j).src, I (aC xs j).dst, I (aC xs j).shift, .bool (aC xs j).thr] :: caps) H1 fun r H2 => r = .bool (p j) ∧ St Tryz.prog H1 H2 []) :
 Fn Tryz.prog 153 [v, .func (.func k) #[] caps.toArray] H fun r H' => r = I (jE p xs.length) ∧ St Tryz.prog H H' [] := by
 refine Fn.of_sw Tryz.func153 rfl (by kernel_rfl) fun l hl => ?_
 have hn : l.length = 19 := by rw [hl]; rfl
 have g0 : get l 0 = v := by rw [hl]; rfl
 have g1 : get l 1 = .func (.func k) #[] caps.toArray := by rw [hl]; rfl
 clear hl
 simp (disch := omega) only [↓RA, RZ, simprocAttr, hn, g0, ((St.refl Tryz.prog H).sl hv).len]
 refine Wp.loopS (fun n l H' => l.length = 19 ∧ get l 0 = v ∧ get l 1 = .func (.func k) #[] caps.toArray ∧ get l 7 = I xs.length ∧ ∃ (j : Nat), (n + j = xs.length ∧ ∀ q, q < j → p q = false) ∧ get l 8 = I j ∧ St Tryz.prog H H' []) xs.length ?_ ?_
 ·simp (disch := omega) only [RB, RC, simprocAttr, hn, g0, g1]
  exact ⟨0, ⟨by omega, fun q hq => absurd hq (Nat.not_lt_zero _)⟩, rfl, (St.refl Tryz.prog H)⟩
 rintro n l H1 ⟨hn, g0, g1, g7, j, ⟨hi,h0⟩, g8, hS1⟩
 simp (disch := omega) only [↓RA, RB, simprocAttr, hn, g7, g8]
 refine aA (fun h => ?_) (fun h => ?_)
 ·simp (disch := omega) only [↓RA, RZ, simprocAttr, hn, g0, g1, g8, (hS1.sl hv).idx, (hS1.sl hv).ldA, Cpl.cells, h]
  refine aB (hf j _ (by omega) hS1) ?_
  rintro r H2 ⟨rfl, hT1⟩
  have hS2 := hS1.trans hT1
  simp only [RT] at hS2
  simp (disch := omega) only [↓RA, RZ, simprocAttr, hn, h]
  refine bK (fun hp => ?_) (fun hp => ?_)
  ·simp (disch := omega) only [↓RA, RZ, simprocAttr, hn, b5E, h, hp]
   exact ⟨by rw [qA p xs.length j (by omega) hp h0], hS2⟩
  simp (disch := omega) only [↓RA, RZ, simprocAttr, hn, g0, g1, g7, g8, h, hp]
  exact ⟨n - 1, by omega, j + 1, ⟨by omega, fun q hq => by rcases Nat.lt_succ_iff_lt_or_eq.1 hq with e | e; (· exact h0 q e); (· rw [e]; exact hp)⟩, by simp, hS2⟩
 simp (disch := omega) only [↓RA, RZ, simprocAttr, hn, b5E, h]
 exact ⟨by rw [pE p xs.length fun q hq => h0 q (by omega)], hS1⟩
theorem b4h (v : Value) (xs : List Cpl) (hv : Sl 5 Cpl.cells H v xs) (hl : xs.length < 1000000000) (k : FuncId) (caps : List Value) (p : Nat → Bool)
 (hf : ∀ j H1, j < xs.length → St Tryz.prog H H1 [] → Fn Tryz.prog k (.agg #[.string (aC xs j).name, I (aC xs j).src, I (aC xs j).dst, I (aC xs j).shift, .bool (aC xs j).thr] :: caps) H1 fun r H2 => r = .bool (p j) ∧ St Tryz.prog H1 H2 []) :
 Fn Tryz.prog 112 [v, .func (.func k) #[] caps.toArray] H fun r H' => r = .bool (decide (0 ≤ jE p xs.length)) ∧ St Tryz.prog H H' [] := by
 refine Fn.of_sw Tryz.func112 rfl (by kernel_rfl) fun l hl => ?_
 have hn : l.length = 9 := by rw [hl]; rfl
 have g0 : get l 0 = v := by rw [hl]; rfl
 have g1 : get l 1 = .func (.func k) #[] caps.toArray := by rw [hl]; rfl
 clear hl
 simp (disch := omega) only [↓RA, RZ, simprocAttr, hn, g0, g1]
 refine aB (b4V v xs hv hl k caps p hf) ?_
 rintro r H1 ⟨rfl, hT1⟩
 have hS1 := (St.refl Tryz.prog H).trans hT1
 simp only [RT] at hS1
 simp (disch := omega) only [↓RA, RZ, simprocAttr, hn, c1R]
 first | exact hS1 | exact ⟨rfl, hS1⟩
theorem a4w (c : Cpl) (A : Nat) (d : Cpl) (hA : Var H A 5 d.cells) : Fn Tryz.prog 113 [.agg #[.string c.name, I c.src, I c.dst, I c.shift, .bool c.thr], ptr A 0 5] H fun r H' => r = .bool (decide (c.name = d.name)) ∧ St Tryz.prog H H' [] := by
 refine Fn.of_sw Tryz.func113 rfl (by kernel_rfl) fun l hl => ?_
 have hn : l.length = 9 := by rw [hl]; rfl
 have g0 : get l 0 = (.agg #[(.string c.name), I c.src, I c.dst, I c.shift, (.bool c.thr)]) := by rw [hl]; rfl
 have g1 : get l 1 = (ptr A 0 5) := by rw [hl]; rfl
 clear hl
 simp (disch := omega) only [↓RA, RB, simprocAttr, g0]
 refine (St.refl Tryz.prog H).eNew 5 [(.string c.name), I c.src, I c.dst, I c.shift, (.bool c.thr)] rfl rfl rfl lI fun A1 H1 hS1 => ?_
 simp only [RT] at hS1
 simp (disch := omega) only [↓RA, RZ, simprocAttr, hn, g1, hS1.ld 0 rfl, (hS1.va hA).ld, c0l, Cpl.cells]
 first | exact hS1.forget | exact ⟨rfl, hS1.forget⟩
def eG (m : Nat) (cs : List Cpl) (j : Nat) : Int :=
 let c := aC cs j
 if cQ c.name = false then 8 else if ∃ q, q < j ∧ (aC cs q).name = c.name then 9 else if c.src < 0 ∨ m ≤ c.src ∨ c.dst < 0 ∨ m ≤ c.dst then 10 else if c.shift < -127 ∨ 127 < c.shift then 3 else if c.src = c.dst ∧ c.shift = 0 then 7 else 0
def lT (ks : List (Int × Int)) (cs : List Cpl) : Int := if 8 < ks.length ∨ 40 < cs.length then 4 else if ∃ k ∈ ks, iV k.1 k.2 ≠ 0 then 23 else dG (eG ks.length cs) cs.length
end Go.Ds
namespace Go.Ds
open Go.Proofs
variable {H : Heap}
def kpc (k : Int × Int) : List Value := [I k.1, I k.2]
theorem a1F {α : Type} [Inhabited α] (xs : List α) (i j : Nat) (h : j < i) : aC (xs.take i) j = aC xs j := by
 unfold aC
 rw [List.getD_eq_getElem?_getD, List.getD_eq_getElem?_getD, List.getElem?_take_of_lt h]
theorem a2C (kv cv : Value) (ks : List (Int × Int)) (cs : List Cpl) (hk : Sl 2 kpc H kv ks) (hc : Sl 5 Cpl.cells H cv cs) (hl : ks.length < 1000000000) (hl2 : cs.length < 1000000000) :
 Fn Tryz.prog 77 [kv, cv] H fun v H' => v = I (lT ks cs) ∧ St Tryz.prog H H' [] := by
 refine Fn.of_sw Tryz.func77 rfl (by kernel_rfl) fun l hl => ?_
 have hn : l.length = 89 := by rw [hl]; rfl
 have g0 : get l 0 = kv := by rw [hl]; rfl
 have g1 : get l 1 = cv := by rw [hl]; rfl
 clear hl
 simp (disch := omega) only [↓RA, RZ, simprocAttr, hn, g0, ((St.refl Tryz.prog H).sl hk).len]
 refine aK (fun p1 => ?_) (fun p1 => ?_)
 ·simp (disch := omega) only [↓RA, RZ, simprocAttr, hn, sE, p1]
  exact ⟨by rw [lT, if_pos (by omega)], (St.refl Tryz.prog H)⟩
 simp (disch := omega) only [↓RA, RZ, simprocAttr, hn, g1, ((St.refl Tryz.prog H).sl hc).len, p1]
 refine aA (fun p2 => ?_) (fun p2 => ?_)
 ·simp (disch := omega) only [↓RA, RZ, simprocAttr, hn, sE, p1, p2]
  exact ⟨by rw [lT, if_pos (by omega)], (St.refl Tryz.prog H)⟩
 simp (disch := omega) only [↓RA, RZ, simprocAttr, hn, g0, ((St.refl Tryz.prog H).sl hk).len, p1, p2]
 refine Wp.loopS (fun n l H' => l.length = 89 ∧ get l 0 = kv ∧ get l 1 = cv ∧ get l 17 = kv ∧ get l 18 = I ks.length ∧ ∃ (i : Nat), (n + i = ks.length ∧ ∀ j, j < i → iV (aC ks j).1 (aC ks j).2 = 0) ∧ get l 19 = I i ∧ St Tryz.prog H H' []) ks.length ?_ ?_
 ·simp (disch := omega) only [RB, RC, simprocAttr, hn, g0, g1]
  exact ⟨0, ⟨by omega, by simp⟩, rfl, (St.refl Tryz.prog H)⟩
 rintro n l H1 ⟨hn, g0, g1, g17, g18, i, ⟨hi1,h0⟩, g19, hS1⟩
 simp (disch := omega) only [↓RA, RB, simprocAttr, hn, g18, g19]
 refine aA (fun p3 => ?_) (fun p3 => ?_)
 ·simp (disch := omega) only [↓RA, RZ, simprocAttr, hn, g17, g19, (hS1.sl hk).idx, (hS1.sl hk).ldA, kpc, p3]
  refine hS1.eNew 2 [I 0, I 0] rfl rfl rfl lN fun A1 H2 hS2 => ?_
  simp only [RT] at hS2
  simp (disch := omega) only [↓RA, RZ, simprocAttr, hn, p3]
  refine hS2.eStore 0 rfl [I (aC ks i).1, I (aC ks i).2] rfl rfl lN (by simp) fun H3 hS3 => ?_
  simp only [RT] at hS3
  simp (disch := omega) only [↓RA, RZ, simprocAttr, hn, hS3.ldA 0 rfl, p3]
  refine aB (tQ _ _) ?_
  rintro r H4 ⟨rfl, hT1⟩
  have hS4 := hS3.trans hT1
  simp only [RT] at hS4
  simp (disch := omega) only [↓RA, RZ, simprocAttr, hn, p3]
  refine aA (fun p4 => ?_) (fun p4 => ?_)
  ·simp (disch := omega) only [↓RA, RZ, simprocAttr, hn, sE, p3, p4]
   exact ⟨by rw [lT, if_neg (by omega), if_pos ⟨_, aF (by omega), p4⟩], hS4.forget⟩
  simp (disch := omega) only [↓RA, RZ, simprocAttr, hn, g0, g1, g17, g18, g19, p3, p4]
  exact ⟨n - 1, by omega, i + 1, ⟨by omega, fun j hj => by rcases Nat.lt_succ_iff_lt_or_eq.1 hj with e | e; (· exact h0 j e); (· rw [e]; exact Classical.not_not.1 p4)⟩, by simp, hS4.sub (by simp)⟩
 have hE : lT ks cs = dG (eG ks.length cs) cs.length := by
  rw [lT, if_neg (by omega), if_neg]
  rintro ⟨k, hk, hne⟩
  obtain ⟨j, hj, rfl⟩ := List.mem_iff_getElem.1 hk
  rw [← cF ks j hj] at hne
  exact hne (h0 j (by omega))
 simp (disch := omega) only [↓RA, RZ, simprocAttr, hn, g1, (hS1.sl hc).len, p3]
 refine Wp.loopS (fun n l H' => l.length = 89 ∧ get l 0 = kv ∧ get l 1 = cv ∧ get l 27 = cv ∧ get l 28 = I cs.length ∧ ∃ (i : Nat), (n + i = cs.length ∧ ∀ j, j < i → eG ks.length cs j = 0) ∧ get l 29 = I i ∧ St Tryz.prog H H' []) cs.length ?_ ?_
 ·simp (disch := omega) only [RB, RC, simprocAttr, hn, g0, g1]
  exact ⟨0, ⟨by omega, by simp⟩, rfl, hS1⟩
 rintro n l H5 ⟨hn, g0, g1, g27, g28, i, ⟨hi2,hz⟩, g29, hS5⟩
 simp (disch := omega) only [↓RA, RB, simprocAttr, hn, g28, g29]
 refine aA (fun q1 => ?_) (fun q1 => ?_)
 ·have key : eG ks.length cs i ≠ 0 → lT ks cs = eG ks.length cs i := fun hne => by rw [hE, fX _ _ i (by omega) hne hz]
  simp (disch := omega) only [↓RA, RZ, simprocAttr, hn, g27, g29, (hS5.sl hc).idx, (hS5.sl hc).ldA, Cpl.cells, q1]
  refine hS5.eNew 5 [(.string ⟨#[]⟩), I 0, I 0, I 0, (.bool false)] rfl rfl rfl lI fun A2 H6 hS6 => ?_
  simp only [RT] at hS6
  simp (disch := omega) only [↓RA, RZ, simprocAttr, hn, q1]
  refine hS6.eStore 0 rfl [(.string (aC cs i).name), I (aC cs i).src, I (aC cs i).dst, I (aC cs i).shift, (.bool (aC cs i).thr)] rfl rfl lI (by simp) fun H7 hS7 => ?_
  simp only [RT] at hS7
  simp (disch := omega) only [↓RA, RZ, simprocAttr, hn, hS7.ld 0 rfl, q1]
  refine aB (iS _) ?_
  rintro r H8 ⟨rfl, hT2⟩
  have hS8 := hS7.trans hT2
  simp only [RT] at hS8
  simp (disch := omega) only [↓RA, RZ, simprocAttr, hn, q1]
  refine bK (fun q2 => ?_) (fun q2 => ?_)
  ·have e1 : eG ks.length cs i = 8 := by unfold eG; simp only; rw [if_pos (by simpa using q2)]
   simp (disch := omega) only [↓RA, RZ, simprocAttr, hn, sE, q1, q2]
   exact ⟨by rw [key (by rw [e1]; decide), e1], hS8.forget⟩
  have q2' : ¬ cQ (aC cs i).name = false := by simpa using q2
  simp (disch := omega) only [↓RA, RZ, simprocAttr, hn, g1, (hS8.sl hc).sliceH, q1, q2]
  have hA := hS8.var 0 rfl
  refine aB (b4h _ (cs.take i) ((hS8.sl hc).subH i (by omega) (by omega)) (by simp; omega) 113 [ptr A2 0 5] (fun j => decide ((aC (cs.take i) j).name = (aC cs i).name)) (fun j H1 hj hS' => a4w _ A2 (aC cs i) (hS'.va hA))) ?_
  rintro r H9 ⟨rfl, hT3⟩
  have hS9 := hS8.trans hT3
  simp only [RT] at hS9
  have hx : 0 ≤ jE (fun j => decide ((aC (cs.take i) j).name = (aC cs i).name)) (cs.take i).length ↔ ∃ q, q < i ∧ (aC cs q).name = (aC cs i).name := by
   rw [tU]
   constructor
   ·rintro ⟨j, hj, hp⟩
    have hj' : j < i := by simp at hj; omega
    exact ⟨j, hj', by rw [← a1F cs i j hj']; exact of_decide_eq_true hp⟩
   ·rintro ⟨j, hj, hp⟩
    exact ⟨j, by simp; omega, decide_eq_true (by rw [a1F cs i j hj]; exact hp)⟩
  simp (disch := omega) only [↓RA, RZ, simprocAttr, hn, q1, q2]
  refine aA (fun q3 => ?_) (fun q3 => ?_)
  ·have e1 : eG ks.length cs i = 9 := by unfold eG; simp only; rw [if_neg q2', if_pos (hx.1 q3)]
   simp (disch := omega) only [↓RA, RZ, simprocAttr, hn, sE, q1, q2, q3]
   exact ⟨by rw [key (by rw [e1]; decide), e1], hS9.forget⟩
  have q3' : ¬ ∃ q, q < i ∧ (aC cs q).name = (aC cs i).name := fun hh => q3 (hx.2 hh)
  have hC : eG ks.length cs i = if (aC cs i).src < 0 ∨ ks.length ≤ (aC cs i).src ∨ (aC cs i).dst < 0 ∨ ks.length ≤ (aC cs i).dst then 10 else if (aC cs i).shift < -127 ∨ 127 < (aC cs i).shift then 3 else if (aC cs i).src = (aC cs i).dst ∧ (aC cs i).shift = 0 then 7 else 0 := by
   unfold eG; simp only; rw [if_neg q2', if_neg q3']
  clear hx
  simp (disch := omega) only [↓RA, RZ, simprocAttr, hn, hS9.ld 0 rfl, q1, q2, q3]
  refine aK (fun h1 => ?_) (fun h1 => ?_)
  ·simp (disch := omega) only [↓RA, RZ, simprocAttr, hn, sE, q1, q2, q3, h1]
   (first | (have e1 : eG ks.length cs i = 10 := by rw [hC, if_pos (by omega)]); exact ⟨by rw [key (by rw [e1]; decide), e1], hS9.forget⟩ | (have e1 : eG ks.length cs i = 3 := by rw [hC, if_neg (by omega), if_pos (by omega)]); exact ⟨by rw [key (by rw [e1]; decide), e1], hS9.forget⟩ | (have e1 : eG ks.length cs i = 7 := by rw [hC, if_neg (by omega), if_neg (by omega), if_pos (by omega)]); exact ⟨by rw [key (by rw [e1]; decide), e1], hS9.forget⟩)
  simp (disch := omega) only [↓RA, RZ, simprocAttr, hn, g0, hS9.ld 0 rfl, (hS9.sl hk).len, q1, q2, q3, h1]
  refine aK (fun h2 => ?_) (fun h2 => ?_)
  ·simp (disch := omega) only [↓RA, RZ, simprocAttr, hn, sE, q1, q2, q3, h1, h2]
   (first | (have e1 : eG ks.length cs i = 10 := by rw [hC, if_pos (by omega)]); exact ⟨by rw [key (by rw [e1]; decide), e1], hS9.forget⟩ | (have e1 : eG ks.length cs i = 3 := by rw [hC, if_neg (by omega), if_pos (by omega)]); exact ⟨by rw [key (by rw [e1]; decide), e1], hS9.forget⟩ | (have e1 : eG ks.length cs i = 7 := by rw [hC, if_neg (by omega), if_neg (by omega), if_pos (by omega)]); exact ⟨by rw [key (by rw [e1]; decide), e1], hS9.forget⟩)
  simp (disch := omega) only [↓RA, RZ, simprocAttr, hn, hS9.ld 0 rfl, q1, q2, q3, h1, h2]
  refine aK (fun h3 => ?_) (fun h3 => ?_)
  ·simp (disch := omega) only [↓RA, RZ, simprocAttr, hn, sE, q1, q2, q3, h1, h2, h3]
   (first | (have e1 : eG ks.length cs i = 10 := by rw [hC, if_pos (by omega)]); exact ⟨by rw [key (by rw [e1]; decide), e1], hS9.forget⟩ | (have e1 : eG ks.length cs i = 3 := by rw [hC, if_neg (by omega), if_pos (by omega)]); exact ⟨by rw [key (by rw [e1]; decide), e1], hS9.forget⟩ | (have e1 : eG ks.length cs i = 7 := by rw [hC, if_neg (by omega), if_neg (by omega), if_pos (by omega)]); exact ⟨by rw [key (by rw [e1]; decide), e1], hS9.forget⟩)
  simp (disch := omega) only [↓RA, RZ, simprocAttr, hn, g0, hS9.ld 0 rfl, (hS9.sl hk).len, q1, q2, q3, h1, h2, h3]
  refine aA (fun h4 => ?_) (fun h4 => ?_)
  ·simp (disch := omega) only [↓RA, RZ, simprocAttr, hn, sE, q1, q2, q3, h1, h2, h3, h4]
   (first | (have e1 : eG ks.length cs i = 10 := by rw [hC, if_pos (by omega)]); exact ⟨by rw [key (by rw [e1]; decide), e1], hS9.forget⟩ | (have e1 : eG ks.length cs i = 3 := by rw [hC, if_neg (by omega), if_pos (by omega)]); exact ⟨by rw [key (by rw [e1]; decide), e1], hS9.forget⟩ | (have e1 : eG ks.length cs i = 7 := by rw [hC, if_neg (by omega), if_neg (by omega), if_pos (by omega)]); exact ⟨by rw [key (by rw [e1]; decide), e1], hS9.forget⟩)
  simp (disch := omega) only [↓RA, RZ, simprocAttr, hn, hS9.ld 0 rfl, q1, q2, q3, h1, h2, h3, h4]
  refine aK (fun h5 => ?_) (fun h5 => ?_)
  ·simp (disch := omega) only [↓RA, RZ, simprocAttr, hn, sE, q1, q2, q3, h1, h2, h3, h4, h5]
   (first | (have e1 : eG ks.length cs i = 10 := by rw [hC, if_pos (by omega)]); exact ⟨by rw [key (by rw [e1]; decide), e1], hS9.forget⟩ | (have e1 : eG ks.length cs i = 3 := by rw [hC, if_neg (by omega), if_pos (by omega)]); exact ⟨by rw [key (by rw [e1]; decide), e1], hS9.forget⟩ | (have e1 : eG ks.length cs i = 7 := by rw [hC, if_neg (by omega), if_neg (by omega), if_pos (by omega)]); exact ⟨by rw [key (by rw [e1]; decide), e1], hS9.forget⟩)
  simp (disch := omega) only [↓RA, RZ, simprocAttr, hn, hS9.ld 0 rfl, q1, q2, q3, h1, h2, h3, h4, h5]
  refine aA (fun h6 => ?_) (fun h6 => ?_)
  ·simp (disch := omega) only [↓RA, RZ, simprocAttr, hn, sE, q1, q2, q3, h1, h2, h3, h4, h5, h6]
   (first | (have e1 : eG ks.length cs i = 10 := by rw [hC, if_pos (by omega)]); exact ⟨by rw [key (by rw [e1]; decide), e1], hS9.forget⟩ | (have e1 : eG ks.length cs i = 3 := by rw [hC, if_neg (by omega), if_pos (by omega)]); exact ⟨by rw [key (by rw [e1]; decide), e1], hS9.forget⟩ | (have e1 : eG ks.length cs i = 7 := by rw [hC, if_neg (by omega), if_neg (by omega), if_pos (by omega)]); exact ⟨by rw [key (by rw [e1]; decide), e1], hS9.forget⟩)
  simp (disch := omega) only [↓RA, RZ, simprocAttr, hn, hS9.ld 0 rfl, q1, q2, q3, h1, h2, h3, h4, h5, h6]
  refine bH (fun h7 => ?_) (fun h7 => ?_)
  ·simp (disch := omega) only [↓RA, RZ, simprocAttr, hn, hS9.ld 0 rfl, q1, q2, q3, h3, h4, h5, h6, h7]
   refine aA (fun h8 => ?_) (fun h8 => ?_)
   ·simp (disch := omega) only [↓RA, RZ, simprocAttr, hn, sE, q1, q2, q3, h3, h4, h7, h8]
    (first | (have e1 : eG ks.length cs i = 10 := by rw [hC, if_pos (by omega)]); exact ⟨by rw [key (by rw [e1]; decide), e1], hS9.forget⟩ | (have e1 : eG ks.length cs i = 3 := by rw [hC, if_neg (by omega), if_pos (by omega)]); exact ⟨by rw [key (by rw [e1]; decide), e1], hS9.forget⟩ | (have e1 : eG ks.length cs i = 7 := by rw [hC, if_neg (by omega), if_neg (by omega), if_pos (by omega)]); exact ⟨by rw [key (by rw [e1]; decide), e1], hS9.forget⟩)
   simp (disch := omega) only [↓RA, RZ, simprocAttr, hn, g0, g1, g27, g28, g29, q1, q2, q3, h3, h4, h5, h6, h7, h8]
   have e0 : eG ks.length cs i = 0 := by rw [hC, if_neg (by omega), if_neg (by omega), if_neg (by omega)]
   exact ⟨n - 1, by omega, i + 1, ⟨by omega, fun j hj => by rcases Nat.lt_succ_iff_lt_or_eq.1 hj with e | e; (· exact hz j e); (· rw [e]; exact e0)⟩, by simp, hS9.sub (by simp)⟩
  simp (disch := omega) only [↓RA, RZ, simprocAttr, hn, g0, g1, g27, g28, g29, q1, q2, q3, h1, h2, h3, h4, h5, h6, h7]
  have e0 : eG ks.length cs i = 0 := by rw [hC, if_neg (by omega), if_neg (by omega), if_neg (by omega)]
  exact ⟨n - 1, by omega, i + 1, ⟨by omega, fun j hj => by rcases Nat.lt_succ_iff_lt_or_eq.1 hj with e | e; (· exact hz j e); (· rw [e]; exact e0)⟩, by simp, hS9.sub (by simp)⟩
 simp (disch := omega) only [↓RA, RZ, simprocAttr, hn, sE, q1]
 exact ⟨by rw [hE, cO _ _ fun j hj => hz j (by omega)], hS5.forget⟩
end Go.Ds
namespace Go.Ds
open Go.Proofs
variable {H : Heap}
def gN (rs : List Rk) (lo hi : Int) (l : List Stp) (j : Nat) : Int := if stopE rs lo hi (aC l j) ≠ 0 then stopE rs lo hi (aC l j) else if ∃ q, q < j ∧ (aC l q).name = (aC l j).name then 9 else 0
def divE (rs : List Rk) (d : Dvn) : Int := if iV d.lo d.hi ≠ 0 then iV d.lo d.hi else if 60 < d.stops.length then 4 else dG (gN rs d.lo d.hi d.stops) d.stops.length
theorem rA {kvs kvs' : List (ByteArray × Bool)} {f : Nat → ByteArray} {i : Nat} (h : ∀ t, iK kvs t = true ↔ ∃ q, q < i ∧ f q = t) (h' : ∀ t, iK kvs' t = (iK kvs t || decide (t = f i))) : ∀ t, iK kvs' t = true ↔ ∃ q, q < i + 1 ∧ f q = t := by
 intro t
 rw [h', Bool.or_eq_true, h, decide_eq_true_iff]
 constructor
 ·rintro (⟨q, hq, e⟩ | e)
  ·exact ⟨q, by omega, e⟩
  ·exact ⟨i, by omega, e.symm⟩
 ·rintro ⟨q, hq, e⟩
  rcases Nat.lt_succ_iff_lt_or_eq.1 hq with hh | hh
  ·exact .inl ⟨q, hh, e⟩
  ·right; rw [← e, hh]
theorem xA (t : ByteArray) : iK [] t = false := rfl
theorem b8k (o : Org) (ho : o.In H) (d : Dvn) (hd : d.In H) :
 Fn Tryz.prog 76 [.agg #[.string o.name, o.rv, o.dv, o.cv], .agg #[.string d.name, .bool d.pedal, I d.lo, I d.hi, d.sv]] H fun v H' => v = I (divE o.ranks d) ∧ St Tryz.prog H H' [] := by
 have hl := hd.2.2
 refine Fn.of_sw Tryz.func76 rfl (by kernel_rfl) fun l hl => ?_
 have hn : l.length = 47 := by rw [hl]; rfl
 have g0 : get l 0 = (.agg #[(.string o.name), o.rv, o.dv, o.cv]) := by rw [hl]; rfl
 have g1 : get l 1 = (.agg #[(.string d.name), (.bool d.pedal), I d.lo, I d.hi, d.sv]) := by rw [hl]; rfl
 clear hl
 simp (disch := omega) only [↓RA, RB, simprocAttr, g0]
 refine (St.refl Tryz.prog H).eNew 4 [(.string o.name), o.rv, o.dv, o.cv] rfl rfl (by simp [OC, ((St.refl Tryz.prog H).sl ho.1).cells.2.1, ((St.refl Tryz.prog H).sl ho.2.2.1).cells.2.1, ((St.refl Tryz.prog H).sl ho.2.2.2.2.1).cells.2.1]) fH fun A1 H1 hS1 => ?_
 simp only [RT] at hS1
 simp (disch := omega) only [↓RA, RB, simprocAttr, g1]
 refine hS1.eNew 5 [(.string d.name), (.bool d.pedal), I d.lo, I d.hi, d.sv] rfl rfl (by simp [OC, (hS1.sl hd.1).cells.2.1]) lP fun A2 H2 hS2 => ?_
 simp only [RT] at hS2
 simp (disch := omega) only [↓RA, RZ, simprocAttr, hn, hS2.ldA 1 rfl]
 refine aB (tQ d.lo d.hi) ?_
 rintro r H3 ⟨rfl, hT1⟩
 have hS3 := hS2.trans hT1
 simp only [RT] at hS3
 simp (disch := omega) only [↓RA, RB, simprocAttr, hn]
 refine aA (fun p1 => ?_) (fun p1 => ?_)
 ·simp (disch := omega) only [↓RA, RZ, simprocAttr, hn, a9V, p1]
  exact ⟨by rw [divE, if_pos p1], hS3.forget⟩
 simp (disch := omega) only [↓RA, RZ, simprocAttr, hn, hS3.ld 1 rfl, (hS3.sl hd.1).len, p1]
 refine aA (fun p2 => ?_) (fun p2 => ?_)
 ·simp (disch := omega) only [↓RA, RZ, simprocAttr, hn, a9V, p1, p2]
  exact ⟨by rw [divE, if_neg p1, if_pos (by omega)], hS3.forget⟩
 have hE : divE o.ranks d = dG (gN o.ranks d.lo d.hi d.stops) d.stops.length := by rw [divE, if_neg p1, if_neg (by omega)]
 simp (disch := omega) only [↓RA, simprocAttr]
 refine hS3.eMap a2t fun M1 H4 hS4 => ?_
 simp only [RT] at hS4
 simp (disch := omega) only [↓RA, RZ, simprocAttr, hn, hS4.ld 1 rfl, (hS4.sl hd.1).len, p1, p2]
 refine Wp.loopS (fun n l H' => l.length = 47 ∧ get l 2 = (ptr A1 0 4) ∧ get l 3 = (ptr A2 0 5) ∧ get l 6 = (.map (some M1)) ∧ get l 23 = d.sv ∧ get l 24 = I d.stops.length ∧ ∃ (i : Nat) (kvs : List (ByteArray × Bool)), (n + i = d.stops.length ∧ (∀ j, j < i → gN o.ranks d.lo d.hi d.stops j = 0) ∧ (∀ t, iK kvs t = true ↔ ∃ q, q < i ∧ (aC d.stops q).name = t)) ∧ get l 25 = I i ∧ St Tryz.prog H H' [⟨ptr A1 0 4, 0, [(.string o.name), o.rv, o.dv, o.cv]⟩, ⟨ptr A2 0 5, 0, [(.string d.name), (.bool d.pedal), I d.lo, I d.hi, d.sv]⟩, ⟨.map (some M1), 0, KS kvs⟩]) d.stops.length ?_ ?_
 ·simp (disch := omega) only [RB, RC, simprocAttr, hn]
  exact ⟨0, [], ⟨by omega, by simp, by simp [xA]⟩, rfl, hS4⟩
 rintro n l H5 ⟨hn, g2, g3, g6, g23, g24, i, kvs, ⟨hi1,hz,hk⟩, g25, hS5⟩
 simp (disch := omega) only [↓RA, RB, simprocAttr, hn, g24, g25]
 refine aA (fun q1 => ?_) (fun q1 => ?_)
 ·have key : gN o.ranks d.lo d.hi d.stops i ≠ 0 → divE o.ranks d = gN o.ranks d.lo d.hi d.stops i := fun hne => by rw [hE, fX _ _ i (by omega) hne hz]
  simp (disch := omega) only [↓RA, RZ, simprocAttr, hn, g23, g25, (hS5.sl hd.1).idx, (hS5.sl hd.1).ldA, Stp.cells, q1]
  refine hS5.eNew 4 [(.string ⟨#[]⟩), I 0, I 0, (.slice none 0 0)] rfl rfl rfl gF fun A3 H6 hS6 => ?_
  simp only [RT] at hS6
  simp (disch := omega) only [↓RA, RZ, simprocAttr, hn, q1]
  refine hS6.eStore 3 rfl [(.string (aC d.stops i).name), I (aC d.stops i).num, I (aC d.stops i).den, (aC d.stops i).gv] rfl (by simp [OC, (hS6.sl (hd.2.1 (aC d.stops i) (aF (by omega))).1).cells.2.1]) gF (by simp) fun H7 hS7 => ?_
  simp only [RT] at hS7
  simp (disch := omega) only [↓RA, RZ, simprocAttr, hn, g2, g3, hS7.ld 0 rfl, hS7.ldA 1 rfl, a6Y (hS7.sl ho.1).cells, hS7.ldA 3 rfl, q1]
  refine aB (b3c o.rv o.ranks d.lo d.hi (hS7.sl ho.1) (fun r h => (ho.2.1 r h).keep hS7) ho.2.2.2.2.2.1 (aC d.stops i) ((hd.2.1 _ (aF (by omega))).keep hS7)) ?_
  rintro r H8 ⟨rfl, hT2⟩
  have hS8 := hS7.trans hT2
  simp only [RT] at hS8
  simp (disch := omega) only [↓RA, RZ, simprocAttr, hn, q1]
  refine aA (fun q2 => ?_) (fun q2 => ?_)
  ·have e1 : gN o.ranks d.lo d.hi d.stops i = stopE o.ranks d.lo d.hi (aC d.stops i) := by rw [gN, if_pos q2]
   simp (disch := omega) only [↓RA, RZ, simprocAttr, hn, a9V, q1, q2]
   exact ⟨by rw [key (by rw [e1]; exact q2), e1], hS8.forget⟩
  simp (disch := omega) only [↓RA, RZ, simprocAttr, hn, g6, hS8.ld 3 rfl, q1, q2]
  have hM1 := hS8.pick (os' := [⟨.map (some M1), 0, _⟩]) [2] (by decide) rfl
  have hR1 := hS8.pick (os' := [⟨.map (some M1), 0, _⟩, ⟨ptr A1 0 4, 0, _⟩, ⟨ptr A2 0 5, 0, _⟩, ⟨ptr A3 0 4, 0, _⟩]) [2, 0, 1, 3] (by decide) rfl
  refine aB (xF _ M1 kvs (aC d.stops i).name hM1.rebase) ?_
  rintro r H9 ⟨rfl, kvs', hk', hT3⟩
  have hS9 := hR1.frame hT3
  simp only [RT] at hS9
  simp (disch := omega) only [↓RA, RZ, simprocAttr, hn, q1, q2]
  refine aA (fun q3 => ?_) (fun q3 => ?_)
  ·have q3' : iK kvs (aC d.stops i).name = true := by
    by_cases hh : iK kvs (aC d.stops i).name = true
    ·exact hh
    ·rw [if_neg hh] at q3; exact absurd rfl q3
   have e1 : gN o.ranks d.lo d.hi d.stops i = 9 := by rw [gN, if_neg q2, if_pos ((hk _).1 q3')]
   simp (disch := omega) only [↓RA, RZ, simprocAttr, hn, a9V, q1, q2, q3]
   exact ⟨by rw [key (by rw [e1]; decide), e1, if_pos q3'], hS9.forget⟩
  have q3' : ¬ iK kvs (aC d.stops i).name = true := fun hh => q3 (by rw [if_pos hh]; decide)
  have e0 : gN o.ranks d.lo d.hi d.stops i = 0 := by rw [gN, if_neg q2, if_neg (fun hh => q3' ((hk _).2 hh))]
  simp (disch := omega) only [↓RA, RZ, simprocAttr, hn, g2, g3, g6, g23, g24, g25, q1, q2, q3]
  exact ⟨n - 1, by omega, i + 1, kvs', ⟨by omega, fun j hj => by rcases Nat.lt_succ_iff_lt_or_eq.1 hj with e | e; (· exact hz j e); (· rw [e]; exact e0), rA (f := fun q => (aC d.stops q).name) hk hk'⟩, by simp, hS9.pick [1, 2, 0] (by decide) rfl⟩
 simp (disch := omega) only [↓RA, RZ, simprocAttr, hn, a9V, q1]
 exact ⟨by rw [hE, cO _ _ fun j hj => hz j (by omega)], hS5.forget⟩
end Go.Ds
namespace Go.Ds
open Go.Proofs
variable {H : Heap}
def fU (l : List Rk) (j : Nat) : Int := if rankE (aC l j) ≠ 0 then rankE (aC l j) else if ∃ q, q < j ∧ (aC l q).name = (aC l j).name then 9 else 0
def lU (rs : List Rk) (l : List Dvn) (j : Nat) : Int := if cQ (aC l j).name = false then 8 else if ∃ q, q < j ∧ (aC l q).name = (aC l j).name then 9 else divE rs (aC l j)
def kps (l : List Dvn) : List (Int × Int) := l.map fun d => (d.lo, d.hi)
def organE (o : Org) : Int := if cQ o.name = false then 8 else if 60 < o.ranks.length then 4 else if dG (fU o.ranks) o.ranks.length ≠ 0 then dG (fU o.ranks) o.ranks.length else
 if o.dvs.length = 0 then 13 else if 8 < o.dvs.length then 4 else if dG (lU o.ranks o.dvs) o.dvs.length ≠ 0 then dG (lU o.ranks o.dvs) o.dvs.length else lT (kps o.dvs) o.cpls
theorem nF (k : Int × Int) : (kpc k).length = 2 := rfl
theorem b1z (l : List Dvn) (i : Nat) (h : i < l.length) : (kps (l.take (i + 1))).flatMap kpc = (kps (l.take i)).flatMap kpc ++ [I (aC l i).lo, I (aC l i).hi] := by
 unfold kps
 rw [xX l i h, List.map_append, List.flatMap_append]
 rfl
theorem wT (o : Org) (ho : o.In H) : Fn Tryz.prog 35 [.agg #[.string o.name, o.rv, o.dv, o.cv]] H fun v H' => v = I (organE o) ∧ St Tryz.prog H H' [] := by
 have hlr := ho.2.2.2.2.2.1
 have hld := ho.2.2.2.2.2.2.1
 have hlc := ho.2.2.2.2.2.2.2
 refine Fn.of_sw Tryz.func35 rfl (by kernel_rfl) fun l hl => ?_
 have hn : l.length = 89 := by rw [hl]; rfl
 have g0 : get l 0 = (.agg #[(.string o.name), o.rv, o.dv, o.cv]) := by rw [hl]; rfl
 clear hl
 simp (disch := omega) only [↓RA, RB, simprocAttr, g0]
 refine (St.refl Tryz.prog H).eNew 4 [(.string o.name), o.rv, o.dv, o.cv] rfl rfl (by simp [OC, ((St.refl Tryz.prog H).sl ho.1).cells.2.1, ((St.refl Tryz.prog H).sl ho.2.2.1).cells.2.1, ((St.refl Tryz.prog H).sl ho.2.2.2.2.1).cells.2.1]) fH fun A1 H1 hS1 => ?_
 simp only [RT] at hS1
 simp (disch := omega) only [↓RA, RZ, simprocAttr, hn, hS1.ld 0 rfl]
 refine aB (iS _) ?_
 rintro r H2 ⟨rfl, hT1⟩
 have hS2 := hS1.trans hT1
 simp only [RT] at hS2
 simp (disch := omega) only [↓RA, RB, simprocAttr, hn]
 refine bK (fun p1 => ?_) (fun p1 => ?_)
 ·simp (disch := omega) only [↓RA, RB, simprocAttr, hn, xQ, p1]
  exact ⟨by rw [organE, if_pos (by simpa using p1)], hS2.forget⟩
 have p1' : ¬ cQ o.name = false := by simpa using p1
 simp (disch := omega) only [↓RA, RZ, simprocAttr, hn, hS2.ld 0 rfl, (hS2.sl ho.1).len, p1]
 refine aA (fun p2 => ?_) (fun p2 => ?_)
 ·simp (disch := omega) only [↓RA, RZ, simprocAttr, hn, xQ, p1, p2]
  exact ⟨by rw [organE, if_neg p1', if_pos (by omega)], hS2.forget⟩
 simp (disch := omega) only [↓RA, simprocAttr]
 refine hS2.eMap a2t fun M1 H3 hS3 => ?_
 simp only [RT] at hS3
 simp (disch := omega) only [↓RA, RZ, simprocAttr, hn, hS3.ld 0 rfl, (hS3.sl ho.1).len, p1, p2]
 refine Wp.loopS (fun n l H' => l.length = 89 ∧ get l 1 = (ptr A1 0 4) ∧ get l 3 = (.map (some M1)) ∧ get l 25 = o.rv ∧ get l 26 = I o.ranks.length ∧ ∃ (i : Nat) (kvs : List (ByteArray × Bool)), (n + i = o.ranks.length ∧ (∀ j, j < i → fU o.ranks j = 0) ∧ (∀ t, iK kvs t = true ↔ ∃ q, q < i ∧ (aC o.ranks q).name = t)) ∧ get l 27 = I i ∧ St Tryz.prog H H' [⟨ptr A1 0 4, 0, [(.string o.name), o.rv, o.dv, o.cv]⟩, ⟨.map (some M1), 0, KS kvs⟩]) o.ranks.length ?_ ?_
 ·simp (disch := omega) only [RB, RC, simprocAttr, hn]
  exact ⟨0, [], ⟨by omega, by simp, by simp [xA]⟩, rfl, hS3⟩
 rintro n l H4 ⟨hn, g1, g3, g25, g26, i, kvs, ⟨hi1,hz,hk⟩, g27, hS4⟩
 simp (disch := omega) only [↓RA, RB, simprocAttr, hn, g26, g27]
 refine aA (fun q1 => ?_) (fun q1 => ?_)
 ·have key : fU o.ranks i ≠ 0 → organE o = fU o.ranks i := fun hne => by rw [organE, if_neg p1', if_neg (by omega), fX _ _ i (by omega) hne hz, if_pos hne]
  simp (disch := omega) only [↓RA, RZ, simprocAttr, hn, g25, g27, (hS4.sl ho.1).idx, (hS4.sl ho.1).ldA, Rk.cells, q1]
  refine hS4.eNew 6 [(.string ⟨#[]⟩), (.string ⟨#[]⟩), I 0, I 0, I 0, (.slice none 0 0)] rfl rfl rfl pD fun A2 H5 hS5 => ?_
  simp only [RT] at hS5
  simp (disch := omega) only [↓RA, RZ, simprocAttr, hn, q1]
  refine hS5.eStore 2 rfl [(.string (aC o.ranks i).name), (.string (aC o.ranks i).tone), I (aC o.ranks i).num, I (aC o.ranks i).den, I (aC o.ranks i).first, (aC o.ranks i).wv] rfl (by simp [OC, (hS5.sl (ho.2.1 (aC o.ranks i) (aF (by omega))).1).cells.2.1]) pD (by simp) fun H6 hS6 => ?_
  simp only [RT] at hS6
  simp (disch := omega) only [↓RA, RZ, simprocAttr, hn, hS6.ldA 2 rfl, q1]
  refine aB (a6q (aC o.ranks i) ((ho.2.1 _ (aF (by omega))).keep hS6)) ?_
  rintro r H7 ⟨rfl, hT2⟩
  have hS7 := hS6.trans hT2
  simp only [RT] at hS7
  simp (disch := omega) only [↓RA, RZ, simprocAttr, hn, q1]
  refine aA (fun q2 => ?_) (fun q2 => ?_)
  ·have e1 : fU o.ranks i = rankE (aC o.ranks i) := by rw [fU, if_pos q2]
   simp (disch := omega) only [↓RA, RZ, simprocAttr, hn, xQ, q1, q2]
   exact ⟨by rw [key (by rw [e1]; exact q2), e1], hS7.forget⟩
  simp (disch := omega) only [↓RA, RZ, simprocAttr, hn, g3, hS7.ld 2 rfl, q1, q2]
  have hM1 := hS7.pick (os' := [⟨.map (some M1), 0, _⟩]) [1] (by decide) rfl
  have hR1 := hS7.pick (os' := [⟨.map (some M1), 0, _⟩, ⟨ptr A1 0 4, 0, _⟩, ⟨ptr A2 0 6, 0, _⟩]) [1, 0, 2] (by decide) rfl
  refine aB (xF _ M1 kvs (aC o.ranks i).name hM1.rebase) ?_
  rintro r H8 ⟨rfl, kvs', hk', hT3⟩
  have hS8 := hR1.frame hT3
  simp only [RT] at hS8
  simp (disch := omega) only [↓RA, RZ, simprocAttr, hn, q1, q2]
  refine aA (fun q3 => ?_) (fun q3 => ?_)
  ·have q3' : iK kvs (aC o.ranks i).name = true := by
    by_cases hh : iK kvs (aC o.ranks i).name = true
    ·exact hh
    ·rw [if_neg hh] at q3; exact absurd rfl q3
   have e1 : fU o.ranks i = 9 := by rw [fU, if_neg q2, if_pos ((hk _).1 q3')]
   simp (disch := omega) only [↓RA, RZ, simprocAttr, hn, xQ, q1, q2, q3]
   exact ⟨by rw [key (by rw [e1]; decide), e1, if_pos q3'], hS8.forget⟩
  have q3' : ¬ iK kvs (aC o.ranks i).name = true := fun hh => q3 (by rw [if_pos hh]; decide)
  have e0 : fU o.ranks i = 0 := by rw [fU, if_neg q2, if_neg (fun hh => q3' ((hk _).2 hh))]
  simp (disch := omega) only [↓RA, RZ, simprocAttr, hn, g1, g3, g25, g26, g27, q1, q2, q3]
  exact ⟨n - 1, by omega, i + 1, kvs', ⟨by omega, fun j hj => by rcases Nat.lt_succ_iff_lt_or_eq.1 hj with e | e; (· exact hz j e); (· rw [e]; exact e0), rA (f := fun q => (aC o.ranks q).name) hk hk'⟩, by simp, hS8.pick [1, 0] (by decide) rfl⟩
 have hR : dG (fU o.ranks) o.ranks.length = 0 := cO _ _ fun j hj => hz j (by omega)
 clear hk hz
 simp (disch := omega) only [↓RA, RZ, simprocAttr, hn, g1, hS4.ld 0 rfl, (hS4.sl ho.2.2.1).len, q1]
 refine aA (fun p4 => ?_) (fun p4 => ?_)
 ·simp (disch := omega) only [↓RA, RZ, simprocAttr, hn, xQ, q1, p4]
  exact ⟨by rw [organE, if_neg p1', if_neg (by omega), if_neg (by rw [hR]; simp), if_pos (by omega)], hS4.forget⟩
 simp (disch := omega) only [↓RA, RZ, simprocAttr, hn, g1, hS4.ld 0 rfl, (hS4.sl ho.2.2.1).len, q1, p4]
 refine aA (fun p5 => ?_) (fun p5 => ?_)
 ·simp (disch := omega) only [↓RA, RZ, simprocAttr, hn, xQ, q1, p4, p5]
  exact ⟨by rw [organE, if_neg p1', if_neg (by omega), if_neg (by rw [hR]; simp), if_neg (by omega), if_pos (by omega)], hS4.forget⟩
 have hE : organE o = if dG (lU o.ranks o.dvs) o.dvs.length ≠ 0 then dG (lU o.ranks o.dvs) o.dvs.length else lT (kps o.dvs) o.cpls := by
  rw [organE, if_neg p1', if_neg (by omega), if_neg (by rw [hR]; simp), if_neg (by omega), if_neg (by omega)]
 clear hR
 simp (disch := omega) only [↓RA, simprocAttr]
 refine hS4.eMap a2t fun M2 H9 hS9 => ?_
 simp only [RT] at hS9
 simp (disch := omega) only [↓RA, RZ, simprocAttr, hn, g1, hS9.ld 0 rfl, (hS9.sl ho.2.2.1).len, q1, p4, p5]
 have hS10 := hS9.pick (os' := [⟨ptr A1 0 4, 0, _⟩, ⟨.map (some M2), 0, _⟩]) [0, 2] (by decide) rfl
 have hS11 := hS10.nil 1
 simp only [RT] at hS11
 refine Wp.loopS (fun n l H' => l.length = 89 ∧ get l 1 = (ptr A1 0 4) ∧ get l 3 = (.map (some M2)) ∧ get l 56 = o.dv ∧ get l 57 = I o.dvs.length ∧ ∃ (i : Nat) (kvs : List (ByteArray × Bool)) (w : Value), (n + i = o.dvs.length ∧ (∀ j, j < i → lU o.ranks o.dvs j = 0) ∧ (∀ t, iK kvs t = true ↔ ∃ q, q < i ∧ (aC o.dvs q).name = t)) ∧ get l 58 = I i ∧ get l 8 = w ∧ St Tryz.prog H H' [⟨ptr A1 0 4, 0, [(.string o.name), o.rv, o.dv, o.cv]⟩, ⟨.map (some M2), 0, KS kvs⟩, ⟨w, 2, (kps (o.dvs.take i)).flatMap kpc⟩]) o.dvs.length ?_ ?_
 ·simp (disch := omega) only [RB, RC, simprocAttr, hn, g1]
  exact ⟨0, [], _, ⟨by omega, by simp, by simp [xA]⟩, rfl, rfl, hS11⟩
 rintro n l H10 ⟨hn, g1, g3, g56, g57, i, kvs, w, ⟨hi1,hz,hk⟩, g58, g8, hS12⟩
 simp (disch := omega) only [↓RA, RB, simprocAttr, hn, g57, g58]
 refine aA (fun q1 => ?_) (fun q1 => ?_)
 ·have key : lU o.ranks o.dvs i ≠ 0 → organE o = lU o.ranks o.dvs i := fun hne => by rw [hE, fX _ _ i (by omega) hne hz, if_pos hne]
  simp (disch := omega) only [↓RA, RZ, simprocAttr, hn, g56, g58, (hS12.sl ho.2.2.1).idx, (hS12.sl ho.2.2.1).ldA, Dvn.cells, q1]
  refine hS12.eNew 5 [(.string ⟨#[]⟩), (.bool false), I 0, I 0, (.slice none 0 0)] rfl rfl rfl lP fun A3 H11 hS13 => ?_
  simp only [RT] at hS13
  simp (disch := omega) only [↓RA, RZ, simprocAttr, hn, q1]
  refine hS13.eStore 3 rfl [(.string (aC o.dvs i).name), (.bool (aC o.dvs i).pedal), I (aC o.dvs i).lo, I (aC o.dvs i).hi, (aC o.dvs i).sv] rfl (by simp [OC, (hS13.sl (ho.2.2.2.1 (aC o.dvs i) (aF (by omega))).1).cells.2.1]) lP (by simp) fun H12 hS14 => ?_
  simp only [RT] at hS14
  simp (disch := omega) only [↓RA, RZ, simprocAttr, hn, hS14.ld 3 rfl, q1]
  refine aB (iS _) ?_
  rintro r H13 ⟨rfl, hT4⟩
  have hS15 := hS14.trans hT4
  simp only [RT] at hS15
  simp (disch := omega) only [↓RA, RZ, simprocAttr, hn, q1]
  refine bK (fun q2 => ?_) (fun q2 => ?_)
  ·have e1 : lU o.ranks o.dvs i = 8 := by rw [lU, if_pos (by simpa using q2)]
   simp (disch := omega) only [↓RA, RZ, simprocAttr, hn, xQ, q1, q2]
   exact ⟨by rw [key (by rw [e1]; decide), e1], hS15.forget⟩
  have q2' : ¬ cQ (aC o.dvs i).name = false := by simpa using q2
  simp (disch := omega) only [↓RA, RZ, simprocAttr, hn, g3, hS15.ld 3 rfl, q1, q2]
  have hM2 := hS15.pick (os' := [⟨.map (some M2), 0, _⟩]) [1] (by decide) rfl
  have hR2 := hS15.pick (os' := [⟨.map (some M2), 0, _⟩, ⟨ptr A1 0 4, 0, _⟩, ⟨w, 2, _⟩, ⟨ptr A3 0 5, 0, _⟩]) [1, 0, 2, 3] (by decide) rfl
  refine aB (xF _ M2 kvs (aC o.dvs i).name hM2.rebase) ?_
  rintro r H14 ⟨rfl, kvs', hk', hT5⟩
  have hS16 := hR2.frame hT5
  simp only [RT] at hS16
  simp (disch := omega) only [↓RA, RZ, simprocAttr, hn, q1, q2]
  refine aA (fun q3 => ?_) (fun q3 => ?_)
  ·have q3' : iK kvs (aC o.dvs i).name = true := by
    by_cases hh : iK kvs (aC o.dvs i).name = true
    ·exact hh
    ·rw [if_neg hh] at q3; exact absurd rfl q3
   have e1 : lU o.ranks o.dvs i = 9 := by rw [lU, if_neg q2', if_pos ((hk _).1 q3')]
   simp (disch := omega) only [↓RA, RZ, simprocAttr, hn, xQ, q1, q2, q3]
   exact ⟨by rw [key (by rw [e1]; decide), e1, if_pos q3'], hS16.forget⟩
  have q3' : ¬ iK kvs (aC o.dvs i).name = true := fun hh => q3 (by rw [if_pos hh]; decide)
  simp (disch := omega) only [↓RA, RZ, simprocAttr, hn, g1, hS16.ldA 1 rfl, hS16.ldA 3 rfl, q1, q2, q3]
  refine aB (b8k o (ho.keep hS16) (aC o.dvs i) ((ho.2.2.2.1 _ (aF (by omega))).keep hS16)) ?_
  rintro r H15 ⟨rfl, hT6⟩
  have hS17 := hS16.trans hT6
  simp only [RT] at hS17
  have e0 : lU o.ranks o.dvs i = divE o.ranks (aC o.dvs i) := by rw [lU, if_neg q2', if_neg (fun hh => q3' ((hk _).2 hh))]
  simp (disch := omega) only [↓RA, RZ, simprocAttr, hn, q1, q2, q3]
  refine aA (fun q4 => ?_) (fun q4 => ?_)
  ·simp (disch := omega) only [↓RA, RZ, simprocAttr, hn, xQ, q1, q2, q3, q4]
   exact ⟨by rw [key (by rw [e0]; exact q4), e0], hS17.forget⟩
  have e2 : lU o.ranks o.dvs i = 0 := by rw [e0]; exact Classical.not_not.1 q4
  simp (disch := omega) only [↓RA, RZ, simprocAttr, hn, g8, hS17.ldA 3 rfl, q1, q2, q3, q4]
  refine hS17.eSlice [I (aC o.dvs i).lo, I (aC o.dvs i).hi] b5D b9n rfl rfl (by simp [Value.cells]) rfl rfl (by decide) (by decide) fun w1 H16 hS18 => ?_
  simp only [RT] at hS18
  simp (disch := omega) only [↓RA, RZ, simprocAttr, hn, q1, q2, q3, q4]
  refine hS18.eAppend 2 rfl (hS18.rd 4 rfl) b5D (by rw [aS nF]; simp [kps]; omega) fun w2 H17 hS19 => ?_
  simp only [RT] at hS19
  simp (disch := omega) only [↓RA, RZ, simprocAttr, hn, g1, g3, g56, g57, g58, q1, q2, q3, q4]
  refine ⟨n - 1, by omega, i + 1, kvs', _, ⟨by omega, fun j hj => by rcases Nat.lt_succ_iff_lt_or_eq.1 hj with e | e; (· exact hz j e); (· rw [e]; exact e2), rA (f := fun q => (aC o.dvs q).name) hk hk'⟩, by simp, rfl, ?_⟩
  rw [b1z _ _ (by omega)]
  exact hS19.pick [1, 0, 2] (by decide) rfl
 have hD : dG (lU o.ranks o.dvs) o.dvs.length = 0 := cO _ _ fun j hj => hz j (by omega)
 have hi : i = o.dvs.length := by omega
 subst hi
 rw [List.take_length] at hS12
 simp (disch := omega) only [↓RA, RZ, simprocAttr, hn, g1, g8, hS12.ld 0 rfl, q1]
 refine aB (a2C w o.cv (kps o.dvs) o.cpls (hS12.slo 2 rfl nF) (hS12.sl ho.2.2.2.2.1) (by simp [kps]; omega) hlc) ?_
 rintro r H18 ⟨rfl, hT7⟩
 have hS20 := hS12.trans hT7
 simp only [RT] at hS20
 simp (disch := omega) only [↓RA, RZ, simprocAttr, hn, xQ, q1]
 exact ⟨by rw [hE, if_neg (by rw [hD]; simp)], hS20.forget⟩
end Go.Ds
namespace Go.Ds
open Go.Proofs
variable {H : Heap}
def cS : List (Int × Int) := [(8, 1), (4, 1), (16, 1), (8, 3), (2, 1), (8, 5)]
def dO : List (Int × Int) := [(8, 1), (4, 1), (16, 1), (2, 1), (8, 3), (8, 5), (4, 3), (1, 1), (32, 1), (16, 3), (16, 5), (32, 3), (8, 7), (2, 3), (1, 2), (64, 1)]
theorem a1A (k : Nat) : Fn Tryz.prog 88 [.int .u8 k] H fun r H' => r = .agg #[I (aC cS (k % 6)).1, I (aC cS (k % 6)).2] ∧ St Tryz.prog H H' [] := by
 refine Fn.of_sw Tryz.func88 rfl (by kernel_rfl) fun l hl => ?_
 have hn : l.length = 14 := by rw [hl]; rfl
 have g0 : get l 0 = (.int .u8 k) := by rw [hl]; rfl
 clear hl
 simp (disch := omega) only [↓RA, RZ, simprocAttr]
 refine (St.refl Tryz.prog H).eNew 2 [I 0, I 0] rfl rfl rfl rC fun A1 H1 hS1 => ?_
 simp only [RT] at hS1
 simp (disch := omega) only [↓RA, RB, simprocAttr, hn, mR]
 refine hS1.eSlice [I 8, I 1, I 4, I 1, I 16, I 1, I 8, I 3, I 2, I 1, I 8, I 5] b5P b5Q rfl rfl (by simp [Value.cells]) rfl rfl (by decide) (by decide) fun w1 H2 hS2 => ?_
 simp only [RT] at hS2
 simp (disch := omega) only [↓RA, RZ, simprocAttr, hn, g0]
 have hR : St Tryz.prog H H2 [⟨ptr A1 0 2, 0, _⟩, ⟨w1, 2, cS.flatMap kpc⟩] := hS2
 have hL : cS.length = 6 := rfl
 have hk : k % 6 < 6 := Nat.mod_lt _ (by decide)
 have hk2 : (k : Int).tmod 6 = ((k % 6 : Nat) : Int) := (Int.ofNat_tmod k 6).symm
 try rw [hk2]
 simp (disch := omega) only [↓RA, RZ, simprocAttr, hn, (hR.slo 1 rfl nF).idx, (hR.slo 1 rfl nF).ldA, kpc]
 refine hR.eStore 0 rfl [I (aC cS (k % 6 : Nat)).1, I (aC cS (k % 6 : Nat)).2] rfl rfl rC (by simp) fun H3 hS3 => ?_
 simp only [RT] at hS3
 simp (disch := omega) only [↓RA, RZ, simprocAttr, hn, c3N, hS3.ldA 0 rfl]
 first | exact hS3.forget | exact ⟨rfl, hS3.forget⟩
theorem a2I (k : Nat) : Fn Tryz.prog 87 [.int .u8 k] H fun r H' => r = .agg #[I (aC dO (k % 16)).1, I (aC dO (k % 16)).2] ∧ St Tryz.prog H H' [] := by
 refine Fn.of_sw Tryz.func87 rfl (by kernel_rfl) fun l hl => ?_
 have hn : l.length = 24 := by rw [hl]; rfl
 have g0 : get l 0 = (.int .u8 k) := by rw [hl]; rfl
 clear hl
 simp (disch := omega) only [↓RA, RZ, simprocAttr]
 refine (St.refl Tryz.prog H).eNew 2 [I 0, I 0] rfl rfl rfl rC fun A1 H1 hS1 => ?_
 simp only [RT] at hS1
 simp (disch := omega) only [↓RA, RB, simprocAttr, hn, mR]
 refine hS1.eSlice [I 8, I 1, I 4, I 1, I 16, I 1, I 2, I 1, I 8, I 3, I 8, I 5, I 4, I 3, I 1, I 1, I 32, I 1, I 16, I 3, I 16, I 5, I 32, I 3, I 8, I 7, I 2, I 3, I 1, I 2, I 64, I 1] b5P b5Q rfl rfl (by simp [Value.cells]) rfl rfl (by decide) (by decide) fun w1 H2 hS2 => ?_
 simp only [RT] at hS2
 simp (disch := omega) only [↓RA, RZ, simprocAttr, hn, g0]
 have hR : St Tryz.prog H H2 [⟨ptr A1 0 2, 0, _⟩, ⟨w1, 2, dO.flatMap kpc⟩] := hS2
 have hL : dO.length = 16 := rfl
 have hk : k % 16 < 16 := Nat.mod_lt _ (by decide)
 have hk2 : (k : Int).tmod 16 = ((k % 16 : Nat) : Int) := (Int.ofNat_tmod k 16).symm
 try rw [hk2]
 simp (disch := omega) only [↓RA, RZ, simprocAttr, hn, (hR.slo 1 rfl nF).idx, (hR.slo 1 rfl nF).ldA, kpc]
 refine hR.eStore 0 rfl [I (aC dO (k % 16 : Nat)).1, I (aC dO (k % 16 : Nat)).2] rfl rfl rC (by simp) fun H3 hS3 => ?_
 simp only [RT] at hS3
 simp (disch := omega) only [↓RA, RZ, simprocAttr, hn, c3C, hS3.ldA 0 rfl]
 first | exact hS3.forget | exact ⟨rfl, hS3.forget⟩
end Go.Ds
namespace Go.Ds
open Go.Proofs
variable {H : Heap}
set_option maxRecDepth 10000
structure RPl where
 tone : Nat
 feet : Nat
 first : Int
 pipes : Nat
 w0 : Nat
 w1 : Nat
 w2 : Nat
 w3 : Nat
 w4 : Nat
 deriving Inhabited
def RPl.cells (p : RPl) : List Value := [.int .u8 p.tone, .int .u8 p.feet, .int .i8 p.first, .int .u8 p.pipes, .int .u8 p.w0, .int .u8 p.w1, .int .u8 p.w2, .int .u8 p.w3, .int .u8 p.w4]
def RPl.Ok (p : RPl) : Prop := p.tone < 256 ∧ p.feet < 256 ∧ -128 ≤ p.first ∧ p.first < 128 ∧ p.pipes < 256 ∧ p.w0 < 256 ∧ p.w1 < 256 ∧ p.w2 < 256 ∧ p.w3 < 256 ∧ p.w4 < 256
def RPl.wind (p : RPl) (j : Nat) : Nat := aC [p.w0, p.w1, p.w2, p.w3, p.w4] (j % 5)
theorem RPl.Ok.wind {p : RPl} (hp : p.Ok) (j : Nat) : p.wind j < 256 := by
 obtain ⟨_, _, _, _, _, h0, h1, h2, h3, h4⟩ := hp
 have : j % 5 = 0 ∨ j % 5 = 1 ∨ j % 5 = 2 ∨ j % 5 = 3 ∨ j % 5 = 4 := by omega
 unfold RPl.wind
 rcases this with e | e | e | e | e <;> rw [e] <;> assumption
def lK : List ByteArray := [⟨#[79, 112, 101, 110]⟩, ⟨#[70, 108, 117, 116, 101]⟩, ⟨#[82, 101, 101, 100]⟩]
theorem a7m (p : RPl) (hp : p.Ok) (i : Nat) (hi : i < 10) : Fn Tryz.prog 43 [.agg #[.int .u8 p.tone, .int .u8 p.feet, .int .i8 p.first, .int .u8 p.pipes, .int .u8 p.w0, .int .u8 p.w1, .int .u8 p.w2, .int .u8 p.w3, .int .u8 p.w4], I i] H fun r H' =>
 ∃ wv, r = .agg #[.string ⟨#[82, UInt8.ofNat (48 + i)]⟩, .string (aC lK (p.tone % 3)), I (aC dO (p.feet % 16)).1, I (aC dO (p.feet % 16)).2, I p.first, wv] ∧
   St Tryz.prog H H' [⟨wv, 1, (List.range (1 + p.pipes % 25)).map fun j => I (p.wind j)⟩] := by
 have hwb := fun j => hp.wind j
 obtain ⟨h1, h2, h3, h4, h5, _⟩ := hp
 refine Fn.of_sw Tryz.func43 rfl (by kernel_rfl) fun l hl => ?_
 have hn : l.length = 48 := by rw [hl]; rfl
 have g0 : get l 0 = (.agg #[(.int .u8 p.tone), (.int .u8 p.feet), (.int .i8 p.first), (.int .u8 p.pipes), (.int .u8 p.w0), (.int .u8 p.w1), (.int .u8 p.w2), (.int .u8 p.w3), (.int .u8 p.w4)]) := by rw [hl]; rfl
 have g1 : get l 1 = I i := by rw [hl]; rfl
 clear hl
 have hm : (i : Int).tmod 10 = i := ((Int.ofNat_tmod i 10).symm).trans (by rw [Nat.mod_eq_of_lt hi])
 have ht : (p.tone : Int).tmod 3 = ((p.tone % 3 : Nat) : Int) := (Int.ofNat_tmod p.tone 3).symm
 have ht3 : p.tone % 3 < 3 := Nat.mod_lt _ (by decide)
 have htl : lK.length = 3 := rfl
 simp (disch := omega) only [↓RA, RB, simprocAttr, g0]
 refine (St.refl Tryz.prog H).eNew 9 [(.int .u8 p.tone), (.int .u8 p.feet), (.int .i8 p.first), (.int .u8 p.pipes), (.int .u8 p.w0), (.int .u8 p.w1), (.int .u8 p.w2), (.int .u8 p.w3), (.int .u8 p.w4)] rfl rfl rfl b0d fun A1 H1 hS1 => ?_
 simp only [RT] at hS1
 simp (disch := omega) only [↓RA, RZ, simprocAttr]
 refine hS1.eNew 6 [(.string ⟨#[]⟩), (.string ⟨#[]⟩), I 0, I 0, I 0, (.slice none 0 0)] rfl rfl rfl pD fun A2 H2 hS2 => ?_
 simp only [RT] at hS2
 simp (disch := omega) only [↓RA, simprocAttr]
 refine Wp.drwM cB [13, 14, 15, 16, 17, 18, 0, 1, 2, 3, 4, 5, 6, 7, 8, 9, 10, 11, 12, 19, 20, 21] [6, 7, 8, 9, 10, 11, 12, 13, 14, 15, 16, 17, 18, 0, 1, 2, 3, 4, 5, 19, 20, 21] ⟨true, [], [(11, 10), (17, 13), (18, 13)]⟩ [(4, 0), (5, 0), (9, 0), (15, 0), (15, 3)] (by kernel_rfl) (by kernel_rfl) (by kernel_rfl) ?_
 simp (disch := omega) only [↓RA, RZ, simprocAttr, hn, hS2.ld 0 rfl]
 refine aB (a2I p.feet) ?_
 rintro r H3 ⟨rfl, hT1⟩
 have hS3 := hS2.trans hT1
 simp only [RT] at hS3
 simp (disch := omega) only [↓RA, RZ, simprocAttr, hn, g1, hS3.ld 0 rfl, hm]
 refine hS3.eSlice [_] a5V a6I rfl rfl (by simp [Value.cells]) rfl rfl (by decide) (by decide) fun w1 H4 hS4 => ?_
 simp only [RT] at hS4
 simp (disch := omega) only [↓RA, RB, simprocAttr, hn, nG (hS4.rd 2 rfl) fB.1 fB.2.1 fB.2.2, lF]
 refine hS4.eSlice [(.string ⟨#[79, 112, 101, 110]⟩), (.string ⟨#[70, 108, 117, 116, 101]⟩), (.string ⟨#[82, 101, 101, 100]⟩)] c0e c0w rfl rfl (by simp [Value.cells]) rfl rfl (by decide) (by decide) fun w2 H5 hS5 => ?_
 simp only [RT] at hS5
 simp (disch := omega) only [↓RA, RZ, simprocAttr, hn, hS5.ld 0 rfl, ht]
 have hR : St Tryz.prog H H5 [⟨ptr A1 0 9, 0, _⟩, ⟨ptr A2 0 6, 0, _⟩, ⟨w1, 1, _⟩, ⟨w2, 1, lK.flatMap (one Value.string)⟩] := hS5
 simp (disch := omega) only [↓RA, RZ, simprocAttr, hn, (hR.slo 3 rfl (kR _)).idx, (hR.slo 3 rfl (kR _)).ld, one, a0I]
 refine hR.eNew 6 [(.string ⟨#[]⟩), (.string ⟨#[]⟩), I 0, I 0, I 0, (.slice none 0 0)] rfl rfl rfl pD fun A3 H6 hS6 => ?_
 simp only [RT] at hS6
 simp (disch := omega) only [↓RA, RB, simprocAttr, hn]
 refine hS6.eStore 4 rfl [(.string ⟨#[82, UInt8.ofNat (48 + (i : Int)).toNat]⟩), (.string (aC lK (p.tone % 3 : Nat))), I (aC dO (p.feet % 16)).1, I (aC dO (p.feet % 16)).2, _, (.slice none 0 0)] rfl rfl pD (by simp) fun H7 hS7 => ?_
 simp only [RT] at hS7
 simp (disch := omega) only [↓RA, RZ, simprocAttr, hn, hS2.ld 0 rfl, hS3.ld 0 rfl]
 have hN : St Tryz.prog H H7 [⟨ptr A1 0 9, 0, _⟩, ⟨ptr A2 0 6, 0, _⟩, ⟨ptr A3 0 6, 0, [.string ⟨#[82, UInt8.ofNat (48 + (i : Int)).toNat]⟩, .string (aC lK (p.tone % 3)), I (aC dO (p.feet % 16)).1, I (aC dO (p.feet % 16)).2, I p.first, .slice none 0 0]⟩, ⟨.slice none 0 0, 1, []⟩] := (hS7.nil 0).pick [0, 1, 4, 5] (by decide) rfl
 refine Wp.loopS (fun n l H' => l.length = 48 ∧ get l 2 = (ptr A1 0 9) ∧ get l 4 = (ptr A2 0 6) ∧ get l 5 = (ptr A3 0 6) ∧ ∃ (j : Nat) (wv : Value), (n + j = 1 + p.pipes % 25) ∧ get l 6 = I j ∧ St Tryz.prog H H' [⟨ptr A1 0 9, 0, [(.int .u8 p.tone), (.int .u8 p.feet), (.int .i8 p.first), (.int .u8 p.pipes), (.int .u8 p.w0), (.int .u8 p.w1), (.int .u8 p.w2), (.int .u8 p.w3), (.int .u8 p.w4)]⟩, ⟨ptr A2 0 6, 0, [(.string ⟨#[]⟩), (.string ⟨#[]⟩), I 0, I 0, I 0, (.slice none 0 0)]⟩, ⟨ptr A3 0 6, 0, [.string ⟨#[82, UInt8.ofNat (48 + (i : Int)).toNat]⟩, .string (aC lK (p.tone % 3)), I (aC dO (p.feet % 16)).1, I (aC dO (p.feet % 16)).2, I p.first, wv]⟩, ⟨wv, 1, (List.range j).map fun q => I (p.wind q)⟩]) (1 + p.pipes % 25) ?_ ?_
 ·simp (disch := omega) only [RB, RC, simprocAttr, hn]
  exact ⟨0, _, by omega, rfl, hN⟩
 rintro n l H8 ⟨hn, g2, g4, g5, j, wv, hj, g6, hS8⟩
 have hpp : (p.pipes : Int).tmod 25 = ((p.pipes % 25 : Nat) : Int) := (Int.ofNat_tmod p.pipes 25).symm
 have hj5 : (j : Int).tmod 5 = ((j % 5 : Nat) : Int) := (Int.ofNat_tmod j 5).symm
 have hw : (p.cells)[4 + j % 5]? = some (.int .u8 (p.wind j)) := by
  have : j % 5 = 0 ∨ j % 5 = 1 ∨ j % 5 = 2 ∨ j % 5 = 3 ∨ j % 5 = 4 := by omega
  unfold RPl.wind
  rcases this with e | e | e | e | e <;> rw [e] <;> rfl
 simp only [RPl.cells] at hw
 have hwj := hwb j
 simp (disch := omega) only [↓RA, RZ, simprocAttr, hn, g2, g6, hS8.ld 0 rfl, hpp]
 refine aA (fun q => ?_) (fun q => ?_)
 ·simp (disch := omega) only [↓RA, RC, simprocAttr, q]
  refine Wp.drwT cB [(1, 9)] (by kernel_rfl) (by kernel_rfl) ?_
  simp (disch := omega) only [↓RA, RZ, simprocAttr, hn, g2, g5, g6, hS8.ld 2 rfl, hS8.ld 0 rfl, hw, hj5]
  refine hS8.eSlice [_] vW a2d rfl rfl (by simp [Value.cells]) rfl rfl (by decide) (by decide) fun w3 H9 hS9 => ?_
  simp only [RT] at hS9
  simp (disch := omega) only [↓RA, RZ, simprocAttr, hn]
  refine hS9.eAppend 3 rfl (hS9.rd 4 rfl) vW (by first | (simp; done) | (simp; omega)) fun w4 H10 hS10 => ?_
  simp only [RT] at hS10
  simp (disch := omega) only [↓RA, RZ, simprocAttr, hn, g5]
  refine hS10.eStore 2 rfl [w4] (by rw [(hS10.rd 3 rfl).cells.1]) (by simp [(hS10.rd 3 rfl).cells.2.1]) b5i (by simp) fun H11 hS11 => ?_
  simp only [RT] at hS11
  simp (disch := omega) only [↓RA, RZ, simprocAttr, hn, g2, g4, g5, g6, hS9.ld 2 rfl]
  refine ⟨n - 1, by omega, j + 1, w4, by omega, rfl, ?_⟩
  rw [List.range_succ, List.map_append]
  exact hS11.pick [0, 1, 2, 3] (by decide) rfl
 simp (disch := omega) only [↓RA, RZ, simprocAttr, hn, g4, g5, hS8.ldA 2 rfl, q]
 refine hS8.eStore 1 rfl [(.string ⟨#[82, UInt8.ofNat (48 + (i : Int)).toNat]⟩), (.string (aC lK (p.tone % 3))), I (aC dO (p.feet % 16)).1, I (aC dO (p.feet % 16)).2, I p.first, wv] rfl (by simp [OC, (hS8.rd 3 rfl).cells.2.1]) pD (by simp) fun H12 hS12 => ?_
 simp only [RT] at hS12
 simp (disch := omega) only [↓RA, RZ, simprocAttr, g4, c2t, hS12.ldA 1 rfl, q]
 have hjj : j = 1 + p.pipes % 25 := by omega
 subst hjj
 have he : (48 + (i : Int)).toNat = 48 + i := by omega
 exact ⟨wv, by rw [he], hS12.pick [3] (by decide) rfl⟩
end Go.Ds
namespace Go.Ds
open Go.Proofs
variable {P : Program} {H : Heap} {α : Type} {n : Nat} {cel : α → List Value} {v : Value} {xs : List α} {X Y : Nat → Prop}
theorem RdAt.lt {size : Nat} {cs : List Value} (h : RdAt H v size cs) {B : Nat} (hb : cC v = some B) : B < H.length := by
 rcases h with ⟨h1, _⟩ | ⟨A, i, e, row, ty, rw, lo, ver, n, h, _, _, _, _, _, h7⟩
 ·rw [h1] at hb; simp [cC] at hb
 ·rw [h7] at hb
  simp [cC] at hb
  exact hb ▸ bG h
theorem RdAt.keepB {H' : Heap} {size : Nat} {cs : List Value} (h : RdAt H v size cs) (hk : ∀ B, cC v = some B → aR H' B = aR H B) : RdAt H' v size cs := by
 rcases h with h | ⟨A, i, e, row, ty, rw, lo, ver, n, h, h2, h3, h4, h5, h6, h7⟩
 ·exact .inl h
 ·exact .inr ⟨A, i, e, row, ty, rw, lo, ver, n, by rw [hk A (by rw [h7]; rfl), h], h2, h3, h4, h5, h6, h7⟩
theorem St.rebaseE {B0 : Base} {os : List Ob} (hS : St P B0 H os) : ∃ B : Base, B = ⟨H, jP os⟩ ∧ St P B H os := ⟨_, rfl, hS.rebase⟩
theorem St.unbaseE {B0 B : Base} {H1 : Heap} {os os1 : List Ob} (hS : St P B0 H os) (hB : B = ⟨H, jP os⟩) (h1 : St P B H1 os1) : St P B0 H1 os1 := by
 subst hB
 exact hS.unbase h1
def Slx (n : Nat) (cel : α → List Value) (H : Heap) (X : Nat → Prop) (v : Value) (xs : List α) : Prop := Sl n cel H v xs ∧ ∀ B, cC v = some B → X B
def Kept (H : Heap) (X : Nat → Prop) (H' : Heap) (Y : Nat → Prop) : Prop := ∀ B, X B → B < H.length → aR H' B = aR H B ∧ Y B
theorem Slx.step {H' : Heap} (h : Slx n cel H X v xs) (hk : Kept H X H' Y) : Slx n cel H' Y v xs :=
 ⟨⟨h.1.rd.keepB fun B hb => (hk B (h.2 B hb) (h.1.rd.lt hb)).1, h.1.hc, h.1.pos⟩, fun B hb => (hk B (h.2 B hb) (h.1.rd.lt hb)).2⟩
def nb (vs : List Value) : Nat → Prop := fun B => ∀ v ∈ vs, cC v ≠ some B
theorem a5C (os : List Ob) (B : Nat) : nb (os.map (·.v)) B ↔ ¬ jP os B := by
 unfold nb jP
 constructor
 ·rintro h ⟨o, ho, hb⟩
  exact h o.v (List.mem_map_of_mem ho) hb
 ·intro h v hv hb
  obtain ⟨o, ho, rfl⟩ := List.mem_map.1 hv
  exact h ⟨o, ho, hb⟩
theorem St.kept {B : Base} {H' : Heap} {os os' : List Ob} (hS : St P B H' os') (hB : B = ⟨H, jP os⟩) : Kept H (nb (os.map (·.v))) H' (nb (os'.map (·.v))) := by
 subst hB
 intro B hX hB
 rw [a5C] at hX ⊢
 exact ⟨hS.old B hB hX, fun ⟨o, ho, hb⟩ => by
  rcases hS.new o ho B hb with h | h
  ·have h : H.length ≤ B := h
   omega
  ·exact hX h⟩
theorem St.keptNew {H0 : Base} {H' : Heap} {os : List Ob} (hS : St P H0 H os) : Kept H' (fun B => H.length ≤ B) H' (nb (os.map (·.v))) := by
 intro B hX hB
 rw [a5C]
 exact ⟨rfl, fun ⟨o, ho, hb⟩ => by
  have := (hS.own o ho).lt hb
  omega⟩
theorem Kept.trans {H' H'' : Heap} {X Y Z : Nat → Prop} (h : Kept H X H' Y) (h' : Kept H' Y H'' Z) (hl : H.length ≤ H'.length) : Kept H X H'' Z :=
 fun B hX hB => by
  obtain ⟨e, hY⟩ := h B hX hB
  obtain ⟨e', hZ⟩ := h' B hY (Nat.lt_of_lt_of_le hB hl)
  exact ⟨e'.trans e, hZ⟩
theorem Slx.any (h : Slx n cel H X v xs) : Slx n cel H (fun _ => True) v xs := ⟨h.1, fun _ _ => trivial⟩
theorem St.slx {H0 : Base} {os os' : List Ob} (hS : St P H0 H os) (i : Nat) {m : Nat} (ho : os[i]? = some ⟨v, m + 1, xs.flatMap cel⟩) (hc : ∀ x, (cel x).length = m + 1) (idx : List Nat) (hi : i ∉ idx) (h : idx.map (os[·]?) = os'.map some) :
 Slx (m + 1) cel H (nb (os'.map (·.v))) v xs := by
 refine ⟨hS.slo i ho hc, fun B hb => ?_⟩
 rw [a5C]
 rintro ⟨o, hmem, hob⟩
 have : some o ∈ idx.map (os[·]?) := by rw [h]; exact List.mem_map_of_mem hmem
 obtain ⟨j, hj, hj2⟩ := List.mem_map.1 this
 have hne : i ≠ j := fun e => hi (e ▸ hj)
 have hpw := List.pairwise_iff_getElem.1 hS.sep
 obtain ⟨hi1, ei⟩ := List.getElem?_eq_some_iff.1 ho
 obtain ⟨hj1, ej⟩ := List.getElem?_eq_some_iff.1 hj2
 rcases Nat.lt_or_gt_of_ne hne with hh | hh
 ·have := hpw i j hi1 hj1 hh B (by rw [ei]; exact hb)
  rw [ej] at this
  exact this hob
 ·have := hpw j i hj1 hi1 hh B (by rw [ej]; exact hob)
  rw [ei] at this
  exact this hb
theorem St.slf {H0 : Heap} {os : List Ob} (hS : St P H0 H os) (i : Nat) {m : Nat} (ho : os[i]? = some ⟨v, m + 1, xs.flatMap cel⟩) (hc : ∀ x, (cel x).length = m + 1) : Slx (m + 1) cel H (fun B => H0.length ≤ B) v xs :=
 ⟨hS.slo i ho hc, fun B hb => by
  rcases hS.new _ (List.mem_of_getElem? ho) B hb with h | h
  ·exact h
  ·exact h.elim⟩
def Seg.Ix (H : Heap) (X : Nat → Prop) (s : Seg) : Prop := Slx 2 Drw.cells H X s.dv s.draws ∧ s.draws.length < 1000000000
def Stp.Ix (H : Heap) (X : Nat → Prop) (s : Stp) : Prop := Slx 3 Seg.cells H X s.gv s.segs ∧ (∀ g ∈ s.segs, g.Ix H X) ∧ s.segs.length < 1000000000
def Dvn.Ix (H : Heap) (X : Nat → Prop) (d : Dvn) : Prop := Slx 4 Stp.cells H X d.sv d.stops ∧ (∀ s ∈ d.stops, s.Ix H X) ∧ d.stops.length < 1000000000
def Rk.Ix (H : Heap) (X : Nat → Prop) (r : Rk) : Prop := Slx 1 (one I) H X r.wv r.wind ∧ r.wind.length < 1000000000
section
variable {H' : Heap}
theorem Seg.Ix.step {s : Seg} (h : s.Ix H X) (hk : Kept H X H' Y) : s.Ix H' Y := ⟨h.1.step hk, h.2⟩
theorem Stp.Ix.step {s : Stp} (h : s.Ix H X) (hk : Kept H X H' Y) : s.Ix H' Y := ⟨h.1.step hk, fun g hg => (h.2.1 g hg).step hk, h.2.2⟩
theorem Dvn.Ix.step {d : Dvn} (h : d.Ix H X) (hk : Kept H X H' Y) : d.Ix H' Y := ⟨h.1.step hk, fun g hg => (h.2.1 g hg).step hk, h.2.2⟩
theorem Rk.Ix.step {r : Rk} (h : r.Ix H X) (hk : Kept H X H' Y) : r.Ix H' Y := ⟨h.1.step hk, h.2⟩
theorem Seg.Ix.in {s : Seg} (h : s.Ix H X) : s.In H := ⟨h.1.1, h.2⟩
theorem Stp.Ix.in {s : Stp} (h : s.Ix H X) : s.In H := ⟨h.1.1, fun g hg => (h.2.1 g hg).in, h.2.2⟩
theorem Dvn.Ix.in {d : Dvn} (h : d.Ix H X) : d.In H := ⟨h.1.1, fun g hg => (h.2.1 g hg).in, h.2.2⟩
theorem Rk.Ix.in {r : Rk} (h : r.Ix H X) : r.In H := ⟨h.1.1, h.2⟩
end
theorem qN {α : Type} (f : α → Value) (l : List α) : l.flatMap (one f) = l.map f := by
 induction l with
 | nil => rfl
 | cons a l ih => rw [List.flatMap_cons, ih]; rfl
end Go.Ds
namespace Go.Ds
open Go.Proofs
theorem a5A (m : Nat) (n s : Int) (h0 : 0 ≤ n) (h1 : n < m) (h2 : -127 ≤ s) (h3 : s ≤ 127) : dA m [⟨n, s⟩] = 0 := by
 rw [dA, if_neg (by simp)]
 refine cO _ _ fun j hj => ?_
 have hj0 : j = 0 := by simpa using hj
 subst hj0
 have e : aC ([⟨n, s⟩] : List Drw) 0 = ⟨n, s⟩ := rfl
 unfold cK
 rw [e, if_neg (by simp only; omega), if_neg (by simp only; omega), if_neg (by simp)]
theorem b8b (m : Nat) (n s t : Int) (h0 : 0 ≤ n) (h1 : n < m) (h2 : -127 ≤ s) (h3 : s ≤ 127) (h4 : -127 ≤ t) (h5 : t ≤ 127) (hne : s ≠ t) : dA m [⟨n, s⟩, ⟨n, t⟩] = 0 := by
 rw [dA, if_neg (by simp)]
 refine cO _ _ fun j hj => ?_
 have hj0 : j = 0 ∨ j = 1 := by
  have : j < 2 := by simpa using hj
  omega
 rcases hj0 with rfl | rfl
 ·have e : aC ([⟨n, s⟩, ⟨n, t⟩] : List Drw) 0 = ⟨n, s⟩ := rfl
  unfold cK
  rw [e, if_neg (by simp only; omega), if_neg (by simp only; omega), if_neg (by simp)]
 ·have e : aC ([⟨n, s⟩, ⟨n, t⟩] : List Drw) 1 = ⟨n, t⟩ := rfl
  unfold cK
  rw [e, if_neg (by simp only; omega), if_neg (by simp only; omega), if_neg (by simp [Ne.symm hne])]
theorem a3B (lo hi a b : Int) (m : Nat) (dv : Value) (ds : List Drw) (h1 : lo ≤ a) (h2 : a ≤ b) (h3 : b ≤ hi) (hd : dA m ds = 0) : dG (cR lo hi m [⟨a, b, dv, ds⟩]) 1 = 0 := by
 refine cO _ _ fun j hj => ?_
 have hj0 : j = 0 := by omega
 subst hj0
 have e : aC ([⟨a, b, dv, ds⟩] : List Seg) 0 = ⟨a, b, dv, ds⟩ := rfl
 unfold cR
 rw [e, if_neg (by simp only; omega), if_neg (by simp only; omega)]
 exact hd
theorem b5U (lo hi c : Int) (m : Nat) (dv dv' : Value) (ds ds' : List Drw) (h1 : lo < c) (h2 : c ≤ hi) (hd : dA m ds = 0) (hd' : dA m ds' = 0) : dG (cR lo hi m [⟨lo, c - 1, dv, ds⟩, ⟨c, hi, dv', ds'⟩]) 2 = 0 := by
 refine cO _ _ fun j hj => ?_
 have e0 : aC ([⟨lo, c - 1, dv, ds⟩, ⟨c, hi, dv', ds'⟩] : List Seg) 0 = ⟨lo, c - 1, dv, ds⟩ := rfl
 have e1 : aC ([⟨lo, c - 1, dv, ds⟩, ⟨c, hi, dv', ds'⟩] : List Seg) 1 = ⟨c, hi, dv', ds'⟩ := rfl
 have hj0 : j = 0 ∨ j = 1 := by omega
 rcases hj0 with rfl | rfl
 ·unfold cR
  rw [e0, if_neg (by simp only; omega), if_neg (by simp only; omega)]
  exact hd
 ·unfold cR
  rw [e1, show (1 : Nat) - 1 = 0 from rfl, e0, if_neg (by simp only; omega), if_neg (by simp only; omega)]
  exact hd'
def nm (c : UInt8) (i : Nat) : ByteArray := ⟨#[c, UInt8.ofNat (48 + i)]⟩
theorem a0W {c : UInt8} {i j : Nat} (hi : i < 10) (hj : j < 10) (h : nm c i = nm c j) : i = j := by
 unfold nm at h
 have h2 : (#[c, UInt8.ofNat (48 + i)] : Array UInt8) = #[c, UInt8.ofNat (48 + j)] := congrArg ByteArray.data h
 have h3 : UInt8.ofNat (48 + i) = UInt8.ofNat (48 + j) := by simpa using h2
 have h4 := congrArg UInt8.toNat h3
 simp only [UInt8.toNat_ofNat'] at h4
 omega
theorem tZ {c : UInt8} (hc : c = 82 ∨ c = 68 ∨ c = 83 ∨ c = 67) {i : Nat} (hi : i < 10) : cQ (nm c i) = true := by
 have h : i = 0 ∨ i = 1 ∨ i = 2 ∨ i = 3 ∨ i = 4 ∨ i = 5 ∨ i = 6 ∨ i = 7 ∨ i = 8 ∨ i = 9 := by omega
 rcases hc with rfl | rfl | rfl | rfl <;> rcases h with rfl | rfl | rfl | rfl | rfl | rfl | rfl | rfl | rfl | rfl <;> decide
structure StpOk (m : Nat) (lo hi : Int) (i : Nat) (s : Stp) : Prop where
 name : s.name = nm 83 i
 feet : (s.num, s.den) ∈ cS
 pos : 0 < s.segs.length
 len : s.segs.length ≤ 2
 segs : dG (cR lo hi m s.segs) s.segs.length = 0
theorem a9E {p : Int × Int} (h : p ∈ cS) : gA p.1 p.2 = 0 := by
 have : cS.all (fun p => decide (gA p.1 p.2 = 0)) = true := by decide
 exact of_decide_eq_true (List.all_eq_true.1 this p h)
theorem b0B {p : Int × Int} (h : p ∈ dO) : gA p.1 p.2 = 0 := by
 have : dO.all (fun p => decide (gA p.1 p.2 = 0)) = true := by decide
 exact of_decide_eq_true (List.all_eq_true.1 this p h)
theorem StpOk.stopE {rs : List Rk} {lo hi : Int} {i : Nat} {s : Stp} (h : StpOk rs.length lo hi i s) (hi10 : i < 10) (hp : kX rs lo hi = 0) : stopE rs lo hi s = 0 := by
 unfold Go.Ds.stopE
 rw [if_neg (by rw [hp]; simp), if_neg (by rw [h.name, tZ (by simp) hi10]; simp), if_neg (by rw [a9E h.feet]; simp), if_neg (by have := h.pos; omega), if_neg (by have := h.len; omega)]
 exact h.segs
structure RkOk (i : Nat) (r : Rk) : Prop where
 name : r.name = nm 82 i
 tone : r.tone ∈ lK
 feet : (r.num, r.den) ∈ dO
 first : -128 ≤ r.first ∧ r.first < 128
 pos : 0 < r.wind.length
 len : r.wind.length ≤ 25
 wind : ∀ x ∈ r.wind, 0 ≤ x ∧ x < 256
theorem a9s {s : ByteArray} (h : s ∈ lK) : cQ s = true := by
 have : lK.all (fun s => cQ s) = true := by decide
 exact List.all_eq_true.1 this s h
theorem RkOk.rankE {i : Nat} {r : Rk} (h : RkOk i r) (hi : i < 10) : rankE r = 0 := by
 have hf := h.first
 have hp := h.pos
 have hl := h.len
 have hw : rS r.wind = 0 := by
  unfold rS
  rw [if_neg]
  intro hh
  rw [List.any_eq_true] at hh
  obtain ⟨x, hx, hp⟩ := hh
  have := h.wind x hx
  simp only [Bool.or_eq_true, decide_eq_true_eq] at hp
  omega
 unfold Go.Ds.rankE
 rw [if_neg (by rw [h.name, tZ (by simp) hi, a9s h.tone]; simp), if_neg (by rw [b0B h.feet]; simp), if_neg (by omega), if_neg (by omega), if_neg (by omega), hw]
theorem uL {lo hi : Int} (h0 : 0 ≤ lo) (h1 : lo ≤ hi) (h2 : hi ≤ 127) : iV lo hi = 0 := by
 unfold iV
 rw [if_neg (by omega), if_neg (by omega)]
theorem b7R {rs : List Rk} {lo hi : Int} (hl : rs.length ≤ 3) (hr : ∀ j, j < rs.length → RkOk j (aC rs j)) (h0 : 0 ≤ lo) (h1 : lo ≤ hi) (h2 : hi ≤ 127) : kX rs lo hi = 0 := by
 have e := cO (fun j => Go.Ds.rankE (aC rs j)) rs.length fun j hj => (hr j hj).rankE (by omega)
 unfold kX
 rw [if_neg (by omega), if_neg (by rw [e]; simp)]
 exact uL h0 h1 h2
structure DvOk (m i : Nat) (d : Dvn) : Prop where
 name : d.name = nm 68 i
 lo : 36 ≤ d.lo
 le : d.lo ≤ d.hi
 hi : d.hi ≤ 60
 len : d.stops.length ≤ 3
 stops : ∀ k, k < d.stops.length → StpOk m d.lo d.hi k (aC d.stops k)
structure CpOk (n i : Nat) (c : Cpl) : Prop where
 name : c.name = nm 67 i
 src : 0 ≤ c.src ∧ c.src < n
 dst : 0 ≤ c.dst ∧ c.dst < n
 shift : -24 ≤ c.shift ∧ c.shift ≤ 24
 ne : ¬ (c.src = c.dst ∧ c.shift = 0)
def b0u : ByteArray := ⟨#[79, 114, 103, 97, 110]⟩
structure OrgOk (o : Org) : Prop where
 name : o.name = b0u
 rpos : 0 < o.ranks.length
 rlen : o.ranks.length ≤ 3
 ranks : ∀ j, j < o.ranks.length → RkOk j (aC o.ranks j)
 dpos : 0 < o.dvs.length
 dlen : o.dvs.length ≤ 3
 dvs : ∀ j, j < o.dvs.length → DvOk o.ranks.length j (aC o.dvs j)
 clen : o.cpls.length ≤ 3
 cpls : ∀ j, j < o.cpls.length → CpOk o.dvs.length j (aC o.cpls j)
theorem a8r : cQ b0u = true := by decide
theorem DvOk.divE {rs : List Rk} {i : Nat} {d : Dvn} (h : DvOk rs.length i d) (hl : rs.length ≤ 3) (hr : ∀ j, j < rs.length → RkOk j (aC rs j)) : divE rs d = 0 := by
 have h1 := h.lo
 have h2 := h.le
 have h3 := h.hi
 have h4 := h.len
 unfold Go.Ds.divE
 rw [if_neg (by rw [uL (by omega) h2 (by omega)]; simp), if_neg (by omega)]
 refine cO _ _ fun j hj => ?_
 have hs := h.stops j hj
 unfold gN
 rw [if_neg (by rw [hs.stopE (by omega) (b7R hl hr (by omega) h2 (by omega))]; simp), if_neg]
 rintro ⟨q, hq, e⟩
 rw [hs.name, (h.stops q (by omega)).name] at e
 have := a0W (by omega) (by omega) e
 omega
theorem OrgOk.organE {o : Org} (h : OrgOk o) : organE o = 0 := by
 have h1 := h.rpos
 have h2 := h.rlen
 have h3 := h.dpos
 have h4 := h.dlen
 have h5 := h.clen
 have e1 : dG (fU o.ranks) o.ranks.length = 0 := cO _ _ fun j hj => by
  unfold fU
  rw [if_neg (by rw [(h.ranks j hj).rankE (by omega)]; simp), if_neg]
  rintro ⟨q, hq, e⟩
  rw [(h.ranks j hj).name, (h.ranks q (by omega)).name] at e
  have := a0W (by omega) (by omega) e
  omega
 have e2 : dG (lU o.ranks o.dvs) o.dvs.length = 0 := cO _ _ fun j hj => by
  unfold lU
  rw [if_neg (by rw [(h.dvs j hj).name, tZ (by simp) (by omega)]; simp), if_neg]
  ·exact (h.dvs j hj).divE h2 h.ranks
  rintro ⟨q, hq, e⟩
  rw [(h.dvs j hj).name, (h.dvs q (by omega)).name] at e
  have := a0W (by omega) (by omega) e
  omega
 have e3 : lT (kps o.dvs) o.cpls = 0 := by
  have hk : (kps o.dvs).length = o.dvs.length := by simp [kps]
  unfold lT
  rw [if_neg (by omega), if_neg]
  ·refine cO _ _ fun j hj => ?_
   have hc := h.cpls j hj
   have c1 := hc.src
   have c2 := hc.dst
   have c3 := hc.shift
   unfold eG
   simp only
   rw [if_neg (by rw [hc.name, tZ (by simp) (by omega)]; simp), if_neg, if_neg (by rw [hk]; omega), if_neg (by omega), if_neg hc.ne]
   rintro ⟨q, hq, e⟩
   rw [hc.name, (h.cpls q (by omega)).name] at e
   have := a0W (by omega) (by omega) e
   omega
  ·rintro ⟨k, hk, hne⟩
   unfold kps at hk
   obtain ⟨d, hd, rfl⟩ := List.mem_map.1 hk
   obtain ⟨j, hj, rfl⟩ := List.mem_iff_getElem.1 hd
   have hd := h.dvs j hj
   rw [cF o.dvs j hj] at hd
   have h1 := hd.lo
   have h2 := hd.le
   have h3 := hd.hi
   exact hne (uL (by omega) h2 (by omega))
 unfold Go.Ds.organE
 rw [if_neg (by rw [h.name, a8r]; simp), if_neg (by omega), if_neg (by rw [e1]; simp), if_neg (by omega), if_neg (by omega), if_neg (by rw [e2]; simp)]
 exact e3
end Go.Ds
namespace Go.Ds
open Go.Proofs
def cA (x : Int × Int) : List Value := [I x.1, I x.2]
def pr (l : List (Int × Int)) : List Value := l.flatMap cA
theorem cN (x : Int × Int) : (cA x).length = 2 := rfl
theorem aI (l : List (Int × Int)) : (pr l).length = l.length * 2 := aS cN l
def tS (x y : Int × Int) : Bool := decide (x.1 < y.1) || (decide (x.1 = y.1) && decide (x.2 ≤ y.2))
theorem fA (x y : Int × Int) : tS x y = true ↔ x.1 < y.1 ∨ (x.1 = y.1 ∧ x.2 ≤ y.2) := by
 unfold tS
 simp only [Bool.or_eq_true, Bool.and_eq_true, decide_eq_true_eq]
def lW (es : List (Int × Int)) : List (Int × Int) := es.mergeSort tS
theorem eI (es : List (Int × Int)) : (lW es).Perm es := List.mergeSort_perm _ _
theorem iZ (es : List (Int × Int)) : (lW es).length = es.length := (eI es).length_eq
theorem kZ (es : List (Int × Int)) : (lW es).Pairwise fun a b => tS a b = true := by
 unfold lW
 refine List.pairwise_mergeSort ?_ ?_ _
 ·intro a b c h1 h2
  rw [fA] at *
  omega
 ·intro a b
  rw [Bool.or_eq_true, fA, fA]
  omega
def cf2 (x y : Int × Int) : Int := if x.1 < y.1 then -1 else if y.1 < x.1 then 1 else if x.2 < y.2 then -1 else if y.2 < x.2 then 1 else 0
def qQ {α : Type} [Inhabited α] [DecidableEq α] (es : List α) (m : Nat) : List α := ((List.range m).filter fun i => decide (i = 0 ∨ aC es i ≠ aC es (i - 1))).map fun i => aC es i
def dd {α : Type} [Inhabited α] [DecidableEq α] (es : List α) : List α := qQ es es.length
section
variable {α : Type} [Inhabited α] [DecidableEq α]
theorem jS (es : List α) (m : Nat) : qQ es (m + 1) = qQ es m ++ (if m = 0 ∨ aC es m ≠ aC es (m - 1) then [aC es m] else []) := by
 unfold qQ
 rw [List.range_succ, List.filter_append, List.map_append]
 congr 1
 by_cases h : m = 0 ∨ aC es m ≠ aC es (m - 1)
 ·rw [if_pos h]
  simp only [List.filter_cons, List.filter_nil, decide_eq_true h, if_true, List.map_cons, List.map_nil]
 ·rw [if_neg h]
  simp only [List.filter_cons, List.filter_nil, decide_eq_false h, Bool.false_eq_true, if_false, List.map_nil]
theorem b8p (es : List α) (m : Nat) : (qQ es m).length ≤ m := by
 unfold qQ
 rw [List.length_map]
 refine Nat.le_trans (List.length_filter_le _ _) ?_
 simp
theorem dX (es : List α) (m : Nat) (h : m < es.length) : es.take (m + 1) = es.take m ++ [aC es m] := by
 rw [cF es m h, List.take_succ_eq_append_getElem h]
theorem kL (es : List α) : ∀ m, m ≤ es.length → (∀ j, 0 < j → j < m → aC es j ≠ aC es (j - 1)) → qQ es m = es.take m
 | 0, _, _ => by simp [qQ]
 | m + 1, hm, h => by
   have ih := kL es m (by omega) fun j h1 h2 => h j h1 (by omega)
   rw [jS, ih, dX es m (by omega), if_pos]
   by_cases h0 : m = 0
   ·exact .inl h0
   ·exact .inr (h m (by omega) (by omega))
end
theorem a1J {v : Value} {n lo k b : Nat} (h : cC (jA v n lo k) = some b) : cC v = some b := by
 unfold jA at h
 split at h <;> exact h
theorem bL (a b : List (Int × Int)) : pr (a ++ b) = pr a ++ pr b := List.flatMap_append
end Go.Ds
namespace Go.Ds
open Go.Proofs
structure Reg where
 stops : List Nat
 cpl : Nat
 off : Nat
 deriving Inhabited, DecidableEq
def u64 (n : Nat) : Value := .int .u64 n
def Reg.cells (r : Reg) (sv : Value) : List Value := [sv, u64 r.cpl, u64 r.off]
def Reg.Ok (r : Reg) : Prop := r.stops.length < 1000000000 ∧ (∀ x ∈ r.stops, x < 18446744073709551616) ∧ r.cpl < 18446744073709551616 ∧ r.off < 18446744073709551616
def Reg.In (H : Heap) (r : Reg) (sv : Value) : Prop := Sl 1 (one u64) H sv r.stops ∧ r.Ok
theorem Reg.In.keep {P : Program} {H H0 : Heap} {os : List Ob} {r : Reg} {sv : Value} (h : r.In H0 sv) (hS : St P H0 H os) : r.In H sv := ⟨hS.sl h.1, h.2⟩
abbrev Ct := Int × Int
abbrev jG (n : Int) : Int := IntKind.wrap .i64 n
def iM (o : Org) (c : Ct) : Bool := decide (0 ≤ c.1) && decide (c.1 < o.dvs.length) && decide ((aC o.dvs c.1.toNat).lo ≤ c.2) && decide (c.2 ≤ (aC o.dvs c.1.toNat).hi)
def uU (o : Org) (c : Ct) : Int := if c.1 < 0 ∨ o.dvs.length ≤ c.1 then 10 else if c.2 < (aC o.dvs c.1.toNat).lo ∨ (aC o.dvs c.1.toNat).hi < c.2 then 23 else 0
theorem pJ (o : Org) (c : Ct) : uU o c = 0 ↔ iM o c = true := by
 unfold uU iM
 by_cases h1 : c.1 < 0 ∨ o.dvs.length ≤ c.1
 ·rw [if_pos h1]
  simp
  omega
 ·rw [if_neg h1]
  by_cases h2 : c.2 < (aC o.dvs c.1.toNat).lo ∨ (aC o.dvs c.1.toNat).hi < c.2
  ·rw [if_pos h2]
   simp
   omega
  ·rw [if_neg h2]
   simp
   omega
def to1 (x : Cpl) (c : Ct) : Ct := (x.dst, jG (c.2 + x.shift))
def kG (cp : Nat) (thr : Bool) (c : Ct) (x : Cpl) (i : Nat) : Bool := cp.testBit i && decide (x.src = c.1) && (!thr || x.thr)
def step1 (o : Org) (cp : Nat) (thr : Bool) (c : Ct) (q : List Ct) (i : Nat) : List Ct :=
 if kG cp thr c (aC o.cpls i) i && iM o (to1 (aC o.cpls i) c) && !decide (to1 (aC o.cpls i) c ∈ q) then q ++ [to1 (aC o.cpls i) c] else q
def stepN (o : Org) (cp : Nat) (thr : Bool) (c : Ct) (q : List Ct) (n : Nat) : List Ct := (List.range n).foldl (step1 o cp thr c) q
def stepF (o : Org) (cp : Nat) (thr : Bool) (c : Ct) (q : List Ct) : List Ct := stepN o cp thr c q o.cpls.length
theorem dN (o : Org) (cp : Nat) (thr : Bool) (c : Ct) (q : List Ct) (n : Nat) : stepN o cp thr c q (n + 1) = step1 o cp thr c (stepN o cp thr c q n) n := by
 unfold stepN
 rw [List.range_succ, List.foldl_append]
 rfl
def Que (o : Org) (q : List Ct) : Prop := q.Nodup ∧ ∀ c ∈ q, iM o c = true
theorem Que.nil (o : Org) : Que o [] := ⟨.nil, by simp⟩
theorem Que.step1 {o : Org} {q : List Ct} (h : Que o q) (cp : Nat) (thr : Bool) (c : Ct) (i : Nat) : Que o (step1 o cp thr c q i) := by
 unfold Go.Ds.step1
 split
 ·rename_i hh
  simp only [Bool.and_eq_true, Bool.not_eq_true', decide_eq_false_iff_not] at hh
  refine ⟨?_, ?_⟩
  ·rw [List.nodup_append]
   exact ⟨h.1, by simp, fun a ha b hb e => hh.2 (by simp at hb; rw [← hb, ← e]; exact ha)⟩
  ·intro x hx
   rcases List.mem_append.1 hx with hx | hx
   ·exact h.2 x hx
   ·simp at hx
    rw [hx]
    exact hh.1.2
 ·exact h
theorem Que.stepN {o : Org} {q : List Ct} (h : Que o q) (cp : Nat) (thr : Bool) (c : Ct) : ∀ n, Que o (stepN o cp thr c q n)
 | 0 => h
 | n + 1 => by rw [dN]; exact (h.stepN cp thr c n).step1 cp thr c n
theorem Que.stepF {o : Org} {q : List Ct} (h : Que o q) (cp : Nat) (thr : Bool) (c : Ct) : Que o (stepF o cp thr c q) := h.stepN cp thr c _
theorem a2o : ∀ (N : Nat) (l : List Nat), l.Nodup → (∀ i ∈ l, i < N) → l.length ≤ N
 | 0, l, hn, h => by
   cases l with
   | nil => simp
   | cons a l => exact absurd (h a (by simp)) (Nat.not_lt_zero _)
 | N + 1, l, hn, h => by
   have h1 : (l.erase N).length ≤ N := by
    refine a2o N _ (hn.erase N) fun i hi => ?_
    have h2 := (List.Nodup.mem_erase_iff hn).1 hi
    have := h i h2.2
    omega
   rw [List.length_erase] at h1
   split at h1 <;> omega
theorem qX {f : Nat → Int} {n : Nat} (h : dG f n = 0) : ∀ j, j < n → f j = 0 := by
 intro j hj
 unfold dG at h
 cases hf : (List.range n).find? (fun j => decide (f j ≠ 0)) with
 | some i =>
   rw [hf] at h
   have := List.find?_some hf
   simp only [decide_eq_true_eq] at this
   exact absurd h this
 | none =>
   rw [List.find?_eq_none] at hf
   have := hf j (List.mem_range.2 hj)
   simpa using this
structure Org.Fine (o : Org) : Prop where
 dpos : 0 < o.dvs.length
 dlen : o.dvs.length ≤ 8
 rlen : o.ranks.length ≤ 60
 keys : ∀ j, j < o.dvs.length → 0 ≤ (aC o.dvs j).lo ∧ (aC o.dvs j).lo ≤ (aC o.dvs j).hi ∧ (aC o.dvs j).hi ≤ 127
 stops : ∀ j, j < o.dvs.length → (aC o.dvs j).stops.length ≤ 60
 clen : o.cpls.length ≤ 40
 draws : ∀ j, j < o.dvs.length → ∀ s ∈ (aC o.dvs j).stops, ∀ g ∈ s.segs, g.draws.length ≤ 8
theorem Org.fine {o : Org} (h : organE o = 0) : o.Fine := by
 unfold organE at h
 split at h
 ·omega
 split at h
 ·omega
 rename_i _ h2
 split at h
 ·rename_i hh; exact absurd h hh
 split at h
 ·omega
 rename_i h4
 split at h
 ·omega
 rename_i h5
 split at h
 ·rename_i hh; exact absurd h hh
 rename_i h6
 have h6 := Classical.not_not.1 h6
 have hd : ∀ j, j < o.dvs.length → (0 ≤ (aC o.dvs j).lo ∧ (aC o.dvs j).lo ≤ (aC o.dvs j).hi ∧ (aC o.dvs j).hi ≤ 127) ∧ (aC o.dvs j).stops.length ≤ 60 ∧ ∀ s ∈ (aC o.dvs j).stops, ∀ g ∈ s.segs, g.draws.length ≤ 8 := by
  intro j hj
  have e := qX h6 j hj
  unfold lU at e
  split at e
  ·omega
  split at e
  ·omega
  unfold divE at e
  split at e
  ·rename_i hh; exact absurd e hh
  rename_i hc
  have hc := Classical.not_not.1 hc
  split at e
  ·omega
  unfold iV at hc
  split at hc
  ·omega
  split at hc
  ·omega
  refine ⟨by omega, by omega, fun s hs g hg => ?_⟩
  obtain ⟨k, hk, rfl⟩ := List.mem_iff_getElem.1 hs
  obtain ⟨i, hi, rfl⟩ := List.mem_iff_getElem.1 hg
  have e2 := qX e k hk
  unfold gN at e2
  rw [cF _ k hk] at e2
  split at e2
  ·rename_i hh; exact absurd e2 hh
  rename_i e3
  have e3 := Classical.not_not.1 e3
  unfold stopE at e3
  split at e3
  ·rename_i hh; exact absurd e3 hh
  split at e3
  ·omega
  split at e3
  ·rename_i hh; exact absurd e3 hh
  split at e3
  ·omega
  split at e3
  ·omega
  have e4 := qX e3 i hi
  unfold cR at e4
  rw [cF _ i hi] at e4
  split at e4
  ·omega
  split at e4
  ·omega
  unfold dA at e4
  split at e4
  ·omega
  omega
 refine ⟨by omega, by omega, by omega, fun j hj => (hd j hj).1, fun j hj => (hd j hj).2.1, ?_, fun j hj => (hd j hj).2.2⟩
 unfold lT at h
 split at h <;> omega
theorem fT (o : Org) (c : Ct) : iM o c = true ↔ 0 ≤ c.1 ∧ c.1 < o.dvs.length ∧ (aC o.dvs c.1.toNat).lo ≤ c.2 ∧ c.2 ≤ (aC o.dvs c.1.toNat).hi := by
 unfold iM
 simp only [Bool.and_eq_true, decide_eq_true_eq, and_assoc]
theorem pY {o : Org} (ho : o.Fine) {c : Ct} (h : iM o c = true) : 0 ≤ c.1 ∧ c.1 < 8 ∧ 0 ≤ c.2 ∧ c.2 ≤ 127 := by
 have h := (fT o c).1 h
 have hk := ho.keys c.1.toNat (by omega)
 have := ho.dlen
 omega
theorem Que.len {o : Org} {q : List Ct} (h : Que o q) (ho : o.Fine) : q.length ≤ 1024 := by
 have h1 := a2o 1024 (q.map fun c => c.1.toNat * 128 + c.2.toNat) ?_ ?_
 ·simpa using h1
 ·unfold List.Nodup
  rw [List.pairwise_map]
  refine List.Pairwise.imp_of_mem (fun {a b} ha hb hne e => hne ?_) h.1
  have h1 := pY ho (h.2 a ha)
  have h2 := pY ho (h.2 b hb)
  apply Prod.ext <;> omega
 ·intro i hi
  obtain ⟨c, hc, rfl⟩ := List.mem_map.1 hi
  have h1 := pY ho (h.2 c hc)
  omega
def bfs (o : Org) (cp : Nat) : Nat → Nat → List Ct → List Ct
 | 0, _, q => q
 | n + 1, i, q => if i < q.length then bfs o cp n (i + 1) (stepF o cp true (aC q i) q) else q
def cE (o : Org) (cp : Nat) (l : List Ct) : List Ct := l.foldl (fun q c => stepF o cp false c q) []
def eR (o : Org) (r : Reg) (l : List Ct) : List Ct := dd (lW (l.filter (fun c => !r.off.testBit c.1.toNat) ++ bfs o r.cpl 1100 0 (cE o r.cpl l)))
def gR (rs : List Rk) (d : Drw) (key : Int) : Ct := if d.rank < 0 ∨ rs.length ≤ d.rank then (0, 0) else (d.rank, jG (jG (key + d.shift) - (aC rs d.rank.toNat).first))
def sD (rs : List Rk) (d : Drw) (key : Int) : Bool := !decide (d.rank < 0 ∨ rs.length ≤ d.rank) && decide (0 ≤ (gR rs d key).2) && decide ((gR rs d key).2 < (aC rs d.rank.toNat).wind.length)
def a5E (s : Stp) (key : Int) (j : Nat) : Bool := decide ((aC s.segs j).lo ≤ key) && decide (key ≤ (aC s.segs j).hi)
def a5k (s : Stp) (key : Int) : List Drw := if jE (a5E s key) s.segs.length < 0 then [] else (aC s.segs (jE (a5E s key) s.segs.length).toNat).draws
def kY (rs : List Rk) (s : Stp) (key : Int) : List Ct := dd (lW (((a5k s key).filter fun d => sD rs d key).map fun d => gR rs d key))
def kK (o : Org) (r : Reg) (c : Ct) : List Ct := (List.range (aC o.dvs c.1.toNat).stops.length).flatMap fun i => if (aC r.stops c.1.toNat).testBit i then kY o.ranks (aC (aC o.dvs c.1.toNat).stops i) c.2 else []
def a9Y (o : Org) (r : Reg) (l : List Ct) : List Ct := dd (lW (l.flatMap (kK o r)))
def a5K (o : Org) (r : Reg) (l : List Ct) : List Ct := a9Y o r (eR o r l)
end Go.Ds
namespace Go.Ds
open Go.Proofs
variable {H : Heap}
theorem wG (a b : Nat) (h : a < 18446744073709551616) : ((a : Nat) : Int).fdiv (2 ^ min b (IntKind.bits .u64)) = ((a >>> b : Nat) : Int) := by
 have e : IntKind.bits .u64 = 64 := rfl
 rw [e]
 have h1 : ((a : Nat) : Int).fdiv (2 ^ min b 64) = ((a / 2 ^ min b 64 : Nat) : Int) := by
  rw [Int.fdiv_eq_ediv_of_nonneg _ (by exact Int.le_of_lt (Int.pow_pos (by decide)))]
  simp
 rw [h1, Nat.shiftRight_eq_div_pow]
 by_cases hb : b ≤ 64
 ·rw [Nat.min_eq_left hb]
 ·rw [Nat.min_eq_right (by omega)]
  have h2 : a / 2 ^ 64 = 0 := Nat.div_eq_of_lt (by simpa using h)
  have h3 : a / 2 ^ b = 0 := Nat.div_eq_of_lt (Nat.lt_of_lt_of_le (by simpa using h) (Nat.pow_le_pow_right (by decide) (show 64 ≤ b by omega)))
  rw [h2, h3]
theorem tH (n : Nat) (h : n < 18446744073709551616) : IntKind.wrap .u64 ((BitVec.ofInt (IntKind.bits .u64) (n : Int) &&& BitVec.ofInt (IntKind.bits .u64) 1).toNat : Int) = ((n % 2 : Nat) : Int) := by
 have e : (BitVec.ofInt (IntKind.bits .u64) (n : Int) &&& BitVec.ofInt (IntKind.bits .u64) 1).toNat = n % 2 := by
  show (BitVec.ofInt 64 (n : Int) &&& BitVec.ofInt 64 1).toNat = n % 2
  rw [BitVec.toNat_and]
  have h1 : (BitVec.ofInt 64 (n : Int)).toNat = n := by
   rw [BitVec.ofInt_natCast, BitVec.toNat_ofNat]
   exact Nat.mod_eq_of_lt (by simpa using h)
  have h2 : (BitVec.ofInt 64 1).toNat = 1 := rfl
  rw [h1, h2, Nat.and_one_is_mod]
 rw [e]
 have : n % 2 < 2 := Nat.mod_lt _ (by decide)
 have hh : n % 2 = 0 ∨ n % 2 = 1 := by omega
 rcases hh with h | h <;> rw [h] <;> rfl
theorem tb (a i : Nat) : a.testBit i = decide (a >>> i % 2 = 1) := by
 rw [Nat.testBit_eq_decide_div_mod_eq, Nat.shiftRight_eq_div_pow]
theorem mQ {a : Nat} (b : Nat) (h : a < 18446744073709551616) : a >>> b < 18446744073709551616 := by
 rw [Nat.shiftRight_eq_div_pow]
 exact Nat.lt_of_le_of_lt (Nat.div_le_self _ _) h
theorem uN (o : Org) (ho : o.In H) (c : Ct) : Fn Tryz.prog 67 [.agg #[.string o.name, o.rv, o.dv, o.cv], .agg #[I c.1, I c.2]] H fun r H' => r = I (uU o c) ∧ St Tryz.prog H H' [] := by
 have hl := ho.2.2.2.2.2.2.1
 refine Fn.of_sw Tryz.func67 rfl (by kernel_rfl) fun l hl => ?_
 have hn : l.length = 36 := by rw [hl]; rfl
 have g0 : get l 0 = (.agg #[(.string o.name), o.rv, o.dv, o.cv]) := by rw [hl]; rfl
 have g1 : get l 1 = (.agg #[I c.1, I c.2]) := by rw [hl]; rfl
 clear hl
 simp (disch := omega) only [↓RA, RB, simprocAttr, g0]
 refine (St.refl Tryz.prog H).eNew 4 [(.string o.name), o.rv, o.dv, o.cv] rfl rfl (by simp [OC, ((St.refl Tryz.prog H).sl ho.1).cells.2.1, ((St.refl Tryz.prog H).sl ho.2.2.1).cells.2.1, ((St.refl Tryz.prog H).sl ho.2.2.2.2.1).cells.2.1]) fH fun A1 H1 hS1 => ?_
 simp only [RT] at hS1
 simp (disch := omega) only [↓RA, RB, simprocAttr, g1]
 refine hS1.eNew 2 [I c.1, I c.2] rfl rfl rfl gC fun A2 H2 hS2 => ?_
 simp only [RT] at hS2
 simp (disch := omega) only [↓RA, RZ, simprocAttr, hn, hS2.ld 1 rfl]
 refine aK (fun h1 => ?_) (fun h1 => ?_)
 ·simp (disch := omega) only [↓RA, RZ, simprocAttr, hn, a9u, h1]
  exact ⟨by rw [uU, if_pos (by omega)], hS2.forget⟩
 simp (disch := omega) only [↓RA, RZ, simprocAttr, hn, hS2.ld 1 rfl, hS2.ld 0 rfl, (hS2.sl ho.2.2.1).len, h1]
 refine aA (fun h2 => ?_) (fun h2 => ?_)
 ·simp (disch := omega) only [↓RA, RZ, simprocAttr, hn, a9u, h1, h2]
  exact ⟨by rw [uU, if_pos (by omega)], hS2.forget⟩
 obtain ⟨j, hj⟩ : ∃ j : Nat, c.1 = j := ⟨c.1.toNat, by omega⟩
 have hc : uU o c = if c.2 < (aC o.dvs j).lo ∨ (aC o.dvs j).hi < c.2 then 23 else 0 := by
  rw [uU, if_neg (by omega), hj]
  rfl
 rw [hj] at h1 h2
 simp (disch := omega) only [↓RA, RZ, simprocAttr, hn, hS2.ld 0 rfl, h1, h2, hj]
 simp (disch := omega) only [↓RA, RZ, simprocAttr, hn, hS2.ld 1 rfl, (hS2.sl ho.2.2.1).idx, (hS2.sl ho.2.2.1).fld, (hS2.sl ho.2.2.1).ldP 2, Dvn.cells, h1, h2, hj]
 refine hS2.eNew 2 [I 0, I 0] rfl rfl rfl lN fun A3 H3 hS3 => ?_
 simp only [RT] at hS3
 simp (disch := omega) only [↓RA, RZ, simprocAttr, hn, h1, h2, hj]
 refine hS3.eStore 2 rfl [I (aC o.dvs j).lo, I (aC o.dvs j).hi] rfl rfl lN (by simp) fun H4 hS4 => ?_
 simp only [RT] at hS4
 simp (disch := omega) only [↓RA, RZ, simprocAttr, hn, hS4.ld 1 rfl, hS4.ld 2 rfl, h1, h2, hj]
 refine aK (fun h3 => ?_) (fun h3 => ?_)
 ·simp (disch := omega) only [↓RA, RZ, simprocAttr, hn, a9u, h1, h2, hj, h3]
  exact ⟨by rw [hc, if_pos (by omega)], hS4.forget⟩
 simp (disch := omega) only [↓RA, RZ, simprocAttr, hn, hS4.ld 1 rfl, hS4.ld 2 rfl, h1, h2, hj, h3]
 refine aA (fun h4 => ?_) (fun h4 => ?_)
 ·simp (disch := omega) only [↓RA, RZ, simprocAttr, hn, a9u, h1, h2, hj, h3, h4]
  exact ⟨by rw [hc, if_pos (by omega)], hS4.forget⟩
 simp (disch := omega) only [↓RA, RZ, simprocAttr, hn, a9u, h1, h2, hj, h3, h4]
 exact ⟨by rw [hc, if_neg (by omega)], hS4.forget⟩
def jH (o : Org) (r : Reg) : Int := if organE o ≠ 0 then organE o else if r.stops.length ≠ o.dvs.length then 5 else if ∃ j, j < o.dvs.length ∧ aC r.stops j >>> (aC o.dvs j).stops.length ≠ 0 then 3 else if r.cpl >>> o.cpls.length ≠ 0 ∨ r.off >>> o.dvs.length ≠ 0 then 3 else 0
theorem b8j (o : Org) (ho : o.In H) (r : Reg) (sv : Value) (hr : r.In H sv) : Fn Tryz.prog 18 [.agg #[.string o.name, o.rv, o.dv, o.cv], .agg #[sv, .int .u64 r.cpl, .int .u64 r.off]] H fun v H' => v = I (jH o r) ∧ St Tryz.prog H H' [] := by
 have hl := ho.2.2.2.2.2.2.1
 have hlc := ho.2.2.2.2.2.2.2
 obtain ⟨hr1, hr2, hr3, hr4, hr5⟩ := hr
 refine Fn.of_sw Tryz.func18 rfl (by kernel_rfl) fun l hl => ?_
 have hn : l.length = 55 := by rw [hl]; rfl
 have g0 : get l 0 = (.agg #[(.string o.name), o.rv, o.dv, o.cv]) := by rw [hl]; rfl
 have g1 : get l 1 = (.agg #[sv, (.int .u64 r.cpl), (.int .u64 r.off)]) := by rw [hl]; rfl
 clear hl
 simp (disch := omega) only [↓RA, RB, simprocAttr, g0]
 refine (St.refl Tryz.prog H).eNew 4 [(.string o.name), o.rv, o.dv, o.cv] rfl rfl (by simp [OC, ((St.refl Tryz.prog H).sl ho.1).cells.2.1, ((St.refl Tryz.prog H).sl ho.2.2.1).cells.2.1, ((St.refl Tryz.prog H).sl ho.2.2.2.2.1).cells.2.1]) fH fun A1 H1 hS1 => ?_
 simp only [RT] at hS1
 simp (disch := omega) only [↓RA, RB, simprocAttr, g1]
 refine hS1.eNew 3 [sv, (.int .u64 r.cpl), (.int .u64 r.off)] rfl rfl (by simp [OC, (hS1.sl hr1).cells.2.1]) jU fun A2 H2 hS2 => ?_
 simp only [RT] at hS2
 simp (disch := omega) only [↓RA, RZ, simprocAttr, hn, hS2.ldA 0 rfl]
 refine aB (wT o (ho.keep hS2)) ?_
 rintro r H3 ⟨rfl, hT1⟩
 have hS3 := hS2.trans hT1
 simp only [RT] at hS3
 simp (disch := omega) only [↓RA, RB, simprocAttr, hn]
 refine aA (fun h1 => ?_) (fun h1 => ?_)
 ·simp (disch := omega) only [↓RA, RZ, simprocAttr, hn, a7f, h1]
  exact ⟨by rw [jH, if_pos h1], hS3.forget⟩
 simp (disch := omega) only [↓RA, RZ, simprocAttr, hn, hS3.ld 1 rfl, (hS3.sl hr1).len, hS3.ld 0 rfl, (hS3.sl ho.2.2.1).len, h1]
 refine aA (fun h2 => ?_) (fun h2 => ?_)
 ·simp (disch := omega) only [↓RA, RZ, simprocAttr, hn, a7f, h1, h2]
  exact ⟨by rw [jH, if_neg h1, if_pos (by omega)], hS3.forget⟩
 simp (disch := omega) only [↓RA, RZ, simprocAttr, hn, hS3.ld 0 rfl, (hS3.sl ho.2.2.1).len, h1, h2]
 have hE : jH o r = if ∃ j, j < o.dvs.length ∧ aC r.stops j >>> (aC o.dvs j).stops.length ≠ 0 then 3 else if r.cpl >>> o.cpls.length ≠ 0 ∨ r.off >>> o.dvs.length ≠ 0 then 3 else 0 := by rw [jH, if_neg h1, if_neg (by omega)]
 refine Wp.loopS (fun n l H' => l.length = 55 ∧ get l 2 = (ptr A1 0 4) ∧ get l 3 = (ptr A2 0 3) ∧ get l 21 = o.dv ∧ get l 22 = I o.dvs.length ∧ ∃ (j : Nat), (n + j = o.dvs.length ∧ ∀ q, q < j → aC r.stops q >>> (aC o.dvs q).stops.length = 0) ∧ get l 23 = I j ∧ St Tryz.prog H H' [⟨ptr A1 0 4, 0, [(.string o.name), o.rv, o.dv, o.cv]⟩, ⟨ptr A2 0 3, 0, [sv, (.int .u64 r.cpl), (.int .u64 r.off)]⟩]) o.dvs.length ?_ ?_
 ·simp (disch := omega) only [RB, RC, simprocAttr, hn]
  exact ⟨0, ⟨by omega, fun q hq => absurd hq (Nat.not_lt_zero _)⟩, rfl, hS3⟩
 rintro n l H4 ⟨hn, g2, g3, g21, g22, j, ⟨hj,hz⟩, g23, hS4⟩
 have e1 := wG r.cpl o.cpls.length hr4
 have e2 := wG r.off o.dvs.length hr5
 simp (disch := omega) only [↓RA, RB, simprocAttr, hn, g22, g23]
 refine aA (fun q1 => ?_) (fun q1 => ?_)
 ·have hst := (ho.2.2.2.1 _ (aF (xs := o.dvs) (j := j) (by omega))).2.2
  have e3 := wG (aC r.stops j) (aC o.dvs j).stops.length (hr3 _ (aF (by omega)))
  simp (disch := omega) only [↓RA, RZ, simprocAttr, hn, g21, g23, (hS4.sl ho.2.2.1).idx, (hS4.sl ho.2.2.1).ldA, Dvn.cells, q1]
  refine hS4.eNew 5 [(.string ⟨#[]⟩), (.bool false), I 0, I 0, (.slice none 0 0)] rfl rfl rfl lP fun A3 H5 hS5 => ?_
  simp only [RT] at hS5
  simp (disch := omega) only [↓RA, RZ, simprocAttr, hn, q1]
  refine hS5.eStore 2 rfl [(.string (aC o.dvs j).name), (.bool (aC o.dvs j).pedal), I (aC o.dvs j).lo, I (aC o.dvs j).hi, (aC o.dvs j).sv] rfl (by simp [OC, (hS5.sl (ho.2.2.2.1 (aC o.dvs j) (aF (by omega))).1).cells.2.1]) lP (by simp) fun H6 hS6 => ?_
  simp only [RT] at hS6
  simp (disch := omega) only [↓RA, RZ, simprocAttr, q1]
  refine Wp.drw cB (by kernel_rfl) ?_
  simp (disch := omega) only [↓RA, RZ, simprocAttr, hn, g3, hS6.ld 1 rfl, (hS6.sl hr1).idx, (hS6.sl hr1).ld, one, u64, hS6.ld 2 rfl, (hS6.sl (ho.2.2.2.1 (aC o.dvs j) (aF (by omega))).1).len, e3]
  refine aA (fun q2 => ?_) (fun q2 => ?_)
  ·simp (disch := omega) only [↓RA, RZ, simprocAttr, hn, a7f, q2]
   exact ⟨by rw [hE, if_pos ⟨j, by omega, by omega⟩], hS6.forget⟩
  simp (disch := omega) only [↓RA, RZ, simprocAttr, hn, g2, g3, g21, g22, g23, q2]
  exact ⟨n - 1, by omega, j + 1, ⟨by omega, fun q hq => by rcases Nat.lt_succ_iff_lt_or_eq.1 hq with e | e; (· exact hz q e); (· rw [e]; omega)⟩, by simp, hS6.sub (by simp)⟩
 simp (disch := omega) only [↓RA, RZ, simprocAttr, hn, g2, g3, hS4.ld 1 rfl, hS4.ld 0 rfl, (hS4.sl ho.2.2.2.2.1).len, q1, e1]
 have hno : ¬ ∃ j, j < o.dvs.length ∧ aC r.stops j >>> (aC o.dvs j).stops.length ≠ 0 := by
  rintro ⟨q, hq, hne⟩
  exact hne (hz q (by omega))
 rw [if_neg hno] at hE
 clear hno
 refine aK (fun q3 => ?_) (fun q3 => ?_)
 ·simp (disch := omega) only [↓RA, RZ, simprocAttr, hn, a7f, q1, q3]
  exact ⟨by rw [hE, if_pos (by omega)], hS4.forget⟩
 simp (disch := omega) only [↓RA, RZ, simprocAttr, hn, g2, g3, hS4.ld 1 rfl, hS4.ld 0 rfl, (hS4.sl ho.2.2.1).len, q1, e2, q3]
 refine aA (fun q4 => ?_) (fun q4 => ?_)
 ·simp (disch := omega) only [↓RA, RZ, simprocAttr, hn, a7f, q1, q3, q4]
  exact ⟨by rw [hE, if_pos (by omega)], hS4.forget⟩
 simp (disch := omega) only [↓RA, RZ, simprocAttr, hn, a7f, q1, q3, q4]
 exact ⟨by rw [hE, if_neg (by omega)], hS4.forget⟩
end Go.Ds
namespace Go.Ds
open Go.Proofs
variable {H : Heap}
def mV (o : Org) (b : Nat → Nat) : Reg := ⟨(List.range o.dvs.length).map fun i => b (i % 3) % 2 ^ (aC o.dvs i).stops.length, b 3 % 2 ^ o.cpls.length, b 4 % 2 ^ o.dvs.length⟩
theorem mM (n : Nat) (h : n < 18446744073709551616) : (BitVec.ofInt (IntKind.bits .u64) (n : Int)).toNat = n := by
 show (BitVec.ofInt 64 (n : Int)).toNat = n
 rw [BitVec.ofInt_natCast, BitVec.toNat_ofNat]
 exact Nat.mod_eq_of_lt (by simpa using h)
theorem b0x (b n : Nat) (h : n ≤ 8) (hb : b < 256) : IntKind.wrap .u64 ((BitVec.ofInt (IntKind.bits .u64) (b : Int) &&& BitVec.ofInt (IntKind.bits .u64) (IntKind.wrap .u64 (IntKind.wrap .u64 (1 * 2 ^ min n (IntKind.bits .u64)) - 1))).toNat : Int) = ((b % 2 ^ n : Nat) : Int) := by
 have key : IntKind.wrap .u64 (IntKind.wrap .u64 (1 * 2 ^ min n (IntKind.bits .u64)) - 1) = ((2 ^ n - 1 : Nat) : Int) := by
  have : n = 0 ∨ n = 1 ∨ n = 2 ∨ n = 3 ∨ n = 4 ∨ n = 5 ∨ n = 6 ∨ n = 7 ∨ n = 8 := by omega
  rcases this with rfl | rfl | rfl | rfl | rfl | rfl | rfl | rfl | rfl <;> rfl
 have hp : 2 ^ n ≤ 2 ^ 8 := Nat.pow_le_pow_right (by decide) h
 have e8 : 2 ^ 8 = 256 := rfl
 rw [key, BitVec.toNat_and, mM b (by omega), mM _ (by omega), Nat.and_two_pow_sub_one_eq_mod]
 have : b % 2 ^ n ≤ b := Nat.mod_le _ _
 exact fP _ (by omega) (by omega)
theorem a8N {o : Org} (b : Nat → Nat) (ho : organE o = 0) : jH o (mV o b) = 0 := by
 have hz : ∀ x n : Nat, (x % 2 ^ n) >>> n = 0 := fun x n => by
  rw [Nat.shiftRight_eq_div_pow]
  exact Nat.div_eq_of_lt (Nat.mod_lt _ (Nat.two_pow_pos n))
 unfold jH mV
 rw [if_neg (by rw [ho]; simp), if_neg (by simp), if_neg, if_neg (by simp only [hz]; simp)]
 rintro ⟨j, hj, hne⟩
 simp only at hne
 rw [cF _ j (by simpa using hj)] at hne
 simp only [List.getElem_map, List.getElem_range, hz, ne_eq, not_true_eq_false] at hne
theorem a5g (o : Org) (ho : o.In H) (h1 : o.cpls.length ≤ 3) (h2 : o.dvs.length ≤ 3) (h3 : ∀ j, j < o.dvs.length → (aC o.dvs j).stops.length ≤ 3) (b : Nat → Nat) (hb : ∀ i, b i < 256) :
 Fn Tryz.prog 13 [.agg #[.string o.name, o.rv, o.dv, o.cv], .agg #[.int .u8 (b 0), .int .u8 (b 1), .int .u8 (b 2), .int .u8 (b 3), .int .u8 (b 4)]] H fun r H' =>
  ∃ sv, r = .agg #[sv, .int .u64 (mV o b).cpl, .int .u64 (mV o b).off] ∧ St Tryz.prog H H' [⟨sv, 1, ((mV o b).stops).flatMap (one u64)⟩] := by
 have k0 := hb 0
 have k1 := hb 1
 have k2 := hb 2
 have k3 := hb 3
 have k4 := hb 4
 refine Fn.of_sw Tryz.func13 rfl (by kernel_rfl) fun l hl => ?_
 have hn : l.length = 57 := by rw [hl]; rfl
 have g0 : get l 0 = (.agg #[(.string o.name), o.rv, o.dv, o.cv]) := by rw [hl]; rfl
 have g1 : get l 1 = (.agg #[(.int .u8 (b 0)), (.int .u8 (b 1)), (.int .u8 (b 2)), (.int .u8 (b 3)), (.int .u8 (b 4))]) := by rw [hl]; rfl
 clear hl
 simp (disch := omega) only [↓RA, RB, simprocAttr, g0]
 refine (St.refl Tryz.prog H).eNew 4 [(.string o.name), o.rv, o.dv, o.cv] rfl rfl (by simp [OC, ((St.refl Tryz.prog H).sl ho.1).cells.2.1, ((St.refl Tryz.prog H).sl ho.2.2.1).cells.2.1, ((St.refl Tryz.prog H).sl ho.2.2.2.2.1).cells.2.1]) fH fun A1 H1 hS1 => ?_
 simp only [RT] at hS1
 simp (disch := omega) only [↓RA, RB, simprocAttr, g1]
 refine hS1.eNew 5 [(.int .u8 (b 0)), (.int .u8 (b 1)), (.int .u8 (b 2)), (.int .u8 (b 3)), (.int .u8 (b 4))] rfl rfl rfl b6R fun A2 H2 hS2 => ?_
 simp only [RT] at hS2
 simp (disch := omega) only [↓RA, RZ, simprocAttr]
 refine hS2.eNew 3 [(.slice none 0 0), (.int .u64 0), (.int .u64 0)] rfl rfl rfl jU fun A3 H3 hS3 => ?_
 simp only [RT] at hS3
 simp (disch := omega) only [↓RA, RZ, simprocAttr, hn, hS3.ld 1 rfl, hS3.ld 0 rfl, (hS3.sl ho.2.2.2.2.1).len, (hS3.sl ho.2.2.1).len, b1j]
 refine hS3.eNew 3 [(.slice none 0 0), (.int .u64 0), (.int .u64 0)] rfl rfl rfl jU fun A4 H4 hS4 => ?_
 simp only [RT] at hS4
 simp (disch := omega) only [↓RA, RB, simprocAttr, hn]
 refine hS4.eStore 3 rfl [(.slice none 0 0), _, _] rfl rfl jU (by simp) fun H5 hS5 => ?_
 simp only [RT] at hS5
 simp (disch := omega) only [↓RA, RB, simprocAttr]
 have m1 := b0x (b 3) o.cpls.length (by omega) (hb 3)
 have m2 := b0x (b 4) o.dvs.length (by omega) (hb 4)
 have hS6 := hS5.nil 0
 simp only [RT] at hS6
 simp only [m1, m2] at hS6
 refine Wp.loopS (fun n l H' => l.length = 57 ∧ get l 2 = (ptr A1 0 4) ∧ get l 3 = (ptr A2 0 5) ∧ get l 4 = (ptr A3 0 3) ∧ get l 5 = (ptr A4 0 3) ∧ ∃ (i : Nat) (sv : Value), (n + i = o.dvs.length) ∧ get l 6 = I i ∧ St Tryz.prog H H' [⟨ptr A1 0 4, 0, [(.string o.name), o.rv, o.dv, o.cv]⟩, ⟨ptr A2 0 5, 0, [(.int .u8 (b 0)), (.int .u8 (b 1)), (.int .u8 (b 2)), (.int .u8 (b 3)), (.int .u8 (b 4))]⟩, ⟨ptr A3 0 3, 0, [(.slice none 0 0), (.int .u64 0), (.int .u64 0)]⟩, ⟨ptr A4 0 3, 0, [sv, .int .u64 (b 3 % 2 ^ o.cpls.length : Nat), .int .u64 (b 4 % 2 ^ o.dvs.length : Nat)]⟩, ⟨sv, 1, ((List.range i).map fun i => b (i % 3) % 2 ^ (aC o.dvs i).stops.length).flatMap (one u64)⟩]) o.dvs.length ?_ ?_
 ·simp (disch := omega) only [RB, RC, simprocAttr, hn]
  exact ⟨0, _, by omega, rfl, hS6⟩
 rintro n l H6 ⟨hn, g2, g3, g4, g5, i, sv, hi, g6, hS7⟩
 simp (disch := omega) only [↓RA, RZ, simprocAttr, hn, g2, g6, hS7.ld 0 rfl, (hS7.sl ho.2.2.1).len]
 refine aA (fun q => ?_) (fun q => ?_)
 ·have hi3 : (i : Int).tmod 3 = ((i % 3 : Nat) : Int) := (Int.ofNat_tmod i 3).symm
  have hw : ([Value.int .u8 (b 0), .int .u8 (b 1), .int .u8 (b 2), .int .u8 (b 3), .int .u8 (b 4)] : List Value)[i % 3]? = some (.int .u8 (b (i % 3))) := by
   have : i % 3 = 0 ∨ i % 3 = 1 ∨ i % 3 = 2 := by omega
   rcases this with e | e | e <;> rw [e] <;> rfl
  have hst := h3 i (by omega)
  have hbi := hb (i % 3)
  have m3 := b0x (b (i % 3)) (aC o.dvs i).stops.length (by omega) (hb _)
  simp (disch := omega) only [↓RA, RC, simprocAttr, q]
  refine Wp.drwT cB [(1, 19)] (by kernel_rfl) (by kernel_rfl) ?_
  simp (disch := omega) only [↓RA, RZ, simprocAttr, hn, g2, g3, g5, g6, hS7.ld 3 rfl, hS7.ld 1 rfl, hw, hS7.ld 0 rfl, (hS7.sl ho.2.2.1).idx, (hS7.sl ho.2.2.1).fld, (hS7.sl ho.2.2.1).ld, Dvn.cells, (hS7.sl (ho.2.2.2.1 (aC o.dvs i) (aF (by omega))).1).len, hi3, m3]
  refine hS7.eSlice [_] b6w c0C rfl rfl (by simp [Value.cells]) rfl rfl (by decide) (by decide) fun w1 H7 hS8 => ?_
  simp only [RT] at hS8
  simp (disch := omega) only [↓RA, RZ, simprocAttr, hn]
  refine hS8.eAppend 4 rfl (hS8.rd 5 rfl) b6w (by rw [aS (n := 1) (cel := one u64) (fun _ => rfl)]; simp; omega) fun w2 H8 hS9 => ?_
  simp only [RT] at hS9
  simp (disch := omega) only [↓RA, RZ, simprocAttr, hn, g5]
  refine hS9.eStore 3 rfl [w2] (by rw [(hS9.rd 4 rfl).cells.1]) (by simp [(hS9.rd 4 rfl).cells.2.1]) c0N (by simp) fun H9 hS10 => ?_
  simp only [RT] at hS10
  simp (disch := omega) only [↓RA, RZ, simprocAttr, hn, g2, g3, g4, g5, g6, hS8.ld 3 rfl]
  refine ⟨n - 1, by omega, i + 1, w2, by omega, rfl, ?_⟩
  rw [List.range_succ, List.map_append, List.flatMap_append]
  exact hS10.pick [0, 1, 2, 3, 4] (by decide) rfl
 simp (disch := omega) only [↓RA, RZ, simprocAttr, hn, g4, g5, hS7.ldA 3 rfl, q]
 refine hS7.eStore 2 rfl [sv, (.int .u64 (b 3 % 2 ^ o.cpls.length : Nat)), (.int .u64 (b 4 % 2 ^ o.dvs.length : Nat))] rfl (by simp [OC, (hS7.rd 4 rfl).cells.2.1]) jU (by simp) fun H10 hS11 => ?_
 simp only [RT] at hS11
 simp (disch := omega) only [↓RA, RZ, simprocAttr, g4, c2I, hS11.ldA 2 rfl, q]
 have hii : i = o.dvs.length := by omega
 subst hii
 exact ⟨sv, rfl, hS11.pick [4] (by decide) rfl⟩
end Go.Ds
namespace Go.Ds
open Go.Proofs
variable {H : Heap}
set_option maxRecDepth 10000
theorem b8o : a6K Tryz.prog 46 = some (1 + 1) := by kernel_rfl
theorem c0V : a6K Tryz.prog 58 = some (1 + 1) := by kernel_rfl
theorem a1N {B : Base} {v : Value} {es : List (Int × Int)} (hS : St Tryz.prog B H [⟨v, 2, pr es⟩]) (hl : es.length < 100000000000) :
 Fn Tryz.prog 92 [v] H fun r H' => ∃ rest : List Value, (∀ b, cC r = some b → cC v = some b) ∧ (∀ H2, RdAt H2 v 2 (pr (dd es) ++ rest) → RdAt H2 r 2 (pr (dd es))) ∧ St Tryz.prog B H' [⟨v, 2, pr (dd es) ++ rest⟩] := by
 refine Fn.of_sw Tryz.func92 rfl (by kernel_rfl) fun l hl => ?_
 have hn : l.length = 61 := by rw [hl]; rfl
 have g0 : get l 0 = v := by rw [hl]; rfl
 clear hl
 simp (disch := omega) only [↓RA, RZ, simprocAttr, hn, g0, (hS.slo 0 rfl (fun _ => rfl)).len]
 refine aA (fun h => ?_) (fun h => ?_)
 ·have hd := kL es es.length (Nat.le_refl _) fun j h1 h2 => by omega
  rw [List.take_length] at hd
  simp (disch := omega) only [↓RA, RZ, simprocAttr, hn, g0, b8B, h]
  exact ⟨[], fun _ h => h, by unfold dd; rw [hd, List.append_nil]; exact fun _ h => h, by unfold dd; rw [hd, List.append_nil]; exact hS⟩
 simp (disch := omega) only [↓RA, RZ, simprocAttr, h]
 refine Wp.loopS (fun n l H' => l.length = 61 ∧ get l 0 = v ∧ ∃ (k : Nat), (0 < k ∧ n + k = es.length ∧ ∀ j, 0 < j → j < k → aC es j ≠ aC es (j - 1)) ∧ get l 3 = I k ∧ St Tryz.prog B H' [⟨v, 2, pr es⟩]) (es.length - 1) ?_ ?_
 ·simp (disch := omega) only [RB, RC, simprocAttr, hn, g0]
  exact ⟨1, ⟨by omega, by omega, fun j h1 h2 => by omega⟩, rfl, hS⟩
 rintro n l H1 ⟨hn, g0, k, ⟨hk0,hk,hdis⟩, g3, hS1⟩
 simp (disch := omega) only [↓RA, RZ, simprocAttr, hn, g0, g3, (hS1.slo 0 rfl (fun _ => rfl)).len]
 refine aA (fun h2 => ?_) (fun h2 => ?_)
 ·have hkl : k < es.length := by omega
  have hpre : (k : Int) - 1 = ((k - 1 : Nat) : Int) := by omega
  simp (disch := omega) only [↓RA, RC, simprocAttr, h2]
  refine Wp.drw cB (by kernel_rfl) ?_
  simp (disch := omega) only [↓RA, RZ, simprocAttr, hn, g0, g3, (hS1.slo 0 rfl (fun _ => rfl)).idx, (hS1.slo 0 rfl (fun _ => rfl)).ldA, cA, hpre]
  refine aA (fun h3 => ?_) (fun h3 => ?_)
  ·have h3 : aC es k = aC es (k - 1) := Prod.ext h3.1 h3.2
   have hlen : (pr es).length = es.length * (1 + 1) := aI es
   have hpos : 0 < es.length := by omega
   have hdk := kL es k (by omega) hdis
   have hdk1 : qQ es (k + 1) = es.take k := by rw [jS, hdk, if_neg (by rintro (h4 | h4); omega; exact h4 h3), List.append_nil]
   have hrow : St Tryz.prog B H1 [⟨v, 2, pr (qQ es (k + 1) ++ es.drop k)⟩] := by rw [hdk1, List.take_append_drop]; exact hS1
   have hdl : (qQ es (k + 1)).length = k := by rw [hdk1, List.length_take]; omega
   simp (disch := omega) only [↓RA, RZ, simprocAttr, hn, g0, g3, (hS1.slo 0 rfl (fun _ => rfl)).sliceL, h3]
   refine Wp.loopS (fun n l H' => l.length = 61 ∧ get l 0 = v ∧ ∃ k2 : Nat, (0 < k2 ∧ n + k + k2 = es.length ∧ (qQ es (k + k2)).length < k + k2) ∧ get l 3 = I (qQ es (k + k2)).length ∧ get l 4 = jA v 2 k (es.length - k) ∧ get l 5 = I k2 ∧ St Tryz.prog B H' [⟨v, 2, pr (qQ es (k + k2) ++ es.drop (qQ es (k + k2)).length)⟩]) (es.length - k - 1) ?_ ?_
   ·simp (disch := omega) only [RB, RC, simprocAttr, hn, g0, g3]
    refine ⟨1, ⟨by omega, by omega, by omega⟩, by rw [hdl], by congr 1; omega, rfl, ?_⟩
    rw [hdl]
    exact hrow
   clear hrow hdk hdk1 hdl hdis
   rintro n l H9 ⟨hn, g0, k2, ⟨hk20, hk2, hlt⟩, g3, g4, g5, hS9⟩
   have hsucc := jS es (k + k2)
   generalize hD : qQ es (k + k2) = D at g3 hlt hS9 hsucc
   have hrl : (D ++ es.drop D.length).length = es.length := by rw [List.length_append, List.length_drop]; omega
   have hv : Sl 2 cA H9 v (D ++ es.drop D.length) := hS9.slo 0 rfl cN
   have hat : ∀ j, D.length ≤ j → aC (D ++ es.drop D.length) j = aC es j := fun j hj => by
    unfold aC
    rw [List.getD_eq_getElem?_getD, List.getElem?_append_right hj, List.getElem?_drop, List.getD_eq_getElem?_getD]
    congr 2; omega
   have hsub : Sl 2 cA H9 (jA v 2 k ((D ++ es.drop D.length).length - k)) ((D ++ es.drop D.length).drop k) := hv.subL k (by omega) (by omega)
   rw [hrl] at hsub
   have hsl : ((D ++ es.drop D.length).drop k).length = es.length - k := by rw [List.length_drop, hrl]
   have hsat : ∀ j, D.length ≤ k + j → aC ((D ++ es.drop D.length).drop k) j = aC es (k + j) := fun j hj => by
    rw [← hat (k + j) hj]
    unfold aC
    rw [List.getD_eq_getElem?_getD, List.getElem?_drop, List.getD_eq_getElem?_getD]
   have hbd : ((es.length - k : Nat) : Int) = (es.length : Int) - k := by omega
   simp (disch := omega) only [↓RA, RZ, simprocAttr, hn, g4, g5, hsub.len, hsl, hbd]
   refine aA (fun h4 => ?_) (fun h4 => ?_)
   ·have hj : k + k2 < es.length := by omega
    have hpre2 : (k2 : Int) - 1 = ((k2 - 1 : Nat) : Int) := by omega
    have e1 := hsat k2 (by omega)
    have e2 := hsat (k2 - 1) (by omega)
    rw [show k + (k2 - 1) = k + k2 - 1 from by omega] at e2
    simp (disch := omega) only [↓RA, RC, simprocAttr, h4]
    refine Wp.drw cB (by kernel_rfl) ?_
    simp (disch := omega) only [↓RA, RZ, simprocAttr, hn, g4, g5, hsub.idx, hsub.ldA, cA, hpre2, e1, e2]
    refine aA (fun h5 => ?_) (fun h5 => ?_)
    ·have hne : aC es (k + k2) ≠ aC es (k + k2 - 1) := fun e => h5 (by rw [e]; exact ⟨rfl, rfl⟩)
     rw [if_pos (.inr hne)] at hsucc
     simp (disch := omega) only [↓RA, RZ, simprocAttr, hn, g0, g3, g4, g5, hsub.idx, hsub.ldA, cA, e1, h5]
     simp (disch := omega) only [↓RA, RZ, simprocAttr, hn, (hS9.slo 0 rfl (fun _ => rfl)).idx, h5]
     refine hS9.eStoreE 0 rfl [I (aC es (k + k2)).1, I (aC es (k + k2)).2] rfl rfl gC (by simp) (by rw [aI, hrl]; simp; omega) fun H2 hS2 => ?_
     simp only [RT] at hS2
     simp (disch := omega) only [↓RA, RZ, simprocAttr, hn, g0, g3, g4, g5, h5]
     refine ⟨n - 1, by omega, k2 + 1, ?_⟩
     rw [show k + (k2 + 1) = k + k2 + 1 from by omega, hsucc]
     refine ⟨⟨by omega, by omega, by simp; omega⟩, by simp, by simp, ?_⟩
     have e3 : pr (D ++ [aC es (k + k2)] ++ es.drop (D ++ [aC es (k + k2)]).length) = ((pr (D ++ es.drop D.length)).set (D.length * 2) (I (aC es (k + k2)).1)).set (D.length * 2 + 1) (I (aC es (k + k2)).2) := by
      have hx : es.drop D.length = aC es D.length :: es.drop (D.length + 1) := by
       rw [cF es _ (by omega)]
       exact List.drop_eq_getElem_cons (by omega)
      rw [hx, List.length_append, List.length_singleton, bL, bL, bL]
      have e4 : pr (aC es D.length :: es.drop (D.length + 1)) = I (aC es D.length).1 :: I (aC es D.length).2 :: pr (es.drop (D.length + 1)) := rfl
      have e5 : pr [aC es (k + k2)] = [I (aC es (k + k2)).1, I (aC es (k + k2)).2] := rfl
      have e6 : (pr D).length = D.length * 2 := aI D
      rw [e4, e5, List.set_append_right _ _ (by omega), List.set_append_right _ _ (by omega), e6, Nat.sub_self, Nat.add_sub_cancel_left]
      simp
     rw [e3]
     exact hS2
    have heq : aC es (k + k2) = aC es (k + k2 - 1) := by
     have h6 := Classical.not_not.1 h5
     exact Prod.ext h6.1 h6.2
    rw [if_neg (by rintro (h6 | h6); omega; exact h6 heq), List.append_nil] at hsucc
    simp (disch := omega) only [↓RA, RZ, simprocAttr, hn, g0, g3, g4, g5, h5]
    refine ⟨n - 1, by omega, k2 + 1, ?_⟩
    rw [show k + (k2 + 1) = k + k2 + 1 from by omega, hsucc]
    exact ⟨⟨by omega, by omega, by omega⟩, rfl, by simp, hS9⟩
   have hke : k + k2 = es.length := by omega
   rw [hke] at hD
   have hcl : (pr (D ++ es.drop D.length)).length = es.length * (1 + 1) := by rw [aI, hrl]
   have hDn : D.length ≤ es.length := by omega
   simp (disch := omega) only [↓RA, RZ, simprocAttr, hn, g0, g3, (hS9.slo 0 rfl (fun _ => rfl)).sliceL, h4]
   rw [show (((D ++ es.drop D.length).length : Int) - D.length).toNat = es.length - D.length from by rw [hrl]; omega]
   refine hS9.eClear (size := 1) 0 rfl D.length (es.length - D.length) (by rw [hcl]; omega) (by
    intro e
    have h2 : (pr (D ++ es.drop D.length)).length = 0 := by rw [e]; rfl
    rw [aI, hrl] at h2; omega) b8o fun z H3 hz hSc => ?_
   simp only [RT] at hSc
   have e3 : aY (pr (D ++ es.drop D.length)) (D.length * 2) z = pr D ++ z := by
    rw [bL, show D.length * 2 = (pr D).length from (aI D).symm, eO z (pr D) (pr (es.drop D.length)) (by rw [aI, List.length_drop]; omega)]
    rw [List.drop_of_length_le (by rw [aI, List.length_drop]; omega), List.append_nil]
   rw [show D.length * (1 + 1) = D.length * 2 from rfl, e3] at hSc
   have hw : RdAt H3 v (1 + 1) (pr D ++ z) := hSc.rd 0 rfl
   have hwl : (pr D ++ z).length = es.length * (1 + 1) := by rw [List.length_append, aI, hz]; omega
   simp (disch := omega) only [↓RA, RZ, simprocAttr, hn, g0, g3, hw.sliceH hwl, b8B, h4]
   refine ⟨z, fun b h => a1J h, fun H2 h2 => ?_, by unfold dd; rw [hD]; exact hSc⟩
   unfold dd at h2 ⊢
   rw [hD] at h2 ⊢
   have h5 := RdAt.sub h2 0 D.length (by rw [hwl]; omega) (by
    intro e
    rw [e] at hwl
    simp at hwl; omega)
   rw [Nat.zero_mul, List.drop_zero, show D.length * 2 = (pr D).length from (aI D).symm, List.take_left' rfl] at h5
   exact h5
  have hne : aC es k ≠ aC es (k - 1) := fun e => h3 (by rw [e]; exact ⟨rfl, rfl⟩)
  simp (disch := omega) only [↓RA, RZ, simprocAttr, hn, g0, g3, h3]
  refine ⟨n - 1, by omega, k + 1, ⟨by omega, by omega, fun j h4 h5 => ?_⟩, by simp, hS1⟩
  by_cases e : j = k
  ·rw [e]; exact hne
  ·exact hdis j h4 (by omega)
 have hke : k = es.length := by omega
 have hd := kL es es.length (Nat.le_refl _) (hke ▸ hdis)
 rw [List.take_length] at hd
 simp (disch := omega) only [↓RA, RZ, simprocAttr, hn, g0, b8B, h2]
 exact ⟨[], fun _ h => h, by unfold dd; rw [hd, List.append_nil]; exact fun _ h => h, by unfold dd; rw [hd, List.append_nil]; exact hS1⟩
theorem tB {B : Base} {v : Value} {es : List (Int × Int)} (hS : St Tryz.prog B H [⟨v, 2, pr es⟩]) (hl : es.length < 100000000000) :
 Fn Tryz.prog 64 [v] H fun r H' => ∃ rest : List Value, (∀ b, cC r = some b → cC v = some b) ∧ (∀ H2, RdAt H2 v 2 (pr (dd es) ++ rest) → RdAt H2 r 2 (pr (dd es))) ∧ St Tryz.prog B H' [⟨v, 2, pr (dd es) ++ rest⟩] := by
 refine Fn.of_sw Tryz.func64 rfl (by kernel_rfl) fun l hl => ?_
 have hn : l.length = 61 := by rw [hl]; rfl
 have g0 : get l 0 = v := by rw [hl]; rfl
 clear hl
 simp (disch := omega) only [↓RA, RZ, simprocAttr, hn, g0, (hS.slo 0 rfl (fun _ => rfl)).len]
 refine aA (fun h => ?_) (fun h => ?_)
 ·have hd := kL es es.length (Nat.le_refl _) fun j h1 h2 => by omega
  rw [List.take_length] at hd
  simp (disch := omega) only [↓RA, RZ, simprocAttr, hn, g0, b7I, h]
  exact ⟨[], fun _ h => h, by unfold dd; rw [hd, List.append_nil]; exact fun _ h => h, by unfold dd; rw [hd, List.append_nil]; exact hS⟩
 simp (disch := omega) only [↓RA, RZ, simprocAttr, h]
 refine Wp.loopS (fun n l H' => l.length = 61 ∧ get l 0 = v ∧ ∃ (k : Nat), (0 < k ∧ n + k = es.length ∧ ∀ j, 0 < j → j < k → aC es j ≠ aC es (j - 1)) ∧ get l 3 = I k ∧ St Tryz.prog B H' [⟨v, 2, pr es⟩]) (es.length - 1) ?_ ?_
 ·simp (disch := omega) only [RB, RC, simprocAttr, hn, g0]
  exact ⟨1, ⟨by omega, by omega, fun j h1 h2 => by omega⟩, rfl, hS⟩
 rintro n l H1 ⟨hn, g0, k, ⟨hk0,hk,hdis⟩, g3, hS1⟩
 simp (disch := omega) only [↓RA, RZ, simprocAttr, hn, g0, g3, (hS1.slo 0 rfl (fun _ => rfl)).len]
 refine aA (fun h2 => ?_) (fun h2 => ?_)
 ·have hkl : k < es.length := by omega
  have hpre : (k : Int) - 1 = ((k - 1 : Nat) : Int) := by omega
  simp (disch := omega) only [↓RA, RC, simprocAttr, h2]
  refine Wp.drw cB (by kernel_rfl) ?_
  simp (disch := omega) only [↓RA, RZ, simprocAttr, hn, g0, g3, (hS1.slo 0 rfl (fun _ => rfl)).idx, (hS1.slo 0 rfl (fun _ => rfl)).ldA, cA, hpre]
  refine aA (fun h3 => ?_) (fun h3 => ?_)
  ·have h3 : aC es k = aC es (k - 1) := Prod.ext h3.1 h3.2
   have hlen : (pr es).length = es.length * (1 + 1) := aI es
   have hpos : 0 < es.length := by omega
   have hdk := kL es k (by omega) hdis
   have hdk1 : qQ es (k + 1) = es.take k := by rw [jS, hdk, if_neg (by rintro (h4 | h4); omega; exact h4 h3), List.append_nil]
   have hrow : St Tryz.prog B H1 [⟨v, 2, pr (qQ es (k + 1) ++ es.drop k)⟩] := by rw [hdk1, List.take_append_drop]; exact hS1
   have hdl : (qQ es (k + 1)).length = k := by rw [hdk1, List.length_take]; omega
   simp (disch := omega) only [↓RA, RZ, simprocAttr, hn, g0, g3, (hS1.slo 0 rfl (fun _ => rfl)).sliceL, h3]
   refine Wp.loopS (fun n l H' => l.length = 61 ∧ get l 0 = v ∧ ∃ k2 : Nat, (0 < k2 ∧ n + k + k2 = es.length ∧ (qQ es (k + k2)).length < k + k2) ∧ get l 3 = I (qQ es (k + k2)).length ∧ get l 4 = jA v 2 k (es.length - k) ∧ get l 5 = I k2 ∧ St Tryz.prog B H' [⟨v, 2, pr (qQ es (k + k2) ++ es.drop (qQ es (k + k2)).length)⟩]) (es.length - k - 1) ?_ ?_
   ·simp (disch := omega) only [RB, RC, simprocAttr, hn, g0, g3]
    refine ⟨1, ⟨by omega, by omega, by omega⟩, by rw [hdl], by congr 1; omega, rfl, ?_⟩
    rw [hdl]
    exact hrow
   clear hrow hdk hdk1 hdl hdis
   rintro n l H9 ⟨hn, g0, k2, ⟨hk20, hk2, hlt⟩, g3, g4, g5, hS9⟩
   have hsucc := jS es (k + k2)
   generalize hD : qQ es (k + k2) = D at g3 hlt hS9 hsucc
   have hrl : (D ++ es.drop D.length).length = es.length := by rw [List.length_append, List.length_drop]; omega
   have hv : Sl 2 cA H9 v (D ++ es.drop D.length) := hS9.slo 0 rfl cN
   have hat : ∀ j, D.length ≤ j → aC (D ++ es.drop D.length) j = aC es j := fun j hj => by
    unfold aC
    rw [List.getD_eq_getElem?_getD, List.getElem?_append_right hj, List.getElem?_drop, List.getD_eq_getElem?_getD]
    congr 2; omega
   have hsub : Sl 2 cA H9 (jA v 2 k ((D ++ es.drop D.length).length - k)) ((D ++ es.drop D.length).drop k) := hv.subL k (by omega) (by omega)
   rw [hrl] at hsub
   have hsl : ((D ++ es.drop D.length).drop k).length = es.length - k := by rw [List.length_drop, hrl]
   have hsat : ∀ j, D.length ≤ k + j → aC ((D ++ es.drop D.length).drop k) j = aC es (k + j) := fun j hj => by
    rw [← hat (k + j) hj]
    unfold aC
    rw [List.getD_eq_getElem?_getD, List.getElem?_drop, List.getD_eq_getElem?_getD]
   have hbd : ((es.length - k : Nat) : Int) = (es.length : Int) - k := by omega
   simp (disch := omega) only [↓RA, RZ, simprocAttr, hn, g4, g5, hsub.len, hsl, hbd]
   refine aA (fun h4 => ?_) (fun h4 => ?_)
   ·have hj : k + k2 < es.length := by omega
    have hpre2 : (k2 : Int) - 1 = ((k2 - 1 : Nat) : Int) := by omega
    have e1 := hsat k2 (by omega)
    have e2 := hsat (k2 - 1) (by omega)
    rw [show k + (k2 - 1) = k + k2 - 1 from by omega] at e2
    simp (disch := omega) only [↓RA, RC, simprocAttr, h4]
    refine Wp.drw cB (by kernel_rfl) ?_
    simp (disch := omega) only [↓RA, RZ, simprocAttr, hn, g4, g5, hsub.idx, hsub.ldA, cA, hpre2, e1, e2]
    refine aA (fun h5 => ?_) (fun h5 => ?_)
    ·have hne : aC es (k + k2) ≠ aC es (k + k2 - 1) := fun e => h5 (by rw [e]; exact ⟨rfl, rfl⟩)
     rw [if_pos (.inr hne)] at hsucc
     simp (disch := omega) only [↓RA, RZ, simprocAttr, hn, g0, g3, g4, g5, hsub.idx, hsub.ldA, cA, e1, h5]
     simp (disch := omega) only [↓RA, RZ, simprocAttr, hn, (hS9.slo 0 rfl (fun _ => rfl)).idx, h5]
     refine hS9.eStoreE 0 rfl [I (aC es (k + k2)).1, I (aC es (k + k2)).2] rfl rfl oU (by simp) (by rw [aI, hrl]; simp; omega) fun H2 hS2 => ?_
     simp only [RT] at hS2
     simp (disch := omega) only [↓RA, RZ, simprocAttr, hn, g0, g3, g4, g5, h5]
     refine ⟨n - 1, by omega, k2 + 1, ?_⟩
     rw [show k + (k2 + 1) = k + k2 + 1 from by omega, hsucc]
     refine ⟨⟨by omega, by omega, by simp; omega⟩, by simp, by simp, ?_⟩
     have e3 : pr (D ++ [aC es (k + k2)] ++ es.drop (D ++ [aC es (k + k2)]).length) = ((pr (D ++ es.drop D.length)).set (D.length * 2) (I (aC es (k + k2)).1)).set (D.length * 2 + 1) (I (aC es (k + k2)).2) := by
      have hx : es.drop D.length = aC es D.length :: es.drop (D.length + 1) := by
       rw [cF es _ (by omega)]
       exact List.drop_eq_getElem_cons (by omega)
      rw [hx, List.length_append, List.length_singleton, bL, bL, bL]
      have e4 : pr (aC es D.length :: es.drop (D.length + 1)) = I (aC es D.length).1 :: I (aC es D.length).2 :: pr (es.drop (D.length + 1)) := rfl
      have e5 : pr [aC es (k + k2)] = [I (aC es (k + k2)).1, I (aC es (k + k2)).2] := rfl
      have e6 : (pr D).length = D.length * 2 := aI D
      rw [e4, e5, List.set_append_right _ _ (by omega), List.set_append_right _ _ (by omega), e6, Nat.sub_self, Nat.add_sub_cancel_left]
      simp
     rw [e3]
     exact hS2
    have heq : aC es (k + k2) = aC es (k + k2 - 1) := by
     have h6 := Classical.not_not.1 h5
     exact Prod.ext h6.1 h6.2
    rw [if_neg (by rintro (h6 | h6); omega; exact h6 heq), List.append_nil] at hsucc
    simp (disch := omega) only [↓RA, RZ, simprocAttr, hn, g0, g3, g4, g5, h5]
    refine ⟨n - 1, by omega, k2 + 1, ?_⟩
    rw [show k + (k2 + 1) = k + k2 + 1 from by omega, hsucc]
    exact ⟨⟨by omega, by omega, by omega⟩, rfl, by simp, hS9⟩
   have hke : k + k2 = es.length := by omega
   rw [hke] at hD
   have hcl : (pr (D ++ es.drop D.length)).length = es.length * (1 + 1) := by rw [aI, hrl]
   have hDn : D.length ≤ es.length := by omega
   simp (disch := omega) only [↓RA, RZ, simprocAttr, hn, g0, g3, (hS9.slo 0 rfl (fun _ => rfl)).sliceL, h4]
   rw [show (((D ++ es.drop D.length).length : Int) - D.length).toNat = es.length - D.length from by rw [hrl]; omega]
   refine hS9.eClear (size := 1) 0 rfl D.length (es.length - D.length) (by rw [hcl]; omega) (by
    intro e
    have h2 : (pr (D ++ es.drop D.length)).length = 0 := by rw [e]; rfl
    rw [aI, hrl] at h2; omega) c0V fun z H3 hz hSc => ?_
   simp only [RT] at hSc
   have e3 : aY (pr (D ++ es.drop D.length)) (D.length * 2) z = pr D ++ z := by
    rw [bL, show D.length * 2 = (pr D).length from (aI D).symm, eO z (pr D) (pr (es.drop D.length)) (by rw [aI, List.length_drop]; omega)]
    rw [List.drop_of_length_le (by rw [aI, List.length_drop]; omega), List.append_nil]
   rw [show D.length * (1 + 1) = D.length * 2 from rfl, e3] at hSc
   have hw : RdAt H3 v (1 + 1) (pr D ++ z) := hSc.rd 0 rfl
   have hwl : (pr D ++ z).length = es.length * (1 + 1) := by rw [List.length_append, aI, hz]; omega
   simp (disch := omega) only [↓RA, RZ, simprocAttr, hn, g0, g3, hw.sliceH hwl, b7I, h4]
   refine ⟨z, fun b h => a1J h, fun H2 h2 => ?_, by unfold dd; rw [hD]; exact hSc⟩
   unfold dd at h2 ⊢
   rw [hD] at h2 ⊢
   have h5 := RdAt.sub h2 0 D.length (by rw [hwl]; omega) (by
    intro e
    rw [e] at hwl
    simp at hwl; omega)
   rw [Nat.zero_mul, List.drop_zero, show D.length * 2 = (pr D).length from (aI D).symm, List.take_left' rfl] at h5
   exact h5
  have hne : aC es k ≠ aC es (k - 1) := fun e => h3 (by rw [e]; exact ⟨rfl, rfl⟩)
  simp (disch := omega) only [↓RA, RZ, simprocAttr, hn, g0, g3, h3]
  refine ⟨n - 1, by omega, k + 1, ⟨by omega, by omega, fun j h4 h5 => ?_⟩, by simp, hS1⟩
  by_cases e : j = k
  ·rw [e]; exact hne
  ·exact hdis j h4 (by omega)
 have hke : k = es.length := by omega
 have hd := kL es es.length (Nat.le_refl _) (hke ▸ hdis)
 rw [List.take_length] at hd
 simp (disch := omega) only [↓RA, RZ, simprocAttr, hn, g0, b7I, h2]
 exact ⟨[], fun _ h => h, by unfold dd; rw [hd, List.append_nil]; exact fun _ h => h, by unfold dd; rw [hd, List.append_nil]; exact hS1⟩
end Go.Ds
namespace Go.Ds
open Go.Proofs
variable {H : Heap}
theorem a3D (a : Int) : Fn Tryz.prog 116 [I a] H fun r H' => r = .bool false ∧ St Tryz.prog H H' [] := by
 refine Fn.of_sw Tryz.func116 rfl (by kernel_rfl) fun l hl => ?_
 have hn : l.length = 6 := by rw [hl]; rfl
 have g0 : get l 0 = I a := by rw [hl]; rfl
 clear hl
 simp (disch := omega) only [↓RA, RZ, simprocAttr, hn, g0, c2j]
 exact .refl _ _
def kQ (a b : Int) : Int := if a < b then -1 else if b < a then 1 else 0
theorem nB (a b : Int) : Fn Tryz.prog 80 [I a, I b] H fun r H' => r = I (kQ a b) ∧ St Tryz.prog H H' [] := by
 refine Fn.of_sw Tryz.func80 rfl (by kernel_rfl) fun l hl => ?_
 have hn : l.length = 20 := by rw [hl]; rfl
 have g0 : get l 0 = I a := by rw [hl]; rfl
 have g1 : get l 1 = I b := by rw [hl]; rfl
 clear hl
 simp (disch := omega) only [↓RA, RZ, simprocAttr, hn, g0]
 refine aB (a3D _) ?_
 rintro r H1 ⟨rfl, hT1⟩
 have hS1 := (St.refl Tryz.prog H).trans hT1
 simp only [RT] at hS1
 simp (disch := omega) only [↓RA, RZ, simprocAttr, hn, g1]
 refine aB (a3D _) ?_
 rintro r H2 ⟨rfl, hT2⟩
 have hS2 := hS1.trans hT2
 simp only [RT] at hS2
 simp (disch := omega) only [↓RA, RB, simprocAttr, hn, g0, g1]
 refine aA (fun h => ?_) (fun h => ?_)
 ·simp (disch := omega) only [↓RA, RZ, simprocAttr, hn, b8m, h]
  exact ⟨by simp [kQ, h], hS2⟩
 simp (disch := omega) only [↓RA, RZ, simprocAttr, hn, g0, g1, h]
 refine aA (fun h2 => ?_) (fun h2 => ?_)
 ·simp (disch := omega) only [↓RA, RZ, simprocAttr, hn, b8m, h, h2]
  exact ⟨by simp [kQ, h, h2], hS2⟩
 simp (disch := omega) only [↓RA, RZ, simprocAttr, hn, b8m, h, h2]
 exact ⟨by simp [kQ, h, h2], hS2⟩
def orI : List Int → Int
 | [] => 0
 | a :: l => if a = 0 then orI l else a
theorem wF (xs : List Int) : ∀ i, i ≤ xs.length → (∀ j, j < i → aC xs j = 0) → orI xs = orI (xs.drop i)
 | 0, _, _ => rfl
 | i + 1, hi, h => by
   rw [wF xs i (by omega) (fun j hj => h j (by omega)), qR xs i (by omega), orI, if_pos (h i (by omega))]
theorem b0f (v : Value) (xs : List Int) (hv : Sl 1 (one I) H v xs) (hl : xs.length < 1000000) : Fn Tryz.prog 123 [v] H fun r H' => r = I (orI xs) ∧ St Tryz.prog H H' [] := by
 refine Fn.of_sw Tryz.func123 rfl (by kernel_rfl) fun l hl => ?_
 have hn : l.length = 18 := by rw [hl]; rfl
 have g0 : get l 0 = v := by rw [hl]; rfl
 clear hl
 simp (disch := omega) only [↓RA, RZ, simprocAttr, hn, g0, ((St.refl Tryz.prog H).sl hv).len]
 refine Wp.loopS (fun n l H' => l.length = 18 ∧ get l 3 = I 0 ∧ get l 6 = v ∧ get l 7 = I xs.length ∧ ∃ (i : Nat), (n + i = xs.length ∧ ∀ j, j < i → aC xs j = 0) ∧ get l 8 = I i ∧ St Tryz.prog H H' []) xs.length ?_ ?_
 ·simp (disch := omega) only [RB, RC, simprocAttr, hn]
  exact ⟨0, ⟨by omega, by simp⟩, rfl, (St.refl Tryz.prog H)⟩
 rintro n l H1 ⟨hn, g3, g6, g7, i, ⟨hi,h0⟩, g8, hS1⟩
 simp (disch := omega) only [↓RA, RB, simprocAttr, hn, g7, g8]
 refine aA (fun h => ?_) (fun h => ?_)
 ·simp (disch := omega) only [↓RA, RZ, simprocAttr, hn, g3, g6, g8, (hS1.sl hv).idx, (hS1.sl hv).ld, one, h]
  refine aA (fun h2 => ?_) (fun h2 => ?_)
  ·simp (disch := omega) only [↓RA, RZ, simprocAttr, hn, b5F, h, h2]
   refine ⟨?_, hS1⟩
   rw [wF xs i (by omega) h0, qR xs i (by omega), orI, if_neg h2]
  simp (disch := omega) only [↓RA, RZ, simprocAttr, hn, g3, g6, g7, g8, h, h2]
  exact ⟨n - 1, by omega, i + 1, ⟨by omega, fun j hj => by by_cases e : j = i; (· subst e; exact Classical.not_not.1 h2); exact h0 j (by omega)⟩, by simp, hS1⟩
 simp (disch := omega) only [↓RA, RZ, simprocAttr, hn, g3, b5F, h]
 refine ⟨?_, hS1⟩
 rw [wF xs i (by omega) h0, List.drop_eq_nil_of_le (by omega), orI]
end Go.Ds
namespace Go.Ds
open Go.Proofs
variable {H : Heap}
theorem a4x (x y : Int × Int) : orI [kQ x.1 y.1, kQ x.2 y.2] = cf2 x y := by
 unfold cf2 kQ orI orI orI
 split
 ·simp
 ·split
  ·simp
  ·simp
   intro h
   exact h.symm
theorem b2Y (x y : Int × Int) : Fn Tryz.prog 91 [.agg #[I x.1, I x.2], .agg #[I y.1, I y.2]] H fun r H' => r = I (cf2 x y) ∧ St Tryz.prog H H' [] := by
 refine Fn.of_sw Tryz.func91 rfl (by kernel_rfl) fun l hl => ?_
 have hn : l.length = 17 := by rw [hl]; rfl
 have g0 : get l 0 = (.agg #[I x.1, I x.2]) := by rw [hl]; rfl
 have g1 : get l 1 = (.agg #[I y.1, I y.2]) := by rw [hl]; rfl
 clear hl
 simp (disch := omega) only [↓RA, RB, simprocAttr, g0]
 refine (St.refl Tryz.prog H).eNew 2 [I x.1, I x.2] rfl rfl rfl gC fun A1 H1 hS1 => ?_
 simp only [RT] at hS1
 simp (disch := omega) only [↓RA, RB, simprocAttr, g1]
 refine hS1.eNew 2 [I y.1, I y.2] rfl rfl rfl gC fun A2 H2 hS2 => ?_
 simp only [RT] at hS2
 simp (disch := omega) only [↓RA, RB, simprocAttr]
 refine Wp.drwT cB [(6, 0), (8, 0)] (by kernel_rfl) (by kernel_rfl) ?_
 simp (disch := omega) only [↓RA, RZ, simprocAttr, hn, hS2.ld 0 rfl, hS2.ld 1 rfl]
 refine aB (nB x.1 y.1) ?_
 rintro r H3 ⟨rfl, hT1⟩
 have hS3 := hS2.trans hT1
 simp only [RT] at hS3
 simp (disch := omega) only [↓RA, RZ, simprocAttr, hn, hS3.ld 0 rfl, hS3.ld 1 rfl]
 refine aB (nB x.2 y.2) ?_
 rintro r H4 ⟨rfl, hT2⟩
 have hS4 := hS3.trans hT2
 simp only [RT] at hS4
 simp (disch := omega) only [↓RA, RB, simprocAttr, hn]
 refine hS4.eSlice [I (kQ x.1 y.1), I (kQ x.2 y.2)] vW a2d rfl rfl (by simp [Value.cells]) rfl rfl (by decide) (by decide) fun w1 H5 hS5 => ?_
 simp only [RT] at hS5
 simp (disch := omega) only [↓RA, RZ, simprocAttr, hn]
 refine aB (b0f w1 [kQ x.1 y.1, kQ x.2 y.2] (hS5.slo 2 rfl (kR _)) (by simp)) ?_
 rintro r H6 ⟨rfl, hT3⟩
 have hS6 := hS5.trans hT3
 simp only [RT] at hS6
 simp (disch := omega) only [↓RA, RZ, simprocAttr, hn, hS2.ld 0 rfl, hS2.ld 1 rfl, c3R]
 exact ⟨by rw [a4x], hS6.forget⟩
theorem b3u (x y : Int × Int) : Fn Tryz.prog 100 [.agg #[I x.1, I x.2], .agg #[I y.1, I y.2]] H fun r H' => r = I (cf2 x y) ∧ St Tryz.prog H H' [] := by
 refine Fn.of_sw Tryz.func100 rfl (by kernel_rfl) fun l hl => ?_
 have hn : l.length = 17 := by rw [hl]; rfl
 have g0 : get l 0 = (.agg #[I x.1, I x.2]) := by rw [hl]; rfl
 have g1 : get l 1 = (.agg #[I y.1, I y.2]) := by rw [hl]; rfl
 clear hl
 simp (disch := omega) only [↓RA, RB, simprocAttr, g0]
 refine (St.refl Tryz.prog H).eNew 2 [I x.1, I x.2] rfl rfl rfl oU fun A1 H1 hS1 => ?_
 simp only [RT] at hS1
 simp (disch := omega) only [↓RA, RB, simprocAttr, g1]
 refine hS1.eNew 2 [I y.1, I y.2] rfl rfl rfl oU fun A2 H2 hS2 => ?_
 simp only [RT] at hS2
 simp (disch := omega) only [↓RA, RB, simprocAttr]
 refine Wp.drwT cB [(6, 0), (8, 0)] (by kernel_rfl) (by kernel_rfl) ?_
 simp (disch := omega) only [↓RA, RZ, simprocAttr, hn, hS2.ld 0 rfl, hS2.ld 1 rfl]
 refine aB (nB x.1 y.1) ?_
 rintro r H3 ⟨rfl, hT1⟩
 have hS3 := hS2.trans hT1
 simp only [RT] at hS3
 simp (disch := omega) only [↓RA, RZ, simprocAttr, hn, hS3.ld 0 rfl, hS3.ld 1 rfl]
 refine aB (nB x.2 y.2) ?_
 rintro r H4 ⟨rfl, hT2⟩
 have hS4 := hS3.trans hT2
 simp only [RT] at hS4
 simp (disch := omega) only [↓RA, RB, simprocAttr, hn]
 refine hS4.eSlice [I (kQ x.1 y.1), I (kQ x.2 y.2)] vW a2d rfl rfl (by simp [Value.cells]) rfl rfl (by decide) (by decide) fun w1 H5 hS5 => ?_
 simp only [RT] at hS5
 simp (disch := omega) only [↓RA, RZ, simprocAttr, hn]
 refine aB (b0f w1 [kQ x.1 y.1, kQ x.2 y.2] (hS5.slo 2 rfl (kR _)) (by simp)) ?_
 rintro r H6 ⟨rfl, hT3⟩
 have hS6 := hS5.trans hT3
 simp only [RT] at hS6
 simp (disch := omega) only [↓RA, RZ, simprocAttr, hn, hS2.ld 0 rfl, hS2.ld 1 rfl, b9H]
 exact ⟨by rw [a4x], hS6.forget⟩
theorem b5o (x y : Int × Int) : Fn Tryz.prog 179 [.agg #[I x.1, I x.2], .agg #[I y.1, I y.2]] H fun r H' => r = I (cf2 x y) ∧ St Tryz.prog H H' [] := by
 refine Fn.of_sw Tryz.func179 rfl (by kernel_rfl) fun l hl => ?_
 have hn : l.length = 17 := by rw [hl]; rfl
 have g0 : get l 0 = (.agg #[I x.1, I x.2]) := by rw [hl]; rfl
 have g1 : get l 1 = (.agg #[I y.1, I y.2]) := by rw [hl]; rfl
 clear hl
 simp (disch := omega) only [↓RA, RB, simprocAttr, g0]
 refine (St.refl Tryz.prog H).eNew 2 [I x.1, I x.2] rfl rfl rfl oU fun A1 H1 hS1 => ?_
 simp only [RT] at hS1
 simp (disch := omega) only [↓RA, RB, simprocAttr, g1]
 refine hS1.eNew 2 [I y.1, I y.2] rfl rfl rfl oU fun A2 H2 hS2 => ?_
 simp only [RT] at hS2
 simp (disch := omega) only [↓RA, RB, simprocAttr]
 refine Wp.drwT cB [(6, 0), (8, 0)] (by kernel_rfl) (by kernel_rfl) ?_
 simp (disch := omega) only [↓RA, RZ, simprocAttr, hn, hS2.ld 0 rfl, hS2.ld 1 rfl]
 refine aB (nB x.1 y.1) ?_
 rintro r H3 ⟨rfl, hT1⟩
 have hS3 := hS2.trans hT1
 simp only [RT] at hS3
 simp (disch := omega) only [↓RA, RZ, simprocAttr, hn, hS3.ld 0 rfl, hS3.ld 1 rfl]
 refine aB (nB x.2 y.2) ?_
 rintro r H4 ⟨rfl, hT2⟩
 have hS4 := hS3.trans hT2
 simp only [RT] at hS4
 simp (disch := omega) only [↓RA, RB, simprocAttr, hn]
 refine hS4.eSlice [I (kQ x.1 y.1), I (kQ x.2 y.2)] vW a2d rfl rfl (by simp [Value.cells]) rfl rfl (by decide) (by decide) fun w1 H5 hS5 => ?_
 simp only [RT] at hS5
 simp (disch := omega) only [↓RA, RZ, simprocAttr, hn]
 refine aB (b0f w1 [kQ x.1 y.1, kQ x.2 y.2] (hS5.slo 2 rfl (kR _)) (by simp)) ?_
 rintro r H6 ⟨rfl, hT3⟩
 have hS6 := hS5.trans hT3
 simp only [RT] at hS6
 simp (disch := omega) only [↓RA, RZ, simprocAttr, hn, hS2.ld 0 rfl, hS2.ld 1 rfl, b9W]
 exact ⟨by rw [a4x], hS6.forget⟩
end Go.Ds
namespace Go.Ds
open Go.Proofs
open Go.Shelf Go.RowKit Go.Lib Go.Sort
theorem lt2 (x y : Int × Int) : ltOf cf2 x y = decide (x.1 < y.1 ∨ (x.1 = y.1 ∧ x.2 < y.2)) := by
 unfold ltOf cf2
 congr 1
 apply propext
 split
 ·omega
 ·split
  ·omega
  ·split
   ·omega
   ·split <;> omega
theorem c2d : SWO (ltOf cf2) where
 irrefl x := by rw [lt2]; simp
 trans x y z h1 h2 := by rw [lt2] at *; simp at *; omega
 ntrans x y z h1 h2 := by rw [lt2] at *; simp at *; omega
theorem c0q (x y : Int × Int) (h1 : ltOf cf2 x y = false) (h2 : ltOf cf2 y x = false) : x = y := by
 rw [lt2] at *
 simp at h1 h2
 apply Prod.ext <;> omega
theorem a4N : (fun x y => !(ltOf cf2) y x) = tS := by
 funext x y
 rw [lt2]
 by_cases h : tS x y = true
 ·rw [h]
  rw [fA] at h
  rw [Bool.not_eq_true', decide_eq_false_iff_not]
  omega
 ·rw [Bool.not_eq_true] at h
  rw [h]
  rw [← Bool.not_eq_true, fA] at h
  rw [Bool.not_eq_false', decide_eq_true_eq]
  omega
def vB (P : Program) (K kc : FuncId) (sm : Int × Int → Prop) : Prop := ∀ (cC off cap : Nat) (d : Array (Int × Int)) (w : World), (∀ x ∈ d.toList, sm x) → HoldsK cA 2 w cC off d → cC < w.heap.size → d.size < 4611686018427387904 →
    Calls P K #[.slice (some ⟨cC, off, none⟩) d.size cap, .func (.func kc) #[] #[]] w fun e w' => e = .returned (.tuple #[]) ∧ ∃ n os, w' = sortWorldK cA 2 w cC off n (d.toList.mergeSort tS).toArray os
def uT (P : Program) (K : FuncId) : Prop := ∀ (p : Option Addr) (cap : Nat) (fv : Value) (w : World), Calls P K #[.slice p 0 cap, fv] w fun e w' => e = .returned (.tuple #[]) ∧ w' = w
theorem a3F {P : Program} {kc : FuncId} {α : Type} [Inhabited α] (val : α → Int × Int) (cf : α → α → Int) (hf : ∀ x y, Fn P kc [.agg #[I (val x).1, I (val x).2], .agg #[I (val y).1, I (val y).2]] .nil fun r H' => r = I (cf x y) ∧ St P (.nil : Heap) H' []) (cC off size : Nat) (w : World) : CmpLays P kc #[] (fun x => cA (val x)) 2 cf cC off size w := by
 intro m os dk hdk x y
 generalize sortWorldK (fun x => cA (val x)) 2 w cC off m dk os = W
 obtain ⟨_, v, H1, h1, hr, _⟩ := hf x y
 have ha : All2 (V (fun _ _ => none)) [.agg #[I (val x).1, I (val x).2], .agg #[I (val y).1, I (val y).2]] (#[.agg #[I (val x).1, I (val x).2], .agg #[I (val y).1, I (val y).2]] : Array Value).toList := ⟨.of_flat rfl, .of_flat rfl, trivial⟩
 have hc := CallOk.calls (f := kc) h1 (HRel.none W) ha
 have hargs : (#[.agg (cA (val x)).toArray, .agg (cA (val y)).toArray] ++ #[] : Array Value) = #[.agg #[I (val x).1, I (val x).2], .agg #[I (val y).1, I (val y).2]] := rfl
 rw [hargs]
 refine hc.mono ?_
 rintro e w' ⟨ρ', v', rfl, hp, hv⟩
 subst hr
 have hfr : ∀ b, b < W.heap.size → w'.heap[b]? = W.heap[b]? := fun b hb => (hp.frame b hb (by rintro ⟨A, e, p, cC, hq, _⟩; cases hq)).1
 refine ⟨by rw [hv.eq_of_flat rfl], w'.drawn - W.drawn, w'.heap.extract W.heap.size w'.heap.size, ?_⟩
 have h1 := hp.os
 have h2 := hp.tape
 have h3 := hp.output
 have h4 := hp.size
 clear hp hv
 obtain ⟨wh, wt, wd, wo, wu⟩ := W
 obtain ⟨ah, at', ad, ao, au⟩ := w'
 simp only at h1 h2 h3 h4 hfr
 simp only [grow, World.drewN, World.mk.injEq]
 refine ⟨?_, h2.1, by omega, h1, h3⟩
 apply Array.ext_getElem?
 intro i
 rw [Array.getElem?_append]
 split
 ·exact hfr i (by assumption)
 ·rw [Array.getElem?_extract]
  split
  ·congr 1; omega
  ·rw [Array.getElem?_eq_none (by omega)]
theorem a2F {P : Program} {kc : FuncId} (hf : ∀ x y, Fn P kc [.agg #[I x.1, I x.2], .agg #[I y.1, I y.2]] .nil fun r H' => r = I (cf2 x y) ∧ St P (.nil : Heap) H' []) (cC off size : Nat) (w : World) : CmpLays P kc #[] cA 2 cf2 cC off size w := a3F (fun x => x) cf2 hf cC off size w
section
variable {P : Program} {H : Heap} {ρ ρ' : Rho} {H' : Heap} {w w1 w2 : World}
theorem Post.like (h : Post P ρ H w ρ' H' w1) (hsz : w1.heap.size ≤ w2.heap.size) (hb : ∀ b, b < w1.heap.size → w2.heap[b]? = w1.heap[b]?) (h1 : w2.os = w1.os) (h2 : w2.tape = w1.tape ∧ w1.drawn ≤ w2.drawn) (h3 : w2.output = w1.output) : Post P ρ H w ρ' H' w2 where
 le := h.le
 rel := h.rel.other hsz fun A e p hp => hb _ (h.rel.dom _ _ _ hp).2
 len := h.len
 size := Nat.le_trans h.size hsz
 os := h1.trans h.os
 tape := ⟨h2.1.trans h.tape.1, Nat.le_trans h.tape.2 h2.2⟩
 output := h3.trans h.output
 frame b hlt hw := by
  obtain ⟨e, hw'⟩ := h.frame b hlt hw
  exact ⟨(hb b (Nat.lt_of_lt_of_le hlt h.size)).trans e, hw'⟩
 loops b r hr := by
  obtain ⟨r', hr'⟩ := h.loops b r hr
  exact ⟨r', by rw [hb b (eK hr')]; exact hr'⟩
 img := h.img
theorem b5L : ∀ (l : List (Int × Int)) (j : Nat), j < l.length * 2 → (cA (l.toArray[j / 2]!))[j % 2]! = (pr l).getD j undef := by
 intro l
 induction l with
 | nil => intro j hj; simp at hj
 | cons x l ih =>
   intro j hj
   have e : pr (x :: l) = I x.1 :: I x.2 :: pr l := rfl
   rw [e]
   match j with
   | 0 => rfl
   | 1 => rfl
   | j + 2 =>
     have h1 : (j + 2) / 2 = j / 2 + 1 := by omega
     have h2 : (j + 2) % 2 = j % 2 := by omega
     have := ih j (by simp at hj; omega)
     rw [h1, h2]
     simp only [List.getD_cons_succ]
     rw [← this]
     congr 2
     simp only [List.getElem!_toArray]
     simp
end
theorem V.func0 {ρ : Rho} {k : FuncId} {v' : Value} (h : V ρ (.func (.func k) #[] #[]) v') : v' = .func (.func k) #[] #[] := by
 cases h with
 | v1 h => cases h with
   | c1 h => cases h with
     | c0 h => cases h with
       | flat h => rfl
     | fn ha hb =>
       rename_i a' b'
       have e1 : a' = #[] := by
        obtain ⟨l⟩ := a'
        cases l with
        | nil => rfl
        | cons => exact ha.elim
       have e2 : b' = #[] := by
        obtain ⟨l⟩ := b'
        cases l with
        | nil => rfl
        | cons => exact hb.elim
       rw [e1, e2]
theorem a3N (es : List (Int × Int)) : cD (pr es) = true := by
 unfold cD
 rw [List.all_eq_true]
 intro c hc
 obtain ⟨x, _, hx⟩ := List.mem_flatMap.1 hc
 simp only [cA, List.mem_cons, List.not_mem_nil, or_false] at hx
 rcases hx with rfl | rfl <;> rfl
set_option maxRecDepth 10000 in
theorem b2S {P : Program} {K kc : FuncId} {sm : Int × Int → Prop} (hso : vB P K kc sm) {H : Heap} {A i lo ver n : Nat} {ty : TypeId} {pre : List Value} {es : List (Int × Int)} (hg : aR H A = some (.cells (pre ++ pr es) ty true lo ver)) (hlo : lo ≤ i + (pr es).length) (hpre : pre.length = i)
 (hn : (pr es).length = n * 2) (hty : aE P ty = some 2) (hl : es.length < 100000000000) (h0 : es ≠ []) (hsm : ∀ x ∈ es, sm x) :
 CallOk P K [.slice (some ⟨A, i, some (i + (pr es).length)⟩) n 2, .func (.func kc) #[] #[]] H (.tuple #[]) (hset H A (.cells (aY (pre ++ pr es) i (pr (lW es))) ty true (pre ++ pr es).length ver)) := by
 intro k ρ w args' hr ha
 obtain ⟨l⟩ := args'
 match l, ha with
 | [x, f], ⟨hx, hf, _⟩ =>
   obtain rfl := V.func0 hf
   have hlen : (pre ++ pr es).length = i + (pr es).length := by rw [List.length_append, hpre]
   obtain ⟨p, c', a, hp, h0', hin, hnc, hac, hpk, rfl⟩ := hx.slice_inv
   rw [aI] at hn
   have hne : 0 < es.length := List.length_pos_iff.2 h0
   have hnn : n = es.length := by omega
   subst hnn
   have ha' : a = ⟨p.b, p.at i, none⟩ := by
    rcases hac with h | h
    ·exact h.1
    ·omega
   subst ha'
   have hp2 : ρ A (pre ++ pr es).length = some p := by rw [hlen]; exact hp
   obtain ⟨_, _, hfit, cur, ty', fr, hw, hsz, hfr, hcell⟩ := (hr.cells _ _ _ _ _ _ hg).2 _ _ hp2
   obtain ⟨rfl, hd0, _⟩ := hfr rfl
   let d : Array (Int × Int) := es.toArray
   have hds : d.size = es.length := by simp [d]
   have hfl := fun j hj => b5L es j (by simpa using hj)
   have hH : Go.Sort.HoldsK cA 2 w p.b (p.at i) d := by
    intro j hj
    rw [Go.Sort.size_flatK, hds] at hj
    constructor
    ·have hc : (pre ++ pr es)[i + j]? = some ((pr es).getD j undef) := by
      rw [List.getElem?_append_right (by omega), hpre, Nat.add_sub_cancel_left, List.getD_eq_getElem?_getD, List.getElem?_eq_getElem (by rw [aI]; omega)]
      rfl
     obtain ⟨c2, hc2, hrel⟩ := hcell (by rw [hlen]; exact hlo) (i + j) _ (by rw [hlen, aI]; omega) (by omega) hc
     have hsc : aW ((pr es).getD j undef) = true := by
      have := a3N es
      unfold cD at this
      rw [List.all_eq_true] at this
      apply this
      rw [List.getD_eq_getElem?_getD, List.getElem?_eq_getElem (by rw [aI]; omega)]
      exact List.getElem_mem _
     have := hrel.eq_of_scalar hsc
     subst this
     have hat : p.at (i + j) = p.at i + j := by unfold Place.at; omega
     rw [hat] at hc2
     simp only [World.cell?, hw]
     rw [Go.Sort.get_flatK _ _ _ _ (by rw [hds]; exact hj), hfl j hj]
     exact hc2
    ·simp only [World.frozen?, hw]
     simp
   have hcon := hso p.b (p.at i) c' d w (by simpa [d] using hsm) hH (hr.dom _ _ _ hp).2 (by rw [hds]; omega)
   rw [hds] at hcon
   obtain ⟨w1, hrun, hpost⟩ := mP hr hg hp2 h0' (.of_scalars (a3N (lW es))) (by rw [hlen, aI, aI, (eI es).length_eq]; omega) (by rw [hlen]; exact hlo)
   have hcsz : p.at i + (pr (lW es)).length ≤ cur.size := by
    rw [aI, (eI es).length_eq, hsz]
    unfold Place.at
    rw [hlen, aI] at hfit
    omega
   have hst := run_storeCells_at (P := P) p.b (p.at i) ty' (pr (lW es)) 0 cur w hw (by simpa using hcsz) (All2.of_scalars (ρ := ρ) (a3N (lW es))).oneCells
   rw [hst] at hrun
   injection hrun with _ hw1
   subst hw1
   refine callsIn_wide.2 (hcon.mono ?_)
   rintro e w' ⟨rfl, m, os, rfl⟩
   refine ⟨ρ, _, rfl, ?_, .tuple trivial⟩
   have hsl : (lW es).length = es.length := (eI es).length_eq
   have hml : ((d.toList.mergeSort tS)).length = es.length := by simp [d]
   have hfs : ∀ j, j < es.length * 2 → (Go.Sort.flatK cA 2 (d.toList.mergeSort tS).toArray)[j]! = (pr (lW es)).getD j undef := fun j hj => by
    rw [Go.Sort.get_flatK _ _ _ _ (by simpa [d] using hj)]
    exact b5L (d.toList.mergeSort tS) j (by rw [hml]; exact hj)
   have hFs : (Go.Sort.flatK cA 2 (d.toList.mergeSort tS).toArray).size = es.length * 2 := by simp [d]
   unfold sortWorldK Go.Sort.putRowK
   generalize Go.Sort.flatK cA 2 (d.toList.mergeSort tS).toArray = F at hfs hFs ⊢
   have hlt := eK hw
   have hh : ∀ b, b < w.heap.size → (Go.Sort.grow (Go.Sort.putRow id (Go.Sort.ahead w m) p.b (p.at i) F) os).heap[b]? = (Go.Sort.putRow id (Go.Sort.ahead w m) p.b (p.at i) F).heap[b]? := fun b hb => by
    have : b < (Go.Sort.putRow id (Go.Sort.ahead w m) p.b (p.at i) F).heap.size := by simpa [Go.Sort.putRow, Go.Sort.mapBlock, Go.Sort.ahead] using hb
    unfold Go.Sort.grow
    exact Array.getElem?_append_left this
   refine hpost.like ?_ ?_ rfl ⟨rfl, Nat.le_add_right _ _⟩ rfl
   ·simp [Go.Sort.grow, Go.Sort.putRow, Go.Sort.mapBlock, Go.Sort.ahead]
   ·intro b hbs
    rw [setRow_size] at hbs
    rw [hh b hbs]
    by_cases e : b = p.b
    ·subst e
     rw [setRow_heap w p.b cur _ ty' (0, 0) hw]
     have e2 : (Go.Sort.putRow id (Go.Sort.ahead w m) p.b (p.at i) F).heap[p.b]? = some (.cells (Go.Sort.putCells id (p.at i) F cur) ty' (0, 0)) := by
      simp [Go.Sort.putRow, Go.Sort.mapBlock, Go.Sort.ahead, Array.getElem?_modify, hw, Go.Sort.onCells]
     rw [e2]
     congr 2
     apply Array.ext_getElem?
     intro j
     have hseg := a0z cur.toList (pr (lW es)) (p.at i) j (by simpa using hcsz)
     have e3 : ((List.take (p.at i + 0) cur.toList ++ pr (lW es) ++ List.drop (p.at i + 0 + (pr (lW es)).length) cur.toList).toArray)[j]? = (List.take (p.at i) cur.toList ++ pr (lW es) ++ List.drop (p.at i + (pr (lW es)).length) cur.toList)[j]? := by simp
     rw [e3, hseg]
     simp only [Go.Sort.putCells, Array.getElem?_mapIdx, Array.getElem?_toList]
     rw [aI, hsl] at hcsz ⊢
     by_cases h1 : p.at i ≤ j ∧ j < p.at i + es.length * 2
     ·rw [if_pos h1]
      have hjc : j < cur.size := by omega
      rw [Array.getElem?_eq_getElem hjc]
      simp only [Option.map_some]
      rw [if_pos (by rw [hFs]; exact h1), hfs _ (by omega), List.getD_eq_getElem?_getD, List.getElem?_eq_getElem (by rw [aI, hsl]; omega)]
      rfl
     ·rw [if_neg h1]
      cases hc : cur[j]? with
      | none => simp
      | some c =>
        simp only [Option.map_some]
        rw [if_neg (by rw [hFs]; exact h1)]
    ·rw [setRow_other _ _ _ _ e]
     simp [Go.Sort.putRow, Go.Sort.mapBlock, Go.Sort.ahead, Array.getElem?_modify, Ne.symm e]
theorem qC {P : Program} {K kc : FuncId} {sm : Int × Int → Prop} (hso : vB P K kc sm) (hno : uT P K) (hent0 : jI P K) {H : Heap} {H0 : Base} {os : List Ob} (hS : St P H0 H os) (i : Nat) {v : Value} {es : List (Int × Int)} (ho : os[i]? = some ⟨v, 2, pr es⟩) (hl : es.length < 100000000000) (hsm : ∀ x ∈ es, sm x) {Q : Value → Heap → Prop}
 (h : ∀ H1, St P H0 H1 (os.set i ⟨v, 2, pr (lW es)⟩) → Q (.tuple #[]) H1) : oH P K [v, .func (.func kc) #[] #[]] H Q := by
 have hent : jI P K := hent0
 by_cases h0 : es = []
 ·subst h0
  refine ⟨.tuple #[], H, hent, ?_, h H ?_⟩
  ·intro k ρ w args' hr ha
   obtain ⟨l⟩ := args'
   match l, ha with
   | [x, f], ⟨hx, hf, _⟩ =>
     obtain rfl := V.func0 hf
     have hown := hS.own _ (List.mem_of_getElem? ho)
     unfold OwnAt at hown
     rw [if_neg (by simp)] at hown
     have hx0 : ∃ p cap, x = .slice p 0 cap := by
      rcases hown with ⟨h2, _⟩ | ⟨A, j, ty, lo', ver, pre, m, h2, h3, h4, h5, h6, h7⟩
      ·simp only at h2
       subst h2
       rcases hx.slice_any with ⟨_, _, _, rfl⟩ | ⟨A, j, e, p, c', a, hh, _⟩
       ·exact ⟨_, _, rfl⟩
       ·cases hh
      ·simp only at h5 h6
       subst h6
       have hm : m = 0 := by have : (pr []).length = 0 := rfl; omega
       subst hm
       obtain ⟨p, c', a, _, _, _, _, _, _, rfl⟩ := hx.slice_inv
       exact ⟨_, _, rfl⟩
     obtain ⟨p, cap, rfl⟩ := hx0
     refine callsIn_wide.2 ((hno p cap _ w).mono ?_)
     rintro e w' ⟨rfl, rfl⟩
     exact ⟨ρ, _, rfl, .refl hr, .tuple trivial⟩
  ·obtain ⟨hi, hoi⟩ := List.getElem?_eq_some_iff.1 ho
   have e : lW [] = [] := List.Perm.eq_nil (eI [])
   rw [e, ← hoi, List.set_getElem_self]
   exact hS
 ·have hown := hS.own _ (List.mem_of_getElem? ho)
  unfold OwnAt at hown
  rw [if_neg (by simp)] at hown
  have hne : 0 < es.length := List.length_pos_iff.2 h0
  rcases hown with ⟨_, h3⟩ | ⟨A, j, ty, lo', ver, pre, m, h2, h3, h4, h5, h6, h7⟩
  ·simp only at h3
   have := congrArg List.length h3
   rw [aI, List.length_nil] at this
   omega
  ·simp only at h2 h3 h5 h6
   have hsl : (pr (lW es)).length = (pr es).length := by rw [aI, aI, (eI es).length_eq]
   have hcall := b2S hso h2 h3 h4 h5 h7 hl h0 hsm
   rw [← h6] at hcall
   refine ⟨_, _, hent, hcall, h _ (hS.put i ho ?_ ?_ ?_ ?_)⟩
   ·unfold OwnAt
    rw [if_neg (by simp)]
    refine .inr ⟨A, j, ty, (pre ++ pr es).length, ver, pre, m, ?_, ?_, h4, ?_, ?_, h7⟩
    ·rw [aP _ (bG h2)]
     have := eO (pr (lW es)) pre (pr es) (by rw [hsl]; exact Nat.le_refl _)
     rw [h4] at this
     rw [this, hsl, List.drop_length, List.append_nil]
    ·simp only [List.length_append, h4, hsl]; exact Nat.le_refl _
    ·simp only [hsl]; exact h5
    ·simp only [hsl]; exact h6
   ·rw [bJ]; exact Nat.le_refl _
   ·intro B' hB hne'
    refine jF fun hh => hne' ?_
    simp [cC, h6, hh]
   ·intro B' hB
    exact .inl hB
end Go.Ds
namespace Go.Proofs
open Go.Shelf
def Tryz.sort67_ren : Go.Shelf.Ren := ⟨fun | 6 => 62 | 15 => 96 | 14 => 105 | 28 => 132 | 29 => 133 | 20 => 137 | 21 => 138 | 22 => 139 | 23 => 140 | 24 => 141 | 25 => 142 | 26 => 143 | 27 => 144 | 46 => 174 | 47 => 170 | 48 => 171 | 49 => 175 | 50 => 176 | 57 => 204 | n => n, fun | 22 => 58 | 24 => 70 | 25 => 143 | 3 => 3 | 39 => 72 | 0 => 0 | 53 => 215 | 55 => 39 | 4 => 4 | 46 => 209 | 45 => 208 | 50 => 180 | 5 => 5 | 9 => 9 | 66 => 245 | 70 => 249 | 76 => 284 | 77 => 285 | n => n, fun | n => n⟩
theorem Tryz.sort67 : Go.Proofs.SlLaysF0.n6 Tryz.prog Tryz.sort67_ren := {
 mixed := by kernel_rfl
 f6 := ⟨Tryz.f62.name, by decide, Tryz.func62.trans (congrArg some (by kernel_rfl))⟩
 f14 := ⟨Tryz.f105.name, by decide, Tryz.func105.trans (congrArg some (by kernel_rfl))⟩
 f15 := Tryz.func96.trans (congrArg some (by kernel_rfl))
 f20 := ⟨Tryz.f137.name, by decide, Tryz.func137.trans (congrArg some (by kernel_rfl))⟩
 f21 := ⟨Tryz.f138.name, by decide, Tryz.func138.trans (congrArg some (by kernel_rfl))⟩
 f22 := ⟨Tryz.f139.name, by decide, Tryz.func139.trans (congrArg some (by kernel_rfl))⟩
 f23 := ⟨Tryz.f140.name, by decide, Tryz.func140.trans (congrArg some (by kernel_rfl))⟩
 f24 := ⟨Tryz.f141.name, by decide, Tryz.func141.trans (congrArg some (by kernel_rfl))⟩
 f25 := ⟨Tryz.f142.name, by decide, Tryz.func142.trans (congrArg some (by kernel_rfl))⟩
 f26 := ⟨Tryz.f143.name, by decide, Tryz.func143.trans (congrArg some (by kernel_rfl))⟩
 f27 := ⟨Tryz.f144.name, by decide, Tryz.func144.trans (congrArg some (by kernel_rfl))⟩
 f28 := Tryz.func132.trans (congrArg some (by kernel_rfl))
 f29 := Tryz.func133.trans (congrArg some (by kernel_rfl))
 f46 := ⟨Tryz.f174.name, by decide, Tryz.func174.trans (congrArg some (by kernel_rfl))⟩
 f47 := Tryz.func170.trans (congrArg some (by kernel_rfl))
 f48 := Tryz.func171.trans (congrArg some (by kernel_rfl))
 f49 := ⟨Tryz.f175.name, by decide, Tryz.func175.trans (congrArg some (by kernel_rfl))⟩
 f50 := ⟨Tryz.f176.name, by decide, Tryz.func176.trans (congrArg some (by kernel_rfl))⟩
 f57 := ⟨Tryz.f204.name, by decide, Tryz.func204.trans (congrArg some (by kernel_rfl))⟩
 t0 := Tryz.underlying0
 a0 := Tryz.isAgg0
 z0 := Tryz.sizeOf0
 v0 := Tryz.zeroValue0
 t3 := Tryz.underlying3
 a3 := Tryz.isAgg3
 z3 := Tryz.sizeOf3
 v3 := Tryz.zeroValue3
 t4 := Tryz.underlying4
 a4 := Tryz.isAgg4
 z4 := Tryz.sizeOf4
 v4 := Tryz.zeroValue4
 t5 := Tryz.underlying5
 a5 := Tryz.isAgg5
 z5 := Tryz.sizeOf5
 v5 := Tryz.zeroValue5
 t9 := Tryz.underlying9
 a9 := Tryz.isAgg9
 z9 := Tryz.sizeOf9
 v9 := Tryz.zeroValue9
 t22 := Tryz.underlying58
 a22 := Tryz.isAgg58
 z22 := Tryz.sizeOf58
 v22 := Tryz.zeroValue58
 t25 := Tryz.underlying143
 a25 := Tryz.isAgg143
 z25 := Tryz.sizeOf143
 v25 := Tryz.zeroValue143
 t39 := Tryz.underlying72
 a39 := Tryz.isAgg72
 z39 := Tryz.sizeOf72
 v39 := Tryz.zeroValue72
 t45 := Tryz.underlying208
 a45 := Tryz.isAgg208
 z45 := Tryz.sizeOf208
 v45 := Tryz.zeroValue208
 t46 := Tryz.underlying209
 a46 := Tryz.isAgg209
 z46 := Tryz.sizeOf209
 v46 := Tryz.zeroValue209
 t50 := Tryz.underlying180
 a50 := Tryz.isAgg180
 z50 := Tryz.sizeOf180
 v50 := Tryz.zeroValue180
 t53 := Tryz.underlying215
 a53 := Tryz.isAgg215
 z53 := Tryz.sizeOf215
 v53 := Tryz.zeroValue215
 t55 := Tryz.underlying39
 a55 := Tryz.isAgg39
 z55 := Tryz.sizeOf39
 v55 := Tryz.zeroValue39
 t66 := Tryz.underlying245
 a66 := Tryz.isAgg245
 z66 := Tryz.sizeOf245
 v66 := Tryz.zeroValue245
 t70 := Tryz.underlying249
 a70 := Tryz.isAgg249
 z70 := Tryz.sizeOf249
 v70 := Tryz.zeroValue249
 t76 := Tryz.underlying284
 a76 := Tryz.isAgg284
 z76 := Tryz.sizeOf284
 v76 := Tryz.zeroValue284
 t77 := Tryz.underlying285
 a77 := Tryz.isAgg285
 z77 := Tryz.sizeOf285
 v77 := Tryz.zeroValue285 }
def Tryz.sort233_ren : Go.Shelf.Ren := ⟨fun | 6 => 51 | 15 => 96 | 14 => 95 | 28 => 132 | 29 => 133 | 20 => 124 | 21 => 125 | 22 => 126 | 23 => 127 | 24 => 128 | 25 => 129 | 26 => 130 | 27 => 131 | 46 => 169 | 47 => 170 | 48 => 171 | 49 => 172 | 50 => 173 | 57 => 203 | n => n, fun | 22 => 46 | 24 => 52 | 25 => 133 | 3 => 3 | 39 => 72 | 0 => 0 | 53 => 215 | 55 => 39 | 4 => 4 | 46 => 209 | 45 => 208 | 50 => 180 | 5 => 5 | 9 => 9 | 66 => 245 | 70 => 249 | 76 => 284 | 77 => 285 | n => n, fun | n => n⟩
theorem Tryz.sort233 : Go.Proofs.SlLaysF0.n6 Tryz.prog Tryz.sort233_ren := {
 mixed := by kernel_rfl
 f6 := ⟨Tryz.f51.name, by decide, Tryz.func51.trans (congrArg some (by kernel_rfl))⟩
 f14 := ⟨Tryz.f95.name, by decide, Tryz.func95.trans (congrArg some (by kernel_rfl))⟩
 f15 := Tryz.func96.trans (congrArg some (by kernel_rfl))
 f20 := ⟨Tryz.f124.name, by decide, Tryz.func124.trans (congrArg some (by kernel_rfl))⟩
 f21 := ⟨Tryz.f125.name, by decide, Tryz.func125.trans (congrArg some (by kernel_rfl))⟩
 f22 := ⟨Tryz.f126.name, by decide, Tryz.func126.trans (congrArg some (by kernel_rfl))⟩
 f23 := ⟨Tryz.f127.name, by decide, Tryz.func127.trans (congrArg some (by kernel_rfl))⟩
 f24 := ⟨Tryz.f128.name, by decide, Tryz.func128.trans (congrArg some (by kernel_rfl))⟩
 f25 := ⟨Tryz.f129.name, by decide, Tryz.func129.trans (congrArg some (by kernel_rfl))⟩
 f26 := ⟨Tryz.f130.name, by decide, Tryz.func130.trans (congrArg some (by kernel_rfl))⟩
 f27 := ⟨Tryz.f131.name, by decide, Tryz.func131.trans (congrArg some (by kernel_rfl))⟩
 f28 := Tryz.func132.trans (congrArg some (by kernel_rfl))
 f29 := Tryz.func133.trans (congrArg some (by kernel_rfl))
 f46 := ⟨Tryz.f169.name, by decide, Tryz.func169.trans (congrArg some (by kernel_rfl))⟩
 f47 := Tryz.func170.trans (congrArg some (by kernel_rfl))
 f48 := Tryz.func171.trans (congrArg some (by kernel_rfl))
 f49 := ⟨Tryz.f172.name, by decide, Tryz.func172.trans (congrArg some (by kernel_rfl))⟩
 f50 := ⟨Tryz.f173.name, by decide, Tryz.func173.trans (congrArg some (by kernel_rfl))⟩
 f57 := ⟨Tryz.f203.name, by decide, Tryz.func203.trans (congrArg some (by kernel_rfl))⟩
 t0 := Tryz.underlying0
 a0 := Tryz.isAgg0
 z0 := Tryz.sizeOf0
 v0 := Tryz.zeroValue0
 t3 := Tryz.underlying3
 a3 := Tryz.isAgg3
 z3 := Tryz.sizeOf3
 v3 := Tryz.zeroValue3
 t4 := Tryz.underlying4
 a4 := Tryz.isAgg4
 z4 := Tryz.sizeOf4
 v4 := Tryz.zeroValue4
 t5 := Tryz.underlying5
 a5 := Tryz.isAgg5
 z5 := Tryz.sizeOf5
 v5 := Tryz.zeroValue5
 t9 := Tryz.underlying9
 a9 := Tryz.isAgg9
 z9 := Tryz.sizeOf9
 v9 := Tryz.zeroValue9
 t22 := Tryz.underlying46
 a22 := Tryz.isAgg46
 z22 := Tryz.sizeOf46
 v22 := Tryz.zeroValue46
 t25 := Tryz.underlying133
 a25 := Tryz.isAgg133
 z25 := Tryz.sizeOf133
 v25 := Tryz.zeroValue133
 t39 := Tryz.underlying72
 a39 := Tryz.isAgg72
 z39 := Tryz.sizeOf72
 v39 := Tryz.zeroValue72
 t45 := Tryz.underlying208
 a45 := Tryz.isAgg208
 z45 := Tryz.sizeOf208
 v45 := Tryz.zeroValue208
 t46 := Tryz.underlying209
 a46 := Tryz.isAgg209
 z46 := Tryz.sizeOf209
 v46 := Tryz.zeroValue209
 t50 := Tryz.underlying180
 a50 := Tryz.isAgg180
 z50 := Tryz.sizeOf180
 v50 := Tryz.zeroValue180
 t53 := Tryz.underlying215
 a53 := Tryz.isAgg215
 z53 := Tryz.sizeOf215
 v53 := Tryz.zeroValue215
 t55 := Tryz.underlying39
 a55 := Tryz.isAgg39
 z55 := Tryz.sizeOf39
 v55 := Tryz.zeroValue39
 t66 := Tryz.underlying245
 a66 := Tryz.isAgg245
 z66 := Tryz.sizeOf245
 v66 := Tryz.zeroValue245
 t70 := Tryz.underlying249
 a70 := Tryz.isAgg249
 z70 := Tryz.sizeOf249
 v70 := Tryz.zeroValue249
 t76 := Tryz.underlying284
 a76 := Tryz.isAgg284
 z76 := Tryz.sizeOf284
 v76 := Tryz.zeroValue284
 t77 := Tryz.underlying285
 a77 := Tryz.isAgg285
 z77 := Tryz.sizeOf285
 v77 := Tryz.zeroValue285 }
end Go.Proofs
namespace Go.Ds
open Go.Proofs Go.Shelf Go.RowKit Go.Lib Go.Sort
theorem uI (x : Int × Int) : ∀ v ∈ cA x, v.oneCell' = true := by
 intro v hv
 simp [cA] at hv
 rcases hv with rfl | rfl <;> rfl
theorem c0m (kc : FuncId) (eg : ∀ args w, (callFunc kc args).run Tryz.prog w = .ok (.enter kc args) w) (hf : ∀ x y, Fn Tryz.prog kc [.agg #[I x.1, I x.2], .agg #[I y.1, I y.2]] .nil fun r H' => r = I (cf2 x y) ∧ St Tryz.prog (.nil : Heap) H' []) : vB Tryz.prog 62 kc (fun _ => True) :=
 fun cC off cap d w _ hH hblk hsz => by
  have h := AnyQ.slices_SortFunc_total Tryz.sort67 2 Tryz.isAgg70 Tryz.sizeOf70 cA (fun _ => rfl) uI cf2 c2d kc #[] cC off cap d w eg (a2F hf cC off d.size w) hH hblk hsz c0q
  rw [a4N] at h
  exact h
theorem b9Q (kc : FuncId) (eg : ∀ args w, (callFunc kc args).run Tryz.prog w = .ok (.enter kc args) w) (hf : ∀ x y, Fn Tryz.prog kc [.agg #[I x.1, I x.2], .agg #[I y.1, I y.2]] .nil fun r H' => r = I (cf2 x y) ∧ St Tryz.prog (.nil : Heap) H' []) : vB Tryz.prog 51 kc (fun _ => True) :=
 fun cC off cap d w _ hH hblk hsz => by
  have h := AnyQ.slices_SortFunc_total Tryz.sort233 2 Tryz.isAgg52 Tryz.sizeOf52 cA (fun _ => rfl) uI cf2 c2d kc #[] cC off cap d w eg (a2F hf cC off d.size w) hH hblk hsz c0q
  rw [a4N] at h
  exact h
theorem c0R : uT Tryz.prog 62 := fun p cap fv w => AnyF.slices_SortFunc_none { Tryz.sort67 with } p cap fv w
theorem b5N : uT Tryz.prog 51 := fun p cap fv w => AnyF.slices_SortFunc_none { Tryz.sort233 with } p cap fv w
def a4t (K kc : FuncId) : Prop := ∀ {H : Heap} {B : Base} {os : List Ob} (hS : St Tryz.prog B H os) (i : Nat) {v : Value} {es : List (Int × Int)} (ho : os[i]? = some ⟨v, 2, pr es⟩) (hl : es.length < 100000000000) {Q : Value → Heap → Prop}
    (h : ∀ H1, St Tryz.prog B H1 (os.set i ⟨v, 2, pr (lW es)⟩) → Q (.tuple #[]) H1), oH Tryz.prog K [v, .func (.func kc) #[] #[]] H Q
theorem b9b : jI Tryz.prog 62 := ⟨Tryz.f62, Tryz.func62, by kernel_rfl, by kernel_rfl⟩
theorem b5W : jI Tryz.prog 51 := ⟨Tryz.f51, Tryz.func51, by kernel_rfl, by kernel_rfl⟩
theorem c1J : a4t 62 179 := fun hS i _ _ ho hl _ h => qC (c0m 179 (enters_of Tryz.func179 (by kernel_rfl) rfl) fun x y => b5o x y) c0R b9b hS i ho hl (fun _ _ => trivial) h
theorem c2l : a4t 62 100 := fun hS i _ _ ho hl _ h => qC (c0m 100 (enters_of Tryz.func100 (by kernel_rfl) rfl) fun x y => b3u x y) c0R b9b hS i ho hl (fun _ _ => trivial) h
theorem c0o : a4t 51 91 := fun hS i _ _ ho hl _ h => qC (b9Q 91 (enters_of Tryz.func91 (by kernel_rfl) rfl) fun x y => b2Y x y) b5N b5W hS i ho hl (fun _ _ => trivial) h
end Go.Ds
