/-
  A part of the proof of SilenceErrors.
-/
import Derived.Test.YtmhekfhdnednjaaGreatDoorVC
import Derived.Test.YtmhekfhdnednjaaGreatDoorProg
import Derived.KernelRfl
import Derived.Test.YtmhekfhdnednjaaGreatDoorVB
import Derived.Shelf.SlSortCmp.NoneTotal
import Derived.Shelf.SlGeneric
import Derived.Shelf.SlLaysF0
set_option linter.unusedVariables false
set_option linter.unusedSimpArgs false
set_option linter.defProp false
set_option linter.unusedSectionVars false
namespace Go.Ds
open Go.Proofs Go.Proofs.Tryz
abbrev I (n : Int) : Value := .int .i64 n
theorem sR (H : Heap) : St prog H H [] := .refl ..
theorem kC : prog.follows .mixedOrders = true := by kernel_rfl
theorem tS3 : iC prog 3 = some 1 := by kernel_rfl
theorem tS9 : iC prog 9 = some 1 := by kernel_rfl
theorem b7v : iC prog 26 = some 3 := by kernel_rfl
theorem c0i : iC prog 27 = some 1 := by kernel_rfl
theorem a4Y : iC prog 28 = some 1 := by kernel_rfl
theorem lN : iC prog 30 = some 3 := by kernel_rfl
theorem b8y : iC prog 33 = some 1 := by kernel_rfl
theorem c3A : iC prog 36 = some 1 := by kernel_rfl
theorem c2a : iC prog 37 = some 1 := by kernel_rfl
theorem b6r : iC prog 38 = some 1 := by kernel_rfl
theorem lV : iC prog 40 = some 4 := by kernel_rfl
theorem c3C : iC prog 45 = some 1 := by kernel_rfl
theorem b7r : iC prog 60 = some 1 := by kernel_rfl
theorem qQ : iC prog 67 = some 2 := by kernel_rfl
theorem sL : iC prog 74 = some 2 := by kernel_rfl
theorem yQ : iC prog 76 = some 2 := by kernel_rfl
theorem c2w : iC prog 77 = some 1 := by kernel_rfl
theorem a2B : iC prog 79 = some 6 := by kernel_rfl
theorem c0e : iC prog 89 = some 1 := by kernel_rfl
theorem mG : iC prog 96 = some 2 := by kernel_rfl
theorem b3T : iC prog 100 = some 3 := by kernel_rfl
theorem a0j : iC prog 108 = some 2 := by kernel_rfl
theorem b9A : iC prog 109 = some 1 := by kernel_rfl
theorem sW : iC prog 111 = some 5 := by kernel_rfl
theorem b0g : iC prog 120 = some 4 := by kernel_rfl
theorem b5O : iC prog 124 = some 9 := by kernel_rfl
theorem vA : iC prog 126 = some 1 := by kernel_rfl
theorem mV : iC prog 128 = some 4 := by kernel_rfl
theorem b4g : iC prog 131 = some 4 := by kernel_rfl
theorem b0m : iC prog 133 = some 4 := by kernel_rfl
theorem vF : iC prog 135 = some 5 := by kernel_rfl
theorem a6C : iC prog 164 = some 1 := by kernel_rfl
theorem wS : iC prog 171 = some 3 := by kernel_rfl
theorem b4R : iC prog 175 = some 1 := by kernel_rfl
theorem a6e : iC prog 181 = some 1 := by kernel_rfl
theorem a0g : iC prog 186 = some 2 := by kernel_rfl
theorem a1n : iC prog 189 = some 3 := by kernel_rfl
theorem a9J : iC prog 204 = some 3 := by kernel_rfl
theorem b6d : iC prog 207 = some 1 := by kernel_rfl
theorem nE : lA prog 125 = true ∧ oN prog 9 = true ∧ lA prog 9 = false := ⟨by kernel_rfl, by kernel_rfl, by kernel_rfl⟩
theorem c4J (A i e : Nat) (k : IntKind) (j : Int) (h0 : 0 ≤ j) (h1 : j < 5) : a1A (iW prog 53) prog 53 (ptr A i e) (.int k j) = some (ptr A (i + j.toNat * 1) e) := b6Q (n := 5) (elem := 5) (size := 1) (by kernel_rfl) (by kernel_rfl) A i e k j h0 h1
theorem b5p : mD prog 27 = some (1, 8) := by kernel_rfl
theorem c0u : ((iF prog 27).bind (iU prog)).any jA = true := by kernel_rfl
theorem c1e : mD prog 36 = some (6, 80) := by kernel_rfl
theorem c4b : ((iF prog 36).bind (iU prog)).any jA = true := by kernel_rfl
theorem c0S : mD prog 37 = some (5, 64) := by kernel_rfl
theorem c3m : ((iF prog 37).bind (iU prog)).any jA = true := by kernel_rfl
theorem a8D : mD prog 38 = some (5, 48) := by kernel_rfl
theorem b6A : ((iF prog 38).bind (iU prog)).any jA = true := by kernel_rfl
theorem c0Y : mD prog 45 = some (2, 16) := by kernel_rfl
theorem c4Y : ((iF prog 45).bind (iU prog)).any jA = true := by kernel_rfl
theorem a7s : mD prog 60 = some (2, 16) := by kernel_rfl
theorem b7J : ((iF prog 60).bind (iU prog)).any jA = true := by kernel_rfl
theorem a5D : mD prog 77 = some (1, 8) := by kernel_rfl
theorem a8o : ((iF prog 77).bind (iU prog)).any jA = true := by kernel_rfl
theorem c5s : mD prog 87 = some (4, 88) := by kernel_rfl
theorem c4z : ((iF prog 87).bind (iU prog)).any jA = true := by kernel_rfl
theorem c1Y : mD prog 89 = some (3, 40) := by kernel_rfl
theorem c5e : ((iF prog 89).bind (iU prog)).any jA = true := by kernel_rfl
theorem b3N : mD prog 109 = some (4, 56) := by kernel_rfl
theorem b9n : ((iF prog 109).bind (iU prog)).any jA = true := by kernel_rfl
theorem b0A : mD prog 125 = some (1, 1) := by kernel_rfl
theorem b0n : ((iF prog 125).bind (iU prog)).any jA = true := by kernel_rfl
theorem pS : mD prog 126 = some (3, 40) := by kernel_rfl
theorem vE : ((iF prog 126).bind (iU prog)).any jA = true := by kernel_rfl
theorem c1V : mD prog 139 = some (3, 40) := by kernel_rfl
theorem c2M : ((iF prog 139).bind (iU prog)).any jA = true := by kernel_rfl
theorem c3X : mD prog 144 = some (1, 16) := by kernel_rfl
theorem c1M : ((iF prog 144).bind (iU prog)).any jA = true := by kernel_rfl
theorem b9s : mD prog 145 = some (2, 16) := by kernel_rfl
theorem c3p : ((iF prog 145).bind (iU prog)).any jA = true := by kernel_rfl
theorem a0l : mD prog 164 = some (3, 24) := by kernel_rfl
theorem b0a : ((iF prog 164).bind (iU prog)).any jA = true := by kernel_rfl
theorem b9t : mD prog 181 = some (1, 24) := by kernel_rfl
theorem c3n : ((iF prog 181).bind (iU prog)).any jA = true := by kernel_rfl
theorem a3J : mD prog 187 = some (2, 16) := by kernel_rfl
theorem a3O : ((iF prog 187).bind (iU prog)).any jA = true := by kernel_rfl
theorem b9w : mD prog 231 = some (2, 16) := by kernel_rfl
theorem b8V : ((iF prog 231).bind (iU prog)).any jA = true := by kernel_rfl
theorem c2d (t2 : TypeId) (cx cy : Bool) (a0 : Int) (a1 : Int) (b0 : Int) (b1 : Int) : kU prog .eql 67 t2 cx cy (.agg #[.int .i64 a0, .int .i64 a1]) (.agg #[.int .i64 b0, .int .i64 b1]) = some (.bool (decide (a0 = b0 ∧ a1 = b1))) ∧ kU prog .neq 67 t2 cx cy (.agg #[.int .i64 a0, .int .i64 a1]) (.agg #[.int .i64 b0, .int .i64 b1]) = some (.bool (decide (¬ (a0 = b0 ∧ a1 = b1)))) := by
 have h := tD (P := prog) (t := 67) (t2 := t2) (cx := cx) (cy := cy) (xs := [.int .i64 a0, .int .i64 a1]) (ys := [.int .i64 b0, .int .i64 b1]) (by kernel_rfl) (by kernel_rfl) (by kernel_rfl) (by kernel_rfl) rfl (by kernel_rfl) rfl rfl
 have e : ((List.range [Value.int .i64 a0, .int .i64 a1].length).all fun j => yK ([Value.int .i64 a0, .int .i64 a1].getD j undef) ([Value.int .i64 b0, .int .i64 b1].getD j undef)) = decide (a0 = b0 ∧ a1 = b1) := by
  show (yK (Value.int .i64 a0) (.int .i64 b0) && (yK (Value.int .i64 a1) (.int .i64 b1) && true)) = _
  rw [eD]
  simp [yK]
 rw [e] at h
 exact ⟨h.1, by rw [h.2]; simp⟩
theorem c3U (t2 : TypeId) (cx cy : Bool) (a0 : Int) (a1 : Int) (b0 : Int) (b1 : Int) : kU prog .eql 67 t2 cx cy (.agg #[.int .i64 a0, .int .i64 a1]) (.agg #[.int .i64 b0, .int .i64 b1]) = some (.bool (decide (a0 = b0 ∧ a1 = b1))) := (c2d t2 cx cy a0 a1 b0 b1).1
theorem c2Z (t2 : TypeId) (cx cy : Bool) (a0 : Int) (a1 : Int) (b0 : Int) (b1 : Int) : kU prog .neq 67 t2 cx cy (.agg #[.int .i64 a0, .int .i64 a1]) (.agg #[.int .i64 b0, .int .i64 b1]) = some (.bool (decide (¬ (a0 = b0 ∧ a1 = b1)))) := (c2d t2 cx cy a0 a1 b0 b1).2
theorem c2L (t2 : TypeId) (cx cy : Bool) (a0 : Int) (a1 : Int) (b0 : Int) (b1 : Int) : kU prog .eql 74 t2 cx cy (.agg #[.int .i64 a0, .int .i64 a1]) (.agg #[.int .i64 b0, .int .i64 b1]) = some (.bool (decide (a0 = b0 ∧ a1 = b1))) ∧ kU prog .neq 74 t2 cx cy (.agg #[.int .i64 a0, .int .i64 a1]) (.agg #[.int .i64 b0, .int .i64 b1]) = some (.bool (decide (¬ (a0 = b0 ∧ a1 = b1)))) := by
 have h := tD (P := prog) (t := 74) (t2 := t2) (cx := cx) (cy := cy) (xs := [.int .i64 a0, .int .i64 a1]) (ys := [.int .i64 b0, .int .i64 b1]) (by kernel_rfl) (by kernel_rfl) (by kernel_rfl) (by kernel_rfl) rfl (by kernel_rfl) rfl rfl
 have e : ((List.range [Value.int .i64 a0, .int .i64 a1].length).all fun j => yK ([Value.int .i64 a0, .int .i64 a1].getD j undef) ([Value.int .i64 b0, .int .i64 b1].getD j undef)) = decide (a0 = b0 ∧ a1 = b1) := by
  show (yK (Value.int .i64 a0) (.int .i64 b0) && (yK (Value.int .i64 a1) (.int .i64 b1) && true)) = _
  rw [eD]
  simp [yK]
 rw [e] at h
 exact ⟨h.1, by rw [h.2]; simp⟩
theorem c2l (t2 : TypeId) (cx cy : Bool) (a0 : Int) (a1 : Int) (b0 : Int) (b1 : Int) : kU prog .eql 74 t2 cx cy (.agg #[.int .i64 a0, .int .i64 a1]) (.agg #[.int .i64 b0, .int .i64 b1]) = some (.bool (decide (a0 = b0 ∧ a1 = b1))) := (c2L t2 cx cy a0 a1 b0 b1).1
theorem c2Y (t2 : TypeId) (cx cy : Bool) (a0 : Int) (a1 : Int) (b0 : Int) (b1 : Int) : kU prog .neq 74 t2 cx cy (.agg #[.int .i64 a0, .int .i64 a1]) (.agg #[.int .i64 b0, .int .i64 b1]) = some (.bool (decide (¬ (a0 = b0 ∧ a1 = b1)))) := (c2L t2 cx cy a0 a1 b0 b1).2
theorem c3W (t2 : TypeId) (cx cy : Bool) (a0 : Int) (a1 : Int) (b0 : Int) (b1 : Int) : kU prog .eql 96 t2 cx cy (.agg #[.int .u64 a0, .int .u64 a1]) (.agg #[.int .u64 b0, .int .u64 b1]) = some (.bool (decide (a0 = b0 ∧ a1 = b1))) ∧ kU prog .neq 96 t2 cx cy (.agg #[.int .u64 a0, .int .u64 a1]) (.agg #[.int .u64 b0, .int .u64 b1]) = some (.bool (decide (¬ (a0 = b0 ∧ a1 = b1)))) := by
 have h := tD (P := prog) (t := 96) (t2 := t2) (cx := cx) (cy := cy) (xs := [.int .u64 a0, .int .u64 a1]) (ys := [.int .u64 b0, .int .u64 b1]) (by kernel_rfl) (by kernel_rfl) (by kernel_rfl) (by kernel_rfl) rfl (by kernel_rfl) rfl rfl
 have e : ((List.range [Value.int .u64 a0, .int .u64 a1].length).all fun j => yK ([Value.int .u64 a0, .int .u64 a1].getD j undef) ([Value.int .u64 b0, .int .u64 b1].getD j undef)) = decide (a0 = b0 ∧ a1 = b1) := by
  show (yK (Value.int .u64 a0) (.int .u64 b0) && (yK (Value.int .u64 a1) (.int .u64 b1) && true)) = _
  rw [eD]
  simp [yK]
 rw [e] at h
 exact ⟨h.1, by rw [h.2]; simp⟩
theorem c3G (t2 : TypeId) (cx cy : Bool) (a0 : Int) (a1 : Int) (b0 : Int) (b1 : Int) : kU prog .eql 96 t2 cx cy (.agg #[.int .u64 a0, .int .u64 a1]) (.agg #[.int .u64 b0, .int .u64 b1]) = some (.bool (decide (a0 = b0 ∧ a1 = b1))) := (c3W t2 cx cy a0 a1 b0 b1).1
theorem c2P (t2 : TypeId) (cx cy : Bool) (a0 : Int) (a1 : Int) (b0 : Int) (b1 : Int) : kU prog .neq 96 t2 cx cy (.agg #[.int .u64 a0, .int .u64 a1]) (.agg #[.int .u64 b0, .int .u64 b1]) = some (.bool (decide (¬ (a0 = b0 ∧ a1 = b1)))) := (c3W t2 cx cy a0 a1 b0 b1).2
theorem b9p (t2 : TypeId) (cx cy : Bool) (a0 : Int) (a1 : Int) (a2 : Int) (b0 : Int) (b1 : Int) (b2 : Int) : kU prog .eql 171 t2 cx cy (.agg #[.int .i64 a0, .int .i64 a1, .int .i64 a2]) (.agg #[.int .i64 b0, .int .i64 b1, .int .i64 b2]) = some (.bool (decide (a0 = b0 ∧ a1 = b1 ∧ a2 = b2))) ∧ kU prog .neq 171 t2 cx cy (.agg #[.int .i64 a0, .int .i64 a1, .int .i64 a2]) (.agg #[.int .i64 b0, .int .i64 b1, .int .i64 b2]) = some (.bool (decide (¬ (a0 = b0 ∧ a1 = b1 ∧ a2 = b2)))) := by
 have h := tD (P := prog) (t := 171) (t2 := t2) (cx := cx) (cy := cy) (xs := [.int .i64 a0, .int .i64 a1, .int .i64 a2]) (ys := [.int .i64 b0, .int .i64 b1, .int .i64 b2]) (by kernel_rfl) (by kernel_rfl) (by kernel_rfl) (by kernel_rfl) rfl (by kernel_rfl) rfl rfl
 have e : ((List.range [Value.int .i64 a0, .int .i64 a1, .int .i64 a2].length).all fun j => yK ([Value.int .i64 a0, .int .i64 a1, .int .i64 a2].getD j undef) ([Value.int .i64 b0, .int .i64 b1, .int .i64 b2].getD j undef)) = decide (a0 = b0 ∧ a1 = b1 ∧ a2 = b2) := by
  show (yK (Value.int .i64 a0) (.int .i64 b0) && (yK (Value.int .i64 a1) (.int .i64 b1) && (yK (Value.int .i64 a2) (.int .i64 b2) && true))) = _
  rw [eD]
  simp [yK]
 rw [e] at h
 exact ⟨h.1, by rw [h.2]; simp⟩
theorem c1i (t2 : TypeId) (cx cy : Bool) (a0 : Int) (a1 : Int) (a2 : Int) (b0 : Int) (b1 : Int) (b2 : Int) : kU prog .eql 171 t2 cx cy (.agg #[.int .i64 a0, .int .i64 a1, .int .i64 a2]) (.agg #[.int .i64 b0, .int .i64 b1, .int .i64 b2]) = some (.bool (decide (a0 = b0 ∧ a1 = b1 ∧ a2 = b2))) := (b9p t2 cx cy a0 a1 a2 b0 b1 b2).1
theorem c0w (t2 : TypeId) (cx cy : Bool) (a0 : Int) (a1 : Int) (a2 : Int) (b0 : Int) (b1 : Int) (b2 : Int) : kU prog .neq 171 t2 cx cy (.agg #[.int .i64 a0, .int .i64 a1, .int .i64 a2]) (.agg #[.int .i64 b0, .int .i64 b1, .int .i64 b2]) = some (.bool (decide (¬ (a0 = b0 ∧ a1 = b1 ∧ a2 = b2)))) := (b9p t2 cx cy a0 a1 a2 b0 b1 b2).2
theorem b9f (t2 : TypeId) (cx cy : Bool) (a0 : Int) (a1 : Int) (b0 : Int) (b1 : Int) : kU prog .eql 186 t2 cx cy (.agg #[.int .i64 a0, .int .i64 a1]) (.agg #[.int .i64 b0, .int .i64 b1]) = some (.bool (decide (a0 = b0 ∧ a1 = b1))) ∧ kU prog .neq 186 t2 cx cy (.agg #[.int .i64 a0, .int .i64 a1]) (.agg #[.int .i64 b0, .int .i64 b1]) = some (.bool (decide (¬ (a0 = b0 ∧ a1 = b1)))) := by
 have h := tD (P := prog) (t := 186) (t2 := t2) (cx := cx) (cy := cy) (xs := [.int .i64 a0, .int .i64 a1]) (ys := [.int .i64 b0, .int .i64 b1]) (by kernel_rfl) (by kernel_rfl) (by kernel_rfl) (by kernel_rfl) rfl (by kernel_rfl) rfl rfl
 have e : ((List.range [Value.int .i64 a0, .int .i64 a1].length).all fun j => yK ([Value.int .i64 a0, .int .i64 a1].getD j undef) ([Value.int .i64 b0, .int .i64 b1].getD j undef)) = decide (a0 = b0 ∧ a1 = b1) := by
  show (yK (Value.int .i64 a0) (.int .i64 b0) && (yK (Value.int .i64 a1) (.int .i64 b1) && true)) = _
  rw [eD]
  simp [yK]
 rw [e] at h
 exact ⟨h.1, by rw [h.2]; simp⟩
theorem c1F (t2 : TypeId) (cx cy : Bool) (a0 : Int) (a1 : Int) (b0 : Int) (b1 : Int) : kU prog .eql 186 t2 cx cy (.agg #[.int .i64 a0, .int .i64 a1]) (.agg #[.int .i64 b0, .int .i64 b1]) = some (.bool (decide (a0 = b0 ∧ a1 = b1))) := (b9f t2 cx cy a0 a1 b0 b1).1
theorem b9T (t2 : TypeId) (cx cy : Bool) (a0 : Int) (a1 : Int) (b0 : Int) (b1 : Int) : kU prog .neq 186 t2 cx cy (.agg #[.int .i64 a0, .int .i64 a1]) (.agg #[.int .i64 b0, .int .i64 b1]) = some (.bool (decide (¬ (a0 = b0 ∧ a1 = b1)))) := (b9f t2 cx cy a0 a1 b0 b1).2
theorem a9S : kA prog 30 [] = some (.agg #[.slice none 0 0, .int .u64 0, .int .u64 0]) := by kernel_rfl
theorem b4n {a1 : Value} (h1 : a1.cells = #[a1] ∧ oneCell a1 = true ∧ mY a1 = true) : kA prog 30 [(0, a1)] = some (.agg #[a1, .int .u64 0, .int .u64 0]) := by cases a1 <;> first | (exfalso; simp [oneCell] at h1; done) | kernel_rfl
theorem b5t {a1 : Value} {a2 : Int} (h1 : a1.cells = #[a1] ∧ oneCell a1 = true ∧ mY a1 = true) : kA prog 30 [(0, a1), (1, .int .u64 a2)] = some (.agg #[a1, .int .u64 a2, .int .u64 0]) := by cases a1 <;> first | (exfalso; simp [oneCell] at h1; done) | kernel_rfl
theorem c0Z {a1 : ByteArray} : kA prog 40 [(0, .string a1)] = some (.agg #[.string a1, .slice none 0 0, .slice none 0 0, .slice none 0 0]) := by kernel_rfl
theorem a4j {a1 : ByteArray} {a2 : Value} {a3 : Value} {a4 : Value} (h2 : a2.cells = #[a2] ∧ oneCell a2 = true ∧ mY a2 = true) (h3 : a3.cells = #[a3] ∧ oneCell a3 = true ∧ mY a3 = true) (h4 : a4.cells = #[a4] ∧ oneCell a4 = true ∧ mY a4 = true) : kA prog 40 [(0, .string a1), (1, a2), (2, a3), (3, a4)] = some (.agg #[.string a1, a2, a3, a4]) := by cases a2 <;> cases a3 <;> cases a4 <;> first | (exfalso; simp [oneCell] at h2; done) | (exfalso; simp [oneCell] at h3; done) | (exfalso; simp [oneCell] at h4; done) | kernel_rfl
theorem a1i {a1 : Int} {a2 : Int} : kA prog 67 [(0, .int .i64 a1), (1, .int .i64 a2)] = some (.agg #[.int .i64 a1, .int .i64 a2]) := by kernel_rfl
theorem b9B : kA prog 74 [] = some (.agg #[.int .i64 0, .int .i64 0]) := by kernel_rfl
theorem b5M {a1 : Int} {a2 : Int} : kA prog 74 [(0, .int .i64 a1), (1, .int .i64 a2)] = some (.agg #[.int .i64 a1, .int .i64 a2]) := by kernel_rfl
theorem xR {a1 : Int} {a2 : Int} : kA prog 76 [(0, .int .i64 a1), (1, .int .i64 a2)] = some (.agg #[.int .i64 a1, .int .i64 a2]) := by kernel_rfl
theorem a4P {a1 : ByteArray} {a2 : ByteArray} {a3 : Int} {a4 : Int} {a5 : Int} : kA prog 79 [(0, .string a1), (1, .string a2), (2, .agg #[.int .i64 a3, .int .i64 a4]), (3, .int .i64 a5)] = some (.agg #[.string a1, .string a2, .int .i64 a3, .int .i64 a4, .int .i64 a5, .slice none 0 0]) := by kernel_rfl
theorem a2q {a1 : ByteArray} {a2 : ByteArray} {a3 : Int} {a4 : Int} {a5 : Int} {a6 : Value} (h6 : a6.cells = #[a6] ∧ oneCell a6 = true ∧ mY a6 = true) : kA prog 79 [(0, .string a1), (1, .string a2), (2, .agg #[.int .i64 a3, .int .i64 a4]), (3, .int .i64 a5), (4, a6)] = some (.agg #[.string a1, .string a2, .int .i64 a3, .int .i64 a4, .int .i64 a5, a6]) := by cases a6 <;> first | (exfalso; simp [oneCell] at h6; done) | kernel_rfl
theorem b8N : kA prog 96 [] = some (.agg #[.int .u64 0, .int .u64 0]) := by kernel_rfl
theorem a6U {a1 : Int} {a2 : Int} : kA prog 96 [(0, .int .u64 a1), (1, .int .u64 a2)] = some (.agg #[.int .u64 a1, .int .u64 a2]) := by kernel_rfl
theorem b1d {a1 : Int} {a2 : Int} {a3 : Value} (h3 : a3.cells = #[a3] ∧ oneCell a3 = true ∧ mY a3 = true) : kA prog 100 [(0, .agg #[.int .i64 a1, .int .i64 a2]), (1, a3)] = some (.agg #[.int .i64 a1, .int .i64 a2, a3]) := by cases a3 <;> first | (exfalso; simp [oneCell] at h3; done) | kernel_rfl
theorem a3o {a1 : Int} {a2 : Int} : kA prog 108 [(0, .int .i64 a1), (1, .int .i64 a2)] = some (.agg #[.int .i64 a1, .int .i64 a2]) := by kernel_rfl
theorem a6A {a1 : ByteArray} {a2 : Bool} {a3 : Int} {a4 : Int} : kA prog 111 [(0, .string a1), (1, .bool a2), (2, .agg #[.int .i64 a3, .int .i64 a4])] = some (.agg #[.string a1, .bool a2, .int .i64 a3, .int .i64 a4, .slice none 0 0]) := by kernel_rfl
theorem a7h {a1 : ByteArray} {a2 : Int} {a3 : Int} {a4 : Value} (h4 : a4.cells = #[a4] ∧ oneCell a4 = true ∧ mY a4 = true) : kA prog 111 [(0, .string a1), (2, .agg #[.int .i64 a2, .int .i64 a3]), (3, a4)] = some (.agg #[.string a1, .bool false, .int .i64 a2, .int .i64 a3, a4]) := by cases a4 <;> first | (exfalso; simp [oneCell] at h4; done) | kernel_rfl
theorem b0Q {a1 : ByteArray} {a2 : Int} {a3 : Int} : kA prog 128 [(0, .string a1), (1, .agg #[.int .i64 a2, .int .i64 a3])] = some (.agg #[.string a1, .int .i64 a2, .int .i64 a3, .slice none 0 0]) := by kernel_rfl
theorem a5m {a1 : ByteArray} {a2 : Int} {a3 : Int} {a4 : Value} (h4 : a4.cells = #[a4] ∧ oneCell a4 = true ∧ mY a4 = true) : kA prog 128 [(0, .string a1), (1, .agg #[.int .i64 a2, .int .i64 a3]), (2, a4)] = some (.agg #[.string a1, .int .i64 a2, .int .i64 a3, a4]) := by cases a4 <;> first | (exfalso; simp [oneCell] at h4; done) | kernel_rfl
theorem a0E {a1 : ByteArray} {a2 : Int} {a3 : Int} {a4 : Int} {a5 : Bool} : kA prog 135 [(0, .string a1), (1, .int .i64 a2), (2, .int .i64 a3), (3, .int .i64 a4), (4, .bool a5)] = some (.agg #[.string a1, .int .i64 a2, .int .i64 a3, .int .i64 a4, .bool a5]) := by kernel_rfl
theorem b2L {a1 : ByteArray} {a2 : Int} : kA prog 135 [(0, .string a1), (3, .int .i64 a2)] = some (.agg #[.string a1, .int .i64 0, .int .i64 0, .int .i64 a2, .bool false]) := by kernel_rfl
theorem b9G : kA prog 171 [] = some (.agg #[.int .i64 0, .int .i64 0, .int .i64 0]) := by kernel_rfl
theorem b2e {a1 : Int} {a2 : Int} : kA prog 171 [(0, .int .i64 a1), (1, .int .i64 a2)] = some (.agg #[.int .i64 a1, .int .i64 a2, .int .i64 0]) := by kernel_rfl
theorem a6J {a1 : Int} {a2 : Int} {a3 : Int} : kA prog 171 [(0, .int .i64 a1), (1, .int .i64 a2), (2, .int .i64 a3)] = some (.agg #[.int .i64 a1, .int .i64 a2, .int .i64 a3]) := by kernel_rfl
theorem a2W {a1 : Int} {a2 : Int} : kA prog 171 [(0, .int .i64 a1), (2, .int .i64 a2)] = some (.agg #[.int .i64 a1, .int .i64 0, .int .i64 a2]) := by kernel_rfl
theorem c0U : kA prog 186 [] = some (.agg #[.int .i64 0, .int .i64 0]) := by kernel_rfl
theorem rK {a1 : Int} {a2 : Int} : kA prog 186 [(0, .int .i64 a1), (1, .int .i64 a2)] = some (.agg #[.int .i64 a1, .int .i64 a2]) := by kernel_rfl
theorem c0R : kA prog 189 [] = some (.agg #[.int .i64 0, .int .i64 0, .slice none 0 0]) := by kernel_rfl
theorem lJ {a1 : Int} {a2 : Int} {a3 : Value} (h3 : a3.cells = #[a3] ∧ oneCell a3 = true ∧ mY a3 = true) : kA prog 189 [(0, .int .i64 a1), (1, .int .i64 a2), (2, a3)] = some (.agg #[.int .i64 a1, .int .i64 a2, a3]) := by cases a3 <;> first | (exfalso; simp [oneCell] at h3; done) | kernel_rfl
theorem b2t {a1 : Value} {a2 : Int} {a3 : Int} (h1 : a1.cells = #[a1] ∧ oneCell a1 = true ∧ mY a1 = true) : kA prog 204 [(0, a1), (1, .agg #[.int .i64 a2, .int .i64 a3])] = some (.agg #[a1, .int .i64 a2, .int .i64 a3]) := by cases a1 <;> first | (exfalso; simp [oneCell] at h1; done) | kernel_rfl
theorem tR6 (l : List Value) (H : Heap) : iB prog Tryz.f6 l H = some (get l 6) := rfl
theorem a9t (l : List Value) (H : Heap) : iB prog Tryz.f11 l H = some (get l 2) := rfl
theorem c5h (l : List Value) (H : Heap) : iB prog Tryz.f12 l H = oJ (jL prog 40) (iC prog 40) H (get l 2) := by
 show (Option.bind (Option.bind (lE prog H 40 (get l 2)) fun v => some [v]) fun vs => _) = _
 rw [kM]
 cases oJ _ _ H (get l 2) <;> rfl
theorem b2u (l : List Value) (H : Heap) : iB prog Tryz.f13 l H = some (get l 4) := rfl
theorem b8n (l : List Value) (H : Heap) : iB prog Tryz.f14 l H = some (get l 4) := rfl
theorem a2z (l : List Value) (H : Heap) : iB prog Tryz.f20 l H = some (get l 2) := rfl
theorem c2i (l : List Value) (H : Heap) : iB prog Tryz.f23 l H = if (jG (get l 6) && (jG (get l 7) && true)) = true then some (.tuple #[get l 6, get l 7]) else none := rfl
theorem b9U (l : List Value) (H : Heap) : iB prog Tryz.f27 l H = some (get l 4) := rfl
theorem c4K (l : List Value) (H : Heap) : iB prog Tryz.f32 l H = some (get l 0) := rfl
theorem c4L (l : List Value) (H : Heap) : iB prog Tryz.f33 l H = some (get l 8) := rfl
theorem c0W (l : List Value) (H : Heap) : iB prog Tryz.f34 l H = if (jG (get l 6) && (jG (get l 7) && true)) = true then some (.tuple #[get l 6, get l 7]) else none := rfl
theorem c1o (l : List Value) (H : Heap) : iB prog Tryz.f40 l H = if (jG (get l 4) && (jG (get l 5) && true)) = true then some (.tuple #[get l 4, get l 5]) else none := rfl
theorem c5b (l : List Value) (H : Heap) : iB prog Tryz.f41 l H = if (jG (get l 4) && (jG (get l 5) && true)) = true then some (.tuple #[get l 4, get l 5]) else none := rfl
theorem c4D (l : List Value) (H : Heap) : iB prog Tryz.f45 l H = (oJ (jL prog 96) (iC prog 96) H (get l 2)).bind fun v => if (jG v && (jG (get l 3) && true)) = true then some (.tuple #[v, get l 3]) else none := by
 show (Option.bind (Option.bind (lE prog H 96 (get l 2)) fun v => some [v, get l 3]) fun vs => _) = _
 rw [kM]
 cases oJ _ _ H (get l 2) <;> rfl
theorem c5z (l : List Value) (H : Heap) : iB prog Tryz.f47 l H = oJ (jL prog 79) (iC prog 79) H (get l 4) := by
 show (Option.bind (Option.bind (lE prog H 79 (get l 4)) fun v => some [v]) fun vs => _) = _
 rw [kM]
 cases oJ _ _ H (get l 4) <;> rfl
theorem a8J (l : List Value) (H : Heap) : iB prog Tryz.f48 l H = oJ (jL prog 128) (iC prog 128) H (get l 8) := by
 show (Option.bind (Option.bind (lE prog H 128 (get l 8)) fun v => some [v]) fun vs => _) = _
 rw [kM]
 cases oJ _ _ H (get l 8) <;> rfl
theorem c4w (l : List Value) (H : Heap) : iB prog Tryz.f49 l H = (oJ (jL prog 96) (iC prog 96) H (get l 2)).bind fun v => if (jG v && (jG (get l 3) && true)) = true then some (.tuple #[v, get l 3]) else none := by
 show (Option.bind (Option.bind (lE prog H 96 (get l 2)) fun v => some [v, get l 3]) fun vs => _) = _
 rw [kM]
 cases oJ _ _ H (get l 2) <;> rfl
theorem c5r (l : List Value) (H : Heap) : iB prog Tryz.f50 l H = some (get l 4) := rfl
theorem c5y (l : List Value) (H : Heap) : iB prog Tryz.f52 l H = some (get l 6) := rfl
theorem b2q (l : List Value) (H : Heap) : iB prog Tryz.f55 l H = some (get l 2) := rfl
theorem a8a (l : List Value) (H : Heap) : iB prog Tryz.f56 l H = some (get l 2) := rfl
theorem c2x (l : List Value) (H : Heap) : iB prog Tryz.f57 l H = some (get l 4) := rfl
theorem b5R (l : List Value) (H : Heap) : iB prog Tryz.f58 l H = some (get l 4) := rfl
theorem zH (l : List Value) (H : Heap) : iB prog Tryz.f59 l H = some (get l 4) := rfl
theorem c5u (l : List Value) (H : Heap) : iB prog Tryz.f60 l H = some (get l 6) := rfl
theorem c5g (l : List Value) (H : Heap) : iB prog Tryz.f61 l H = if (jG (get l 4) && (jG (get l 5) && true)) = true then some (.tuple #[get l 4, get l 5]) else none := rfl
theorem b9F (l : List Value) (H : Heap) : iB prog Tryz.f63 l H = some (get l 4) := rfl
theorem c1T (l : List Value) (H : Heap) : iB prog Tryz.f64 l H = some (get l 6) := rfl
theorem c4m (l : List Value) (H : Heap) : iB prog Tryz.f65 l H = some (get l 6) := rfl
theorem b4z (l : List Value) (H : Heap) : iB prog Tryz.f66 l H = some (get l 4) := rfl
theorem c0n (l : List Value) (H : Heap) : iB prog Tryz.f72 l H = some (get l 2) := rfl
theorem c5j (l : List Value) (H : Heap) : iB prog Tryz.f75 l H = oJ (jL prog 40) (iC prog 40) H (get l 0) := by
 show (Option.bind (Option.bind (lE prog H 40 (get l 0)) fun v => some [v]) fun vs => _) = _
 rw [kM]
 cases oJ _ _ H (get l 0) <;> rfl
theorem b9H (l : List Value) (H : Heap) : iB prog Tryz.f77 l H = if (jG (get l 4) && (jG (get l 5) && true)) = true then some (.tuple #[get l 4, get l 5]) else none := rfl
theorem c4W (l : List Value) (H : Heap) : iB prog Tryz.f78 l H = oJ (jL prog 96) (iC prog 96) H (get l 2) := by
 show (Option.bind (Option.bind (lE prog H 96 (get l 2)) fun v => some [v]) fun vs => _) = _
 rw [kM]
 cases oJ _ _ H (get l 2) <;> rfl
theorem c4l (l : List Value) (H : Heap) : iB prog Tryz.f79 l H = if (jG (get l 4) && (jG (get l 5) && true)) = true then some (.tuple #[get l 4, get l 5]) else none := rfl
theorem c4S (l : List Value) (H : Heap) : iB prog Tryz.f80 l H = (oJ (jL prog 30) (iC prog 30) H (get l 6)).bind fun v => if (jG v && (jG (get l 7) && true)) = true then some (.tuple #[v, get l 7]) else none := by
 show (Option.bind (Option.bind (lE prog H 30 (get l 6)) fun v => some [v, get l 7]) fun vs => _) = _
 rw [kM]
 cases oJ _ _ H (get l 6) <;> rfl
theorem c4V (l : List Value) (H : Heap) : iB prog Tryz.f81 l H = some (get l 4) := rfl
theorem c2B (l : List Value) (H : Heap) : iB prog Tryz.f82 l H = some (get l 4) := rfl
theorem c4F (l : List Value) (H : Heap) : iB prog Tryz.f83 l H = some (get l 4) := rfl
theorem c5x (l : List Value) (H : Heap) : iB prog Tryz.f84 l H = some (get l 4) := rfl
theorem c2S (l : List Value) (H : Heap) : iB prog Tryz.f85 l H = some (get l 4) := rfl
theorem c4A (l : List Value) (H : Heap) : iB prog Tryz.f86 l H = some (get l 3) := rfl
theorem c5D (l : List Value) (H : Heap) : iB prog Tryz.f87 l H = oJ (jL prog 96) (iC prog 96) H (get l 4) := by
 show (Option.bind (Option.bind (lE prog H 96 (get l 4)) fun v => some [v]) fun vs => _) = _
 rw [kM]
 cases oJ _ _ H (get l 4) <;> rfl
theorem c4N (l : List Value) (H : Heap) : iB prog Tryz.f94 l H = some (get l 2) := rfl
theorem c2G (l : List Value) (H : Heap) : iB prog Tryz.f95 l H = oJ (jL prog 96) (iC prog 96) H (get l 4) := by
 show (Option.bind (Option.bind (lE prog H 96 (get l 4)) fun v => some [v]) fun vs => _) = _
 rw [kM]
 cases oJ _ _ H (get l 4) <;> rfl
theorem c5w (l : List Value) (H : Heap) : iB prog Tryz.f96 l H = oJ (jL prog 76) (iC prog 76) H (get l 2) := by
 show (Option.bind (Option.bind (lE prog H 76 (get l 2)) fun v => some [v]) fun vs => _) = _
 rw [kM]
 cases oJ _ _ H (get l 2) <;> rfl
theorem c5A (l : List Value) (H : Heap) : iB prog Tryz.f97 l H = oJ (jL prog 76) (iC prog 76) H (get l 2) := by
 show (Option.bind (Option.bind (lE prog H 76 (get l 2)) fun v => some [v]) fun vs => _) = _
 rw [kM]
 cases oJ _ _ H (get l 2) <;> rfl
theorem b8H (l : List Value) (H : Heap) : iB prog Tryz.f98 l H = some (get l 2) := rfl
theorem c4M (l : List Value) (H : Heap) : iB prog Tryz.f99 l H = oJ (jL prog 96) (iC prog 96) H (get l 4) := by
 show (Option.bind (Option.bind (lE prog H 96 (get l 4)) fun v => some [v]) fun vs => _) = _
 rw [kM]
 cases oJ _ _ H (get l 4) <;> rfl
theorem b4M (l : List Value) (H : Heap) : iB prog Tryz.f100 l H = some (get l 4) := rfl
theorem c3Z (l : List Value) (H : Heap) : iB prog Tryz.f103 l H = some (get l 4) := rfl
theorem a6z (l : List Value) (H : Heap) : iB prog Tryz.f104 l H = some (get l 2) := rfl
theorem a6R (l : List Value) (H : Heap) : iB prog Tryz.f105 l H = some (get l 2) := rfl
theorem b9m (l : List Value) (H : Heap) : iB prog Tryz.f106 l H = some (get l 2) := rfl
theorem b9C (l : List Value) (H : Heap) : iB prog Tryz.f107 l H = some (get l 2) := rfl
theorem sP (l : List Value) (H : Heap) : iB prog Tryz.f108 l H = some (get l 4) := rfl
theorem c3x (l : List Value) (H : Heap) : iB prog Tryz.f109 l H = some (get l 4) := rfl
theorem c3c (l : List Value) (H : Heap) : iB prog Tryz.f110 l H = some (get l 3) := rfl
theorem b9b (l : List Value) (H : Heap) : iB prog Tryz.f111 l H = some (.tuple #[]) := rfl
theorem c2W (l : List Value) (H : Heap) : iB prog Tryz.f113 l H = some (get l 4) := rfl
theorem b5b (l : List Value) (H : Heap) : iB prog Tryz.f114 l H = some (get l 2) := rfl
theorem b8Y (l : List Value) (H : Heap) : iB prog Tryz.f115 l H = some (get l 4) := rfl
theorem c2y (l : List Value) (H : Heap) : iB prog Tryz.f116 l H = some (get l 4) := rfl
theorem c3E (l : List Value) (H : Heap) : iB prog Tryz.f117 l H = some (get l 2) := rfl
theorem c3b (l : List Value) (H : Heap) : iB prog Tryz.f118 l H = some (get l 6) := rfl
theorem c2T (l : List Value) (H : Heap) : iB prog Tryz.f130 l H = some (get l 2) := rfl
theorem c3h (l : List Value) (H : Heap) : iB prog Tryz.f131 l H = some (get l 4) := rfl
theorem b3G (l : List Value) (H : Heap) : iB prog Tryz.f132 l H = oJ (jL prog 30) (iC prog 30) H (get l 4) := by
 show (Option.bind (Option.bind (lE prog H 30 (get l 4)) fun v => some [v]) fun vs => _) = _
 rw [kM]
 cases oJ _ _ H (get l 4) <;> rfl
theorem b9g (l : List Value) (H : Heap) : iB prog Tryz.f133 l H = oJ (jL prog 96) (iC prog 96) H (get l 4) := by
 show (Option.bind (Option.bind (lE prog H 96 (get l 4)) fun v => some [v]) fun vs => _) = _
 rw [kM]
 cases oJ _ _ H (get l 4) <;> rfl
theorem c2p (l : List Value) (H : Heap) : iB prog Tryz.f134 l H = some (get l 2) := rfl
theorem c2R (l : List Value) (H : Heap) : iB prog Tryz.f136 l H = some (.tuple #[]) := rfl
theorem b8K (l : List Value) (H : Heap) : iB prog Tryz.f137 l H = some (get l 4) := rfl
theorem b9x (l : List Value) (H : Heap) : iB prog Tryz.f141 l H = some (get l 2) := rfl
theorem a3B (l : List Value) (H : Heap) : iB prog Tryz.f142 l H = some (get l 2) := rfl
theorem c3g (l : List Value) (H : Heap) : iB prog Tryz.f143 l H = some (get l 4) := rfl
theorem b9y (l : List Value) (H : Heap) : iB prog Tryz.f144 l H = some (get l 2) := rfl
theorem b2T (l : List Value) (H : Heap) : iB prog Tryz.f145 l H = some (get l 2) := rfl
theorem a1t (l : List Value) (H : Heap) : iB prog Tryz.f146 l H = some (get l 4) := rfl
theorem b8Q (l : List Value) (H : Heap) : iB prog Tryz.f147 l H = some (get l 4) := rfl
theorem b9o (l : List Value) (H : Heap) : iB prog Tryz.f153 l H = oJ (jL prog 189) (iC prog 189) H (get l 4) := by
 show (Option.bind (Option.bind (lE prog H 189 (get l 4)) fun v => some [v]) fun vs => _) = _
 rw [kM]
 cases oJ _ _ H (get l 4) <;> rfl
theorem b0q (l : List Value) (H : Heap) : iB prog Tryz.f154 l H = (oJ (jL prog 74) (iC prog 74) H (get l 6)).bind fun v => if (jG v && (jG (get l 7) && true)) = true then some (.tuple #[v, get l 7]) else none := by
 show (Option.bind (Option.bind (lE prog H 74 (get l 6)) fun v => some [v, get l 7]) fun vs => _) = _
 rw [kM]
 cases oJ _ _ H (get l 6) <;> rfl
theorem c2r (l : List Value) (H : Heap) : iB prog Tryz.f155 l H = some (get l 2) := rfl
theorem c1L (l : List Value) (H : Heap) : iB prog Tryz.f179 l H = some (get l 4) := rfl
theorem b9z (l : List Value) (H : Heap) : iB prog Tryz.f180 l H = some (get l 4) := rfl
theorem c4a (l : List Value) (H : Heap) : iB prog Tryz.f181 l H = some (get l 5) := rfl
theorem b4j (l : List Value) (H : Heap) : iB prog Tryz.f182 l H = some (get l 6) := rfl
theorem c2n (l : List Value) (H : Heap) : iB prog Tryz.f183 l H = some (get l 4) := rfl
theorem c3t (l : List Value) (H : Heap) : iB prog Tryz.f184 l H = some (get l 2) := rfl
theorem c3o (l : List Value) (H : Heap) : iB prog Tryz.f190 l H = some (get l 4) := rfl
theorem b8L (l : List Value) (H : Heap) : iB prog Tryz.f191 l H = some (get l 2) := rfl
theorem b9e (l : List Value) (H : Heap) : iB prog Tryz.f192 l H = some (get l 4) := rfl
theorem c2K (l : List Value) (H : Heap) : iB prog Tryz.f193 l H = some (get l 4) := rfl
theorem b9k (l : List Value) (H : Heap) : iB prog Tryz.f211 l H = some (get l 4) := rfl
theorem b9j (l : List Value) (H : Heap) : iB prog Tryz.f212 l H = some (get l 3) := rfl
theorem c3u (l : List Value) (H : Heap) : iB prog Tryz.f213 l H = some (get l 4) := rfl
theorem b9i (l : List Value) (H : Heap) : iB prog Tryz.f227 l H = some (get l 4) := rfl
theorem c3r (l : List Value) (H : Heap) : iB prog Tryz.f228 l H = some (.tuple #[]) := rfl
theorem b9d (l : List Value) (H : Heap) : iB prog Tryz.f231 l H = some (get l 4) := rfl
theorem a6Z : MapK prog 147 Value.string (.bool false) := MapK.str (kt := 9) (et := 4) (by kernel_rfl) (by kernel_rfl) (by kernel_rfl) rfl
theorem a9K : MapK prog 175 (fun p : Int × Int => .agg #[I p.1, I p.2]) (.int .i64 0) := MapK.struct (kt := 74) (et := 3) (fs := (xG prog 74).toArray) (by kernel_rfl) (by kernel_rfl) (by kernel_rfl) rfl (fun b k => by cases b <;> kernel_rfl) (fun a b => b3S (by kernel_rfl) (by kernel_rfl) (by kernel_rfl) (fun _ _ _ _ => by kernel_rfl) a b) (fun k => b3d k)
theorem a6i : MapK prog 207 (fun p : Int × Int => .agg #[I p.1, I p.2]) (.bool false) := MapK.struct (kt := 67) (et := 4) (fs := (xG prog 67).toArray) (by kernel_rfl) (by kernel_rfl) (by kernel_rfl) rfl (fun b k => by cases b <;> kernel_rfl) (fun a b => b3S (by kernel_rfl) (by kernel_rfl) (by kernel_rfl) (fun _ _ _ _ => by kernel_rfl) a b) (fun k => b3d k)
theorem tt0 : jL prog 3 = some false ∧ jL prog 4 = some false ∧ iC prog 4 = some 1 ∧ jL prog 5 = some false ∧ iC prog 5 = some 1 ∧ jL prog 9 = some false ∧ jL prog 22 = some false ∧ iC prog 22 = some 1 ∧ jL prog 23 = some false ∧ iC prog 23 = some 1 ∧ jL prog 24 = some false ∧ iC prog 24 = some 1 ∧ jL prog 26 = some true ∧ jL prog 27 = some false ∧ jL prog 28 = some false ∧ jL prog 30 = some true ∧ jL prog 33 = some false ∧ jL prog 36 = some false ∧ jL prog 37 = some false ∧ jL prog 38 = some false ∧ jL prog 40 = some true ∧ jL prog 45 = some false ∧ jL prog 60 = some false ∧ jL prog 67 = some true ∧ jL prog 74 = some true ∧ jL prog 76 = some true ∧ jL prog 77 = some false ∧ jL prog 79 = some true ∧ jL prog 89 = some false ∧ jL prog 96 = some true ∧ jL prog 100 = some true ∧ jL prog 103 = some false ∧ iC prog 103 = some 1 ∧ jL prog 108 = some true ∧ jL prog 109 = some false ∧ jL prog 111 = some true ∧ jL prog 118 = some false ∧ iC prog 118 = some 1 ∧ jL prog 120 = some true ∧ jL prog 122 = some false := by and_intros <;> kernel_rfl
theorem tt1 : iC prog 122 = some 1 ∧ jL prog 124 = some true ∧ jL prog 126 = some false ∧ jL prog 128 = some true ∧ jL prog 131 = some true ∧ jL prog 133 = some true ∧ jL prog 135 = some true ∧ jL prog 164 = some false ∧ jL prog 171 = some true ∧ jL prog 175 = some false ∧ jL prog 181 = some false ∧ jL prog 186 = some true ∧ jL prog 187 = some false ∧ iC prog 187 = some 1 ∧ jL prog 189 = some true ∧ jL prog 204 = some true ∧ jL prog 207 = some false ∧ iW prog 22 = some 9 ∧ iW prog 23 = some 4 ∧ iW prog 24 = some 4 ∧ iW prog 27 = some 1 ∧ iW prog 32 = some 2 ∧ iW prog 33 = some 2 ∧ iW prog 36 = some 6 ∧ iW prog 37 = some 5 ∧ iW prog 38 = some 5 ∧ iW prog 45 = some 2 ∧ iW prog 60 = some 2 ∧ iW prog 77 = some 1 ∧ iW prog 87 = some 4 ∧ iW prog 89 = some 3 ∧ iW prog 103 = some 1 ∧ iW prog 109 = some 4 ∧ iW prog 118 = some 4 ∧ iW prog 125 = some 1 ∧ iW prog 126 = some 3 ∧ iW prog 139 = some 3 ∧ iW prog 144 = some 1 ∧ iW prog 145 = some 2 ∧ iW prog 164 = some 3 := by and_intros <;> kernel_rfl
theorem tt2 : iW prog 181 = some 1 ∧ iW prog 187 = some 2 ∧ iW prog 231 = some 2 ∧ kH prog 27 = true ∧ kH prog 33 = true ∧ kH prog 36 = true ∧ kH prog 37 = true ∧ kH prog 38 = true ∧ kH prog 45 = true ∧ kH prog 60 = true ∧ kH prog 77 = true ∧ kH prog 87 = true ∧ kH prog 89 = true ∧ kH prog 103 = true ∧ kH prog 109 = true ∧ kH prog 125 = true ∧ kH prog 126 = true ∧ kH prog 139 = true ∧ kH prog 144 = true ∧ kH prog 145 = true ∧ kH prog 164 = true ∧ kH prog 181 = true ∧ kH prog 187 = true ∧ kH prog 231 = true ∧ iW prog 9 = none ∧ oN prog 9 = true ∧ iS prog 26 0 = some 0 ∧ iS prog 26 1 = some 1 ∧ iS prog 26 2 = some 2 ∧ iS prog 30 0 = some 0 ∧ iS prog 30 1 = some 1 ∧ iS prog 30 2 = some 2 ∧ iS prog 40 0 = some 0 ∧ iS prog 40 1 = some 1 ∧ iS prog 40 2 = some 2 ∧ iS prog 40 3 = some 3 ∧ iS prog 67 0 = some 0 ∧ iS prog 67 1 = some 1 ∧ iS prog 74 0 = some 0 ∧ iS prog 74 1 = some 1 := by and_intros <;> kernel_rfl
theorem tt3 : iS prog 76 0 = some 0 ∧ iS prog 76 1 = some 1 ∧ iS prog 79 0 = some 0 ∧ iS prog 79 1 = some 1 ∧ iS prog 79 2 = some 2 ∧ iS prog 79 3 = some 4 ∧ iS prog 79 4 = some 5 ∧ iS prog 96 0 = some 0 ∧ iS prog 96 1 = some 1 ∧ iS prog 100 1 = some 2 ∧ iS prog 108 0 = some 0 ∧ iS prog 108 1 = some 1 ∧ iS prog 111 0 = some 0 ∧ iS prog 111 2 = some 2 ∧ iS prog 111 3 = some 4 ∧ iS prog 120 0 = some 0 ∧ iS prog 120 1 = some 1 ∧ iS prog 120 2 = some 2 ∧ iS prog 120 3 = some 3 ∧ iS prog 124 0 = some 0 ∧ iS prog 124 1 = some 1 ∧ iS prog 124 2 = some 2 ∧ iS prog 124 3 = some 3 ∧ iS prog 124 4 = some 4 ∧ iS prog 128 0 = some 0 ∧ iS prog 128 1 = some 1 ∧ iS prog 128 2 = some 3 ∧ iS prog 131 0 = some 0 ∧ iS prog 131 1 = some 1 ∧ iS prog 131 2 = some 2 ∧ iS prog 131 3 = some 3 ∧ iS prog 133 0 = some 0 ∧ iS prog 133 1 = some 1 ∧ iS prog 133 2 = some 2 ∧ iS prog 133 3 = some 3 ∧ iS prog 135 0 = some 0 ∧ iS prog 135 1 = some 1 ∧ iS prog 135 2 = some 2 ∧ iS prog 135 3 = some 3 ∧ iS prog 135 4 = some 4 := by and_intros <;> kernel_rfl
theorem tt4 : iS prog 171 0 = some 0 ∧ iS prog 171 1 = some 1 ∧ iS prog 171 2 = some 2 ∧ iS prog 186 0 = some 0 ∧ iS prog 186 1 = some 1 ∧ iS prog 189 0 = some 0 ∧ iS prog 189 1 = some 1 ∧ iS prog 189 2 = some 2 ∧ iS prog 204 0 = some 0 ∧ iS prog 204 1 = some 1 ∧ iU prog 3 = some (.int .i64 0) ∧ jB prog 3 = none ∧ iU prog 30 = some (.agg #[.slice none 0 0, .int .u64 0, .int .u64 0]) ∧ jB prog 30 = none ∧ iU prog 33 = some (.slice none 0 0) ∧ jB prog 33 = none ∧ iU prog 40 = some (.agg #[.string ⟨#[]⟩, .slice none 0 0, .slice none 0 0, .slice none 0 0]) ∧ jB prog 40 = none ∧ iU prog 60 = some (.slice none 0 0) ∧ jB prog 60 = none ∧ iU prog 67 = some (.agg #[.int .i64 0, .int .i64 0]) ∧ jB prog 67 = none ∧ iU prog 74 = some (.agg #[.int .i64 0, .int .i64 0]) ∧ jB prog 74 = none ∧ iU prog 76 = some (.agg #[.int .i64 0, .int .i64 0]) ∧ jB prog 76 = none ∧ iU prog 79 = some (.agg #[.string ⟨#[]⟩, .string ⟨#[]⟩, .int .i64 0, .int .i64 0, .int .i64 0, .slice none 0 0]) ∧ jB prog 79 = none ∧ iU prog 89 = some (.slice none 0 0) ∧ jB prog 89 = none ∧ iU prog 96 = some (.agg #[.int .u64 0, .int .u64 0]) ∧ jB prog 96 = none ∧ iU prog 100 = some (.agg #[.int .i64 0, .int .i64 0, .slice none 0 0]) ∧ jB prog 100 = none ∧ iU prog 103 = some (.slice none 0 0) ∧ jB prog 103 = none ∧ iU prog 108 = some (.agg #[.int .i64 0, .int .i64 0]) ∧ jB prog 108 = none ∧ iU prog 111 = some (.agg #[.string ⟨#[]⟩, .bool false, .int .i64 0, .int .i64 0, .slice none 0 0]) ∧ jB prog 111 = none := by and_intros <;> kernel_rfl
theorem tt5 : iU prog 120 = some (.agg #[.int .u8 0, .int .u8 0, .bool false, .slice none 0 0]) ∧ jB prog 120 = none ∧ iU prog 128 = some (.agg #[.string ⟨#[]⟩, .int .i64 0, .int .i64 0, .slice none 0 0]) ∧ jB prog 128 = none ∧ iU prog 133 = some (.agg #[.int .u8 0, .int .u8 0, .int .i8 0, .bool false]) ∧ jB prog 133 = none ∧ iU prog 135 = some (.agg #[.string ⟨#[]⟩, .int .i64 0, .int .i64 0, .int .i64 0, .bool false]) ∧ jB prog 135 = none ∧ iU prog 164 = some (.slice none 0 0) ∧ jB prog 164 = none ∧ iU prog 171 = some (.agg #[.int .i64 0, .int .i64 0, .int .i64 0]) ∧ jB prog 171 = none ∧ iU prog 175 = some (.map none) ∧ jB prog 175 = none ∧ iU prog 181 = some (.slice none 0 0) ∧ jB prog 181 = none ∧ iU prog 186 = some (.agg #[.int .i64 0, .int .i64 0]) ∧ jB prog 186 = none ∧ iU prog 189 = some (.agg #[.int .i64 0, .int .i64 0, .slice none 0 0]) ∧ jB prog 189 = none ∧ iU prog 207 = some (.map none) ∧ jB prog 207 = none ∧ a0J prog 3 = some .i64 ∧ a0J prog 5 = some .u8 ∧ a0J prog 28 = some .u64 ∧ a0J prog 122 = some .i8 ∧ a0J prog 143 = some .u64 := by and_intros <;> kernel_rfl
def TS := (And.intro (And.intro (And.intro (And.intro (And.intro @tt0 (And.intro @tt1 @tt2)) (And.intro (And.intro @tt3 @tt4) (And.intro @tt5 @tS3))) (And.intro (And.intro @tS9 (And.intro @b7v @c0i)) (And.intro (And.intro @a4Y @lN) (And.intro @b8y @c3A)))) (And.intro (And.intro (And.intro @c2a (And.intro @b6r @lV)) (And.intro (And.intro @c3C @b7r) (And.intro @qQ @sL))) (And.intro (And.intro @yQ (And.intro @c2w @a2B)) (And.intro (And.intro @c0e @mG) (And.intro @b3T @a0j))))) (And.intro (And.intro (And.intro (And.intro @b9A (And.intro @sW @b0g)) (And.intro (And.intro @b5O @vA) (And.intro @mV @b4g))) (And.intro (And.intro @b0m (And.intro @vF @a6C)) (And.intro (And.intro @wS @b4R) (And.intro @a6e @a0g)))) (And.intro (And.intro (And.intro @a1n (And.intro @a9J @b6d)) (And.intro (And.intro @c4J @c3U) (And.intro @c2Z @c2l))) (And.intro (And.intro @c2Y (And.intro @c3G @c2P)) (And.intro (And.intro @c1i @c0w) (And.intro @c1F @b9T))))))
def RZ := And.intro @RB (And.intro @RC @TS)
end Go.Ds
namespace Go.Ds
open Go.Proofs
variable {P : Program} {H : Heap}
structure Drw where
 rank : Int
 shift : Int
 deriving DecidableEq, Inhabited
structure Seg where
 lo : Int
 hi : Int
 dv : Value
 draws : List Drw
 deriving Inhabited
structure Stp where
 name : ByteArray
 num : Int
 den : Int
 gv : Value
 segs : List Seg
 deriving Inhabited
structure Dvn where
 name : ByteArray
 pedal : Bool
 lo : Int
 hi : Int
 sv : Value
 stops : List Stp
 deriving Inhabited
structure Rk where
 name : ByteArray
 tone : ByteArray
 num : Int
 den : Int
 first : Int
 wv : Value
 wind : List Int
 deriving Inhabited
structure Cpl where
 name : ByteArray
 src : Int
 dst : Int
 shift : Int
 thr : Bool
 deriving Inhabited
structure Org where
 name : ByteArray
 rv : Value
 ranks : List Rk
 dv : Value
 dvs : List Dvn
 cv : Value
 cpls : List Cpl
 deriving Inhabited
def Drw.cells (d : Drw) : List Value := [I d.rank, I d.shift]
def Seg.cells (s : Seg) : List Value := [I s.lo, I s.hi, s.dv]
def Stp.cells (s : Stp) : List Value := [.string s.name, I s.num, I s.den, s.gv]
def Dvn.cells (d : Dvn) : List Value := [.string d.name, .bool d.pedal, I d.lo, I d.hi, d.sv]
def Rk.cells (r : Rk) : List Value := [.string r.name, .string r.tone, I r.num, I r.den, I r.first, r.wv]
def Cpl.cells (c : Cpl) : List Value := [.string c.name, I c.src, I c.dst, I c.shift, .bool c.thr]
def Org.cells (o : Org) : List Value := [.string o.name, o.rv, o.dv, o.cv]
def Seg.In (H : Heap) (s : Seg) : Prop := Sl 2 Drw.cells H s.dv s.draws ∧ s.draws.length < 1000000000
def Stp.In (H : Heap) (s : Stp) : Prop := Sl 3 Seg.cells H s.gv s.segs ∧ (∀ g ∈ s.segs, g.In H) ∧ s.segs.length < 1000000000
def Dvn.In (H : Heap) (d : Dvn) : Prop := Sl 4 Stp.cells H d.sv d.stops ∧ (∀ s ∈ d.stops, s.In H) ∧ d.stops.length < 1000000000
def Rk.In (H : Heap) (r : Rk) : Prop := Sl 1 (one I) H r.wv r.wind ∧ r.wind.length < 1000000000
def Org.In (H : Heap) (o : Org) : Prop := Sl 6 Rk.cells H o.rv o.ranks ∧ (∀ r ∈ o.ranks, r.In H) ∧ Sl 5 Dvn.cells H o.dv o.dvs ∧ (∀ d ∈ o.dvs, d.In H) ∧ Sl 5 Cpl.cells H o.cv o.cpls ∧ o.ranks.length < 1000000000 ∧ o.dvs.length < 1000000000 ∧ o.cpls.length < 1000000000
section
variable {H0 : Heap} {os : List Ob}
theorem Seg.In.ab {s : Seg} (h : s.In H0) (hS : St P H0 H os) : s.In H := ⟨hS.sl h.1, h.2⟩
theorem Stp.In.ab {s : Stp} (h : s.In H0) (hS : St P H0 H os) : s.In H := ⟨hS.sl h.1, fun g hg => (h.2.1 g hg).ab hS, h.2.2⟩
theorem Dvn.In.ab {d : Dvn} (h : d.In H0) (hS : St P H0 H os) : d.In H := ⟨hS.sl h.1, fun g hg => (h.2.1 g hg).ab hS, h.2.2⟩
theorem Rk.In.ab {r : Rk} (h : r.In H0) (hS : St P H0 H os) : r.In H := ⟨hS.sl h.1, h.2⟩
theorem Org.In.ab {o : Org} (h : o.In H0) (hS : St P H0 H os) : o.In H := ⟨hS.sl h.1, fun r hr => (h.2.1 r hr).ab hS, hS.sl h.2.2.1, fun d hd => (h.2.2.2.1 d hd).ab hS, hS.sl h.2.2.2.2.1, h.2.2.2.2.2⟩
end
def c2q (n : Int) : Prop := -9223372036854775808 ≤ n ∧ n < 9223372036854775808
end Go.Ds
namespace Go.Ds
open Go.Proofs Go.Proofs.Tryz
variable {H : Heap}
def pY (b : Int) : Bool := (decide (65 ≤ b) && decide (b ≤ 90)) || (decide (97 ≤ b) && decide (b ≤ 122))
theorem a3R (b : Int) : Fn prog 104 [.int .u8 b] H fun r H' => r = .bool (pY b) ∧ St prog H H' [] := by
 refine .aY func104 rfl (by kernel_rfl) (m := 17) rfl fun l hn g0 => ?_
 simp (disch := omega) only [↓RA, RZ, simprocAttr, hn, g0]
 refine jV (fun h1 => ?_) (fun h1 => ?_)
 ·simp (disch := omega) only [↓RA, RZ, simprocAttr, hn, g0, h1]
  refine iO (fun h2 => ?_) (fun h2 => ?_)
  ·simp (disch := omega) only [↓RA, RZ, simprocAttr, hn, a6z, h1, h2]
   first | exact (sR H) | exact ⟨by simp [pY, h1, h2], (sR H)⟩
  simp (disch := omega) only [↓RA, RZ, simprocAttr, hn, g0, h1, h2]
  refine jV (fun h3 => ?_) (fun h3 => ?_)
  ·simp (disch := omega) only [↓RA, RZ, simprocAttr, hn, g0, a6z, h1, h2, h3]
   first | exact (sR H) | exact ⟨by simp [pY, h1, h2, h3], (sR H)⟩
  simp (disch := omega) only [↓RA, RZ, simprocAttr, hn, a6z, h1, h2, h3]
  first | exact (sR H) | exact ⟨by simp [pY, h1, h2, h3], (sR H)⟩
 simp (disch := omega) only [↓RA, RZ, simprocAttr, hn, g0, h1]
 refine jV (fun h4 => ?_) (fun h4 => ?_)
 ·simp (disch := omega) only [↓RA, RZ, simprocAttr, hn, g0, a6z, h1, h4]
  first | exact (sR H) | exact ⟨by simp [pY, h1, h4], (sR H)⟩
 simp (disch := omega) only [↓RA, RZ, simprocAttr, hn, a6z, h1, h4]
 first | exact (sR H) | exact ⟨by simp [pY, h1, h4], (sR H)⟩
theorem b3F (b : Int) : Fn prog 106 [I b] H fun r H' => r = .bool (decide (-256 ≤ b) && decide (b ≤ 256)) ∧ St prog H H' [] := by
 refine .aY func106 rfl (by kernel_rfl) (m := 9) rfl fun l hn g0 => ?_
 simp (disch := omega) only [↓RA, RZ, simprocAttr, hn, g0]
 refine jV (fun h1 => ?_) (fun h1 => ?_)
 ·simp (disch := omega) only [↓RA, RZ, simprocAttr, hn, g0, b9m, h1]
  first | exact (sR H) | exact ⟨by simp [h1], (sR H)⟩
 simp (disch := omega) only [↓RA, RZ, simprocAttr, hn, b9m, h1]
 first | exact (sR H) | exact ⟨by simp [], (sR H)⟩
theorem b4r (b : Int) : Fn prog 144 [I b] H fun r H' => r = .bool (decide (b < 0) || decide (1000000 < b)) ∧ St prog H H' [] := by
 refine .aY func144 rfl (by kernel_rfl) (m := 9) rfl fun l hn g0 => ?_
 simp (disch := omega) only [↓RA, RZ, simprocAttr, hn, g0]
 refine iO (fun h1 => ?_) (fun h1 => ?_)
 ·simp (disch := omega) only [↓RA, RZ, simprocAttr, hn, b9y, h1]
  first | exact (sR H) | exact ⟨by simp [], (sR H)⟩
 simp (disch := omega) only [↓RA, RZ, simprocAttr, hn, g0, b9y, h1]
 first | exact (sR H) | exact ⟨by simp [], (sR H)⟩
theorem a4T (n : Int) (h : -9223372036854775808 ≤ n) (h0 : n < 0) : IntKind.wrap .u64 (0 - IntKind.wrap .u64 n) = n.natAbs := by
 have e : ∀ m : Int, IntKind.wrap .u64 m = m % 18446744073709551616 := fun m => by
  show (if (false && decide (m % 18446744073709551616 ≥ 9223372036854775808)) = true then m % 18446744073709551616 - 18446744073709551616 else m % 18446744073709551616) = _
  simp
 rw [e, e]
 omega
theorem a4N (n : Int) (hn0 : c2q n) : Fn prog 191 [I n] H fun r H' => r = .int .u64 n.natAbs ∧ St prog H H' [] := by
 refine .aY func191 rfl (by kernel_rfl) (m := 10) rfl fun l hn g0 => ?_
 simp (disch := omega) only [↓RA, RB, simprocAttr, hn, g0]
 refine gZ (fun h => ?_) (fun h => ?_)
 ·simp (disch := omega) only [↓RA, RZ, simprocAttr, hn, g0, b8L, h]
  exact ⟨by rw [a4T n hn0.1 h], (sR H)⟩
 simp (disch := omega) only [↓RA, RZ, simprocAttr, hn, g0, b8L, h]
 refine ⟨?_, (sR H)⟩
 have := hn0.2
 rw [rP n (by omega) (by omega)]
 congr 1
 omega
theorem c0L (a b : Nat) (ha : a < 18446744073709551616) (hb : b < 18446744073709551616) : Fn prog 190 [.int .u64 a, .int .u64 b] H fun r H' => r = .int .u64 (Nat.gcd a b) ∧ St prog H H' [] := by
 refine .aC func190 rfl (by kernel_rfl) (m := 12) rfl fun l hn g0 g1 => ?_
 simp (disch := omega) only [↓RA, RB, simprocAttr]
 refine Wp.al (fun n l H' => l.length = 12 ∧ get l 4 = (.int .u64 0) ∧ ∃ (x y : Nat), (n = y ∧ x < 18446744073709551616 ∧ y < 18446744073709551616 ∧ Nat.gcd a b = Nat.gcd x y) ∧ get l 0 = (.int .u64 x) ∧ get l 1 = (.int .u64 y) ∧ St prog H H' []) b ?_ ?_
 ·simp (disch := omega) only [RB, RC, simprocAttr, hn, g0, g1]
  exact ⟨a, b, ⟨rfl, ha, hb, rfl⟩, rfl, rfl, (sR H)⟩
 rintro n l H1 ⟨hn, g4, x, y, ⟨hy,hx1,hy1,hg⟩, g0, g1, hS1⟩
 simp (disch := omega) only [↓RA, RB, simprocAttr, hn, g1]
 refine gZ (fun h => ?_) (fun h => ?_)
 ·simp (disch := omega) only [↓RA, RC, simprocAttr, h]
  refine Wp.drw kC (by kernel_rfl) ?_
  simp (disch := omega) only [↓RA, RZ, simprocAttr, hn, g4, g0, g1]
  refine ⟨x % y, ?_, y, x % y, ⟨rfl, hy1, ?_, ?_⟩, rfl, ?_, hS1⟩
  ·rw [hy]; exact eU _ (by omega)
  ·exact dM (eU _ (by omega)) (by omega)
  ·rw [hg, Nat.gcd_comm x y, Nat.gcd_rec]
   exact Nat.gcd_comm _ _
  ·rw [eH]
 simp (disch := omega) only [↓RA, RZ, simprocAttr, hn, g0, c3o, h]
 have h0 : y = 0 := by omega
 subst h0
 exact ⟨by rw [hg, Nat.gcd_zero_right], hS1⟩
theorem b7a (a b : Int) (ha0 : 0 ≤ a) (ha : a < 18446744073709551616) (hb0 : 0 ≤ b) (hb : b < 18446744073709551616) : Fn prog 190 [.int .u64 a, .int .u64 b] H fun r H' => r = .int .u64 (Nat.gcd a.toNat b.toNat) ∧ St prog H H' [] := by
 have := c0L (H := H) a.toNat b.toNat (by omega) (by omega)
 rwa [eY ha0, eY hb0] at this
def vG (num den : Int) : Int := if 0 < den ∧ den ≤ 1000000 ∧ -1000000 ≤ num ∧ num ≤ 1000000 ∧ Nat.gcd num.natAbs den.toNat = 1 then 0 else 2
theorem b7A (num den : Int) : Fn prog 142 [.agg #[I num, I den]] H fun r H' => r = I (vG num den) ∧ St prog H H' [] := by
 refine .aY func142 rfl (by kernel_rfl) (m := 31) rfl fun l hn g0 => ?_
 simp (disch := omega) only [↓RA, RB, simprocAttr, g0]
 refine (sR H).eNew 2 [I num, I den] rfl rfl rfl yQ fun A1 H1 hS1 => ?_
 simp only [RT] at hS1
 simp (disch := omega) only [↓RA, RB, simprocAttr]
 refine Wp.aQ kC [(23, 0), (24, 0)] (by kernel_rfl) (by kernel_rfl) ?_
 simp (disch := omega) only [↓RA, RZ, simprocAttr, hn, hS1.ld 0 rfl]
 refine iO (fun h1 => ?_) (fun h1 => ?_)
 ·simp (disch := omega) only [↓RA, RZ, simprocAttr, hn, a3B, h1]
  refine ⟨?_, hS1.forget⟩; unfold vG; (repeat' split); all_goals first | rfl | omega
 simp (disch := omega) only [↓RA, RZ, simprocAttr, hn, hS1.ld 0 rfl, h1]
 refine iO (fun h2 => ?_) (fun h2 => ?_)
 ·simp (disch := omega) only [↓RA, RZ, simprocAttr, hn, a3B, h1, h2]
  refine ⟨?_, hS1.forget⟩; unfold vG; (repeat' split); all_goals first | rfl | omega
 simp (disch := omega) only [↓RA, RZ, simprocAttr, hn, hS1.ld 0 rfl, h1, h2]
 refine iO (fun h3 => ?_) (fun h3 => ?_)
 ·simp (disch := omega) only [↓RA, RZ, simprocAttr, hn, a3B, h1, h2, h3]
  refine ⟨?_, hS1.forget⟩; unfold vG; (repeat' split); all_goals first | rfl | omega
 simp (disch := omega) only [↓RA, RZ, simprocAttr, hn, hS1.ld 0 rfl, h1, h2, h3]
 refine iO (fun h4 => ?_) (fun h4 => ?_)
 ·simp (disch := omega) only [↓RA, RZ, simprocAttr, hn, a3B, h1, h2, h3, h4]
  refine ⟨?_, hS1.forget⟩; unfold vG; (repeat' split); all_goals first | rfl | omega
 simp (disch := omega) only [↓RA, RZ, simprocAttr, hn, hS1.ld 0 rfl, h1, h2, h3, h4]
 refine hS1.cF (a4N num ⟨by omega, by omega⟩) fun H2 hS2 => ?_
 simp (disch := omega) only [↓RA, RZ, simprocAttr, hn, hS2.ld 0 rfl, h1, h2, h3, h4]
 refine hS2.cF (b7a _ _ (by omega) (by omega) (by omega) (by omega)) fun H3 hS3 => ?_
 simp (disch := omega) only [↓RA, RZ, simprocAttr, hn, hS1.ld 0 rfl, h1, h2, h3, h4]
 refine gZ (fun h5 => ?_) (fun h5 => ?_)
 ·simp (disch := omega) only [↓RA, RZ, simprocAttr, hn, a3B, h1, h2, h3, h4, h5]
  refine ⟨?_, hS3.forget⟩; unfold vG; (repeat' split); all_goals first | rfl | omega
 simp (disch := omega) only [↓RA, RZ, simprocAttr, hn, a3B, h1, h2, h3, h4, h5]
 refine ⟨?_, hS3.forget⟩; unfold vG; (repeat' split); all_goals first | rfl | omega
def mZ (num den : Int) : Int := if vG num den ≠ 0 then 2 else if num ≤ 0 ∨ 128 * den < num then 3 else if 128 < den then 4 else 0
theorem b5E {num den : Int} (h : vG num den = 0) : 0 < den ∧ den ≤ 1000000 ∧ -1000000 ≤ num ∧ num ≤ 1000000 ∧ Nat.gcd num.natAbs den.toNat = 1 := by
 unfold vG at h
 split at h
 ·assumption
 ·cases h
theorem a0N (num den : Int) : Fn prog 105 [.agg #[I num, I den]] H fun r H' => r = I (mZ num den) ∧ St prog H H' [] := by
 refine .aY func105 rfl (by kernel_rfl) (m := 23) rfl fun l hn g0 => ?_
 simp (disch := omega) only [↓RA, RB, simprocAttr, g0]
 refine (sR H).eNew 2 [I num, I den] rfl rfl rfl yQ fun A1 H1 hS1 => ?_
 simp only [RT] at hS1
 simp (disch := omega) only [↓RA, RZ, simprocAttr, hn, hS1.ae 0 rfl]
 refine hS1.cF (b7A num den) fun H2 hS2 => ?_
 simp (disch := omega) only [↓RA, RB, simprocAttr, hn]
 refine gZ (fun h => ?_) (fun h => ?_)
 ·simp (disch := omega) only [↓RA, RZ, simprocAttr, hn, a6R, h]
  exact ⟨by rw [mZ, if_pos h], hS2.forget⟩
 have hf := b5E (dC.1 h)
 simp (disch := omega) only [↓RA, RZ, simprocAttr, hn, hS2.ld 0 rfl, h]
 refine iO (fun h1 => ?_) (fun h1 => ?_)
 ·simp (disch := omega) only [↓RA, RZ, simprocAttr, hn, a6R, h, h1]
  refine ⟨?_, hS2.forget⟩; unfold mZ; (repeat' split); all_goals first | rfl | omega
 simp (disch := omega) only [↓RA, RZ, simprocAttr, hn, hS2.ld 0 rfl, h, h1]
 refine gZ (fun h2 => ?_) (fun h2 => ?_)
 ·simp (disch := omega) only [↓RA, RZ, simprocAttr, hn, a6R, h, h1, h2]
  refine ⟨?_, hS2.forget⟩; unfold mZ; (repeat' split); all_goals first | rfl | omega
 simp (disch := omega) only [↓RA, RZ, simprocAttr, hn, hS2.ld 0 rfl, h, h1, h2]
 refine gZ (fun h3 => ?_) (fun h3 => ?_)
 ·simp (disch := omega) only [↓RA, RZ, simprocAttr, hn, a6R, h, h1, h2, h3]
  refine ⟨?_, hS2.forget⟩; unfold mZ; (repeat' split); all_goals first | rfl | omega
 simp (disch := omega) only [↓RA, RZ, simprocAttr, hn, a6R, h, h1, h2, h3]
 refine ⟨?_, hS2.forget⟩; unfold mZ; (repeat' split); all_goals first | rfl | omega
def mW (p : Nat → Bool) (n : Nat) : Int := match (List.range n).find? p with | some j => j | none => -1
theorem vJ (p : Nat → Bool) (n i : Nat) (hi : i < n) (hp : p i = true) (h0 : ∀ j, j < i → p j = false) : (List.range n).find? p = some i := by
 rw [List.find?_eq_some_iff_getElem]
 refine ⟨hp, i, by simpa using hi, by simp, fun j hj => by simp [h0 j hj]⟩
theorem uR (p : Nat → Bool) (n i : Nat) (hi : i < n) (hp : p i = true) (h0 : ∀ j, j < i → p j = false) : mW p n = i := by
 unfold mW
 rw [vJ p n i hi hp h0]
theorem uM (p : Nat → Bool) (n : Nat) (h0 : ∀ j, j < n → p j = false) : mW p n = -1 := by
 unfold mW
 have : (List.range n).find? p = none := by
  rw [gN]
  intro j hj
  simp [h0 j (dI.1 hj)]
 rw [this]
theorem xK (p : Nat → Bool) (n : Nat) : (0 ≤ mW p n) ↔ ∃ j, j < n ∧ p j = true := by
 unfold mW
 cases h : (List.range n).find? p with
 | none =>
   rw [gN] at h
   simp only [dI] at h
   constructor
   ·intro hh; exact absurd hh (by decide)
   ·rintro ⟨j, hj, hp⟩; exact absurd hp (h j hj)
 | some j =>
   constructor
   ·intro _
    exact ⟨j, dI.1 (gC h), List.find?_some h⟩
   ·intro _; show (0 : Int) ≤ (j : Int); omega
theorem b7E (v : Value) (xs : List Int) (hv : Sl 1 (one I) H v xs) (hl : xs.length < 1000000000) (k : FuncId) (caps : List Value) (p : Nat → Bool)
 (hf : ∀ j H1, j < xs.length → St prog H H1 [] → Fn prog k (I (iA xs j) :: caps) H1 fun r H2 => r = .bool (p j) ∧ St prog H1 H2 []) :
 Fn prog 192 [v, .func (.func k) #[] caps.toArray] H fun r H' => r = I (mW p xs.length) ∧ St prog H H' [] := by
 refine .aC func192 rfl (by kernel_rfl) (m := 19) rfl fun l hn g0 g1 => ?_
 simp (disch := omega) only [↓RA, RZ, simprocAttr, hn, g0, ((sR H).sl hv).len]
 refine Wp.al (fun n l H' => l.length = 19 ∧ get l 0 = v ∧ get l 1 = .func (.func k) #[] caps.toArray ∧ get l 7 = I xs.length ∧ ∃ (j : Nat), (n + j = xs.length ∧ ∀ q, q < j → p q = false) ∧ get l 8 = I j ∧ St prog H H' []) xs.length ?_ ?_
 ·simp (disch := omega) only [RB, RC, simprocAttr, hn, g0, g1]
  exact ⟨0, ⟨by omega, fun q hq => absurd hq (dK _)⟩, rfl, (sR H)⟩
 rintro n l H1 ⟨hn, g0, g1, g7, j, ⟨hi,h0⟩, g8, hS1⟩
 simp (disch := omega) only [↓RA, RB, simprocAttr, hn, g7, g8]
 refine gZ (fun h => ?_) (fun h => ?_)
 ·simp (disch := omega) only [↓RA, RZ, simprocAttr, hn, g0, g1, g8, (hS1.sl hv).idx, (hS1.sl hv).ld, one, h]
  refine hS1.cF (hf j _ (by omega) hS1) fun H2 hS2 => ?_
  simp (disch := omega) only [↓RA, RZ, simprocAttr, hn, h]
  refine jK (fun hp => ?_) (fun hp => ?_)
  ·simp (disch := omega) only [↓RA, RZ, simprocAttr, hn, b9e, h, hp]
   exact ⟨by rw [uR p xs.length j (by omega) hp h0], hS2⟩
  simp (disch := omega) only [↓RA, RZ, simprocAttr, hn, g0, g1, g7, g8, h, hp]
  exact ⟨n - 1, by omega, j + 1, ⟨by omega, fun q hq => by rcases dr.1 hq with e | e; (· exact h0 q e); (· rw [e]; exact hp)⟩, by simp, hS2⟩
 simp (disch := omega) only [↓RA, RZ, simprocAttr, hn, b9e, h]
 exact ⟨by rw [uM p xs.length fun q hq => h0 q (by omega)], hS1⟩
theorem b7m (v : Value) (xs : List Int) (hv : Sl 1 (one I) H v xs) (hl : xs.length < 1000000000) (k : FuncId) (caps : List Value) (p : Nat → Bool)
 (hf : ∀ j H1, j < xs.length → St prog H H1 [] → Fn prog k (I (iA xs j) :: caps) H1 fun r H2 => r = .bool (p j) ∧ St prog H1 H2 []) :
 Fn prog 143 [v, .func (.func k) #[] caps.toArray] H fun r H' => r = .bool (decide (0 ≤ mW p xs.length)) ∧ St prog H H' [] := by
 refine .aC func143 rfl (by kernel_rfl) (m := 9) rfl fun l hn g0 g1 => ?_
 simp (disch := omega) only [↓RA, RZ, simprocAttr, hn, g0, g1]
 refine (sR H).cF (b7E v xs hv hl k caps p hf) fun H1 hS1 => ?_
 simp (disch := omega) only [↓RA, RZ, simprocAttr, hn, c3g]
 first | exact hS1 | exact ⟨rfl, hS1⟩
def a0d (xs : List Int) : Int := if xs.any fun w => decide (w < 0) || decide (1000000 < w) then 3 else 0
theorem b5w (v : Value) (xs : List Int) (hv : Sl 1 (one I) H v xs) (hl : xs.length < 1000000000) : Fn prog 107 [v] H fun r H' => r = I (a0d xs) ∧ St prog H H' [] := by
 have key : (0 ≤ mW (fun j => decide (iA xs j < 0) || decide (1000000 < iA xs j)) xs.length) ↔ (xs.any fun w => decide (w < 0) || decide (1000000 < w)) = true := by
  rw [xK, gu]
  constructor
  ·rintro ⟨j, hj, hp⟩; exact ⟨_, iD hj, hp⟩
  ·rintro ⟨x, hx, hp⟩
   obtain ⟨j, hj, rfl⟩ := dP.1 hx
   exact ⟨j, hj, by rw [jZ xs j hj]; exact hp⟩
 refine .aY func107 rfl (by kernel_rfl) (m := 5) rfl fun l hn g0 => ?_
 simp (disch := omega) only [↓RA, RZ, simprocAttr, hn, g0]
 refine (sR H).cF (b7m v xs hv hl 144 [] _ (fun j H1 hj hS => b4r (iA xs j))) fun H1 hS1 => ?_
 simp (disch := omega) only [↓RA, RB, simprocAttr, hn]
 refine gZ (fun h => ?_) (fun h => ?_)
 ·simp (disch := omega) only [↓RA, RZ, simprocAttr, hn, b9C, h]
  exact ⟨by rw [a0d, if_pos (key.1 h)], hS1⟩
 simp (disch := omega) only [↓RA, RZ, simprocAttr, hn, b9C, h]
 exact ⟨by rw [a0d, if_neg (fun hh => h (key.2 hh))], hS1⟩
def ncF (b : Int) : Bool := pY b || (decide (48 ≤ b) && decide (b ≤ 57)) || decide (b = 95)
def kR (s : ByteArray) : Bool := decide (0 < s.size) && decide (s.size ≤ 32) && pY (oH s 0) && (List.range (s.size - 1)).all fun j => ncF (oH s (j + 1))
theorem c3D (s z : ByteArray) (hz : z.size = 0) : s = z ↔ s.size = 0 := ⟨fun h => by rw [h, hz], fun h => by
 apply a0q
 have h1 : s.data.toList = [] := eZ (by simpa using h)
 have h2 : z.data.toList = [] := eZ (by simpa using hz)
 rw [h1, h2]⟩
theorem qA (s : ByteArray) : Fn prog 55 [.string s] H fun r H' => r = .bool (kR s) ∧ St prog H H' [] := by
 have hz := c3D s { data := #[] } rfl
 refine .aY func55 rfl (by kernel_rfl) (m := 42) rfl fun l hn g0 => ?_
 simp (disch := omega) only [↓RA, RZ, simprocAttr, hn, g0, hz]
 refine iO (fun h1 => ?_) (fun h1 => ?_)
 ·simp (disch := omega) only [↓RA, RZ, simprocAttr, hn, b2q, h1]
  first | exact (sR H) | exact ⟨by simp [kR, h1], (sR H)⟩
 simp (disch := omega) only [↓RA, RZ, simprocAttr, hn, g0, h1]
 refine iO (fun h2 => ?_) (fun h2 => ?_)
 ·simp (disch := omega) only [↓RA, RZ, simprocAttr, hn, b2q, h1, h2]
  first | exact (sR H) | exact ⟨by simp [kR, show ¬ s.size ≤ 32 by omega], (sR H)⟩
 simp (disch := omega) only [↓RA, RZ, simprocAttr, hn, g0, h1, h2]
 refine (sR H).cF (a3R _) fun H1 hS1 => ?_
 simp (disch := omega) only [↓RA, RZ, simprocAttr, hn, h1, h2]
 refine jK (fun h3 => ?_) (fun h3 => ?_)
 ·simp (disch := omega) only [↓RA, RZ, simprocAttr, hn, b2q, h1, h2, h3]
  first | exact hS1 | exact ⟨by simp at h3; simp [kR, h3], hS1⟩
 simp (disch := omega) only [↓RA, RZ, simprocAttr, h1, h2, h3]
 have h4 : pY (oH s 0) = true := by simpa using h3
 have hA : kR s = (List.range (s.size - 1)).all fun j => ncF (oH s (j + 1)) := by simp [kR, h4, show 0 < s.size by omega, show s.size ≤ 32 by omega]
 refine Wp.al (fun n l H' => l.length = 42 ∧ get l 0 = (.string s) ∧ ∃ (i : Nat), (n + i = s.size ∧ 1 ≤ i ∧ ∀ j, 1 ≤ j → j < i → ncF (oH s j) = true) ∧ get l 3 = I i ∧ St prog H H' []) (s.size - 1) ?_ ?_
 ·simp (disch := omega) only [RB, RC, simprocAttr, hn, g0]
  exact ⟨1, ⟨by omega, by omega, fun j h1 h2 => by omega⟩, rfl, hS1⟩
 rintro n l H2 ⟨hn, g0, i, ⟨hi,hi1,h0⟩, g3, hS2⟩
 simp (disch := omega) only [↓RA, RZ, simprocAttr, hn, g0, g3]
 refine gZ (fun h5 => ?_) (fun h5 => ?_)
 ·simp (disch := omega) only [↓RA, RZ, simprocAttr, hn, g0, g3, h5]
  refine hS2.cF (a3R _) fun H3 hS3 => ?_
  have hF : ncF (oH s i) = false → kR s = false := fun hh => by
   rw [hA, List.all_eq_false]
   exact ⟨i - 1, dI.2 (by omega), by rw [show i - 1 + 1 = i by omega, hh]; simp⟩
  have hT : ncF (oH s i) = true → ∀ j, 1 ≤ j → j < i + 1 → ncF (oH s j) = true := fun hh j h1 h2 => by
   by_cases e : j = i
   ·rw [e]; exact hh
   ·exact h0 j h1 (by omega)
  simp (disch := omega) only [↓RA, RZ, simprocAttr, hn, h5]
  refine zO (fun h1 => ?_) (fun h1 => ?_)
  ·simp (disch := omega) only [↓RA, RZ, simprocAttr, hn, h5, h1]
   refine iO (fun h2 => ?_) (fun h2 => ?_)
   ·simp (disch := omega) only [↓RA, RZ, simprocAttr, hn, h5, h1, h2]
    refine gZ (fun h3 => ?_) (fun h3 => ?_)
    ·simp (disch := omega) only [↓RA, RZ, simprocAttr, hn, b2q, h5, h1, h2, h3]
     exact ⟨by rw [hF (by simp_all [ncF] <;> omega)], hS3⟩
    simp (disch := omega) only [↓RA, RZ, simprocAttr, hn, g0, g3, h5, h1, h2, h3]
    exact ⟨n - 1, by omega, i + 1, ⟨by omega, by omega, hT (by simp_all [ncF] <;> omega)⟩, by simp, hS3⟩
   simp (disch := omega) only [↓RA, RZ, simprocAttr, hn, h5, h1, h2]
   refine jV (fun h4 => ?_) (fun h4 => ?_)
   ·simp (disch := omega) only [↓RA, RZ, simprocAttr, hn, h5, h1, h2, h4]
    refine gZ (fun h5 => ?_) (fun h5 => ?_)
    ·simp (disch := omega) only [↓RA, RZ, simprocAttr, hn, b2q, h1, h2, h4, h5]
     exact ⟨by rw [hF (by simp_all [ncF] <;> omega)], hS3⟩
    simp (disch := omega) only [↓RA, RZ, simprocAttr, hn, g0, g3, h1, h2, h4, h5]
    exact ⟨n - 1, by omega, i + 1, ⟨by omega, by omega, hT (by simp_all [ncF] <;> omega)⟩, by simp, hS3⟩
   simp (disch := omega) only [↓RA, RZ, simprocAttr, hn, g0, g3, h5, h1, h2, h4]
   exact ⟨n - 1, by omega, i + 1, ⟨by omega, by omega, hT (by simp_all [ncF] <;> omega)⟩, by simp, hS3⟩
  simp (disch := omega) only [↓RA, RZ, simprocAttr, hn, g0, g3, h5, h1]
  exact ⟨n - 1, by omega, i + 1, ⟨by omega, by omega, hT (by simp_all [ncF] <;> omega)⟩, by simp, hS3⟩
 simp (disch := omega) only [↓RA, RZ, simprocAttr, hn, b2q, h5]
 refine ⟨?_, hS2⟩
 rw [hA]
 congr 1
 symm
 rw [dw]
 intro j hj
 exact h0 (j + 1) (by omega) (by have := dI.1 hj; omega)
def rankE (r : Rk) : Int := if kR r.name = false ∨ kR r.tone = false then 8 else if mZ r.num r.den ≠ 0 then mZ r.num r.den else if ¬ (-256 ≤ r.first ∧ r.first ≤ 256) then 3 else if r.wind.length = 0 then 13 else if 128 < r.wind.length then 4 else a0d r.wind
theorem a9Q (r : Rk) (hr : r.In H) : Fn prog 56 [.agg #[.string r.name, .string r.tone, I r.num, I r.den, I r.first, r.wv]] H fun v H' => v = I (rankE r) ∧ St prog H H' [] := by
 have hl := hr.2
 refine .aY func56 rfl (by kernel_rfl) (m := 38) rfl fun l hn g0 => ?_
 simp (disch := omega) only [↓RA, RB, simprocAttr, g0]
 refine (sR H).eNew 6 [(.string r.name), (.string r.tone), I r.num, I r.den, I r.first, r.wv] rfl rfl (by simp [OC, ((sR H).sl hr.1).cells.2.1]) a2B fun A1 H1 hS1 => ?_
 simp only [RT] at hS1
 simp (disch := omega) only [↓RA, RZ, simprocAttr, hn, hS1.ld 0 rfl]
 refine hS1.cF (qA _) fun H2 hS2 => ?_
 simp (disch := omega) only [↓RA, RZ, simprocAttr, hn]
 refine zO (fun h1 => ?_) (fun h1 => ?_)
 ·simp (disch := omega) only [↓RA, RZ, simprocAttr, hn, a8a, h1]
  refine ⟨?_, hS2.forget⟩; clear hS1; unfold rankE; (try simp only [dG] at *); (repeat' split); all_goals first | rfl | omega | simp_all
 simp (disch := omega) only [↓RA, RZ, simprocAttr, hn, hS2.ld 0 rfl, h1]
 refine hS2.cF (qA _) fun H3 hS3 => ?_
 simp (disch := omega) only [↓RA, RZ, simprocAttr, hn, h1]
 refine jK (fun h2 => ?_) (fun h2 => ?_)
 ·simp (disch := omega) only [↓RA, RB, simprocAttr, hn, a8a, h1, h2]
  refine ⟨?_, hS3.forget⟩; clear hS1; unfold rankE; (try simp only [dG] at *); (repeat' split); all_goals first | rfl | omega | simp_all
 simp (disch := omega) only [↓RA, RZ, simprocAttr, hn, hS3.ae 0 rfl, h1, h2]
 refine hS3.cF (a0N _ _) fun H4 hS4 => ?_
 simp (disch := omega) only [↓RA, RB, simprocAttr, hn, h1, h2]
 refine gZ (fun h3 => ?_) (fun h3 => ?_)
 ·simp (disch := omega) only [↓RA, RZ, simprocAttr, hn, a8a, h1, h2, h3]
  refine ⟨?_, hS4.forget⟩; clear hS1; unfold rankE; (try simp only [eE, dG, da, decide_eq_true_eq, gS, fB, decide_eq_false_iff_not] at *); (repeat' split); all_goals first | rfl | omega | simp_all
 simp (disch := omega) only [↓RA, RZ, simprocAttr, hn, hS4.ld 0 rfl, h1, h2, h3]
 refine hS4.cF (b3F _) fun H5 hS5 => ?_
 simp (disch := omega) only [↓RA, RZ, simprocAttr, hn, h1, h2, h3]
 refine jK (fun h4 => ?_) (fun h4 => ?_)
 ·simp (disch := omega) only [↓RA, RZ, simprocAttr, hn, a8a, h1, h2, h3, h4]
  refine ⟨?_, hS5.forget⟩; clear hS1; unfold rankE; (try simp only [dG, fB, decide_eq_false_iff_not] at *); (repeat' split); all_goals first | rfl | omega | simp_all
 simp (disch := omega) only [↓RA, RZ, simprocAttr, hn, hS5.ld 0 rfl, (hS5.sl hr.1).len, h1, h2, h3, h4]
 refine gZ (fun h5 => ?_) (fun h5 => ?_)
 ·simp (disch := omega) only [↓RA, RZ, simprocAttr, hn, a8a, h1, h2, h3, h4, h5]
  refine ⟨?_, hS5.forget⟩; clear hS1; unfold rankE; (try simp only [eE, dG, da, decide_eq_true_eq, gS, fB, decide_eq_false_iff_not] at *); (repeat' split); all_goals first | rfl | omega | simp_all
 simp (disch := omega) only [↓RA, RZ, simprocAttr, hn, hS5.ld 0 rfl, (hS5.sl hr.1).len, h1, h2, h3, h4, h5]
 refine gZ (fun h6 => ?_) (fun h6 => ?_)
 ·simp (disch := omega) only [↓RA, RZ, simprocAttr, hn, a8a, h1, h2, h3, h4, h5, h6]
  refine ⟨?_, hS5.forget⟩; clear hS1; unfold rankE; (try simp only [eE, dG, da, decide_eq_true_eq, gS, fB, decide_eq_false_iff_not] at *); (repeat' split); all_goals first | rfl | omega | simp_all
 simp (disch := omega) only [↓RA, RZ, simprocAttr, hn, hS5.ld 0 rfl, h1, h2, h3, h4, h5, h6]
 refine hS5.cF (b5w r.wv r.wind (hS5.sl hr.1) (by have := hr.2; omega)) fun H6 hS6 => ?_
 simp (disch := omega) only [↓RA, RZ, simprocAttr, hn, a8a, h1, h2, h3, h4, h5, h6]
 refine ⟨?_, hS6.forget⟩; clear hS1; unfold rankE; (try simp only [eE, dG, da, decide_eq_true_eq, gS, fB, decide_eq_false_iff_not] at *); (repeat' split); all_goals first | rfl | omega | simp_all
abbrev KS (kvs : List (ByteArray × Bool)) : List Value := kcs Value.string Value.bool kvs
def pX (kvs : List (ByteArray × Bool)) (s : ByteArray) : Bool := (pJ kvs s).getD false
theorem a1p (B : Base) (A : Nat) (kvs : List (ByteArray × Bool)) (s : ByteArray) (hS : St prog B H [⟨.map (some A), 0, KS kvs⟩]) :
 Fn prog 57 [.map (some A), .string s] H fun r H' => r = I (if pX kvs s = true then 9 else 0) ∧ ∃ kvs', (∀ t, pX kvs' t = (pX kvs t || decide (t = s))) ∧ St prog B H' [⟨.map (some A), 0, KS kvs'⟩] := by
 refine .aC func57 rfl (by kernel_rfl) (m := 10) rfl fun l hn g0 g1 => ?_
 simp (disch := omega) only [↓RA, RB, simprocAttr, hn, g0, g1]
 refine hS.bq 0 rfl a6Z (fun _ => rfl) ?_
 simp (disch := omega) only [↓RA, RB, simprocAttr, hn]
 refine jK (fun h => ?_) (fun h => ?_)
 ·simp (disch := omega) only [↓RA, RB, simprocAttr, hn, c2x, h]
  refine ⟨by simp [pX, h], kvs, fun t => ?_, hS⟩
  by_cases e : t = s
  ·subst e; simp [pX, h]
  ·simp [e]
 simp (disch := omega) only [↓RA, RB, simprocAttr, hn, g0, g1, h]
 refine hS.cg 0 rfl a6Z fun H1 hS1 => ?_
 simp only [RT] at hS1
 simp (disch := omega) only [↓RA, RB, simprocAttr, hn, c2x, h]
 refine ⟨by simp [pX, h], _, fun t => ?_, hS1⟩
 unfold pX
 rw [wU]
 by_cases e : t = s
 ·simp [e]
 ·simp [e]
def qG (lo hi : Int) : Int := if lo < 0 ∨ 127 < hi then 3 else if hi < lo then 23 else 0
theorem a0L (lo hi : Int) : Fn prog 98 [.agg #[I lo, I hi]] H fun r H' => r = I (qG lo hi) ∧ St prog H H' [] := by
 refine .aY func98 rfl (by kernel_rfl) (m := 18) rfl fun l hn g0 => ?_
 simp (disch := omega) only [↓RA, RB, simprocAttr, g0]
 refine (sR H).eNew 2 [I lo, I hi] rfl rfl rfl a0j fun A1 H1 hS1 => ?_
 simp only [RT] at hS1
 simp (disch := omega) only [↓RA, RZ, simprocAttr, hn, hS1.ld 0 rfl]
 refine iO (fun h1 => ?_) (fun h1 => ?_)
 ·simp (disch := omega) only [↓RA, RZ, simprocAttr, hn, b8H, h1]
  refine ⟨?_, hS1.forget⟩; unfold qG; (repeat' split); all_goals first | rfl | omega
 simp (disch := omega) only [↓RA, RZ, simprocAttr, hn, hS1.ld 0 rfl, h1]
 refine gZ (fun h2 => ?_) (fun h2 => ?_)
 ·simp (disch := omega) only [↓RA, RZ, simprocAttr, hn, b8H, h1, h2]
  refine ⟨?_, hS1.forget⟩; unfold qG; (repeat' split); all_goals first | rfl | omega
 simp (disch := omega) only [↓RA, RZ, simprocAttr, hn, hS1.ld 0 rfl, h1, h2]
 refine gZ (fun h3 => ?_) (fun h3 => ?_)
 ·simp (disch := omega) only [↓RA, RZ, simprocAttr, hn, b8H, h1, h2, h3]
  refine ⟨?_, hS1.forget⟩; unfold qG; (repeat' split); all_goals first | rfl | omega
 simp (disch := omega) only [↓RA, RZ, simprocAttr, hn, b8H, h1, h2, h3]
 refine ⟨?_, hS1.forget⟩; unfold qG; (repeat' split); all_goals first | rfl | omega
def lM (f : Nat → Int) (n : Nat) : Int := match (List.range n).find? (fun j => decide (f j ≠ 0)) with | some j => f j | none => 0
theorem nS (f : Nat → Int) (n i : Nat) (hi : i < n) (hp : f i ≠ 0) (h0 : ∀ j, j < i → f j = 0) : lM f n = f i := by
 unfold lM
 rw [vJ _ n i hi (by simpa using hp) (fun j hj => by simpa using h0 j hj)]
theorem kT (f : Nat → Int) (n : Nat) (h0 : ∀ j, j < n → f j = 0) : lM f n = 0 := by
 unfold lM
 have : (List.range n).find? (fun j => decide (f j ≠ 0)) = none := by
  rw [gN]
  intro j hj
  simpa using h0 j (dI.1 hj)
 rw [this]
def rW (rs : List Rk) (lo hi : Int) : Int := if 60 < rs.length then 4 else if lM (fun j => rankE (iA rs j)) rs.length ≠ 0 then lM (fun j => rankE (iA rs j)) rs.length else qG lo hi
theorem b4B (rv : Value) (rs : List Rk) (lo hi : Int) (hr : Sl 6 Rk.cells H rv rs) (hrk : ∀ r ∈ rs, r.In H) (hl : rs.length < 1000000000) :
 Fn prog 145 [.agg #[rv, I lo, I hi]] H fun v H' => v = I (rW rs lo hi) ∧ St prog H H' [] := by
 refine .aY func145 rfl (by kernel_rfl) (m := 26) rfl fun l hn g0 => ?_
 simp (disch := omega) only [↓RA, RB, simprocAttr, g0]
 refine (sR H).eNew 3 [rv, I lo, I hi] rfl rfl (by simp [OC, ((sR H).sl hr).cells.2.1]) a9J fun A1 H1 hS1 => ?_
 simp only [RT] at hS1
 simp (disch := omega) only [↓RA, RZ, simprocAttr, hn, hS1.ld 0 rfl, (hS1.sl hr).len]
 refine gZ (fun h => ?_) (fun h => ?_)
 ·simp (disch := omega) only [↓RA, RZ, simprocAttr, hn, b2T, h]
  exact ⟨by rw [rW, if_pos (by omega)], hS1.forget⟩
 simp (disch := omega) only [↓RA, RZ, simprocAttr, hn, hS1.ld 0 rfl, (hS1.sl hr).len, h]
 refine Wp.al (fun n l H' => l.length = 26 ∧ get l 1 = (ptr A1 0 3) ∧ get l 11 = rv ∧ get l 12 = I rs.length ∧ ∃ (i : Nat), (n + i = rs.length ∧ ∀ j, j < i → rankE (iA rs j) = 0) ∧ get l 13 = I i ∧ St prog H H' [⟨ptr A1 0 3, 0, [rv, I lo, I hi]⟩]) rs.length ?_ ?_
 ·simp (disch := omega) only [RB, RC, simprocAttr, hn]
  exact ⟨0, ⟨by omega, by simp⟩, rfl, hS1⟩
 rintro n l H2 ⟨hn, g1, g11, g12, i, ⟨hi1,h0⟩, g13, hS2⟩
 simp (disch := omega) only [↓RA, RB, simprocAttr, hn, g12, g13]
 refine gZ (fun h1 => ?_) (fun h1 => ?_)
 ·simp (disch := omega) only [↓RA, RZ, simprocAttr, hn, g11, g13, (hS2.sl hr).idx, (hS2.sl hr).ae, Rk.cells, h1]
  refine hS2.eNew 6 [(.string ⟨#[]⟩), (.string ⟨#[]⟩), I 0, I 0, I 0, (.slice none 0 0)] rfl rfl rfl a2B fun A2 H3 hS3 => ?_
  simp only [RT] at hS3
  simp (disch := omega) only [↓RA, RZ, simprocAttr, hn, h1]
  refine hS3.aa 1 rfl [(.string (iA rs i).name), (.string (iA rs i).tone), I (iA rs i).num, I (iA rs i).den, I (iA rs i).first, (iA rs i).wv] rfl (by simp [OC, (hS3.sl (hrk (iA rs i) (iD (by omega))).1).cells.2.1]) a2B (by simp) fun H4 hS4 => ?_
  simp only [RT] at hS4
  simp (disch := omega) only [↓RA, RZ, simprocAttr, hn, hS4.ae 1 rfl, h1]
  refine hS4.cF (a9Q (iA rs i) ((hrk _ (iD (by omega))).ab hS4)) fun H5 hS5 => ?_
  simp (disch := omega) only [↓RA, RZ, simprocAttr, hn, h1]
  refine gZ (fun h2 => ?_) (fun h2 => ?_)
  ·simp (disch := omega) only [↓RA, RZ, simprocAttr, hn, b2T, h1, h2]
   refine ⟨?_, hS5.forget⟩
   rw [rW, if_neg (by omega), nS _ rs.length i (by omega) h2 h0, if_pos h2]
  simp (disch := omega) only [↓RA, RZ, simprocAttr, hn, g1, g11, g12, g13, h1, h2]
  exact ⟨n - 1, by omega, i + 1, ⟨by omega, fun j hj => by rcases dr.1 hj with e | e; (· exact h0 j e); (· rw [e]; exact dC.1 h2)⟩, by simp, hS5.sub (by simp)⟩
 simp (disch := omega) only [↓RA, RZ, simprocAttr, hn, g1, hS2.ae 0 rfl, h1]
 refine hS2.cF (a0L lo hi) fun H6 hS6 => ?_
 simp (disch := omega) only [↓RA, RZ, simprocAttr, hn, b2T, h1]
 refine ⟨?_, hS6.forget⟩
 have e := kT (fun j => rankE (iA rs j)) rs.length fun j hj => h0 j (by omega)
 rw [rW, if_neg (by omega), if_neg (by rw [e]; simp)]
theorem Drw.eq (a b : Drw) : (a.rank = b.rank ∧ a.shift = b.shift) ↔ b = a := by
 cases a; cases b; simp [eq_comm]
theorem b2b (v : Value) (xs : List Drw) (hv : Sl 2 Drw.cells H v xs) (hl : xs.length < 1000000000) (d : Drw) :
 Fn prog 231 [v, .agg #[I d.rank, I d.shift]] H fun r H' => r = I (mW (fun j => decide (iA xs j = d)) xs.length) ∧ St prog H H' [] := by
 refine .aC func231 rfl (by kernel_rfl) (m := 19) rfl fun l hn g0 g1 => ?_
 simp (disch := omega) only [↓RA, RB, simprocAttr, g1]
 refine (sR H).eNew 2 [I d.rank, I d.shift] rfl rfl rfl a0g fun A1 H1 hS1 => ?_
 simp only [RT] at hS1
 simp (disch := omega) only [↓RA, RZ, simprocAttr, hn, g0, (hS1.sl hv).len]
 refine Wp.al (fun n l H' => l.length = 19 ∧ get l 0 = v ∧ get l 3 = (ptr A1 0 2) ∧ get l 7 = I xs.length ∧ ∃ (j : Nat), (n + j = xs.length ∧ ∀ q, q < j → decide (iA xs q = d) = false) ∧ get l 8 = I j ∧ St prog H H' [⟨ptr A1 0 2, 0, [I d.rank, I d.shift]⟩]) xs.length ?_ ?_
 ·simp (disch := omega) only [RB, RC, simprocAttr, hn, g0]
  exact ⟨0, ⟨by omega, fun q hq => absurd hq (dK _)⟩, rfl, hS1⟩
 rintro n l H2 ⟨hn, g0, g3, g7, j, ⟨hi,h0⟩, g8, hS2⟩
 simp (disch := omega) only [↓RA, RB, simprocAttr, hn, g7, g8]
 refine gZ (fun h => ?_) (fun h => ?_)
 ·simp (disch := omega) only [↓RA, RZ, simprocAttr, hn, g8, h]
  refine Wp.drw kC (by kernel_rfl) ?_
  simp (disch := omega) only [↓RA, RZ, simprocAttr, hn, g0, g3, hS2.ae 0 rfl, (hS2.sl hv).idx, (hS2.sl hv).ae, Drw.cells]
  refine gZ (fun hp => ?_) (fun hp => ?_)
  ·simp (disch := omega) only [↓RA, RZ, simprocAttr, hn, b9d, hp]
   exact ⟨by rw [uR _ xs.length j (by omega) (by simpa using (Drw.eq _ _).1 hp) h0], hS2.forget⟩
  simp (disch := omega) only [↓RA, RZ, simprocAttr, hn, g0, g3, g7, g8, hp]
  exact ⟨n - 1, by omega, j + 1, ⟨by omega, fun q hq => by rcases dr.1 hq with e | e; (· exact h0 q e); (· rw [e]; simpa using fun hh => hp ((Drw.eq _ _).2 hh))⟩, by simp, hS2⟩
 simp (disch := omega) only [↓RA, RZ, simprocAttr, hn, b9d, h]
 exact ⟨by rw [uM _ xs.length fun q hq => h0 q (by omega)], hS2.forget⟩
theorem b7o (v : Value) (xs : List Drw) (hv : Sl 2 Drw.cells H v xs) (hl : xs.length < 1000000000) (d : Drw) :
 Fn prog 193 [v, .agg #[I d.rank, I d.shift]] H fun r H' => r = .bool (decide (d ∈ xs)) ∧ St prog H H' [] := by
 have e : decide (0 ≤ mW (fun j => decide (iA xs j = d)) xs.length) = decide (d ∈ xs) := by
  rw [eD, decide_eq_true_iff, decide_eq_true_iff, xK]
  constructor
  ·rintro ⟨j, hj, hp⟩
   rw [← of_decide_eq_true hp]; exact iD hj
  ·intro hx
   obtain ⟨j, hj, rfl⟩ := dP.1 hx
   exact ⟨j, hj, by rw [jZ xs j hj]; simp⟩
 refine .aC func193 rfl (by kernel_rfl) (m := 9) rfl fun l hn g0 g1 => ?_
 simp (disch := omega) only [↓RA, RB, simprocAttr, g1]
 refine (sR H).eNew 2 [I d.rank, I d.shift] rfl rfl rfl a0g fun A1 H1 hS1 => ?_
 simp only [RT] at hS1
 simp (disch := omega) only [↓RA, RZ, simprocAttr, hn, g0, hS1.ae 0 rfl]
 refine hS1.cF (b2b v xs (hS1.sl hv) hl d) fun H2 hS2 => ?_
 simp (disch := omega) only [↓RA, RB, simprocAttr, hn, c2K]
 rw [← e]
 first | exact hS2.forget | exact ⟨rfl, hS2.forget⟩
def kL (m : Nat) (l : List Drw) (j : Nat) : Int := if (iA l j).rank < 0 ∨ m ≤ (iA l j).rank then 10 else if (iA l j).shift < -127 ∨ 127 < (iA l j).shift then 3 else if iA l j ∈ l.take j then 9 else 0
def lF (m : Nat) (l : List Drw) : Int := if 8 < l.length then 4 else lM (kL m l) l.length
theorem a7p (rv : Value) (rs : List Rk) (lo hi : Int) (hr : Sl 6 Rk.cells H rv rs) (hl : rs.length < 1000000000) (dv : Value) (ds : List Drw) (hd : Sl 2 Drw.cells H dv ds) (hl2 : ds.length < 1000000000) :
 Fn prog 146 [.agg #[rv, I lo, I hi], dv] H fun v H' => v = I (lF rs.length ds) ∧ St prog H H' [] := by
 refine .aC func146 rfl (by kernel_rfl) (m := 45) rfl fun l hn g0 g1 => ?_
 simp (disch := omega) only [↓RA, RB, simprocAttr, g0]
 refine (sR H).eNew 3 [rv, I lo, I hi] rfl rfl (by simp [OC, ((sR H).sl hr).cells.2.1]) a9J fun A1 H1 hS1 => ?_
 simp only [RT] at hS1
 simp (disch := omega) only [↓RA, RZ, simprocAttr, hn, g1, (hS1.sl hd).len]
 refine gZ (fun h => ?_) (fun h => ?_)
 ·simp (disch := omega) only [↓RA, RZ, simprocAttr, hn, a1t, h]
  exact ⟨by rw [lF, if_pos (by omega)], hS1.forget⟩
 simp (disch := omega) only [↓RA, RZ, simprocAttr, hn, g1, (hS1.sl hd).len, h]
 refine Wp.al (fun n l H' => l.length = 45 ∧ get l 1 = dv ∧ get l 2 = (ptr A1 0 3) ∧ get l 10 = dv ∧ get l 11 = I ds.length ∧ ∃ (i : Nat), (n + i = ds.length ∧ ∀ j, j < i → kL rs.length ds j = 0) ∧ get l 12 = I i ∧ St prog H H' [⟨ptr A1 0 3, 0, [rv, I lo, I hi]⟩]) ds.length ?_ ?_
 ·simp (disch := omega) only [RB, RC, simprocAttr, hn, g1]
  exact ⟨0, ⟨by omega, by simp⟩, rfl, hS1⟩
 rintro n l H2 ⟨hn, g1, g2, yR, g11, i, ⟨hi1,h0⟩, g12, hS2⟩
 simp (disch := omega) only [↓RA, RB, simprocAttr, hn, g11, g12]
 refine gZ (fun h1 => ?_) (fun h1 => ?_)
 ·have key : kL rs.length ds i ≠ 0 → lF rs.length ds = kL rs.length ds i := fun hne => by rw [lF, if_neg (by omega), nS _ ds.length i (by omega) hne h0]
  simp (disch := omega) only [↓RA, RZ, simprocAttr, hn, yR, g12, (hS2.sl hd).idx, (hS2.sl hd).ae, Drw.cells, h1]
  refine hS2.eNew 2 [I 0, I 0] rfl rfl rfl a0g fun A2 H3 hS3 => ?_
  simp only [RT] at hS3
  simp (disch := omega) only [↓RA, RZ, simprocAttr, hn, h1]
  refine hS3.aa 1 rfl [I (iA ds i).rank, I (iA ds i).shift] rfl rfl a0g (by simp) fun H4 hS4 => ?_
  simp only [RT] at hS4
  simp (disch := omega) only [↓RA, RZ, simprocAttr, hn, hS4.ld 1 rfl, h1]
  refine iO (fun h1 => ?_) (fun h1 => ?_)
  ·simp (disch := omega) only [↓RA, RZ, simprocAttr, hn, a1t, h1]
   (first | (have e1 : kL rs.length ds i = 10 := by rw [kL, if_pos (by omega)]); exact ⟨by rw [key (by rw [e1]; decide), e1], hS4.forget⟩ | (have e1 : kL rs.length ds i = 3 := by rw [kL, if_neg (by omega), if_pos (by omega)]); exact ⟨by rw [key (by rw [e1]; decide), e1], hS4.forget⟩ | (have e1 : kL rs.length ds i = 9 := by rw [kL, if_neg (by omega), if_neg (by omega), if_pos (by simp_all)]); exact ⟨by rw [key (by rw [e1]; decide), e1], hS4.forget⟩)
  simp (disch := omega) only [↓RA, RZ, simprocAttr, hn, g2, hS4.ld 1 rfl, hS4.ld 0 rfl, (hS4.sl hr).len, h1]
  refine gZ (fun h2 => ?_) (fun h2 => ?_)
  ·simp (disch := omega) only [↓RA, RZ, simprocAttr, hn, a1t, h1, h2]
   (first | (have e1 : kL rs.length ds i = 10 := by rw [kL, if_pos (by omega)]); exact ⟨by rw [key (by rw [e1]; decide), e1], hS4.forget⟩ | (have e1 : kL rs.length ds i = 3 := by rw [kL, if_neg (by omega), if_pos (by omega)]); exact ⟨by rw [key (by rw [e1]; decide), e1], hS4.forget⟩ | (have e1 : kL rs.length ds i = 9 := by rw [kL, if_neg (by omega), if_neg (by omega), if_pos (by simp_all)]); exact ⟨by rw [key (by rw [e1]; decide), e1], hS4.forget⟩)
  simp (disch := omega) only [↓RA, RZ, simprocAttr, hn, hS4.ld 1 rfl, h1, h2]
  refine iO (fun h3 => ?_) (fun h3 => ?_)
  ·simp (disch := omega) only [↓RA, RZ, simprocAttr, hn, a1t, h1, h2, h3]
   (first | (have e1 : kL rs.length ds i = 10 := by rw [kL, if_pos (by omega)]); exact ⟨by rw [key (by rw [e1]; decide), e1], hS4.forget⟩ | (have e1 : kL rs.length ds i = 3 := by rw [kL, if_neg (by omega), if_pos (by omega)]); exact ⟨by rw [key (by rw [e1]; decide), e1], hS4.forget⟩ | (have e1 : kL rs.length ds i = 9 := by rw [kL, if_neg (by omega), if_neg (by omega), if_pos (by simp_all)]); exact ⟨by rw [key (by rw [e1]; decide), e1], hS4.forget⟩)
  simp (disch := omega) only [↓RA, RZ, simprocAttr, hn, hS4.ld 1 rfl, h1, h2, h3]
  refine gZ (fun h4 => ?_) (fun h4 => ?_)
  ·simp (disch := omega) only [↓RA, RZ, simprocAttr, hn, a1t, h1, h2, h3, h4]
   (first | (have e1 : kL rs.length ds i = 10 := by rw [kL, if_pos (by omega)]); exact ⟨by rw [key (by rw [e1]; decide), e1], hS4.forget⟩ | (have e1 : kL rs.length ds i = 3 := by rw [kL, if_neg (by omega), if_pos (by omega)]); exact ⟨by rw [key (by rw [e1]; decide), e1], hS4.forget⟩ | (have e1 : kL rs.length ds i = 9 := by rw [kL, if_neg (by omega), if_neg (by omega), if_pos (by simp_all)]); exact ⟨by rw [key (by rw [e1]; decide), e1], hS4.forget⟩)
  simp (disch := omega) only [↓RA, RZ, simprocAttr, h1, h2, h3, h4]
  refine Wp.drw kC (by kernel_rfl) ?_
  simp (disch := omega) only [↓RA, RZ, simprocAttr, hn, g1, (hS4.sl hd).aL, hS4.ae 1 rfl]
  refine hS4.cF (b7o _ (ds.take i) ((hS4.sl hd).cB i (by omega) (by omega)) (by simp; omega) (iA ds i)) fun H5 hS5 => ?_
  simp (disch := omega) only [↓RA, RB, simprocAttr, hn]
  refine gZ (fun h5 => ?_) (fun h5 => ?_)
  ·simp (disch := omega) only [↓RA, RZ, simprocAttr, hn, a1t, h5]
   (first | (have e1 : kL rs.length ds i = 10 := by rw [kL, if_pos (by omega)]); exact ⟨by rw [key (by rw [e1]; decide), e1], hS5.forget⟩ | (have e1 : kL rs.length ds i = 3 := by rw [kL, if_neg (by omega), if_pos (by omega)]); exact ⟨by rw [key (by rw [e1]; decide), e1], hS5.forget⟩ | (have e1 : kL rs.length ds i = 9 := by rw [kL, if_neg (by omega), if_neg (by omega), if_pos (by simp_all)]); exact ⟨by rw [key (by rw [e1]; decide), e1], hS5.forget⟩)
  simp (disch := omega) only [↓RA, RZ, simprocAttr, hn, g1, g2, yR, g11, g12, h5]
  have e0 : kL rs.length ds i = 0 := by rw [kL, if_neg (by omega), if_neg (by omega), if_neg (by simp_all)]
  exact ⟨n - 1, by omega, i + 1, ⟨by omega, fun j hj => by rcases dr.1 hj with e | e; (· exact h0 j e); (· rw [e]; exact e0)⟩, by simp, hS5.sub (by simp)⟩
 simp (disch := omega) only [↓RA, RZ, simprocAttr, hn, a1t, h1]
 exact ⟨by rw [lF, if_neg (by omega), kT _ _ fun j hj => h0 j (by omega)], hS2.forget⟩
def kX (lo hi : Int) (m : Nat) (gs : List Seg) (j : Nat) : Int := if min (iA gs j).lo (iA gs j).hi < lo ∨ hi < max (iA gs j).lo (iA gs j).hi then 23 else if (iA gs j).hi < (iA gs j).lo ∨ (0 < j ∧ (iA gs j).lo ≤ (iA gs (j - 1)).hi) then 6 else lF m (iA gs j).draws
def stopE (rs : List Rk) (lo hi : Int) (s : Stp) : Int := if rW rs lo hi ≠ 0 then rW rs lo hi else if kR s.name = false then 8 else if mZ s.num s.den ≠ 0 then mZ s.num s.den else if s.segs.length = 0 then 13 else if 12 < s.segs.length then 4 else lM (kX lo hi rs.length s.segs) s.segs.length
theorem b6v (rv : Value) (rs : List Rk) (lo hi : Int) (hr : Sl 6 Rk.cells H rv rs) (hrk : ∀ r ∈ rs, r.In H) (hl : rs.length < 1000000000) (s : Stp) (hs : s.In H) :
 Fn prog 108 [.agg #[rv, I lo, I hi], .agg #[.string s.name, I s.num, I s.den, s.gv]] H fun v H' => v = I (stopE rs lo hi s) ∧ St prog H H' [] := by
 have hl2 := hs.2.2
 refine .aC func108 rfl (by kernel_rfl) (m := 94) rfl fun l hn g0 g1 => ?_
 simp (disch := omega) only [↓RA, RB, simprocAttr, g0]
 refine (sR H).eNew 3 [rv, I lo, I hi] rfl rfl (by simp [OC, ((sR H).sl hr).cells.2.1]) a9J fun A1 H1 hS1 => ?_
 simp only [RT] at hS1
 simp (disch := omega) only [↓RA, RB, simprocAttr, g1]
 refine hS1.eNew 4 [(.string s.name), I s.num, I s.den, s.gv] rfl rfl (by simp [OC, (hS1.sl hs.1).cells.2.1]) mV fun A2 H2 hS2 => ?_
 simp only [RT] at hS2
 simp (disch := omega) only [↓RA, RZ, simprocAttr, hn, hS2.ae 0 rfl]
 refine hS2.cF (b4B rv rs lo hi (hS2.sl hr) (fun r h => (hrk r h).ab hS2) hl) fun H3 hS3 => ?_
 simp (disch := omega) only [↓RA, RB, simprocAttr, hn]
 refine gZ (fun p1 => ?_) (fun p1 => ?_)
 ·simp (disch := omega) only [↓RA, RZ, simprocAttr, hn, sP, p1]
  exact ⟨by rw [stopE, if_pos p1], hS3.forget⟩
 simp (disch := omega) only [↓RA, RZ, simprocAttr, hn, hS3.ld 1 rfl, p1]
 refine hS3.cF (qA s.name) fun H4 hS4 => ?_
 simp (disch := omega) only [↓RA, RZ, simprocAttr, hn, p1]
 refine jK (fun p2 => ?_) (fun p2 => ?_)
 ·simp (disch := omega) only [↓RA, RZ, simprocAttr, hn, sP, p1, p2]
  exact ⟨by rw [stopE, if_neg p1, if_pos (by simpa using p2)], hS4.forget⟩
 have p2' : ¬ kR s.name = false := by simpa using p2
 simp (disch := omega) only [↓RA, RZ, simprocAttr, hn, hS4.ae 1 rfl, p1, p2]
 refine hS4.cF (a0N s.num s.den) fun H5 hS5 => ?_
 simp (disch := omega) only [↓RA, RZ, simprocAttr, hn, p1, p2]
 refine gZ (fun p3 => ?_) (fun p3 => ?_)
 ·simp (disch := omega) only [↓RA, RZ, simprocAttr, hn, sP, p1, p2, p3]
  exact ⟨by rw [stopE, if_neg p1, if_neg p2', if_pos p3], hS5.forget⟩
 simp (disch := omega) only [↓RA, RZ, simprocAttr, hn, hS5.ld 1 rfl, (hS5.sl hs.1).len, p1, p2, p3]
 refine gZ (fun p4 => ?_) (fun p4 => ?_)
 ·simp (disch := omega) only [↓RA, RZ, simprocAttr, hn, sP, p1, p2, p3, p4]
  exact ⟨by rw [stopE, if_neg p1, if_neg p2', if_neg p3, if_pos (by omega)], hS5.forget⟩
 simp (disch := omega) only [↓RA, RZ, simprocAttr, hn, hS5.ld 1 rfl, (hS5.sl hs.1).len, p1, p2, p3, p4]
 refine gZ (fun p5 => ?_) (fun p5 => ?_)
 ·simp (disch := omega) only [↓RA, RZ, simprocAttr, hn, sP, p1, p2, p3, p4, p5]
  exact ⟨by rw [stopE, if_neg p1, if_neg p2', if_neg p3, if_neg (by omega), if_pos (by omega)], hS5.forget⟩
 have hE : stopE rs lo hi s = lM (kX lo hi rs.length s.segs) s.segs.length := by rw [stopE, if_neg p1, if_neg p2', if_neg p3, if_neg (by omega), if_neg (by omega)]
 simp (disch := omega) only [↓RA, RZ, simprocAttr, hn, hS5.ld 1 rfl, (hS5.sl hs.1).len, p1, p2, p3, p4, p5]
 refine Wp.al (fun n l H' => l.length = 94 ∧ get l 2 = (ptr A1 0 3) ∧ get l 3 = (ptr A2 0 4) ∧ get l 36 = s.gv ∧ get l 37 = I s.segs.length ∧ ∃ (i : Nat), (n + i = s.segs.length ∧ ∀ j, j < i → kX lo hi rs.length s.segs j = 0) ∧ get l 38 = I i ∧ St prog H H' [⟨ptr A1 0 3, 0, [rv, I lo, I hi]⟩, ⟨ptr A2 0 4, 0, [(.string s.name), I s.num, I s.den, s.gv]⟩]) s.segs.length ?_ ?_
 ·simp (disch := omega) only [RB, RC, simprocAttr, hn]
  exact ⟨0, ⟨by omega, by simp⟩, rfl, hS5⟩
 rintro n l H6 ⟨hn, g2, g3, g36, g37, i, ⟨hi1,h0⟩, g38, hS6⟩
 simp (disch := omega) only [↓RA, RB, simprocAttr, hn, g37, g38]
 refine gZ (fun q1 => ?_) (fun q1 => ?_)
 ·have key : kX lo hi rs.length s.segs i ≠ 0 → stopE rs lo hi s = kX lo hi rs.length s.segs i := fun hne => by rw [hE, nS _ _ i (by omega) hne h0]
  have ei : ((i : Int) - 1).toNat = i - 1 := by omega
  simp (disch := omega) only [↓RA, RZ, simprocAttr, hn, g36, g38, (hS6.sl hs.1).idx, (hS6.sl hs.1).ae, Seg.cells, q1]
  refine hS6.eNew 3 [I 0, I 0, (.slice none 0 0)] rfl rfl rfl a1n fun A3 H7 hS7 => ?_
  simp only [RT] at hS7
  simp (disch := omega) only [↓RA, RZ, simprocAttr, hn, q1]
  refine hS7.aa 2 rfl [I (iA s.segs i).lo, I (iA s.segs i).hi, (iA s.segs i).dv] rfl (by simp [OC, (hS7.sl (hs.2.1 (iA s.segs i) (iD (by omega))).1).cells.2.1]) a1n (by simp) fun H8 hS8 => ?_
  simp only [RT] at hS8
  simp (disch := omega) only [↓RA, RZ, simprocAttr, hn, g2, hS8.ld 2 rfl, hS8.ld 0 rfl, q1]
  refine iO (fun h1 => ?_) (fun h1 => ?_)
  ·simp (disch := omega) only [↓RA, RZ, simprocAttr, hn, sP, q1, h1]
   (first | (have e1 : kX lo hi rs.length s.segs i = 23 := by rw [kX, if_pos (by omega)]); exact ⟨by rw [key (by rw [e1]; decide), e1], hS8.forget⟩ | (have e1 : kX lo hi rs.length s.segs i = 6 := by rw [kX, if_neg (by omega), if_pos (by omega)]); exact ⟨by rw [key (by rw [e1]; decide), e1], hS8.forget⟩ | (have e1 : kX lo hi rs.length s.segs i = lF rs.length (iA s.segs i).draws := by rw [kX, if_neg (by omega), if_neg (by omega)]); exact ⟨by rw [key (by rw [e1]; assumption), e1], hS8.forget⟩)
  simp (disch := omega) only [↓RA, RZ, simprocAttr, hn, g2, hS8.ld 2 rfl, hS8.ld 0 rfl, q1, h1]
  refine gZ (fun h2 => ?_) (fun h2 => ?_)
  ·simp (disch := omega) only [↓RA, RZ, simprocAttr, hn, sP, q1, h1, h2]
   (first | (have e1 : kX lo hi rs.length s.segs i = 23 := by rw [kX, if_pos (by omega)]); exact ⟨by rw [key (by rw [e1]; decide), e1], hS8.forget⟩ | (have e1 : kX lo hi rs.length s.segs i = 6 := by rw [kX, if_neg (by omega), if_pos (by omega)]); exact ⟨by rw [key (by rw [e1]; decide), e1], hS8.forget⟩ | (have e1 : kX lo hi rs.length s.segs i = lF rs.length (iA s.segs i).draws := by rw [kX, if_neg (by omega), if_neg (by omega)]); exact ⟨by rw [key (by rw [e1]; assumption), e1], hS8.forget⟩)
  simp (disch := omega) only [↓RA, RZ, simprocAttr, q1, h1, h2]
  refine Wp.drw kC (by kernel_rfl) ?_
  simp (disch := omega) only [↓RA, RZ, simprocAttr, hn, hS8.ld 2 rfl]
  refine iO (fun h3 => ?_) (fun h3 => ?_)
  ·simp (disch := omega) only [↓RA, RZ, simprocAttr, hn, sP, h3]
   (first | (have e1 : kX lo hi rs.length s.segs i = 23 := by rw [kX, if_pos (by omega)]); exact ⟨by rw [key (by rw [e1]; decide), e1], hS8.forget⟩ | (have e1 : kX lo hi rs.length s.segs i = 6 := by rw [kX, if_neg (by omega), if_pos (by omega)]); exact ⟨by rw [key (by rw [e1]; decide), e1], hS8.forget⟩ | (have e1 : kX lo hi rs.length s.segs i = lF rs.length (iA s.segs i).draws := by rw [kX, if_neg (by omega), if_neg (by omega)]); exact ⟨by rw [key (by rw [e1]; assumption), e1], hS8.forget⟩)
  simp (disch := omega) only [↓RA, RZ, simprocAttr, hn, h3]
  refine jV (fun h4 => ?_) (fun h4 => ?_)
  ·simp (disch := omega) only [↓RA, RZ, simprocAttr, hn, g3, hS8.ld 2 rfl, hS8.ld 1 rfl, (hS8.sl hs.1).idx, (hS8.sl hs.1).bz, (hS8.sl hs.1).ld, Seg.cells, ei, h3, h4]
   refine gZ (fun h5 => ?_) (fun h5 => ?_)
   ·simp (disch := omega) only [↓RA, RZ, simprocAttr, hn, sP, h3, h4, h5]
    (first | (have e1 : kX lo hi rs.length s.segs i = 23 := by rw [kX, if_pos (by omega)]); exact ⟨by rw [key (by rw [e1]; decide), e1], hS8.forget⟩ | (have e1 : kX lo hi rs.length s.segs i = 6 := by rw [kX, if_neg (by omega), if_pos (by omega)]); exact ⟨by rw [key (by rw [e1]; decide), e1], hS8.forget⟩ | (have e1 : kX lo hi rs.length s.segs i = lF rs.length (iA s.segs i).draws := by rw [kX, if_neg (by omega), if_neg (by omega)]); exact ⟨by rw [key (by rw [e1]; assumption), e1], hS8.forget⟩)
   simp (disch := omega) only [↓RA, RZ, simprocAttr, hn, g2, hS8.ae 0 rfl, hS8.ld 2 rfl, h3, h4, h5]
   refine hS8.cF (a7p rv rs lo hi (hS8.sl hr) hl _ _ (hS8.sl (hs.2.1 _ (iD (by omega))).1) (hs.2.1 _ (iD (by omega))).2) fun H9 hS9 => ?_
   simp (disch := omega) only [↓RA, RZ, simprocAttr, hn, h3, h4, h5]
   refine gZ (fun h6 => ?_) (fun h6 => ?_)
   ·simp (disch := omega) only [↓RA, RZ, simprocAttr, hn, sP, h3, h4, h5, h6]
    (first | (have e1 : kX lo hi rs.length s.segs i = 23 := by rw [kX, if_pos (by omega)]); exact ⟨by rw [key (by rw [e1]; decide), e1], hS9.forget⟩ | (have e1 : kX lo hi rs.length s.segs i = 6 := by rw [kX, if_neg (by omega), if_pos (by omega)]); exact ⟨by rw [key (by rw [e1]; decide), e1], hS9.forget⟩ | (have e1 : kX lo hi rs.length s.segs i = lF rs.length (iA s.segs i).draws := by rw [kX, if_neg (by omega), if_neg (by omega)]); exact ⟨by rw [key (by rw [e1]; assumption), e1], hS9.forget⟩)
   simp (disch := omega) only [↓RA, RZ, simprocAttr, hn, g2, g3, g36, g37, g38, h3, h4, h5, h6]
   have e0 : kX lo hi rs.length s.segs i = 0 := by rw [kX, if_neg (by omega), if_neg (by omega)]; omega
   exact ⟨n - 1, by omega, i + 1, ⟨by omega, fun j hj => by rcases dr.1 hj with e | e; (· exact h0 j e); (· rw [e]; exact e0)⟩, by simp, hS9.sub (by simp)⟩
  simp (disch := omega) only [↓RA, RZ, simprocAttr, hn, g2, hS8.ae 0 rfl, hS8.ld 2 rfl, h3, h4]
  refine hS8.cF (a7p rv rs lo hi (hS8.sl hr) hl _ _ (hS8.sl (hs.2.1 _ (iD (by omega))).1) (hs.2.1 _ (iD (by omega))).2) fun H10 hS10 => ?_
  simp (disch := omega) only [↓RA, RZ, simprocAttr, hn, h3, h4]
  refine gZ (fun h7 => ?_) (fun h7 => ?_)
  ·simp (disch := omega) only [↓RA, RZ, simprocAttr, hn, sP, h3, h4, h7]
   (first | (have e1 : kX lo hi rs.length s.segs i = 23 := by rw [kX, if_pos (by omega)]); exact ⟨by rw [key (by rw [e1]; decide), e1], hS10.forget⟩ | (have e1 : kX lo hi rs.length s.segs i = 6 := by rw [kX, if_neg (by omega), if_pos (by omega)]); exact ⟨by rw [key (by rw [e1]; decide), e1], hS10.forget⟩ | (have e1 : kX lo hi rs.length s.segs i = lF rs.length (iA s.segs i).draws := by rw [kX, if_neg (by omega), if_neg (by omega)]); exact ⟨by rw [key (by rw [e1]; assumption), e1], hS10.forget⟩)
  simp (disch := omega) only [↓RA, RZ, simprocAttr, hn, g2, g3, g36, g37, g38, h3, h4, h7]
  have e0 : kX lo hi rs.length s.segs i = 0 := by rw [kX, if_neg (by omega), if_neg (by omega)]; omega
  exact ⟨n - 1, by omega, i + 1, ⟨by omega, fun j hj => by rcases dr.1 hj with e | e; (· exact h0 j e); (· rw [e]; exact e0)⟩, by simp, hS10.sub (by simp)⟩
 simp (disch := omega) only [↓RA, RZ, simprocAttr, hn, sP, q1]
 exact ⟨by rw [hE, kT _ _ fun j hj => h0 j (by omega)], hS6.forget⟩
theorem b6u (v : Value) (xs : List Cpl) (hv : Sl 5 Cpl.cells H v xs) (hl : xs.length < 1000000000) (k : FuncId) (caps : List Value) (p : Nat → Bool)
 (hf : ∀ j H1, j < xs.length → St prog H H1 [] → Fn prog k (.agg #[.string (iA xs j).name, I (iA xs j).src, I (iA xs j).dst, I (iA xs j).shift, .bool (iA xs j).thr] :: caps) H1 fun r H2 => r = .bool (p j) ∧ St prog H1 H2 []) :
 Fn prog 147 [v, .func (.func k) #[] caps.toArray] H fun r H' => r = I (mW p xs.length) ∧ St prog H H' [] := by
 refine .aC func147 rfl (by kernel_rfl) (m := 19) rfl fun l hn g0 g1 => ?_
 simp (disch := omega) only [↓RA, RZ, simprocAttr, hn, g0, ((sR H).sl hv).len]
 refine Wp.al (fun n l H' => l.length = 19 ∧ get l 0 = v ∧ get l 1 = .func (.func k) #[] caps.toArray ∧ get l 7 = I xs.length ∧ ∃ (j : Nat), (n + j = xs.length ∧ ∀ q, q < j → p q = false) ∧ get l 8 = I j ∧ St prog H H' []) xs.length ?_ ?_
 ·simp (disch := omega) only [RB, RC, simprocAttr, hn, g0, g1]
  exact ⟨0, ⟨by omega, fun q hq => absurd hq (dK _)⟩, rfl, (sR H)⟩
 rintro n l H1 ⟨hn, g0, g1, g7, j, ⟨hi,h0⟩, g8, hS1⟩
 simp (disch := omega) only [↓RA, RB, simprocAttr, hn, g7, g8]
 refine gZ (fun h => ?_) (fun h => ?_)
 ·simp (disch := omega) only [↓RA, RZ, simprocAttr, hn, g0, g1, g8, (hS1.sl hv).idx, (hS1.sl hv).ae, Cpl.cells, h]
  refine hS1.cF (hf j _ (by omega) hS1) fun H2 hS2 => ?_
  simp (disch := omega) only [↓RA, RZ, simprocAttr, hn, h]
  refine jK (fun hp => ?_) (fun hp => ?_)
  ·simp (disch := omega) only [↓RA, RZ, simprocAttr, hn, b8Q, h, hp]
   exact ⟨by rw [uR p xs.length j (by omega) hp h0], hS2⟩
  simp (disch := omega) only [↓RA, RZ, simprocAttr, hn, g0, g1, g7, g8, h, hp]
  exact ⟨n - 1, by omega, j + 1, ⟨by omega, fun q hq => by rcases dr.1 hq with e | e; (· exact h0 q e); (· rw [e]; exact hp)⟩, by simp, hS2⟩
 simp (disch := omega) only [↓RA, RZ, simprocAttr, hn, b8Q, h]
 exact ⟨by rw [uM p xs.length fun q hq => h0 q (by omega)], hS1⟩
theorem b8A (v : Value) (xs : List Cpl) (hv : Sl 5 Cpl.cells H v xs) (hl : xs.length < 1000000000) (k : FuncId) (caps : List Value) (p : Nat → Bool)
 (hf : ∀ j H1, j < xs.length → St prog H H1 [] → Fn prog k (.agg #[.string (iA xs j).name, I (iA xs j).src, I (iA xs j).dst, I (iA xs j).shift, .bool (iA xs j).thr] :: caps) H1 fun r H2 => r = .bool (p j) ∧ St prog H1 H2 []) :
 Fn prog 109 [v, .func (.func k) #[] caps.toArray] H fun r H' => r = .bool (decide (0 ≤ mW p xs.length)) ∧ St prog H H' [] := by
 refine .aC func109 rfl (by kernel_rfl) (m := 9) rfl fun l hn g0 g1 => ?_
 simp (disch := omega) only [↓RA, RZ, simprocAttr, hn, g0, g1]
 refine (sR H).cF (b6u v xs hv hl k caps p hf) fun H1 hS1 => ?_
 simp (disch := omega) only [↓RA, RZ, simprocAttr, hn, c3x]
 first | exact hS1 | exact ⟨rfl, hS1⟩
theorem a7S (c : Cpl) (A : Nat) (d : Cpl) (hA : Var H A 5 d.cells) : Fn prog 110 [.agg #[.string c.name, I c.src, I c.dst, I c.shift, .bool c.thr], ptr A 0 5] H fun r H' => r = .bool (decide (c.name = d.name)) ∧ St prog H H' [] := by
 refine .aC func110 rfl (by kernel_rfl) (m := 9) rfl fun l hn g0 g1 => ?_
 simp (disch := omega) only [↓RA, RB, simprocAttr, g0]
 refine (sR H).eNew 5 [(.string c.name), I c.src, I c.dst, I c.shift, (.bool c.thr)] rfl rfl rfl vF fun A1 H1 hS1 => ?_
 simp only [RT] at hS1
 simp (disch := omega) only [↓RA, RZ, simprocAttr, hn, g1, hS1.ld 0 rfl, (hS1.va hA).ld, c3c, Cpl.cells]
 first | exact hS1.forget | exact ⟨rfl, hS1.forget⟩
def mM (m : Nat) (cs : List Cpl) (j : Nat) : Int :=
 let c := iA cs j
 if kR c.name = false then 8 else if ∃ q, q < j ∧ (iA cs q).name = c.name then 9 else if c.src < 0 ∨ m ≤ c.src ∨ c.dst < 0 ∨ m ≤ c.dst then 10 else if c.shift < -127 ∨ 127 < c.shift then 3 else if c.src = c.dst ∧ c.shift = 0 then 7 else 0
def sN (ks : List (Int × Int)) (cs : List Cpl) : Int := if 8 < ks.length ∨ 40 < cs.length then 4 else if ∃ k ∈ ks, qG k.1 k.2 ≠ 0 then 23 else lM (mM ks.length cs) cs.length
def kpc (k : Int × Int) : List Value := [I k.1, I k.2]
theorem a5Y {α : Type} [Inhabited α] (xs : List α) (i j : Nat) (h : j < i) : iA (xs.take i) j = iA xs j := by
 unfold iA
 rw [dc, dc, dT h]
theorem a7m (kv cv : Value) (ks : List (Int × Int)) (cs : List Cpl) (hk : Sl 2 kpc H kv ks) (hc : Sl 5 Cpl.cells H cv cs) (hl : ks.length < 1000000000) (hl2 : cs.length < 1000000000) :
 Fn prog 59 [kv, cv] H fun v H' => v = I (sN ks cs) ∧ St prog H H' [] := by
 refine .aC func59 rfl (by kernel_rfl) (m := 89) rfl fun l hn g0 g1 => ?_
 simp (disch := omega) only [↓RA, RZ, simprocAttr, hn, g0, ((sR H).sl hk).len]
 refine iO (fun p1 => ?_) (fun p1 => ?_)
 ·simp (disch := omega) only [↓RA, RZ, simprocAttr, hn, zH, p1]
  exact ⟨by rw [sN, if_pos (by omega)], (sR H)⟩
 simp (disch := omega) only [↓RA, RZ, simprocAttr, hn, g1, ((sR H).sl hc).len, p1]
 refine gZ (fun p2 => ?_) (fun p2 => ?_)
 ·simp (disch := omega) only [↓RA, RZ, simprocAttr, hn, zH, p1, p2]
  exact ⟨by rw [sN, if_pos (by omega)], (sR H)⟩
 simp (disch := omega) only [↓RA, RZ, simprocAttr, hn, g0, ((sR H).sl hk).len, p1, p2]
 refine Wp.al (fun n l H' => l.length = 89 ∧ get l 0 = kv ∧ get l 1 = cv ∧ get l 17 = kv ∧ get l 18 = I ks.length ∧ ∃ (i : Nat), (n + i = ks.length ∧ ∀ j, j < i → qG (iA ks j).1 (iA ks j).2 = 0) ∧ get l 19 = I i ∧ St prog H H' []) ks.length ?_ ?_
 ·simp (disch := omega) only [RB, RC, simprocAttr, hn, g0, g1]
  exact ⟨0, ⟨by omega, by simp⟩, rfl, (sR H)⟩
 rintro n l H1 ⟨hn, g0, g1, g17, g18, i, ⟨hi1,h0⟩, g19, hS1⟩
 simp (disch := omega) only [↓RA, RB, simprocAttr, hn, g18, g19]
 refine gZ (fun p3 => ?_) (fun p3 => ?_)
 ·simp (disch := omega) only [↓RA, RZ, simprocAttr, hn, g17, g19, (hS1.sl hk).idx, (hS1.sl hk).ae, kpc, p3]
  refine hS1.eNew 2 [I 0, I 0] rfl rfl rfl a0j fun A1 H2 hS2 => ?_
  simp only [RT] at hS2
  simp (disch := omega) only [↓RA, RZ, simprocAttr, hn, p3]
  refine hS2.aa 0 rfl [I (iA ks i).1, I (iA ks i).2] rfl rfl a0j (by simp) fun H3 hS3 => ?_
  simp only [RT] at hS3
  simp (disch := omega) only [↓RA, RZ, simprocAttr, hn, hS3.ae 0 rfl, p3]
  refine hS3.cF (a0L _ _) fun H4 hS4 => ?_
  simp (disch := omega) only [↓RA, RZ, simprocAttr, hn, p3]
  refine gZ (fun p4 => ?_) (fun p4 => ?_)
  ·simp (disch := omega) only [↓RA, RZ, simprocAttr, hn, zH, p3, p4]
   exact ⟨by rw [sN, if_neg (by omega), if_pos ⟨_, iD (by omega), p4⟩], hS4.forget⟩
  simp (disch := omega) only [↓RA, RZ, simprocAttr, hn, g0, g1, g17, g18, g19, p3, p4]
  exact ⟨n - 1, by omega, i + 1, ⟨by omega, fun j hj => by rcases dr.1 hj with e | e; (· exact h0 j e); (· rw [e]; exact dC.1 p4)⟩, by simp, hS4.sub (by simp)⟩
 have hE : sN ks cs = lM (mM ks.length cs) cs.length := by
  rw [sN, if_neg (by omega), if_neg]
  rintro ⟨k, hk, hne⟩
  obtain ⟨j, hj, rfl⟩ := dP.1 hk
  rw [← jZ ks j hj] at hne
  exact hne (h0 j (by omega))
 simp (disch := omega) only [↓RA, RZ, simprocAttr, hn, g1, (hS1.sl hc).len, p3]
 refine Wp.al (fun n l H' => l.length = 89 ∧ get l 0 = kv ∧ get l 1 = cv ∧ get l 27 = cv ∧ get l 28 = I cs.length ∧ ∃ (i : Nat), (n + i = cs.length ∧ ∀ j, j < i → mM ks.length cs j = 0) ∧ get l 29 = I i ∧ St prog H H' []) cs.length ?_ ?_
 ·simp (disch := omega) only [RB, RC, simprocAttr, hn, g0, g1]
  exact ⟨0, ⟨by omega, by simp⟩, rfl, hS1⟩
 rintro n l H5 ⟨hn, g0, g1, g27, g28, i, ⟨hi2,hz⟩, g29, hS5⟩
 simp (disch := omega) only [↓RA, RB, simprocAttr, hn, g28, g29]
 refine gZ (fun q1 => ?_) (fun q1 => ?_)
 ·have key : mM ks.length cs i ≠ 0 → sN ks cs = mM ks.length cs i := fun hne => by rw [hE, nS _ _ i (by omega) hne hz]
  simp (disch := omega) only [↓RA, RZ, simprocAttr, hn, g27, g29, (hS5.sl hc).idx, (hS5.sl hc).ae, Cpl.cells, q1]
  refine hS5.eNew 5 [(.string ⟨#[]⟩), I 0, I 0, I 0, (.bool false)] rfl rfl rfl vF fun A2 H6 hS6 => ?_
  simp only [RT] at hS6
  simp (disch := omega) only [↓RA, RZ, simprocAttr, hn, q1]
  refine hS6.aa 0 rfl [(.string (iA cs i).name), I (iA cs i).src, I (iA cs i).dst, I (iA cs i).shift, (.bool (iA cs i).thr)] rfl rfl vF (by simp) fun H7 hS7 => ?_
  simp only [RT] at hS7
  simp (disch := omega) only [↓RA, RZ, simprocAttr, hn, hS7.ld 0 rfl, q1]
  refine hS7.cF (qA _) fun H8 hS8 => ?_
  simp (disch := omega) only [↓RA, RZ, simprocAttr, hn, q1]
  refine jK (fun q2 => ?_) (fun q2 => ?_)
  ·have e1 : mM ks.length cs i = 8 := by unfold mM; simp only; rw [if_pos (by simpa using q2)]
   simp (disch := omega) only [↓RA, RZ, simprocAttr, hn, zH, q1, q2]
   exact ⟨by rw [key (by rw [e1]; decide), e1], hS8.forget⟩
  have q2' : ¬ kR (iA cs i).name = false := by simpa using q2
  simp (disch := omega) only [↓RA, RZ, simprocAttr, hn, g1, (hS8.sl hc).aL, q1, q2]
  have hA := hS8.var 0 rfl
  refine hS8.cF (b8A _ (cs.take i) ((hS8.sl hc).cB i (by omega) (by omega)) (by simp; omega) 110 [ptr A2 0 5] (fun j => decide ((iA (cs.take i) j).name = (iA cs i).name)) (fun j H1 hj hS' => a7S _ A2 (iA cs i) (hS'.va hA))) fun H9 hS9 => ?_
  have hx : 0 ≤ mW (fun j => decide ((iA (cs.take i) j).name = (iA cs i).name)) (cs.take i).length ↔ ∃ q, q < i ∧ (iA cs q).name = (iA cs i).name := by
   rw [xK]
   constructor
   ·rintro ⟨j, hj, hp⟩
    have hj' : j < i := by simp at hj; omega
    exact ⟨j, hj', by rw [← a5Y cs i j hj']; exact of_decide_eq_true hp⟩
   ·rintro ⟨j, hj, hp⟩
    exact ⟨j, by simp; omega, decide_eq_true (by rw [a5Y cs i j hj]; exact hp)⟩
  simp (disch := omega) only [↓RA, RZ, simprocAttr, hn, q1, q2]
  refine gZ (fun q3 => ?_) (fun q3 => ?_)
  ·have e1 : mM ks.length cs i = 9 := by unfold mM; simp only; rw [if_neg q2', if_pos (hx.1 q3)]
   simp (disch := omega) only [↓RA, RZ, simprocAttr, hn, zH, q1, q2, q3]
   exact ⟨by rw [key (by rw [e1]; decide), e1], hS9.forget⟩
  have q3' : ¬ ∃ q, q < i ∧ (iA cs q).name = (iA cs i).name := fun hh => q3 (hx.2 hh)
  have hC : mM ks.length cs i = if (iA cs i).src < 0 ∨ ks.length ≤ (iA cs i).src ∨ (iA cs i).dst < 0 ∨ ks.length ≤ (iA cs i).dst then 10 else if (iA cs i).shift < -127 ∨ 127 < (iA cs i).shift then 3 else if (iA cs i).src = (iA cs i).dst ∧ (iA cs i).shift = 0 then 7 else 0 := by
   unfold mM; simp only; rw [if_neg q2', if_neg q3']
  clear hx
  simp (disch := omega) only [↓RA, RZ, simprocAttr, hn, hS9.ld 0 rfl, q1, q2, q3]
  refine iO (fun h1 => ?_) (fun h1 => ?_)
  ·simp (disch := omega) only [↓RA, RZ, simprocAttr, hn, zH, q1, q2, q3, h1]
   (first | (have e1 : mM ks.length cs i = 10 := by rw [hC, if_pos (by omega)]); exact ⟨by rw [key (by rw [e1]; decide), e1], hS9.forget⟩ | (have e1 : mM ks.length cs i = 3 := by rw [hC, if_neg (by omega), if_pos (by omega)]); exact ⟨by rw [key (by rw [e1]; decide), e1], hS9.forget⟩ | (have e1 : mM ks.length cs i = 7 := by rw [hC, if_neg (by omega), if_neg (by omega), if_pos (by omega)]); exact ⟨by rw [key (by rw [e1]; decide), e1], hS9.forget⟩)
  simp (disch := omega) only [↓RA, RZ, simprocAttr, hn, g0, hS9.ld 0 rfl, (hS9.sl hk).len, q1, q2, q3, h1]
  refine iO (fun h2 => ?_) (fun h2 => ?_)
  ·simp (disch := omega) only [↓RA, RZ, simprocAttr, hn, zH, q1, q2, q3, h1, h2]
   (first | (have e1 : mM ks.length cs i = 10 := by rw [hC, if_pos (by omega)]); exact ⟨by rw [key (by rw [e1]; decide), e1], hS9.forget⟩ | (have e1 : mM ks.length cs i = 3 := by rw [hC, if_neg (by omega), if_pos (by omega)]); exact ⟨by rw [key (by rw [e1]; decide), e1], hS9.forget⟩ | (have e1 : mM ks.length cs i = 7 := by rw [hC, if_neg (by omega), if_neg (by omega), if_pos (by omega)]); exact ⟨by rw [key (by rw [e1]; decide), e1], hS9.forget⟩)
  simp (disch := omega) only [↓RA, RZ, simprocAttr, hn, hS9.ld 0 rfl, q1, q2, q3, h1, h2]
  refine iO (fun h3 => ?_) (fun h3 => ?_)
  ·simp (disch := omega) only [↓RA, RZ, simprocAttr, hn, zH, q1, q2, q3, h1, h2, h3]
   (first | (have e1 : mM ks.length cs i = 10 := by rw [hC, if_pos (by omega)]); exact ⟨by rw [key (by rw [e1]; decide), e1], hS9.forget⟩ | (have e1 : mM ks.length cs i = 3 := by rw [hC, if_neg (by omega), if_pos (by omega)]); exact ⟨by rw [key (by rw [e1]; decide), e1], hS9.forget⟩ | (have e1 : mM ks.length cs i = 7 := by rw [hC, if_neg (by omega), if_neg (by omega), if_pos (by omega)]); exact ⟨by rw [key (by rw [e1]; decide), e1], hS9.forget⟩)
  simp (disch := omega) only [↓RA, RZ, simprocAttr, hn, g0, hS9.ld 0 rfl, (hS9.sl hk).len, q1, q2, q3, h1, h2, h3]
  refine gZ (fun h4 => ?_) (fun h4 => ?_)
  ·simp (disch := omega) only [↓RA, RZ, simprocAttr, hn, zH, q1, q2, q3, h1, h2, h3, h4]
   (first | (have e1 : mM ks.length cs i = 10 := by rw [hC, if_pos (by omega)]); exact ⟨by rw [key (by rw [e1]; decide), e1], hS9.forget⟩ | (have e1 : mM ks.length cs i = 3 := by rw [hC, if_neg (by omega), if_pos (by omega)]); exact ⟨by rw [key (by rw [e1]; decide), e1], hS9.forget⟩ | (have e1 : mM ks.length cs i = 7 := by rw [hC, if_neg (by omega), if_neg (by omega), if_pos (by omega)]); exact ⟨by rw [key (by rw [e1]; decide), e1], hS9.forget⟩)
  simp (disch := omega) only [↓RA, RZ, simprocAttr, hn, hS9.ld 0 rfl, q1, q2, q3, h1, h2, h3, h4]
  refine iO (fun h5 => ?_) (fun h5 => ?_)
  ·simp (disch := omega) only [↓RA, RZ, simprocAttr, hn, zH, q1, q2, q3, h1, h2, h3, h4, h5]
   (first | (have e1 : mM ks.length cs i = 10 := by rw [hC, if_pos (by omega)]); exact ⟨by rw [key (by rw [e1]; decide), e1], hS9.forget⟩ | (have e1 : mM ks.length cs i = 3 := by rw [hC, if_neg (by omega), if_pos (by omega)]); exact ⟨by rw [key (by rw [e1]; decide), e1], hS9.forget⟩ | (have e1 : mM ks.length cs i = 7 := by rw [hC, if_neg (by omega), if_neg (by omega), if_pos (by omega)]); exact ⟨by rw [key (by rw [e1]; decide), e1], hS9.forget⟩)
  simp (disch := omega) only [↓RA, RZ, simprocAttr, hn, hS9.ld 0 rfl, q1, q2, q3, h1, h2, h3, h4, h5]
  refine gZ (fun h6 => ?_) (fun h6 => ?_)
  ·simp (disch := omega) only [↓RA, RZ, simprocAttr, hn, zH, q1, q2, q3, h1, h2, h3, h4, h5, h6]
   (first | (have e1 : mM ks.length cs i = 10 := by rw [hC, if_pos (by omega)]); exact ⟨by rw [key (by rw [e1]; decide), e1], hS9.forget⟩ | (have e1 : mM ks.length cs i = 3 := by rw [hC, if_neg (by omega), if_pos (by omega)]); exact ⟨by rw [key (by rw [e1]; decide), e1], hS9.forget⟩ | (have e1 : mM ks.length cs i = 7 := by rw [hC, if_neg (by omega), if_neg (by omega), if_pos (by omega)]); exact ⟨by rw [key (by rw [e1]; decide), e1], hS9.forget⟩)
  simp (disch := omega) only [↓RA, RZ, simprocAttr, hn, hS9.ld 0 rfl, q1, q2, q3, h1, h2, h3, h4, h5, h6]
  refine jV (fun h7 => ?_) (fun h7 => ?_)
  ·simp (disch := omega) only [↓RA, RZ, simprocAttr, hn, hS9.ld 0 rfl, q1, q2, q3, h3, h4, h5, h6, h7]
   refine gZ (fun h8 => ?_) (fun h8 => ?_)
   ·simp (disch := omega) only [↓RA, RZ, simprocAttr, hn, zH, q1, q2, q3, h3, h4, h7, h8]
    (first | (have e1 : mM ks.length cs i = 10 := by rw [hC, if_pos (by omega)]); exact ⟨by rw [key (by rw [e1]; decide), e1], hS9.forget⟩ | (have e1 : mM ks.length cs i = 3 := by rw [hC, if_neg (by omega), if_pos (by omega)]); exact ⟨by rw [key (by rw [e1]; decide), e1], hS9.forget⟩ | (have e1 : mM ks.length cs i = 7 := by rw [hC, if_neg (by omega), if_neg (by omega), if_pos (by omega)]); exact ⟨by rw [key (by rw [e1]; decide), e1], hS9.forget⟩)
   simp (disch := omega) only [↓RA, RZ, simprocAttr, hn, g0, g1, g27, g28, g29, q1, q2, q3, h3, h4, h5, h6, h7, h8]
   have e0 : mM ks.length cs i = 0 := by rw [hC, if_neg (by omega), if_neg (by omega), if_neg (by omega)]
   exact ⟨n - 1, by omega, i + 1, ⟨by omega, fun j hj => by rcases dr.1 hj with e | e; (· exact hz j e); (· rw [e]; exact e0)⟩, by simp, hS9.sub (by simp)⟩
  simp (disch := omega) only [↓RA, RZ, simprocAttr, hn, g0, g1, g27, g28, g29, q1, q2, q3, h1, h2, h3, h4, h5, h6, h7]
  have e0 : mM ks.length cs i = 0 := by rw [hC, if_neg (by omega), if_neg (by omega), if_neg (by omega)]
  exact ⟨n - 1, by omega, i + 1, ⟨by omega, fun j hj => by rcases dr.1 hj with e | e; (· exact hz j e); (· rw [e]; exact e0)⟩, by simp, hS9.sub (by simp)⟩
 simp (disch := omega) only [↓RA, RZ, simprocAttr, hn, zH, q1]
 exact ⟨by rw [hE, kT _ _ fun j hj => hz j (by omega)], hS5.forget⟩
def oQ (rs : List Rk) (lo hi : Int) (l : List Stp) (j : Nat) : Int := if stopE rs lo hi (iA l j) ≠ 0 then stopE rs lo hi (iA l j) else if ∃ q, q < j ∧ (iA l q).name = (iA l j).name then 9 else 0
def divE (rs : List Rk) (d : Dvn) : Int := if qG d.lo d.hi ≠ 0 then qG d.lo d.hi else if 60 < d.stops.length then 4 else lM (oQ rs d.lo d.hi d.stops) d.stops.length
theorem zP {kvs kvs' : List (ByteArray × Bool)} {f : Nat → ByteArray} {i : Nat} (h : ∀ t, pX kvs t = true ↔ ∃ q, q < i ∧ f q = t) (h' : ∀ t, pX kvs' t = (pX kvs t || decide (t = f i))) : ∀ t, pX kvs' t = true ↔ ∃ q, q < i + 1 ∧ f q = t := by
 intro t
 rw [h', eu, h, decide_eq_true_iff]
 constructor
 ·rintro (⟨q, hq, e⟩ | e)
  ·exact ⟨q, by omega, e⟩
  ·exact ⟨i, by omega, e.symm⟩
 ·rintro ⟨q, hq, e⟩
  rcases dr.1 hq with hh | hh
  ·exact .inl ⟨q, hh, e⟩
  ·right; rw [← e, hh]
theorem a1X (t : ByteArray) : pX [] t = false := rfl
theorem c1c (o : Org) (ho : o.In H) (d : Dvn) (hd : d.In H) :
 Fn prog 58 [.agg #[.string o.name, o.rv, o.dv, o.cv], .agg #[.string d.name, .bool d.pedal, I d.lo, I d.hi, d.sv]] H fun v H' => v = I (divE o.ranks d) ∧ St prog H H' [] := by
 have hl := hd.2.2
 refine .aC func58 rfl (by kernel_rfl) (m := 47) rfl fun l hn g0 g1 => ?_
 simp (disch := omega) only [↓RA, RB, simprocAttr, g0]
 refine (sR H).eNew 4 [(.string o.name), o.rv, o.dv, o.cv] rfl rfl (by simp [OC, ((sR H).sl ho.1).cells.2.1, ((sR H).sl ho.2.2.1).cells.2.1, ((sR H).sl ho.2.2.2.2.1).cells.2.1]) lV fun A1 H1 hS1 => ?_
 simp only [RT] at hS1
 simp (disch := omega) only [↓RA, RB, simprocAttr, g1]
 refine hS1.eNew 5 [(.string d.name), (.bool d.pedal), I d.lo, I d.hi, d.sv] rfl rfl (by simp [OC, (hS1.sl hd.1).cells.2.1]) sW fun A2 H2 hS2 => ?_
 simp only [RT] at hS2
 simp (disch := omega) only [↓RA, RZ, simprocAttr, hn, hS2.ae 1 rfl]
 refine hS2.cF (a0L d.lo d.hi) fun H3 hS3 => ?_
 simp (disch := omega) only [↓RA, RB, simprocAttr, hn]
 refine gZ (fun p1 => ?_) (fun p1 => ?_)
 ·simp (disch := omega) only [↓RA, RZ, simprocAttr, hn, b5R, p1]
  exact ⟨by rw [divE, if_pos p1], hS3.forget⟩
 simp (disch := omega) only [↓RA, RZ, simprocAttr, hn, hS3.ld 1 rfl, (hS3.sl hd.1).len, p1]
 refine gZ (fun p2 => ?_) (fun p2 => ?_)
 ·simp (disch := omega) only [↓RA, RZ, simprocAttr, hn, b5R, p1, p2]
  exact ⟨by rw [divE, if_neg p1, if_pos (by omega)], hS3.forget⟩
 have hE : divE o.ranks d = lM (oQ o.ranks d.lo d.hi d.stops) d.stops.length := by rw [divE, if_neg p1, if_neg (by omega)]
 simp (disch := omega) only [↓RA, simprocAttr]
 refine hS3.bP a6Z fun M1 H4 hS4 => ?_
 simp only [RT] at hS4
 simp (disch := omega) only [↓RA, RZ, simprocAttr, hn, hS4.ld 1 rfl, (hS4.sl hd.1).len, p1, p2]
 refine Wp.al (fun n l H' => l.length = 47 ∧ get l 2 = (ptr A1 0 4) ∧ get l 3 = (ptr A2 0 5) ∧ get l 6 = (.map (some M1)) ∧ get l 23 = d.sv ∧ get l 24 = I d.stops.length ∧ ∃ (i : Nat) (kvs : List (ByteArray × Bool)), (n + i = d.stops.length ∧ (∀ j, j < i → oQ o.ranks d.lo d.hi d.stops j = 0) ∧ (∀ t, pX kvs t = true ↔ ∃ q, q < i ∧ (iA d.stops q).name = t)) ∧ get l 25 = I i ∧ St prog H H' [⟨ptr A1 0 4, 0, [(.string o.name), o.rv, o.dv, o.cv]⟩, ⟨ptr A2 0 5, 0, [(.string d.name), (.bool d.pedal), I d.lo, I d.hi, d.sv]⟩, ⟨.map (some M1), 0, KS kvs⟩]) d.stops.length ?_ ?_
 ·simp (disch := omega) only [RB, RC, simprocAttr, hn]
  exact ⟨0, [], ⟨by omega, by simp, by simp [a1X]⟩, rfl, hS4⟩
 rintro n l H5 ⟨hn, g2, g3, g6, g23, g24, i, kvs, ⟨hi1,hz,hk⟩, g25, hS5⟩
 simp (disch := omega) only [↓RA, RB, simprocAttr, hn, g24, g25]
 refine gZ (fun q1 => ?_) (fun q1 => ?_)
 ·have key : oQ o.ranks d.lo d.hi d.stops i ≠ 0 → divE o.ranks d = oQ o.ranks d.lo d.hi d.stops i := fun hne => by rw [hE, nS _ _ i (by omega) hne hz]
  simp (disch := omega) only [↓RA, RZ, simprocAttr, hn, g23, g25, (hS5.sl hd.1).idx, (hS5.sl hd.1).ae, Stp.cells, q1]
  refine hS5.eNew 4 [(.string ⟨#[]⟩), I 0, I 0, (.slice none 0 0)] rfl rfl rfl mV fun A3 H6 hS6 => ?_
  simp only [RT] at hS6
  simp (disch := omega) only [↓RA, RZ, simprocAttr, hn, q1]
  refine hS6.aa 3 rfl [(.string (iA d.stops i).name), I (iA d.stops i).num, I (iA d.stops i).den, (iA d.stops i).gv] rfl (by simp [OC, (hS6.sl (hd.2.1 (iA d.stops i) (iD (by omega))).1).cells.2.1]) mV (by simp) fun H7 hS7 => ?_
  simp only [RT] at hS7
  simp (disch := omega) only [↓RA, RZ, simprocAttr, hn, g2, g3, hS7.ld 0 rfl, hS7.ae 1 rfl, b2t (hS7.sl ho.1).cells, hS7.ae 3 rfl, q1]
  refine hS7.cF (b6v o.rv o.ranks d.lo d.hi (hS7.sl ho.1) (fun r h => (ho.2.1 r h).ab hS7) ho.2.2.2.2.2.1 (iA d.stops i) ((hd.2.1 _ (iD (by omega))).ab hS7)) fun H8 hS8 => ?_
  simp (disch := omega) only [↓RA, RZ, simprocAttr, hn, q1]
  refine gZ (fun q2 => ?_) (fun q2 => ?_)
  ·have e1 : oQ o.ranks d.lo d.hi d.stops i = stopE o.ranks d.lo d.hi (iA d.stops i) := by rw [oQ, if_pos q2]
   simp (disch := omega) only [↓RA, RZ, simprocAttr, hn, b5R, q1, q2]
   exact ⟨by rw [key (by rw [e1]; exact q2), e1], hS8.forget⟩
  simp (disch := omega) only [↓RA, RZ, simprocAttr, hn, g6, hS8.ld 3 rfl, q1, q2]
  have hM1 := hS8.pick (os' := [⟨.map (some M1), 0, _⟩]) [2] (by decide) rfl
  have hR1 := hS8.pick (os' := [⟨.map (some M1), 0, _⟩, ⟨ptr A1 0 4, 0, _⟩, ⟨ptr A2 0 5, 0, _⟩, ⟨ptr A3 0 4, 0, _⟩]) [2, 0, 1, 3] (by decide) rfl
  refine iJ (a1p _ M1 kvs (iA d.stops i).name hM1.aH) ?_
  rintro r H9 ⟨rfl, kvs', hk', hT3⟩
  have hS9 := hR1.frame hT3
  simp only [RT] at hS9
  simp (disch := omega) only [↓RA, RZ, simprocAttr, hn, q1, q2]
  refine gZ (fun q3 => ?_) (fun q3 => ?_)
  ·have q3' : pX kvs (iA d.stops i).name = true := by
    by_cases hh : pX kvs (iA d.stops i).name = true
    ·exact hh
    ·rw [if_neg hh] at q3; exact absurd rfl q3
   have e1 : oQ o.ranks d.lo d.hi d.stops i = 9 := by rw [oQ, if_neg q2, if_pos ((hk _).1 q3')]
   simp (disch := omega) only [↓RA, RZ, simprocAttr, hn, b5R, q1, q2, q3]
   exact ⟨by rw [key (by rw [e1]; decide), e1, if_pos q3'], hS9.forget⟩
  have q3' : ¬ pX kvs (iA d.stops i).name = true := fun hh => q3 (by rw [if_pos hh]; decide)
  have e0 : oQ o.ranks d.lo d.hi d.stops i = 0 := by rw [oQ, if_neg q2, if_neg (fun hh => q3' ((hk _).2 hh))]
  simp (disch := omega) only [↓RA, RZ, simprocAttr, hn, g2, g3, g6, g23, g24, g25, q1, q2, q3]
  exact ⟨n - 1, by omega, i + 1, kvs', ⟨by omega, fun j hj => by rcases dr.1 hj with e | e; (· exact hz j e); (· rw [e]; exact e0), zP (f := fun q => (iA d.stops q).name) hk hk'⟩, by simp, hS9.pick [1, 2, 0] (by decide) rfl⟩
 simp (disch := omega) only [↓RA, RZ, simprocAttr, hn, b5R, q1]
 exact ⟨by rw [hE, kT _ _ fun j hj => hz j (by omega)], hS5.forget⟩
def oD (l : List Rk) (j : Nat) : Int := if rankE (iA l j) ≠ 0 then rankE (iA l j) else if ∃ q, q < j ∧ (iA l q).name = (iA l j).name then 9 else 0
def sY (rs : List Rk) (l : List Dvn) (j : Nat) : Int := if kR (iA l j).name = false then 8 else if ∃ q, q < j ∧ (iA l q).name = (iA l j).name then 9 else divE rs (iA l j)
def kps (l : List Dvn) : List (Int × Int) := l.map fun d => (d.lo, d.hi)
def organE (o : Org) : Int := if kR o.name = false then 8 else if 60 < o.ranks.length then 4 else if lM (oD o.ranks) o.ranks.length ≠ 0 then lM (oD o.ranks) o.ranks.length else
 if o.dvs.length = 0 then 13 else if 8 < o.dvs.length then 4 else if lM (sY o.ranks o.dvs) o.dvs.length ≠ 0 then lM (sY o.ranks o.dvs) o.dvs.length else sN (kps o.dvs) o.cpls
theorem uV (k : Int × Int) : (kpc k).length = 2 := rfl
theorem b5s (l : List Dvn) (i : Nat) (h : i < l.length) : (kps (l.take (i + 1))).flatMap kpc = (kps (l.take i)).flatMap kpc ++ [I (iA l i).lo, I (iA l i).hi] := by
 unfold kps
 rw [vN l i h, dx, ee]
 rfl
theorem xZ (o : Org) (ho : o.In H) : Fn prog 20 [.agg #[.string o.name, o.rv, o.dv, o.cv]] H fun v H' => v = I (organE o) ∧ St prog H H' [] := by
 have hlr := ho.2.2.2.2.2.1
 have hld := ho.2.2.2.2.2.2.1
 have hlc := ho.2.2.2.2.2.2.2
 refine .aY func20 rfl (by kernel_rfl) (m := 89) rfl fun l hn g0 => ?_
 simp (disch := omega) only [↓RA, RB, simprocAttr, g0]
 refine (sR H).eNew 4 [(.string o.name), o.rv, o.dv, o.cv] rfl rfl (by simp [OC, ((sR H).sl ho.1).cells.2.1, ((sR H).sl ho.2.2.1).cells.2.1, ((sR H).sl ho.2.2.2.2.1).cells.2.1]) lV fun A1 H1 hS1 => ?_
 simp only [RT] at hS1
 simp (disch := omega) only [↓RA, RZ, simprocAttr, hn, hS1.ld 0 rfl]
 refine hS1.cF (qA _) fun H2 hS2 => ?_
 simp (disch := omega) only [↓RA, RB, simprocAttr, hn]
 refine jK (fun p1 => ?_) (fun p1 => ?_)
 ·simp (disch := omega) only [↓RA, RB, simprocAttr, hn, a2z, p1]
  exact ⟨by rw [organE, if_pos (by simpa using p1)], hS2.forget⟩
 have p1' : ¬ kR o.name = false := by simpa using p1
 simp (disch := omega) only [↓RA, RZ, simprocAttr, hn, hS2.ld 0 rfl, (hS2.sl ho.1).len, p1]
 refine gZ (fun p2 => ?_) (fun p2 => ?_)
 ·simp (disch := omega) only [↓RA, RZ, simprocAttr, hn, a2z, p1, p2]
  exact ⟨by rw [organE, if_neg p1', if_pos (by omega)], hS2.forget⟩
 simp (disch := omega) only [↓RA, simprocAttr]
 refine hS2.bP a6Z fun M1 H3 hS3 => ?_
 simp only [RT] at hS3
 simp (disch := omega) only [↓RA, RZ, simprocAttr, hn, hS3.ld 0 rfl, (hS3.sl ho.1).len, p1, p2]
 refine Wp.al (fun n l H' => l.length = 89 ∧ get l 1 = (ptr A1 0 4) ∧ get l 3 = (.map (some M1)) ∧ get l 25 = o.rv ∧ get l 26 = I o.ranks.length ∧ ∃ (i : Nat) (kvs : List (ByteArray × Bool)), (n + i = o.ranks.length ∧ (∀ j, j < i → oD o.ranks j = 0) ∧ (∀ t, pX kvs t = true ↔ ∃ q, q < i ∧ (iA o.ranks q).name = t)) ∧ get l 27 = I i ∧ St prog H H' [⟨ptr A1 0 4, 0, [(.string o.name), o.rv, o.dv, o.cv]⟩, ⟨.map (some M1), 0, KS kvs⟩]) o.ranks.length ?_ ?_
 ·simp (disch := omega) only [RB, RC, simprocAttr, hn]
  exact ⟨0, [], ⟨by omega, by simp, by simp [a1X]⟩, rfl, hS3⟩
 rintro n l H4 ⟨hn, g1, g3, g25, g26, i, kvs, ⟨hi1,hz,hk⟩, g27, hS4⟩
 simp (disch := omega) only [↓RA, RB, simprocAttr, hn, g26, g27]
 refine gZ (fun q1 => ?_) (fun q1 => ?_)
 ·have key : oD o.ranks i ≠ 0 → organE o = oD o.ranks i := fun hne => by rw [organE, if_neg p1', if_neg (by omega), nS _ _ i (by omega) hne hz, if_pos hne]
  simp (disch := omega) only [↓RA, RZ, simprocAttr, hn, g25, g27, (hS4.sl ho.1).idx, (hS4.sl ho.1).ae, Rk.cells, q1]
  refine hS4.eNew 6 [(.string ⟨#[]⟩), (.string ⟨#[]⟩), I 0, I 0, I 0, (.slice none 0 0)] rfl rfl rfl a2B fun A2 H5 hS5 => ?_
  simp only [RT] at hS5
  simp (disch := omega) only [↓RA, RZ, simprocAttr, hn, q1]
  refine hS5.aa 2 rfl [(.string (iA o.ranks i).name), (.string (iA o.ranks i).tone), I (iA o.ranks i).num, I (iA o.ranks i).den, I (iA o.ranks i).first, (iA o.ranks i).wv] rfl (by simp [OC, (hS5.sl (ho.2.1 (iA o.ranks i) (iD (by omega))).1).cells.2.1]) a2B (by simp) fun H6 hS6 => ?_
  simp only [RT] at hS6
  simp (disch := omega) only [↓RA, RZ, simprocAttr, hn, hS6.ae 2 rfl, q1]
  refine hS6.cF (a9Q (iA o.ranks i) ((ho.2.1 _ (iD (by omega))).ab hS6)) fun H7 hS7 => ?_
  simp (disch := omega) only [↓RA, RZ, simprocAttr, hn, q1]
  refine gZ (fun q2 => ?_) (fun q2 => ?_)
  ·have e1 : oD o.ranks i = rankE (iA o.ranks i) := by rw [oD, if_pos q2]
   simp (disch := omega) only [↓RA, RZ, simprocAttr, hn, a2z, q1, q2]
   exact ⟨by rw [key (by rw [e1]; exact q2), e1], hS7.forget⟩
  simp (disch := omega) only [↓RA, RZ, simprocAttr, hn, g3, hS7.ld 2 rfl, q1, q2]
  have hM1 := hS7.pick (os' := [⟨.map (some M1), 0, _⟩]) [1] (by decide) rfl
  have hR1 := hS7.pick (os' := [⟨.map (some M1), 0, _⟩, ⟨ptr A1 0 4, 0, _⟩, ⟨ptr A2 0 6, 0, _⟩]) [1, 0, 2] (by decide) rfl
  refine iJ (a1p _ M1 kvs (iA o.ranks i).name hM1.aH) ?_
  rintro r H8 ⟨rfl, kvs', hk', hT3⟩
  have hS8 := hR1.frame hT3
  simp only [RT] at hS8
  simp (disch := omega) only [↓RA, RZ, simprocAttr, hn, q1, q2]
  refine gZ (fun q3 => ?_) (fun q3 => ?_)
  ·have q3' : pX kvs (iA o.ranks i).name = true := by
    by_cases hh : pX kvs (iA o.ranks i).name = true
    ·exact hh
    ·rw [if_neg hh] at q3; exact absurd rfl q3
   have e1 : oD o.ranks i = 9 := by rw [oD, if_neg q2, if_pos ((hk _).1 q3')]
   simp (disch := omega) only [↓RA, RZ, simprocAttr, hn, a2z, q1, q2, q3]
   exact ⟨by rw [key (by rw [e1]; decide), e1, if_pos q3'], hS8.forget⟩
  have q3' : ¬ pX kvs (iA o.ranks i).name = true := fun hh => q3 (by rw [if_pos hh]; decide)
  have e0 : oD o.ranks i = 0 := by rw [oD, if_neg q2, if_neg (fun hh => q3' ((hk _).2 hh))]
  simp (disch := omega) only [↓RA, RZ, simprocAttr, hn, g1, g3, g25, g26, g27, q1, q2, q3]
  exact ⟨n - 1, by omega, i + 1, kvs', ⟨by omega, fun j hj => by rcases dr.1 hj with e | e; (· exact hz j e); (· rw [e]; exact e0), zP (f := fun q => (iA o.ranks q).name) hk hk'⟩, by simp, hS8.pick [1, 0] (by decide) rfl⟩
 have hR : lM (oD o.ranks) o.ranks.length = 0 := kT _ _ fun j hj => hz j (by omega)
 clear hk hz
 simp (disch := omega) only [↓RA, RZ, simprocAttr, hn, g1, hS4.ld 0 rfl, (hS4.sl ho.2.2.1).len, q1]
 refine gZ (fun p4 => ?_) (fun p4 => ?_)
 ·simp (disch := omega) only [↓RA, RZ, simprocAttr, hn, a2z, q1, p4]
  exact ⟨by rw [organE, if_neg p1', if_neg (by omega), if_neg (by rw [hR]; simp), if_pos (by omega)], hS4.forget⟩
 simp (disch := omega) only [↓RA, RZ, simprocAttr, hn, g1, hS4.ld 0 rfl, (hS4.sl ho.2.2.1).len, q1, p4]
 refine gZ (fun p5 => ?_) (fun p5 => ?_)
 ·simp (disch := omega) only [↓RA, RZ, simprocAttr, hn, a2z, q1, p4, p5]
  exact ⟨by rw [organE, if_neg p1', if_neg (by omega), if_neg (by rw [hR]; simp), if_neg (by omega), if_pos (by omega)], hS4.forget⟩
 have hE : organE o = if lM (sY o.ranks o.dvs) o.dvs.length ≠ 0 then lM (sY o.ranks o.dvs) o.dvs.length else sN (kps o.dvs) o.cpls := by
  rw [organE, if_neg p1', if_neg (by omega), if_neg (by rw [hR]; simp), if_neg (by omega), if_neg (by omega)]
 clear hR
 simp (disch := omega) only [↓RA, simprocAttr]
 refine hS4.bP a6Z fun M2 H9 hS9 => ?_
 simp only [RT] at hS9
 simp (disch := omega) only [↓RA, RZ, simprocAttr, hn, g1, hS9.ld 0 rfl, (hS9.sl ho.2.2.1).len, q1, p4, p5]
 have hS10 := hS9.pick (os' := [⟨ptr A1 0 4, 0, _⟩, ⟨.map (some M2), 0, _⟩]) [0, 2] (by decide) rfl
 have hS11 := hS10.nil 1
 simp only [RT] at hS11
 refine Wp.al (fun n l H' => l.length = 89 ∧ get l 1 = (ptr A1 0 4) ∧ get l 3 = (.map (some M2)) ∧ get l 56 = o.dv ∧ get l 57 = I o.dvs.length ∧ ∃ (i : Nat) (kvs : List (ByteArray × Bool)) (w : Value), (n + i = o.dvs.length ∧ (∀ j, j < i → sY o.ranks o.dvs j = 0) ∧ (∀ t, pX kvs t = true ↔ ∃ q, q < i ∧ (iA o.dvs q).name = t)) ∧ get l 58 = I i ∧ get l 8 = w ∧ St prog H H' [⟨ptr A1 0 4, 0, [(.string o.name), o.rv, o.dv, o.cv]⟩, ⟨.map (some M2), 0, KS kvs⟩, ⟨w, 2, (kps (o.dvs.take i)).flatMap kpc⟩]) o.dvs.length ?_ ?_
 ·simp (disch := omega) only [RB, RC, simprocAttr, hn, g1]
  exact ⟨0, [], _, ⟨by omega, by simp, by simp [a1X]⟩, rfl, rfl, hS11⟩
 rintro n l H10 ⟨hn, g1, g3, g56, g57, i, kvs, w, ⟨hi1,hz,hk⟩, g58, g8, hS12⟩
 simp (disch := omega) only [↓RA, RB, simprocAttr, hn, g57, g58]
 refine gZ (fun q1 => ?_) (fun q1 => ?_)
 ·have key : sY o.ranks o.dvs i ≠ 0 → organE o = sY o.ranks o.dvs i := fun hne => by rw [hE, nS _ _ i (by omega) hne hz, if_pos hne]
  simp (disch := omega) only [↓RA, RZ, simprocAttr, hn, g56, g58, (hS12.sl ho.2.2.1).idx, (hS12.sl ho.2.2.1).ae, Dvn.cells, q1]
  refine hS12.eNew 5 [(.string ⟨#[]⟩), (.bool false), I 0, I 0, (.slice none 0 0)] rfl rfl rfl sW fun A3 H11 hS13 => ?_
  simp only [RT] at hS13
  simp (disch := omega) only [↓RA, RZ, simprocAttr, hn, q1]
  refine hS13.aa 3 rfl [(.string (iA o.dvs i).name), (.bool (iA o.dvs i).pedal), I (iA o.dvs i).lo, I (iA o.dvs i).hi, (iA o.dvs i).sv] rfl (by simp [OC, (hS13.sl (ho.2.2.2.1 (iA o.dvs i) (iD (by omega))).1).cells.2.1]) sW (by simp) fun H12 hS14 => ?_
  simp only [RT] at hS14
  simp (disch := omega) only [↓RA, RZ, simprocAttr, hn, hS14.ld 3 rfl, q1]
  refine hS14.cF (qA _) fun H13 hS15 => ?_
  simp (disch := omega) only [↓RA, RZ, simprocAttr, hn, q1]
  refine jK (fun q2 => ?_) (fun q2 => ?_)
  ·have e1 : sY o.ranks o.dvs i = 8 := by rw [sY, if_pos (by simpa using q2)]
   simp (disch := omega) only [↓RA, RZ, simprocAttr, hn, a2z, q1, q2]
   exact ⟨by rw [key (by rw [e1]; decide), e1], hS15.forget⟩
  have q2' : ¬ kR (iA o.dvs i).name = false := by simpa using q2
  simp (disch := omega) only [↓RA, RZ, simprocAttr, hn, g3, hS15.ld 3 rfl, q1, q2]
  have hM2 := hS15.pick (os' := [⟨.map (some M2), 0, _⟩]) [1] (by decide) rfl
  have hR2 := hS15.pick (os' := [⟨.map (some M2), 0, _⟩, ⟨ptr A1 0 4, 0, _⟩, ⟨w, 2, _⟩, ⟨ptr A3 0 5, 0, _⟩]) [1, 0, 2, 3] (by decide) rfl
  refine iJ (a1p _ M2 kvs (iA o.dvs i).name hM2.aH) ?_
  rintro r H14 ⟨rfl, kvs', hk', hT5⟩
  have hS16 := hR2.frame hT5
  simp only [RT] at hS16
  simp (disch := omega) only [↓RA, RZ, simprocAttr, hn, q1, q2]
  refine gZ (fun q3 => ?_) (fun q3 => ?_)
  ·have q3' : pX kvs (iA o.dvs i).name = true := by
    by_cases hh : pX kvs (iA o.dvs i).name = true
    ·exact hh
    ·rw [if_neg hh] at q3; exact absurd rfl q3
   have e1 : sY o.ranks o.dvs i = 9 := by rw [sY, if_neg q2', if_pos ((hk _).1 q3')]
   simp (disch := omega) only [↓RA, RZ, simprocAttr, hn, a2z, q1, q2, q3]
   exact ⟨by rw [key (by rw [e1]; decide), e1, if_pos q3'], hS16.forget⟩
  have q3' : ¬ pX kvs (iA o.dvs i).name = true := fun hh => q3 (by rw [if_pos hh]; decide)
  simp (disch := omega) only [↓RA, RZ, simprocAttr, hn, g1, hS16.ae 1 rfl, hS16.ae 3 rfl, q1, q2, q3]
  refine hS16.cF (c1c o (ho.ab hS16) (iA o.dvs i) ((ho.2.2.2.1 _ (iD (by omega))).ab hS16)) fun H15 hS17 => ?_
  have e0 : sY o.ranks o.dvs i = divE o.ranks (iA o.dvs i) := by rw [sY, if_neg q2', if_neg (fun hh => q3' ((hk _).2 hh))]
  simp (disch := omega) only [↓RA, RZ, simprocAttr, hn, q1, q2, q3]
  refine gZ (fun q4 => ?_) (fun q4 => ?_)
  ·simp (disch := omega) only [↓RA, RZ, simprocAttr, hn, a2z, q1, q2, q3, q4]
   exact ⟨by rw [key (by rw [e0]; exact q4), e0], hS17.forget⟩
  have e2 : sY o.ranks o.dvs i = 0 := by rw [e0]; exact dC.1 q4
  simp (disch := omega) only [↓RA, RZ, simprocAttr, hn, g8, hS17.ae 3 rfl, q1, q2, q3, q4]
  refine hS17.ai [I (iA o.dvs i).lo, I (iA o.dvs i).hi] b9s c3p rfl rfl (by simp [Value.cells]) rfl rfl (by decide) (by decide) fun w1 H16 hS18 => ?_
  simp only [RT] at hS18
  simp (disch := omega) only [↓RA, RZ, simprocAttr, hn, q1, q2, q3, q4]
  refine hS18.aq 2 rfl (hS18.rd 4 rfl) b9s (by rw [iM uV]; simp [kps]; omega) fun w2 H17 hS19 => ?_
  simp only [RT] at hS19
  simp (disch := omega) only [↓RA, RZ, simprocAttr, hn, g1, g3, g56, g57, g58, q1, q2, q3, q4]
  refine ⟨n - 1, by omega, i + 1, kvs', _, ⟨by omega, fun j hj => by rcases dr.1 hj with e | e; (· exact hz j e); (· rw [e]; exact e2), zP (f := fun q => (iA o.dvs q).name) hk hk'⟩, by simp, rfl, ?_⟩
  rw [b5s _ _ (by omega)]
  exact hS19.pick [1, 0, 2] (by decide) rfl
 have hD : lM (sY o.ranks o.dvs) o.dvs.length = 0 := kT _ _ fun j hj => hz j (by omega)
 have hi : i = o.dvs.length := by omega
 subst hi
 rw [ef] at hS12
 simp (disch := omega) only [↓RA, RZ, simprocAttr, hn, g1, g8, hS12.ld 0 rfl, q1]
 refine hS12.cF (a7m w o.cv (kps o.dvs) o.cpls (hS12.ax 2 rfl uV) (hS12.sl ho.2.2.2.2.1) (by simp [kps]; omega) hlc) fun H18 hS20 => ?_
 simp (disch := omega) only [↓RA, RZ, simprocAttr, hn, a2z, q1]
 exact ⟨by rw [hE, if_neg (by rw [hD]; simp)], hS20.forget⟩
def kZ : List (Int × Int) := [(8, 1), (4, 1), (16, 1), (8, 3), (2, 1), (8, 5)]
def lX : List (Int × Int) := [(8, 1), (4, 1), (16, 1), (2, 1), (8, 3), (8, 5), (4, 3), (1, 1), (32, 1), (16, 3), (16, 5), (32, 3), (8, 7), (2, 3), (1, 2), (64, 1)]
theorem a7j (k : Nat) : Fn prog 97 [.int .u8 k] H fun r H' => r = .agg #[I (iA kZ (k % 6)).1, I (iA kZ (k % 6)).2] ∧ St prog H H' [] := by
 refine .aY func97 rfl (by kernel_rfl) (m := 14) rfl fun l hn g0 => ?_
 simp (disch := omega) only [↓RA, RZ, simprocAttr]
 refine (sR H).eNew 2 [I 0, I 0] rfl rfl rfl yQ fun A1 H1 hS1 => ?_
 simp only [RT] at hS1
 simp (disch := omega) only [↓RA, RB, simprocAttr, hn, xR]
 refine hS1.ai [I 8, I 1, I 4, I 1, I 16, I 1, I 8, I 3, I 2, I 1, I 8, I 5] b9w b8V rfl rfl (by simp [Value.cells]) rfl rfl (by decide) (by decide) fun w1 H2 hS2 => ?_
 simp only [RT] at hS2
 simp (disch := omega) only [↓RA, RZ, simprocAttr, hn, g0]
 have hR : St prog H H2 [⟨ptr A1 0 2, 0, _⟩, ⟨w1, 2, kZ.flatMap kpc⟩] := hS2
 have hL : kZ.length = 6 := rfl
 have hk : k % 6 < 6 := eU _ (by decide)
 have hk2 : (k : Int).tmod 6 = ((k % 6 : Nat) : Int) := (eH k 6).symm
 try rw [hk2]
 simp (disch := omega) only [↓RA, RZ, simprocAttr, hn, (hR.ax 1 rfl uV).idx, (hR.ax 1 rfl uV).ae, kpc]
 refine hR.aa 0 rfl [I (iA kZ (k % 6 : Nat)).1, I (iA kZ (k % 6 : Nat)).2] rfl rfl yQ (by simp) fun H3 hS3 => ?_
 simp only [RT] at hS3
 simp (disch := omega) only [↓RA, RZ, simprocAttr, hn, c5A, hS3.ae 0 rfl]
 first | exact hS3.forget | exact ⟨rfl, hS3.forget⟩
theorem a5B (k : Nat) : Fn prog 96 [.int .u8 k] H fun r H' => r = .agg #[I (iA lX (k % 16)).1, I (iA lX (k % 16)).2] ∧ St prog H H' [] := by
 refine .aY func96 rfl (by kernel_rfl) (m := 24) rfl fun l hn g0 => ?_
 simp (disch := omega) only [↓RA, RZ, simprocAttr]
 refine (sR H).eNew 2 [I 0, I 0] rfl rfl rfl yQ fun A1 H1 hS1 => ?_
 simp only [RT] at hS1
 simp (disch := omega) only [↓RA, RB, simprocAttr, hn, xR]
 refine hS1.ai [I 8, I 1, I 4, I 1, I 16, I 1, I 2, I 1, I 8, I 3, I 8, I 5, I 4, I 3, I 1, I 1, I 32, I 1, I 16, I 3, I 16, I 5, I 32, I 3, I 8, I 7, I 2, I 3, I 1, I 2, I 64, I 1] b9w b8V rfl rfl (by simp [Value.cells]) rfl rfl (by decide) (by decide) fun w1 H2 hS2 => ?_
 simp only [RT] at hS2
 simp (disch := omega) only [↓RA, RZ, simprocAttr, hn, g0]
 have hR : St prog H H2 [⟨ptr A1 0 2, 0, _⟩, ⟨w1, 2, lX.flatMap kpc⟩] := hS2
 have hL : lX.length = 16 := rfl
 have hk : k % 16 < 16 := eU _ (by decide)
 have hk2 : (k : Int).tmod 16 = ((k % 16 : Nat) : Int) := (eH k 16).symm
 try rw [hk2]
 simp (disch := omega) only [↓RA, RZ, simprocAttr, hn, (hR.ax 1 rfl uV).idx, (hR.ax 1 rfl uV).ae, kpc]
 refine hR.aa 0 rfl [I (iA lX (k % 16 : Nat)).1, I (iA lX (k % 16 : Nat)).2] rfl rfl yQ (by simp) fun H3 hS3 => ?_
 simp only [RT] at hS3
 simp (disch := omega) only [↓RA, RZ, simprocAttr, hn, c5w, hS3.ae 0 rfl]
 first | exact hS3.forget | exact ⟨rfl, hS3.forget⟩
end Go.Ds
namespace Go.Ds
open Go.Proofs Go.Proofs.Tryz
variable {H : Heap}
set_option maxRecDepth 10000
structure RPl where
 tone : Nat
 feet : Nat
 first : Int
 pipes : Nat
 w0 : Nat
 w1 : Nat
 w2 : Nat
 w3 : Nat
 w4 : Nat
 deriving Inhabited
def RPl.cells (p : RPl) : List Value := [.int .u8 p.tone, .int .u8 p.feet, .int .i8 p.first, .int .u8 p.pipes, .int .u8 p.w0, .int .u8 p.w1, .int .u8 p.w2, .int .u8 p.w3, .int .u8 p.w4]
def RPl.Ok (p : RPl) : Prop := p.tone < 256 ∧ p.feet < 256 ∧ -128 ≤ p.first ∧ p.first < 128 ∧ p.pipes < 256 ∧ p.w0 < 256 ∧ p.w1 < 256 ∧ p.w2 < 256 ∧ p.w3 < 256 ∧ p.w4 < 256
def RPl.wind (p : RPl) (j : Nat) : Nat := iA [p.w0, p.w1, p.w2, p.w3, p.w4] (j % 5)
theorem RPl.Ok.wind {p : RPl} (hp : p.Ok) (j : Nat) : p.wind j < 256 := by
 obtain ⟨_, _, _, _, _, h0, h1, h2, h3, h4⟩ := hp
 have : j % 5 = 0 ∨ j % 5 = 1 ∨ j % 5 = 2 ∨ j % 5 = 3 ∨ j % 5 = 4 := by omega
 unfold RPl.wind
 rcases this with e | e | e | e | e <;> rw [e] <;> assumption
def sQ : List ByteArray := [⟨#[79, 112, 101, 110]⟩, ⟨#[70, 108, 117, 116, 101]⟩, ⟨#[82, 101, 101, 100]⟩]
theorem b0K (p : RPl) (hp : p.Ok) (i : Nat) (hi : i < 10) : Fn prog 47 [.agg #[.int .u8 p.tone, .int .u8 p.feet, .int .i8 p.first, .int .u8 p.pipes, .int .u8 p.w0, .int .u8 p.w1, .int .u8 p.w2, .int .u8 p.w3, .int .u8 p.w4], I i] H fun r H' =>
 ∃ wv, r = .agg #[.string ⟨#[82, UInt8.ofNat (48 + i)]⟩, .string (iA sQ (p.tone % 3)), I (iA lX (p.feet % 16)).1, I (iA lX (p.feet % 16)).2, I p.first, wv] ∧
   St prog H H' [⟨wv, 1, (List.range (1 + p.pipes % 25)).map fun j => I (p.wind j)⟩] := by
 have hwb := fun j => hp.wind j
 obtain ⟨h1, h2, h3, h4, h5, _⟩ := hp
 refine .aC func47 rfl (by kernel_rfl) (m := 48) rfl fun l hn g0 g1 => ?_
 have hm : (i : Int).tmod 10 = i := ((eH i 10).symm).trans (by rw [fX hi])
 have ht : (p.tone : Int).tmod 3 = ((p.tone % 3 : Nat) : Int) := (eH p.tone 3).symm
 have ht3 : p.tone % 3 < 3 := eU _ (by decide)
 have htl : sQ.length = 3 := rfl
 simp (disch := omega) only [↓RA, RB, simprocAttr, g0]
 refine (sR H).eNew 9 [(.int .u8 p.tone), (.int .u8 p.feet), (.int .i8 p.first), (.int .u8 p.pipes), (.int .u8 p.w0), (.int .u8 p.w1), (.int .u8 p.w2), (.int .u8 p.w3), (.int .u8 p.w4)] rfl rfl rfl b5O fun A1 H1 hS1 => ?_
 simp only [RT] at hS1
 simp (disch := omega) only [↓RA, RZ, simprocAttr]
 refine hS1.eNew 6 [(.string ⟨#[]⟩), (.string ⟨#[]⟩), I 0, I 0, I 0, (.slice none 0 0)] rfl rfl rfl a2B fun A2 H2 hS2 => ?_
 simp only [RT] at hS2
 simp (disch := omega) only [↓RA, simprocAttr]
 refine Wp.cE kC [13, 14, 15, 16, 17, 18, 0, 1, 2, 3, 4, 5, 6, 7, 8, 9, 10, 11, 12, 19, 20, 21] [6, 7, 8, 9, 10, 11, 12, 13, 14, 15, 16, 17, 18, 0, 1, 2, 3, 4, 5, 19, 20, 21] ⟨true, [], [(11, 10), (17, 13), (18, 13)]⟩ [(4, 0), (5, 0), (9, 0), (15, 0), (15, 3)] (by kernel_rfl) (by kernel_rfl) (by kernel_rfl) ?_
 simp (disch := omega) only [↓RA, RZ, simprocAttr, hn, hS2.ld 0 rfl]
 refine hS2.cF (a5B p.feet) fun H3 hS3 => ?_
 simp (disch := omega) only [↓RA, RZ, simprocAttr, hn, g1, hS3.ld 0 rfl, hm]
 refine hS3.ai [_] b0A b0n rfl rfl (by simp [Value.cells]) rfl rfl (by decide) (by decide) fun w1 H4 hS4 => ?_
 simp only [RT] at hS4
 simp (disch := omega) only [↓RA, RB, simprocAttr, hn, uT (hS4.rd 2 rfl) nE.1 nE.2.1 nE.2.2, rZ]
 refine hS4.ai [(.string ⟨#[79, 112, 101, 110]⟩), (.string ⟨#[70, 108, 117, 116, 101]⟩), (.string ⟨#[82, 101, 101, 100]⟩)] c3X c1M rfl rfl (by simp [Value.cells]) rfl rfl (by decide) (by decide) fun w2 H5 hS5 => ?_
 simp only [RT] at hS5
 simp (disch := omega) only [↓RA, RZ, simprocAttr, hn, hS5.ld 0 rfl, ht]
 have hR : St prog H H5 [⟨ptr A1 0 9, 0, _⟩, ⟨ptr A2 0 6, 0, _⟩, ⟨w1, 1, _⟩, ⟨w2, 1, sQ.flatMap (one Value.string)⟩] := hS5
 simp (disch := omega) only [↓RA, RZ, simprocAttr, hn, (hR.ax 3 rfl (uJ _)).idx, (hR.ax 3 rfl (uJ _)).ld, one, a4P]
 refine hR.eNew 6 [(.string ⟨#[]⟩), (.string ⟨#[]⟩), I 0, I 0, I 0, (.slice none 0 0)] rfl rfl rfl a2B fun A3 H6 hS6 => ?_
 simp only [RT] at hS6
 simp (disch := omega) only [↓RA, RB, simprocAttr, hn]
 refine hS6.aa 4 rfl [(.string ⟨#[82, UInt8.ofNat (48 + (i : Int)).toNat]⟩), (.string (iA sQ (p.tone % 3 : Nat))), I (iA lX (p.feet % 16)).1, I (iA lX (p.feet % 16)).2, _, (.slice none 0 0)] rfl rfl a2B (by simp) fun H7 hS7 => ?_
 simp only [RT] at hS7
 simp (disch := omega) only [↓RA, RZ, simprocAttr, hn, hS2.ld 0 rfl, hS3.ld 0 rfl]
 have hN : St prog H H7 [⟨ptr A1 0 9, 0, _⟩, ⟨ptr A2 0 6, 0, _⟩, ⟨ptr A3 0 6, 0, [.string ⟨#[82, UInt8.ofNat (48 + (i : Int)).toNat]⟩, .string (iA sQ (p.tone % 3)), I (iA lX (p.feet % 16)).1, I (iA lX (p.feet % 16)).2, I p.first, .slice none 0 0]⟩, ⟨.slice none 0 0, 1, []⟩] := (hS7.nil 0).pick [0, 1, 4, 5] (by decide) rfl
 refine Wp.al (fun n l H' => l.length = 48 ∧ get l 2 = (ptr A1 0 9) ∧ get l 4 = (ptr A2 0 6) ∧ get l 5 = (ptr A3 0 6) ∧ ∃ (j : Nat) (wv : Value), (n + j = 1 + p.pipes % 25) ∧ get l 6 = I j ∧ St prog H H' [⟨ptr A1 0 9, 0, [(.int .u8 p.tone), (.int .u8 p.feet), (.int .i8 p.first), (.int .u8 p.pipes), (.int .u8 p.w0), (.int .u8 p.w1), (.int .u8 p.w2), (.int .u8 p.w3), (.int .u8 p.w4)]⟩, ⟨ptr A2 0 6, 0, [(.string ⟨#[]⟩), (.string ⟨#[]⟩), I 0, I 0, I 0, (.slice none 0 0)]⟩, ⟨ptr A3 0 6, 0, [.string ⟨#[82, UInt8.ofNat (48 + (i : Int)).toNat]⟩, .string (iA sQ (p.tone % 3)), I (iA lX (p.feet % 16)).1, I (iA lX (p.feet % 16)).2, I p.first, wv]⟩, ⟨wv, 1, (List.range j).map fun q => I (p.wind q)⟩]) (1 + p.pipes % 25) ?_ ?_
 ·simp (disch := omega) only [RB, RC, simprocAttr, hn]
  exact ⟨0, _, by omega, rfl, hN⟩
 rintro n l H8 ⟨hn, g2, g4, g5, j, wv, hj, g6, hS8⟩
 have hpp : (p.pipes : Int).tmod 25 = ((p.pipes % 25 : Nat) : Int) := (eH p.pipes 25).symm
 have hj5 : (j : Int).tmod 5 = ((j % 5 : Nat) : Int) := (eH j 5).symm
 have hw : (p.cells)[4 + j % 5]? = some (.int .u8 (p.wind j)) := by
  have : j % 5 = 0 ∨ j % 5 = 1 ∨ j % 5 = 2 ∨ j % 5 = 3 ∨ j % 5 = 4 := by omega
  unfold RPl.wind
  rcases this with e | e | e | e | e <;> rw [e] <;> rfl
 simp only [RPl.cells] at hw
 have hwj := hwb j
 simp (disch := omega) only [↓RA, RZ, simprocAttr, hn, g2, g6, hS8.ld 0 rfl, hpp]
 refine gZ (fun q => ?_) (fun q => ?_)
 ·simp (disch := omega) only [↓RA, RC, simprocAttr, q]
  refine Wp.aQ kC [(1, 9)] (by kernel_rfl) (by kernel_rfl) ?_
  simp (disch := omega) only [↓RA, RZ, simprocAttr, hn, g2, g5, g6, hS8.ld 2 rfl, hS8.ld 0 rfl, hw, hj5]
  refine hS8.ai [_] a5D a8o rfl rfl (by simp [Value.cells]) rfl rfl (by decide) (by decide) fun w3 H9 hS9 => ?_
  simp only [RT] at hS9
  simp (disch := omega) only [↓RA, RZ, simprocAttr, hn]
  refine hS9.aq 3 rfl (hS9.rd 4 rfl) a5D (by first | (simp; done) | (simp; omega)) fun w4 H10 hS10 => ?_
  simp only [RT] at hS10
  simp (disch := omega) only [↓RA, RZ, simprocAttr, hn, g5]
  refine hS10.aa 2 rfl [w4] (by rw [(hS10.rd 3 rfl).cells.1]) (by simp [(hS10.rd 3 rfl).cells.2.1]) c2w (by simp) fun H11 hS11 => ?_
  simp only [RT] at hS11
  simp (disch := omega) only [↓RA, RZ, simprocAttr, hn, g2, g4, g5, g6, hS9.ld 2 rfl]
  refine ⟨n - 1, by omega, j + 1, w4, by omega, rfl, ?_⟩
  rw [eW, dx]
  exact hS11.pick [0, 1, 2, 3] (by decide) rfl
 simp (disch := omega) only [↓RA, RZ, simprocAttr, hn, g4, g5, hS8.ae 2 rfl, q]
 refine hS8.aa 1 rfl [(.string ⟨#[82, UInt8.ofNat (48 + (i : Int)).toNat]⟩), (.string (iA sQ (p.tone % 3))), I (iA lX (p.feet % 16)).1, I (iA lX (p.feet % 16)).2, I p.first, wv] rfl (by simp [OC, (hS8.rd 3 rfl).cells.2.1]) a2B (by simp) fun H12 hS12 => ?_
 simp only [RT] at hS12
 simp (disch := omega) only [↓RA, RZ, simprocAttr, g4, c5z, hS12.ae 1 rfl, q]
 have hjj : j = 1 + p.pipes % 25 := by omega
 subst hjj
 have he : (48 + (i : Int)).toNat = 48 + i := by omega
 exact ⟨wv, by rw [he], hS12.pick [3] (by decide) rfl⟩
end Go.Ds
namespace Go.Ds
open Go.Proofs
variable {P : Program} {H : Heap} {α : Type} {n : Nat} {cel : α → List Value} {v : Value} {xs : List α} {X Y : Nat → Prop}
theorem RdAt.lt {size : Nat} {cs : List Value} (h : RdAt H v size cs) {B : Nat} (hb : kE v = some B) : B < H.length := by
 rcases h with ⟨h1, _⟩ | ⟨A, i, e, row, ty, rw, lo, ver, n, h, _, _, _, _, _, h7⟩
 ·rw [h1] at hb; simp [kE] at hb
 ·rw [h7] at hb
  simp [kE] at hb
  exact hb ▸ jC h
theorem RdAt.cG {H' : Heap} {size : Nat} {cs : List Value} (h : RdAt H v size cs) (hk : ∀ B, kE v = some B → iL H' B = iL H B) : RdAt H' v size cs := by
 rcases h with h | ⟨A, i, e, row, ty, rw, lo, ver, n, h, h2, h3, h4, h5, h6, h7⟩
 ·exact .inl h
 ·exact .inr ⟨A, i, e, row, ty, rw, lo, ver, n, by rw [hk A (by rw [h7]; rfl), h], h2, h3, h4, h5, h6, h7⟩
theorem St.ay {B0 : Base} {os : List Ob} (hS : St P B0 H os) : ∃ B : Base, B = ⟨H, oP os⟩ ∧ St P B H os := ⟨_, rfl, hS.aH⟩
theorem St.aj {B0 B : Base} {H1 : Heap} {os os1 : List Ob} (hS : St P B0 H os) (hB : B = ⟨H, oP os⟩) (h1 : St P B H1 os1) : St P B0 H1 os1 := by
 subst hB
 exact hS.bC h1
def Slx (n : Nat) (cel : α → List Value) (H : Heap) (X : Nat → Prop) (v : Value) (xs : List α) : Prop := Sl n cel H v xs ∧ ∀ B, kE v = some B → X B
def Kept (H : Heap) (X : Nat → Prop) (H' : Heap) (Y : Nat → Prop) : Prop := ∀ B, X B → B < H.length → iL H' B = iL H B ∧ Y B
theorem Slx.step {H' : Heap} (h : Slx n cel H X v xs) (hk : Kept H X H' Y) : Slx n cel H' Y v xs :=
 ⟨⟨h.1.rd.cG fun B hb => (hk B (h.2 B hb) (h.1.rd.lt hb)).1, h.1.hc, h.1.pos⟩, fun B hb => (hk B (h.2 B hb) (h.1.rd.lt hb)).2⟩
def nb (vs : List Value) : Nat → Prop := fun B => ∀ v ∈ vs, kE v ≠ some B
theorem a7I (os : List Ob) (B : Nat) : nb (os.map (·.v)) B ↔ ¬ oP os B := by
 unfold nb oP
 constructor
 ·rintro h ⟨o, ho, hb⟩
  exact h o.v (eP ho) hb
 ·intro h v hv hb
  obtain ⟨o, ho, rfl⟩ := dF.1 hv
  exact h ⟨o, ho, hb⟩
theorem St.kept {B : Base} {H' : Heap} {os os' : List Ob} (hS : St P B H' os') (hB : B = ⟨H, oP os⟩) : Kept H (nb (os.map (·.v))) H' (nb (os'.map (·.v))) := by
 subst hB
 intro B hX hB
 rw [a7I] at hX ⊢
 exact ⟨hS.old B hB hX, fun ⟨o, ho, hb⟩ => by
  rcases hS.new o ho B hb with h | h
  ·have h : H.length ≤ B := h
   omega
  ·exact hX h⟩
theorem St.aX {H0 : Base} {H' : Heap} {os : List Ob} (hS : St P H0 H os) : Kept H' (fun B => H.length ≤ B) H' (nb (os.map (·.v))) := by
 intro B hX hB
 rw [a7I]
 exact ⟨rfl, fun ⟨o, ho, hb⟩ => by
  have := (hS.own o ho).lt hb
  omega⟩
theorem Kept.trans {H' H'' : Heap} {X Y Z : Nat → Prop} (h : Kept H X H' Y) (h' : Kept H' Y H'' Z) (hl : H.length ≤ H'.length) : Kept H X H'' Z :=
 fun B hX hB => by
  obtain ⟨e, hY⟩ := h B hX hB
  obtain ⟨e', hZ⟩ := h' B hY (dM hB hl)
  exact ⟨e'.trans e, hZ⟩
theorem Slx.any (h : Slx n cel H X v xs) : Slx n cel H (fun _ => True) v xs := ⟨h.1, fun _ _ => trivial⟩
theorem St.cV {H0 : Base} {os os' : List Ob} (hS : St P H0 H os) (i : Nat) {m : Nat} (ho : os[i]? = some ⟨v, m + 1, xs.flatMap cel⟩) (hc : ∀ x, (cel x).length = m + 1) (idx : List Nat) (hi : i ∉ idx) (h : idx.map (os[·]?) = os'.map some) :
 Slx (m + 1) cel H (nb (os'.map (·.v))) v xs := by
 refine ⟨hS.ax i ho hc, fun B hb => ?_⟩
 rw [a7I]
 rintro ⟨o, hmem, hob⟩
 have : some o ∈ idx.map (os[·]?) := by rw [h]; exact eP hmem
 obtain ⟨j, hj, hj2⟩ := dF.1 this
 have hne : i ≠ j := fun e => hi (e ▸ hj)
 have hpw := dV.1 hS.sep
 obtain ⟨hi1, ei⟩ := dq.1 ho
 obtain ⟨hj1, ej⟩ := dq.1 hj2
 rcases fC hne with hh | hh
 ·have := hpw i j hi1 hj1 hh B (by rw [ei]; exact hb)
  rw [ej] at this
  exact this hob
 ·have := hpw j i hj1 hi1 hh B (by rw [ej]; exact hob)
  rw [ei] at this
  exact this hb
theorem St.ch {H0 : Heap} {os : List Ob} (hS : St P H0 H os) (i : Nat) {m : Nat} (ho : os[i]? = some ⟨v, m + 1, xs.flatMap cel⟩) (hc : ∀ x, (cel x).length = m + 1) : Slx (m + 1) cel H (fun B => H0.length ≤ B) v xs :=
 ⟨hS.ax i ho hc, fun B hb => by
  rcases hS.new _ (dO ho) B hb with h | h
  ·exact h
  ·exact h.elim⟩
def Seg.Ix (H : Heap) (X : Nat → Prop) (s : Seg) : Prop := Slx 2 Drw.cells H X s.dv s.draws ∧ s.draws.length < 1000000000
def Stp.Ix (H : Heap) (X : Nat → Prop) (s : Stp) : Prop := Slx 3 Seg.cells H X s.gv s.segs ∧ (∀ g ∈ s.segs, g.Ix H X) ∧ s.segs.length < 1000000000
def Dvn.Ix (H : Heap) (X : Nat → Prop) (d : Dvn) : Prop := Slx 4 Stp.cells H X d.sv d.stops ∧ (∀ s ∈ d.stops, s.Ix H X) ∧ d.stops.length < 1000000000
def Rk.Ix (H : Heap) (X : Nat → Prop) (r : Rk) : Prop := Slx 1 (one I) H X r.wv r.wind ∧ r.wind.length < 1000000000
section
variable {H' : Heap}
theorem Seg.Ix.step {s : Seg} (h : s.Ix H X) (hk : Kept H X H' Y) : s.Ix H' Y := ⟨h.1.step hk, h.2⟩
theorem Stp.Ix.step {s : Stp} (h : s.Ix H X) (hk : Kept H X H' Y) : s.Ix H' Y := ⟨h.1.step hk, fun g hg => (h.2.1 g hg).step hk, h.2.2⟩
theorem Dvn.Ix.step {d : Dvn} (h : d.Ix H X) (hk : Kept H X H' Y) : d.Ix H' Y := ⟨h.1.step hk, fun g hg => (h.2.1 g hg).step hk, h.2.2⟩
theorem Rk.Ix.step {r : Rk} (h : r.Ix H X) (hk : Kept H X H' Y) : r.Ix H' Y := ⟨h.1.step hk, h.2⟩
theorem Seg.Ix.in {s : Seg} (h : s.Ix H X) : s.In H := ⟨h.1.1, h.2⟩
theorem Stp.Ix.in {s : Stp} (h : s.Ix H X) : s.In H := ⟨h.1.1, fun g hg => (h.2.1 g hg).in, h.2.2⟩
theorem Dvn.Ix.in {d : Dvn} (h : d.Ix H X) : d.In H := ⟨h.1.1, fun g hg => (h.2.1 g hg).in, h.2.2⟩
theorem Rk.Ix.in {r : Rk} (h : r.Ix H X) : r.In H := ⟨h.1.1, h.2⟩
end
theorem a2e {α : Type} (f : α → Value) (l : List α) : l.flatMap (one f) = l.map f := by
 induction l with
 | nil => rfl
 | cons a l ih => rw [dJ, ih]; rfl
end Go.Ds
namespace Go.Ds
open Go.Proofs
theorem a9g (m : Nat) (n s : Int) (h0 : 0 ≤ n) (h1 : n < m) (h2 : -127 ≤ s) (h3 : s ≤ 127) : lF m [⟨n, s⟩] = 0 := by
 rw [lF, if_neg (by simp)]
 refine kT _ _ fun j hj => ?_
 have hj0 : j = 0 := by simpa using hj
 subst hj0
 have e : iA ([⟨n, s⟩] : List Drw) 0 = ⟨n, s⟩ := rfl
 unfold kL
 rw [e, if_neg (by simp only; omega), if_neg (by simp only; omega), if_neg (by simp)]
theorem c0A (m : Nat) (n s t : Int) (h0 : 0 ≤ n) (h1 : n < m) (h2 : -127 ≤ s) (h3 : s ≤ 127) (h4 : -127 ≤ t) (h5 : t ≤ 127) (hne : s ≠ t) : lF m [⟨n, s⟩, ⟨n, t⟩] = 0 := by
 rw [lF, if_neg (by simp)]
 refine kT _ _ fun j hj => ?_
 have hj0 : j = 0 ∨ j = 1 := by
  have : j < 2 := by simpa using hj
  omega
 rcases hj0 with rfl | rfl
 ·have e : iA ([⟨n, s⟩, ⟨n, t⟩] : List Drw) 0 = ⟨n, s⟩ := rfl
  unfold kL
  rw [e, if_neg (by simp only; omega), if_neg (by simp only; omega), if_neg (by simp)]
 ·have e : iA ([⟨n, s⟩, ⟨n, t⟩] : List Drw) 1 = ⟨n, t⟩ := rfl
  unfold kL
  rw [e, if_neg (by simp only; omega), if_neg (by simp only; omega), if_neg (by simp [ey hne])]
theorem a6G (lo hi a b : Int) (m : Nat) (dv : Value) (ds : List Drw) (h1 : lo ≤ a) (h2 : a ≤ b) (h3 : b ≤ hi) (hd : lF m ds = 0) : lM (kX lo hi m [⟨a, b, dv, ds⟩]) 1 = 0 := by
 refine kT _ _ fun j hj => ?_
 have hj0 : j = 0 := by omega
 subst hj0
 have e : iA ([⟨a, b, dv, ds⟩] : List Seg) 0 = ⟨a, b, dv, ds⟩ := rfl
 unfold kX
 rw [e, if_neg (by simp only; omega), if_neg (by simp only; omega)]
 exact hd
theorem b8W (lo hi c : Int) (m : Nat) (dv dv' : Value) (ds ds' : List Drw) (h1 : lo < c) (h2 : c ≤ hi) (hd : lF m ds = 0) (hd' : lF m ds' = 0) : lM (kX lo hi m [⟨lo, c - 1, dv, ds⟩, ⟨c, hi, dv', ds'⟩]) 2 = 0 := by
 refine kT _ _ fun j hj => ?_
 have e0 : iA ([⟨lo, c - 1, dv, ds⟩, ⟨c, hi, dv', ds'⟩] : List Seg) 0 = ⟨lo, c - 1, dv, ds⟩ := rfl
 have e1 : iA ([⟨lo, c - 1, dv, ds⟩, ⟨c, hi, dv', ds'⟩] : List Seg) 1 = ⟨c, hi, dv', ds'⟩ := rfl
 have hj0 : j = 0 ∨ j = 1 := by omega
 rcases hj0 with rfl | rfl
 ·unfold kX
  rw [e0, if_neg (by simp only; omega), if_neg (by simp only; omega)]
  exact hd
 ·unfold kX
  rw [e1, show (1 : Nat) - 1 = 0 from rfl, e0, if_neg (by simp only; omega), if_neg (by simp only; omega)]
  exact hd'
def nm (c : UInt8) (i : Nat) : ByteArray := ⟨#[c, UInt8.ofNat (48 + i)]⟩
theorem a4m {c : UInt8} {i j : Nat} (hi : i < 10) (hj : j < 10) (h : nm c i = nm c j) : i = j := by
 unfold nm at h
 have h2 : (#[c, UInt8.ofNat (48 + i)] : Array UInt8) = #[c, UInt8.ofNat (48 + j)] := congrArg ByteArray.data h
 have h3 : UInt8.ofNat (48 + i) = UInt8.ofNat (48 + j) := by simpa using h2
 have h4 := congrArg UInt8.toNat h3
 simp only [UInt8.toNat_ofNat'] at h4
 omega
theorem a0P {c : UInt8} (hc : c = 82 ∨ c = 68 ∨ c = 83 ∨ c = 67) {i : Nat} (hi : i < 10) : kR (nm c i) = true := by
 have h : i = 0 ∨ i = 1 ∨ i = 2 ∨ i = 3 ∨ i = 4 ∨ i = 5 ∨ i = 6 ∨ i = 7 ∨ i = 8 ∨ i = 9 := by omega
 rcases hc with rfl | rfl | rfl | rfl <;> rcases h with rfl | rfl | rfl | rfl | rfl | rfl | rfl | rfl | rfl | rfl <;> decide
structure StpOk (m : Nat) (lo hi : Int) (i : Nat) (s : Stp) : Prop where
 name : s.name = nm 83 i
 feet : (s.num, s.den) ∈ kZ
 pos : 0 < s.segs.length
 len : s.segs.length ≤ 2
 segs : lM (kX lo hi m s.segs) s.segs.length = 0
theorem b3a {p : Int × Int} (h : p ∈ kZ) : mZ p.1 p.2 = 0 := by
 have : kZ.all (fun p => decide (mZ p.1 p.2 = 0)) = true := by decide
 exact of_decide_eq_true (dw.1 this p h)
theorem b3k {p : Int × Int} (h : p ∈ lX) : mZ p.1 p.2 = 0 := by
 have : lX.all (fun p => decide (mZ p.1 p.2 = 0)) = true := by decide
 exact of_decide_eq_true (dw.1 this p h)
theorem StpOk.stopE {rs : List Rk} {lo hi : Int} {i : Nat} {s : Stp} (h : StpOk rs.length lo hi i s) (hi10 : i < 10) (hp : rW rs lo hi = 0) : stopE rs lo hi s = 0 := by
 unfold Go.Ds.stopE
 rw [if_neg (by rw [hp]; simp), if_neg (by rw [h.name, a0P (by simp) hi10]; simp), if_neg (by rw [b3a h.feet]; simp), if_neg (by have := h.pos; omega), if_neg (by have := h.len; omega)]
 exact h.segs
structure RkOk (i : Nat) (r : Rk) : Prop where
 name : r.name = nm 82 i
 tone : r.tone ∈ sQ
 feet : (r.num, r.den) ∈ lX
 first : -128 ≤ r.first ∧ r.first < 128
 pos : 0 < r.wind.length
 len : r.wind.length ≤ 25
 wind : ∀ x ∈ r.wind, 0 ≤ x ∧ x < 256
theorem b5c {s : ByteArray} (h : s ∈ sQ) : kR s = true := by
 have : sQ.all (fun s => kR s) = true := by decide
 exact dw.1 this s h
theorem RkOk.rankE {i : Nat} {r : Rk} (h : RkOk i r) (hi : i < 10) : rankE r = 0 := by
 have hf := h.first
 have hp := h.pos
 have hl := h.len
 have hw : a0d r.wind = 0 := by
  unfold a0d
  rw [if_neg]
  intro hh
  rw [gu] at hh
  obtain ⟨x, hx, hp⟩ := hh
  have := h.wind x hx
  simp only [eu, decide_eq_true_eq] at hp
  omega
 unfold Go.Ds.rankE
 rw [if_neg (by rw [h.name, a0P (by simp) hi, b5c h.tone]; simp), if_neg (by rw [b3k h.feet]; simp), if_neg (by omega), if_neg (by omega), if_neg (by omega), hw]
theorem a1d {lo hi : Int} (h0 : 0 ≤ lo) (h1 : lo ≤ hi) (h2 : hi ≤ 127) : qG lo hi = 0 := by
 unfold qG
 rw [if_neg (by omega), if_neg (by omega)]
theorem c0E {rs : List Rk} {lo hi : Int} (hl : rs.length ≤ 3) (hr : ∀ j, j < rs.length → RkOk j (iA rs j)) (h0 : 0 ≤ lo) (h1 : lo ≤ hi) (h2 : hi ≤ 127) : rW rs lo hi = 0 := by
 have e := kT (fun j => Go.Ds.rankE (iA rs j)) rs.length fun j hj => (hr j hj).rankE (by omega)
 unfold rW
 rw [if_neg (by omega), if_neg (by rw [e]; simp)]
 exact a1d h0 h1 h2
structure DvOk (m i : Nat) (d : Dvn) : Prop where
 name : d.name = nm 68 i
 lo : 36 ≤ d.lo
 le : d.lo ≤ d.hi
 hi : d.hi ≤ 60
 wide : d.hi ≤ d.lo + 8
 len : d.stops.length ≤ 3
 stops : ∀ k, k < d.stops.length → StpOk m d.lo d.hi k (iA d.stops k)
structure CpOk (n i : Nat) (c : Cpl) : Prop where
 name : c.name = nm 67 i
 src : 0 ≤ c.src ∧ c.src < n
 dst : 0 ≤ c.dst ∧ c.dst < n
 shift : -24 ≤ c.shift ∧ c.shift ≤ 24
 ne : ¬ (c.src = c.dst ∧ c.shift = 0)
def b4I : ByteArray := ⟨#[79, 114, 103, 97, 110]⟩
structure OrgOk (o : Org) : Prop where
 name : o.name = b4I
 rpos : 0 < o.ranks.length
 rlen : o.ranks.length ≤ 3
 ranks : ∀ j, j < o.ranks.length → RkOk j (iA o.ranks j)
 dpos : 0 < o.dvs.length
 dlen : o.dvs.length ≤ 3
 dvs : ∀ j, j < o.dvs.length → DvOk o.ranks.length j (iA o.dvs j)
 clen : o.cpls.length ≤ 3
 cpls : ∀ j, j < o.cpls.length → CpOk o.dvs.length j (iA o.cpls j)
theorem b1X : kR b4I = true := by decide
theorem DvOk.divE {rs : List Rk} {i : Nat} {d : Dvn} (h : DvOk rs.length i d) (hl : rs.length ≤ 3) (hr : ∀ j, j < rs.length → RkOk j (iA rs j)) : divE rs d = 0 := by
 have h1 := h.lo
 have h2 := h.le
 have h3 := h.hi
 have h4 := h.len
 unfold Go.Ds.divE
 rw [if_neg (by rw [a1d (by omega) h2 (by omega)]; simp), if_neg (by omega)]
 refine kT _ _ fun j hj => ?_
 have hs := h.stops j hj
 unfold oQ
 rw [if_neg (by rw [hs.stopE (by omega) (c0E hl hr (by omega) h2 (by omega))]; simp), if_neg]
 rintro ⟨q, hq, e⟩
 rw [hs.name, (h.stops q (by omega)).name] at e
 have := a4m (by omega) (by omega) e
 omega
theorem OrgOk.organE {o : Org} (h : OrgOk o) : organE o = 0 := by
 have h1 := h.rpos
 have h2 := h.rlen
 have h3 := h.dpos
 have h4 := h.dlen
 have h5 := h.clen
 have e1 : lM (oD o.ranks) o.ranks.length = 0 := kT _ _ fun j hj => by
  unfold oD
  rw [if_neg (by rw [(h.ranks j hj).rankE (by omega)]; simp), if_neg]
  rintro ⟨q, hq, e⟩
  rw [(h.ranks j hj).name, (h.ranks q (by omega)).name] at e
  have := a4m (by omega) (by omega) e
  omega
 have e2 : lM (sY o.ranks o.dvs) o.dvs.length = 0 := kT _ _ fun j hj => by
  unfold sY
  rw [if_neg (by rw [(h.dvs j hj).name, a0P (by simp) (by omega)]; simp), if_neg]
  ·exact (h.dvs j hj).divE h2 h.ranks
  rintro ⟨q, hq, e⟩
  rw [(h.dvs j hj).name, (h.dvs q (by omega)).name] at e
  have := a4m (by omega) (by omega) e
  omega
 have e3 : sN (kps o.dvs) o.cpls = 0 := by
  have hk : (kps o.dvs).length = o.dvs.length := by simp [kps]
  unfold sN
  rw [if_neg (by omega), if_neg]
  ·refine kT _ _ fun j hj => ?_
   have hc := h.cpls j hj
   have c1 := hc.src
   have c2 := hc.dst
   have c3 := hc.shift
   unfold mM
   simp only
   rw [if_neg (by rw [hc.name, a0P (by simp) (by omega)]; simp), if_neg, if_neg (by rw [hk]; omega), if_neg (by omega), if_neg hc.ne]
   rintro ⟨q, hq, e⟩
   rw [hc.name, (h.cpls q (by omega)).name] at e
   have := a4m (by omega) (by omega) e
   omega
  ·rintro ⟨k, hk, hne⟩
   unfold kps at hk
   obtain ⟨d, hd, rfl⟩ := dF.1 hk
   obtain ⟨j, hj, rfl⟩ := dP.1 hd
   have hd := h.dvs j hj
   rw [jZ o.dvs j hj] at hd
   have h1 := hd.lo
   have h2 := hd.le
   have h3 := hd.hi
   exact hne (a1d (by omega) h2 (by omega))
 unfold Go.Ds.organE
 rw [if_neg (by rw [h.name, b1X]; simp), if_neg (by omega), if_neg (by rw [e1]; simp), if_neg (by omega), if_neg (by omega), if_neg (by rw [e2]; simp)]
 exact e3
def kB (x : Int × Int) : List Value := [I x.1, I x.2]
def pr (l : List (Int × Int)) : List Value := l.flatMap kB
theorem pK (x : Int × Int) : (kB x).length = 2 := rfl
theorem iE (l : List (Int × Int)) : (pr l).length = l.length * 2 := iM pK l
def le2 (x y : Int × Int) : Bool := decide (x.1 < y.1) || (decide (x.1 = y.1) && decide (x.2 ≤ y.2))
theorem oI (x y : Int × Int) : le2 x y = true ↔ x.1 < y.1 ∨ (x.1 = y.1 ∧ x.2 ≤ y.2) := by
 unfold le2
 simp only [eu, da, decide_eq_true_eq]
def vL (es : List (Int × Int)) : List (Int × Int) := es.mergeSort le2
theorem pG (es : List (Int × Int)) : (vL es).Perm es := List.mergeSort_perm _ _
theorem oX (es : List (Int × Int)) : (vL es).length = es.length := (pG es).length_eq
theorem a1E (es : List (Int × Int)) : (vL es).Pairwise fun a b => le2 a b = true := by
 unfold vL
 refine List.pairwise_mergeSort ?_ ?_ _
 ·intro a b c h1 h2
  rw [oI] at *
  omega
 ·intro a b
  rw [eu, oI, oI]
  omega
def cf2 (x y : Int × Int) : Int := if x.1 < y.1 then -1 else if y.1 < x.1 then 1 else if x.2 < y.2 then -1 else if y.2 < x.2 then 1 else 0
def yF {α : Type} [Inhabited α] [DecidableEq α] (es : List α) (m : Nat) : List α := ((List.range m).filter fun i => decide (i = 0 ∨ iA es i ≠ iA es (i - 1))).map fun i => iA es i
def dd {α : Type} [Inhabited α] [DecidableEq α] (es : List α) : List α := yF es es.length
section
variable {α : Type} [Inhabited α] [DecidableEq α]
theorem rG (es : List α) (m : Nat) : yF es (m + 1) = yF es m ++ (if m = 0 ∨ iA es m ≠ iA es (m - 1) then [iA es m] else []) := by
 unfold yF
 rw [eW, eB, dx]
 congr 1
 by_cases h : m = 0 ∨ iA es m ≠ iA es (m - 1)
 ·rw [if_pos h]
  simp only [List.filter_cons, List.filter_nil, decide_eq_true h, if_true, dY, fR]
 ·rw [if_neg h]
  simp only [List.filter_cons, List.filter_nil, decide_eq_false h, dR, if_false, fR]
theorem b9W (es : List α) (m : Nat) : (yF es m).length ≤ m := by
 unfold yF
 rw [dH]
 refine dE (dX _ _) ?_
 simp
theorem kF (es : List α) (m : Nat) (h : m < es.length) : es.take (m + 1) = es.take m ++ [iA es m] := by
 rw [jZ es m h, List.take_succ_eq_append_getElem h]
theorem sJ (es : List α) : ∀ m, m ≤ es.length → (∀ j, 0 < j → j < m → iA es j ≠ iA es (j - 1)) → yF es m = es.take m
 | 0, _, _ => by simp [yF]
 | m + 1, hm, h => by
   have ih := sJ es m (by omega) fun j h1 h2 => h j h1 (by omega)
   rw [rG, ih, kF es m (by omega), if_pos]
   by_cases h0 : m = 0
   ·exact .inl h0
   ·exact .inr (h m (by omega) (by omega))
end
theorem tP {v : Value} {n lo k b : Nat} (h : kE (kS v n lo k) = some b) : kE v = some b := by
 unfold kS at h
 split at h <;> exact h
theorem jT (a b : List (Int × Int)) : pr (a ++ b) = pr a ++ pr b := ee
structure Reg where
 stops : List Nat
 cpl : Nat
 off : Nat
 deriving Inhabited, DecidableEq
def u64 (n : Nat) : Value := .int .u64 n
def Reg.cells (r : Reg) (sv : Value) : List Value := [sv, u64 r.cpl, u64 r.off]
def Reg.Ok (r : Reg) : Prop := r.stops.length < 1000000000 ∧ (∀ x ∈ r.stops, x < 18446744073709551616) ∧ r.cpl < 18446744073709551616 ∧ r.off < 18446744073709551616
def Reg.In (H : Heap) (r : Reg) (sv : Value) : Prop := Sl 1 (one u64) H sv r.stops ∧ r.Ok
theorem Reg.In.ab {P : Program} {H H0 : Heap} {os : List Ob} {r : Reg} {sv : Value} (h : r.In H0 sv) (hS : St P H0 H os) : r.In H sv := ⟨hS.sl h.1, h.2⟩
abbrev Ct := Int × Int
abbrev uY (n : Int) : Int := IntKind.wrap .i64 n
def sC (o : Org) (c : Ct) : Bool := decide (0 ≤ c.1) && decide (c.1 < o.dvs.length) && decide ((iA o.dvs c.1.toNat).lo ≤ c.2) && decide (c.2 ≤ (iA o.dvs c.1.toNat).hi)
def a0t (o : Org) (c : Ct) : Int := if c.1 < 0 ∨ o.dvs.length ≤ c.1 then 10 else if c.2 < (iA o.dvs c.1.toNat).lo ∨ (iA o.dvs c.1.toNat).hi < c.2 then 23 else 0
theorem tS (o : Org) (c : Ct) : a0t o c = 0 ↔ sC o c = true := by
 unfold a0t sC
 by_cases h1 : c.1 < 0 ∨ o.dvs.length ≤ c.1
 ·rw [if_pos h1]
  simp
  omega
 ·rw [if_neg h1]
  by_cases h2 : c.2 < (iA o.dvs c.1.toNat).lo ∨ (iA o.dvs c.1.toNat).hi < c.2
  ·rw [if_pos h2]
   simp
   omega
  ·rw [if_neg h2]
   simp
   omega
def to1 (x : Cpl) (c : Ct) : Ct := (x.dst, uY (c.2 + x.shift))
def a0H (cp : Nat) (thr : Bool) (c : Ct) (x : Cpl) (i : Nat) : Bool := cp.testBit i && decide (x.src = c.1) && (!thr || x.thr)
def step1 (o : Org) (cp : Nat) (thr : Bool) (c : Ct) (q : List Ct) (i : Nat) : List Ct :=
 if a0H cp thr c (iA o.cpls i) i && sC o (to1 (iA o.cpls i) c) && !decide (to1 (iA o.cpls i) c ∈ q) then q ++ [to1 (iA o.cpls i) c] else q
def stepN (o : Org) (cp : Nat) (thr : Bool) (c : Ct) (q : List Ct) (n : Nat) : List Ct := (List.range n).foldl (step1 o cp thr c) q
def stepF (o : Org) (cp : Nat) (thr : Bool) (c : Ct) (q : List Ct) : List Ct := stepN o cp thr c q o.cpls.length
theorem nK (o : Org) (cp : Nat) (thr : Bool) (c : Ct) (q : List Ct) (n : Nat) : stepN o cp thr c q (n + 1) = step1 o cp thr c (stepN o cp thr c q n) n := by
 unfold stepN
 rw [eW, gr]
 rfl
def Que (o : Org) (q : List Ct) : Prop := q.Nodup ∧ ∀ c ∈ q, sC o c = true
theorem Que.nil (o : Org) : Que o [] := ⟨.nil, by simp⟩
theorem Que.step1 {o : Org} {q : List Ct} (h : Que o q) (cp : Nat) (thr : Bool) (c : Ct) (i : Nat) : Que o (step1 o cp thr c q i) := by
 unfold Go.Ds.step1
 split
 ·rename_i hh
  simp only [da, dG, decide_eq_false_iff_not] at hh
  refine ⟨?_, ?_⟩
  ·rw [List.nodup_append]
   exact ⟨h.1, by simp, fun a ha b hb e => hh.2 (by simp at hb; rw [← hb, ← e]; exact ha)⟩
  ·intro x hx
   rcases dD.1 hx with hx | hx
   ·exact h.2 x hx
   ·simp at hx
    rw [hx]
    exact hh.1.2
 ·exact h
theorem Que.stepN {o : Org} {q : List Ct} (h : Que o q) (cp : Nat) (thr : Bool) (c : Ct) : ∀ n, Que o (stepN o cp thr c q n)
 | 0 => h
 | n + 1 => by rw [nK]; exact (h.stepN cp thr c n).step1 cp thr c n
theorem Que.stepF {o : Org} {q : List Ct} (h : Que o q) (cp : Nat) (thr : Bool) (c : Ct) : Que o (stepF o cp thr c q) := h.stepN cp thr c _
theorem a5r : ∀ (N : Nat) (l : List Nat), l.Nodup → (∀ i ∈ l, i < N) → l.length ≤ N
 | 0, l, hn, h => by
   cases l with
   | nil => simp
   | cons a l => exact absurd (h a (by simp)) (dK _)
 | N + 1, l, hn, h => by
   have h1 : (l.erase N).length ≤ N := by
    refine a5r N _ (hn.erase N) fun i hi => ?_
    have h2 := (List.Nodup.mem_erase_iff hn).1 hi
    have := h i h2.2
    omega
   rw [List.length_erase] at h1
   split at h1 <;> omega
theorem zY {f : Nat → Int} {n : Nat} (h : lM f n = 0) : ∀ j, j < n → f j = 0 := by
 intro j hj
 unfold lM at h
 cases hf : (List.range n).find? (fun j => decide (f j ≠ 0)) with
 | some i =>
   rw [hf] at h
   have := List.find?_some hf
   simp only [decide_eq_true_eq] at this
   exact absurd h this
 | none =>
   rw [gN] at hf
   have := hf j (dI.2 hj)
   simpa using this
structure Org.Fine (o : Org) : Prop where
 dpos : 0 < o.dvs.length
 dlen : o.dvs.length ≤ 8
 rlen : o.ranks.length ≤ 60
 keys : ∀ j, j < o.dvs.length → 0 ≤ (iA o.dvs j).lo ∧ (iA o.dvs j).lo ≤ (iA o.dvs j).hi ∧ (iA o.dvs j).hi ≤ 127
 stops : ∀ j, j < o.dvs.length → (iA o.dvs j).stops.length ≤ 60
 clen : o.cpls.length ≤ 40
 draws : ∀ j, j < o.dvs.length → ∀ s ∈ (iA o.dvs j).stops, ∀ g ∈ s.segs, g.draws.length ≤ 8
theorem Org.bD {o : Org} (h : organE o = 0) : o.Fine := by
 unfold organE at h
 split at h
 ·omega
 split at h
 ·omega
 rename_i _ h2
 split at h
 ·rename_i hh; exact absurd h hh
 split at h
 ·omega
 rename_i h4
 split at h
 ·omega
 rename_i h5
 split at h
 ·rename_i hh; exact absurd h hh
 rename_i h6
 have h6 := dC.1 h6
 have hd : ∀ j, j < o.dvs.length → (0 ≤ (iA o.dvs j).lo ∧ (iA o.dvs j).lo ≤ (iA o.dvs j).hi ∧ (iA o.dvs j).hi ≤ 127) ∧ (iA o.dvs j).stops.length ≤ 60 ∧ ∀ s ∈ (iA o.dvs j).stops, ∀ g ∈ s.segs, g.draws.length ≤ 8 := by
  intro j hj
  have e := zY h6 j hj
  unfold sY at e
  split at e
  ·omega
  split at e
  ·omega
  unfold divE at e
  split at e
  ·rename_i hh; exact absurd e hh
  rename_i hc
  have hc := dC.1 hc
  split at e
  ·omega
  unfold qG at hc
  split at hc
  ·omega
  split at hc
  ·omega
  refine ⟨by omega, by omega, fun s hs g hg => ?_⟩
  obtain ⟨k, hk, rfl⟩ := dP.1 hs
  obtain ⟨i, hi, rfl⟩ := dP.1 hg
  have e2 := zY e k hk
  unfold oQ at e2
  rw [jZ _ k hk] at e2
  split at e2
  ·rename_i hh; exact absurd e2 hh
  rename_i e3
  have e3 := dC.1 e3
  unfold stopE at e3
  split at e3
  ·rename_i hh; exact absurd e3 hh
  split at e3
  ·omega
  split at e3
  ·rename_i hh; exact absurd e3 hh
  split at e3
  ·omega
  split at e3
  ·omega
  have e4 := zY e3 i hi
  unfold kX at e4
  rw [jZ _ i hi] at e4
  split at e4
  ·omega
  split at e4
  ·omega
  unfold lF at e4
  split at e4
  ·omega
  omega
 refine ⟨by omega, by omega, by omega, fun j hj => (hd j hj).1, fun j hj => (hd j hj).2.1, ?_, fun j hj => (hd j hj).2.2⟩
 unfold sN at h
 split at h <;> omega
theorem tA (o : Org) (c : Ct) : sC o c = true ↔ 0 ≤ c.1 ∧ c.1 < o.dvs.length ∧ (iA o.dvs c.1.toNat).lo ≤ c.2 ∧ c.2 ≤ (iA o.dvs c.1.toNat).hi := by
 unfold sC
 simp only [da, decide_eq_true_eq, and_assoc]
theorem a1g {o : Org} (ho : o.Fine) {c : Ct} (h : sC o c = true) : 0 ≤ c.1 ∧ c.1 < 8 ∧ 0 ≤ c.2 ∧ c.2 ≤ 127 := by
 have h := (tA o c).1 h
 have hk := ho.keys c.1.toNat (by omega)
 have := ho.dlen
 omega
theorem Que.len {o : Org} {q : List Ct} (h : Que o q) (ho : o.Fine) : q.length ≤ 1024 := by
 have h1 := a5r 1024 (q.map fun c => c.1.toNat * 128 + c.2.toNat) ?_ ?_
 ·simpa using h1
 ·unfold List.Nodup
  rw [List.pairwise_map]
  refine List.Pairwise.imp_of_mem (fun {a b} ha hb hne e => hne ?_) h.1
  have h1 := a1g ho (h.2 a ha)
  have h2 := a1g ho (h.2 b hb)
  apply gT <;> omega
 ·intro i hi
  obtain ⟨c, hc, rfl⟩ := dF.1 hi
  have h1 := a1g ho (h.2 c hc)
  omega
def bfs (o : Org) (cp : Nat) : Nat → Nat → List Ct → List Ct
 | 0, _, q => q
 | n + 1, i, q => if i < q.length then bfs o cp n (i + 1) (stepF o cp true (iA q i) q) else q
def nY (o : Org) (cp : Nat) (l : List Ct) : List Ct := l.foldl (fun q c => stepF o cp false c q) []
def tC (o : Org) (r : Reg) (l : List Ct) : List Ct := dd (vL (l.filter (fun c => !r.off.testBit c.1.toNat) ++ bfs o r.cpl 1100 0 (nY o r.cpl l)))
def pC (rs : List Rk) (d : Drw) (key : Int) : Ct := if d.rank < 0 ∨ rs.length ≤ d.rank then (0, 0) else (d.rank, uY (uY (key + d.shift) - (iA rs d.rank.toNat).first))
def yW (rs : List Rk) (d : Drw) (key : Int) : Bool := !decide (d.rank < 0 ∨ rs.length ≤ d.rank) && decide (0 ≤ (pC rs d key).2) && decide ((pC rs d key).2 < (iA rs d.rank.toNat).wind.length)
def a9s (s : Stp) (key : Int) (j : Nat) : Bool := decide ((iA s.segs j).lo ≤ key) && decide (key ≤ (iA s.segs j).hi)
def a8f (s : Stp) (key : Int) : List Drw := if mW (a9s s key) s.segs.length < 0 then [] else (iA s.segs (mW (a9s s key) s.segs.length).toNat).draws
def sB (rs : List Rk) (s : Stp) (key : Int) : List Ct := dd (vL (((a8f s key).filter fun d => yW rs d key).map fun d => pC rs d key))
def qT (o : Org) (r : Reg) (c : Ct) : List Ct := (List.range (iA o.dvs c.1.toNat).stops.length).flatMap fun i => if (iA r.stops c.1.toNat).testBit i then sB o.ranks (iA (iA o.dvs c.1.toNat).stops i) c.2 else []
def a5d (o : Org) (r : Reg) (l : List Ct) : List Ct := dd (vL (l.flatMap (qT o r)))
def uA (o : Org) (r : Reg) (l : List Ct) : List Ct := a5d o r (tC o r l)
end Go.Ds
namespace Go.Ds
open Go.Proofs Go.Proofs.Tryz
variable {H : Heap}
theorem a7r (a b : Nat) (h : a < 18446744073709551616) : ((a : Nat) : Int).fdiv (2 ^ min b (IntKind.bits .u64)) = ((a >>> b : Nat) : Int) := by
 have e : IntKind.bits .u64 = 64 := rfl
 rw [e]
 have h1 : ((a : Nat) : Int).fdiv (2 ^ min b 64) = ((a / 2 ^ min b 64 : Nat) : Int) := by
  rw [Int.fdiv_eq_ediv_of_nonneg _ (by exact Int.le_of_lt (Int.pow_pos (by decide)))]
  simp
 rw [h1, gD]
 by_cases hb : b ≤ 64
 ·rw [fz hb]
 ·rw [Nat.min_eq_right (by omega)]
  have h2 : a / 2 ^ 64 = 0 := Nat.div_eq_of_lt (by simpa using h)
  have h3 : a / 2 ^ b = 0 := Nat.div_eq_of_lt (dM (by simpa using h) (fS (by decide) (show 64 ≤ b by omega)))
  rw [h2, h3]
theorem a7v (n : Nat) (h : n < 18446744073709551616) : IntKind.wrap .u64 ((BitVec.ofInt (IntKind.bits .u64) (n : Int) &&& BitVec.ofInt (IntKind.bits .u64) 1).toNat : Int) = ((n % 2 : Nat) : Int) := by
 have e : (BitVec.ofInt (IntKind.bits .u64) (n : Int) &&& BitVec.ofInt (IntKind.bits .u64) 1).toNat = n % 2 := by
  show (BitVec.ofInt 64 (n : Int) &&& BitVec.ofInt 64 1).toNat = n % 2
  rw [BitVec.toNat_and]
  have h1 : (BitVec.ofInt 64 (n : Int)).toNat = n := by
   rw [fJ, BitVec.toNat_ofNat]
   exact fX (by simpa using h)
  have h2 : (BitVec.ofInt 64 1).toNat = 1 := rfl
  rw [h1, h2, Nat.and_one_is_mod]
 rw [e]
 have : n % 2 < 2 := eU _ (by decide)
 have hh : n % 2 = 0 ∨ n % 2 = 1 := by omega
 rcases hh with h | h <;> rw [h] <;> rfl
theorem tb (a i : Nat) : a.testBit i = decide (a >>> i % 2 = 1) := by
 rw [Nat.testBit_eq_decide_div_mod_eq, gD]
theorem a1w {a : Nat} (b : Nat) (h : a < 18446744073709551616) : a >>> b < 18446744073709551616 := by
 rw [gD]
 exact Nat.lt_of_le_of_lt (Nat.div_le_self _ _) h
theorem wK (o : Org) (ho : o.In H) (c : Ct) : Fn prog 66 [.agg #[.string o.name, o.rv, o.dv, o.cv], .agg #[I c.1, I c.2]] H fun r H' => r = I (a0t o c) ∧ St prog H H' [] := by
 have hl := ho.2.2.2.2.2.2.1
 refine .aC func66 rfl (by kernel_rfl) (m := 36) rfl fun l hn g0 g1 => ?_
 simp (disch := omega) only [↓RA, RB, simprocAttr, g0]
 refine (sR H).eNew 4 [(.string o.name), o.rv, o.dv, o.cv] rfl rfl (by simp [OC, ((sR H).sl ho.1).cells.2.1, ((sR H).sl ho.2.2.1).cells.2.1, ((sR H).sl ho.2.2.2.2.1).cells.2.1]) lV fun A1 H1 hS1 => ?_
 simp only [RT] at hS1
 simp (disch := omega) only [↓RA, RB, simprocAttr, g1]
 refine hS1.eNew 2 [I c.1, I c.2] rfl rfl rfl qQ fun A2 H2 hS2 => ?_
 simp only [RT] at hS2
 simp (disch := omega) only [↓RA, RZ, simprocAttr, hn, hS2.ld 1 rfl]
 refine iO (fun h1 => ?_) (fun h1 => ?_)
 ·simp (disch := omega) only [↓RA, RZ, simprocAttr, hn, b4z, h1]
  exact ⟨by rw [a0t, if_pos (by omega)], hS2.forget⟩
 simp (disch := omega) only [↓RA, RZ, simprocAttr, hn, hS2.ld 1 rfl, hS2.ld 0 rfl, (hS2.sl ho.2.2.1).len, h1]
 refine gZ (fun h2 => ?_) (fun h2 => ?_)
 ·simp (disch := omega) only [↓RA, RZ, simprocAttr, hn, b4z, h1, h2]
  exact ⟨by rw [a0t, if_pos (by omega)], hS2.forget⟩
 obtain ⟨j, hj⟩ : ∃ j : Nat, c.1 = j := ⟨c.1.toNat, by omega⟩
 have hc : a0t o c = if c.2 < (iA o.dvs j).lo ∨ (iA o.dvs j).hi < c.2 then 23 else 0 := by
  rw [a0t, if_neg (by omega), hj]
  rfl
 rw [hj] at h1 h2
 simp (disch := omega) only [↓RA, RZ, simprocAttr, hn, hS2.ld 0 rfl, h1, h2, hj]
 simp (disch := omega) only [↓RA, RZ, simprocAttr, hn, hS2.ld 1 rfl, (hS2.sl ho.2.2.1).idx, (hS2.sl ho.2.2.1).bz, (hS2.sl ho.2.2.1).cM 2, Dvn.cells, h1, h2, hj]
 refine hS2.eNew 2 [I 0, I 0] rfl rfl rfl a0j fun A3 H3 hS3 => ?_
 simp only [RT] at hS3
 simp (disch := omega) only [↓RA, RZ, simprocAttr, hn, h1, h2, hj]
 refine hS3.aa 2 rfl [I (iA o.dvs j).lo, I (iA o.dvs j).hi] rfl rfl a0j (by simp) fun H4 hS4 => ?_
 simp only [RT] at hS4
 simp (disch := omega) only [↓RA, RZ, simprocAttr, hn, hS4.ld 1 rfl, hS4.ld 2 rfl, h1, h2, hj]
 refine iO (fun h3 => ?_) (fun h3 => ?_)
 ·simp (disch := omega) only [↓RA, RZ, simprocAttr, hn, b4z, h1, h2, hj, h3]
  exact ⟨by rw [hc, if_pos (by omega)], hS4.forget⟩
 simp (disch := omega) only [↓RA, RZ, simprocAttr, hn, hS4.ld 1 rfl, hS4.ld 2 rfl, h1, h2, hj, h3]
 refine gZ (fun h4 => ?_) (fun h4 => ?_)
 ·simp (disch := omega) only [↓RA, RZ, simprocAttr, hn, b4z, h1, h2, hj, h3, h4]
  exact ⟨by rw [hc, if_pos (by omega)], hS4.forget⟩
 simp (disch := omega) only [↓RA, RZ, simprocAttr, hn, b4z, h1, h2, hj, h3, h4]
 exact ⟨by rw [hc, if_neg (by omega)], hS4.forget⟩
def kO (o : Org) (r : Reg) : Int := if organE o ≠ 0 then organE o else if r.stops.length ≠ o.dvs.length then 5 else if ∃ j, j < o.dvs.length ∧ iA r.stops j >>> (iA o.dvs j).stops.length ≠ 0 then 3 else if r.cpl >>> o.cpls.length ≠ 0 ∨ r.off >>> o.dvs.length ≠ 0 then 3 else 0
theorem a8C (o : Org) (ho : o.In H) (r : Reg) (sv : Value) (hr : r.In H sv) : Fn prog 13 [.agg #[.string o.name, o.rv, o.dv, o.cv], .agg #[sv, .int .u64 r.cpl, .int .u64 r.off]] H fun v H' => v = I (kO o r) ∧ St prog H H' [] := by
 have hl := ho.2.2.2.2.2.2.1
 have hlc := ho.2.2.2.2.2.2.2
 obtain ⟨hr1, hr2, hr3, hr4, hr5⟩ := hr
 refine .aC func13 rfl (by kernel_rfl) (m := 55) rfl fun l hn g0 g1 => ?_
 simp (disch := omega) only [↓RA, RB, simprocAttr, g0]
 refine (sR H).eNew 4 [(.string o.name), o.rv, o.dv, o.cv] rfl rfl (by simp [OC, ((sR H).sl ho.1).cells.2.1, ((sR H).sl ho.2.2.1).cells.2.1, ((sR H).sl ho.2.2.2.2.1).cells.2.1]) lV fun A1 H1 hS1 => ?_
 simp only [RT] at hS1
 simp (disch := omega) only [↓RA, RB, simprocAttr, g1]
 refine hS1.eNew 3 [sv, (.int .u64 r.cpl), (.int .u64 r.off)] rfl rfl (by simp [OC, (hS1.sl hr1).cells.2.1]) lN fun A2 H2 hS2 => ?_
 simp only [RT] at hS2
 simp (disch := omega) only [↓RA, RZ, simprocAttr, hn, hS2.ae 0 rfl]
 refine hS2.cF (xZ o (ho.ab hS2)) fun H3 hS3 => ?_
 simp (disch := omega) only [↓RA, RB, simprocAttr, hn]
 refine gZ (fun h1 => ?_) (fun h1 => ?_)
 ·simp (disch := omega) only [↓RA, RZ, simprocAttr, hn, b2u, h1]
  exact ⟨by rw [kO, if_pos h1], hS3.forget⟩
 simp (disch := omega) only [↓RA, RZ, simprocAttr, hn, hS3.ld 1 rfl, (hS3.sl hr1).len, hS3.ld 0 rfl, (hS3.sl ho.2.2.1).len, h1]
 refine gZ (fun h2 => ?_) (fun h2 => ?_)
 ·simp (disch := omega) only [↓RA, RZ, simprocAttr, hn, b2u, h1, h2]
  exact ⟨by rw [kO, if_neg h1, if_pos (by omega)], hS3.forget⟩
 simp (disch := omega) only [↓RA, RZ, simprocAttr, hn, hS3.ld 0 rfl, (hS3.sl ho.2.2.1).len, h1, h2]
 have hE : kO o r = if ∃ j, j < o.dvs.length ∧ iA r.stops j >>> (iA o.dvs j).stops.length ≠ 0 then 3 else if r.cpl >>> o.cpls.length ≠ 0 ∨ r.off >>> o.dvs.length ≠ 0 then 3 else 0 := by rw [kO, if_neg h1, if_neg (by omega)]
 refine Wp.al (fun n l H' => l.length = 55 ∧ get l 2 = (ptr A1 0 4) ∧ get l 3 = (ptr A2 0 3) ∧ get l 21 = o.dv ∧ get l 22 = I o.dvs.length ∧ ∃ (j : Nat), (n + j = o.dvs.length ∧ ∀ q, q < j → iA r.stops q >>> (iA o.dvs q).stops.length = 0) ∧ get l 23 = I j ∧ St prog H H' [⟨ptr A1 0 4, 0, [(.string o.name), o.rv, o.dv, o.cv]⟩, ⟨ptr A2 0 3, 0, [sv, (.int .u64 r.cpl), (.int .u64 r.off)]⟩]) o.dvs.length ?_ ?_
 ·simp (disch := omega) only [RB, RC, simprocAttr, hn]
  exact ⟨0, ⟨by omega, fun q hq => absurd hq (dK _)⟩, rfl, hS3⟩
 rintro n l H4 ⟨hn, g2, g3, g21, g22, j, ⟨hj,hz⟩, g23, hS4⟩
 have e1 := a7r r.cpl o.cpls.length hr4
 have e2 := a7r r.off o.dvs.length hr5
 simp (disch := omega) only [↓RA, RB, simprocAttr, hn, g22, g23]
 refine gZ (fun q1 => ?_) (fun q1 => ?_)
 ·have hst := (ho.2.2.2.1 _ (iD (xs := o.dvs) (j := j) (by omega))).2.2
  have e3 := a7r (iA r.stops j) (iA o.dvs j).stops.length (hr3 _ (iD (by omega)))
  simp (disch := omega) only [↓RA, RZ, simprocAttr, hn, g21, g23, (hS4.sl ho.2.2.1).idx, (hS4.sl ho.2.2.1).ae, Dvn.cells, q1]
  refine hS4.eNew 5 [(.string ⟨#[]⟩), (.bool false), I 0, I 0, (.slice none 0 0)] rfl rfl rfl sW fun A3 H5 hS5 => ?_
  simp only [RT] at hS5
  simp (disch := omega) only [↓RA, RZ, simprocAttr, hn, q1]
  refine hS5.aa 2 rfl [(.string (iA o.dvs j).name), (.bool (iA o.dvs j).pedal), I (iA o.dvs j).lo, I (iA o.dvs j).hi, (iA o.dvs j).sv] rfl (by simp [OC, (hS5.sl (ho.2.2.2.1 (iA o.dvs j) (iD (by omega))).1).cells.2.1]) sW (by simp) fun H6 hS6 => ?_
  simp only [RT] at hS6
  simp (disch := omega) only [↓RA, RZ, simprocAttr, q1]
  refine Wp.drw kC (by kernel_rfl) ?_
  simp (disch := omega) only [↓RA, RZ, simprocAttr, hn, g3, hS6.ld 1 rfl, (hS6.sl hr1).idx, (hS6.sl hr1).ld, one, u64, hS6.ld 2 rfl, (hS6.sl (ho.2.2.2.1 (iA o.dvs j) (iD (by omega))).1).len, e3]
  refine gZ (fun q2 => ?_) (fun q2 => ?_)
  ·simp (disch := omega) only [↓RA, RZ, simprocAttr, hn, b2u, q2]
   exact ⟨by rw [hE, if_pos ⟨j, by omega, by omega⟩], hS6.forget⟩
  simp (disch := omega) only [↓RA, RZ, simprocAttr, hn, g2, g3, g21, g22, g23, q2]
  exact ⟨n - 1, by omega, j + 1, ⟨by omega, fun q hq => by rcases dr.1 hq with e | e; (· exact hz q e); (· rw [e]; omega)⟩, by simp, hS6.sub (by simp)⟩
 simp (disch := omega) only [↓RA, RZ, simprocAttr, hn, g2, g3, hS4.ld 1 rfl, hS4.ld 0 rfl, (hS4.sl ho.2.2.2.2.1).len, q1, e1]
 have hno : ¬ ∃ j, j < o.dvs.length ∧ iA r.stops j >>> (iA o.dvs j).stops.length ≠ 0 := by
  rintro ⟨q, hq, hne⟩
  exact hne (hz q (by omega))
 rw [if_neg hno] at hE
 clear hno
 refine iO (fun q3 => ?_) (fun q3 => ?_)
 ·simp (disch := omega) only [↓RA, RZ, simprocAttr, hn, b2u, q1, q3]
  exact ⟨by rw [hE, if_pos (by omega)], hS4.forget⟩
 simp (disch := omega) only [↓RA, RZ, simprocAttr, hn, g2, g3, hS4.ld 1 rfl, hS4.ld 0 rfl, (hS4.sl ho.2.2.1).len, q1, e2, q3]
 refine gZ (fun q4 => ?_) (fun q4 => ?_)
 ·simp (disch := omega) only [↓RA, RZ, simprocAttr, hn, b2u, q1, q3, q4]
  exact ⟨by rw [hE, if_pos (by omega)], hS4.forget⟩
 simp (disch := omega) only [↓RA, RZ, simprocAttr, hn, b2u, q1, q3, q4]
 exact ⟨by rw [hE, if_neg (by omega)], hS4.forget⟩
end Go.Ds
namespace Go.Ds
open Go.Proofs
variable {H : Heap}
theorem b3i (n : Nat) (h : n < 18446744073709551616) : (BitVec.ofInt (IntKind.bits .u64) (n : Int)).toNat = n := by
 show (BitVec.ofInt 64 (n : Int)).toNat = n
 rw [fJ, BitVec.toNat_ofNat]
 exact fX (by simpa using h)
end Go.Ds
namespace Go.Ds
open Go.Proofs Go.Proofs.Tryz
variable {H : Heap}
set_option maxRecDepth 10000
theorem RdAt.sub_self {v : Value} {size n : Nat} {cs : List Value} (h : RdAt H v (size + 1) cs) (hn : cs.length = n * (size + 1)) : kS v (size + 1) 0 n = v := by
 rcases h with ⟨rfl, _⟩ | ⟨A, i, e, row, ty, rw, lo, ver, m, _, _, _, _, _, h6, rfl⟩
 ·rfl
 ·have : m = n := fw (fx size) (h6.symm.trans hn)
  subst this
  simp [kS]
theorem tH {v : Value} {xs : List (Int × Int)} {rest : List Value} (h : RdAt H v 2 (pr xs ++ rest)) : RdAt H (kS v 2 0 xs.length) 2 (pr xs) := by
 by_cases h0 : pr xs ++ rest = []
 ·have hx : xs.length = 0 := by
   have := congrArg List.length h0
   rw [dg, iE, eA] at this
   omega
  have e := RdAt.sub_self (size := 1) (n := 0) h (by rw [h0]; rfl)
  obtain rfl := fj.1 hx
  show RdAt H (kS v 2 0 0) 2 []
  rw [show kS v 2 0 0 = v from e]
  rwa [h0] at h
 ·have h5 := RdAt.sub h 0 xs.length (by rw [dg, iE]; omega) h0
  rw [Nat.zero_mul, gR, show xs.length * 2 = (pr xs).length from (iE xs).symm, List.take_left' rfl] at h5
  exact h5
theorem yE {H0 : Heap} {v : Value} {xs : List (Int × Int)} {rest : List Value} (h : St prog H0 H [⟨v, 2, pr xs ++ rest⟩]) : Slx 2 kB H (fun B => H0.length ≤ B) (kS v 2 0 xs.length) xs := by
 refine ⟨⟨tH (h.rd 0 rfl), pK, by decide⟩, fun b hb => ?_⟩
 rcases h.new _ (ew ..) b (tP hb) with h | h
 ·exact h
 ·exact h.elim
theorem c1E : a3K prog 60 = some (1 + 1) := by kernel_rfl
theorem c2f : a3K prog 45 = some (1 + 1) := by kernel_rfl
theorem a4L {B : Base} {v : Value} {es : List (Int × Int)} (hS : St prog B H [⟨v, 2, pr es⟩]) (hl : es.length < 100000000000) :
 Fn prog 114 [v] H fun r H' => ∃ rest : List Value, r = kS v 2 0 (dd es).length ∧ St prog B H' [⟨v, 2, pr (dd es) ++ rest⟩] := by
 refine .aY func114 rfl (by kernel_rfl) (m := 61) rfl fun l hn g0 => ?_
 simp (disch := omega) only [↓RA, RZ, simprocAttr, hn, g0, (hS.ax 0 rfl (fun _ => rfl)).len]
 refine gZ (fun h => ?_) (fun h => ?_)
 ·have hd := sJ es es.length (di _) fun j h1 h2 => by omega
  rw [ef] at hd
  simp (disch := omega) only [↓RA, RZ, simprocAttr, hn, g0, b5b, h]
  exact ⟨[], by unfold dd; rw [hd]; exact (RdAt.sub_self (size := 1) (hS.rd 0 rfl) (iE es)).symm, by unfold dd; rw [hd, dp]; exact hS⟩
 simp (disch := omega) only [↓RA, RZ, simprocAttr, h]
 refine Wp.al (fun n l H' => l.length = 61 ∧ get l 0 = v ∧ ∃ (k : Nat), (0 < k ∧ n + k = es.length ∧ ∀ j, 0 < j → j < k → iA es j ≠ iA es (j - 1)) ∧ get l 3 = I k ∧ St prog B H' [⟨v, 2, pr es⟩]) (es.length - 1) ?_ ?_
 ·simp (disch := omega) only [RB, RC, simprocAttr, hn, g0]
  exact ⟨1, ⟨by omega, by omega, fun j h1 h2 => by omega⟩, rfl, hS⟩
 rintro n l H1 ⟨hn, g0, k, ⟨hk0,hk,hdis⟩, g3, hS1⟩
 simp (disch := omega) only [↓RA, RZ, simprocAttr, hn, g0, g3, (hS1.ax 0 rfl (fun _ => rfl)).len]
 refine gZ (fun h2 => ?_) (fun h2 => ?_)
 ·have hkl : k < es.length := by omega
  have hpre : (k : Int) - 1 = ((k - 1 : Nat) : Int) := by omega
  simp (disch := omega) only [↓RA, RC, simprocAttr, h2]
  refine Wp.drw kC (by kernel_rfl) ?_
  simp (disch := omega) only [↓RA, RZ, simprocAttr, hn, g0, g3, (hS1.ax 0 rfl (fun _ => rfl)).idx, (hS1.ax 0 rfl (fun _ => rfl)).ae, kB, hpre]
  refine gZ (fun h3 => ?_) (fun h3 => ?_)
  ·have h3 : iA es k = iA es (k - 1) := gT h3.1 h3.2
   have hlen : (pr es).length = es.length * (1 + 1) := iE es
   have hpos : 0 < es.length := by omega
   have hdk := sJ es k (by omega) hdis
   have hdk1 : yF es (k + 1) = es.take k := by rw [rG, hdk, if_neg (by rintro (h4 | h4); omega; exact h4 h3), dp]
   have hrow : St prog B H1 [⟨v, 2, pr (yF es (k + 1) ++ es.drop k)⟩] := by rw [hdk1, fM]; exact hS1
   have hdl : (yF es (k + 1)).length = k := by rw [hdk1, eI]; omega
   simp (disch := omega) only [↓RA, RZ, simprocAttr, hn, g0, g3, (hS1.ax 0 rfl (fun _ => rfl)).aK, h3]
   refine Wp.al (fun n l H' => l.length = 61 ∧ get l 0 = v ∧ ∃ k2 : Nat, (0 < k2 ∧ n + k + k2 = es.length ∧ (yF es (k + k2)).length < k + k2) ∧ get l 3 = I (yF es (k + k2)).length ∧ get l 4 = kS v 2 k (es.length - k) ∧ get l 5 = I k2 ∧ St prog B H' [⟨v, 2, pr (yF es (k + k2) ++ es.drop (yF es (k + k2)).length)⟩]) (es.length - k - 1) ?_ ?_
   ·simp (disch := omega) only [RB, RC, simprocAttr, hn, g0, g3]
    refine ⟨1, ⟨by omega, by omega, by omega⟩, by rw [hdl], by congr 1; omega, rfl, ?_⟩
    rw [hdl]
    exact hrow
   clear hrow hdk hdk1 hdl hdis
   rintro n l H9 ⟨hn, g0, k2, ⟨hk20, hk2, hlt⟩, g3, g4, g5, hS9⟩
   have hsucc := rG es (k + k2)
   generalize hD : yF es (k + k2) = D at g3 hlt hS9 hsucc
   have hrl : (D ++ es.drop D.length).length = es.length := by rw [dg, eh]; omega
   have hv : Sl 2 kB H9 v (D ++ es.drop D.length) := hS9.ax 0 rfl pK
   have hat : ∀ j, D.length ≤ j → iA (D ++ es.drop D.length) j = iA es j := fun j hj => by
    unfold iA
    rw [dc, dU hj, dB, dc]
    congr 2; omega
   have hsub : Sl 2 kB H9 (kS v 2 k ((D ++ es.drop D.length).length - k)) ((D ++ es.drop D.length).drop k) := hv.cC k (by omega) (by omega)
   rw [hrl] at hsub
   have hsl : ((D ++ es.drop D.length).drop k).length = es.length - k := by rw [eh, hrl]
   have hsat : ∀ j, D.length ≤ k + j → iA ((D ++ es.drop D.length).drop k) j = iA es (k + j) := fun j hj => by
    rw [← hat (k + j) hj]
    unfold iA
    rw [dc, dB, dc]
   have hbd : ((es.length - k : Nat) : Int) = (es.length : Int) - k := by omega
   simp (disch := omega) only [↓RA, RZ, simprocAttr, hn, g4, g5, hsub.len, hsl, hbd]
   refine gZ (fun h4 => ?_) (fun h4 => ?_)
   ·have hj : k + k2 < es.length := by omega
    have hpre2 : (k2 : Int) - 1 = ((k2 - 1 : Nat) : Int) := by omega
    have e1 := hsat k2 (by omega)
    have e2 := hsat (k2 - 1) (by omega)
    rw [show k + (k2 - 1) = k + k2 - 1 from by omega] at e2
    simp (disch := omega) only [↓RA, RC, simprocAttr, h4]
    refine Wp.drw kC (by kernel_rfl) ?_
    simp (disch := omega) only [↓RA, RZ, simprocAttr, hn, g4, g5, hsub.idx, hsub.ae, kB, hpre2, e1, e2]
    refine gZ (fun h5 => ?_) (fun h5 => ?_)
    ·have hne : iA es (k + k2) ≠ iA es (k + k2 - 1) := fun e => h5 (by rw [e]; exact ⟨rfl, rfl⟩)
     rw [if_pos (.inr hne)] at hsucc
     simp (disch := omega) only [↓RA, RZ, simprocAttr, hn, g0, g3, g4, g5, hsub.idx, hsub.ae, kB, e1, h5]
     simp (disch := omega) only [↓RA, RZ, simprocAttr, hn, (hS9.ax 0 rfl (fun _ => rfl)).idx, h5]
     refine hS9.aP 0 rfl [I (iA es (k + k2)).1, I (iA es (k + k2)).2] rfl rfl qQ (by simp) (by rw [iE, hrl]; simp; omega) fun H2 hS2 => ?_
     simp only [RT] at hS2
     simp (disch := omega) only [↓RA, RZ, simprocAttr, hn, g0, g3, g4, g5, h5]
     refine ⟨n - 1, by omega, k2 + 1, ?_⟩
     rw [show k + (k2 + 1) = k + k2 + 1 from by omega, hsucc]
     refine ⟨⟨by omega, by omega, by simp; omega⟩, by simp, by simp, ?_⟩
     have e3 : pr (D ++ [iA es (k + k2)] ++ es.drop (D ++ [iA es (k + k2)]).length) = ((pr (D ++ es.drop D.length)).set (D.length * 2) (I (iA es (k + k2)).1)).set (D.length * 2 + 1) (I (iA es (k + k2)).2) := by
      have hx : es.drop D.length = iA es D.length :: es.drop (D.length + 1) := by
       rw [jZ es _ (by omega)]
       exact eL (by omega)
      rw [hx, dg, gj, jT, jT, jT]
      have e4 : pr (iA es D.length :: es.drop (D.length + 1)) = I (iA es D.length).1 :: I (iA es D.length).2 :: pr (es.drop (D.length + 1)) := rfl
      have e5 : pr [iA es (k + k2)] = [I (iA es (k + k2)).1, I (iA es (k + k2)).2] := rfl
      have e6 : (pr D).length = D.length * 2 := iE D
      rw [e4, e5, dS _ _ (by omega), dS _ _ (by omega), e6, gA, fo]
      simp
     rw [e3]
     exact hS2
    have heq : iA es (k + k2) = iA es (k + k2 - 1) := by
     have h6 := dC.1 h5
     exact gT h6.1 h6.2
    rw [if_neg (by rintro (h6 | h6); omega; exact h6 heq), dp] at hsucc
    simp (disch := omega) only [↓RA, RZ, simprocAttr, hn, g0, g3, g4, g5, h5]
    refine ⟨n - 1, by omega, k2 + 1, ?_⟩
    rw [show k + (k2 + 1) = k + k2 + 1 from by omega, hsucc]
    exact ⟨⟨by omega, by omega, by omega⟩, rfl, by simp, hS9⟩
   have hke : k + k2 = es.length := by omega
   rw [hke] at hD
   have hcl : (pr (D ++ es.drop D.length)).length = es.length * (1 + 1) := by rw [iE, hrl]
   have hDn : D.length ≤ es.length := by omega
   simp (disch := omega) only [↓RA, RZ, simprocAttr, hn, g0, g3, (hS9.ax 0 rfl (fun _ => rfl)).aK, h4]
   rw [show (((D ++ es.drop D.length).length : Int) - D.length).toNat = es.length - D.length from by rw [hrl]; omega]
   refine hS9.bm (size := 1) 0 rfl D.length (es.length - D.length) (by rw [hcl]; omega) (by
    intro e
    have h2 : (pr (D ++ es.drop D.length)).length = 0 := by rw [e]; rfl
    rw [iE, hrl] at h2; omega) c1E fun z H3 hz hSc => ?_
   simp only [RT] at hSc
   have e3 : iX (pr (D ++ es.drop D.length)) (D.length * 2) z = pr D ++ z := by
    rw [jT, show D.length * 2 = (pr D).length from (iE D).symm, lZ z (pr D) (pr (es.drop D.length)) (by rw [iE, eh]; omega)]
    rw [ga (by rw [iE, eh]; omega), dp]
   rw [show D.length * (1 + 1) = D.length * 2 from rfl, e3] at hSc
   have hw : RdAt H3 v (1 + 1) (pr D ++ z) := hSc.rd 0 rfl
   have hwl : (pr D ++ z).length = es.length * (1 + 1) := by rw [dg, iE, hz]; omega
   simp (disch := omega) only [↓RA, RZ, simprocAttr, hn, g0, g3, hw.aL hwl, b5b, h4]
   exact ⟨z, by unfold dd; rw [hD], by unfold dd; rw [hD]; exact hSc⟩
  have hne : iA es k ≠ iA es (k - 1) := fun e => h3 (by rw [e]; exact ⟨rfl, rfl⟩)
  simp (disch := omega) only [↓RA, RZ, simprocAttr, hn, g0, g3, h3]
  refine ⟨n - 1, by omega, k + 1, ⟨by omega, by omega, fun j h4 h5 => ?_⟩, by simp, hS1⟩
  by_cases e : j = k
  ·rw [e]; exact hne
  ·exact hdis j h4 (by omega)
 have hke : k = es.length := by omega
 have hd := sJ es es.length (di _) (hke ▸ hdis)
 rw [ef] at hd
 simp (disch := omega) only [↓RA, RZ, simprocAttr, hn, g0, b5b, h2]
 exact ⟨[], by unfold dd; rw [hd]; exact (RdAt.sub_self (size := 1) (hS.rd 0 rfl) (iE es)).symm, by unfold dd; rw [hd, dp]; exact hS1⟩
theorem a5A {B : Base} {v : Value} {es : List (Int × Int)} (hS : St prog B H [⟨v, 2, pr es⟩]) (hl : es.length < 100000000000) :
 Fn prog 114 [v] H fun r H' => ∃ rest : List Value, (∀ b, kE r = some b → kE v = some b) ∧ (∀ H2, RdAt H2 v 2 (pr (dd es) ++ rest) → RdAt H2 r 2 (pr (dd es))) ∧ St prog B H' [⟨v, 2, pr (dd es) ++ rest⟩] :=
 (a4L hS hl).mono fun _ _ ⟨rest, e, h⟩ => ⟨rest, fun _ h => tP (e ▸ h), fun _ h => e ▸ tH h, h⟩
theorem wO {B : Base} {v : Value} {es : List (Int × Int)} (hS : St prog B H [⟨v, 2, pr es⟩]) (hl : es.length < 100000000000) :
 Fn prog 72 [v] H fun r H' => ∃ rest : List Value, r = kS v 2 0 (dd es).length ∧ St prog B H' [⟨v, 2, pr (dd es) ++ rest⟩] := by
 refine .aY func72 rfl (by kernel_rfl) (m := 61) rfl fun l hn g0 => ?_
 simp (disch := omega) only [↓RA, RZ, simprocAttr, hn, g0, (hS.ax 0 rfl (fun _ => rfl)).len]
 refine gZ (fun h => ?_) (fun h => ?_)
 ·have hd := sJ es es.length (di _) fun j h1 h2 => by omega
  rw [ef] at hd
  simp (disch := omega) only [↓RA, RZ, simprocAttr, hn, g0, c0n, h]
  exact ⟨[], by unfold dd; rw [hd]; exact (RdAt.sub_self (size := 1) (hS.rd 0 rfl) (iE es)).symm, by unfold dd; rw [hd, dp]; exact hS⟩
 simp (disch := omega) only [↓RA, RZ, simprocAttr, h]
 refine Wp.al (fun n l H' => l.length = 61 ∧ get l 0 = v ∧ ∃ (k : Nat), (0 < k ∧ n + k = es.length ∧ ∀ j, 0 < j → j < k → iA es j ≠ iA es (j - 1)) ∧ get l 3 = I k ∧ St prog B H' [⟨v, 2, pr es⟩]) (es.length - 1) ?_ ?_
 ·simp (disch := omega) only [RB, RC, simprocAttr, hn, g0]
  exact ⟨1, ⟨by omega, by omega, fun j h1 h2 => by omega⟩, rfl, hS⟩
 rintro n l H1 ⟨hn, g0, k, ⟨hk0,hk,hdis⟩, g3, hS1⟩
 simp (disch := omega) only [↓RA, RZ, simprocAttr, hn, g0, g3, (hS1.ax 0 rfl (fun _ => rfl)).len]
 refine gZ (fun h2 => ?_) (fun h2 => ?_)
 ·have hkl : k < es.length := by omega
  have hpre : (k : Int) - 1 = ((k - 1 : Nat) : Int) := by omega
  simp (disch := omega) only [↓RA, RC, simprocAttr, h2]
  refine Wp.drw kC (by kernel_rfl) ?_
  simp (disch := omega) only [↓RA, RZ, simprocAttr, hn, g0, g3, (hS1.ax 0 rfl (fun _ => rfl)).idx, (hS1.ax 0 rfl (fun _ => rfl)).ae, kB, hpre]
  refine gZ (fun h3 => ?_) (fun h3 => ?_)
  ·have h3 : iA es k = iA es (k - 1) := gT h3.1 h3.2
   have hlen : (pr es).length = es.length * (1 + 1) := iE es
   have hpos : 0 < es.length := by omega
   have hdk := sJ es k (by omega) hdis
   have hdk1 : yF es (k + 1) = es.take k := by rw [rG, hdk, if_neg (by rintro (h4 | h4); omega; exact h4 h3), dp]
   have hrow : St prog B H1 [⟨v, 2, pr (yF es (k + 1) ++ es.drop k)⟩] := by rw [hdk1, fM]; exact hS1
   have hdl : (yF es (k + 1)).length = k := by rw [hdk1, eI]; omega
   simp (disch := omega) only [↓RA, RZ, simprocAttr, hn, g0, g3, (hS1.ax 0 rfl (fun _ => rfl)).aK, h3]
   refine Wp.al (fun n l H' => l.length = 61 ∧ get l 0 = v ∧ ∃ k2 : Nat, (0 < k2 ∧ n + k + k2 = es.length ∧ (yF es (k + k2)).length < k + k2) ∧ get l 3 = I (yF es (k + k2)).length ∧ get l 4 = kS v 2 k (es.length - k) ∧ get l 5 = I k2 ∧ St prog B H' [⟨v, 2, pr (yF es (k + k2) ++ es.drop (yF es (k + k2)).length)⟩]) (es.length - k - 1) ?_ ?_
   ·simp (disch := omega) only [RB, RC, simprocAttr, hn, g0, g3]
    refine ⟨1, ⟨by omega, by omega, by omega⟩, by rw [hdl], by congr 1; omega, rfl, ?_⟩
    rw [hdl]
    exact hrow
   clear hrow hdk hdk1 hdl hdis
   rintro n l H9 ⟨hn, g0, k2, ⟨hk20, hk2, hlt⟩, g3, g4, g5, hS9⟩
   have hsucc := rG es (k + k2)
   generalize hD : yF es (k + k2) = D at g3 hlt hS9 hsucc
   have hrl : (D ++ es.drop D.length).length = es.length := by rw [dg, eh]; omega
   have hv : Sl 2 kB H9 v (D ++ es.drop D.length) := hS9.ax 0 rfl pK
   have hat : ∀ j, D.length ≤ j → iA (D ++ es.drop D.length) j = iA es j := fun j hj => by
    unfold iA
    rw [dc, dU hj, dB, dc]
    congr 2; omega
   have hsub : Sl 2 kB H9 (kS v 2 k ((D ++ es.drop D.length).length - k)) ((D ++ es.drop D.length).drop k) := hv.cC k (by omega) (by omega)
   rw [hrl] at hsub
   have hsl : ((D ++ es.drop D.length).drop k).length = es.length - k := by rw [eh, hrl]
   have hsat : ∀ j, D.length ≤ k + j → iA ((D ++ es.drop D.length).drop k) j = iA es (k + j) := fun j hj => by
    rw [← hat (k + j) hj]
    unfold iA
    rw [dc, dB, dc]
   have hbd : ((es.length - k : Nat) : Int) = (es.length : Int) - k := by omega
   simp (disch := omega) only [↓RA, RZ, simprocAttr, hn, g4, g5, hsub.len, hsl, hbd]
   refine gZ (fun h4 => ?_) (fun h4 => ?_)
   ·have hj : k + k2 < es.length := by omega
    have hpre2 : (k2 : Int) - 1 = ((k2 - 1 : Nat) : Int) := by omega
    have e1 := hsat k2 (by omega)
    have e2 := hsat (k2 - 1) (by omega)
    rw [show k + (k2 - 1) = k + k2 - 1 from by omega] at e2
    simp (disch := omega) only [↓RA, RC, simprocAttr, h4]
    refine Wp.drw kC (by kernel_rfl) ?_
    simp (disch := omega) only [↓RA, RZ, simprocAttr, hn, g4, g5, hsub.idx, hsub.ae, kB, hpre2, e1, e2]
    refine gZ (fun h5 => ?_) (fun h5 => ?_)
    ·have hne : iA es (k + k2) ≠ iA es (k + k2 - 1) := fun e => h5 (by rw [e]; exact ⟨rfl, rfl⟩)
     rw [if_pos (.inr hne)] at hsucc
     simp (disch := omega) only [↓RA, RZ, simprocAttr, hn, g0, g3, g4, g5, hsub.idx, hsub.ae, kB, e1, h5]
     simp (disch := omega) only [↓RA, RZ, simprocAttr, hn, (hS9.ax 0 rfl (fun _ => rfl)).idx, h5]
     refine hS9.aP 0 rfl [I (iA es (k + k2)).1, I (iA es (k + k2)).2] rfl rfl sL (by simp) (by rw [iE, hrl]; simp; omega) fun H2 hS2 => ?_
     simp only [RT] at hS2
     simp (disch := omega) only [↓RA, RZ, simprocAttr, hn, g0, g3, g4, g5, h5]
     refine ⟨n - 1, by omega, k2 + 1, ?_⟩
     rw [show k + (k2 + 1) = k + k2 + 1 from by omega, hsucc]
     refine ⟨⟨by omega, by omega, by simp; omega⟩, by simp, by simp, ?_⟩
     have e3 : pr (D ++ [iA es (k + k2)] ++ es.drop (D ++ [iA es (k + k2)]).length) = ((pr (D ++ es.drop D.length)).set (D.length * 2) (I (iA es (k + k2)).1)).set (D.length * 2 + 1) (I (iA es (k + k2)).2) := by
      have hx : es.drop D.length = iA es D.length :: es.drop (D.length + 1) := by
       rw [jZ es _ (by omega)]
       exact eL (by omega)
      rw [hx, dg, gj, jT, jT, jT]
      have e4 : pr (iA es D.length :: es.drop (D.length + 1)) = I (iA es D.length).1 :: I (iA es D.length).2 :: pr (es.drop (D.length + 1)) := rfl
      have e5 : pr [iA es (k + k2)] = [I (iA es (k + k2)).1, I (iA es (k + k2)).2] := rfl
      have e6 : (pr D).length = D.length * 2 := iE D
      rw [e4, e5, dS _ _ (by omega), dS _ _ (by omega), e6, gA, fo]
      simp
     rw [e3]
     exact hS2
    have heq : iA es (k + k2) = iA es (k + k2 - 1) := by
     have h6 := dC.1 h5
     exact gT h6.1 h6.2
    rw [if_neg (by rintro (h6 | h6); omega; exact h6 heq), dp] at hsucc
    simp (disch := omega) only [↓RA, RZ, simprocAttr, hn, g0, g3, g4, g5, h5]
    refine ⟨n - 1, by omega, k2 + 1, ?_⟩
    rw [show k + (k2 + 1) = k + k2 + 1 from by omega, hsucc]
    exact ⟨⟨by omega, by omega, by omega⟩, rfl, by simp, hS9⟩
   have hke : k + k2 = es.length := by omega
   rw [hke] at hD
   have hcl : (pr (D ++ es.drop D.length)).length = es.length * (1 + 1) := by rw [iE, hrl]
   have hDn : D.length ≤ es.length := by omega
   simp (disch := omega) only [↓RA, RZ, simprocAttr, hn, g0, g3, (hS9.ax 0 rfl (fun _ => rfl)).aK, h4]
   rw [show (((D ++ es.drop D.length).length : Int) - D.length).toNat = es.length - D.length from by rw [hrl]; omega]
   refine hS9.bm (size := 1) 0 rfl D.length (es.length - D.length) (by rw [hcl]; omega) (by
    intro e
    have h2 : (pr (D ++ es.drop D.length)).length = 0 := by rw [e]; rfl
    rw [iE, hrl] at h2; omega) c2f fun z H3 hz hSc => ?_
   simp only [RT] at hSc
   have e3 : iX (pr (D ++ es.drop D.length)) (D.length * 2) z = pr D ++ z := by
    rw [jT, show D.length * 2 = (pr D).length from (iE D).symm, lZ z (pr D) (pr (es.drop D.length)) (by rw [iE, eh]; omega)]
    rw [ga (by rw [iE, eh]; omega), dp]
   rw [show D.length * (1 + 1) = D.length * 2 from rfl, e3] at hSc
   have hw : RdAt H3 v (1 + 1) (pr D ++ z) := hSc.rd 0 rfl
   have hwl : (pr D ++ z).length = es.length * (1 + 1) := by rw [dg, iE, hz]; omega
   simp (disch := omega) only [↓RA, RZ, simprocAttr, hn, g0, g3, hw.aL hwl, c0n, h4]
   exact ⟨z, by unfold dd; rw [hD], by unfold dd; rw [hD]; exact hSc⟩
  have hne : iA es k ≠ iA es (k - 1) := fun e => h3 (by rw [e]; exact ⟨rfl, rfl⟩)
  simp (disch := omega) only [↓RA, RZ, simprocAttr, hn, g0, g3, h3]
  refine ⟨n - 1, by omega, k + 1, ⟨by omega, by omega, fun j h4 h5 => ?_⟩, by simp, hS1⟩
  by_cases e : j = k
  ·rw [e]; exact hne
  ·exact hdis j h4 (by omega)
 have hke : k = es.length := by omega
 have hd := sJ es es.length (di _) (hke ▸ hdis)
 rw [ef] at hd
 simp (disch := omega) only [↓RA, RZ, simprocAttr, hn, g0, c0n, h2]
 exact ⟨[], by unfold dd; rw [hd]; exact (RdAt.sub_self (size := 1) (hS.rd 0 rfl) (iE es)).symm, by unfold dd; rw [hd, dp]; exact hS1⟩
theorem a6b {B : Base} {v : Value} {es : List (Int × Int)} (hS : St prog B H [⟨v, 2, pr es⟩]) (hl : es.length < 100000000000) :
 Fn prog 72 [v] H fun r H' => ∃ rest : List Value, (∀ b, kE r = some b → kE v = some b) ∧ (∀ H2, RdAt H2 v 2 (pr (dd es) ++ rest) → RdAt H2 r 2 (pr (dd es))) ∧ St prog B H' [⟨v, 2, pr (dd es) ++ rest⟩] :=
 (wO hS hl).mono fun _ _ ⟨rest, e, h⟩ => ⟨rest, fun _ h => tP (e ▸ h), fun _ h => e ▸ tH h, h⟩
end Go.Ds
namespace Go.Ds
open Go.Proofs Go.Proofs.Tryz
variable {H : Heap}
theorem a6P (a : Int) : Fn prog 117 [I a] H fun r H' => r = .bool false ∧ St prog H H' [] := by
 refine .aY func117 rfl (by kernel_rfl) (m := 6) rfl fun l hn g0 => ?_
 simp (disch := omega) only [↓RA, RZ, simprocAttr, hn, g0, c3E]
 exact .refl _ _
def sE (a b : Int) : Int := if a < b then -1 else if b < a then 1 else 0
theorem uG (a b : Int) : Fn prog 63 [I a, I b] H fun r H' => r = I (sE a b) ∧ St prog H H' [] := by
 refine .aC func63 rfl (by kernel_rfl) (m := 20) rfl fun l hn g0 g1 => ?_
 simp (disch := omega) only [↓RA, RZ, simprocAttr, hn, g0]
 refine (sR H).cF (a6P _) fun H1 hS1 => ?_
 simp (disch := omega) only [↓RA, RZ, simprocAttr, hn, g1]
 refine hS1.cF (a6P _) fun H2 hS2 => ?_
 simp (disch := omega) only [↓RA, RB, simprocAttr, hn, g0, g1]
 refine gZ (fun h => ?_) (fun h => ?_)
 ·simp (disch := omega) only [↓RA, RZ, simprocAttr, hn, b9F, h]
  exact ⟨by simp [sE, h], hS2⟩
 simp (disch := omega) only [↓RA, RZ, simprocAttr, hn, g0, g1, h]
 refine gZ (fun h2 => ?_) (fun h2 => ?_)
 ·simp (disch := omega) only [↓RA, RZ, simprocAttr, hn, b9F, h, h2]
  exact ⟨by simp [sE, h, h2], hS2⟩
 simp (disch := omega) only [↓RA, RZ, simprocAttr, hn, b9F, h, h2]
 exact ⟨by simp [sE, h, h2], hS2⟩
def orI : List Int → Int
 | [] => 0
 | a :: l => if a = 0 then orI l else a
theorem a0W (xs : List Int) : ∀ i, i ≤ xs.length → (∀ j, j < i → iA xs j = 0) → orI xs = orI (xs.drop i)
 | 0, _, _ => rfl
 | i + 1, hi, h => by
   rw [a0W xs i (by omega) (fun j hj => h j (by omega)), tU xs i (by omega), orI, if_pos (h i (by omega))]
theorem b4O (v : Value) (xs : List Int) (hv : Sl 1 (one I) H v xs) (hl : xs.length < 1000000) : Fn prog 141 [v] H fun r H' => r = I (orI xs) ∧ St prog H H' [] := by
 refine .aY func141 rfl (by kernel_rfl) (m := 18) rfl fun l hn g0 => ?_
 simp (disch := omega) only [↓RA, RZ, simprocAttr, hn, g0, ((sR H).sl hv).len]
 refine Wp.al (fun n l H' => l.length = 18 ∧ get l 3 = I 0 ∧ get l 6 = v ∧ get l 7 = I xs.length ∧ ∃ (i : Nat), (n + i = xs.length ∧ ∀ j, j < i → iA xs j = 0) ∧ get l 8 = I i ∧ St prog H H' []) xs.length ?_ ?_
 ·simp (disch := omega) only [RB, RC, simprocAttr, hn]
  exact ⟨0, ⟨by omega, by simp⟩, rfl, (sR H)⟩
 rintro n l H1 ⟨hn, g3, g6, g7, i, ⟨hi,h0⟩, g8, hS1⟩
 simp (disch := omega) only [↓RA, RB, simprocAttr, hn, g7, g8]
 refine gZ (fun h => ?_) (fun h => ?_)
 ·simp (disch := omega) only [↓RA, RZ, simprocAttr, hn, g3, g6, g8, (hS1.sl hv).idx, (hS1.sl hv).ld, one, h]
  refine gZ (fun h2 => ?_) (fun h2 => ?_)
  ·simp (disch := omega) only [↓RA, RZ, simprocAttr, hn, b9x, h, h2]
   refine ⟨?_, hS1⟩
   rw [a0W xs i (by omega) h0, tU xs i (by omega), orI, if_neg h2]
  simp (disch := omega) only [↓RA, RZ, simprocAttr, hn, g3, g6, g7, g8, h, h2]
  exact ⟨n - 1, by omega, i + 1, ⟨by omega, fun j hj => by by_cases e : j = i; (· subst e; exact dC.1 h2); exact h0 j (by omega)⟩, by simp, hS1⟩
 simp (disch := omega) only [↓RA, RZ, simprocAttr, hn, g3, b9x, h]
 refine ⟨?_, hS1⟩
 rw [a0W xs i (by omega) h0, List.drop_eq_nil_of_le (by omega), orI]
theorem a8s (x y : Int × Int) : orI [sE x.1 y.1, sE x.2 y.2] = cf2 x y := by
 unfold cf2 sE orI orI orI
 split
 ·simp
 ·split
  ·simp
  ·simp
   intro h
   exact h.symm
theorem b8j (x y : Int × Int) : Fn prog 113 [.agg #[I x.1, I x.2], .agg #[I y.1, I y.2]] H fun r H' => r = I (cf2 x y) ∧ St prog H H' [] := by
 refine .aC func113 rfl (by kernel_rfl) (m := 17) rfl fun l hn g0 g1 => ?_
 simp (disch := omega) only [↓RA, RB, simprocAttr, g0]
 refine (sR H).eNew 2 [I x.1, I x.2] rfl rfl rfl qQ fun A1 H1 hS1 => ?_
 simp only [RT] at hS1
 simp (disch := omega) only [↓RA, RB, simprocAttr, g1]
 refine hS1.eNew 2 [I y.1, I y.2] rfl rfl rfl qQ fun A2 H2 hS2 => ?_
 simp only [RT] at hS2
 simp (disch := omega) only [↓RA, RB, simprocAttr]
 refine Wp.aQ kC [(6, 0), (8, 0)] (by kernel_rfl) (by kernel_rfl) ?_
 simp (disch := omega) only [↓RA, RZ, simprocAttr, hn, hS2.ld 0 rfl, hS2.ld 1 rfl]
 refine hS2.cF (uG x.1 y.1) fun H3 hS3 => ?_
 simp (disch := omega) only [↓RA, RZ, simprocAttr, hn, hS3.ld 0 rfl, hS3.ld 1 rfl]
 refine hS3.cF (uG x.2 y.2) fun H4 hS4 => ?_
 simp (disch := omega) only [↓RA, RB, simprocAttr, hn]
 refine hS4.ai [I (sE x.1 y.1), I (sE x.2 y.2)] a5D a8o rfl rfl (by simp [Value.cells]) rfl rfl (by decide) (by decide) fun w1 H5 hS5 => ?_
 simp only [RT] at hS5
 simp (disch := omega) only [↓RA, RZ, simprocAttr, hn]
 refine hS5.cF (b4O w1 [sE x.1 y.1, sE x.2 y.2] (hS5.ax 2 rfl (uJ _)) (by simp)) fun H6 hS6 => ?_
 simp (disch := omega) only [↓RA, RZ, simprocAttr, hn, hS2.ld 0 rfl, hS2.ld 1 rfl, c2W]
 exact ⟨by rw [a8s], hS6.forget⟩
theorem b7X (x y : Int × Int) : Fn prog 103 [.agg #[I x.1, I x.2], .agg #[I y.1, I y.2]] H fun r H' => r = I (cf2 x y) ∧ St prog H H' [] := by
 refine .aC func103 rfl (by kernel_rfl) (m := 17) rfl fun l hn g0 g1 => ?_
 simp (disch := omega) only [↓RA, RB, simprocAttr, g0]
 refine (sR H).eNew 2 [I x.1, I x.2] rfl rfl rfl sL fun A1 H1 hS1 => ?_
 simp only [RT] at hS1
 simp (disch := omega) only [↓RA, RB, simprocAttr, g1]
 refine hS1.eNew 2 [I y.1, I y.2] rfl rfl rfl sL fun A2 H2 hS2 => ?_
 simp only [RT] at hS2
 simp (disch := omega) only [↓RA, RB, simprocAttr]
 refine Wp.aQ kC [(6, 0), (8, 0)] (by kernel_rfl) (by kernel_rfl) ?_
 simp (disch := omega) only [↓RA, RZ, simprocAttr, hn, hS2.ld 0 rfl, hS2.ld 1 rfl]
 refine hS2.cF (uG x.1 y.1) fun H3 hS3 => ?_
 simp (disch := omega) only [↓RA, RZ, simprocAttr, hn, hS3.ld 0 rfl, hS3.ld 1 rfl]
 refine hS3.cF (uG x.2 y.2) fun H4 hS4 => ?_
 simp (disch := omega) only [↓RA, RB, simprocAttr, hn]
 refine hS4.ai [I (sE x.1 y.1), I (sE x.2 y.2)] a5D a8o rfl rfl (by simp [Value.cells]) rfl rfl (by decide) (by decide) fun w1 H5 hS5 => ?_
 simp only [RT] at hS5
 simp (disch := omega) only [↓RA, RZ, simprocAttr, hn]
 refine hS5.cF (b4O w1 [sE x.1 y.1, sE x.2 y.2] (hS5.ax 2 rfl (uJ _)) (by simp)) fun H6 hS6 => ?_
 simp (disch := omega) only [↓RA, RZ, simprocAttr, hn, hS2.ld 0 rfl, hS2.ld 1 rfl, c3Z]
 exact ⟨by rw [a8s], hS6.forget⟩
theorem b7F (x y : Int × Int) : Fn prog 213 [.agg #[I x.1, I x.2], .agg #[I y.1, I y.2]] H fun r H' => r = I (cf2 x y) ∧ St prog H H' [] := by
 refine .aC func213 rfl (by kernel_rfl) (m := 17) rfl fun l hn g0 g1 => ?_
 simp (disch := omega) only [↓RA, RB, simprocAttr, g0]
 refine (sR H).eNew 2 [I x.1, I x.2] rfl rfl rfl sL fun A1 H1 hS1 => ?_
 simp only [RT] at hS1
 simp (disch := omega) only [↓RA, RB, simprocAttr, g1]
 refine hS1.eNew 2 [I y.1, I y.2] rfl rfl rfl sL fun A2 H2 hS2 => ?_
 simp only [RT] at hS2
 simp (disch := omega) only [↓RA, RB, simprocAttr]
 refine Wp.aQ kC [(6, 0), (8, 0)] (by kernel_rfl) (by kernel_rfl) ?_
 simp (disch := omega) only [↓RA, RZ, simprocAttr, hn, hS2.ld 0 rfl, hS2.ld 1 rfl]
 refine hS2.cF (uG x.1 y.1) fun H3 hS3 => ?_
 simp (disch := omega) only [↓RA, RZ, simprocAttr, hn, hS3.ld 0 rfl, hS3.ld 1 rfl]
 refine hS3.cF (uG x.2 y.2) fun H4 hS4 => ?_
 simp (disch := omega) only [↓RA, RB, simprocAttr, hn]
 refine hS4.ai [I (sE x.1 y.1), I (sE x.2 y.2)] a5D a8o rfl rfl (by simp [Value.cells]) rfl rfl (by decide) (by decide) fun w1 H5 hS5 => ?_
 simp only [RT] at hS5
 simp (disch := omega) only [↓RA, RZ, simprocAttr, hn]
 refine hS5.cF (b4O w1 [sE x.1 y.1, sE x.2 y.2] (hS5.ax 2 rfl (uJ _)) (by simp)) fun H6 hS6 => ?_
 simp (disch := omega) only [↓RA, RZ, simprocAttr, hn, hS2.ld 0 rfl, hS2.ld 1 rfl, c3u]
 exact ⟨by rw [a8s], hS6.forget⟩
end Go.Ds
namespace Go.Ds
open Go.Proofs
open Go.Shelf Go.RowKit Go.Lib Go.Sort
theorem lt2 (x y : Int × Int) : ltOf cf2 x y = decide (x.1 < y.1 ∨ (x.1 = y.1 ∧ x.2 < y.2)) := by
 unfold ltOf cf2
 congr 1
 apply propext
 split
 ·omega
 ·split
  ·omega
  ·split
   ·omega
   ·split <;> omega
theorem c3B : SWO (ltOf cf2) where
 irrefl x := by rw [lt2]; simp
 trans x y z h1 h2 := by rw [lt2] at *; simp at *; omega
 ntrans x y z h1 h2 := by rw [lt2] at *; simp at *; omega
theorem c1P (x y : Int × Int) (h1 : ltOf cf2 x y = false) (h2 : ltOf cf2 y x = false) : x = y := by
 rw [lt2] at *
 simp at h1 h2
 apply gT <;> omega
theorem b4a : (fun x y => !(ltOf cf2) y x) = le2 := by
 funext x y
 rw [lt2]
 by_cases h : le2 x y = true
 ·rw [h]
  rw [oI] at h
  rw [dG, decide_eq_false_iff_not]
  omega
 ·rw [eE] at h
  rw [h]
  rw [← eE, oI] at h
  rw [Bool.not_eq_false', decide_eq_true_eq]
  omega
def a4l (P : Program) (K kc : FuncId) (sm : Int × Int → Prop) : Prop := ∀ (kE off cap : Nat) (d : Array (Int × Int)) (w : World), (∀ x ∈ d.toList, sm x) → HoldsK kB 2 w kE off d → kE < w.heap.size → d.size < 4611686018427387904 →
    Calls P K #[.slice (some ⟨kE, off, none⟩) d.size cap, .func (.func kc) #[] #[]] w fun e w' => e = .returned (.tuple #[]) ∧ ∃ n os, w' = sortWorldK kB 2 w kE off n (d.toList.mergeSort le2).toArray os
def a1Z (P : Program) (K : FuncId) : Prop := ∀ (p : Option Addr) (cap : Nat) (fv : Value) (w : World), Calls P K #[.slice p 0 cap, fv] w fun e w' => e = .returned (.tuple #[]) ∧ w' = w
theorem b4e {P : Program} {kc : FuncId} {α : Type} [Inhabited α] (val : α → Int × Int) (cf : α → α → Int) (hf : ∀ x y, Fn P kc [.agg #[I (val x).1, I (val x).2], .agg #[I (val y).1, I (val y).2]] .nil fun r H' => r = I (cf x y) ∧ St P (.nil : Heap) H' []) (kE off size : Nat) (w : World) : CmpLays P kc #[] (fun x => kB (val x)) 2 cf kE off size w := by
 intro m os dk hdk x y
 generalize sortWorldK (fun x => kB (val x)) 2 w kE off m dk os = W
 obtain ⟨_, v, H1, h1, hr, _⟩ := hf x y
 have ha : All2 (V (fun _ _ => none)) [.agg #[I (val x).1, I (val x).2], .agg #[I (val y).1, I (val y).2]] (#[.agg #[I (val x).1, I (val x).2], .agg #[I (val y).1, I (val y).2]] : Array Value).toList := ⟨.of_flat rfl, .of_flat rfl, trivial⟩
 have hc := CallOk.calls (f := kc) h1 (HRel.none W) ha
 have hargs : (#[.agg (kB (val x)).toArray, .agg (kB (val y)).toArray] ++ #[] : Array Value) = #[.agg #[I (val x).1, I (val x).2], .agg #[I (val y).1, I (val y).2]] := rfl
 rw [hargs]
 refine hc.mono ?_
 rintro e w' ⟨ρ', v', rfl, hp, hv⟩
 subst hr
 have hfr : ∀ b, b < W.heap.size → w'.heap[b]? = W.heap[b]? := fun b hb => (hp.frame b hb (by rintro ⟨A, e, p, kE, hq, _⟩; cases hq)).1
 refine ⟨by rw [hv.ag rfl], w'.drawn - W.drawn, w'.heap.extract W.heap.size w'.heap.size, ?_⟩
 have h1 := hp.os
 have h2 := hp.tape
 have h3 := hp.output
 have h4 := hp.size
 clear hp hv
 obtain ⟨wh, wt, wd, wo, wu⟩ := W
 obtain ⟨ah, at', ad, ao, au⟩ := w'
 simp only at h1 h2 h3 h4 hfr
 simp only [grow, World.drewN, World.mk.injEq]
 refine ⟨?_, h2.1, by omega, h1, h3⟩
 apply Array.ext_getElem?
 intro i
 rw [Array.getElem?_append]
 split
 ·exact hfr i (by assumption)
 ·rw [Array.getElem?_extract]
  split
  ·congr 1; omega
  ·rw [Array.getElem?_eq_none (by omega)]
theorem a5H {P : Program} {kc : FuncId} (hf : ∀ x y, Fn P kc [.agg #[I x.1, I x.2], .agg #[I y.1, I y.2]] .nil fun r H' => r = I (cf2 x y) ∧ St P (.nil : Heap) H' []) (kE off size : Nat) (w : World) : CmpLays P kc #[] kB 2 cf2 kE off size w := b4e (fun x => x) cf2 hf kE off size w
section
variable {P : Program} {H : Heap} {ρ ρ' : Rho} {H' : Heap} {w w1 w2 : World}
theorem Post.cO (h : Post P ρ H w ρ' H' w1) (hsz : w1.heap.size ≤ w2.heap.size) (hb : ∀ b, b < w1.heap.size → w2.heap[b]? = w1.heap[b]?) (h1 : w2.os = w1.os) (h2 : w2.tape = w1.tape ∧ w1.drawn ≤ w2.drawn) (h3 : w2.output = w1.output) : Post P ρ H w ρ' H' w2 where
 le := h.le
 rel := h.rel.other hsz fun A e p hp => hb _ (h.rel.dom _ _ _ hp).2
 len := h.len
 size := dE h.size hsz
 os := h1.trans h.os
 tape := ⟨h2.1.trans h.tape.1, dE h.tape.2 h2.2⟩
 output := h3.trans h.output
 frame b hlt hw := by
  obtain ⟨e, hw'⟩ := h.frame b hlt hw
  exact ⟨(hb b (dM hlt h.size)).trans e, hw'⟩
 loops b r hr := by
  obtain ⟨r', hr'⟩ := h.loops b r hr
  exact ⟨r', by rw [hb b (mF hr')]; exact hr'⟩
 img := h.img
theorem b8S : ∀ (l : List (Int × Int)) (j : Nat), j < l.length * 2 → (kB (l.toArray[j / 2]!))[j % 2]! = (pr l).getD j undef := by
 intro l
 induction l with
 | nil => intro j hj; simp at hj
 | cons x l ih =>
   intro j hj
   have e : pr (x :: l) = I x.1 :: I x.2 :: pr l := rfl
   rw [e]
   match j with
   | 0 => rfl
   | 1 => rfl
   | j + 2 =>
     have h1 : (j + 2) / 2 = j / 2 + 1 := by omega
     have h2 : (j + 2) % 2 = j % 2 := by omega
     have := ih j (by simp at hj; omega)
     rw [h1, h2]
     simp only [List.getD_cons_succ]
     rw [← this]
     congr 2
     simp only [List.getElem!_toArray]
     simp
end
theorem V.func0 {ρ : Rho} {k : FuncId} {v' : Value} (h : V ρ (.func (.func k) #[] #[]) v') : v' = .func (.func k) #[] #[] := by
 cases h with
 | v1 h => cases h with
   | c1 h => cases h with
     | c0 h => cases h with
       | flat h => rfl
     | fn ha hb =>
       rename_i a' b'
       have e1 : a' = #[] := by
        obtain ⟨l⟩ := a'
        cases l with
        | nil => rfl
        | cons => exact ha.elim
       have e2 : b' = #[] := by
        obtain ⟨l⟩ := b'
        cases l with
        | nil => rfl
        | cons => exact hb.elim
       rw [e1, e2]
theorem a9z (es : List (Int × Int)) : kD (pr es) = true := by
 unfold kD
 rw [dw]
 intro c hc
 obtain ⟨x, _, hx⟩ := fm.1 hc
 simp only [kB, ek, ez, or_false] at hx
 rcases hx with rfl | rfl <;> rfl
set_option maxRecDepth 10000 in
theorem b8o {P : Program} {K kc : FuncId} {sm : Int × Int → Prop} (hso : a4l P K kc sm) {H : Heap} {A i lo ver n : Nat} {ty : TypeId} {pre : List Value} {es : List (Int × Int)} (hg : iL H A = some (.cells (pre ++ pr es) ty true lo ver)) (hlo : lo ≤ i + (pr es).length) (hpre : pre.length = i)
 (hn : (pr es).length = n * 2) (hty : iC P ty = some 2) (hl : es.length < 100000000000) (h0 : es ≠ []) (hsm : ∀ x ∈ es, sm x) :
 CallOk P K [.slice (some ⟨A, i, some (i + (pr es).length)⟩) n 2, .func (.func kc) #[] #[]] H (.tuple #[]) (hset H A (.cells (iX (pre ++ pr es) i (pr (vL es))) ty true (pre ++ pr es).length ver)) := by
 intro k ρ w args' hr ha
 obtain ⟨l⟩ := args'
 match l, ha with
 | [x, f], ⟨hx, hf, _⟩ =>
   obtain rfl := V.func0 hf
   have hlen : (pre ++ pr es).length = i + (pr es).length := by rw [dg, hpre]
   obtain ⟨p, c', a, hp, h0', hin, hnc, hac, hpk, rfl⟩ := hx.av
   rw [iE] at hn
   have hne : 0 < es.length := fU.2 h0
   have hnn : n = es.length := by omega
   subst hnn
   have ha' : a = ⟨p.b, p.at i, none⟩ := by
    rcases hac with h | h
    ·exact h.1
    ·omega
   subst ha'
   have hp2 : ρ A (pre ++ pr es).length = some p := by rw [hlen]; exact hp
   obtain ⟨_, _, hfit, cur, ty', fr, hw, hsz, hfr, hcell⟩ := (hr.cells _ _ _ _ _ _ hg).2 _ _ hp2
   obtain ⟨rfl, hd0, _⟩ := hfr rfl
   let d : Array (Int × Int) := es.toArray
   have hds : d.size = es.length := by simp [d]
   have hfl := fun j hj => b8S es j (by simpa using hj)
   have hH : Go.Sort.HoldsK kB 2 w p.b (p.at i) d := by
    intro j hj
    rw [Go.Sort.size_flatK, hds] at hj
    constructor
    ·have hc : (pre ++ pr es)[i + j]? = some ((pr es).getD j undef) := by
      rw [dU (by omega), hpre, fo, dc, du (by rw [iE]; omega)]
      rfl
     obtain ⟨c2, hc2, hrel⟩ := hcell (by rw [hlen]; exact hlo) (i + j) _ (by rw [hlen, iE]; omega) (by omega) hc
     have hsc : iZ ((pr es).getD j undef) = true := by
      have := a9z es
      unfold kD at this
      rw [dw] at this
      apply this
      rw [dc, du (by rw [iE]; omega)]
      exact gz _
     have := hrel.az hsc
     subst this
     have hat : p.at (i + j) = p.at i + j := by unfold Place.at; omega
     rw [hat] at hc2
     simp only [World.cell?, hw]
     rw [Go.Sort.get_flatK _ _ _ _ (by rw [hds]; exact hj), hfl j hj]
     exact hc2
    ·simp only [World.frozen?, hw]
     simp
   have hcon := hso p.b (p.at i) c' d w (by simpa [d] using hsm) hH (hr.dom _ _ _ hp).2 (by rw [hds]; omega)
   rw [hds] at hcon
   obtain ⟨w1, hrun, hpost⟩ := tR hr hg hp2 h0' (.aG (a9z (vL es))) (by rw [hlen, iE, iE, (pG es).length_eq]; omega) (by rw [hlen]; exact hlo)
   have hcsz : p.at i + (pr (vL es)).length ≤ cur.size := by
    rw [iE, (pG es).length_eq, hsz]
    unfold Place.at
    rw [hlen, iE] at hfit
    omega
   have hst := run_storeCells_at (P := P) p.b (p.at i) ty' (pr (vL es)) 0 cur w hw (by simpa using hcsz) (All2.aG (ρ := ρ) (a9z (vL es))).aV
   rw [hst] at hrun
   injection hrun with _ hw1
   subst hw1
   refine callsIn_wide.2 (hcon.mono ?_)
   rintro e w' ⟨rfl, m, os, rfl⟩
   refine ⟨ρ, _, rfl, ?_, .tuple trivial⟩
   have hsl : (vL es).length = es.length := (pG es).length_eq
   have hml : ((d.toList.mergeSort le2)).length = es.length := by simp [d]
   have hfs : ∀ j, j < es.length * 2 → (Go.Sort.flatK kB 2 (d.toList.mergeSort le2).toArray)[j]! = (pr (vL es)).getD j undef := fun j hj => by
    rw [Go.Sort.get_flatK _ _ _ _ (by simpa [d] using hj)]
    exact b8S (d.toList.mergeSort le2) j (by rw [hml]; exact hj)
   have hFs : (Go.Sort.flatK kB 2 (d.toList.mergeSort le2).toArray).size = es.length * 2 := by simp [d]
   unfold sortWorldK Go.Sort.putRowK
   generalize Go.Sort.flatK kB 2 (d.toList.mergeSort le2).toArray = F at hfs hFs ⊢
   have hlt := mF hw
   have hh : ∀ b, b < w.heap.size → (Go.Sort.grow (Go.Sort.putRow id (Go.Sort.ahead w m) p.b (p.at i) F) os).heap[b]? = (Go.Sort.putRow id (Go.Sort.ahead w m) p.b (p.at i) F).heap[b]? := fun b hb => by
    have : b < (Go.Sort.putRow id (Go.Sort.ahead w m) p.b (p.at i) F).heap.size := by simpa [Go.Sort.putRow, Go.Sort.mapBlock, Go.Sort.ahead] using hb
    unfold Go.Sort.grow
    exact ft this
   refine hpost.cO ?_ ?_ rfl ⟨rfl, Nat.le_add_right _ _⟩ rfl
   ·simp [Go.Sort.grow, Go.Sort.putRow, Go.Sort.mapBlock, Go.Sort.ahead]
   ·intro b hbs
    rw [setRow_size] at hbs
    rw [hh b hbs]
    by_cases e : b = p.b
    ·subst e
     rw [setRow_heap w p.b cur _ ty' (0, 0) hw]
     have e2 : (Go.Sort.putRow id (Go.Sort.ahead w m) p.b (p.at i) F).heap[p.b]? = some (.cells (Go.Sort.putCells id (p.at i) F cur) ty' (0, 0)) := by
      simp [Go.Sort.putRow, Go.Sort.mapBlock, Go.Sort.ahead, gh, hw, Go.Sort.onCells]
     rw [e2]
     congr 2
     apply Array.ext_getElem?
     intro j
     have hseg := a4h cur.toList (pr (vL es)) (p.at i) j (by simpa using hcsz)
     have e3 : ((List.take (p.at i + 0) cur.toList ++ pr (vL es) ++ List.drop (p.at i + 0 + (pr (vL es)).length) cur.toList).toArray)[j]? = (List.take (p.at i) cur.toList ++ pr (vL es) ++ List.drop (p.at i + (pr (vL es)).length) cur.toList)[j]? := by simp
     rw [e3, hseg]
     simp only [Go.Sort.putCells, Array.getElem?_mapIdx, gg]
     rw [iE, hsl] at hcsz ⊢
     by_cases h1 : p.at i ≤ j ∧ j < p.at i + es.length * 2
     ·rw [if_pos h1]
      have hjc : j < cur.size := by omega
      rw [fA hjc]
      simp only [dN]
      rw [if_pos (by rw [hFs]; exact h1), hfs _ (by omega), dc, du (by rw [iE, hsl]; omega)]
      rfl
     ·rw [if_neg h1]
      cases hc : cur[j]? with
      | none => simp
      | some c =>
        simp only [dN]
        rw [if_neg (by rw [hFs]; exact h1)]
    ·rw [setRow_other _ _ _ _ e]
     simp [Go.Sort.putRow, Go.Sort.mapBlock, Go.Sort.ahead, gh, ey e]
theorem a1F {P : Program} {K kc : FuncId} {sm : Int × Int → Prop} (hso : a4l P K kc sm) (hno : a1Z P K) (hent0 : qY P K) {H : Heap} {H0 : Base} {os : List Ob} (hS : St P H0 H os) (i : Nat) {v : Value} {es : List (Int × Int)} (ho : os[i]? = some ⟨v, 2, pr es⟩) (hl : es.length < 100000000000) (hsm : ∀ x ∈ es, sm x) {Q : Value → Heap → Prop}
 (h : ∀ H1, St P H0 H1 (os.set i ⟨v, 2, pr (vL es)⟩) → Q (.tuple #[]) H1) : wI P K [v, .func (.func kc) #[] #[]] H Q := by
 have hent : qY P K := hent0
 by_cases h0 : es = []
 ·subst h0
  refine ⟨.tuple #[], H, hent, ?_, h H ?_⟩
  ·intro k ρ w args' hr ha
   obtain ⟨l⟩ := args'
   match l, ha with
   | [x, f], ⟨hx, hf, _⟩ =>
     obtain rfl := V.func0 hf
     have hown := hS.own _ (dO ho)
     unfold OwnAt at hown
     rw [if_neg (by simp)] at hown
     have hx0 : ∃ p cap, x = .slice p 0 cap := by
      rcases hown with ⟨h2, _⟩ | ⟨A, j, ty, lo', ver, pre, m, h2, h3, h4, h5, h6, h7⟩
      ·simp only at h2
       subst h2
       rcases hx.aw with ⟨_, _, _, rfl⟩ | ⟨A, j, e, p, c', a, hh, _⟩
       ·exact ⟨_, _, rfl⟩
       ·cases hh
      ·simp only at h5 h6
       subst h6
       have hm : m = 0 := by have : (pr []).length = 0 := rfl; omega
       subst hm
       obtain ⟨p, c', a, _, _, _, _, _, _, rfl⟩ := hx.av
       exact ⟨_, _, rfl⟩
     obtain ⟨p, cap, rfl⟩ := hx0
     refine callsIn_wide.2 ((hno p cap _ w).mono ?_)
     rintro e w' ⟨rfl, rfl⟩
     exact ⟨ρ, _, rfl, .refl hr, .tuple trivial⟩
  ·obtain ⟨hi, hoi⟩ := dq.1 ho
   have e : vL [] = [] := List.Perm.eq_nil (pG [])
   rw [e, ← hoi, gi]
   exact hS
 ·have hown := hS.own _ (dO ho)
  unfold OwnAt at hown
  rw [if_neg (by simp)] at hown
  have hne : 0 < es.length := fU.2 h0
  rcases hown with ⟨_, h3⟩ | ⟨A, j, ty, lo', ver, pre, m, h2, h3, h4, h5, h6, h7⟩
  ·simp only at h3
   have := congrArg List.length h3
   rw [iE, eA] at this
   omega
  ·simp only at h2 h3 h5 h6
   have hsl : (pr (vL es)).length = (pr es).length := by rw [iE, iE, (pG es).length_eq]
   have hcall := b8o hso h2 h3 h4 h5 h7 hl h0 hsm
   rw [← h6] at hcall
   refine ⟨_, _, hent, hcall, h _ (hS.put i ho ?_ ?_ ?_ ?_)⟩
   ·unfold OwnAt
    rw [if_neg (by simp)]
    refine .inr ⟨A, j, ty, (pre ++ pr es).length, ver, pre, m, ?_, ?_, h4, ?_, ?_, h7⟩
    ·rw [iP _ (jC h2)]
     have := lZ (pr (vL es)) pre (pr es) (by rw [hsl]; exact di _)
     rw [h4] at this
     rw [this, hsl, List.drop_length, dp]
    ·simp only [dg, h4, hsl]; exact di _
    ·simp only [hsl]; exact h5
    ·simp only [hsl]; exact h6
   ·rw [iY]; exact di _
   ·intro B' hB hne'
    refine pF fun hh => hne' ?_
    simp [kE, h6, hh]
   ·intro B' hB
    exact .inl hB
end Go.Ds
namespace Go.Proofs
open Go.Shelf
def Tryz.bE : Go.Shelf.Ren := ⟨fun | 6 => 70 | 15 => 124 | 14 => 123 | 28 => 167 | 29 => 168 | 20 => 159 | 21 => 160 | 22 => 161 | 23 => 162 | 24 => 163 | 25 => 164 | 26 => 165 | 27 => 166 | 46 => 214 | 47 => 215 | 48 => 216 | 49 => 217 | 50 => 218 | 57 => 245 | n => n, fun | 22 => 45 | 24 => 74 | 25 => 161 | 3 => 3 | 39 => 143 | 0 => 0 | 53 => 257 | 55 => 28 | 4 => 4 | 46 => 251 | 45 => 250 | 50 => 197 | 5 => 5 | 9 => 9 | 66 => 300 | 70 => 304 | 76 => 334 | 77 => 335 | n => n, fun | n => n⟩
theorem Tryz.bQ : Go.Proofs.SlLaysF0.n6 Tryz.prog Tryz.bE := {
 mixed := by kernel_rfl
 f6 := ⟨Tryz.f70.name, by decide, Tryz.func70.trans (congrArg some (by kernel_rfl))⟩
 f14 := ⟨Tryz.f123.name, by decide, Tryz.func123.trans (congrArg some (by kernel_rfl))⟩
 f15 := Tryz.func124.trans (congrArg some (by kernel_rfl))
 f20 := ⟨Tryz.f159.name, by decide, Tryz.func159.trans (congrArg some (by kernel_rfl))⟩
 f21 := ⟨Tryz.f160.name, by decide, Tryz.func160.trans (congrArg some (by kernel_rfl))⟩
 f22 := ⟨Tryz.f161.name, by decide, Tryz.func161.trans (congrArg some (by kernel_rfl))⟩
 f23 := ⟨Tryz.f162.name, by decide, Tryz.func162.trans (congrArg some (by kernel_rfl))⟩
 f24 := ⟨Tryz.f163.name, by decide, Tryz.func163.trans (congrArg some (by kernel_rfl))⟩
 f25 := ⟨Tryz.f164.name, by decide, Tryz.func164.trans (congrArg some (by kernel_rfl))⟩
 f26 := ⟨Tryz.f165.name, by decide, Tryz.func165.trans (congrArg some (by kernel_rfl))⟩
 f27 := ⟨Tryz.f166.name, by decide, Tryz.func166.trans (congrArg some (by kernel_rfl))⟩
 f28 := Tryz.func167.trans (congrArg some (by kernel_rfl))
 f29 := Tryz.func168.trans (congrArg some (by kernel_rfl))
 f46 := ⟨Tryz.f214.name, by decide, Tryz.func214.trans (congrArg some (by kernel_rfl))⟩
 f47 := Tryz.func215.trans (congrArg some (by kernel_rfl))
 f48 := Tryz.func216.trans (congrArg some (by kernel_rfl))
 f49 := ⟨Tryz.f217.name, by decide, Tryz.func217.trans (congrArg some (by kernel_rfl))⟩
 f50 := ⟨Tryz.f218.name, by decide, Tryz.func218.trans (congrArg some (by kernel_rfl))⟩
 f57 := ⟨Tryz.f245.name, by decide, Tryz.func245.trans (congrArg some (by kernel_rfl))⟩
 t0 := Tryz.underlying0
 a0 := Tryz.isAgg0
 z0 := Tryz.sizeOf0
 v0 := Tryz.zeroValue0
 t3 := Tryz.underlying3
 a3 := Tryz.isAgg3
 z3 := Tryz.sizeOf3
 v3 := Tryz.zeroValue3
 t4 := Tryz.underlying4
 a4 := Tryz.isAgg4
 z4 := Tryz.sizeOf4
 v4 := Tryz.zeroValue4
 t5 := Tryz.underlying5
 a5 := Tryz.isAgg5
 z5 := Tryz.sizeOf5
 v5 := Tryz.zeroValue5
 t9 := Tryz.underlying9
 a9 := Tryz.isAgg9
 z9 := Tryz.sizeOf9
 v9 := Tryz.zeroValue9
 t22 := Tryz.underlying45
 a22 := Tryz.isAgg45
 z22 := Tryz.sizeOf45
 v22 := Tryz.zeroValue45
 t25 := Tryz.underlying161
 a25 := Tryz.isAgg161
 z25 := Tryz.sizeOf161
 v25 := Tryz.zeroValue161
 t39 := Tryz.underlying143
 a39 := Tryz.isAgg143
 z39 := Tryz.sizeOf143
 v39 := Tryz.zeroValue143
 t45 := Tryz.underlying250
 a45 := Tryz.isAgg250
 z45 := Tryz.sizeOf250
 v45 := Tryz.zeroValue250
 t46 := Tryz.underlying251
 a46 := Tryz.isAgg251
 z46 := Tryz.sizeOf251
 v46 := Tryz.zeroValue251
 t50 := Tryz.underlying197
 a50 := Tryz.isAgg197
 z50 := Tryz.sizeOf197
 v50 := Tryz.zeroValue197
 t53 := Tryz.underlying257
 a53 := Tryz.isAgg257
 z53 := Tryz.sizeOf257
 v53 := Tryz.zeroValue257
 t55 := Tryz.underlying28
 a55 := Tryz.isAgg28
 z55 := Tryz.sizeOf28
 v55 := Tryz.zeroValue28
 t66 := Tryz.underlying300
 a66 := Tryz.isAgg300
 z66 := Tryz.sizeOf300
 v66 := Tryz.zeroValue300
 t70 := Tryz.underlying304
 a70 := Tryz.isAgg304
 z70 := Tryz.sizeOf304
 v70 := Tryz.zeroValue304
 t76 := Tryz.underlying334
 a76 := Tryz.isAgg334
 z76 := Tryz.sizeOf334
 v76 := Tryz.zeroValue334
 t77 := Tryz.underlying335
 a77 := Tryz.isAgg335
 z77 := Tryz.sizeOf335
 v77 := Tryz.zeroValue335 }
def Tryz.br : Go.Shelf.Ren := ⟨fun | 6 => 112 | 15 => 124 | 14 => 148 | 28 => 167 | 29 => 168 | 20 => 194 | 21 => 195 | 22 => 196 | 23 => 197 | 24 => 198 | 25 => 199 | 26 => 200 | 27 => 201 | 46 => 232 | 47 => 215 | 48 => 216 | 49 => 233 | 50 => 234 | 57 => 250 | n => n, fun | 22 => 60 | 24 => 67 | 25 => 210 | 3 => 3 | 39 => 143 | 0 => 0 | 53 => 257 | 55 => 28 | 4 => 4 | 46 => 251 | 45 => 250 | 50 => 197 | 5 => 5 | 9 => 9 | 66 => 300 | 70 => 304 | 76 => 334 | 77 => 335 | n => n, fun | n => n⟩
theorem Tryz.bG : Go.Proofs.SlLaysF0.n6 Tryz.prog Tryz.br := {
 mixed := by kernel_rfl
 f6 := ⟨Tryz.f112.name, by decide, Tryz.func112.trans (congrArg some (by kernel_rfl))⟩
 f14 := ⟨Tryz.f148.name, by decide, Tryz.func148.trans (congrArg some (by kernel_rfl))⟩
 f15 := Tryz.func124.trans (congrArg some (by kernel_rfl))
 f20 := ⟨Tryz.f194.name, by decide, Tryz.func194.trans (congrArg some (by kernel_rfl))⟩
 f21 := ⟨Tryz.f195.name, by decide, Tryz.func195.trans (congrArg some (by kernel_rfl))⟩
 f22 := ⟨Tryz.f196.name, by decide, Tryz.func196.trans (congrArg some (by kernel_rfl))⟩
 f23 := ⟨Tryz.f197.name, by decide, Tryz.func197.trans (congrArg some (by kernel_rfl))⟩
 f24 := ⟨Tryz.f198.name, by decide, Tryz.func198.trans (congrArg some (by kernel_rfl))⟩
 f25 := ⟨Tryz.f199.name, by decide, Tryz.func199.trans (congrArg some (by kernel_rfl))⟩
 f26 := ⟨Tryz.f200.name, by decide, Tryz.func200.trans (congrArg some (by kernel_rfl))⟩
 f27 := ⟨Tryz.f201.name, by decide, Tryz.func201.trans (congrArg some (by kernel_rfl))⟩
 f28 := Tryz.func167.trans (congrArg some (by kernel_rfl))
 f29 := Tryz.func168.trans (congrArg some (by kernel_rfl))
 f46 := ⟨Tryz.f232.name, by decide, Tryz.func232.trans (congrArg some (by kernel_rfl))⟩
 f47 := Tryz.func215.trans (congrArg some (by kernel_rfl))
 f48 := Tryz.func216.trans (congrArg some (by kernel_rfl))
 f49 := ⟨Tryz.f233.name, by decide, Tryz.func233.trans (congrArg some (by kernel_rfl))⟩
 f50 := ⟨Tryz.f234.name, by decide, Tryz.func234.trans (congrArg some (by kernel_rfl))⟩
 f57 := ⟨Tryz.f250.name, by decide, Tryz.func250.trans (congrArg some (by kernel_rfl))⟩
 t0 := Tryz.underlying0
 a0 := Tryz.isAgg0
 z0 := Tryz.sizeOf0
 v0 := Tryz.zeroValue0
 t3 := Tryz.underlying3
 a3 := Tryz.isAgg3
 z3 := Tryz.sizeOf3
 v3 := Tryz.zeroValue3
 t4 := Tryz.underlying4
 a4 := Tryz.isAgg4
 z4 := Tryz.sizeOf4
 v4 := Tryz.zeroValue4
 t5 := Tryz.underlying5
 a5 := Tryz.isAgg5
 z5 := Tryz.sizeOf5
 v5 := Tryz.zeroValue5
 t9 := Tryz.underlying9
 a9 := Tryz.isAgg9
 z9 := Tryz.sizeOf9
 v9 := Tryz.zeroValue9
 t22 := Tryz.underlying60
 a22 := Tryz.isAgg60
 z22 := Tryz.sizeOf60
 v22 := Tryz.zeroValue60
 t25 := Tryz.underlying210
 a25 := Tryz.isAgg210
 z25 := Tryz.sizeOf210
 v25 := Tryz.zeroValue210
 t39 := Tryz.underlying143
 a39 := Tryz.isAgg143
 z39 := Tryz.sizeOf143
 v39 := Tryz.zeroValue143
 t45 := Tryz.underlying250
 a45 := Tryz.isAgg250
 z45 := Tryz.sizeOf250
 v45 := Tryz.zeroValue250
 t46 := Tryz.underlying251
 a46 := Tryz.isAgg251
 z46 := Tryz.sizeOf251
 v46 := Tryz.zeroValue251
 t50 := Tryz.underlying197
 a50 := Tryz.isAgg197
 z50 := Tryz.sizeOf197
 v50 := Tryz.zeroValue197
 t53 := Tryz.underlying257
 a53 := Tryz.isAgg257
 z53 := Tryz.sizeOf257
 v53 := Tryz.zeroValue257
 t55 := Tryz.underlying28
 a55 := Tryz.isAgg28
 z55 := Tryz.sizeOf28
 v55 := Tryz.zeroValue28
 t66 := Tryz.underlying300
 a66 := Tryz.isAgg300
 z66 := Tryz.sizeOf300
 v66 := Tryz.zeroValue300
 t70 := Tryz.underlying304
 a70 := Tryz.isAgg304
 z70 := Tryz.sizeOf304
 v70 := Tryz.zeroValue304
 t76 := Tryz.underlying334
 a76 := Tryz.isAgg334
 z76 := Tryz.sizeOf334
 v76 := Tryz.zeroValue334
 t77 := Tryz.underlying335
 a77 := Tryz.isAgg335
 z77 := Tryz.sizeOf335
 v77 := Tryz.zeroValue335 }
end Go.Proofs
namespace Go.Ds
open Go.Proofs Go.Proofs.Tryz Go.Shelf Go.RowKit Go.Lib Go.Sort
theorem a6D (x : Int × Int) : ∀ v ∈ kB x, v.oneCell' = true := by
 intro v hv
 simp [kB] at hv
 rcases hv with rfl | rfl <;> rfl
theorem c2z (kc : FuncId) (eg : ∀ args w, (callFunc kc args).run prog w = .ok (.enter kc args) w) (hf : ∀ x y, Fn prog kc [.agg #[I x.1, I x.2], .agg #[I y.1, I y.2]] .nil fun r H' => r = I (cf2 x y) ∧ St prog (.nil : Heap) H' []) : a4l prog 70 kc (fun _ => True) :=
 fun kE off cap d w _ hH hblk hsz => by
  have h := AnyQ.slices_SortFunc_total Tryz.bQ 2 Tryz.isAgg74 Tryz.sizeOf74 kB (fun _ => rfl) a6D cf2 c3B kc #[] kE off cap d w eg (a5H hf kE off d.size w) hH hblk hsz c1P
  rw [b4a] at h
  exact h
theorem c3l (kc : FuncId) (eg : ∀ args w, (callFunc kc args).run prog w = .ok (.enter kc args) w) (hf : ∀ x y, Fn prog kc [.agg #[I x.1, I x.2], .agg #[I y.1, I y.2]] .nil fun r H' => r = I (cf2 x y) ∧ St prog (.nil : Heap) H' []) : a4l prog 112 kc (fun _ => True) :=
 fun kE off cap d w _ hH hblk hsz => by
  have h := AnyQ.slices_SortFunc_total Tryz.bG 2 Tryz.isAgg67 Tryz.sizeOf67 kB (fun _ => rfl) a6D cf2 c3B kc #[] kE off cap d w eg (a5H hf kE off d.size w) hH hblk hsz c1P
  rw [b4a] at h
  exact h
theorem c4d : a1Z prog 70 := fun p cap fv w => AnyF.slices_SortFunc_none { Tryz.bQ with } p cap fv w
theorem c2I : a1Z prog 112 := fun p cap fv w => AnyF.slices_SortFunc_none { Tryz.bG with } p cap fv w
def a9C (K kc : FuncId) : Prop := ∀ {H : Heap} {B : Base} {os : List Ob} (hS : St prog B H os) (i : Nat) {v : Value} {es : List (Int × Int)} (ho : os[i]? = some ⟨v, 2, pr es⟩) (hl : es.length < 100000000000) {Q : Value → Heap → Prop}
    (h : ∀ H1, St prog B H1 (os.set i ⟨v, 2, pr (vL es)⟩) → Q (.tuple #[]) H1), wI prog K [v, .func (.func kc) #[] #[]] H Q
theorem c2F : qY prog 70 := ⟨Tryz.f70, func70, by kernel_rfl, by kernel_rfl⟩
theorem c3q : qY prog 112 := ⟨Tryz.f112, func112, by kernel_rfl, by kernel_rfl⟩
theorem c3N : a9C 70 213 := fun hS i _ _ ho hl _ h => a1F (c2z 213 (enters_of func213 (by kernel_rfl) rfl) fun x y => b7F x y) c4d c2F hS i ho hl (fun _ _ => trivial) h
theorem c3d : a9C 70 103 := fun hS i _ _ ho hl _ h => a1F (c2z 103 (enters_of func103 (by kernel_rfl) rfl) fun x y => b7X x y) c4d c2F hS i ho hl (fun _ _ => trivial) h
theorem c3O : a9C 112 113 := fun hS i _ _ ho hl _ h => a1F (c3l 113 (enters_of func113 (by kernel_rfl) rfl) fun x y => b8j x y) c2I c3q hS i ho hl (fun _ _ => trivial) h
end Go.Ds
namespace Go.Ds
open Go.Proofs Go.Proofs.Tryz
variable {H : Heap}
set_option maxRecDepth 10000
theorem xF {p : Nat → Bool} {n j : Nat} (h : mW p n = (j : Int)) : j < n := by
 unfold mW at h
 split at h
 ·rename_i q hq
  have := dI.1 (gC hq)
  omega
 ·omega
theorem b8h (g : Seg) (hg : g.In H) (key : Int) (A : Nat) (hA : Var H A 1 [I key]) : Fn prog 212 [.agg #[I g.lo, I g.hi, g.dv], ptr A 0 1] H fun r H' => r = .bool (decide (g.lo ≤ key) && decide (key ≤ g.hi)) ∧ St prog H H' [] := by
 refine .aC func212 rfl (by kernel_rfl) (m := 14) rfl fun l hn g0 g1 => ?_
 simp (disch := omega) only [↓RA, RB, simprocAttr, g0]
 refine (sR H).eNew 3 [I g.lo, I g.hi, g.dv] rfl rfl (by simp [OC, ((sR H).sl hg.1).cells.2.1]) a1n fun A1 H1 hS1 => ?_
 simp only [RT] at hS1
 simp (disch := omega) only [↓RA, RZ, simprocAttr, hn, g1, hS1.ld 0 rfl, (hS1.va hA).ld]
 refine jV (fun h1 => ?_) (fun h1 => ?_)
 ·simp (disch := omega) only [↓RA, RZ, simprocAttr, hn, g1, (hS1.va hA).ld, hS1.ld 0 rfl, b9j, h1]
  first | exact hS1.forget | exact ⟨by simp [h1], hS1.forget⟩
 simp (disch := omega) only [↓RA, RZ, simprocAttr, hn, b9j, h1]
 first | exact hS1.forget | exact ⟨by simp [], hS1.forget⟩
theorem b6y (v : Value) (xs : List Seg) (hv : Sl 3 Seg.cells H v xs) (hl : xs.length < 1000000000) (k : FuncId) (caps : List Value) (p : Nat → Bool)
 (hf : ∀ j H1, j < xs.length → St prog H H1 [] → Fn prog k (.agg #[I (iA xs j).lo, I (iA xs j).hi, (iA xs j).dv] :: caps) H1 fun r H2 => r = .bool (p j) ∧ St prog H1 H2 []) :
 Fn prog 211 [v, .func (.func k) #[] caps.toArray] H fun r H' => r = I (mW p xs.length) ∧ St prog H H' [] := by
 refine .aC func211 rfl (by kernel_rfl) (m := 19) rfl fun l hn g0 g1 => ?_
 simp (disch := omega) only [↓RA, RZ, simprocAttr, hn, g0, ((sR H).sl hv).len]
 refine Wp.al (fun n l H' => l.length = 19 ∧ get l 0 = v ∧ get l 1 = .func (.func k) #[] caps.toArray ∧ get l 7 = I xs.length ∧ ∃ (j : Nat), (n + j = xs.length ∧ ∀ q, q < j → p q = false) ∧ get l 8 = I j ∧ St prog H H' []) xs.length ?_ ?_
 ·simp (disch := omega) only [RB, RC, simprocAttr, hn, g0, g1]
  exact ⟨0, ⟨by omega, fun q hq => absurd hq (dK _)⟩, rfl, (sR H)⟩
 rintro n l H1 ⟨hn, g0, g1, g7, j, ⟨hi,h0⟩, g8, hS1⟩
 simp (disch := omega) only [↓RA, RB, simprocAttr, hn, g7, g8]
 refine gZ (fun h => ?_) (fun h => ?_)
 ·simp (disch := omega) only [↓RA, RZ, simprocAttr, hn, g0, g1, g8, (hS1.sl hv).idx, (hS1.sl hv).ae, Seg.cells, h]
  refine hS1.cF (hf j _ (by omega) hS1) fun H2 hS2 => ?_
  simp (disch := omega) only [↓RA, RZ, simprocAttr, hn, h]
  refine jK (fun hp => ?_) (fun hp => ?_)
  ·simp (disch := omega) only [↓RA, RZ, simprocAttr, hn, b9k, h, hp]
   exact ⟨by rw [uR p xs.length j (by omega) hp h0], hS2⟩
  simp (disch := omega) only [↓RA, RZ, simprocAttr, hn, g0, g1, g7, g8, h, hp]
  exact ⟨n - 1, by omega, j + 1, ⟨by omega, fun q hq => by rcases dr.1 hq with e | e; (· exact h0 q e); (· rw [e]; exact hp)⟩, by simp, hS2⟩
 simp (disch := omega) only [↓RA, RZ, simprocAttr, hn, b9k, h]
 exact ⟨by rw [uM p xs.length fun q hq => h0 q (by omega)], hS1⟩
theorem a7O {H0 : Heap} {os0 : List Ob} (hS0 : St prog H0 H os0) (s : Stp) (hs0 : s.In H0) (key : Int) : Fn prog 153 [.agg #[.string s.name, I s.num, I s.den, s.gv], I key] H fun r H' => ∃ g : Seg, r = .agg #[I g.lo, I g.hi, g.dv] ∧ g.In H0 ∧ g.draws = a8f s key ∧ St prog H H' [] := by
 have hs := hs0.ab hS0
 have hl := hs.2.2
 refine .aC func153 rfl (by kernel_rfl) (m := 18) rfl fun l hn g0 g1 => ?_
 simp (disch := omega) only [↓RA, RB, simprocAttr, g0]
 refine (sR H).eNew 4 [(.string s.name), I s.num, I s.den, s.gv] rfl rfl (by simp [OC, ((sR H).sl hs.1).cells.2.1]) mV fun A1 H1 hS1 => ?_
 simp only [RT] at hS1
 simp (disch := omega) only [↓RA, RB, simprocAttr, g1]
 refine hS1.eNew 1 [I key] rfl rfl rfl tS3 fun A2 H2 hS2 => ?_
 simp only [RT] at hS2
 simp (disch := omega) only [↓RA, RZ, simprocAttr]
 refine hS2.eNew 3 [I 0, I 0, (.slice none 0 0)] rfl rfl rfl a1n fun A3 H3 hS3 => ?_
 simp only [RT] at hS3
 simp (disch := omega) only [↓RA, RZ, simprocAttr, hn, hS3.ld 0 rfl]
 have hA := hS3.var 1 rfl
 have hSc := hS3
 refine hS3.cF (b6y s.gv s.segs (hS3.sl hs.1) hs.2.2 212 [ptr A2 0 1] (a9s s key) (fun j H1 hj hS' => b8h _ ((hs.2.1 _ (iD hj)).ab (hSc.trans hS')) key A2 (hA.ab hS'.ab))) fun H4 hS4 => ?_
 simp (disch := omega) only [↓RA, RB, simprocAttr, hn]
 refine gZ (fun h => ?_) (fun h => ?_)
 ·simp (disch := omega) only [↓RA, RZ, simprocAttr, hn, c0R, h]
  refine hS4.aa 2 rfl [I 0, I 0, (.slice none 0 0)] rfl rfl a1n (by simp) fun H5 hS5 => ?_
  simp only [RT] at hS5
  simp (disch := omega) only [↓RA, RZ, simprocAttr, hn, b9o, hS5.ae 2 rfl, h]
  exact ⟨⟨0, 0, .slice none 0 0, []⟩, rfl, ⟨⟨.inl ⟨rfl, rfl⟩, fun _ => rfl, by decide⟩, by simp⟩, by rw [a8f, if_pos h], hS5.forget⟩
 obtain ⟨j, hj⟩ : ∃ j : Nat, mW (a9s s key) s.segs.length = j := ⟨(mW (a9s s key) s.segs.length).toNat, by omega⟩
 have hjl : j < s.segs.length := xF hj
 simp (disch := omega) only [↓RA, RZ, simprocAttr, hn, hS4.ld 0 rfl, (hS4.sl hs.1).idx, (hS4.sl hs.1).ae, Seg.cells, hj]
 refine hS4.aa 2 rfl [I (iA s.segs j).lo, I (iA s.segs j).hi, (iA s.segs j).dv] rfl (by simp [OC, (hS4.sl (hs.2.1 (iA s.segs j) (iD (by omega))).1).cells.2.1]) a1n (by simp) fun H6 hS6 => ?_
 simp only [RT] at hS6
 simp (disch := omega) only [↓RA, RZ, simprocAttr, hn, b9o, hS6.ae 2 rfl, hj]
 exact ⟨iA s.segs j, rfl, hs0.2.1 _ (iD hjl), by rw [a8f, if_neg h, hj]; rfl, hS6.forget⟩
theorem b6V (rv : Value) (rks : List Rk) (hr : Sl 6 Rk.cells H rv rks) (hrk : ∀ r ∈ rks, r.In H) (hl : rks.length < 1000000000) (d : Drw) (key : Int) :
 Fn prog 154 [rv, .agg #[I d.rank, I d.shift], I key] H fun r H' => r = .tuple #[.agg #[I (pC rks d key).1, I (pC rks d key).2], .bool (yW rks d key)] ∧ St prog H H' [] := by
 refine .bN func154 rfl (by kernel_rfl) (m := 48) rfl fun l hn g0 g1 g2 => ?_
 simp (disch := omega) only [↓RA, RB, simprocAttr, g1]
 refine (sR H).eNew 2 [I d.rank, I d.shift] rfl rfl rfl a0g fun A1 H1 hS1 => ?_
 simp only [RT] at hS1
 simp (disch := omega) only [↓RA, RZ, simprocAttr]
 refine hS1.eNew 2 [I 0, I 0] rfl rfl rfl sL fun A2 H2 hS2 => ?_
 simp only [RT] at hS2
 simp (disch := omega) only [↓RA, RZ, simprocAttr, hn, hS2.ld 0 rfl]
 refine iO (fun h1 => ?_) (fun h1 => ?_)
 ·simp (disch := omega) only [↓RA, RZ, simprocAttr, hn, b9B, h1]
  refine hS2.aa 1 rfl [I 0, I 0] rfl rfl sL (by simp) fun H3 hS3 => ?_
  simp only [RT] at hS3
  simp (disch := omega) only [↓RA, RZ, simprocAttr, hn, b0q, hS3.ae 1 rfl, h1]
  exact ⟨by rw [pC, yW, if_pos (by omega), decide_eq_true (by omega)]; rfl, hS3.forget⟩
 simp (disch := omega) only [↓RA, RZ, simprocAttr, hn, g0, hS2.ld 0 rfl, (hS2.sl hr).len, h1]
 refine gZ (fun h2 => ?_) (fun h2 => ?_)
 ·simp (disch := omega) only [↓RA, RZ, simprocAttr, hn, b9B, h1, h2]
  refine hS2.aa 1 rfl [I 0, I 0] rfl rfl sL (by simp) fun H4 hS4 => ?_
  simp only [RT] at hS4
  simp (disch := omega) only [↓RA, RZ, simprocAttr, hn, b0q, hS4.ae 1 rfl, h1, h2]
  exact ⟨by rw [pC, yW, if_pos (by omega), decide_eq_true (by omega)]; rfl, hS4.forget⟩
 obtain ⟨j, hj⟩ : ∃ j : Nat, d.rank = j := ⟨d.rank.toNat, by omega⟩
 have hjl : j < rks.length := by omega
 have hp : pC rks d key = ((j : Int), uY (uY (key + d.shift) - (iA rks j).first)) := by rw [pC, if_neg (by omega), hj]; rfl
 have hh : yW rks d key = (decide (0 ≤ uY (uY (key + d.shift) - (iA rks j).first)) && decide (uY (uY (key + d.shift) - (iA rks j).first) < (iA rks j).wind.length)) := by
  rw [yW, hp, decide_eq_false (by omega), hj]
  rfl
 rw [hp, hh]
 have hw := (hrk _ (iD hjl)).2
 simp (disch := omega) only [↓RA, simprocAttr, hj]
 refine Wp.drw kC (by kernel_rfl) ?_
 simp (disch := omega) only [↓RA, RZ, simprocAttr, hn, g2]
 simp (disch := omega) only [↓RA, RZ, simprocAttr, hn, g0, hS2.ld 0 rfl, (hS2.sl hr).idx, (hS2.sl hr).bz, (hS2.sl hr).ld, Rk.cells, hj]
 refine Wp.aQ kC [(10, 18), (13, 18), (14, 18)] (by kernel_rfl) (by kernel_rfl) ?_
 simp (disch := omega) only [↓RA, RZ, simprocAttr, hn, hS2.ld 0 rfl, b5M, hj]
 refine jV (fun h3 => ?_) (fun h3 => ?_)
 ·skip
  simp (disch := omega) only [↓RA, RZ, simprocAttr, hn, g0, hS2.ld 0 rfl, (hS2.sl hr).idx, (hS2.sl hr).bz, (hS2.sl hr).ld, Rk.cells, (hS2.sl (hrk (iA rks j) (iD (by omega))).1).len, hj, h3]
  refine hS2.aa 1 rfl [I j, _] rfl rfl sL (by simp) fun H5 hS5 => ?_
  simp only [RT] at hS5
  simp (disch := omega) only [↓RA, RZ, simprocAttr, hn, hS5.ld 0 rfl, Rk.cells, (hS5.sl hr).ld, (hS5.sl (hrk (iA rks j) (iD (by omega))).1).len, b0q, hS5.ae 1 rfl, hj, h3]
  exact hS5.forget
 simp (disch := omega) only [↓RA, RZ, simprocAttr, hn, h3]
 refine hS2.aa 1 rfl [I j, _] rfl rfl sL (by simp) fun H6 hS6 => ?_
 simp only [RT] at hS6
 simp (disch := omega) only [↓RA, RZ, simprocAttr, hn, b0q, hS6.ae 1 rfl, h3]
 first | exact hS6.forget | exact ⟨by rw [fI], hS6.forget⟩
theorem b1L {B : Base} {v : Value} {es : List (Int × Int)} (hS : St prog B H [⟨v, 2, pr es⟩]) (hl : es.length < 1000000) :
 Fn prog 155 [v] H fun r H' => ∃ rest : List Value, (∀ b, kE r = some b → kE v = some b) ∧ (∀ H2, RdAt H2 v 2 (pr (dd (vL es)) ++ rest) → RdAt H2 r 2 (pr (dd (vL es)))) ∧ St prog B H' [⟨v, 2, pr (dd (vL es)) ++ rest⟩] := by
 refine .aY func155 rfl (by kernel_rfl) (m := 7) rfl fun l hn g0 => ?_
 simp (disch := omega) only [↓RA, RZ, simprocAttr, hn, g0]
 refine c3N hS 0 rfl (gU hl (by decide)) fun H1 hS1 => ?_
 simp only [fi] at hS1
 simp (disch := omega) only [↓RA, RZ, simprocAttr, hn, g0]
 refine iJ (a6b hS1 (by rw [oX]; exact gU hl (by decide))) ?_
 rintro r H2 ⟨rest, hb, hrd, hS2⟩
 have hrc := (hrd H2 (hS2.rd 0 rfl)).cells
 simp (disch := omega) only [↓RA, RB, simprocAttr, hn, c2r]
 exact ⟨rest, hb, hrd, hS2⟩
theorem b3m {a b : Int} {v : Value} {α : Type} {n : Nat} {cel : α → List Value} {xs : List α} (h : Sl n cel H v xs) : vU prog 189 (.agg #[I a, I b, v]) 2 = some v := by
 rcases h.rd with ⟨rfl, _⟩ | ⟨A, i, e, row, ty, rw, lo, ver, n, _, _, _, _, _, _, rfl⟩ <;> kernel_rfl
theorem b4v (rv : Value) (rks : List Rk) (hr : Sl 6 Rk.cells H rv rks) (hrk : ∀ r ∈ rks, r.In H) (hl : rks.length < 1000000000) (s : Stp) (hs : s.In H) (hs2 : ∀ g ∈ s.segs, g.draws.length ≤ 8) (key : Int) :
 Fn prog 118 [rv, .agg #[.string s.name, I s.num, I s.den, s.gv], I key] H fun r H' => Slx 2 kB H' (fun B => H.length ≤ B) r (sB rks s key) ∧ St prog H H' [] := by
 refine .bN func118 rfl (by kernel_rfl) (m := 36) rfl fun l hn g0 g1 g2 => ?_
 simp (disch := omega) only [↓RA, RB, simprocAttr, g1]
 refine (sR H).eNew 4 [(.string s.name), I s.num, I s.den, s.gv] rfl rfl (by simp [OC, ((sR H).sl hs.1).cells.2.1]) mV fun A1 H1 hS1 => ?_
 simp only [RT] at hS1
 simp (disch := omega) only [↓RA, RZ, simprocAttr, hn, g2, hS1.ae 0 rfl]
 refine iJ (a7O hS1 s hs key) ?_
 rintro r H2 ⟨g, rfl, hgi, hgd, hT1⟩
 have hS2 := hS1.trans hT1
 simp only [RT] at hS2
 have hgl := hgi.2
 have hg8 : g.draws.length ≤ 8 := by
  rw [hgd]
  unfold a8f
  split
  ·simp
  ·rename_i h
   exact hs2 _ (iD (xF (p := a9s s key) (n := s.segs.length) (by omega)))
 simp (disch := omega) only [↓RA, RZ, simprocAttr, hn, b3m (hS2.sl hgi.1), (hS2.sl hgi.1).len]
 have hS3 := hS2.nil 1
 simp only [RT] at hS3
 refine Wp.al (fun n l H' => l.length = 36 ∧ get l 0 = rv ∧ get l 2 = I key ∧ get l 6 = (.slice none 0 0) ∧ get l 15 = g.dv ∧ get l 16 = I g.draws.length ∧ ∃ (i : Nat) (ov : Value), (n + i = g.draws.length) ∧ get l 17 = I i ∧ get l 7 = ov ∧ St prog H H' [⟨ptr A1 0 4, 0, [(.string s.name), I s.num, I s.den, s.gv]⟩, ⟨ov, 2, pr (((g.draws.take i).filter fun d => yW rks d key).map fun d => pC rks d key)⟩]) g.draws.length ?_ ?_
 ·simp (disch := omega) only [RB, RC, simprocAttr, hn, g0, g2]
  exact ⟨0, _, by omega, rfl, rfl, hS3⟩
 rintro n l H3 ⟨hn, g0, g2, g6, g15, g16, i, ov, hi, g17, g7, hS4⟩
 simp (disch := omega) only [↓RA, RB, simprocAttr, hn, g16, g17]
 refine gZ (fun q1 => ?_) (fun q1 => ?_)
 ·simp (disch := omega) only [↓RA, RZ, simprocAttr, hn, g15, g17, (hS4.sl hgi.1).idx, (hS4.sl hgi.1).ae, Drw.cells, q1]
  refine hS4.eNew 2 [I 0, I 0] rfl rfl rfl a0g fun A2 H4 hS5 => ?_
  simp only [RT] at hS5
  simp (disch := omega) only [↓RA, RZ, simprocAttr, hn, q1]
  refine hS5.aa 2 rfl [I (iA g.draws i).rank, I (iA g.draws i).shift] rfl rfl a0g (by simp) fun H5 hS6 => ?_
  simp only [RT] at hS6
  simp (disch := omega) only [↓RA, RZ, simprocAttr, hn, g0, g2, hS6.ae 2 rfl, q1]
  refine hS6.cF (b6V rv rks (hS6.sl hr) (fun r hr' => (hrk r hr').ab hS6) hl (iA g.draws i) key) fun H6 hS7 => ?_
  have htk := kF g.draws i (by omega)
  have hfl : ((g.draws.take i).filter fun d => yW rks d key).length ≤ i := by
   refine dE (dX _ _) ?_
   simp
   omega
  simp (disch := omega) only [↓RA, RZ, simprocAttr, hn, q1]
  refine hS7.eNew 2 [I 0, I 0] rfl rfl rfl sL fun A3 H7 hS8 => ?_
  simp only [RT] at hS8
  simp (disch := omega) only [↓RA, RZ, simprocAttr, hn, q1]
  refine hS8.aa 3 rfl [I (pC rks (iA g.draws i) key).1, I (pC rks (iA g.draws i) key).2] rfl rfl sL (by simp) fun H8 hS9 => ?_
  simp only [RT] at hS9
  simp (disch := omega) only [↓RA, RZ, simprocAttr, hn, q1]
  refine jK (fun q2 => ?_) (fun q2 => ?_)
  ·skip
   simp (disch := omega) only [↓RA, RZ, simprocAttr, hn, g7, hS9.ae 3 rfl, q1, q2]
   refine hS9.ai [I (pC rks (iA g.draws i) key).1, I (pC rks (iA g.draws i) key).2] c0Y c4Y rfl rfl (by simp [Value.cells]) rfl rfl (by decide) (by decide) fun w1 H9 hS10 => ?_
   simp only [RT] at hS10
   simp (disch := omega) only [↓RA, RZ, simprocAttr, hn, q1, q2]
   refine hS10.aq 1 rfl (hS10.rd 4 rfl) c0Y (by rw [iE]; simp; omega) fun w2 H10 hS11 => ?_
   simp only [RT] at hS11
   simp (disch := omega) only [↓RA, RZ, simprocAttr, hn, g0, g2, g6, g15, g16, g17, q1, q2]
   refine ⟨n - 1, by omega, i + 1, w2, by omega, by simp, rfl, ?_⟩
   rw [htk, eB, dx, jT]
   have e : ([iA g.draws i].filter fun d => yW rks d key) = [iA g.draws i] := by simp [q2]
   rw [e]
   exact hS11.pick [0, 1] (by decide) rfl
  simp (disch := omega) only [↓RA, RZ, simprocAttr, hn, g0, g2, g6, g15, g16, g17, g7, q1, q2]
  refine ⟨n - 1, by omega, i + 1, ov, by omega, by simp, rfl, ?_⟩
  rw [htk, eB, dx, jT]
  have e : ([iA g.draws i].filter fun d => yW rks d key) = [] := by simp [q2]
  rw [e]
  simp only [pr, fR, fL, dp]
  exact hS9.pick [0, 1] (by decide) rfl
 simp (disch := omega) only [↓RA, RZ, simprocAttr, hn, g7, q1]
 have hii : i = g.draws.length := by omega
 subst hii
 have hfl : ((g.draws.filter fun d => yW rks d key).map fun d => pC rks d key).length ≤ 8 := by
  rw [dH]
  exact dE (dX _ _) hg8
 rw [ef] at hS4
 have hM1 := hS4.pick (os' := [⟨ov, 2, _⟩]) [1] (by decide) rfl
 have hR1 := hS4.pick (os' := [⟨ov, 2, _⟩, ⟨ptr A1 0 4, 0, _⟩]) [1, 0] (by decide) rfl
 refine iJ (b1L (es := (g.draws.filter fun d => yW rks d key).map fun d => pC rks d key) hM1.aH (by omega)) ?_
 rintro r H11 ⟨rest, hb, hrd, hT3⟩
 have hS12 := hR1.frame hT3
 simp only [RT] at hS12
 have hrr := hrd _ (hS12.rd 0 rfl)
 have hrc := hrr.cells
 simp (disch := omega) only [↓RA, RZ, simprocAttr, hn, c3b, q1]
 refine ⟨⟨⟨?_, pK, by decide⟩, fun b h => ?_⟩, hS12.forget⟩
 ·unfold sB
  rw [← hgd]
  exact hrr
 ·rcases hS12.new _ (ew ..) b (hb b h) with h | h
  ·exact h
  ·exact h.elim
end Go.Ds
namespace Go.Ds
open Go.Proofs Go.Proofs.Tryz
variable {H : Heap}
set_option maxRecDepth 10000
set_option maxHeartbeats 1000000
abbrev KC (kvs : List (Ct × Bool)) : List Value := kcs (fun p : Int × Int => .agg #[I p.1, I p.2]) Value.bool kvs
def vW (kvs : List (Ct × Bool)) (c : Ct) : Bool := (pJ kvs c).getD false
theorem b0R {B : Base} (o : Org) (r : Reg) (sv : Value) (c : Ct) (AO AR AS AQ M : Nat) (qv : Value) (q : List Ct) (kvs : List (Ct × Bool))
 (hS : St prog B H [⟨.map (some M), 0, KC kvs⟩, ⟨ptr AQ 0 1, 0, [qv]⟩, ⟨qv, 2, pr q⟩])
 (hO : ∀ {H1 : Heap} {os : List Ob}, St prog B H1 os → Var H1 AO 4 [.string o.name, o.rv, o.dv, o.cv] ∧ o.In H1 ∧ Var H1 AR 3 [sv, .int .u64 r.cpl, .int .u64 r.off] ∧ Var H1 AS 1 [.map (some M)])
 (hk : ∀ t, vW kvs t = true ↔ t ∈ q) (hq : Que o q) (ho : o.Fine) (hr : r.Ok) :
 Fn prog 111 [.agg #[I c.1, I c.2], .bool true, ptr AO 0 4, ptr AR 0 3, ptr AS 0 1, ptr AQ 0 1] H fun rr H' => ∃ kvs' qv', rr = .tuple #[] ∧ (∀ t, vW kvs' t = true ↔ t ∈ stepF o r.cpl true c q) ∧
  St prog B H' [⟨.map (some M), 0, KC kvs'⟩, ⟨ptr AQ 0 1, 0, [qv']⟩, ⟨qv', 2, pr (stepF o r.cpl true c q)⟩] := by
 have hcl := ho.clen
 refine .cT func111 rfl (by kernel_rfl) (m := 65) rfl fun l hn g0 g1 g2 g3 g4 g5 => ?_
 simp (disch := omega) only [↓RA, RB, simprocAttr, g0]
 refine hS.eNew 2 [I c.1, I c.2] rfl rfl rfl qQ fun A1 H1 hS1 => ?_
 simp only [RT] at hS1
 simp (disch := omega) only [↓RA, RZ, simprocAttr, hn, g2, ((hO hS1).1).ld, ((hO hS1).2.1.2.2.2.2.1).len]
 refine Wp.al (fun n l H' => l.length = 65 ∧ get l 1 = (.bool true) ∧ get l 2 = (ptr AO 0 4) ∧ get l 3 = (ptr AR 0 3) ∧ get l 4 = (ptr AS 0 1) ∧ get l 5 = (ptr AQ 0 1) ∧ get l 6 = (ptr A1 0 2) ∧ get l 12 = o.cv ∧ get l 13 = I o.cpls.length ∧ ∃ (i : Nat) (kvs' : List (Ct × Bool)) (qv' : Value), (n + i = o.cpls.length ∧ ∀ t, vW kvs' t = true ↔ t ∈ stepN o r.cpl true c q i) ∧ get l 14 = I i ∧ St prog B H' [⟨.map (some M), 0, KC kvs'⟩, ⟨ptr AQ 0 1, 0, [qv']⟩, ⟨qv', 2, pr (stepN o r.cpl true c q i)⟩, ⟨ptr A1 0 2, 0, [I c.1, I c.2]⟩]) o.cpls.length ?_ ?_
 ·simp (disch := omega) only [RB, RC, simprocAttr, hn, g1, g2, g3, g4, g5]
  exact ⟨0, kvs, qv, ⟨by omega, hk⟩, rfl, hS1⟩
 rintro n l H2 ⟨hn, g1, g2, g3, g4, g5, g6, g12, g13, i, kvs', qv', ⟨hi,hk'⟩, g14, hS2⟩
 simp (disch := omega) only [↓RA, RB, simprocAttr, hn, g13, g14]
 refine gZ (fun q1 => ?_) (fun q1 => ?_)
 ·have hql : (stepN o r.cpl true c q i).length ≤ 1024 := (hq.stepN r.cpl true c i).len ho
  have e1 := a7r r.cpl i hr.2.2.1
  have e2 := a7v (r.cpl >>> i) (a1w i hr.2.2.1)
  have e3 := tb r.cpl i
  have hskip : a0H r.cpl true c (iA o.cpls i) i = false → stepN o r.cpl true c q (i + 1) = stepN o r.cpl true c q i := fun h => by
   rw [nK, step1, if_neg (by rw [h]; simp)]
  have hkeep : sC o ((iA o.cpls i).dst, uY (c.2 + (iA o.cpls i).shift)) = false ∨ ((iA o.cpls i).dst, uY (c.2 + (iA o.cpls i).shift)) ∈ stepN o r.cpl true c q i → stepN o r.cpl true c q (i + 1) = stepN o r.cpl true c q i := fun h => by
   rw [nK, step1, if_neg]
   simp only [to1, da, dG]
   rintro ⟨⟨_, h2⟩, h3⟩
   rcases h with h | h
   ·rw [h] at h2; cases h2
   ·exact absurd h (of_decide_eq_false h3)
  simp (disch := omega) only [↓RA, RZ, simprocAttr, hn, g12, g14, ((hO hS2).2.1.2.2.2.2.1).idx, ((hO hS2).2.1.2.2.2.2.1).ae, Cpl.cells, q1]
  refine hS2.eNew 5 [(.string ⟨#[]⟩), I 0, I 0, I 0, (.bool false)] rfl rfl rfl vF fun A2 H3 hS3 => ?_
  simp only [RT] at hS3
  simp (disch := omega) only [↓RA, RZ, simprocAttr, hn, q1]
  refine hS3.aa 4 rfl [(.string (iA o.cpls i).name), I (iA o.cpls i).src, I (iA o.cpls i).dst, I (iA o.cpls i).shift, (.bool (iA o.cpls i).thr)] rfl rfl vF (by simp) fun H4 hS4 => ?_
  simp only [RT] at hS4
  simp (disch := omega) only [↓RA, RZ, simprocAttr, hn, g3, ((hO hS4).2.2.1).ld, q1, e1, e2]
  refine iO (fun b1 => ?_) (fun b1 => ?_)
  ·have hs := hskip (by unfold a0H; rw [e3, decide_eq_false (by omega)]; rfl)
   simp (disch := omega) only [↓RA, RZ, simprocAttr, hn, g1, g2, g3, g4, g5, g6, g12, g13, g14, q1, b1]
   exact ⟨n - 1, by omega, i + 1, kvs', qv', ⟨by omega, by rw [hs]; exact hk'⟩, by simp, by rw [hs]; exact hS4.pick [0, 1, 2, 3] (by decide) rfl⟩
  have hb : r.cpl.testBit i = true := by rw [e3]; exact decide_eq_true (by omega)
  simp (disch := omega) only [↓RA, RZ, simprocAttr, hn, g6, hS4.ld 4 rfl, hS4.ld 3 rfl, q1, b1]
  refine iO (fun b2 => ?_) (fun b2 => ?_)
  ·have hs := hskip (by unfold a0H; rw [decide_eq_false b2]; simp)
   simp (disch := omega) only [↓RA, RZ, simprocAttr, hn, g1, g2, g3, g4, g5, g6, g12, g13, g14, q1, b1, b2]
   exact ⟨n - 1, by omega, i + 1, kvs', qv', ⟨by omega, by rw [hs]; exact hk'⟩, by simp, by rw [hs]; exact hS4.pick [0, 1, 2, 3] (by decide) rfl⟩
  have hsrc := dC.1 b2
  simp (disch := omega) only [↓RA, RZ, simprocAttr, hn, g1, hS4.ld 4 rfl, q1, b1, b2]
  refine jK (fun b4 => ?_) (fun b4 => ?_)
  ·have hs := hskip (by unfold a0H; simp only [Bool.not_true, Bool.false_or, fB]; exact .inr (by simpa using b4))
   simp (disch := omega) only [↓RA, RZ, simprocAttr, hn, g1, g2, g3, g4, g5, g6, g12, g13, g14, q1, b1, b2, b4]
   exact ⟨n - 1, by omega, i + 1, kvs', qv', ⟨by omega, by rw [hs]; exact hk'⟩, by simp, by rw [hs]; exact hS4.pick [0, 1, 2, 3] (by decide) rfl⟩
  have hgo : a0H r.cpl true c (iA o.cpls i) i = true := by
   unfold a0H
   rw [hb, decide_eq_true hsrc]
   simpa using b4
  simp (disch := omega) only [↓RA, RZ, simprocAttr, hn, g6, hS4.ld 4 rfl, hS4.ld 3 rfl, q1, b1, b2, b4]
  simp (disch := omega) only [↓RA, RZ, simprocAttr, a1i]
  refine hS4.eNew 2 [I 0, I 0] rfl rfl rfl qQ fun A3 H5 hS5 => ?_
  simp only [RT] at hS5
  simp (disch := omega) only [↓RA, RZ, simprocAttr, hn, q1, b1, b2, b4]
  refine hS5.aa 5 rfl [I (iA o.cpls i).dst, I (uY (c.2 + (iA o.cpls i).shift))] rfl rfl qQ (by simp) fun H6 hS6 => ?_
  simp only [RT] at hS6
  simp (disch := omega) only [↓RA, RZ, simprocAttr, hn, g2, ((hO hS6).1).ae, hS6.ae 5 rfl, q1, b1, b2, b4]
  refine hS6.cF (wK o (hO hS6).2.1 ((iA o.cpls i).dst, uY (c.2 + (iA o.cpls i).shift))) fun H7 hS7 => ?_
  simp (disch := omega) only [↓RA, RZ, simprocAttr, hn, q1, b1, b2, b4]
  refine jV (fun b5 => ?_) (fun b5 => ?_)
  ·have hok := (tS o _).1 b5
   simp (disch := omega) only [↓RA, RZ, simprocAttr, hn, g4, ((hO hS7).2.2.2).ld, hS7.ae 5 rfl, q1, b1, b2, b4, b5]
   refine hS7.bq (k := ((iA o.cpls i).dst, uY (c.2 + (iA o.cpls i).shift))) 0 rfl a6i (fun _ => rfl) ?_
   simp (disch := omega) only [↓RA, RZ, simprocAttr, hn, q1, b1, b2, b4, b5]
   refine jK (fun b6 => ?_) (fun b6 => ?_)
   ·have hnot : ((iA o.cpls i).dst, uY (c.2 + (iA o.cpls i).shift)) ∉ stepN o r.cpl true c q i := fun h => by
     have h := (hk' _).2 h
     unfold vW at h
     first | (rw [dG] at b6; exact Bool.false_ne_true (b6.symm.trans h)) | exact b6 h
    have hs : stepN o r.cpl true c q (i + 1) = stepN o r.cpl true c q i ++ [((iA o.cpls i).dst, uY (c.2 + (iA o.cpls i).shift))] := by
     rw [nK]
     unfold step1
     rw [if_pos (by simp only [to1, hgo, hok]; simp [hnot])]
     rfl
    simp (disch := omega) only [↓RA, RZ, simprocAttr, hn, g4, ((hO hS7).2.2.2).ld, hS7.ae 5 rfl, q1, b1, b2, b4, b5, b6]
    refine hS7.cg (k := ((iA o.cpls i).dst, uY (c.2 + (iA o.cpls i).shift))) 0 rfl a6i fun H8 hS8 => ?_
    simp only [RT] at hS8
    simp (disch := omega) only [↓RA, RZ, simprocAttr, hn, g5, hS8.ld 1 rfl, hS8.ae 5 rfl, q1, b1, b2, b4, b5, b6]
    refine hS8.ai [I (iA o.cpls i).dst, I (uY (c.2 + (iA o.cpls i).shift))] a7s b7J rfl rfl (by simp [Value.cells]) rfl rfl (by decide) (by decide) fun w1 H9 hS9 => ?_
    simp only [RT] at hS9
    simp (disch := omega) only [↓RA, RZ, simprocAttr, hn, q1, b1, b2, b4, b5, b6]
    refine hS9.aq 2 rfl (hS9.rd 6 rfl) a7s (by rw [iE]; simp; omega) fun w2 H10 hS10 => ?_
    simp only [RT] at hS10
    simp (disch := omega) only [↓RA, RZ, simprocAttr, hn, g5, q1, b1, b2, b4, b5, b6]
    refine hS10.aa 1 rfl [w2] (by rw [(hS10.rd 2 rfl).cells.1]) (by simp [(hS10.rd 2 rfl).cells.2.1]) b7r (by simp) fun H11 hS11 => ?_
    simp only [RT] at hS11
    simp (disch := omega) only [↓RA, RZ, simprocAttr, hn, g1, g2, g3, g4, g5, g6, g12, g13, g14, q1, b1, b2, b4, b5, b6]
    refine ⟨n - 1, by omega, i + 1, zB kvs' ((iA o.cpls i).dst, uY (c.2 + (iA o.cpls i).shift)) true, w2, ⟨by omega, fun t => ?_⟩, by simp, ?_⟩
    ·rw [hs, dD, dz, ← hk' t]
     unfold vW
     rw [wU]
     by_cases e : t = ((iA o.cpls i).dst, uY (c.2 + (iA o.cpls i).shift))
     ·simp [e]
     ·simp [e]
    ·rw [hs, jT]
     exact hS11.pick [0, 1, 2, 3] (by decide) rfl
   have hin : ((iA o.cpls i).dst, uY (c.2 + (iA o.cpls i).shift)) ∈ stepN o r.cpl true c q i := (hk' _).1 (by
    unfold vW
    simpa using b6)
   have hs := hkeep (.inr hin)
   simp (disch := omega) only [↓RA, RZ, simprocAttr, hn, g1, g2, g3, g4, g5, g6, g12, g13, g14, q1, b1, b2, b4, b5, b6]
   exact ⟨n - 1, by omega, i + 1, kvs', qv', ⟨by omega, by rw [hs]; exact hk'⟩, by simp, by rw [hs]; exact hS7.pick [0, 1, 2, 3] (by decide) rfl⟩
  have hs := hkeep (.inl (by rw [← eE]; exact fun h => b5 ((tS o _).2 h)))
  simp (disch := omega) only [↓RA, RZ, simprocAttr, hn, g1, g2, g3, g4, g5, g6, g12, g13, g14, q1, b1, b2, b4, b5]
  exact ⟨n - 1, by omega, i + 1, kvs', qv', ⟨by omega, by rw [hs]; exact hk'⟩, by simp, by rw [hs]; exact hS7.pick [0, 1, 2, 3] (by decide) rfl⟩
 simp (disch := omega) only [↓RA, RZ, simprocAttr, b9b, q1]
 have hii : i = o.cpls.length := by omega
 subst hii
 exact ⟨kvs', qv', hk', hS2.pick [0, 1, 2] (by decide) rfl⟩
theorem b2y {B : Base} (o : Org) (r : Reg) (sv : Value) (c : Ct) (AO AR AS AQ M : Nat) (qv : Value) (q : List Ct) (kvs : List (Ct × Bool))
 (hS : St prog B H [⟨.map (some M), 0, KC kvs⟩, ⟨ptr AQ 0 1, 0, [qv]⟩, ⟨qv, 2, pr q⟩])
 (hO : ∀ {H1 : Heap} {os : List Ob}, St prog B H1 os → Var H1 AO 4 [.string o.name, o.rv, o.dv, o.cv] ∧ o.In H1 ∧ Var H1 AR 3 [sv, .int .u64 r.cpl, .int .u64 r.off] ∧ Var H1 AS 1 [.map (some M)])
 (hk : ∀ t, vW kvs t = true ↔ t ∈ q) (hq : Que o q) (ho : o.Fine) (hr : r.Ok) :
 Fn prog 111 [.agg #[I c.1, I c.2], .bool false, ptr AO 0 4, ptr AR 0 3, ptr AS 0 1, ptr AQ 0 1] H fun rr H' => ∃ kvs' qv', rr = .tuple #[] ∧ (∀ t, vW kvs' t = true ↔ t ∈ stepF o r.cpl false c q) ∧
  St prog B H' [⟨.map (some M), 0, KC kvs'⟩, ⟨ptr AQ 0 1, 0, [qv']⟩, ⟨qv', 2, pr (stepF o r.cpl false c q)⟩] := by
 have hcl := ho.clen
 refine .cT func111 rfl (by kernel_rfl) (m := 65) rfl fun l hn g0 g1 g2 g3 g4 g5 => ?_
 simp (disch := omega) only [↓RA, RB, simprocAttr, g0]
 refine hS.eNew 2 [I c.1, I c.2] rfl rfl rfl qQ fun A1 H1 hS1 => ?_
 simp only [RT] at hS1
 simp (disch := omega) only [↓RA, RZ, simprocAttr, hn, g2, ((hO hS1).1).ld, ((hO hS1).2.1.2.2.2.2.1).len]
 refine Wp.al (fun n l H' => l.length = 65 ∧ get l 1 = (.bool false) ∧ get l 2 = (ptr AO 0 4) ∧ get l 3 = (ptr AR 0 3) ∧ get l 4 = (ptr AS 0 1) ∧ get l 5 = (ptr AQ 0 1) ∧ get l 6 = (ptr A1 0 2) ∧ get l 12 = o.cv ∧ get l 13 = I o.cpls.length ∧ ∃ (i : Nat) (kvs' : List (Ct × Bool)) (qv' : Value), (n + i = o.cpls.length ∧ ∀ t, vW kvs' t = true ↔ t ∈ stepN o r.cpl false c q i) ∧ get l 14 = I i ∧ St prog B H' [⟨.map (some M), 0, KC kvs'⟩, ⟨ptr AQ 0 1, 0, [qv']⟩, ⟨qv', 2, pr (stepN o r.cpl false c q i)⟩, ⟨ptr A1 0 2, 0, [I c.1, I c.2]⟩]) o.cpls.length ?_ ?_
 ·simp (disch := omega) only [RB, RC, simprocAttr, hn, g1, g2, g3, g4, g5]
  exact ⟨0, kvs, qv, ⟨by omega, hk⟩, rfl, hS1⟩
 rintro n l H2 ⟨hn, g1, g2, g3, g4, g5, g6, g12, g13, i, kvs', qv', ⟨hi,hk'⟩, g14, hS2⟩
 simp (disch := omega) only [↓RA, RB, simprocAttr, hn, g13, g14]
 refine gZ (fun q1 => ?_) (fun q1 => ?_)
 ·have hql : (stepN o r.cpl false c q i).length ≤ 1024 := (hq.stepN r.cpl false c i).len ho
  have e1 := a7r r.cpl i hr.2.2.1
  have e2 := a7v (r.cpl >>> i) (a1w i hr.2.2.1)
  have e3 := tb r.cpl i
  have hskip : a0H r.cpl false c (iA o.cpls i) i = false → stepN o r.cpl false c q (i + 1) = stepN o r.cpl false c q i := fun h => by
   rw [nK, step1, if_neg (by rw [h]; simp)]
  have hkeep : sC o ((iA o.cpls i).dst, uY (c.2 + (iA o.cpls i).shift)) = false ∨ ((iA o.cpls i).dst, uY (c.2 + (iA o.cpls i).shift)) ∈ stepN o r.cpl false c q i → stepN o r.cpl false c q (i + 1) = stepN o r.cpl false c q i := fun h => by
   rw [nK, step1, if_neg]
   simp only [to1, da, dG]
   rintro ⟨⟨_, h2⟩, h3⟩
   rcases h with h | h
   ·rw [h] at h2; cases h2
   ·exact absurd h (of_decide_eq_false h3)
  simp (disch := omega) only [↓RA, RZ, simprocAttr, hn, g12, g14, ((hO hS2).2.1.2.2.2.2.1).idx, ((hO hS2).2.1.2.2.2.2.1).ae, Cpl.cells, q1]
  refine hS2.eNew 5 [(.string ⟨#[]⟩), I 0, I 0, I 0, (.bool false)] rfl rfl rfl vF fun A2 H3 hS3 => ?_
  simp only [RT] at hS3
  simp (disch := omega) only [↓RA, RZ, simprocAttr, hn, q1]
  refine hS3.aa 4 rfl [(.string (iA o.cpls i).name), I (iA o.cpls i).src, I (iA o.cpls i).dst, I (iA o.cpls i).shift, (.bool (iA o.cpls i).thr)] rfl rfl vF (by simp) fun H4 hS4 => ?_
  simp only [RT] at hS4
  simp (disch := omega) only [↓RA, RZ, simprocAttr, hn, g3, ((hO hS4).2.2.1).ld, q1, e1, e2]
  refine iO (fun b1 => ?_) (fun b1 => ?_)
  ·have hs := hskip (by unfold a0H; rw [e3, decide_eq_false (by omega)]; rfl)
   simp (disch := omega) only [↓RA, RZ, simprocAttr, hn, g1, g2, g3, g4, g5, g6, g12, g13, g14, q1, b1]
   exact ⟨n - 1, by omega, i + 1, kvs', qv', ⟨by omega, by rw [hs]; exact hk'⟩, by simp, by rw [hs]; exact hS4.pick [0, 1, 2, 3] (by decide) rfl⟩
  have hb : r.cpl.testBit i = true := by rw [e3]; exact decide_eq_true (by omega)
  simp (disch := omega) only [↓RA, RZ, simprocAttr, hn, g6, hS4.ld 4 rfl, hS4.ld 3 rfl, q1, b1]
  refine iO (fun b2 => ?_) (fun b2 => ?_)
  ·have hs := hskip (by unfold a0H; rw [decide_eq_false b2]; simp)
   simp (disch := omega) only [↓RA, RZ, simprocAttr, hn, g1, g2, g3, g4, g5, g6, g12, g13, g14, q1, b1, b2]
   exact ⟨n - 1, by omega, i + 1, kvs', qv', ⟨by omega, by rw [hs]; exact hk'⟩, by simp, by rw [hs]; exact hS4.pick [0, 1, 2, 3] (by decide) rfl⟩
  have hsrc := dC.1 b2
  have hgo : a0H r.cpl false c (iA o.cpls i) i = true := by
   unfold a0H
   rw [hb, decide_eq_true hsrc]
   rfl
  simp (disch := omega) only [↓RA, RZ, simprocAttr, hn, g1, g6, hS4.ld 4 rfl, hS4.ld 3 rfl, q1, b1, b2]
  simp (disch := omega) only [↓RA, RZ, simprocAttr, a1i]
  refine hS4.eNew 2 [I 0, I 0] rfl rfl rfl qQ fun A3 H5 hS5 => ?_
  simp only [RT] at hS5
  simp (disch := omega) only [↓RA, RZ, simprocAttr, hn, q1, b1, b2]
  refine hS5.aa 5 rfl [I (iA o.cpls i).dst, I (uY (c.2 + (iA o.cpls i).shift))] rfl rfl qQ (by simp) fun H6 hS6 => ?_
  simp only [RT] at hS6
  simp (disch := omega) only [↓RA, RZ, simprocAttr, hn, g2, ((hO hS6).1).ae, hS6.ae 5 rfl, q1, b1, b2]
  refine hS6.cF (wK o (hO hS6).2.1 ((iA o.cpls i).dst, uY (c.2 + (iA o.cpls i).shift))) fun H7 hS7 => ?_
  simp (disch := omega) only [↓RA, RZ, simprocAttr, hn, q1, b1, b2]
  refine jV (fun b5 => ?_) (fun b5 => ?_)
  ·have hok := (tS o _).1 b5
   simp (disch := omega) only [↓RA, RZ, simprocAttr, hn, g4, ((hO hS7).2.2.2).ld, hS7.ae 5 rfl, q1, b1, b2, b5]
   refine hS7.bq (k := ((iA o.cpls i).dst, uY (c.2 + (iA o.cpls i).shift))) 0 rfl a6i (fun _ => rfl) ?_
   simp (disch := omega) only [↓RA, RZ, simprocAttr, hn, q1, b1, b2, b5]
   refine jK (fun b6 => ?_) (fun b6 => ?_)
   ·have hnot : ((iA o.cpls i).dst, uY (c.2 + (iA o.cpls i).shift)) ∉ stepN o r.cpl false c q i := fun h => by
     have h := (hk' _).2 h
     unfold vW at h
     first | (rw [dG] at b6; exact Bool.false_ne_true (b6.symm.trans h)) | exact b6 h
    have hs : stepN o r.cpl false c q (i + 1) = stepN o r.cpl false c q i ++ [((iA o.cpls i).dst, uY (c.2 + (iA o.cpls i).shift))] := by
     rw [nK]
     unfold step1
     rw [if_pos (by simp only [to1, hgo, hok]; simp [hnot])]
     rfl
    simp (disch := omega) only [↓RA, RZ, simprocAttr, hn, g4, ((hO hS7).2.2.2).ld, hS7.ae 5 rfl, q1, b1, b2, b5, b6]
    refine hS7.cg (k := ((iA o.cpls i).dst, uY (c.2 + (iA o.cpls i).shift))) 0 rfl a6i fun H8 hS8 => ?_
    simp only [RT] at hS8
    simp (disch := omega) only [↓RA, RZ, simprocAttr, hn, g5, hS8.ld 1 rfl, hS8.ae 5 rfl, q1, b1, b2, b5, b6]
    refine hS8.ai [I (iA o.cpls i).dst, I (uY (c.2 + (iA o.cpls i).shift))] a7s b7J rfl rfl (by simp [Value.cells]) rfl rfl (by decide) (by decide) fun w1 H9 hS9 => ?_
    simp only [RT] at hS9
    simp (disch := omega) only [↓RA, RZ, simprocAttr, hn, q1, b1, b2, b5, b6]
    refine hS9.aq 2 rfl (hS9.rd 6 rfl) a7s (by rw [iE]; simp; omega) fun w2 H10 hS10 => ?_
    simp only [RT] at hS10
    simp (disch := omega) only [↓RA, RZ, simprocAttr, hn, g5, q1, b1, b2, b5, b6]
    refine hS10.aa 1 rfl [w2] (by rw [(hS10.rd 2 rfl).cells.1]) (by simp [(hS10.rd 2 rfl).cells.2.1]) b7r (by simp) fun H11 hS11 => ?_
    simp only [RT] at hS11
    simp (disch := omega) only [↓RA, RZ, simprocAttr, hn, g1, g2, g3, g4, g5, g6, g12, g13, g14, q1, b1, b2, b5, b6]
    refine ⟨n - 1, by omega, i + 1, zB kvs' ((iA o.cpls i).dst, uY (c.2 + (iA o.cpls i).shift)) true, w2, ⟨by omega, fun t => ?_⟩, by simp, ?_⟩
    ·rw [hs, dD, dz, ← hk' t]
     unfold vW
     rw [wU]
     by_cases e : t = ((iA o.cpls i).dst, uY (c.2 + (iA o.cpls i).shift))
     ·simp [e]
     ·simp [e]
    ·rw [hs, jT]
     exact hS11.pick [0, 1, 2, 3] (by decide) rfl
   have hin : ((iA o.cpls i).dst, uY (c.2 + (iA o.cpls i).shift)) ∈ stepN o r.cpl false c q i := (hk' _).1 (by
    unfold vW
    simpa using b6)
   have hs := hkeep (.inr hin)
   simp (disch := omega) only [↓RA, RZ, simprocAttr, hn, g1, g2, g3, g4, g5, g6, g12, g13, g14, q1, b1, b2, b5, b6]
   exact ⟨n - 1, by omega, i + 1, kvs', qv', ⟨by omega, by rw [hs]; exact hk'⟩, by simp, by rw [hs]; exact hS7.pick [0, 1, 2, 3] (by decide) rfl⟩
  have hs := hkeep (.inl (by rw [← eE]; exact fun h => b5 ((tS o _).2 h)))
  simp (disch := omega) only [↓RA, RZ, simprocAttr, hn, g1, g2, g3, g4, g5, g6, g12, g13, g14, q1, b1, b2, b5]
  exact ⟨n - 1, by omega, i + 1, kvs', qv', ⟨by omega, by rw [hs]; exact hk'⟩, by simp, by rw [hs]; exact hS7.pick [0, 1, 2, 3] (by decide) rfl⟩
 simp (disch := omega) only [↓RA, RZ, simprocAttr, b9b, q1]
 have hii : i = o.cpls.length := by omega
 subst hii
 exact ⟨kvs', qv', hk', hS2.pick [0, 1, 2] (by decide) rfl⟩
end Go.Ds
