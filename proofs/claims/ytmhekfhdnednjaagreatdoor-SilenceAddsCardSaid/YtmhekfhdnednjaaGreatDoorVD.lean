/-
  A part of the proof of SilenceAdds.
-/
import Derived.Test.YtmhekfhdnednjaaGreatDoorVC
import Derived.Test.YtmhekfhdnednjaaGreatDoorProg
import Derived.KernelRfl
import Derived.Test.YtmhekfhdnednjaaGreatDoorVB
import Derived.Shelf.SlSortCmp.NoneTotal
import Derived.Shelf.SlGeneric
import Derived.Shelf.SlLaysF0
set_option linter.unusedVariables false
set_option linter.unusedSimpArgs false
set_option linter.defProp false
set_option linter.unusedSectionVars false
namespace Go.Ds
open Go.Proofs Go.Proofs.Tryz
abbrev I (n : Int) : Value := .int .i64 n
theorem sR (H : Heap) : St prog H H [] := .refl ..
theorem jZ : prog.follows .mixedOrders = true := by kernel_rfl
theorem tS3 : iD prog 3 = some 1 := by kernel_rfl
theorem tS9 : iD prog 9 = some 1 := by kernel_rfl
theorem b6Z : iD prog 26 = some 3 := by kernel_rfl
theorem b7b : iD prog 27 = some 1 := by kernel_rfl
theorem a5A : iD prog 28 = some 1 := by kernel_rfl
theorem mP : iD prog 30 = some 3 := by kernel_rfl
theorem b7T : iD prog 33 = some 1 := by kernel_rfl
theorem c4a : iD prog 36 = some 1 := by kernel_rfl
theorem c3n : iD prog 37 = some 1 := by kernel_rfl
theorem b7t : iD prog 38 = some 1 := by kernel_rfl
theorem mW : iD prog 40 = some 4 := by kernel_rfl
theorem c4N : iD prog 45 = some 1 := by kernel_rfl
theorem c2u : iD prog 53 = some 5 := by kernel_rfl
theorem c1F : iD prog 57 = some 3 := by kernel_rfl
theorem b7l : iD prog 60 = some 1 := by kernel_rfl
theorem pK : iD prog 67 = some 2 := by kernel_rfl
theorem rB : iD prog 74 = some 2 := by kernel_rfl
theorem a0z : iD prog 76 = some 2 := by kernel_rfl
theorem c4f : iD prog 77 = some 1 := by kernel_rfl
theorem a3c : iD prog 79 = some 6 := by kernel_rfl
theorem c1T : iD prog 89 = some 1 := by kernel_rfl
theorem lT : iD prog 96 = some 2 := by kernel_rfl
theorem b4z : iD prog 100 = some 3 := by kernel_rfl
theorem vX : iD prog 108 = some 2 := by kernel_rfl
theorem c0v : iD prog 109 = some 1 := by kernel_rfl
theorem tI : iD prog 111 = some 5 := by kernel_rfl
theorem b0J : iD prog 120 = some 4 := by kernel_rfl
theorem b4y : iD prog 124 = some 9 := by kernel_rfl
theorem vV : iD prog 126 = some 1 := by kernel_rfl
theorem mY : iD prog 128 = some 4 := by kernel_rfl
theorem b3Z : iD prog 131 = some 4 := by kernel_rfl
theorem b0W : iD prog 133 = some 4 := by kernel_rfl
theorem wA : iD prog 135 = some 5 := by kernel_rfl
theorem a6h : iD prog 164 = some 1 := by kernel_rfl
theorem a0L : iD prog 171 = some 3 := by kernel_rfl
theorem b6a : iD prog 175 = some 1 := by kernel_rfl
theorem a7d : iD prog 181 = some 1 := by kernel_rfl
theorem a0N : iD prog 186 = some 2 := by kernel_rfl
theorem a2B : iD prog 189 = some 3 := by kernel_rfl
theorem b0y : iD prog 204 = some 3 := by kernel_rfl
theorem b3P : iD prog 207 = some 1 := by kernel_rfl
theorem nI : lE prog 125 = true ∧ oQ prog 9 = true ∧ lE prog 9 = false := ⟨by kernel_rfl, by kernel_rfl, by kernel_rfl⟩
theorem c5u (A i e : Nat) (k : IntKind) (j : Int) (h0 : 0 ≤ j) (h1 : j < 5) : a1c (iY prog 53) prog 53 (ptr A i e) (.int k j) = some (ptr A (i + j.toNat * 1) e) := b0K (n := 5) (elem := 5) (size := 1) (by kernel_rfl) (by kernel_rfl) A i e k j h0 h1
theorem c6m (A i e : Nat) (k : IntKind) (j : Int) (h0 : 0 ≤ j) (h1 : j < 3) : a1c (iY prog 57) prog 57 (ptr A i e) (.int k j) = some (ptr A (i + j.toNat * 1) e) := b0K (n := 3) (elem := 56) (size := 1) (by kernel_rfl) (by kernel_rfl) A i e k j h0 h1
theorem a8h : mH prog 27 = some (1, 8) := by kernel_rfl
theorem b9u : ((iI prog 27).bind (iX prog)).any jC = true := by kernel_rfl
theorem b7S : mH prog 33 = some (2, 16) := by kernel_rfl
theorem c4E : ((iI prog 33).bind (iX prog)).any jC = true := by kernel_rfl
theorem c1d : mH prog 36 = some (6, 80) := by kernel_rfl
theorem c3r : ((iI prog 36).bind (iX prog)).any jC = true := by kernel_rfl
theorem c2d : mH prog 37 = some (5, 64) := by kernel_rfl
theorem c3f : ((iI prog 37).bind (iX prog)).any jC = true := by kernel_rfl
theorem a8k : mH prog 38 = some (5, 48) := by kernel_rfl
theorem b8M : ((iI prog 38).bind (iX prog)).any jC = true := by kernel_rfl
theorem b5E : mH prog 45 = some (2, 16) := by kernel_rfl
theorem c3y : ((iI prog 45).bind (iX prog)).any jC = true := by kernel_rfl
theorem a1e : mH prog 60 = some (2, 16) := by kernel_rfl
theorem b1A : ((iI prog 60).bind (iX prog)).any jC = true := by kernel_rfl
theorem a3l : mH prog 77 = some (1, 8) := by kernel_rfl
theorem a5Z : ((iI prog 77).bind (iX prog)).any jC = true := by kernel_rfl
theorem c4J : mH prog 89 = some (3, 40) := by kernel_rfl
theorem c6o : ((iI prog 89).bind (iX prog)).any jC = true := by kernel_rfl
theorem b5A : mH prog 109 = some (4, 56) := by kernel_rfl
theorem c0g : ((iI prog 109).bind (iX prog)).any jC = true := by kernel_rfl
theorem b0w : mH prog 125 = some (1, 1) := by kernel_rfl
theorem b0t : ((iI prog 125).bind (iX prog)).any jC = true := by kernel_rfl
theorem pY : mH prog 126 = some (3, 40) := by kernel_rfl
theorem vW : ((iI prog 126).bind (iX prog)).any jC = true := by kernel_rfl
theorem c4W : mH prog 139 = some (3, 40) := by kernel_rfl
theorem c2Z : ((iI prog 139).bind (iX prog)).any jC = true := by kernel_rfl
theorem c3Z : mH prog 144 = some (1, 16) := by kernel_rfl
theorem c3H : ((iI prog 144).bind (iX prog)).any jC = true := by kernel_rfl
theorem b9K : mH prog 145 = some (2, 16) := by kernel_rfl
theorem c4p : ((iI prog 145).bind (iX prog)).any jC = true := by kernel_rfl
theorem a0F : mH prog 164 = some (3, 24) := by kernel_rfl
theorem b0R : ((iI prog 164).bind (iX prog)).any jC = true := by kernel_rfl
theorem b9M : mH prog 181 = some (1, 24) := by kernel_rfl
theorem c3I : ((iI prog 181).bind (iX prog)).any jC = true := by kernel_rfl
theorem a3v : mH prog 187 = some (2, 16) := by kernel_rfl
theorem a4p : ((iI prog 187).bind (iX prog)).any jC = true := by kernel_rfl
theorem b9I : mH prog 231 = some (2, 16) := by kernel_rfl
theorem b9G : ((iI prog 231).bind (iX prog)).any jC = true := by kernel_rfl
theorem c2S (t2 : TypeId) (cx cy : Bool) (a0 : Int) (a1 : Int) (b0 : Int) (b1 : Int) : kV prog .eql 67 t2 cx cy (.agg #[.int .i64 a0, .int .i64 a1]) (.agg #[.int .i64 b0, .int .i64 b1]) = some (.bool (decide (a0 = b0 ∧ a1 = b1))) ∧ kV prog .neq 67 t2 cx cy (.agg #[.int .i64 a0, .int .i64 a1]) (.agg #[.int .i64 b0, .int .i64 b1]) = some (.bool (decide (¬ (a0 = b0 ∧ a1 = b1)))) := by
 have h := uO (P := prog) (t := 67) (t2 := t2) (cx := cx) (cy := cy) (xs := [.int .i64 a0, .int .i64 a1]) (ys := [.int .i64 b0, .int .i64 b1]) (by kernel_rfl) (by kernel_rfl) (by kernel_rfl) (by kernel_rfl) rfl (by kernel_rfl) rfl rfl
 have e : ((List.range [Value.int .i64 a0, .int .i64 a1].length).all fun j => zJ ([Value.int .i64 a0, .int .i64 a1].getD j undef) ([Value.int .i64 b0, .int .i64 b1].getD j undef)) = decide (a0 = b0 ∧ a1 = b1) := by
  show (zJ (Value.int .i64 a0) (.int .i64 b0) && (zJ (Value.int .i64 a1) (.int .i64 b1) && true)) = _
  rw [eG]
  simp [zJ]
 rw [e] at h
 exact ⟨h.1, by rw [h.2]; simp⟩
theorem c4Q (t2 : TypeId) (cx cy : Bool) (a0 : Int) (a1 : Int) (b0 : Int) (b1 : Int) : kV prog .eql 67 t2 cx cy (.agg #[.int .i64 a0, .int .i64 a1]) (.agg #[.int .i64 b0, .int .i64 b1]) = some (.bool (decide (a0 = b0 ∧ a1 = b1))) := (c2S t2 cx cy a0 a1 b0 b1).1
theorem c4K (t2 : TypeId) (cx cy : Bool) (a0 : Int) (a1 : Int) (b0 : Int) (b1 : Int) : kV prog .neq 67 t2 cx cy (.agg #[.int .i64 a0, .int .i64 a1]) (.agg #[.int .i64 b0, .int .i64 b1]) = some (.bool (decide (¬ (a0 = b0 ∧ a1 = b1)))) := (c2S t2 cx cy a0 a1 b0 b1).2
theorem c4k (t2 : TypeId) (cx cy : Bool) (a0 : Int) (a1 : Int) (b0 : Int) (b1 : Int) : kV prog .eql 74 t2 cx cy (.agg #[.int .i64 a0, .int .i64 a1]) (.agg #[.int .i64 b0, .int .i64 b1]) = some (.bool (decide (a0 = b0 ∧ a1 = b1))) ∧ kV prog .neq 74 t2 cx cy (.agg #[.int .i64 a0, .int .i64 a1]) (.agg #[.int .i64 b0, .int .i64 b1]) = some (.bool (decide (¬ (a0 = b0 ∧ a1 = b1)))) := by
 have h := uO (P := prog) (t := 74) (t2 := t2) (cx := cx) (cy := cy) (xs := [.int .i64 a0, .int .i64 a1]) (ys := [.int .i64 b0, .int .i64 b1]) (by kernel_rfl) (by kernel_rfl) (by kernel_rfl) (by kernel_rfl) rfl (by kernel_rfl) rfl rfl
 have e : ((List.range [Value.int .i64 a0, .int .i64 a1].length).all fun j => zJ ([Value.int .i64 a0, .int .i64 a1].getD j undef) ([Value.int .i64 b0, .int .i64 b1].getD j undef)) = decide (a0 = b0 ∧ a1 = b1) := by
  show (zJ (Value.int .i64 a0) (.int .i64 b0) && (zJ (Value.int .i64 a1) (.int .i64 b1) && true)) = _
  rw [eG]
  simp [zJ]
 rw [e] at h
 exact ⟨h.1, by rw [h.2]; simp⟩
theorem c4s (t2 : TypeId) (cx cy : Bool) (a0 : Int) (a1 : Int) (b0 : Int) (b1 : Int) : kV prog .eql 74 t2 cx cy (.agg #[.int .i64 a0, .int .i64 a1]) (.agg #[.int .i64 b0, .int .i64 b1]) = some (.bool (decide (a0 = b0 ∧ a1 = b1))) := (c4k t2 cx cy a0 a1 b0 b1).1
theorem c2X (t2 : TypeId) (cx cy : Bool) (a0 : Int) (a1 : Int) (b0 : Int) (b1 : Int) : kV prog .neq 74 t2 cx cy (.agg #[.int .i64 a0, .int .i64 a1]) (.agg #[.int .i64 b0, .int .i64 b1]) = some (.bool (decide (¬ (a0 = b0 ∧ a1 = b1)))) := (c4k t2 cx cy a0 a1 b0 b1).2
theorem c4x (t2 : TypeId) (cx cy : Bool) (a0 : Int) (a1 : Int) (b0 : Int) (b1 : Int) : kV prog .eql 96 t2 cx cy (.agg #[.int .u64 a0, .int .u64 a1]) (.agg #[.int .u64 b0, .int .u64 b1]) = some (.bool (decide (a0 = b0 ∧ a1 = b1))) ∧ kV prog .neq 96 t2 cx cy (.agg #[.int .u64 a0, .int .u64 a1]) (.agg #[.int .u64 b0, .int .u64 b1]) = some (.bool (decide (¬ (a0 = b0 ∧ a1 = b1)))) := by
 have h := uO (P := prog) (t := 96) (t2 := t2) (cx := cx) (cy := cy) (xs := [.int .u64 a0, .int .u64 a1]) (ys := [.int .u64 b0, .int .u64 b1]) (by kernel_rfl) (by kernel_rfl) (by kernel_rfl) (by kernel_rfl) rfl (by kernel_rfl) rfl rfl
 have e : ((List.range [Value.int .u64 a0, .int .u64 a1].length).all fun j => zJ ([Value.int .u64 a0, .int .u64 a1].getD j undef) ([Value.int .u64 b0, .int .u64 b1].getD j undef)) = decide (a0 = b0 ∧ a1 = b1) := by
  show (zJ (Value.int .u64 a0) (.int .u64 b0) && (zJ (Value.int .u64 a1) (.int .u64 b1) && true)) = _
  rw [eG]
  simp [zJ]
 rw [e] at h
 exact ⟨h.1, by rw [h.2]; simp⟩
theorem c4y (t2 : TypeId) (cx cy : Bool) (a0 : Int) (a1 : Int) (b0 : Int) (b1 : Int) : kV prog .eql 96 t2 cx cy (.agg #[.int .u64 a0, .int .u64 a1]) (.agg #[.int .u64 b0, .int .u64 b1]) = some (.bool (decide (a0 = b0 ∧ a1 = b1))) := (c4x t2 cx cy a0 a1 b0 b1).1
theorem c2J (t2 : TypeId) (cx cy : Bool) (a0 : Int) (a1 : Int) (b0 : Int) (b1 : Int) : kV prog .neq 96 t2 cx cy (.agg #[.int .u64 a0, .int .u64 a1]) (.agg #[.int .u64 b0, .int .u64 b1]) = some (.bool (decide (¬ (a0 = b0 ∧ a1 = b1)))) := (c4x t2 cx cy a0 a1 b0 b1).2
theorem c0c (t2 : TypeId) (cx cy : Bool) (a0 : Int) (a1 : Int) (a2 : Int) (b0 : Int) (b1 : Int) (b2 : Int) : kV prog .eql 171 t2 cx cy (.agg #[.int .i64 a0, .int .i64 a1, .int .i64 a2]) (.agg #[.int .i64 b0, .int .i64 b1, .int .i64 b2]) = some (.bool (decide (a0 = b0 ∧ a1 = b1 ∧ a2 = b2))) ∧ kV prog .neq 171 t2 cx cy (.agg #[.int .i64 a0, .int .i64 a1, .int .i64 a2]) (.agg #[.int .i64 b0, .int .i64 b1, .int .i64 b2]) = some (.bool (decide (¬ (a0 = b0 ∧ a1 = b1 ∧ a2 = b2)))) := by
 have h := uO (P := prog) (t := 171) (t2 := t2) (cx := cx) (cy := cy) (xs := [.int .i64 a0, .int .i64 a1, .int .i64 a2]) (ys := [.int .i64 b0, .int .i64 b1, .int .i64 b2]) (by kernel_rfl) (by kernel_rfl) (by kernel_rfl) (by kernel_rfl) rfl (by kernel_rfl) rfl rfl
 have e : ((List.range [Value.int .i64 a0, .int .i64 a1, .int .i64 a2].length).all fun j => zJ ([Value.int .i64 a0, .int .i64 a1, .int .i64 a2].getD j undef) ([Value.int .i64 b0, .int .i64 b1, .int .i64 b2].getD j undef)) = decide (a0 = b0 ∧ a1 = b1 ∧ a2 = b2) := by
  show (zJ (Value.int .i64 a0) (.int .i64 b0) && (zJ (Value.int .i64 a1) (.int .i64 b1) && (zJ (Value.int .i64 a2) (.int .i64 b2) && true))) = _
  rw [eG]
  simp [zJ]
 rw [e] at h
 exact ⟨h.1, by rw [h.2]; simp⟩
theorem c1n (t2 : TypeId) (cx cy : Bool) (a0 : Int) (a1 : Int) (a2 : Int) (b0 : Int) (b1 : Int) (b2 : Int) : kV prog .eql 171 t2 cx cy (.agg #[.int .i64 a0, .int .i64 a1, .int .i64 a2]) (.agg #[.int .i64 b0, .int .i64 b1, .int .i64 b2]) = some (.bool (decide (a0 = b0 ∧ a1 = b1 ∧ a2 = b2))) := (c0c t2 cx cy a0 a1 a2 b0 b1 b2).1
theorem c2t (t2 : TypeId) (cx cy : Bool) (a0 : Int) (a1 : Int) (a2 : Int) (b0 : Int) (b1 : Int) (b2 : Int) : kV prog .neq 171 t2 cx cy (.agg #[.int .i64 a0, .int .i64 a1, .int .i64 a2]) (.agg #[.int .i64 b0, .int .i64 b1, .int .i64 b2]) = some (.bool (decide (¬ (a0 = b0 ∧ a1 = b1 ∧ a2 = b2)))) := (c0c t2 cx cy a0 a1 a2 b0 b1 b2).2
theorem b9W (t2 : TypeId) (cx cy : Bool) (a0 : Int) (a1 : Int) (b0 : Int) (b1 : Int) : kV prog .eql 186 t2 cx cy (.agg #[.int .i64 a0, .int .i64 a1]) (.agg #[.int .i64 b0, .int .i64 b1]) = some (.bool (decide (a0 = b0 ∧ a1 = b1))) ∧ kV prog .neq 186 t2 cx cy (.agg #[.int .i64 a0, .int .i64 a1]) (.agg #[.int .i64 b0, .int .i64 b1]) = some (.bool (decide (¬ (a0 = b0 ∧ a1 = b1)))) := by
 have h := uO (P := prog) (t := 186) (t2 := t2) (cx := cx) (cy := cy) (xs := [.int .i64 a0, .int .i64 a1]) (ys := [.int .i64 b0, .int .i64 b1]) (by kernel_rfl) (by kernel_rfl) (by kernel_rfl) (by kernel_rfl) rfl (by kernel_rfl) rfl rfl
 have e : ((List.range [Value.int .i64 a0, .int .i64 a1].length).all fun j => zJ ([Value.int .i64 a0, .int .i64 a1].getD j undef) ([Value.int .i64 b0, .int .i64 b1].getD j undef)) = decide (a0 = b0 ∧ a1 = b1) := by
  show (zJ (Value.int .i64 a0) (.int .i64 b0) && (zJ (Value.int .i64 a1) (.int .i64 b1) && true)) = _
  rw [eG]
  simp [zJ]
 rw [e] at h
 exact ⟨h.1, by rw [h.2]; simp⟩
theorem c0J (t2 : TypeId) (cx cy : Bool) (a0 : Int) (a1 : Int) (b0 : Int) (b1 : Int) : kV prog .eql 186 t2 cx cy (.agg #[.int .i64 a0, .int .i64 a1]) (.agg #[.int .i64 b0, .int .i64 b1]) = some (.bool (decide (a0 = b0 ∧ a1 = b1))) := (b9W t2 cx cy a0 a1 b0 b1).1
theorem c1b (t2 : TypeId) (cx cy : Bool) (a0 : Int) (a1 : Int) (b0 : Int) (b1 : Int) : kV prog .neq 186 t2 cx cy (.agg #[.int .i64 a0, .int .i64 a1]) (.agg #[.int .i64 b0, .int .i64 b1]) = some (.bool (decide (¬ (a0 = b0 ∧ a1 = b1)))) := (b9W t2 cx cy a0 a1 b0 b1).2
theorem c3L : kF prog 30 [] = some (.agg #[.slice none 0 0, .int .u64 0, .int .u64 0]) := by kernel_rfl
theorem b3E {a1 : Value} (h1 : a1.cells = #[a1] ∧ oneCell a1 = true ∧ nM a1 = true) : kF prog 30 [(0, a1)] = some (.agg #[a1, .int .u64 0, .int .u64 0]) := by cases a1 <;> first | (exfalso; simp [oneCell] at h1; done) | kernel_rfl
theorem b3W {a1 : Value} {a2 : Int} (h1 : a1.cells = #[a1] ∧ oneCell a1 = true ∧ nM a1 = true) : kF prog 30 [(0, a1), (1, .int .u64 a2)] = some (.agg #[a1, .int .u64 a2, .int .u64 0]) := by cases a1 <;> first | (exfalso; simp [oneCell] at h1; done) | kernel_rfl
theorem b6B {a1 : Int} {a2 : Int} : kF prog 30 [(1, .int .u64 a1), (2, .int .u64 a2)] = some (.agg #[.slice none 0 0, .int .u64 a1, .int .u64 a2]) := by kernel_rfl
theorem c0T {a1 : ByteArray} : kF prog 40 [(0, .string a1)] = some (.agg #[.string a1, .slice none 0 0, .slice none 0 0, .slice none 0 0]) := by kernel_rfl
theorem a4T {a1 : ByteArray} {a2 : Value} {a3 : Value} {a4 : Value} (h2 : a2.cells = #[a2] ∧ oneCell a2 = true ∧ nM a2 = true) (h3 : a3.cells = #[a3] ∧ oneCell a3 = true ∧ nM a3 = true) (h4 : a4.cells = #[a4] ∧ oneCell a4 = true ∧ nM a4 = true) : kF prog 40 [(0, .string a1), (1, a2), (2, a3), (3, a4)] = some (.agg #[.string a1, a2, a3, a4]) := by cases a2 <;> cases a3 <;> cases a4 <;> first | (exfalso; simp [oneCell] at h2; done) | (exfalso; simp [oneCell] at h3; done) | (exfalso; simp [oneCell] at h4; done) | kernel_rfl
theorem xP {a1 : Int} {a2 : Int} : kF prog 67 [(0, .int .i64 a1), (1, .int .i64 a2)] = some (.agg #[.int .i64 a1, .int .i64 a2]) := by kernel_rfl
theorem c0r : kF prog 74 [] = some (.agg #[.int .i64 0, .int .i64 0]) := by kernel_rfl
theorem b4n {a1 : Int} {a2 : Int} : kF prog 74 [(0, .int .i64 a1), (1, .int .i64 a2)] = some (.agg #[.int .i64 a1, .int .i64 a2]) := by kernel_rfl
theorem yX {a1 : Int} {a2 : Int} : kF prog 76 [(0, .int .i64 a1), (1, .int .i64 a2)] = some (.agg #[.int .i64 a1, .int .i64 a2]) := by kernel_rfl
theorem a4H {a1 : ByteArray} {a2 : ByteArray} {a3 : Int} {a4 : Int} {a5 : Int} : kF prog 79 [(0, .string a1), (1, .string a2), (2, .agg #[.int .i64 a3, .int .i64 a4]), (3, .int .i64 a5)] = some (.agg #[.string a1, .string a2, .int .i64 a3, .int .i64 a4, .int .i64 a5, .slice none 0 0]) := by kernel_rfl
theorem a2w {a1 : ByteArray} {a2 : ByteArray} {a3 : Int} {a4 : Int} {a5 : Int} {a6 : Value} (h6 : a6.cells = #[a6] ∧ oneCell a6 = true ∧ nM a6 = true) : kF prog 79 [(0, .string a1), (1, .string a2), (2, .agg #[.int .i64 a3, .int .i64 a4]), (3, .int .i64 a5), (4, a6)] = some (.agg #[.string a1, .string a2, .int .i64 a3, .int .i64 a4, .int .i64 a5, a6]) := by cases a6 <;> first | (exfalso; simp [oneCell] at h6; done) | kernel_rfl
theorem c0s : kF prog 96 [] = some (.agg #[.int .u64 0, .int .u64 0]) := by kernel_rfl
theorem a6m {a1 : Int} {a2 : Int} : kF prog 96 [(0, .int .u64 a1), (1, .int .u64 a2)] = some (.agg #[.int .u64 a1, .int .u64 a2]) := by kernel_rfl
theorem b1x {a1 : Int} {a2 : Int} {a3 : Value} (h3 : a3.cells = #[a3] ∧ oneCell a3 = true ∧ nM a3 = true) : kF prog 100 [(0, .agg #[.int .i64 a1, .int .i64 a2]), (1, a3)] = some (.agg #[.int .i64 a1, .int .i64 a2, a3]) := by cases a3 <;> first | (exfalso; simp [oneCell] at h3; done) | kernel_rfl
theorem a3P {a1 : Int} {a2 : Int} : kF prog 108 [(0, .int .i64 a1), (1, .int .i64 a2)] = some (.agg #[.int .i64 a1, .int .i64 a2]) := by kernel_rfl
theorem a7X {a1 : ByteArray} {a2 : Bool} {a3 : Int} {a4 : Int} : kF prog 111 [(0, .string a1), (1, .bool a2), (2, .agg #[.int .i64 a3, .int .i64 a4])] = some (.agg #[.string a1, .bool a2, .int .i64 a3, .int .i64 a4, .slice none 0 0]) := by kernel_rfl
theorem a6M {a1 : ByteArray} {a2 : Int} {a3 : Int} {a4 : Value} (h4 : a4.cells = #[a4] ∧ oneCell a4 = true ∧ nM a4 = true) : kF prog 111 [(0, .string a1), (2, .agg #[.int .i64 a2, .int .i64 a3]), (3, a4)] = some (.agg #[.string a1, .bool false, .int .i64 a2, .int .i64 a3, a4]) := by cases a4 <;> first | (exfalso; simp [oneCell] at h4; done) | kernel_rfl
theorem b2H {a1 : ByteArray} {a2 : Int} {a3 : Int} : kF prog 128 [(0, .string a1), (1, .agg #[.int .i64 a2, .int .i64 a3])] = some (.agg #[.string a1, .int .i64 a2, .int .i64 a3, .slice none 0 0]) := by kernel_rfl
theorem a6b {a1 : ByteArray} {a2 : Int} {a3 : Int} {a4 : Value} (h4 : a4.cells = #[a4] ∧ oneCell a4 = true ∧ nM a4 = true) : kF prog 128 [(0, .string a1), (1, .agg #[.int .i64 a2, .int .i64 a3]), (2, a4)] = some (.agg #[.string a1, .int .i64 a2, .int .i64 a3, a4]) := by cases a4 <;> first | (exfalso; simp [oneCell] at h4; done) | kernel_rfl
theorem a1b {a1 : ByteArray} {a2 : Int} {a3 : Int} {a4 : Int} {a5 : Bool} : kF prog 135 [(0, .string a1), (1, .int .i64 a2), (2, .int .i64 a3), (3, .int .i64 a4), (4, .bool a5)] = some (.agg #[.string a1, .int .i64 a2, .int .i64 a3, .int .i64 a4, .bool a5]) := by kernel_rfl
theorem b1q {a1 : ByteArray} {a2 : Int} : kF prog 135 [(0, .string a1), (3, .int .i64 a2)] = some (.agg #[.string a1, .int .i64 0, .int .i64 0, .int .i64 a2, .bool false]) := by kernel_rfl
theorem b1n {a1 : Int} {a2 : Int} : kF prog 171 [(0, .int .i64 a1), (1, .int .i64 a2)] = some (.agg #[.int .i64 a1, .int .i64 a2, .int .i64 0]) := by kernel_rfl
theorem a7f {a1 : Int} {a2 : Int} {a3 : Int} : kF prog 171 [(0, .int .i64 a1), (1, .int .i64 a2), (2, .int .i64 a3)] = some (.agg #[.int .i64 a1, .int .i64 a2, .int .i64 a3]) := by kernel_rfl
theorem a3U {a1 : Int} {a2 : Int} : kF prog 171 [(0, .int .i64 a1), (2, .int .i64 a2)] = some (.agg #[.int .i64 a1, .int .i64 0, .int .i64 a2]) := by kernel_rfl
theorem c1M : kF prog 186 [] = some (.agg #[.int .i64 0, .int .i64 0]) := by kernel_rfl
theorem sD {a1 : Int} {a2 : Int} : kF prog 186 [(0, .int .i64 a1), (1, .int .i64 a2)] = some (.agg #[.int .i64 a1, .int .i64 a2]) := by kernel_rfl
theorem c2w : kF prog 189 [] = some (.agg #[.int .i64 0, .int .i64 0, .slice none 0 0]) := by kernel_rfl
theorem lM {a1 : Int} {a2 : Int} {a3 : Value} (h3 : a3.cells = #[a3] ∧ oneCell a3 = true ∧ nM a3 = true) : kF prog 189 [(0, .int .i64 a1), (1, .int .i64 a2), (2, a3)] = some (.agg #[.int .i64 a1, .int .i64 a2, a3]) := by cases a3 <;> first | (exfalso; simp [oneCell] at h3; done) | kernel_rfl
theorem b1l {a1 : Value} {a2 : Int} {a3 : Int} (h1 : a1.cells = #[a1] ∧ oneCell a1 = true ∧ nM a1 = true) : kF prog 204 [(0, a1), (1, .agg #[.int .i64 a2, .int .i64 a3])] = some (.agg #[a1, .int .i64 a2, .int .i64 a3]) := by cases a1 <;> first | (exfalso; simp [oneCell] at h1; done) | kernel_rfl
theorem tR7 (l : List Value) (H : Heap) : iC prog Tryz.f7 l H = some (get l 6) := rfl
theorem a8X (l : List Value) (H : Heap) : iC prog Tryz.f11 l H = some (get l 2) := rfl
theorem c5o (l : List Value) (H : Heap) : iC prog Tryz.f12 l H = oJ (jM prog 40) (iD prog 40) H (get l 2) := by
 show (Option.bind (Option.bind (lG prog H 40 (get l 2)) fun v => some [v]) fun vs => _) = _
 rw [kM]
 cases oJ _ _ H (get l 2) <;> rfl
theorem b1P (l : List Value) (H : Heap) : iC prog Tryz.f13 l H = some (get l 4) := rfl
theorem b8v (l : List Value) (H : Heap) : iC prog Tryz.f14 l H = some (get l 4) := rfl
theorem c5V (l : List Value) (H : Heap) : iC prog Tryz.f17 l H = oJ (jM prog 30) (iD prog 30) H (get l 4) := by
 show (Option.bind (Option.bind (lG prog H 30 (get l 4)) fun v => some [v]) fun vs => _) = _
 rw [kM]
 cases oJ _ _ H (get l 4) <;> rfl
theorem c5n (l : List Value) (H : Heap) : iC prog Tryz.f18 l H = some (get l 4) := rfl
theorem a3o (l : List Value) (H : Heap) : iC prog Tryz.f20 l H = some (get l 2) := rfl
theorem c3O (l : List Value) (H : Heap) : iC prog Tryz.f23 l H = if (jQ (get l 6) && (jQ (get l 7) && true)) = true then some (.tuple #[get l 6, get l 7]) else none := rfl
theorem c2s (l : List Value) (H : Heap) : iC prog Tryz.f27 l H = some (get l 4) := rfl
theorem c6s (l : List Value) (H : Heap) : iC prog Tryz.f32 l H = some (get l 0) := rfl
theorem c1K (l : List Value) (H : Heap) : iC prog Tryz.f34 l H = if (jQ (get l 6) && (jQ (get l 7) && true)) = true then some (.tuple #[get l 6, get l 7]) else none := rfl
theorem c6q (l : List Value) (H : Heap) : iC prog Tryz.f35 l H = some (get l 2) := rfl
theorem c4v (l : List Value) (H : Heap) : iC prog Tryz.f36 l H = some (get l 4) := rfl
theorem c5q (l : List Value) (H : Heap) : iC prog Tryz.f37 l H = some (get l 6) := rfl
theorem c2M (l : List Value) (H : Heap) : iC prog Tryz.f38 l H = some (get l 4) := rfl
theorem c1a (l : List Value) (H : Heap) : iC prog Tryz.f39 l H = some (get l 4) := rfl
theorem c3F (l : List Value) (H : Heap) : iC prog Tryz.f40 l H = if (jQ (get l 4) && (jQ (get l 5) && true)) = true then some (.tuple #[get l 4, get l 5]) else none := rfl
theorem c5y (l : List Value) (H : Heap) : iC prog Tryz.f45 l H = (oJ (jM prog 96) (iD prog 96) H (get l 2)).bind fun v => if (jQ v && (jQ (get l 3) && true)) = true then some (.tuple #[v, get l 3]) else none := by
 show (Option.bind (Option.bind (lG prog H 96 (get l 2)) fun v => some [v, get l 3]) fun vs => _) = _
 rw [kM]
 cases oJ _ _ H (get l 2) <;> rfl
theorem c5J (l : List Value) (H : Heap) : iC prog Tryz.f47 l H = oJ (jM prog 79) (iD prog 79) H (get l 4) := by
 show (Option.bind (Option.bind (lG prog H 79 (get l 4)) fun v => some [v]) fun vs => _) = _
 rw [kM]
 cases oJ _ _ H (get l 4) <;> rfl
theorem a9g (l : List Value) (H : Heap) : iC prog Tryz.f48 l H = oJ (jM prog 128) (iD prog 128) H (get l 8) := by
 show (Option.bind (Option.bind (lG prog H 128 (get l 8)) fun v => some [v]) fun vs => _) = _
 rw [kM]
 cases oJ _ _ H (get l 8) <;> rfl
theorem c6x (l : List Value) (H : Heap) : iC prog Tryz.f49 l H = (oJ (jM prog 96) (iD prog 96) H (get l 2)).bind fun v => if (jQ v && (jQ (get l 3) && true)) = true then some (.tuple #[v, get l 3]) else none := by
 show (Option.bind (Option.bind (lG prog H 96 (get l 2)) fun v => some [v, get l 3]) fun vs => _) = _
 rw [kM]
 cases oJ _ _ H (get l 2) <;> rfl
theorem c5z (l : List Value) (H : Heap) : iC prog Tryz.f50 l H = some (get l 4) := rfl
theorem c5E (l : List Value) (H : Heap) : iC prog Tryz.f52 l H = some (get l 6) := rfl
theorem b1H (l : List Value) (H : Heap) : iC prog Tryz.f55 l H = some (get l 2) := rfl
theorem a8J (l : List Value) (H : Heap) : iC prog Tryz.f56 l H = some (get l 2) := rfl
theorem c3P (l : List Value) (H : Heap) : iC prog Tryz.f57 l H = some (get l 4) := rfl
theorem b6r (l : List Value) (H : Heap) : iC prog Tryz.f58 l H = some (get l 4) := rfl
theorem zV (l : List Value) (H : Heap) : iC prog Tryz.f59 l H = some (get l 4) := rfl
theorem c6i (l : List Value) (H : Heap) : iC prog Tryz.f60 l H = some (get l 6) := rfl
theorem c6c (l : List Value) (H : Heap) : iC prog Tryz.f61 l H = if (jQ (get l 4) && (jQ (get l 5) && true)) = true then some (.tuple #[get l 4, get l 5]) else none := rfl
theorem c1u (l : List Value) (H : Heap) : iC prog Tryz.f63 l H = some (get l 4) := rfl
theorem c4c (l : List Value) (H : Heap) : iC prog Tryz.f64 l H = some (get l 6) := rfl
theorem c5C (l : List Value) (H : Heap) : iC prog Tryz.f65 l H = some (get l 6) := rfl
theorem b4v (l : List Value) (H : Heap) : iC prog Tryz.f66 l H = some (get l 4) := rfl
theorem c0D (l : List Value) (H : Heap) : iC prog Tryz.f72 l H = some (get l 2) := rfl
theorem c6f (l : List Value) (H : Heap) : iC prog Tryz.f75 l H = oJ (jM prog 40) (iD prog 40) H (get l 0) := by
 show (Option.bind (Option.bind (lG prog H 40 (get l 0)) fun v => some [v]) fun vs => _) = _
 rw [kM]
 cases oJ _ _ H (get l 0) <;> rfl
theorem c3W (l : List Value) (H : Heap) : iC prog Tryz.f77 l H = if (jQ (get l 4) && (jQ (get l 5) && true)) = true then some (.tuple #[get l 4, get l 5]) else none := rfl
theorem c5O (l : List Value) (H : Heap) : iC prog Tryz.f78 l H = oJ (jM prog 96) (iD prog 96) H (get l 2) := by
 show (Option.bind (Option.bind (lG prog H 96 (get l 2)) fun v => some [v]) fun vs => _) = _
 rw [kM]
 cases oJ _ _ H (get l 2) <;> rfl
theorem c3d (l : List Value) (H : Heap) : iC prog Tryz.f82 l H = some (get l 4) := rfl
theorem c5G (l : List Value) (H : Heap) : iC prog Tryz.f83 l H = some (get l 4) := rfl
theorem c5X (l : List Value) (H : Heap) : iC prog Tryz.f84 l H = some (get l 4) := rfl
theorem c4t (l : List Value) (H : Heap) : iC prog Tryz.f85 l H = some (get l 4) := rfl
theorem c6u (l : List Value) (H : Heap) : iC prog Tryz.f86 l H = some (get l 3) := rfl
theorem c6j (l : List Value) (H : Heap) : iC prog Tryz.f87 l H = oJ (jM prog 96) (iD prog 96) H (get l 4) := by
 show (Option.bind (Option.bind (lG prog H 96 (get l 4)) fun v => some [v]) fun vs => _) = _
 rw [kM]
 cases oJ _ _ H (get l 4) <;> rfl
theorem c5K (l : List Value) (H : Heap) : iC prog Tryz.f94 l H = some (get l 2) := rfl
theorem c4d (l : List Value) (H : Heap) : iC prog Tryz.f95 l H = oJ (jM prog 96) (iD prog 96) H (get l 4) := by
 show (Option.bind (Option.bind (lG prog H 96 (get l 4)) fun v => some [v]) fun vs => _) = _
 rw [kM]
 cases oJ _ _ H (get l 4) <;> rfl
theorem c5M (l : List Value) (H : Heap) : iC prog Tryz.f96 l H = oJ (jM prog 76) (iD prog 76) H (get l 2) := by
 show (Option.bind (Option.bind (lG prog H 76 (get l 2)) fun v => some [v]) fun vs => _) = _
 rw [kM]
 cases oJ _ _ H (get l 2) <;> rfl
theorem c6p (l : List Value) (H : Heap) : iC prog Tryz.f97 l H = oJ (jM prog 76) (iD prog 76) H (get l 2) := by
 show (Option.bind (Option.bind (lG prog H 76 (get l 2)) fun v => some [v]) fun vs => _) = _
 rw [kM]
 cases oJ _ _ H (get l 2) <;> rfl
theorem b8e (l : List Value) (H : Heap) : iC prog Tryz.f98 l H = some (get l 2) := rfl
theorem c5m (l : List Value) (H : Heap) : iC prog Tryz.f99 l H = oJ (jM prog 96) (iD prog 96) H (get l 4) := by
 show (Option.bind (Option.bind (lG prog H 96 (get l 4)) fun v => some [v]) fun vs => _) = _
 rw [kM]
 cases oJ _ _ H (get l 4) <;> rfl
theorem b5s (l : List Value) (H : Heap) : iC prog Tryz.f100 l H = some (get l 4) := rfl
theorem c3h (l : List Value) (H : Heap) : iC prog Tryz.f103 l H = some (get l 4) := rfl
theorem a7j (l : List Value) (H : Heap) : iC prog Tryz.f104 l H = some (get l 2) := rfl
theorem a6C (l : List Value) (H : Heap) : iC prog Tryz.f105 l H = some (get l 2) := rfl
theorem c0m (l : List Value) (H : Heap) : iC prog Tryz.f106 l H = some (get l 2) := rfl
theorem c0e (l : List Value) (H : Heap) : iC prog Tryz.f107 l H = some (get l 2) := rfl
theorem tJ (l : List Value) (H : Heap) : iC prog Tryz.f108 l H = some (get l 4) := rfl
theorem c4R (l : List Value) (H : Heap) : iC prog Tryz.f109 l H = some (get l 4) := rfl
theorem c3l (l : List Value) (H : Heap) : iC prog Tryz.f110 l H = some (get l 3) := rfl
theorem c0j (l : List Value) (H : Heap) : iC prog Tryz.f111 l H = some (.tuple #[]) := rfl
theorem c4L (l : List Value) (H : Heap) : iC prog Tryz.f113 l H = some (get l 4) := rfl
theorem b6K (l : List Value) (H : Heap) : iC prog Tryz.f114 l H = some (get l 2) := rfl
theorem c0x (l : List Value) (H : Heap) : iC prog Tryz.f115 l H = some (get l 4) := rfl
theorem c2Y (l : List Value) (H : Heap) : iC prog Tryz.f116 l H = some (get l 4) := rfl
theorem c4Y (l : List Value) (H : Heap) : iC prog Tryz.f117 l H = some (get l 2) := rfl
theorem c3x (l : List Value) (H : Heap) : iC prog Tryz.f118 l H = some (get l 6) := rfl
theorem c3b (l : List Value) (H : Heap) : iC prog Tryz.f130 l H = some (get l 2) := rfl
theorem c5a (l : List Value) (H : Heap) : iC prog Tryz.f131 l H = some (get l 4) := rfl
theorem b5y (l : List Value) (H : Heap) : iC prog Tryz.f132 l H = oJ (jM prog 30) (iD prog 30) H (get l 4) := by
 show (Option.bind (Option.bind (lG prog H 30 (get l 4)) fun v => some [v]) fun vs => _) = _
 rw [kM]
 cases oJ _ _ H (get l 4) <;> rfl
theorem b9Y (l : List Value) (H : Heap) : iC prog Tryz.f133 l H = oJ (jM prog 96) (iD prog 96) H (get l 4) := by
 show (Option.bind (Option.bind (lG prog H 96 (get l 4)) fun v => some [v]) fun vs => _) = _
 rw [kM]
 cases oJ _ _ H (get l 4) <;> rfl
theorem c2U (l : List Value) (H : Heap) : iC prog Tryz.f134 l H = some (get l 2) := rfl
theorem c3c (l : List Value) (H : Heap) : iC prog Tryz.f136 l H = some (.tuple #[]) := rfl
theorem c0n (l : List Value) (H : Heap) : iC prog Tryz.f137 l H = some (get l 4) := rfl
theorem c0a (l : List Value) (H : Heap) : iC prog Tryz.f141 l H = some (get l 2) := rfl
theorem a4h (l : List Value) (H : Heap) : iC prog Tryz.f142 l H = some (get l 2) := rfl
theorem c4j (l : List Value) (H : Heap) : iC prog Tryz.f143 l H = some (get l 4) := rfl
theorem b9R (l : List Value) (H : Heap) : iC prog Tryz.f144 l H = some (get l 2) := rfl
theorem b6t (l : List Value) (H : Heap) : iC prog Tryz.f145 l H = some (get l 2) := rfl
theorem a2m (l : List Value) (H : Heap) : iC prog Tryz.f146 l H = some (get l 4) := rfl
theorem b9E (l : List Value) (H : Heap) : iC prog Tryz.f147 l H = some (get l 4) := rfl
theorem c0h (l : List Value) (H : Heap) : iC prog Tryz.f153 l H = oJ (jM prog 189) (iD prog 189) H (get l 4) := by
 show (Option.bind (Option.bind (lG prog H 189 (get l 4)) fun v => some [v]) fun vs => _) = _
 rw [kM]
 cases oJ _ _ H (get l 4) <;> rfl
theorem b1d (l : List Value) (H : Heap) : iC prog Tryz.f154 l H = (oJ (jM prog 74) (iD prog 74) H (get l 6)).bind fun v => if (jQ v && (jQ (get l 7) && true)) = true then some (.tuple #[v, get l 7]) else none := by
 show (Option.bind (Option.bind (lG prog H 74 (get l 6)) fun v => some [v, get l 7]) fun vs => _) = _
 rw [kM]
 cases oJ _ _ H (get l 6) <;> rfl
theorem c5f (l : List Value) (H : Heap) : iC prog Tryz.f155 l H = some (get l 2) := rfl
theorem c3i (l : List Value) (H : Heap) : iC prog Tryz.f179 l H = some (get l 4) := rfl
theorem c0l (l : List Value) (H : Heap) : iC prog Tryz.f180 l H = some (get l 4) := rfl
theorem c3g (l : List Value) (H : Heap) : iC prog Tryz.f181 l H = some (get l 5) := rfl
theorem b4w (l : List Value) (H : Heap) : iC prog Tryz.f182 l H = some (get l 6) := rfl
theorem c2Q (l : List Value) (H : Heap) : iC prog Tryz.f183 l H = some (get l 4) := rfl
theorem c4P (l : List Value) (H : Heap) : iC prog Tryz.f184 l H = some (get l 2) := rfl
theorem c2O (l : List Value) (H : Heap) : iC prog Tryz.f190 l H = some (get l 4) := rfl
theorem c0q (l : List Value) (H : Heap) : iC prog Tryz.f191 l H = some (get l 2) := rfl
theorem b9L (l : List Value) (H : Heap) : iC prog Tryz.f192 l H = some (get l 4) := rfl
theorem c4H (l : List Value) (H : Heap) : iC prog Tryz.f193 l H = some (get l 4) := rfl
theorem b9T (l : List Value) (H : Heap) : iC prog Tryz.f211 l H = some (get l 4) := rfl
theorem c0o (l : List Value) (H : Heap) : iC prog Tryz.f212 l H = some (get l 3) := rfl
theorem c2V (l : List Value) (H : Heap) : iC prog Tryz.f213 l H = some (get l 4) := rfl
theorem b9N (l : List Value) (H : Heap) : iC prog Tryz.f227 l H = some (get l 4) := rfl
theorem c3w (l : List Value) (H : Heap) : iC prog Tryz.f228 l H = some (.tuple #[]) := rfl
theorem c0p (l : List Value) (H : Heap) : iC prog Tryz.f231 l H = some (get l 4) := rfl
theorem a6H : MapK prog 147 Value.string (.bool false) := MapK.str (kt := 9) (et := 4) (by kernel_rfl) (by kernel_rfl) (by kernel_rfl) rfl
theorem b0Y : MapK prog 175 (fun p : Int × Int => .agg #[I p.1, I p.2]) (.int .i64 0) := MapK.struct (kt := 74) (et := 3) (fs := (yE prog 74).toArray) (by kernel_rfl) (by kernel_rfl) (by kernel_rfl) rfl (fun b k => by cases b <;> kernel_rfl) (fun a b => b4H (by kernel_rfl) (by kernel_rfl) (by kernel_rfl) (fun _ _ _ _ => by kernel_rfl) a b) (fun k => b6O k)
theorem a7N : MapK prog 207 (fun p : Int × Int => .agg #[I p.1, I p.2]) (.bool false) := MapK.struct (kt := 67) (et := 4) (fs := (yE prog 67).toArray) (by kernel_rfl) (by kernel_rfl) (by kernel_rfl) rfl (fun b k => by cases b <;> kernel_rfl) (fun a b => b4H (by kernel_rfl) (by kernel_rfl) (by kernel_rfl) (fun _ _ _ _ => by kernel_rfl) a b) (fun k => b6O k)
theorem tt0 : jM prog 3 = some false ∧ jM prog 4 = some false ∧ iD prog 4 = some 1 ∧ jM prog 5 = some false ∧ iD prog 5 = some 1 ∧ jM prog 9 = some false ∧ jM prog 22 = some false ∧ iD prog 22 = some 1 ∧ jM prog 23 = some false ∧ iD prog 23 = some 1 ∧ jM prog 24 = some false ∧ iD prog 24 = some 1 ∧ jM prog 26 = some true ∧ jM prog 27 = some false ∧ jM prog 28 = some false ∧ jM prog 30 = some true ∧ jM prog 33 = some false ∧ jM prog 36 = some false ∧ jM prog 37 = some false ∧ jM prog 38 = some false ∧ jM prog 40 = some true ∧ jM prog 45 = some false ∧ jM prog 53 = some true ∧ jM prog 56 = some false ∧ iD prog 56 = some 1 ∧ jM prog 57 = some true ∧ jM prog 60 = some false ∧ jM prog 67 = some true ∧ jM prog 74 = some true ∧ jM prog 76 = some true ∧ jM prog 77 = some false ∧ jM prog 79 = some true ∧ jM prog 89 = some false ∧ jM prog 96 = some true ∧ jM prog 100 = some true ∧ jM prog 108 = some true ∧ jM prog 109 = some false ∧ jM prog 111 = some true ∧ jM prog 118 = some false ∧ iD prog 118 = some 1 := by and_intros <;> kernel_rfl
theorem tt1 : jM prog 120 = some true ∧ jM prog 122 = some false ∧ iD prog 122 = some 1 ∧ jM prog 124 = some true ∧ jM prog 126 = some false ∧ jM prog 128 = some true ∧ jM prog 131 = some true ∧ jM prog 133 = some true ∧ jM prog 135 = some true ∧ jM prog 164 = some false ∧ jM prog 171 = some true ∧ jM prog 175 = some false ∧ jM prog 181 = some false ∧ jM prog 186 = some true ∧ jM prog 187 = some false ∧ iD prog 187 = some 1 ∧ jM prog 189 = some true ∧ jM prog 204 = some true ∧ jM prog 207 = some false ∧ iY prog 22 = some 9 ∧ iY prog 23 = some 4 ∧ iY prog 24 = some 4 ∧ iY prog 27 = some 1 ∧ iY prog 33 = some 2 ∧ iY prog 36 = some 6 ∧ iY prog 37 = some 5 ∧ iY prog 38 = some 5 ∧ iY prog 45 = some 2 ∧ iY prog 60 = some 2 ∧ iY prog 77 = some 1 ∧ iY prog 89 = some 3 ∧ iY prog 109 = some 4 ∧ iY prog 118 = some 4 ∧ iY prog 125 = some 1 ∧ iY prog 126 = some 3 ∧ iY prog 139 = some 3 ∧ iY prog 144 = some 1 ∧ iY prog 145 = some 2 ∧ iY prog 164 = some 3 ∧ iY prog 181 = some 1 := by and_intros <;> kernel_rfl
theorem tt2 : iY prog 187 = some 2 ∧ iY prog 231 = some 2 ∧ kX prog 27 = true ∧ kX prog 33 = true ∧ kX prog 36 = true ∧ kX prog 37 = true ∧ kX prog 38 = true ∧ kX prog 45 = true ∧ kX prog 60 = true ∧ kX prog 77 = true ∧ kX prog 89 = true ∧ kX prog 109 = true ∧ kX prog 125 = true ∧ kX prog 126 = true ∧ kX prog 139 = true ∧ kX prog 144 = true ∧ kX prog 145 = true ∧ kX prog 164 = true ∧ kX prog 181 = true ∧ kX prog 187 = true ∧ kX prog 231 = true ∧ iY prog 9 = none ∧ oQ prog 9 = true ∧ iU prog 26 0 = some 0 ∧ iU prog 26 1 = some 1 ∧ iU prog 26 2 = some 2 ∧ iU prog 30 0 = some 0 ∧ iU prog 30 1 = some 1 ∧ iU prog 30 2 = some 2 ∧ iU prog 40 0 = some 0 ∧ iU prog 40 1 = some 1 ∧ iU prog 40 2 = some 2 ∧ iU prog 40 3 = some 3 ∧ iU prog 67 0 = some 0 ∧ iU prog 67 1 = some 1 ∧ iU prog 74 0 = some 0 ∧ iU prog 74 1 = some 1 ∧ iU prog 76 0 = some 0 ∧ iU prog 76 1 = some 1 ∧ iU prog 79 0 = some 0 := by and_intros <;> kernel_rfl
theorem tt3 : iU prog 79 1 = some 1 ∧ iU prog 79 2 = some 2 ∧ iU prog 79 3 = some 4 ∧ iU prog 79 4 = some 5 ∧ iU prog 96 0 = some 0 ∧ iU prog 96 1 = some 1 ∧ iU prog 100 0 = some 0 ∧ iU prog 100 1 = some 2 ∧ iU prog 108 0 = some 0 ∧ iU prog 108 1 = some 1 ∧ iU prog 111 0 = some 0 ∧ iU prog 111 2 = some 2 ∧ iU prog 111 3 = some 4 ∧ iU prog 120 0 = some 0 ∧ iU prog 120 1 = some 1 ∧ iU prog 120 2 = some 2 ∧ iU prog 120 3 = some 3 ∧ iU prog 124 0 = some 0 ∧ iU prog 124 1 = some 1 ∧ iU prog 124 2 = some 2 ∧ iU prog 124 3 = some 3 ∧ iU prog 124 4 = some 4 ∧ iU prog 128 0 = some 0 ∧ iU prog 128 1 = some 1 ∧ iU prog 128 2 = some 3 ∧ iU prog 131 0 = some 0 ∧ iU prog 131 1 = some 1 ∧ iU prog 131 2 = some 2 ∧ iU prog 131 3 = some 3 ∧ iU prog 133 0 = some 0 ∧ iU prog 133 1 = some 1 ∧ iU prog 133 2 = some 2 ∧ iU prog 133 3 = some 3 ∧ iU prog 135 0 = some 0 ∧ iU prog 135 1 = some 1 ∧ iU prog 135 2 = some 2 ∧ iU prog 135 3 = some 3 ∧ iU prog 135 4 = some 4 ∧ iU prog 171 0 = some 0 ∧ iU prog 171 1 = some 1 := by and_intros <;> kernel_rfl
theorem tt4 : iU prog 171 2 = some 2 ∧ iU prog 186 0 = some 0 ∧ iU prog 186 1 = some 1 ∧ iU prog 189 0 = some 0 ∧ iU prog 189 1 = some 1 ∧ iU prog 189 2 = some 2 ∧ iU prog 204 0 = some 0 ∧ iU prog 204 1 = some 1 ∧ iX prog 3 = some (.int .i64 0) ∧ jI prog 3 = none ∧ iX prog 30 = some (.agg #[.slice none 0 0, .int .u64 0, .int .u64 0]) ∧ jI prog 30 = none ∧ iX prog 33 = some (.slice none 0 0) ∧ jI prog 33 = none ∧ iX prog 40 = some (.agg #[.string ⟨#[]⟩, .slice none 0 0, .slice none 0 0, .slice none 0 0]) ∧ jI prog 40 = none ∧ iX prog 60 = some (.slice none 0 0) ∧ jI prog 60 = none ∧ iX prog 67 = some (.agg #[.int .i64 0, .int .i64 0]) ∧ jI prog 67 = none ∧ iX prog 74 = some (.agg #[.int .i64 0, .int .i64 0]) ∧ jI prog 74 = none ∧ iX prog 76 = some (.agg #[.int .i64 0, .int .i64 0]) ∧ jI prog 76 = none ∧ iX prog 79 = some (.agg #[.string ⟨#[]⟩, .string ⟨#[]⟩, .int .i64 0, .int .i64 0, .int .i64 0, .slice none 0 0]) ∧ jI prog 79 = none ∧ iX prog 89 = some (.slice none 0 0) ∧ jI prog 89 = none ∧ iX prog 96 = some (.agg #[.int .u64 0, .int .u64 0]) ∧ jI prog 96 = none ∧ iX prog 100 = some (.agg #[.int .i64 0, .int .i64 0, .slice none 0 0]) ∧ jI prog 100 = none ∧ iX prog 108 = some (.agg #[.int .i64 0, .int .i64 0]) ∧ jI prog 108 = none ∧ iX prog 111 = some (.agg #[.string ⟨#[]⟩, .bool false, .int .i64 0, .int .i64 0, .slice none 0 0]) ∧ jI prog 111 = none ∧ iX prog 120 = some (.agg #[.int .u8 0, .int .u8 0, .bool false, .slice none 0 0]) ∧ jI prog 120 = none ∧ iX prog 128 = some (.agg #[.string ⟨#[]⟩, .int .i64 0, .int .i64 0, .slice none 0 0]) ∧ jI prog 128 = none := by and_intros <;> kernel_rfl
theorem tt5 : iX prog 133 = some (.agg #[.int .u8 0, .int .u8 0, .int .i8 0, .bool false]) ∧ jI prog 133 = none ∧ iX prog 135 = some (.agg #[.string ⟨#[]⟩, .int .i64 0, .int .i64 0, .int .i64 0, .bool false]) ∧ jI prog 135 = none ∧ iX prog 164 = some (.slice none 0 0) ∧ jI prog 164 = none ∧ iX prog 171 = some (.agg #[.int .i64 0, .int .i64 0, .int .i64 0]) ∧ jI prog 171 = none ∧ iX prog 175 = some (.map none) ∧ jI prog 175 = none ∧ iX prog 181 = some (.slice none 0 0) ∧ jI prog 181 = none ∧ iX prog 186 = some (.agg #[.int .i64 0, .int .i64 0]) ∧ jI prog 186 = none ∧ iX prog 189 = some (.agg #[.int .i64 0, .int .i64 0, .slice none 0 0]) ∧ jI prog 189 = none ∧ iX prog 207 = some (.map none) ∧ jI prog 207 = none ∧ a0X prog 3 = some .i64 ∧ a0X prog 5 = some .u8 ∧ a0X prog 28 = some .u64 ∧ a0X prog 122 = some .i8 ∧ a0X prog 143 = some .u64 := by and_intros <;> kernel_rfl
def TS := (And.intro (And.intro (And.intro (And.intro (And.intro @tt0 (And.intro @tt1 @tt2)) (And.intro (And.intro @tt3 @tt4) (And.intro @tt5 @tS3))) (And.intro (And.intro @tS9 (And.intro @b6Z @b7b)) (And.intro (And.intro @a5A @mP) (And.intro @b7T @c4a)))) (And.intro (And.intro (And.intro @c3n (And.intro @b7t @mW)) (And.intro (And.intro @c4N @c2u) (And.intro @c1F @b7l))) (And.intro (And.intro (And.intro @pK @rB) (And.intro @a0z @c4f)) (And.intro (And.intro @a3c @c1T) (And.intro @lT @b4z))))) (And.intro (And.intro (And.intro (And.intro @vX (And.intro @c0v @tI)) (And.intro (And.intro @b0J @b4y) (And.intro @vV @mY))) (And.intro (And.intro (And.intro @b3Z @b0W) (And.intro @wA @a6h)) (And.intro (And.intro @a0L @b6a) (And.intro @a7d @a0N)))) (And.intro (And.intro (And.intro @a2B (And.intro @b0y @b3P)) (And.intro (And.intro @c5u @c6m) (And.intro @c4Q @c4K))) (And.intro (And.intro (And.intro @c4s @c2X) (And.intro @c4y @c2J)) (And.intro (And.intro @c1n @c2t) (And.intro @c0J @c1b))))))
def RZ := And.intro @RB (And.intro @RC @TS)
end Go.Ds
namespace Go.Ds
open Go.Proofs
variable {P : Program} {H : Heap}
structure Drw where
 rank : Int
 shift : Int
 deriving DecidableEq, Inhabited
structure Seg where
 lo : Int
 hi : Int
 dv : Value
 draws : List Drw
 deriving Inhabited
structure Stp where
 name : ByteArray
 num : Int
 den : Int
 gv : Value
 segs : List Seg
 deriving Inhabited
structure Dvn where
 name : ByteArray
 pedal : Bool
 lo : Int
 hi : Int
 sv : Value
 stops : List Stp
 deriving Inhabited
structure Rk where
 name : ByteArray
 tone : ByteArray
 num : Int
 den : Int
 first : Int
 wv : Value
 wind : List Int
 deriving Inhabited
structure Cpl where
 name : ByteArray
 src : Int
 dst : Int
 shift : Int
 thr : Bool
 deriving Inhabited
structure Org where
 name : ByteArray
 rv : Value
 ranks : List Rk
 dv : Value
 dvs : List Dvn
 cv : Value
 cpls : List Cpl
 deriving Inhabited
def Drw.cells (d : Drw) : List Value := [I d.rank, I d.shift]
def Seg.cells (s : Seg) : List Value := [I s.lo, I s.hi, s.dv]
def Stp.cells (s : Stp) : List Value := [.string s.name, I s.num, I s.den, s.gv]
def Dvn.cells (d : Dvn) : List Value := [.string d.name, .bool d.pedal, I d.lo, I d.hi, d.sv]
def Rk.cells (r : Rk) : List Value := [.string r.name, .string r.tone, I r.num, I r.den, I r.first, r.wv]
def Cpl.cells (c : Cpl) : List Value := [.string c.name, I c.src, I c.dst, I c.shift, .bool c.thr]
def Org.cells (o : Org) : List Value := [.string o.name, o.rv, o.dv, o.cv]
def Seg.In (H : Heap) (s : Seg) : Prop := Sl 2 Drw.cells H s.dv s.draws ∧ s.draws.length < 1000000000
def Stp.In (H : Heap) (s : Stp) : Prop := Sl 3 Seg.cells H s.gv s.segs ∧ (∀ g ∈ s.segs, g.In H) ∧ s.segs.length < 1000000000
def Dvn.In (H : Heap) (d : Dvn) : Prop := Sl 4 Stp.cells H d.sv d.stops ∧ (∀ s ∈ d.stops, s.In H) ∧ d.stops.length < 1000000000
def Rk.In (H : Heap) (r : Rk) : Prop := Sl 1 (one I) H r.wv r.wind ∧ r.wind.length < 1000000000
def Org.In (H : Heap) (o : Org) : Prop := Sl 6 Rk.cells H o.rv o.ranks ∧ (∀ r ∈ o.ranks, r.In H) ∧ Sl 5 Dvn.cells H o.dv o.dvs ∧ (∀ d ∈ o.dvs, d.In H) ∧ Sl 5 Cpl.cells H o.cv o.cpls ∧ o.ranks.length < 1000000000 ∧ o.dvs.length < 1000000000 ∧ o.cpls.length < 1000000000
section
variable {H0 : Heap} {os : List Ob}
theorem Seg.In.ab {s : Seg} (h : s.In H0) (hS : St P H0 H os) : s.In H := ⟨hS.sl h.1, h.2⟩
theorem Stp.In.ab {s : Stp} (h : s.In H0) (hS : St P H0 H os) : s.In H := ⟨hS.sl h.1, fun g hg => (h.2.1 g hg).ab hS, h.2.2⟩
theorem Dvn.In.ab {d : Dvn} (h : d.In H0) (hS : St P H0 H os) : d.In H := ⟨hS.sl h.1, fun g hg => (h.2.1 g hg).ab hS, h.2.2⟩
theorem Rk.In.ab {r : Rk} (h : r.In H0) (hS : St P H0 H os) : r.In H := ⟨hS.sl h.1, h.2⟩
theorem Org.In.ab {o : Org} (h : o.In H0) (hS : St P H0 H os) : o.In H := ⟨hS.sl h.1, fun r hr => (h.2.1 r hr).ab hS, hS.sl h.2.2.1, fun d hd => (h.2.2.2.1 d hd).ab hS, hS.sl h.2.2.2.2.1, h.2.2.2.2.2⟩
end
def c4M (n : Int) : Prop := -9223372036854775808 ≤ n ∧ n < 9223372036854775808
end Go.Ds
namespace Go.Ds
open Go.Proofs Go.Proofs.Tryz
variable {H : Heap}
def qC (b : Int) : Bool := (decide (65 ≤ b) && decide (b ≤ 90)) || (decide (97 ≤ b) && decide (b ≤ 122))
theorem a4t (b : Int) : Fn prog 104 [.int .u8 b] H fun r H' => r = .bool (qC b) ∧ St prog H H' [] := by
 refine .aY func104 rfl (by kernel_rfl) (m := 17) rfl fun l hn g0 => ?_
 simp (disch := omega) only [↓RA, RZ, simprocAttr, hn, g0]
 refine kA (fun h1 => ?_) (fun h1 => ?_)
 ·simp (disch := omega) only [↓RA, RZ, simprocAttr, hn, g0, h1]
  refine iO (fun h2 => ?_) (fun h2 => ?_)
  ·simp (disch := omega) only [↓RA, RZ, simprocAttr, hn, a7j, h1, h2]
   first | exact (sR H) | exact ⟨by simp [qC, h1, h2], (sR H)⟩
  simp (disch := omega) only [↓RA, RZ, simprocAttr, hn, g0, h1, h2]
  refine kA (fun h3 => ?_) (fun h3 => ?_)
  ·simp (disch := omega) only [↓RA, RZ, simprocAttr, hn, g0, a7j, h1, h2, h3]
   first | exact (sR H) | exact ⟨by simp [qC, h1, h2, h3], (sR H)⟩
  simp (disch := omega) only [↓RA, RZ, simprocAttr, hn, a7j, h1, h2, h3]
  first | exact (sR H) | exact ⟨by simp [qC, h1, h2, h3], (sR H)⟩
 simp (disch := omega) only [↓RA, RZ, simprocAttr, hn, g0, h1]
 refine kA (fun h4 => ?_) (fun h4 => ?_)
 ·simp (disch := omega) only [↓RA, RZ, simprocAttr, hn, g0, a7j, h1, h4]
  first | exact (sR H) | exact ⟨by simp [qC, h1, h4], (sR H)⟩
 simp (disch := omega) only [↓RA, RZ, simprocAttr, hn, a7j, h1, h4]
 first | exact (sR H) | exact ⟨by simp [qC, h1, h4], (sR H)⟩
theorem b4I (b : Int) : Fn prog 106 [I b] H fun r H' => r = .bool (decide (-256 ≤ b) && decide (b ≤ 256)) ∧ St prog H H' [] := by
 refine .aY func106 rfl (by kernel_rfl) (m := 9) rfl fun l hn g0 => ?_
 simp (disch := omega) only [↓RA, RZ, simprocAttr, hn, g0]
 refine kA (fun h1 => ?_) (fun h1 => ?_)
 ·simp (disch := omega) only [↓RA, RZ, simprocAttr, hn, g0, c0m, h1]
  first | exact (sR H) | exact ⟨by simp [h1], (sR H)⟩
 simp (disch := omega) only [↓RA, RZ, simprocAttr, hn, c0m, h1]
 first | exact (sR H) | exact ⟨by simp [], (sR H)⟩
theorem b5v (b : Int) : Fn prog 144 [I b] H fun r H' => r = .bool (decide (b < 0) || decide (1000000 < b)) ∧ St prog H H' [] := by
 refine .aY func144 rfl (by kernel_rfl) (m := 9) rfl fun l hn g0 => ?_
 simp (disch := omega) only [↓RA, RZ, simprocAttr, hn, g0]
 refine iO (fun h1 => ?_) (fun h1 => ?_)
 ·simp (disch := omega) only [↓RA, RZ, simprocAttr, hn, b9R, h1]
  first | exact (sR H) | exact ⟨by simp [], (sR H)⟩
 simp (disch := omega) only [↓RA, RZ, simprocAttr, hn, g0, b9R, h1]
 first | exact (sR H) | exact ⟨by simp [], (sR H)⟩
theorem a4G (n : Int) (h : -9223372036854775808 ≤ n) (h0 : n < 0) : IntKind.wrap .u64 (0 - IntKind.wrap .u64 n) = n.natAbs := by
 have e : ∀ m : Int, IntKind.wrap .u64 m = m % 18446744073709551616 := fun m => by
  show (if (false && decide (m % 18446744073709551616 ≥ 9223372036854775808)) = true then m % 18446744073709551616 - 18446744073709551616 else m % 18446744073709551616) = _
  simp
 rw [e, e]
 omega
theorem a5H (n : Int) (hn0 : c4M n) : Fn prog 191 [I n] H fun r H' => r = .int .u64 n.natAbs ∧ St prog H H' [] := by
 refine .aY func191 rfl (by kernel_rfl) (m := 10) rfl fun l hn g0 => ?_
 simp (disch := omega) only [↓RA, RB, simprocAttr, hn, g0]
 refine iA (fun h => ?_) (fun h => ?_)
 ·simp (disch := omega) only [↓RA, RZ, simprocAttr, hn, g0, c0q, h]
  exact ⟨by rw [a4G n hn0.1 h], (sR H)⟩
 simp (disch := omega) only [↓RA, RZ, simprocAttr, hn, g0, c0q, h]
 refine ⟨?_, (sR H)⟩
 have := hn0.2
 rw [qR n (by omega) (by omega)]
 congr 1
 omega
theorem c2k (a b : Nat) (ha : a < 18446744073709551616) (hb : b < 18446744073709551616) : Fn prog 190 [.int .u64 a, .int .u64 b] H fun r H' => r = .int .u64 (Nat.gcd a b) ∧ St prog H H' [] := by
 refine .aD func190 rfl (by kernel_rfl) (m := 12) rfl fun l hn g0 g1 => ?_
 simp (disch := omega) only [↓RA, RB, simprocAttr]
 refine Wp.al (fun n l H' => l.length = 12 ∧ get l 4 = (.int .u64 0) ∧ ∃ (x y : Nat), (n = y ∧ x < 18446744073709551616 ∧ y < 18446744073709551616 ∧ Nat.gcd a b = Nat.gcd x y) ∧ get l 0 = (.int .u64 x) ∧ get l 1 = (.int .u64 y) ∧ St prog H H' []) b ?_ ?_
 ·simp (disch := omega) only [RB, RC, simprocAttr, hn, g0, g1]
  exact ⟨a, b, ⟨rfl, ha, hb, rfl⟩, rfl, rfl, (sR H)⟩
 rintro n l H1 ⟨hn, g4, x, y, ⟨hy,hx1,hy1,hg⟩, g0, g1, hS1⟩
 simp (disch := omega) only [↓RA, RB, simprocAttr, hn, g1]
 refine iA (fun h => ?_) (fun h => ?_)
 ·simp (disch := omega) only [↓RA, RC, simprocAttr, h]
  refine Wp.drw jZ (by kernel_rfl) ?_
  simp (disch := omega) only [↓RA, RZ, simprocAttr, hn, g4, g0, g1]
  refine ⟨x % y, ?_, y, x % y, ⟨rfl, hy1, ?_, ?_⟩, rfl, ?_, hS1⟩
  ·rw [hy]; exact eR _ (by omega)
  ·exact dO (eR _ (by omega)) (by omega)
  ·rw [hg, Nat.gcd_comm x y, Nat.gcd_rec]
   exact Nat.gcd_comm _ _
  ·rw [eK]
 simp (disch := omega) only [↓RA, RZ, simprocAttr, hn, g0, c2O, h]
 have h0 : y = 0 := by omega
 subst h0
 exact ⟨by rw [hg, Nat.gcd_zero_right], hS1⟩
theorem b9v (a b : Int) (ha0 : 0 ≤ a) (ha : a < 18446744073709551616) (hb0 : 0 ≤ b) (hb : b < 18446744073709551616) : Fn prog 190 [.int .u64 a, .int .u64 b] H fun r H' => r = .int .u64 (Nat.gcd a.toNat b.toNat) ∧ St prog H H' [] := by
 have := c2k (H := H) a.toNat b.toNat (by omega) (by omega)
 rwa [fi ha0, fi hb0] at this
def vY (num den : Int) : Int := if 0 < den ∧ den ≤ 1000000 ∧ -1000000 ≤ num ∧ num ≤ 1000000 ∧ Nat.gcd num.natAbs den.toNat = 1 then 0 else 2
theorem b7v (num den : Int) : Fn prog 142 [.agg #[I num, I den]] H fun r H' => r = I (vY num den) ∧ St prog H H' [] := by
 refine .aY func142 rfl (by kernel_rfl) (m := 31) rfl fun l hn g0 => ?_
 simp (disch := omega) only [↓RA, RB, simprocAttr, g0]
 refine (sR H).eNew 2 [I num, I den] rfl rfl rfl a0z fun A1 H1 hS1 => ?_
 simp only [RT] at hS1
 simp (disch := omega) only [↓RA, RB, simprocAttr]
 refine Wp.aO jZ [(23, 0), (24, 0)] (by kernel_rfl) (by kernel_rfl) ?_
 simp (disch := omega) only [↓RA, RZ, simprocAttr, hn, hS1.ld 0 rfl]
 refine iO (fun h1 => ?_) (fun h1 => ?_)
 ·simp (disch := omega) only [↓RA, RZ, simprocAttr, hn, a4h, h1]
  refine ⟨?_, hS1.forget⟩; unfold vY; (repeat' split); all_goals first | rfl | omega
 simp (disch := omega) only [↓RA, RZ, simprocAttr, hn, hS1.ld 0 rfl, h1]
 refine iO (fun h2 => ?_) (fun h2 => ?_)
 ·simp (disch := omega) only [↓RA, RZ, simprocAttr, hn, a4h, h1, h2]
  refine ⟨?_, hS1.forget⟩; unfold vY; (repeat' split); all_goals first | rfl | omega
 simp (disch := omega) only [↓RA, RZ, simprocAttr, hn, hS1.ld 0 rfl, h1, h2]
 refine iO (fun h3 => ?_) (fun h3 => ?_)
 ·simp (disch := omega) only [↓RA, RZ, simprocAttr, hn, a4h, h1, h2, h3]
  refine ⟨?_, hS1.forget⟩; unfold vY; (repeat' split); all_goals first | rfl | omega
 simp (disch := omega) only [↓RA, RZ, simprocAttr, hn, hS1.ld 0 rfl, h1, h2, h3]
 refine iO (fun h4 => ?_) (fun h4 => ?_)
 ·simp (disch := omega) only [↓RA, RZ, simprocAttr, hn, a4h, h1, h2, h3, h4]
  refine ⟨?_, hS1.forget⟩; unfold vY; (repeat' split); all_goals first | rfl | omega
 simp (disch := omega) only [↓RA, RZ, simprocAttr, hn, hS1.ld 0 rfl, h1, h2, h3, h4]
 refine hS1.cF (a5H num ⟨by omega, by omega⟩) fun H2 hS2 => ?_
 simp (disch := omega) only [↓RA, RZ, simprocAttr, hn, hS2.ld 0 rfl, h1, h2, h3, h4]
 refine hS2.cF (b9v _ _ (by omega) (by omega) (by omega) (by omega)) fun H3 hS3 => ?_
 simp (disch := omega) only [↓RA, RZ, simprocAttr, hn, hS1.ld 0 rfl, h1, h2, h3, h4]
 refine iA (fun h5 => ?_) (fun h5 => ?_)
 ·simp (disch := omega) only [↓RA, RZ, simprocAttr, hn, a4h, h1, h2, h3, h4, h5]
  refine ⟨?_, hS3.forget⟩; unfold vY; (repeat' split); all_goals first | rfl | omega
 simp (disch := omega) only [↓RA, RZ, simprocAttr, hn, a4h, h1, h2, h3, h4, h5]
 refine ⟨?_, hS3.forget⟩; unfold vY; (repeat' split); all_goals first | rfl | omega
def nE (num den : Int) : Int := if vY num den ≠ 0 then 2 else if num ≤ 0 ∨ 128 * den < num then 3 else if 128 < den then 4 else 0
theorem b4Y {num den : Int} (h : vY num den = 0) : 0 < den ∧ den ≤ 1000000 ∧ -1000000 ≤ num ∧ num ≤ 1000000 ∧ Nat.gcd num.natAbs den.toNat = 1 := by
 unfold vY at h
 split at h
 ·assumption
 ·cases h
theorem a1q (num den : Int) : Fn prog 105 [.agg #[I num, I den]] H fun r H' => r = I (nE num den) ∧ St prog H H' [] := by
 refine .aY func105 rfl (by kernel_rfl) (m := 23) rfl fun l hn g0 => ?_
 simp (disch := omega) only [↓RA, RB, simprocAttr, g0]
 refine (sR H).eNew 2 [I num, I den] rfl rfl rfl a0z fun A1 H1 hS1 => ?_
 simp only [RT] at hS1
 simp (disch := omega) only [↓RA, RZ, simprocAttr, hn, hS1.ag 0 rfl]
 refine hS1.cF (b7v num den) fun H2 hS2 => ?_
 simp (disch := omega) only [↓RA, RB, simprocAttr, hn]
 refine iA (fun h => ?_) (fun h => ?_)
 ·simp (disch := omega) only [↓RA, RZ, simprocAttr, hn, a6C, h]
  exact ⟨by rw [nE, if_pos h], hS2.forget⟩
 have hf := b4Y (dG.1 h)
 simp (disch := omega) only [↓RA, RZ, simprocAttr, hn, hS2.ld 0 rfl, h]
 refine iO (fun h1 => ?_) (fun h1 => ?_)
 ·simp (disch := omega) only [↓RA, RZ, simprocAttr, hn, a6C, h, h1]
  refine ⟨?_, hS2.forget⟩; unfold nE; (repeat' split); all_goals first | rfl | omega
 simp (disch := omega) only [↓RA, RZ, simprocAttr, hn, hS2.ld 0 rfl, h, h1]
 refine iA (fun h2 => ?_) (fun h2 => ?_)
 ·simp (disch := omega) only [↓RA, RZ, simprocAttr, hn, a6C, h, h1, h2]
  refine ⟨?_, hS2.forget⟩; unfold nE; (repeat' split); all_goals first | rfl | omega
 simp (disch := omega) only [↓RA, RZ, simprocAttr, hn, hS2.ld 0 rfl, h, h1, h2]
 refine iA (fun h3 => ?_) (fun h3 => ?_)
 ·simp (disch := omega) only [↓RA, RZ, simprocAttr, hn, a6C, h, h1, h2, h3]
  refine ⟨?_, hS2.forget⟩; unfold nE; (repeat' split); all_goals first | rfl | omega
 simp (disch := omega) only [↓RA, RZ, simprocAttr, hn, a6C, h, h1, h2, h3]
 refine ⟨?_, hS2.forget⟩; unfold nE; (repeat' split); all_goals first | rfl | omega
def mZ (p : Nat → Bool) (n : Nat) : Int := match (List.range n).find? p with | some j => j | none => -1
theorem vT (p : Nat → Bool) (n i : Nat) (hi : i < n) (hp : p i = true) (h0 : ∀ j, j < i → p j = false) : (List.range n).find? p = some i := by
 rw [List.find?_eq_some_iff_getElem]
 refine ⟨hp, i, by simpa using hi, by simp, fun j hj => by simp [h0 j hj]⟩
theorem vG (p : Nat → Bool) (n i : Nat) (hi : i < n) (hp : p i = true) (h0 : ∀ j, j < i → p j = false) : mZ p n = i := by
 unfold mZ
 rw [vT p n i hi hp h0]
theorem vA (p : Nat → Bool) (n : Nat) (h0 : ∀ j, j < n → p j = false) : mZ p n = -1 := by
 unfold mZ
 have : (List.range n).find? p = none := by
  rw [gR]
  intro j hj
  simp [h0 j (dB.1 hj)]
 rw [this]
theorem xN (p : Nat → Bool) (n : Nat) : (0 ≤ mZ p n) ↔ ∃ j, j < n ∧ p j = true := by
 unfold mZ
 cases h : (List.range n).find? p with
 | none =>
   rw [gR] at h
   simp only [dB] at h
   constructor
   ·intro hh; exact absurd hh (by decide)
   ·rintro ⟨j, hj, hp⟩; exact absurd hp (h j hj)
 | some j =>
   constructor
   ·intro _
    exact ⟨j, dB.1 (gJ h), List.find?_some h⟩
   ·intro _; show (0 : Int) ≤ (j : Int); omega
theorem b8u (v : Value) (xs : List Int) (hv : Sl 1 (one I) H v xs) (hl : xs.length < 1000000000) (k : FuncId) (caps : List Value) (p : Nat → Bool)
 (hf : ∀ j H1, j < xs.length → St prog H H1 [] → Fn prog k (I (iB xs j) :: caps) H1 fun r H2 => r = .bool (p j) ∧ St prog H1 H2 []) :
 Fn prog 192 [v, .func (.func k) #[] caps.toArray] H fun r H' => r = I (mZ p xs.length) ∧ St prog H H' [] := by
 refine .aD func192 rfl (by kernel_rfl) (m := 19) rfl fun l hn g0 g1 => ?_
 simp (disch := omega) only [↓RA, RZ, simprocAttr, hn, g0, ((sR H).sl hv).len]
 refine Wp.al (fun n l H' => l.length = 19 ∧ get l 0 = v ∧ get l 1 = .func (.func k) #[] caps.toArray ∧ get l 7 = I xs.length ∧ ∃ (j : Nat), (n + j = xs.length ∧ ∀ q, q < j → p q = false) ∧ get l 8 = I j ∧ St prog H H' []) xs.length ?_ ?_
 ·simp (disch := omega) only [RB, RC, simprocAttr, hn, g0, g1]
  exact ⟨0, ⟨by omega, fun q hq => absurd hq (dL _)⟩, rfl, (sR H)⟩
 rintro n l H1 ⟨hn, g0, g1, g7, j, ⟨hi,h0⟩, g8, hS1⟩
 simp (disch := omega) only [↓RA, RB, simprocAttr, hn, g7, g8]
 refine iA (fun h => ?_) (fun h => ?_)
 ·simp (disch := omega) only [↓RA, RZ, simprocAttr, hn, g0, g1, g8, (hS1.sl hv).idx, (hS1.sl hv).ld, one, h]
  refine hS1.cF (hf j _ (by omega) hS1) fun H2 hS2 => ?_
  simp (disch := omega) only [↓RA, RZ, simprocAttr, hn, h]
  refine jE (fun hp => ?_) (fun hp => ?_)
  ·simp (disch := omega) only [↓RA, RZ, simprocAttr, hn, b9L, h, hp]
   exact ⟨by rw [vG p xs.length j (by omega) hp h0], hS2⟩
  simp (disch := omega) only [↓RA, RZ, simprocAttr, hn, g0, g1, g7, g8, h, hp]
  exact ⟨n - 1, by omega, j + 1, ⟨by omega, fun q hq => by rcases du.1 hq with e | e; (· exact h0 q e); (· rw [e]; exact hp)⟩, by simp, hS2⟩
 simp (disch := omega) only [↓RA, RZ, simprocAttr, hn, b9L, h]
 exact ⟨by rw [vA p xs.length fun q hq => h0 q (by omega)], hS1⟩
theorem b8C (v : Value) (xs : List Int) (hv : Sl 1 (one I) H v xs) (hl : xs.length < 1000000000) (k : FuncId) (caps : List Value) (p : Nat → Bool)
 (hf : ∀ j H1, j < xs.length → St prog H H1 [] → Fn prog k (I (iB xs j) :: caps) H1 fun r H2 => r = .bool (p j) ∧ St prog H1 H2 []) :
 Fn prog 143 [v, .func (.func k) #[] caps.toArray] H fun r H' => r = .bool (decide (0 ≤ mZ p xs.length)) ∧ St prog H H' [] := by
 refine .aD func143 rfl (by kernel_rfl) (m := 9) rfl fun l hn g0 g1 => ?_
 simp (disch := omega) only [↓RA, RZ, simprocAttr, hn, g0, g1]
 refine (sR H).cF (b8u v xs hv hl k caps p hf) fun H1 hS1 => ?_
 simp (disch := omega) only [↓RA, RZ, simprocAttr, hn, c4j]
 first | exact hS1 | exact ⟨rfl, hS1⟩
def a0i (xs : List Int) : Int := if xs.any fun w => decide (w < 0) || decide (1000000 < w) then 3 else 0
theorem b4s (v : Value) (xs : List Int) (hv : Sl 1 (one I) H v xs) (hl : xs.length < 1000000000) : Fn prog 107 [v] H fun r H' => r = I (a0i xs) ∧ St prog H H' [] := by
 have key : (0 ≤ mZ (fun j => decide (iB xs j < 0) || decide (1000000 < iB xs j)) xs.length) ↔ (xs.any fun w => decide (w < 0) || decide (1000000 < w)) = true := by
  rw [xN, gA]
  constructor
  ·rintro ⟨j, hj, hp⟩; exact ⟨_, iE hj, hp⟩
  ·rintro ⟨x, hx, hp⟩
   obtain ⟨j, hj, rfl⟩ := dR.1 hx
   exact ⟨j, hj, by rw [jR xs j hj]; exact hp⟩
 refine .aY func107 rfl (by kernel_rfl) (m := 5) rfl fun l hn g0 => ?_
 simp (disch := omega) only [↓RA, RZ, simprocAttr, hn, g0]
 refine (sR H).cF (b8C v xs hv hl 144 [] _ (fun j H1 hj hS => b5v (iB xs j))) fun H1 hS1 => ?_
 simp (disch := omega) only [↓RA, RB, simprocAttr, hn]
 refine iA (fun h => ?_) (fun h => ?_)
 ·simp (disch := omega) only [↓RA, RZ, simprocAttr, hn, c0e, h]
  exact ⟨by rw [a0i, if_pos (key.1 h)], hS1⟩
 simp (disch := omega) only [↓RA, RZ, simprocAttr, hn, c0e, h]
 exact ⟨by rw [a0i, if_neg (fun hh => h (key.2 hh))], hS1⟩
def ncF (b : Int) : Bool := qC b || (decide (48 ≤ b) && decide (b ≤ 57)) || decide (b = 95)
def kY (s : ByteArray) : Bool := decide (0 < s.size) && decide (s.size ≤ 32) && qC (oH s 0) && (List.range (s.size - 1)).all fun j => ncF (oH s (j + 1))
theorem c4h (s z : ByteArray) (hz : z.size = 0) : s = z ↔ s.size = 0 := ⟨fun h => by rw [h, hz], fun h => by
 apply a0U
 have h1 : s.data.toList = [] := fm (by simpa using h)
 have h2 : z.data.toList = [] := fm (by simpa using hz)
 rw [h1, h2]⟩
theorem qK (s : ByteArray) : Fn prog 55 [.string s] H fun r H' => r = .bool (kY s) ∧ St prog H H' [] := by
 have hz := c4h s { data := #[] } rfl
 refine .aY func55 rfl (by kernel_rfl) (m := 42) rfl fun l hn g0 => ?_
 simp (disch := omega) only [↓RA, RZ, simprocAttr, hn, g0, hz]
 refine iO (fun h1 => ?_) (fun h1 => ?_)
 ·simp (disch := omega) only [↓RA, RZ, simprocAttr, hn, b1H, h1]
  first | exact (sR H) | exact ⟨by simp [kY, h1], (sR H)⟩
 simp (disch := omega) only [↓RA, RZ, simprocAttr, hn, g0, h1]
 refine iO (fun h2 => ?_) (fun h2 => ?_)
 ·simp (disch := omega) only [↓RA, RZ, simprocAttr, hn, b1H, h1, h2]
  first | exact (sR H) | exact ⟨by simp [kY, show ¬ s.size ≤ 32 by omega], (sR H)⟩
 simp (disch := omega) only [↓RA, RZ, simprocAttr, hn, g0, h1, h2]
 refine (sR H).cF (a4t _) fun H1 hS1 => ?_
 simp (disch := omega) only [↓RA, RZ, simprocAttr, hn, h1, h2]
 refine jE (fun h3 => ?_) (fun h3 => ?_)
 ·simp (disch := omega) only [↓RA, RZ, simprocAttr, hn, b1H, h1, h2, h3]
  first | exact hS1 | exact ⟨by simp at h3; simp [kY, h3], hS1⟩
 simp (disch := omega) only [↓RA, RZ, simprocAttr, h1, h2, h3]
 have h4 : qC (oH s 0) = true := by simpa using h3
 have hA : kY s = (List.range (s.size - 1)).all fun j => ncF (oH s (j + 1)) := by simp [kY, h4, show 0 < s.size by omega, show s.size ≤ 32 by omega]
 refine Wp.al (fun n l H' => l.length = 42 ∧ get l 0 = (.string s) ∧ ∃ (i : Nat), (n + i = s.size ∧ 1 ≤ i ∧ ∀ j, 1 ≤ j → j < i → ncF (oH s j) = true) ∧ get l 3 = I i ∧ St prog H H' []) (s.size - 1) ?_ ?_
 ·simp (disch := omega) only [RB, RC, simprocAttr, hn, g0]
  exact ⟨1, ⟨by omega, by omega, fun j h1 h2 => by omega⟩, rfl, hS1⟩
 rintro n l H2 ⟨hn, g0, i, ⟨hi,hi1,h0⟩, g3, hS2⟩
 simp (disch := omega) only [↓RA, RZ, simprocAttr, hn, g0, g3]
 refine iA (fun h5 => ?_) (fun h5 => ?_)
 ·simp (disch := omega) only [↓RA, RZ, simprocAttr, hn, g0, g3, h5]
  refine hS2.cF (a4t _) fun H3 hS3 => ?_
  have hF : ncF (oH s i) = false → kY s = false := fun hh => by
   rw [hA, List.all_eq_false]
   exact ⟨i - 1, dB.2 (by omega), by rw [show i - 1 + 1 = i by omega, hh]; simp⟩
  have hT : ncF (oH s i) = true → ∀ j, 1 ≤ j → j < i + 1 → ncF (oH s j) = true := fun hh j h1 h2 => by
   by_cases e : j = i
   ·rw [e]; exact hh
   ·exact h0 j h1 (by omega)
  simp (disch := omega) only [↓RA, RZ, simprocAttr, hn, h5]
  refine a0t (fun h1 => ?_) (fun h1 => ?_)
  ·simp (disch := omega) only [↓RA, RZ, simprocAttr, hn, h5, h1]
   refine iO (fun h2 => ?_) (fun h2 => ?_)
   ·simp (disch := omega) only [↓RA, RZ, simprocAttr, hn, h5, h1, h2]
    refine iA (fun h3 => ?_) (fun h3 => ?_)
    ·simp (disch := omega) only [↓RA, RZ, simprocAttr, hn, b1H, h5, h1, h2, h3]
     exact ⟨by rw [hF (by simp_all [ncF] <;> omega)], hS3⟩
    simp (disch := omega) only [↓RA, RZ, simprocAttr, hn, g0, g3, h5, h1, h2, h3]
    exact ⟨n - 1, by omega, i + 1, ⟨by omega, by omega, hT (by simp_all [ncF] <;> omega)⟩, by simp, hS3⟩
   simp (disch := omega) only [↓RA, RZ, simprocAttr, hn, h5, h1, h2]
   refine kA (fun h4 => ?_) (fun h4 => ?_)
   ·simp (disch := omega) only [↓RA, RZ, simprocAttr, hn, h5, h1, h2, h4]
    refine iA (fun h5 => ?_) (fun h5 => ?_)
    ·simp (disch := omega) only [↓RA, RZ, simprocAttr, hn, b1H, h1, h2, h4, h5]
     exact ⟨by rw [hF (by simp_all [ncF] <;> omega)], hS3⟩
    simp (disch := omega) only [↓RA, RZ, simprocAttr, hn, g0, g3, h1, h2, h4, h5]
    exact ⟨n - 1, by omega, i + 1, ⟨by omega, by omega, hT (by simp_all [ncF] <;> omega)⟩, by simp, hS3⟩
   simp (disch := omega) only [↓RA, RZ, simprocAttr, hn, g0, g3, h5, h1, h2, h4]
   exact ⟨n - 1, by omega, i + 1, ⟨by omega, by omega, hT (by simp_all [ncF] <;> omega)⟩, by simp, hS3⟩
  simp (disch := omega) only [↓RA, RZ, simprocAttr, hn, g0, g3, h5, h1]
  exact ⟨n - 1, by omega, i + 1, ⟨by omega, by omega, hT (by simp_all [ncF] <;> omega)⟩, by simp, hS3⟩
 simp (disch := omega) only [↓RA, RZ, simprocAttr, hn, b1H, h5]
 refine ⟨?_, hS2⟩
 rw [hA]
 congr 1
 symm
 rw [dz]
 intro j hj
 exact h0 (j + 1) (by omega) (by have := dB.1 hj; omega)
def rankE (r : Rk) : Int := if kY r.name = false ∨ kY r.tone = false then 8 else if nE r.num r.den ≠ 0 then nE r.num r.den else if ¬ (-256 ≤ r.first ∧ r.first ≤ 256) then 3 else if r.wind.length = 0 then 13 else if 128 < r.wind.length then 4 else a0i r.wind
theorem b0B (r : Rk) (hr : r.In H) : Fn prog 56 [.agg #[.string r.name, .string r.tone, I r.num, I r.den, I r.first, r.wv]] H fun v H' => v = I (rankE r) ∧ St prog H H' [] := by
 have hl := hr.2
 refine .aY func56 rfl (by kernel_rfl) (m := 38) rfl fun l hn g0 => ?_
 simp (disch := omega) only [↓RA, RB, simprocAttr, g0]
 refine (sR H).eNew 6 [(.string r.name), (.string r.tone), I r.num, I r.den, I r.first, r.wv] rfl rfl (by simp [OC, ((sR H).sl hr.1).cells.2.1]) a3c fun A1 H1 hS1 => ?_
 simp only [RT] at hS1
 simp (disch := omega) only [↓RA, RZ, simprocAttr, hn, hS1.ld 0 rfl]
 refine hS1.cF (qK _) fun H2 hS2 => ?_
 simp (disch := omega) only [↓RA, RZ, simprocAttr, hn]
 refine a0t (fun h1 => ?_) (fun h1 => ?_)
 ·simp (disch := omega) only [↓RA, RZ, simprocAttr, hn, a8J, h1]
  refine ⟨?_, hS2.forget⟩; clear hS1; unfold rankE; (try simp only [dM] at *); (repeat' split); all_goals first | rfl | omega | simp_all
 simp (disch := omega) only [↓RA, RZ, simprocAttr, hn, hS2.ld 0 rfl, h1]
 refine hS2.cF (qK _) fun H3 hS3 => ?_
 simp (disch := omega) only [↓RA, RZ, simprocAttr, hn, h1]
 refine jE (fun h2 => ?_) (fun h2 => ?_)
 ·simp (disch := omega) only [↓RA, RB, simprocAttr, hn, a8J, h1, h2]
  refine ⟨?_, hS3.forget⟩; clear hS1; unfold rankE; (try simp only [dM] at *); (repeat' split); all_goals first | rfl | omega | simp_all
 simp (disch := omega) only [↓RA, RZ, simprocAttr, hn, hS3.ag 0 rfl, h1, h2]
 refine hS3.cF (a1q _ _) fun H4 hS4 => ?_
 simp (disch := omega) only [↓RA, RB, simprocAttr, hn, h1, h2]
 refine iA (fun h3 => ?_) (fun h3 => ?_)
 ·simp (disch := omega) only [↓RA, RZ, simprocAttr, hn, a8J, h1, h2, h3]
  refine ⟨?_, hS4.forget⟩; clear hS1; unfold rankE; (try simp only [eM, dM, dc, decide_eq_true_eq, gZ, fK, decide_eq_false_iff_not] at *); (repeat' split); all_goals first | rfl | omega | simp_all
 simp (disch := omega) only [↓RA, RZ, simprocAttr, hn, hS4.ld 0 rfl, h1, h2, h3]
 refine hS4.cF (b4I _) fun H5 hS5 => ?_
 simp (disch := omega) only [↓RA, RZ, simprocAttr, hn, h1, h2, h3]
 refine jE (fun h4 => ?_) (fun h4 => ?_)
 ·simp (disch := omega) only [↓RA, RZ, simprocAttr, hn, a8J, h1, h2, h3, h4]
  refine ⟨?_, hS5.forget⟩; clear hS1; unfold rankE; (try simp only [dM, fK, decide_eq_false_iff_not] at *); (repeat' split); all_goals first | rfl | omega | simp_all
 simp (disch := omega) only [↓RA, RZ, simprocAttr, hn, hS5.ld 0 rfl, (hS5.sl hr.1).len, h1, h2, h3, h4]
 refine iA (fun h5 => ?_) (fun h5 => ?_)
 ·simp (disch := omega) only [↓RA, RZ, simprocAttr, hn, a8J, h1, h2, h3, h4, h5]
  refine ⟨?_, hS5.forget⟩; clear hS1; unfold rankE; (try simp only [eM, dM, dc, decide_eq_true_eq, gZ, fK, decide_eq_false_iff_not] at *); (repeat' split); all_goals first | rfl | omega | simp_all
 simp (disch := omega) only [↓RA, RZ, simprocAttr, hn, hS5.ld 0 rfl, (hS5.sl hr.1).len, h1, h2, h3, h4, h5]
 refine iA (fun h6 => ?_) (fun h6 => ?_)
 ·simp (disch := omega) only [↓RA, RZ, simprocAttr, hn, a8J, h1, h2, h3, h4, h5, h6]
  refine ⟨?_, hS5.forget⟩; clear hS1; unfold rankE; (try simp only [eM, dM, dc, decide_eq_true_eq, gZ, fK, decide_eq_false_iff_not] at *); (repeat' split); all_goals first | rfl | omega | simp_all
 simp (disch := omega) only [↓RA, RZ, simprocAttr, hn, hS5.ld 0 rfl, h1, h2, h3, h4, h5, h6]
 refine hS5.cF (b4s r.wv r.wind (hS5.sl hr.1) (by have := hr.2; omega)) fun H6 hS6 => ?_
 simp (disch := omega) only [↓RA, RZ, simprocAttr, hn, a8J, h1, h2, h3, h4, h5, h6]
 refine ⟨?_, hS6.forget⟩; clear hS1; unfold rankE; (try simp only [eM, dM, dc, decide_eq_true_eq, gZ, fK, decide_eq_false_iff_not] at *); (repeat' split); all_goals first | rfl | omega | simp_all
abbrev KS (kvs : List (ByteArray × Bool)) : List Value := kcs Value.string Value.bool kvs
def qD (kvs : List (ByteArray × Bool)) (s : ByteArray) : Bool := (pM kvs s).getD false
theorem a2T (B : Base) (A : Nat) (kvs : List (ByteArray × Bool)) (s : ByteArray) (hS : St prog B H [⟨.map (some A), 0, KS kvs⟩]) :
 Fn prog 57 [.map (some A), .string s] H fun r H' => r = I (if qD kvs s = true then 9 else 0) ∧ ∃ kvs', (∀ t, qD kvs' t = (qD kvs t || decide (t = s))) ∧ St prog B H' [⟨.map (some A), 0, KS kvs'⟩] := by
 refine .aD func57 rfl (by kernel_rfl) (m := 10) rfl fun l hn g0 g1 => ?_
 simp (disch := omega) only [↓RA, RB, simprocAttr, hn, g0, g1]
 refine hS.bz 0 rfl a6H (fun _ => rfl) ?_
 simp (disch := omega) only [↓RA, RB, simprocAttr, hn]
 refine jE (fun h => ?_) (fun h => ?_)
 ·simp (disch := omega) only [↓RA, RB, simprocAttr, hn, c3P, h]
  refine ⟨by simp [qD, h], kvs, fun t => ?_, hS⟩
  by_cases e : t = s
  ·subst e; simp [qD, h]
  ·simp [e]
 simp (disch := omega) only [↓RA, RB, simprocAttr, hn, g0, g1, h]
 refine hS.ch 0 rfl a6H fun H1 hS1 => ?_
 simp only [RT] at hS1
 simp (disch := omega) only [↓RA, RB, simprocAttr, hn, c3P, h]
 refine ⟨by simp [qD, h], _, fun t => ?_, hS1⟩
 unfold qD
 rw [yW]
 by_cases e : t = s
 ·simp [e]
 ·simp [e]
def qV (lo hi : Int) : Int := if lo < 0 ∨ 127 < hi then 3 else if hi < lo then 23 else 0
theorem a1p (lo hi : Int) : Fn prog 98 [.agg #[I lo, I hi]] H fun r H' => r = I (qV lo hi) ∧ St prog H H' [] := by
 refine .aY func98 rfl (by kernel_rfl) (m := 18) rfl fun l hn g0 => ?_
 simp (disch := omega) only [↓RA, RB, simprocAttr, g0]
 refine (sR H).eNew 2 [I lo, I hi] rfl rfl rfl vX fun A1 H1 hS1 => ?_
 simp only [RT] at hS1
 simp (disch := omega) only [↓RA, RZ, simprocAttr, hn, hS1.ld 0 rfl]
 refine iO (fun h1 => ?_) (fun h1 => ?_)
 ·simp (disch := omega) only [↓RA, RZ, simprocAttr, hn, b8e, h1]
  refine ⟨?_, hS1.forget⟩; unfold qV; (repeat' split); all_goals first | rfl | omega
 simp (disch := omega) only [↓RA, RZ, simprocAttr, hn, hS1.ld 0 rfl, h1]
 refine iA (fun h2 => ?_) (fun h2 => ?_)
 ·simp (disch := omega) only [↓RA, RZ, simprocAttr, hn, b8e, h1, h2]
  refine ⟨?_, hS1.forget⟩; unfold qV; (repeat' split); all_goals first | rfl | omega
 simp (disch := omega) only [↓RA, RZ, simprocAttr, hn, hS1.ld 0 rfl, h1, h2]
 refine iA (fun h3 => ?_) (fun h3 => ?_)
 ·simp (disch := omega) only [↓RA, RZ, simprocAttr, hn, b8e, h1, h2, h3]
  refine ⟨?_, hS1.forget⟩; unfold qV; (repeat' split); all_goals first | rfl | omega
 simp (disch := omega) only [↓RA, RZ, simprocAttr, hn, b8e, h1, h2, h3]
 refine ⟨?_, hS1.forget⟩; unfold qV; (repeat' split); all_goals first | rfl | omega
def lO (f : Nat → Int) (n : Nat) : Int := match (List.range n).find? (fun j => decide (f j ≠ 0)) with | some j => f j | none => 0
theorem oA (f : Nat → Int) (n i : Nat) (hi : i < n) (hp : f i ≠ 0) (h0 : ∀ j, j < i → f j = 0) : lO f n = f i := by
 unfold lO
 rw [vT _ n i hi (by simpa using hp) (fun j hj => by simpa using h0 j hj)]
theorem kU (f : Nat → Int) (n : Nat) (h0 : ∀ j, j < n → f j = 0) : lO f n = 0 := by
 unfold lO
 have : (List.range n).find? (fun j => decide (f j ≠ 0)) = none := by
  rw [gR]
  intro j hj
  simpa using h0 j (dB.1 hj)
 rw [this]
def sG (rs : List Rk) (lo hi : Int) : Int := if 60 < rs.length then 4 else if lO (fun j => rankE (iB rs j)) rs.length ≠ 0 then lO (fun j => rankE (iB rs j)) rs.length else qV lo hi
theorem b4q (rv : Value) (rs : List Rk) (lo hi : Int) (hr : Sl 6 Rk.cells H rv rs) (hrk : ∀ r ∈ rs, r.In H) (hl : rs.length < 1000000000) :
 Fn prog 145 [.agg #[rv, I lo, I hi]] H fun v H' => v = I (sG rs lo hi) ∧ St prog H H' [] := by
 refine .aY func145 rfl (by kernel_rfl) (m := 26) rfl fun l hn g0 => ?_
 simp (disch := omega) only [↓RA, RB, simprocAttr, g0]
 refine (sR H).eNew 3 [rv, I lo, I hi] rfl rfl (by simp [OC, ((sR H).sl hr).cells.2.1]) b0y fun A1 H1 hS1 => ?_
 simp only [RT] at hS1
 simp (disch := omega) only [↓RA, RZ, simprocAttr, hn, hS1.ld 0 rfl, (hS1.sl hr).len]
 refine iA (fun h => ?_) (fun h => ?_)
 ·simp (disch := omega) only [↓RA, RZ, simprocAttr, hn, b6t, h]
  exact ⟨by rw [sG, if_pos (by omega)], hS1.forget⟩
 simp (disch := omega) only [↓RA, RZ, simprocAttr, hn, hS1.ld 0 rfl, (hS1.sl hr).len, h]
 refine Wp.al (fun n l H' => l.length = 26 ∧ get l 1 = (ptr A1 0 3) ∧ get l 11 = rv ∧ get l 12 = I rs.length ∧ ∃ (i : Nat), (n + i = rs.length ∧ ∀ j, j < i → rankE (iB rs j) = 0) ∧ get l 13 = I i ∧ St prog H H' [⟨ptr A1 0 3, 0, [rv, I lo, I hi]⟩]) rs.length ?_ ?_
 ·simp (disch := omega) only [RB, RC, simprocAttr, hn]
  exact ⟨0, ⟨by omega, by simp⟩, rfl, hS1⟩
 rintro n l H2 ⟨hn, g1, g11, g12, i, ⟨hi1,h0⟩, g13, hS2⟩
 simp (disch := omega) only [↓RA, RB, simprocAttr, hn, g12, g13]
 refine iA (fun h1 => ?_) (fun h1 => ?_)
 ·simp (disch := omega) only [↓RA, RZ, simprocAttr, hn, g11, g13, (hS2.sl hr).idx, (hS2.sl hr).ag, Rk.cells, h1]
  refine hS2.eNew 6 [(.string ⟨#[]⟩), (.string ⟨#[]⟩), I 0, I 0, I 0, (.slice none 0 0)] rfl rfl rfl a3c fun A2 H3 hS3 => ?_
  simp only [RT] at hS3
  simp (disch := omega) only [↓RA, RZ, simprocAttr, hn, h1]
  refine hS3.aa 1 rfl [(.string (iB rs i).name), (.string (iB rs i).tone), I (iB rs i).num, I (iB rs i).den, I (iB rs i).first, (iB rs i).wv] rfl (by simp [OC, (hS3.sl (hrk (iB rs i) (iE (by omega))).1).cells.2.1]) a3c (by simp) fun H4 hS4 => ?_
  simp only [RT] at hS4
  simp (disch := omega) only [↓RA, RZ, simprocAttr, hn, hS4.ag 1 rfl, h1]
  refine hS4.cF (b0B (iB rs i) ((hrk _ (iE (by omega))).ab hS4)) fun H5 hS5 => ?_
  simp (disch := omega) only [↓RA, RZ, simprocAttr, hn, h1]
  refine iA (fun h2 => ?_) (fun h2 => ?_)
  ·simp (disch := omega) only [↓RA, RZ, simprocAttr, hn, b6t, h1, h2]
   refine ⟨?_, hS5.forget⟩
   rw [sG, if_neg (by omega), oA _ rs.length i (by omega) h2 h0, if_pos h2]
  simp (disch := omega) only [↓RA, RZ, simprocAttr, hn, g1, g11, g12, g13, h1, h2]
  exact ⟨n - 1, by omega, i + 1, ⟨by omega, fun j hj => by rcases du.1 hj with e | e; (· exact h0 j e); (· rw [e]; exact dG.1 h2)⟩, by simp, hS5.sub (by simp)⟩
 simp (disch := omega) only [↓RA, RZ, simprocAttr, hn, g1, hS2.ag 0 rfl, h1]
 refine hS2.cF (a1p lo hi) fun H6 hS6 => ?_
 simp (disch := omega) only [↓RA, RZ, simprocAttr, hn, b6t, h1]
 refine ⟨?_, hS6.forget⟩
 have e := kU (fun j => rankE (iB rs j)) rs.length fun j hj => h0 j (by omega)
 rw [sG, if_neg (by omega), if_neg (by rw [e]; simp)]
theorem Drw.eq (a b : Drw) : (a.rank = b.rank ∧ a.shift = b.shift) ↔ b = a := by
 cases a; cases b; simp [eq_comm]
theorem b3w (v : Value) (xs : List Drw) (hv : Sl 2 Drw.cells H v xs) (hl : xs.length < 1000000000) (d : Drw) :
 Fn prog 231 [v, .agg #[I d.rank, I d.shift]] H fun r H' => r = I (mZ (fun j => decide (iB xs j = d)) xs.length) ∧ St prog H H' [] := by
 refine .aD func231 rfl (by kernel_rfl) (m := 19) rfl fun l hn g0 g1 => ?_
 simp (disch := omega) only [↓RA, RB, simprocAttr, g1]
 refine (sR H).eNew 2 [I d.rank, I d.shift] rfl rfl rfl a0N fun A1 H1 hS1 => ?_
 simp only [RT] at hS1
 simp (disch := omega) only [↓RA, RZ, simprocAttr, hn, g0, (hS1.sl hv).len]
 refine Wp.al (fun n l H' => l.length = 19 ∧ get l 0 = v ∧ get l 3 = (ptr A1 0 2) ∧ get l 7 = I xs.length ∧ ∃ (j : Nat), (n + j = xs.length ∧ ∀ q, q < j → decide (iB xs q = d) = false) ∧ get l 8 = I j ∧ St prog H H' [⟨ptr A1 0 2, 0, [I d.rank, I d.shift]⟩]) xs.length ?_ ?_
 ·simp (disch := omega) only [RB, RC, simprocAttr, hn, g0]
  exact ⟨0, ⟨by omega, fun q hq => absurd hq (dL _)⟩, rfl, hS1⟩
 rintro n l H2 ⟨hn, g0, g3, g7, j, ⟨hi,h0⟩, g8, hS2⟩
 simp (disch := omega) only [↓RA, RB, simprocAttr, hn, g7, g8]
 refine iA (fun h => ?_) (fun h => ?_)
 ·simp (disch := omega) only [↓RA, RZ, simprocAttr, hn, g8, h]
  refine Wp.drw jZ (by kernel_rfl) ?_
  simp (disch := omega) only [↓RA, RZ, simprocAttr, hn, g0, g3, hS2.ag 0 rfl, (hS2.sl hv).idx, (hS2.sl hv).ag, Drw.cells]
  refine iA (fun hp => ?_) (fun hp => ?_)
  ·simp (disch := omega) only [↓RA, RZ, simprocAttr, hn, c0p, hp]
   exact ⟨by rw [vG _ xs.length j (by omega) (by simpa using (Drw.eq _ _).1 hp) h0], hS2.forget⟩
  simp (disch := omega) only [↓RA, RZ, simprocAttr, hn, g0, g3, g7, g8, hp]
  exact ⟨n - 1, by omega, j + 1, ⟨by omega, fun q hq => by rcases du.1 hq with e | e; (· exact h0 q e); (· rw [e]; simpa using fun hh => hp ((Drw.eq _ _).2 hh))⟩, by simp, hS2⟩
 simp (disch := omega) only [↓RA, RZ, simprocAttr, hn, c0p, h]
 exact ⟨by rw [vA _ xs.length fun q hq => h0 q (by omega)], hS2.forget⟩
theorem b9l (v : Value) (xs : List Drw) (hv : Sl 2 Drw.cells H v xs) (hl : xs.length < 1000000000) (d : Drw) :
 Fn prog 193 [v, .agg #[I d.rank, I d.shift]] H fun r H' => r = .bool (decide (d ∈ xs)) ∧ St prog H H' [] := by
 have e : decide (0 ≤ mZ (fun j => decide (iB xs j = d)) xs.length) = decide (d ∈ xs) := by
  rw [eG, decide_eq_true_iff, decide_eq_true_iff, xN]
  constructor
  ·rintro ⟨j, hj, hp⟩
   rw [← of_decide_eq_true hp]; exact iE hj
  ·intro hx
   obtain ⟨j, hj, rfl⟩ := dR.1 hx
   exact ⟨j, hj, by rw [jR xs j hj]; simp⟩
 refine .aD func193 rfl (by kernel_rfl) (m := 9) rfl fun l hn g0 g1 => ?_
 simp (disch := omega) only [↓RA, RB, simprocAttr, g1]
 refine (sR H).eNew 2 [I d.rank, I d.shift] rfl rfl rfl a0N fun A1 H1 hS1 => ?_
 simp only [RT] at hS1
 simp (disch := omega) only [↓RA, RZ, simprocAttr, hn, g0, hS1.ag 0 rfl]
 refine hS1.cF (b3w v xs (hS1.sl hv) hl d) fun H2 hS2 => ?_
 simp (disch := omega) only [↓RA, RB, simprocAttr, hn, c4H]
 rw [← e]
 first | exact hS2.forget | exact ⟨rfl, hS2.forget⟩
def kK (m : Nat) (l : List Drw) (j : Nat) : Int := if (iB l j).rank < 0 ∨ m ≤ (iB l j).rank then 10 else if (iB l j).shift < -127 ∨ 127 < (iB l j).shift then 3 else if iB l j ∈ l.take j then 9 else 0
def lK (m : Nat) (l : List Drw) : Int := if 8 < l.length then 4 else lO (kK m l) l.length
theorem a6k (rv : Value) (rs : List Rk) (lo hi : Int) (hr : Sl 6 Rk.cells H rv rs) (hl : rs.length < 1000000000) (dv : Value) (ds : List Drw) (hd : Sl 2 Drw.cells H dv ds) (hl2 : ds.length < 1000000000) :
 Fn prog 146 [.agg #[rv, I lo, I hi], dv] H fun v H' => v = I (lK rs.length ds) ∧ St prog H H' [] := by
 refine .aD func146 rfl (by kernel_rfl) (m := 45) rfl fun l hn g0 g1 => ?_
 simp (disch := omega) only [↓RA, RB, simprocAttr, g0]
 refine (sR H).eNew 3 [rv, I lo, I hi] rfl rfl (by simp [OC, ((sR H).sl hr).cells.2.1]) b0y fun A1 H1 hS1 => ?_
 simp only [RT] at hS1
 simp (disch := omega) only [↓RA, RZ, simprocAttr, hn, g1, (hS1.sl hd).len]
 refine iA (fun h => ?_) (fun h => ?_)
 ·simp (disch := omega) only [↓RA, RZ, simprocAttr, hn, a2m, h]
  exact ⟨by rw [lK, if_pos (by omega)], hS1.forget⟩
 simp (disch := omega) only [↓RA, RZ, simprocAttr, hn, g1, (hS1.sl hd).len, h]
 refine Wp.al (fun n l H' => l.length = 45 ∧ get l 1 = dv ∧ get l 2 = (ptr A1 0 3) ∧ get l 10 = dv ∧ get l 11 = I ds.length ∧ ∃ (i : Nat), (n + i = ds.length ∧ ∀ j, j < i → kK rs.length ds j = 0) ∧ get l 12 = I i ∧ St prog H H' [⟨ptr A1 0 3, 0, [rv, I lo, I hi]⟩]) ds.length ?_ ?_
 ·simp (disch := omega) only [RB, RC, simprocAttr, hn, g1]
  exact ⟨0, ⟨by omega, by simp⟩, rfl, hS1⟩
 rintro n l H2 ⟨hn, g1, g2, rE, g11, i, ⟨hi1,h0⟩, g12, hS2⟩
 simp (disch := omega) only [↓RA, RB, simprocAttr, hn, g11, g12]
 refine iA (fun h1 => ?_) (fun h1 => ?_)
 ·have key : kK rs.length ds i ≠ 0 → lK rs.length ds = kK rs.length ds i := fun hne => by rw [lK, if_neg (by omega), oA _ ds.length i (by omega) hne h0]
  simp (disch := omega) only [↓RA, RZ, simprocAttr, hn, rE, g12, (hS2.sl hd).idx, (hS2.sl hd).ag, Drw.cells, h1]
  refine hS2.eNew 2 [I 0, I 0] rfl rfl rfl a0N fun A2 H3 hS3 => ?_
  simp only [RT] at hS3
  simp (disch := omega) only [↓RA, RZ, simprocAttr, hn, h1]
  refine hS3.aa 1 rfl [I (iB ds i).rank, I (iB ds i).shift] rfl rfl a0N (by simp) fun H4 hS4 => ?_
  simp only [RT] at hS4
  simp (disch := omega) only [↓RA, RZ, simprocAttr, hn, hS4.ld 1 rfl, h1]
  refine iO (fun h1 => ?_) (fun h1 => ?_)
  ·simp (disch := omega) only [↓RA, RZ, simprocAttr, hn, a2m, h1]
   (first | (have e1 : kK rs.length ds i = 10 := by rw [kK, if_pos (by omega)]); exact ⟨by rw [key (by rw [e1]; decide), e1], hS4.forget⟩ | (have e1 : kK rs.length ds i = 3 := by rw [kK, if_neg (by omega), if_pos (by omega)]); exact ⟨by rw [key (by rw [e1]; decide), e1], hS4.forget⟩ | (have e1 : kK rs.length ds i = 9 := by rw [kK, if_neg (by omega), if_neg (by omega), if_pos (by simp_all)]); exact ⟨by rw [key (by rw [e1]; decide), e1], hS4.forget⟩)
  simp (disch := omega) only [↓RA, RZ, simprocAttr, hn, g2, hS4.ld 1 rfl, hS4.ld 0 rfl, (hS4.sl hr).len, h1]
  refine iA (fun h2 => ?_) (fun h2 => ?_)
  ·simp (disch := omega) only [↓RA, RZ, simprocAttr, hn, a2m, h1, h2]
   (first | (have e1 : kK rs.length ds i = 10 := by rw [kK, if_pos (by omega)]); exact ⟨by rw [key (by rw [e1]; decide), e1], hS4.forget⟩ | (have e1 : kK rs.length ds i = 3 := by rw [kK, if_neg (by omega), if_pos (by omega)]); exact ⟨by rw [key (by rw [e1]; decide), e1], hS4.forget⟩ | (have e1 : kK rs.length ds i = 9 := by rw [kK, if_neg (by omega), if_neg (by omega), if_pos (by simp_all)]); exact ⟨by rw [key (by rw [e1]; decide), e1], hS4.forget⟩)
  simp (disch := omega) only [↓RA, RZ, simprocAttr, hn, hS4.ld 1 rfl, h1, h2]
  refine iO (fun h3 => ?_) (fun h3 => ?_)
  ·simp (disch := omega) only [↓RA, RZ, simprocAttr, hn, a2m, h1, h2, h3]
   (first | (have e1 : kK rs.length ds i = 10 := by rw [kK, if_pos (by omega)]); exact ⟨by rw [key (by rw [e1]; decide), e1], hS4.forget⟩ | (have e1 : kK rs.length ds i = 3 := by rw [kK, if_neg (by omega), if_pos (by omega)]); exact ⟨by rw [key (by rw [e1]; decide), e1], hS4.forget⟩ | (have e1 : kK rs.length ds i = 9 := by rw [kK, if_neg (by omega), if_neg (by omega), if_pos (by simp_all)]); exact ⟨by rw [key (by rw [e1]; decide), e1], hS4.forget⟩)
  simp (disch := omega) only [↓RA, RZ, simprocAttr, hn, hS4.ld 1 rfl, h1, h2, h3]
  refine iA (fun h4 => ?_) (fun h4 => ?_)
  ·simp (disch := omega) only [↓RA, RZ, simprocAttr, hn, a2m, h1, h2, h3, h4]
   (first | (have e1 : kK rs.length ds i = 10 := by rw [kK, if_pos (by omega)]); exact ⟨by rw [key (by rw [e1]; decide), e1], hS4.forget⟩ | (have e1 : kK rs.length ds i = 3 := by rw [kK, if_neg (by omega), if_pos (by omega)]); exact ⟨by rw [key (by rw [e1]; decide), e1], hS4.forget⟩ | (have e1 : kK rs.length ds i = 9 := by rw [kK, if_neg (by omega), if_neg (by omega), if_pos (by simp_all)]); exact ⟨by rw [key (by rw [e1]; decide), e1], hS4.forget⟩)
  simp (disch := omega) only [↓RA, RZ, simprocAttr, h1, h2, h3, h4]
  refine Wp.drw jZ (by kernel_rfl) ?_
  simp (disch := omega) only [↓RA, RZ, simprocAttr, hn, g1, (hS4.sl hd).aM, hS4.ag 1 rfl]
  refine hS4.cF (b9l _ (ds.take i) ((hS4.sl hd).cD i (by omega) (by omega)) (by simp; omega) (iB ds i)) fun H5 hS5 => ?_
  simp (disch := omega) only [↓RA, RB, simprocAttr, hn]
  refine iA (fun h5 => ?_) (fun h5 => ?_)
  ·simp (disch := omega) only [↓RA, RZ, simprocAttr, hn, a2m, h5]
   (first | (have e1 : kK rs.length ds i = 10 := by rw [kK, if_pos (by omega)]); exact ⟨by rw [key (by rw [e1]; decide), e1], hS5.forget⟩ | (have e1 : kK rs.length ds i = 3 := by rw [kK, if_neg (by omega), if_pos (by omega)]); exact ⟨by rw [key (by rw [e1]; decide), e1], hS5.forget⟩ | (have e1 : kK rs.length ds i = 9 := by rw [kK, if_neg (by omega), if_neg (by omega), if_pos (by simp_all)]); exact ⟨by rw [key (by rw [e1]; decide), e1], hS5.forget⟩)
  simp (disch := omega) only [↓RA, RZ, simprocAttr, hn, g1, g2, rE, g11, g12, h5]
  have e0 : kK rs.length ds i = 0 := by rw [kK, if_neg (by omega), if_neg (by omega), if_neg (by simp_all)]
  exact ⟨n - 1, by omega, i + 1, ⟨by omega, fun j hj => by rcases du.1 hj with e | e; (· exact h0 j e); (· rw [e]; exact e0)⟩, by simp, hS5.sub (by simp)⟩
 simp (disch := omega) only [↓RA, RZ, simprocAttr, hn, a2m, h1]
 exact ⟨by rw [lK, if_neg (by omega), kU _ _ fun j hj => h0 j (by omega)], hS2.forget⟩
def lA (lo hi : Int) (m : Nat) (gs : List Seg) (j : Nat) : Int := if min (iB gs j).lo (iB gs j).hi < lo ∨ hi < max (iB gs j).lo (iB gs j).hi then 23 else if (iB gs j).hi < (iB gs j).lo ∨ (0 < j ∧ (iB gs j).lo ≤ (iB gs (j - 1)).hi) then 6 else lK m (iB gs j).draws
def stopE (rs : List Rk) (lo hi : Int) (s : Stp) : Int := if sG rs lo hi ≠ 0 then sG rs lo hi else if kY s.name = false then 8 else if nE s.num s.den ≠ 0 then nE s.num s.den else if s.segs.length = 0 then 13 else if 12 < s.segs.length then 4 else lO (lA lo hi rs.length s.segs) s.segs.length
theorem b9f (rv : Value) (rs : List Rk) (lo hi : Int) (hr : Sl 6 Rk.cells H rv rs) (hrk : ∀ r ∈ rs, r.In H) (hl : rs.length < 1000000000) (s : Stp) (hs : s.In H) :
 Fn prog 108 [.agg #[rv, I lo, I hi], .agg #[.string s.name, I s.num, I s.den, s.gv]] H fun v H' => v = I (stopE rs lo hi s) ∧ St prog H H' [] := by
 have hl2 := hs.2.2
 refine .aD func108 rfl (by kernel_rfl) (m := 94) rfl fun l hn g0 g1 => ?_
 simp (disch := omega) only [↓RA, RB, simprocAttr, g0]
 refine (sR H).eNew 3 [rv, I lo, I hi] rfl rfl (by simp [OC, ((sR H).sl hr).cells.2.1]) b0y fun A1 H1 hS1 => ?_
 simp only [RT] at hS1
 simp (disch := omega) only [↓RA, RB, simprocAttr, g1]
 refine hS1.eNew 4 [(.string s.name), I s.num, I s.den, s.gv] rfl rfl (by simp [OC, (hS1.sl hs.1).cells.2.1]) mY fun A2 H2 hS2 => ?_
 simp only [RT] at hS2
 simp (disch := omega) only [↓RA, RZ, simprocAttr, hn, hS2.ag 0 rfl]
 refine hS2.cF (b4q rv rs lo hi (hS2.sl hr) (fun r h => (hrk r h).ab hS2) hl) fun H3 hS3 => ?_
 simp (disch := omega) only [↓RA, RB, simprocAttr, hn]
 refine iA (fun p1 => ?_) (fun p1 => ?_)
 ·simp (disch := omega) only [↓RA, RZ, simprocAttr, hn, tJ, p1]
  exact ⟨by rw [stopE, if_pos p1], hS3.forget⟩
 simp (disch := omega) only [↓RA, RZ, simprocAttr, hn, hS3.ld 1 rfl, p1]
 refine hS3.cF (qK s.name) fun H4 hS4 => ?_
 simp (disch := omega) only [↓RA, RZ, simprocAttr, hn, p1]
 refine jE (fun p2 => ?_) (fun p2 => ?_)
 ·simp (disch := omega) only [↓RA, RZ, simprocAttr, hn, tJ, p1, p2]
  exact ⟨by rw [stopE, if_neg p1, if_pos (by simpa using p2)], hS4.forget⟩
 have p2' : ¬ kY s.name = false := by simpa using p2
 simp (disch := omega) only [↓RA, RZ, simprocAttr, hn, hS4.ag 1 rfl, p1, p2]
 refine hS4.cF (a1q s.num s.den) fun H5 hS5 => ?_
 simp (disch := omega) only [↓RA, RZ, simprocAttr, hn, p1, p2]
 refine iA (fun p3 => ?_) (fun p3 => ?_)
 ·simp (disch := omega) only [↓RA, RZ, simprocAttr, hn, tJ, p1, p2, p3]
  exact ⟨by rw [stopE, if_neg p1, if_neg p2', if_pos p3], hS5.forget⟩
 simp (disch := omega) only [↓RA, RZ, simprocAttr, hn, hS5.ld 1 rfl, (hS5.sl hs.1).len, p1, p2, p3]
 refine iA (fun p4 => ?_) (fun p4 => ?_)
 ·simp (disch := omega) only [↓RA, RZ, simprocAttr, hn, tJ, p1, p2, p3, p4]
  exact ⟨by rw [stopE, if_neg p1, if_neg p2', if_neg p3, if_pos (by omega)], hS5.forget⟩
 simp (disch := omega) only [↓RA, RZ, simprocAttr, hn, hS5.ld 1 rfl, (hS5.sl hs.1).len, p1, p2, p3, p4]
 refine iA (fun p5 => ?_) (fun p5 => ?_)
 ·simp (disch := omega) only [↓RA, RZ, simprocAttr, hn, tJ, p1, p2, p3, p4, p5]
  exact ⟨by rw [stopE, if_neg p1, if_neg p2', if_neg p3, if_neg (by omega), if_pos (by omega)], hS5.forget⟩
 have hE : stopE rs lo hi s = lO (lA lo hi rs.length s.segs) s.segs.length := by rw [stopE, if_neg p1, if_neg p2', if_neg p3, if_neg (by omega), if_neg (by omega)]
 simp (disch := omega) only [↓RA, RZ, simprocAttr, hn, hS5.ld 1 rfl, (hS5.sl hs.1).len, p1, p2, p3, p4, p5]
 refine Wp.al (fun n l H' => l.length = 94 ∧ get l 2 = (ptr A1 0 3) ∧ get l 3 = (ptr A2 0 4) ∧ get l 36 = s.gv ∧ get l 37 = I s.segs.length ∧ ∃ (i : Nat), (n + i = s.segs.length ∧ ∀ j, j < i → lA lo hi rs.length s.segs j = 0) ∧ get l 38 = I i ∧ St prog H H' [⟨ptr A1 0 3, 0, [rv, I lo, I hi]⟩, ⟨ptr A2 0 4, 0, [(.string s.name), I s.num, I s.den, s.gv]⟩]) s.segs.length ?_ ?_
 ·simp (disch := omega) only [RB, RC, simprocAttr, hn]
  exact ⟨0, ⟨by omega, by simp⟩, rfl, hS5⟩
 rintro n l H6 ⟨hn, g2, g3, g36, g37, i, ⟨hi1,h0⟩, g38, hS6⟩
 simp (disch := omega) only [↓RA, RB, simprocAttr, hn, g37, g38]
 refine iA (fun q1 => ?_) (fun q1 => ?_)
 ·have key : lA lo hi rs.length s.segs i ≠ 0 → stopE rs lo hi s = lA lo hi rs.length s.segs i := fun hne => by rw [hE, oA _ _ i (by omega) hne h0]
  have ei : ((i : Int) - 1).toNat = i - 1 := by omega
  simp (disch := omega) only [↓RA, RZ, simprocAttr, hn, g36, g38, (hS6.sl hs.1).idx, (hS6.sl hs.1).ag, Seg.cells, q1]
  refine hS6.eNew 3 [I 0, I 0, (.slice none 0 0)] rfl rfl rfl a2B fun A3 H7 hS7 => ?_
  simp only [RT] at hS7
  simp (disch := omega) only [↓RA, RZ, simprocAttr, hn, q1]
  refine hS7.aa 2 rfl [I (iB s.segs i).lo, I (iB s.segs i).hi, (iB s.segs i).dv] rfl (by simp [OC, (hS7.sl (hs.2.1 (iB s.segs i) (iE (by omega))).1).cells.2.1]) a2B (by simp) fun H8 hS8 => ?_
  simp only [RT] at hS8
  simp (disch := omega) only [↓RA, RZ, simprocAttr, hn, g2, hS8.ld 2 rfl, hS8.ld 0 rfl, q1]
  refine iO (fun h1 => ?_) (fun h1 => ?_)
  ·simp (disch := omega) only [↓RA, RZ, simprocAttr, hn, tJ, q1, h1]
   (first | (have e1 : lA lo hi rs.length s.segs i = 23 := by rw [lA, if_pos (by omega)]); exact ⟨by rw [key (by rw [e1]; decide), e1], hS8.forget⟩ | (have e1 : lA lo hi rs.length s.segs i = 6 := by rw [lA, if_neg (by omega), if_pos (by omega)]); exact ⟨by rw [key (by rw [e1]; decide), e1], hS8.forget⟩ | (have e1 : lA lo hi rs.length s.segs i = lK rs.length (iB s.segs i).draws := by rw [lA, if_neg (by omega), if_neg (by omega)]); exact ⟨by rw [key (by rw [e1]; assumption), e1], hS8.forget⟩)
  simp (disch := omega) only [↓RA, RZ, simprocAttr, hn, g2, hS8.ld 2 rfl, hS8.ld 0 rfl, q1, h1]
  refine iA (fun h2 => ?_) (fun h2 => ?_)
  ·simp (disch := omega) only [↓RA, RZ, simprocAttr, hn, tJ, q1, h1, h2]
   (first | (have e1 : lA lo hi rs.length s.segs i = 23 := by rw [lA, if_pos (by omega)]); exact ⟨by rw [key (by rw [e1]; decide), e1], hS8.forget⟩ | (have e1 : lA lo hi rs.length s.segs i = 6 := by rw [lA, if_neg (by omega), if_pos (by omega)]); exact ⟨by rw [key (by rw [e1]; decide), e1], hS8.forget⟩ | (have e1 : lA lo hi rs.length s.segs i = lK rs.length (iB s.segs i).draws := by rw [lA, if_neg (by omega), if_neg (by omega)]); exact ⟨by rw [key (by rw [e1]; assumption), e1], hS8.forget⟩)
  simp (disch := omega) only [↓RA, RZ, simprocAttr, q1, h1, h2]
  refine Wp.drw jZ (by kernel_rfl) ?_
  simp (disch := omega) only [↓RA, RZ, simprocAttr, hn, hS8.ld 2 rfl]
  refine iO (fun h3 => ?_) (fun h3 => ?_)
  ·simp (disch := omega) only [↓RA, RZ, simprocAttr, hn, tJ, h3]
   (first | (have e1 : lA lo hi rs.length s.segs i = 23 := by rw [lA, if_pos (by omega)]); exact ⟨by rw [key (by rw [e1]; decide), e1], hS8.forget⟩ | (have e1 : lA lo hi rs.length s.segs i = 6 := by rw [lA, if_neg (by omega), if_pos (by omega)]); exact ⟨by rw [key (by rw [e1]; decide), e1], hS8.forget⟩ | (have e1 : lA lo hi rs.length s.segs i = lK rs.length (iB s.segs i).draws := by rw [lA, if_neg (by omega), if_neg (by omega)]); exact ⟨by rw [key (by rw [e1]; assumption), e1], hS8.forget⟩)
  simp (disch := omega) only [↓RA, RZ, simprocAttr, hn, h3]
  refine kA (fun h4 => ?_) (fun h4 => ?_)
  ·simp (disch := omega) only [↓RA, RZ, simprocAttr, hn, g3, hS8.ld 2 rfl, hS8.ld 1 rfl, (hS8.sl hs.1).idx, (hS8.sl hs.1).bh, (hS8.sl hs.1).ld, Seg.cells, ei, h3, h4]
   refine iA (fun h5 => ?_) (fun h5 => ?_)
   ·simp (disch := omega) only [↓RA, RZ, simprocAttr, hn, tJ, h3, h4, h5]
    (first | (have e1 : lA lo hi rs.length s.segs i = 23 := by rw [lA, if_pos (by omega)]); exact ⟨by rw [key (by rw [e1]; decide), e1], hS8.forget⟩ | (have e1 : lA lo hi rs.length s.segs i = 6 := by rw [lA, if_neg (by omega), if_pos (by omega)]); exact ⟨by rw [key (by rw [e1]; decide), e1], hS8.forget⟩ | (have e1 : lA lo hi rs.length s.segs i = lK rs.length (iB s.segs i).draws := by rw [lA, if_neg (by omega), if_neg (by omega)]); exact ⟨by rw [key (by rw [e1]; assumption), e1], hS8.forget⟩)
   simp (disch := omega) only [↓RA, RZ, simprocAttr, hn, g2, hS8.ag 0 rfl, hS8.ld 2 rfl, h3, h4, h5]
   refine hS8.cF (a6k rv rs lo hi (hS8.sl hr) hl _ _ (hS8.sl (hs.2.1 _ (iE (by omega))).1) (hs.2.1 _ (iE (by omega))).2) fun H9 hS9 => ?_
   simp (disch := omega) only [↓RA, RZ, simprocAttr, hn, h3, h4, h5]
   refine iA (fun h6 => ?_) (fun h6 => ?_)
   ·simp (disch := omega) only [↓RA, RZ, simprocAttr, hn, tJ, h3, h4, h5, h6]
    (first | (have e1 : lA lo hi rs.length s.segs i = 23 := by rw [lA, if_pos (by omega)]); exact ⟨by rw [key (by rw [e1]; decide), e1], hS9.forget⟩ | (have e1 : lA lo hi rs.length s.segs i = 6 := by rw [lA, if_neg (by omega), if_pos (by omega)]); exact ⟨by rw [key (by rw [e1]; decide), e1], hS9.forget⟩ | (have e1 : lA lo hi rs.length s.segs i = lK rs.length (iB s.segs i).draws := by rw [lA, if_neg (by omega), if_neg (by omega)]); exact ⟨by rw [key (by rw [e1]; assumption), e1], hS9.forget⟩)
   simp (disch := omega) only [↓RA, RZ, simprocAttr, hn, g2, g3, g36, g37, g38, h3, h4, h5, h6]
   have e0 : lA lo hi rs.length s.segs i = 0 := by rw [lA, if_neg (by omega), if_neg (by omega)]; omega
   exact ⟨n - 1, by omega, i + 1, ⟨by omega, fun j hj => by rcases du.1 hj with e | e; (· exact h0 j e); (· rw [e]; exact e0)⟩, by simp, hS9.sub (by simp)⟩
  simp (disch := omega) only [↓RA, RZ, simprocAttr, hn, g2, hS8.ag 0 rfl, hS8.ld 2 rfl, h3, h4]
  refine hS8.cF (a6k rv rs lo hi (hS8.sl hr) hl _ _ (hS8.sl (hs.2.1 _ (iE (by omega))).1) (hs.2.1 _ (iE (by omega))).2) fun H10 hS10 => ?_
  simp (disch := omega) only [↓RA, RZ, simprocAttr, hn, h3, h4]
  refine iA (fun h7 => ?_) (fun h7 => ?_)
  ·simp (disch := omega) only [↓RA, RZ, simprocAttr, hn, tJ, h3, h4, h7]
   (first | (have e1 : lA lo hi rs.length s.segs i = 23 := by rw [lA, if_pos (by omega)]); exact ⟨by rw [key (by rw [e1]; decide), e1], hS10.forget⟩ | (have e1 : lA lo hi rs.length s.segs i = 6 := by rw [lA, if_neg (by omega), if_pos (by omega)]); exact ⟨by rw [key (by rw [e1]; decide), e1], hS10.forget⟩ | (have e1 : lA lo hi rs.length s.segs i = lK rs.length (iB s.segs i).draws := by rw [lA, if_neg (by omega), if_neg (by omega)]); exact ⟨by rw [key (by rw [e1]; assumption), e1], hS10.forget⟩)
  simp (disch := omega) only [↓RA, RZ, simprocAttr, hn, g2, g3, g36, g37, g38, h3, h4, h7]
  have e0 : lA lo hi rs.length s.segs i = 0 := by rw [lA, if_neg (by omega), if_neg (by omega)]; omega
  exact ⟨n - 1, by omega, i + 1, ⟨by omega, fun j hj => by rcases du.1 hj with e | e; (· exact h0 j e); (· rw [e]; exact e0)⟩, by simp, hS10.sub (by simp)⟩
 simp (disch := omega) only [↓RA, RZ, simprocAttr, hn, tJ, q1]
 exact ⟨by rw [hE, kU _ _ fun j hj => h0 j (by omega)], hS6.forget⟩
theorem b7r (v : Value) (xs : List Cpl) (hv : Sl 5 Cpl.cells H v xs) (hl : xs.length < 1000000000) (k : FuncId) (caps : List Value) (p : Nat → Bool)
 (hf : ∀ j H1, j < xs.length → St prog H H1 [] → Fn prog k (.agg #[.string (iB xs j).name, I (iB xs j).src, I (iB xs j).dst, I (iB xs j).shift, .bool (iB xs j).thr] :: caps) H1 fun r H2 => r = .bool (p j) ∧ St prog H1 H2 []) :
 Fn prog 147 [v, .func (.func k) #[] caps.toArray] H fun r H' => r = I (mZ p xs.length) ∧ St prog H H' [] := by
 refine .aD func147 rfl (by kernel_rfl) (m := 19) rfl fun l hn g0 g1 => ?_
 simp (disch := omega) only [↓RA, RZ, simprocAttr, hn, g0, ((sR H).sl hv).len]
 refine Wp.al (fun n l H' => l.length = 19 ∧ get l 0 = v ∧ get l 1 = .func (.func k) #[] caps.toArray ∧ get l 7 = I xs.length ∧ ∃ (j : Nat), (n + j = xs.length ∧ ∀ q, q < j → p q = false) ∧ get l 8 = I j ∧ St prog H H' []) xs.length ?_ ?_
 ·simp (disch := omega) only [RB, RC, simprocAttr, hn, g0, g1]
  exact ⟨0, ⟨by omega, fun q hq => absurd hq (dL _)⟩, rfl, (sR H)⟩
 rintro n l H1 ⟨hn, g0, g1, g7, j, ⟨hi,h0⟩, g8, hS1⟩
 simp (disch := omega) only [↓RA, RB, simprocAttr, hn, g7, g8]
 refine iA (fun h => ?_) (fun h => ?_)
 ·simp (disch := omega) only [↓RA, RZ, simprocAttr, hn, g0, g1, g8, (hS1.sl hv).idx, (hS1.sl hv).ag, Cpl.cells, h]
  refine hS1.cF (hf j _ (by omega) hS1) fun H2 hS2 => ?_
  simp (disch := omega) only [↓RA, RZ, simprocAttr, hn, h]
  refine jE (fun hp => ?_) (fun hp => ?_)
  ·simp (disch := omega) only [↓RA, RZ, simprocAttr, hn, b9E, h, hp]
   exact ⟨by rw [vG p xs.length j (by omega) hp h0], hS2⟩
  simp (disch := omega) only [↓RA, RZ, simprocAttr, hn, g0, g1, g7, g8, h, hp]
  exact ⟨n - 1, by omega, j + 1, ⟨by omega, fun q hq => by rcases du.1 hq with e | e; (· exact h0 q e); (· rw [e]; exact hp)⟩, by simp, hS2⟩
 simp (disch := omega) only [↓RA, RZ, simprocAttr, hn, b9E, h]
 exact ⟨by rw [vA p xs.length fun q hq => h0 q (by omega)], hS1⟩
theorem b8B (v : Value) (xs : List Cpl) (hv : Sl 5 Cpl.cells H v xs) (hl : xs.length < 1000000000) (k : FuncId) (caps : List Value) (p : Nat → Bool)
 (hf : ∀ j H1, j < xs.length → St prog H H1 [] → Fn prog k (.agg #[.string (iB xs j).name, I (iB xs j).src, I (iB xs j).dst, I (iB xs j).shift, .bool (iB xs j).thr] :: caps) H1 fun r H2 => r = .bool (p j) ∧ St prog H1 H2 []) :
 Fn prog 109 [v, .func (.func k) #[] caps.toArray] H fun r H' => r = .bool (decide (0 ≤ mZ p xs.length)) ∧ St prog H H' [] := by
 refine .aD func109 rfl (by kernel_rfl) (m := 9) rfl fun l hn g0 g1 => ?_
 simp (disch := omega) only [↓RA, RZ, simprocAttr, hn, g0, g1]
 refine (sR H).cF (b7r v xs hv hl k caps p hf) fun H1 hS1 => ?_
 simp (disch := omega) only [↓RA, RZ, simprocAttr, hn, c4R]
 first | exact hS1 | exact ⟨rfl, hS1⟩
theorem a8E (c : Cpl) (A : Nat) (d : Cpl) (hA : Var H A 5 d.cells) : Fn prog 110 [.agg #[.string c.name, I c.src, I c.dst, I c.shift, .bool c.thr], ptr A 0 5] H fun r H' => r = .bool (decide (c.name = d.name)) ∧ St prog H H' [] := by
 refine .aD func110 rfl (by kernel_rfl) (m := 9) rfl fun l hn g0 g1 => ?_
 simp (disch := omega) only [↓RA, RB, simprocAttr, g0]
 refine (sR H).eNew 5 [(.string c.name), I c.src, I c.dst, I c.shift, (.bool c.thr)] rfl rfl rfl wA fun A1 H1 hS1 => ?_
 simp only [RT] at hS1
 simp (disch := omega) only [↓RA, RZ, simprocAttr, hn, g1, hS1.ld 0 rfl, (hS1.va hA).ld, c3l, Cpl.cells]
 first | exact hS1.forget | exact ⟨rfl, hS1.forget⟩
def mR (m : Nat) (cs : List Cpl) (j : Nat) : Int :=
 let c := iB cs j
 if kY c.name = false then 8 else if ∃ q, q < j ∧ (iB cs q).name = c.name then 9 else if c.src < 0 ∨ m ≤ c.src ∨ c.dst < 0 ∨ m ≤ c.dst then 10 else if c.shift < -127 ∨ 127 < c.shift then 3 else if c.src = c.dst ∧ c.shift = 0 then 7 else 0
def tM (ks : List (Int × Int)) (cs : List Cpl) : Int := if 8 < ks.length ∨ 40 < cs.length then 4 else if ∃ k ∈ ks, qV k.1 k.2 ≠ 0 then 23 else lO (mR ks.length cs) cs.length
def kpc (k : Int × Int) : List Value := [I k.1, I k.2]
theorem a6L {α : Type} [Inhabited α] (xs : List α) (i j : Nat) (h : j < i) : iB (xs.take i) j = iB xs j := by
 unfold iB
 rw [dg, dg, dY h]
theorem a7s (kv cv : Value) (ks : List (Int × Int)) (cs : List Cpl) (hk : Sl 2 kpc H kv ks) (hc : Sl 5 Cpl.cells H cv cs) (hl : ks.length < 1000000000) (hl2 : cs.length < 1000000000) :
 Fn prog 59 [kv, cv] H fun v H' => v = I (tM ks cs) ∧ St prog H H' [] := by
 refine .aD func59 rfl (by kernel_rfl) (m := 89) rfl fun l hn g0 g1 => ?_
 simp (disch := omega) only [↓RA, RZ, simprocAttr, hn, g0, ((sR H).sl hk).len]
 refine iO (fun p1 => ?_) (fun p1 => ?_)
 ·simp (disch := omega) only [↓RA, RZ, simprocAttr, hn, zV, p1]
  exact ⟨by rw [tM, if_pos (by omega)], (sR H)⟩
 simp (disch := omega) only [↓RA, RZ, simprocAttr, hn, g1, ((sR H).sl hc).len, p1]
 refine iA (fun p2 => ?_) (fun p2 => ?_)
 ·simp (disch := omega) only [↓RA, RZ, simprocAttr, hn, zV, p1, p2]
  exact ⟨by rw [tM, if_pos (by omega)], (sR H)⟩
 simp (disch := omega) only [↓RA, RZ, simprocAttr, hn, g0, ((sR H).sl hk).len, p1, p2]
 refine Wp.al (fun n l H' => l.length = 89 ∧ get l 0 = kv ∧ get l 1 = cv ∧ get l 17 = kv ∧ get l 18 = I ks.length ∧ ∃ (i : Nat), (n + i = ks.length ∧ ∀ j, j < i → qV (iB ks j).1 (iB ks j).2 = 0) ∧ get l 19 = I i ∧ St prog H H' []) ks.length ?_ ?_
 ·simp (disch := omega) only [RB, RC, simprocAttr, hn, g0, g1]
  exact ⟨0, ⟨by omega, by simp⟩, rfl, (sR H)⟩
 rintro n l H1 ⟨hn, g0, g1, g17, g18, i, ⟨hi1,h0⟩, g19, hS1⟩
 simp (disch := omega) only [↓RA, RB, simprocAttr, hn, g18, g19]
 refine iA (fun p3 => ?_) (fun p3 => ?_)
 ·simp (disch := omega) only [↓RA, RZ, simprocAttr, hn, g17, g19, (hS1.sl hk).idx, (hS1.sl hk).ag, kpc, p3]
  refine hS1.eNew 2 [I 0, I 0] rfl rfl rfl vX fun A1 H2 hS2 => ?_
  simp only [RT] at hS2
  simp (disch := omega) only [↓RA, RZ, simprocAttr, hn, p3]
  refine hS2.aa 0 rfl [I (iB ks i).1, I (iB ks i).2] rfl rfl vX (by simp) fun H3 hS3 => ?_
  simp only [RT] at hS3
  simp (disch := omega) only [↓RA, RZ, simprocAttr, hn, hS3.ag 0 rfl, p3]
  refine hS3.cF (a1p _ _) fun H4 hS4 => ?_
  simp (disch := omega) only [↓RA, RZ, simprocAttr, hn, p3]
  refine iA (fun p4 => ?_) (fun p4 => ?_)
  ·simp (disch := omega) only [↓RA, RZ, simprocAttr, hn, zV, p3, p4]
   exact ⟨by rw [tM, if_neg (by omega), if_pos ⟨_, iE (by omega), p4⟩], hS4.forget⟩
  simp (disch := omega) only [↓RA, RZ, simprocAttr, hn, g0, g1, g17, g18, g19, p3, p4]
  exact ⟨n - 1, by omega, i + 1, ⟨by omega, fun j hj => by rcases du.1 hj with e | e; (· exact h0 j e); (· rw [e]; exact dG.1 p4)⟩, by simp, hS4.sub (by simp)⟩
 have hE : tM ks cs = lO (mR ks.length cs) cs.length := by
  rw [tM, if_neg (by omega), if_neg]
  rintro ⟨k, hk, hne⟩
  obtain ⟨j, hj, rfl⟩ := dR.1 hk
  rw [← jR ks j hj] at hne
  exact hne (h0 j (by omega))
 simp (disch := omega) only [↓RA, RZ, simprocAttr, hn, g1, (hS1.sl hc).len, p3]
 refine Wp.al (fun n l H' => l.length = 89 ∧ get l 0 = kv ∧ get l 1 = cv ∧ get l 27 = cv ∧ get l 28 = I cs.length ∧ ∃ (i : Nat), (n + i = cs.length ∧ ∀ j, j < i → mR ks.length cs j = 0) ∧ get l 29 = I i ∧ St prog H H' []) cs.length ?_ ?_
 ·simp (disch := omega) only [RB, RC, simprocAttr, hn, g0, g1]
  exact ⟨0, ⟨by omega, by simp⟩, rfl, hS1⟩
 rintro n l H5 ⟨hn, g0, g1, g27, g28, i, ⟨hi2,hz⟩, g29, hS5⟩
 simp (disch := omega) only [↓RA, RB, simprocAttr, hn, g28, g29]
 refine iA (fun q1 => ?_) (fun q1 => ?_)
 ·have key : mR ks.length cs i ≠ 0 → tM ks cs = mR ks.length cs i := fun hne => by rw [hE, oA _ _ i (by omega) hne hz]
  simp (disch := omega) only [↓RA, RZ, simprocAttr, hn, g27, g29, (hS5.sl hc).idx, (hS5.sl hc).ag, Cpl.cells, q1]
  refine hS5.eNew 5 [(.string ⟨#[]⟩), I 0, I 0, I 0, (.bool false)] rfl rfl rfl wA fun A2 H6 hS6 => ?_
  simp only [RT] at hS6
  simp (disch := omega) only [↓RA, RZ, simprocAttr, hn, q1]
  refine hS6.aa 0 rfl [(.string (iB cs i).name), I (iB cs i).src, I (iB cs i).dst, I (iB cs i).shift, (.bool (iB cs i).thr)] rfl rfl wA (by simp) fun H7 hS7 => ?_
  simp only [RT] at hS7
  simp (disch := omega) only [↓RA, RZ, simprocAttr, hn, hS7.ld 0 rfl, q1]
  refine hS7.cF (qK _) fun H8 hS8 => ?_
  simp (disch := omega) only [↓RA, RZ, simprocAttr, hn, q1]
  refine jE (fun q2 => ?_) (fun q2 => ?_)
  ·have e1 : mR ks.length cs i = 8 := by unfold mR; simp only; rw [if_pos (by simpa using q2)]
   simp (disch := omega) only [↓RA, RZ, simprocAttr, hn, zV, q1, q2]
   exact ⟨by rw [key (by rw [e1]; decide), e1], hS8.forget⟩
  have q2' : ¬ kY (iB cs i).name = false := by simpa using q2
  simp (disch := omega) only [↓RA, RZ, simprocAttr, hn, g1, (hS8.sl hc).aM, q1, q2]
  have hA := hS8.var 0 rfl
  refine hS8.cF (b8B _ (cs.take i) ((hS8.sl hc).cD i (by omega) (by omega)) (by simp; omega) 110 [ptr A2 0 5] (fun j => decide ((iB (cs.take i) j).name = (iB cs i).name)) (fun j H1 hj hS' => a8E _ A2 (iB cs i) (hS'.va hA))) fun H9 hS9 => ?_
  have hx : 0 ≤ mZ (fun j => decide ((iB (cs.take i) j).name = (iB cs i).name)) (cs.take i).length ↔ ∃ q, q < i ∧ (iB cs q).name = (iB cs i).name := by
   rw [xN]
   constructor
   ·rintro ⟨j, hj, hp⟩
    have hj' : j < i := by simp at hj; omega
    exact ⟨j, hj', by rw [← a6L cs i j hj']; exact of_decide_eq_true hp⟩
   ·rintro ⟨j, hj, hp⟩
    exact ⟨j, by simp; omega, decide_eq_true (by rw [a6L cs i j hj]; exact hp)⟩
  simp (disch := omega) only [↓RA, RZ, simprocAttr, hn, q1, q2]
  refine iA (fun q3 => ?_) (fun q3 => ?_)
  ·have e1 : mR ks.length cs i = 9 := by unfold mR; simp only; rw [if_neg q2', if_pos (hx.1 q3)]
   simp (disch := omega) only [↓RA, RZ, simprocAttr, hn, zV, q1, q2, q3]
   exact ⟨by rw [key (by rw [e1]; decide), e1], hS9.forget⟩
  have q3' : ¬ ∃ q, q < i ∧ (iB cs q).name = (iB cs i).name := fun hh => q3 (hx.2 hh)
  have hC : mR ks.length cs i = if (iB cs i).src < 0 ∨ ks.length ≤ (iB cs i).src ∨ (iB cs i).dst < 0 ∨ ks.length ≤ (iB cs i).dst then 10 else if (iB cs i).shift < -127 ∨ 127 < (iB cs i).shift then 3 else if (iB cs i).src = (iB cs i).dst ∧ (iB cs i).shift = 0 then 7 else 0 := by
   unfold mR; simp only; rw [if_neg q2', if_neg q3']
  clear hx
  simp (disch := omega) only [↓RA, RZ, simprocAttr, hn, hS9.ld 0 rfl, q1, q2, q3]
  refine iO (fun h1 => ?_) (fun h1 => ?_)
  ·simp (disch := omega) only [↓RA, RZ, simprocAttr, hn, zV, q1, q2, q3, h1]
   (first | (have e1 : mR ks.length cs i = 10 := by rw [hC, if_pos (by omega)]); exact ⟨by rw [key (by rw [e1]; decide), e1], hS9.forget⟩ | (have e1 : mR ks.length cs i = 3 := by rw [hC, if_neg (by omega), if_pos (by omega)]); exact ⟨by rw [key (by rw [e1]; decide), e1], hS9.forget⟩ | (have e1 : mR ks.length cs i = 7 := by rw [hC, if_neg (by omega), if_neg (by omega), if_pos (by omega)]); exact ⟨by rw [key (by rw [e1]; decide), e1], hS9.forget⟩)
  simp (disch := omega) only [↓RA, RZ, simprocAttr, hn, g0, hS9.ld 0 rfl, (hS9.sl hk).len, q1, q2, q3, h1]
  refine iO (fun h2 => ?_) (fun h2 => ?_)
  ·simp (disch := omega) only [↓RA, RZ, simprocAttr, hn, zV, q1, q2, q3, h1, h2]
   (first | (have e1 : mR ks.length cs i = 10 := by rw [hC, if_pos (by omega)]); exact ⟨by rw [key (by rw [e1]; decide), e1], hS9.forget⟩ | (have e1 : mR ks.length cs i = 3 := by rw [hC, if_neg (by omega), if_pos (by omega)]); exact ⟨by rw [key (by rw [e1]; decide), e1], hS9.forget⟩ | (have e1 : mR ks.length cs i = 7 := by rw [hC, if_neg (by omega), if_neg (by omega), if_pos (by omega)]); exact ⟨by rw [key (by rw [e1]; decide), e1], hS9.forget⟩)
  simp (disch := omega) only [↓RA, RZ, simprocAttr, hn, hS9.ld 0 rfl, q1, q2, q3, h1, h2]
  refine iO (fun h3 => ?_) (fun h3 => ?_)
  ·simp (disch := omega) only [↓RA, RZ, simprocAttr, hn, zV, q1, q2, q3, h1, h2, h3]
   (first | (have e1 : mR ks.length cs i = 10 := by rw [hC, if_pos (by omega)]); exact ⟨by rw [key (by rw [e1]; decide), e1], hS9.forget⟩ | (have e1 : mR ks.length cs i = 3 := by rw [hC, if_neg (by omega), if_pos (by omega)]); exact ⟨by rw [key (by rw [e1]; decide), e1], hS9.forget⟩ | (have e1 : mR ks.length cs i = 7 := by rw [hC, if_neg (by omega), if_neg (by omega), if_pos (by omega)]); exact ⟨by rw [key (by rw [e1]; decide), e1], hS9.forget⟩)
  simp (disch := omega) only [↓RA, RZ, simprocAttr, hn, g0, hS9.ld 0 rfl, (hS9.sl hk).len, q1, q2, q3, h1, h2, h3]
  refine iA (fun h4 => ?_) (fun h4 => ?_)
  ·simp (disch := omega) only [↓RA, RZ, simprocAttr, hn, zV, q1, q2, q3, h1, h2, h3, h4]
   (first | (have e1 : mR ks.length cs i = 10 := by rw [hC, if_pos (by omega)]); exact ⟨by rw [key (by rw [e1]; decide), e1], hS9.forget⟩ | (have e1 : mR ks.length cs i = 3 := by rw [hC, if_neg (by omega), if_pos (by omega)]); exact ⟨by rw [key (by rw [e1]; decide), e1], hS9.forget⟩ | (have e1 : mR ks.length cs i = 7 := by rw [hC, if_neg (by omega), if_neg (by omega), if_pos (by omega)]); exact ⟨by rw [key (by rw [e1]; decide), e1], hS9.forget⟩)
  simp (disch := omega) only [↓RA, RZ, simprocAttr, hn, hS9.ld 0 rfl, q1, q2, q3, h1, h2, h3, h4]
  refine iO (fun h5 => ?_) (fun h5 => ?_)
  ·simp (disch := omega) only [↓RA, RZ, simprocAttr, hn, zV, q1, q2, q3, h1, h2, h3, h4, h5]
   (first | (have e1 : mR ks.length cs i = 10 := by rw [hC, if_pos (by omega)]); exact ⟨by rw [key (by rw [e1]; decide), e1], hS9.forget⟩ | (have e1 : mR ks.length cs i = 3 := by rw [hC, if_neg (by omega), if_pos (by omega)]); exact ⟨by rw [key (by rw [e1]; decide), e1], hS9.forget⟩ | (have e1 : mR ks.length cs i = 7 := by rw [hC, if_neg (by omega), if_neg (by omega), if_pos (by omega)]); exact ⟨by rw [key (by rw [e1]; decide), e1], hS9.forget⟩)
  simp (disch := omega) only [↓RA, RZ, simprocAttr, hn, hS9.ld 0 rfl, q1, q2, q3, h1, h2, h3, h4, h5]
  refine iA (fun h6 => ?_) (fun h6 => ?_)
  ·simp (disch := omega) only [↓RA, RZ, simprocAttr, hn, zV, q1, q2, q3, h1, h2, h3, h4, h5, h6]
   (first | (have e1 : mR ks.length cs i = 10 := by rw [hC, if_pos (by omega)]); exact ⟨by rw [key (by rw [e1]; decide), e1], hS9.forget⟩ | (have e1 : mR ks.length cs i = 3 := by rw [hC, if_neg (by omega), if_pos (by omega)]); exact ⟨by rw [key (by rw [e1]; decide), e1], hS9.forget⟩ | (have e1 : mR ks.length cs i = 7 := by rw [hC, if_neg (by omega), if_neg (by omega), if_pos (by omega)]); exact ⟨by rw [key (by rw [e1]; decide), e1], hS9.forget⟩)
  simp (disch := omega) only [↓RA, RZ, simprocAttr, hn, hS9.ld 0 rfl, q1, q2, q3, h1, h2, h3, h4, h5, h6]
  refine kA (fun h7 => ?_) (fun h7 => ?_)
  ·simp (disch := omega) only [↓RA, RZ, simprocAttr, hn, hS9.ld 0 rfl, q1, q2, q3, h3, h4, h5, h6, h7]
   refine iA (fun h8 => ?_) (fun h8 => ?_)
   ·simp (disch := omega) only [↓RA, RZ, simprocAttr, hn, zV, q1, q2, q3, h3, h4, h7, h8]
    (first | (have e1 : mR ks.length cs i = 10 := by rw [hC, if_pos (by omega)]); exact ⟨by rw [key (by rw [e1]; decide), e1], hS9.forget⟩ | (have e1 : mR ks.length cs i = 3 := by rw [hC, if_neg (by omega), if_pos (by omega)]); exact ⟨by rw [key (by rw [e1]; decide), e1], hS9.forget⟩ | (have e1 : mR ks.length cs i = 7 := by rw [hC, if_neg (by omega), if_neg (by omega), if_pos (by omega)]); exact ⟨by rw [key (by rw [e1]; decide), e1], hS9.forget⟩)
   simp (disch := omega) only [↓RA, RZ, simprocAttr, hn, g0, g1, g27, g28, g29, q1, q2, q3, h3, h4, h5, h6, h7, h8]
   have e0 : mR ks.length cs i = 0 := by rw [hC, if_neg (by omega), if_neg (by omega), if_neg (by omega)]
   exact ⟨n - 1, by omega, i + 1, ⟨by omega, fun j hj => by rcases du.1 hj with e | e; (· exact hz j e); (· rw [e]; exact e0)⟩, by simp, hS9.sub (by simp)⟩
  simp (disch := omega) only [↓RA, RZ, simprocAttr, hn, g0, g1, g27, g28, g29, q1, q2, q3, h1, h2, h3, h4, h5, h6, h7]
  have e0 : mR ks.length cs i = 0 := by rw [hC, if_neg (by omega), if_neg (by omega), if_neg (by omega)]
  exact ⟨n - 1, by omega, i + 1, ⟨by omega, fun j hj => by rcases du.1 hj with e | e; (· exact hz j e); (· rw [e]; exact e0)⟩, by simp, hS9.sub (by simp)⟩
 simp (disch := omega) only [↓RA, RZ, simprocAttr, hn, zV, q1]
 exact ⟨by rw [hE, kU _ _ fun j hj => hz j (by omega)], hS5.forget⟩
def pA (rs : List Rk) (lo hi : Int) (l : List Stp) (j : Nat) : Int := if stopE rs lo hi (iB l j) ≠ 0 then stopE rs lo hi (iB l j) else if ∃ q, q < j ∧ (iB l q).name = (iB l j).name then 9 else 0
def divE (rs : List Rk) (d : Dvn) : Int := if qV d.lo d.hi ≠ 0 then qV d.lo d.hi else if 60 < d.stops.length then 4 else lO (pA rs d.lo d.hi d.stops) d.stops.length
theorem a0p {kvs kvs' : List (ByteArray × Bool)} {f : Nat → ByteArray} {i : Nat} (h : ∀ t, qD kvs t = true ↔ ∃ q, q < i ∧ f q = t) (h' : ∀ t, qD kvs' t = (qD kvs t || decide (t = f i))) : ∀ t, qD kvs' t = true ↔ ∃ q, q < i + 1 ∧ f q = t := by
 intro t
 rw [h', eF, h, decide_eq_true_iff]
 constructor
 ·rintro (⟨q, hq, e⟩ | e)
  ·exact ⟨q, by omega, e⟩
  ·exact ⟨i, by omega, e.symm⟩
 ·rintro ⟨q, hq, e⟩
  rcases du.1 hq with hh | hh
  ·exact .inl ⟨q, hh, e⟩
  ·right; rw [← e, hh]
theorem a1z (t : ByteArray) : qD [] t = false := rfl
theorem c0L (o : Org) (ho : o.In H) (d : Dvn) (hd : d.In H) :
 Fn prog 58 [.agg #[.string o.name, o.rv, o.dv, o.cv], .agg #[.string d.name, .bool d.pedal, I d.lo, I d.hi, d.sv]] H fun v H' => v = I (divE o.ranks d) ∧ St prog H H' [] := by
 have hl := hd.2.2
 refine .aD func58 rfl (by kernel_rfl) (m := 47) rfl fun l hn g0 g1 => ?_
 simp (disch := omega) only [↓RA, RB, simprocAttr, g0]
 refine (sR H).eNew 4 [(.string o.name), o.rv, o.dv, o.cv] rfl rfl (by simp [OC, ((sR H).sl ho.1).cells.2.1, ((sR H).sl ho.2.2.1).cells.2.1, ((sR H).sl ho.2.2.2.2.1).cells.2.1]) mW fun A1 H1 hS1 => ?_
 simp only [RT] at hS1
 simp (disch := omega) only [↓RA, RB, simprocAttr, g1]
 refine hS1.eNew 5 [(.string d.name), (.bool d.pedal), I d.lo, I d.hi, d.sv] rfl rfl (by simp [OC, (hS1.sl hd.1).cells.2.1]) tI fun A2 H2 hS2 => ?_
 simp only [RT] at hS2
 simp (disch := omega) only [↓RA, RZ, simprocAttr, hn, hS2.ag 1 rfl]
 refine hS2.cF (a1p d.lo d.hi) fun H3 hS3 => ?_
 simp (disch := omega) only [↓RA, RB, simprocAttr, hn]
 refine iA (fun p1 => ?_) (fun p1 => ?_)
 ·simp (disch := omega) only [↓RA, RZ, simprocAttr, hn, b6r, p1]
  exact ⟨by rw [divE, if_pos p1], hS3.forget⟩
 simp (disch := omega) only [↓RA, RZ, simprocAttr, hn, hS3.ld 1 rfl, (hS3.sl hd.1).len, p1]
 refine iA (fun p2 => ?_) (fun p2 => ?_)
 ·simp (disch := omega) only [↓RA, RZ, simprocAttr, hn, b6r, p1, p2]
  exact ⟨by rw [divE, if_neg p1, if_pos (by omega)], hS3.forget⟩
 have hE : divE o.ranks d = lO (pA o.ranks d.lo d.hi d.stops) d.stops.length := by rw [divE, if_neg p1, if_neg (by omega)]
 simp (disch := omega) only [↓RA, simprocAttr]
 refine hS3.bQ a6H fun M1 H4 hS4 => ?_
 simp only [RT] at hS4
 simp (disch := omega) only [↓RA, RZ, simprocAttr, hn, hS4.ld 1 rfl, (hS4.sl hd.1).len, p1, p2]
 refine Wp.al (fun n l H' => l.length = 47 ∧ get l 2 = (ptr A1 0 4) ∧ get l 3 = (ptr A2 0 5) ∧ get l 6 = (.map (some M1)) ∧ get l 23 = d.sv ∧ get l 24 = I d.stops.length ∧ ∃ (i : Nat) (kvs : List (ByteArray × Bool)), (n + i = d.stops.length ∧ (∀ j, j < i → pA o.ranks d.lo d.hi d.stops j = 0) ∧ (∀ t, qD kvs t = true ↔ ∃ q, q < i ∧ (iB d.stops q).name = t)) ∧ get l 25 = I i ∧ St prog H H' [⟨ptr A1 0 4, 0, [(.string o.name), o.rv, o.dv, o.cv]⟩, ⟨ptr A2 0 5, 0, [(.string d.name), (.bool d.pedal), I d.lo, I d.hi, d.sv]⟩, ⟨.map (some M1), 0, KS kvs⟩]) d.stops.length ?_ ?_
 ·simp (disch := omega) only [RB, RC, simprocAttr, hn]
  exact ⟨0, [], ⟨by omega, by simp, by simp [a1z]⟩, rfl, hS4⟩
 rintro n l H5 ⟨hn, g2, g3, g6, g23, g24, i, kvs, ⟨hi1,hz,hk⟩, g25, hS5⟩
 simp (disch := omega) only [↓RA, RB, simprocAttr, hn, g24, g25]
 refine iA (fun q1 => ?_) (fun q1 => ?_)
 ·have key : pA o.ranks d.lo d.hi d.stops i ≠ 0 → divE o.ranks d = pA o.ranks d.lo d.hi d.stops i := fun hne => by rw [hE, oA _ _ i (by omega) hne hz]
  simp (disch := omega) only [↓RA, RZ, simprocAttr, hn, g23, g25, (hS5.sl hd.1).idx, (hS5.sl hd.1).ag, Stp.cells, q1]
  refine hS5.eNew 4 [(.string ⟨#[]⟩), I 0, I 0, (.slice none 0 0)] rfl rfl rfl mY fun A3 H6 hS6 => ?_
  simp only [RT] at hS6
  simp (disch := omega) only [↓RA, RZ, simprocAttr, hn, q1]
  refine hS6.aa 3 rfl [(.string (iB d.stops i).name), I (iB d.stops i).num, I (iB d.stops i).den, (iB d.stops i).gv] rfl (by simp [OC, (hS6.sl (hd.2.1 (iB d.stops i) (iE (by omega))).1).cells.2.1]) mY (by simp) fun H7 hS7 => ?_
  simp only [RT] at hS7
  simp (disch := omega) only [↓RA, RZ, simprocAttr, hn, g2, g3, hS7.ld 0 rfl, hS7.ag 1 rfl, b1l (hS7.sl ho.1).cells, hS7.ag 3 rfl, q1]
  refine hS7.cF (b9f o.rv o.ranks d.lo d.hi (hS7.sl ho.1) (fun r h => (ho.2.1 r h).ab hS7) ho.2.2.2.2.2.1 (iB d.stops i) ((hd.2.1 _ (iE (by omega))).ab hS7)) fun H8 hS8 => ?_
  simp (disch := omega) only [↓RA, RZ, simprocAttr, hn, q1]
  refine iA (fun q2 => ?_) (fun q2 => ?_)
  ·have e1 : pA o.ranks d.lo d.hi d.stops i = stopE o.ranks d.lo d.hi (iB d.stops i) := by rw [pA, if_pos q2]
   simp (disch := omega) only [↓RA, RZ, simprocAttr, hn, b6r, q1, q2]
   exact ⟨by rw [key (by rw [e1]; exact q2), e1], hS8.forget⟩
  simp (disch := omega) only [↓RA, RZ, simprocAttr, hn, g6, hS8.ld 3 rfl, q1, q2]
  have hM1 := hS8.pick (os' := [⟨.map (some M1), 0, _⟩]) [2] (by decide) rfl
  have hR1 := hS8.pick (os' := [⟨.map (some M1), 0, _⟩, ⟨ptr A1 0 4, 0, _⟩, ⟨ptr A2 0 5, 0, _⟩, ⟨ptr A3 0 4, 0, _⟩]) [2, 0, 1, 3] (by decide) rfl
  refine iJ (a2T _ M1 kvs (iB d.stops i).name hM1.aH) ?_
  rintro r H9 ⟨rfl, kvs', hk', hT3⟩
  have hS9 := hR1.frame hT3
  simp only [RT] at hS9
  simp (disch := omega) only [↓RA, RZ, simprocAttr, hn, q1, q2]
  refine iA (fun q3 => ?_) (fun q3 => ?_)
  ·have q3' : qD kvs (iB d.stops i).name = true := by
    by_cases hh : qD kvs (iB d.stops i).name = true
    ·exact hh
    ·rw [if_neg hh] at q3; exact absurd rfl q3
   have e1 : pA o.ranks d.lo d.hi d.stops i = 9 := by rw [pA, if_neg q2, if_pos ((hk _).1 q3')]
   simp (disch := omega) only [↓RA, RZ, simprocAttr, hn, b6r, q1, q2, q3]
   exact ⟨by rw [key (by rw [e1]; decide), e1, if_pos q3'], hS9.forget⟩
  have q3' : ¬ qD kvs (iB d.stops i).name = true := fun hh => q3 (by rw [if_pos hh]; decide)
  have e0 : pA o.ranks d.lo d.hi d.stops i = 0 := by rw [pA, if_neg q2, if_neg (fun hh => q3' ((hk _).2 hh))]
  simp (disch := omega) only [↓RA, RZ, simprocAttr, hn, g2, g3, g6, g23, g24, g25, q1, q2, q3]
  exact ⟨n - 1, by omega, i + 1, kvs', ⟨by omega, fun j hj => by rcases du.1 hj with e | e; (· exact hz j e); (· rw [e]; exact e0), a0p (f := fun q => (iB d.stops q).name) hk hk'⟩, by simp, hS9.pick [1, 2, 0] (by decide) rfl⟩
 simp (disch := omega) only [↓RA, RZ, simprocAttr, hn, b6r, q1]
 exact ⟨by rw [hE, kU _ _ fun j hj => hz j (by omega)], hS5.forget⟩
def nP (l : List Rk) (j : Nat) : Int := if rankE (iB l j) ≠ 0 then rankE (iB l j) else if ∃ q, q < j ∧ (iB l q).name = (iB l j).name then 9 else 0
def tO (rs : List Rk) (l : List Dvn) (j : Nat) : Int := if kY (iB l j).name = false then 8 else if ∃ q, q < j ∧ (iB l q).name = (iB l j).name then 9 else divE rs (iB l j)
def kps (l : List Dvn) : List (Int × Int) := l.map fun d => (d.lo, d.hi)
def organE (o : Org) : Int := if kY o.name = false then 8 else if 60 < o.ranks.length then 4 else if lO (nP o.ranks) o.ranks.length ≠ 0 then lO (nP o.ranks) o.ranks.length else
 if o.dvs.length = 0 then 13 else if 8 < o.dvs.length then 4 else if lO (tO o.ranks o.dvs) o.dvs.length ≠ 0 then lO (tO o.ranks o.dvs) o.dvs.length else tM (kps o.dvs) o.cpls
theorem vL (k : Int × Int) : (kpc k).length = 2 := rfl
theorem b6s (l : List Dvn) (i : Nat) (h : i < l.length) : (kps (l.take (i + 1))).flatMap kpc = (kps (l.take i)).flatMap kpc ++ [I (iB l i).lo, I (iB l i).hi] := by
 unfold kps
 rw [pH l i h, dA, dN]
 rfl
theorem yU (o : Org) (ho : o.In H) : Fn prog 20 [.agg #[.string o.name, o.rv, o.dv, o.cv]] H fun v H' => v = I (organE o) ∧ St prog H H' [] := by
 have hlr := ho.2.2.2.2.2.1
 have hld := ho.2.2.2.2.2.2.1
 have hlc := ho.2.2.2.2.2.2.2
 refine .aY func20 rfl (by kernel_rfl) (m := 89) rfl fun l hn g0 => ?_
 simp (disch := omega) only [↓RA, RB, simprocAttr, g0]
 refine (sR H).eNew 4 [(.string o.name), o.rv, o.dv, o.cv] rfl rfl (by simp [OC, ((sR H).sl ho.1).cells.2.1, ((sR H).sl ho.2.2.1).cells.2.1, ((sR H).sl ho.2.2.2.2.1).cells.2.1]) mW fun A1 H1 hS1 => ?_
 simp only [RT] at hS1
 simp (disch := omega) only [↓RA, RZ, simprocAttr, hn, hS1.ld 0 rfl]
 refine hS1.cF (qK _) fun H2 hS2 => ?_
 simp (disch := omega) only [↓RA, RB, simprocAttr, hn]
 refine jE (fun p1 => ?_) (fun p1 => ?_)
 ·simp (disch := omega) only [↓RA, RB, simprocAttr, hn, a3o, p1]
  exact ⟨by rw [organE, if_pos (by simpa using p1)], hS2.forget⟩
 have p1' : ¬ kY o.name = false := by simpa using p1
 simp (disch := omega) only [↓RA, RZ, simprocAttr, hn, hS2.ld 0 rfl, (hS2.sl ho.1).len, p1]
 refine iA (fun p2 => ?_) (fun p2 => ?_)
 ·simp (disch := omega) only [↓RA, RZ, simprocAttr, hn, a3o, p1, p2]
  exact ⟨by rw [organE, if_neg p1', if_pos (by omega)], hS2.forget⟩
 simp (disch := omega) only [↓RA, simprocAttr]
 refine hS2.bQ a6H fun M1 H3 hS3 => ?_
 simp only [RT] at hS3
 simp (disch := omega) only [↓RA, RZ, simprocAttr, hn, hS3.ld 0 rfl, (hS3.sl ho.1).len, p1, p2]
 refine Wp.al (fun n l H' => l.length = 89 ∧ get l 1 = (ptr A1 0 4) ∧ get l 3 = (.map (some M1)) ∧ get l 25 = o.rv ∧ get l 26 = I o.ranks.length ∧ ∃ (i : Nat) (kvs : List (ByteArray × Bool)), (n + i = o.ranks.length ∧ (∀ j, j < i → nP o.ranks j = 0) ∧ (∀ t, qD kvs t = true ↔ ∃ q, q < i ∧ (iB o.ranks q).name = t)) ∧ get l 27 = I i ∧ St prog H H' [⟨ptr A1 0 4, 0, [(.string o.name), o.rv, o.dv, o.cv]⟩, ⟨.map (some M1), 0, KS kvs⟩]) o.ranks.length ?_ ?_
 ·simp (disch := omega) only [RB, RC, simprocAttr, hn]
  exact ⟨0, [], ⟨by omega, by simp, by simp [a1z]⟩, rfl, hS3⟩
 rintro n l H4 ⟨hn, g1, g3, g25, g26, i, kvs, ⟨hi1,hz,hk⟩, g27, hS4⟩
 simp (disch := omega) only [↓RA, RB, simprocAttr, hn, g26, g27]
 refine iA (fun q1 => ?_) (fun q1 => ?_)
 ·have key : nP o.ranks i ≠ 0 → organE o = nP o.ranks i := fun hne => by rw [organE, if_neg p1', if_neg (by omega), oA _ _ i (by omega) hne hz, if_pos hne]
  simp (disch := omega) only [↓RA, RZ, simprocAttr, hn, g25, g27, (hS4.sl ho.1).idx, (hS4.sl ho.1).ag, Rk.cells, q1]
  refine hS4.eNew 6 [(.string ⟨#[]⟩), (.string ⟨#[]⟩), I 0, I 0, I 0, (.slice none 0 0)] rfl rfl rfl a3c fun A2 H5 hS5 => ?_
  simp only [RT] at hS5
  simp (disch := omega) only [↓RA, RZ, simprocAttr, hn, q1]
  refine hS5.aa 2 rfl [(.string (iB o.ranks i).name), (.string (iB o.ranks i).tone), I (iB o.ranks i).num, I (iB o.ranks i).den, I (iB o.ranks i).first, (iB o.ranks i).wv] rfl (by simp [OC, (hS5.sl (ho.2.1 (iB o.ranks i) (iE (by omega))).1).cells.2.1]) a3c (by simp) fun H6 hS6 => ?_
  simp only [RT] at hS6
  simp (disch := omega) only [↓RA, RZ, simprocAttr, hn, hS6.ag 2 rfl, q1]
  refine hS6.cF (b0B (iB o.ranks i) ((ho.2.1 _ (iE (by omega))).ab hS6)) fun H7 hS7 => ?_
  simp (disch := omega) only [↓RA, RZ, simprocAttr, hn, q1]
  refine iA (fun q2 => ?_) (fun q2 => ?_)
  ·have e1 : nP o.ranks i = rankE (iB o.ranks i) := by rw [nP, if_pos q2]
   simp (disch := omega) only [↓RA, RZ, simprocAttr, hn, a3o, q1, q2]
   exact ⟨by rw [key (by rw [e1]; exact q2), e1], hS7.forget⟩
  simp (disch := omega) only [↓RA, RZ, simprocAttr, hn, g3, hS7.ld 2 rfl, q1, q2]
  have hM1 := hS7.pick (os' := [⟨.map (some M1), 0, _⟩]) [1] (by decide) rfl
  have hR1 := hS7.pick (os' := [⟨.map (some M1), 0, _⟩, ⟨ptr A1 0 4, 0, _⟩, ⟨ptr A2 0 6, 0, _⟩]) [1, 0, 2] (by decide) rfl
  refine iJ (a2T _ M1 kvs (iB o.ranks i).name hM1.aH) ?_
  rintro r H8 ⟨rfl, kvs', hk', hT3⟩
  have hS8 := hR1.frame hT3
  simp only [RT] at hS8
  simp (disch := omega) only [↓RA, RZ, simprocAttr, hn, q1, q2]
  refine iA (fun q3 => ?_) (fun q3 => ?_)
  ·have q3' : qD kvs (iB o.ranks i).name = true := by
    by_cases hh : qD kvs (iB o.ranks i).name = true
    ·exact hh
    ·rw [if_neg hh] at q3; exact absurd rfl q3
   have e1 : nP o.ranks i = 9 := by rw [nP, if_neg q2, if_pos ((hk _).1 q3')]
   simp (disch := omega) only [↓RA, RZ, simprocAttr, hn, a3o, q1, q2, q3]
   exact ⟨by rw [key (by rw [e1]; decide), e1, if_pos q3'], hS8.forget⟩
  have q3' : ¬ qD kvs (iB o.ranks i).name = true := fun hh => q3 (by rw [if_pos hh]; decide)
  have e0 : nP o.ranks i = 0 := by rw [nP, if_neg q2, if_neg (fun hh => q3' ((hk _).2 hh))]
  simp (disch := omega) only [↓RA, RZ, simprocAttr, hn, g1, g3, g25, g26, g27, q1, q2, q3]
  exact ⟨n - 1, by omega, i + 1, kvs', ⟨by omega, fun j hj => by rcases du.1 hj with e | e; (· exact hz j e); (· rw [e]; exact e0), a0p (f := fun q => (iB o.ranks q).name) hk hk'⟩, by simp, hS8.pick [1, 0] (by decide) rfl⟩
 have hR : lO (nP o.ranks) o.ranks.length = 0 := kU _ _ fun j hj => hz j (by omega)
 clear hk hz
 simp (disch := omega) only [↓RA, RZ, simprocAttr, hn, g1, hS4.ld 0 rfl, (hS4.sl ho.2.2.1).len, q1]
 refine iA (fun p4 => ?_) (fun p4 => ?_)
 ·simp (disch := omega) only [↓RA, RZ, simprocAttr, hn, a3o, q1, p4]
  exact ⟨by rw [organE, if_neg p1', if_neg (by omega), if_neg (by rw [hR]; simp), if_pos (by omega)], hS4.forget⟩
 simp (disch := omega) only [↓RA, RZ, simprocAttr, hn, g1, hS4.ld 0 rfl, (hS4.sl ho.2.2.1).len, q1, p4]
 refine iA (fun p5 => ?_) (fun p5 => ?_)
 ·simp (disch := omega) only [↓RA, RZ, simprocAttr, hn, a3o, q1, p4, p5]
  exact ⟨by rw [organE, if_neg p1', if_neg (by omega), if_neg (by rw [hR]; simp), if_neg (by omega), if_pos (by omega)], hS4.forget⟩
 have hE : organE o = if lO (tO o.ranks o.dvs) o.dvs.length ≠ 0 then lO (tO o.ranks o.dvs) o.dvs.length else tM (kps o.dvs) o.cpls := by
  rw [organE, if_neg p1', if_neg (by omega), if_neg (by rw [hR]; simp), if_neg (by omega), if_neg (by omega)]
 clear hR
 simp (disch := omega) only [↓RA, simprocAttr]
 refine hS4.bQ a6H fun M2 H9 hS9 => ?_
 simp only [RT] at hS9
 simp (disch := omega) only [↓RA, RZ, simprocAttr, hn, g1, hS9.ld 0 rfl, (hS9.sl ho.2.2.1).len, q1, p4, p5]
 have hS10 := hS9.pick (os' := [⟨ptr A1 0 4, 0, _⟩, ⟨.map (some M2), 0, _⟩]) [0, 2] (by decide) rfl
 have hS11 := hS10.nil 1
 simp only [RT] at hS11
 refine Wp.al (fun n l H' => l.length = 89 ∧ get l 1 = (ptr A1 0 4) ∧ get l 3 = (.map (some M2)) ∧ get l 56 = o.dv ∧ get l 57 = I o.dvs.length ∧ ∃ (i : Nat) (kvs : List (ByteArray × Bool)) (w : Value), (n + i = o.dvs.length ∧ (∀ j, j < i → tO o.ranks o.dvs j = 0) ∧ (∀ t, qD kvs t = true ↔ ∃ q, q < i ∧ (iB o.dvs q).name = t)) ∧ get l 58 = I i ∧ get l 8 = w ∧ St prog H H' [⟨ptr A1 0 4, 0, [(.string o.name), o.rv, o.dv, o.cv]⟩, ⟨.map (some M2), 0, KS kvs⟩, ⟨w, 2, (kps (o.dvs.take i)).flatMap kpc⟩]) o.dvs.length ?_ ?_
 ·simp (disch := omega) only [RB, RC, simprocAttr, hn, g1]
  exact ⟨0, [], _, ⟨by omega, by simp, by simp [a1z]⟩, rfl, rfl, hS11⟩
 rintro n l H10 ⟨hn, g1, g3, g56, g57, i, kvs, w, ⟨hi1,hz,hk⟩, g58, g8, hS12⟩
 simp (disch := omega) only [↓RA, RB, simprocAttr, hn, g57, g58]
 refine iA (fun q1 => ?_) (fun q1 => ?_)
 ·have key : tO o.ranks o.dvs i ≠ 0 → organE o = tO o.ranks o.dvs i := fun hne => by rw [hE, oA _ _ i (by omega) hne hz, if_pos hne]
  simp (disch := omega) only [↓RA, RZ, simprocAttr, hn, g56, g58, (hS12.sl ho.2.2.1).idx, (hS12.sl ho.2.2.1).ag, Dvn.cells, q1]
  refine hS12.eNew 5 [(.string ⟨#[]⟩), (.bool false), I 0, I 0, (.slice none 0 0)] rfl rfl rfl tI fun A3 H11 hS13 => ?_
  simp only [RT] at hS13
  simp (disch := omega) only [↓RA, RZ, simprocAttr, hn, q1]
  refine hS13.aa 3 rfl [(.string (iB o.dvs i).name), (.bool (iB o.dvs i).pedal), I (iB o.dvs i).lo, I (iB o.dvs i).hi, (iB o.dvs i).sv] rfl (by simp [OC, (hS13.sl (ho.2.2.2.1 (iB o.dvs i) (iE (by omega))).1).cells.2.1]) tI (by simp) fun H12 hS14 => ?_
  simp only [RT] at hS14
  simp (disch := omega) only [↓RA, RZ, simprocAttr, hn, hS14.ld 3 rfl, q1]
  refine hS14.cF (qK _) fun H13 hS15 => ?_
  simp (disch := omega) only [↓RA, RZ, simprocAttr, hn, q1]
  refine jE (fun q2 => ?_) (fun q2 => ?_)
  ·have e1 : tO o.ranks o.dvs i = 8 := by rw [tO, if_pos (by simpa using q2)]
   simp (disch := omega) only [↓RA, RZ, simprocAttr, hn, a3o, q1, q2]
   exact ⟨by rw [key (by rw [e1]; decide), e1], hS15.forget⟩
  have q2' : ¬ kY (iB o.dvs i).name = false := by simpa using q2
  simp (disch := omega) only [↓RA, RZ, simprocAttr, hn, g3, hS15.ld 3 rfl, q1, q2]
  have hM2 := hS15.pick (os' := [⟨.map (some M2), 0, _⟩]) [1] (by decide) rfl
  have hR2 := hS15.pick (os' := [⟨.map (some M2), 0, _⟩, ⟨ptr A1 0 4, 0, _⟩, ⟨w, 2, _⟩, ⟨ptr A3 0 5, 0, _⟩]) [1, 0, 2, 3] (by decide) rfl
  refine iJ (a2T _ M2 kvs (iB o.dvs i).name hM2.aH) ?_
  rintro r H14 ⟨rfl, kvs', hk', hT5⟩
  have hS16 := hR2.frame hT5
  simp only [RT] at hS16
  simp (disch := omega) only [↓RA, RZ, simprocAttr, hn, q1, q2]
  refine iA (fun q3 => ?_) (fun q3 => ?_)
  ·have q3' : qD kvs (iB o.dvs i).name = true := by
    by_cases hh : qD kvs (iB o.dvs i).name = true
    ·exact hh
    ·rw [if_neg hh] at q3; exact absurd rfl q3
   have e1 : tO o.ranks o.dvs i = 9 := by rw [tO, if_neg q2', if_pos ((hk _).1 q3')]
   simp (disch := omega) only [↓RA, RZ, simprocAttr, hn, a3o, q1, q2, q3]
   exact ⟨by rw [key (by rw [e1]; decide), e1, if_pos q3'], hS16.forget⟩
  have q3' : ¬ qD kvs (iB o.dvs i).name = true := fun hh => q3 (by rw [if_pos hh]; decide)
  simp (disch := omega) only [↓RA, RZ, simprocAttr, hn, g1, hS16.ag 1 rfl, hS16.ag 3 rfl, q1, q2, q3]
  refine hS16.cF (c0L o (ho.ab hS16) (iB o.dvs i) ((ho.2.2.2.1 _ (iE (by omega))).ab hS16)) fun H15 hS17 => ?_
  have e0 : tO o.ranks o.dvs i = divE o.ranks (iB o.dvs i) := by rw [tO, if_neg q2', if_neg (fun hh => q3' ((hk _).2 hh))]
  simp (disch := omega) only [↓RA, RZ, simprocAttr, hn, q1, q2, q3]
  refine iA (fun q4 => ?_) (fun q4 => ?_)
  ·simp (disch := omega) only [↓RA, RZ, simprocAttr, hn, a3o, q1, q2, q3, q4]
   exact ⟨by rw [key (by rw [e0]; exact q4), e0], hS17.forget⟩
  have e2 : tO o.ranks o.dvs i = 0 := by rw [e0]; exact dG.1 q4
  simp (disch := omega) only [↓RA, RZ, simprocAttr, hn, g8, hS17.ag 3 rfl, q1, q2, q3, q4]
  refine hS17.ai [I (iB o.dvs i).lo, I (iB o.dvs i).hi] b9K c4p rfl rfl (by simp [Value.cells]) rfl rfl (by decide) (by decide) fun w1 H16 hS18 => ?_
  simp only [RT] at hS18
  simp (disch := omega) only [↓RA, RZ, simprocAttr, hn, q1, q2, q3, q4]
  refine hS18.aq 2 rfl (hS18.rd 4 rfl) b9K (by rw [iK vL]; simp [kps]; omega) fun w2 H17 hS19 => ?_
  simp only [RT] at hS19
  simp (disch := omega) only [↓RA, RZ, simprocAttr, hn, g1, g3, g56, g57, g58, q1, q2, q3, q4]
  refine ⟨n - 1, by omega, i + 1, kvs', _, ⟨by omega, fun j hj => by rcases du.1 hj with e | e; (· exact hz j e); (· rw [e]; exact e2), a0p (f := fun q => (iB o.dvs q).name) hk hk'⟩, by simp, rfl, ?_⟩
  rw [b6s _ _ (by omega)]
  exact hS19.pick [1, 0, 2] (by decide) rfl
 have hD : lO (tO o.ranks o.dvs) o.dvs.length = 0 := kU _ _ fun j hj => hz j (by omega)
 have hi : i = o.dvs.length := by omega
 subst hi
 rw [ek] at hS12
 simp (disch := omega) only [↓RA, RZ, simprocAttr, hn, g1, g8, hS12.ld 0 rfl, q1]
 refine hS12.cF (a7s w o.cv (kps o.dvs) o.cpls (hS12.av 2 rfl vL) (hS12.sl ho.2.2.2.2.1) (by simp [kps]; omega) hlc) fun H18 hS20 => ?_
 simp (disch := omega) only [↓RA, RZ, simprocAttr, hn, a3o, q1]
 exact ⟨by rw [hE, if_neg (by rw [hD]; simp)], hS20.forget⟩
def lD : List (Int × Int) := [(8, 1), (4, 1), (16, 1), (8, 3), (2, 1), (8, 5)]
def lX : List (Int × Int) := [(8, 1), (4, 1), (16, 1), (2, 1), (8, 3), (8, 5), (4, 3), (1, 1), (32, 1), (16, 3), (16, 5), (32, 3), (8, 7), (2, 3), (1, 2), (64, 1)]
theorem a6P (k : Nat) : Fn prog 97 [.int .u8 k] H fun r H' => r = .agg #[I (iB lD (k % 6)).1, I (iB lD (k % 6)).2] ∧ St prog H H' [] := by
 refine .aY func97 rfl (by kernel_rfl) (m := 14) rfl fun l hn g0 => ?_
 simp (disch := omega) only [↓RA, RZ, simprocAttr]
 refine (sR H).eNew 2 [I 0, I 0] rfl rfl rfl a0z fun A1 H1 hS1 => ?_
 simp only [RT] at hS1
 simp (disch := omega) only [↓RA, RB, simprocAttr, hn, yX]
 refine hS1.ai [I 8, I 1, I 4, I 1, I 16, I 1, I 8, I 3, I 2, I 1, I 8, I 5] b9I b9G rfl rfl (by simp [Value.cells]) rfl rfl (by decide) (by decide) fun w1 H2 hS2 => ?_
 simp only [RT] at hS2
 simp (disch := omega) only [↓RA, RZ, simprocAttr, hn, g0]
 have hR : St prog H H2 [⟨ptr A1 0 2, 0, _⟩, ⟨w1, 2, lD.flatMap kpc⟩] := hS2
 have hL : lD.length = 6 := rfl
 have hk : k % 6 < 6 := eR _ (by decide)
 have hk2 : (k : Int).tmod 6 = ((k % 6 : Nat) : Int) := (eK k 6).symm
 try rw [hk2]
 simp (disch := omega) only [↓RA, RZ, simprocAttr, hn, (hR.av 1 rfl vL).idx, (hR.av 1 rfl vL).ag, kpc]
 refine hR.aa 0 rfl [I (iB lD (k % 6 : Nat)).1, I (iB lD (k % 6 : Nat)).2] rfl rfl a0z (by simp) fun H3 hS3 => ?_
 simp only [RT] at hS3
 simp (disch := omega) only [↓RA, RZ, simprocAttr, hn, c6p, hS3.ag 0 rfl]
 first | exact hS3.forget | exact ⟨rfl, hS3.forget⟩
theorem a6Z (k : Nat) : Fn prog 96 [.int .u8 k] H fun r H' => r = .agg #[I (iB lX (k % 16)).1, I (iB lX (k % 16)).2] ∧ St prog H H' [] := by
 refine .aY func96 rfl (by kernel_rfl) (m := 24) rfl fun l hn g0 => ?_
 simp (disch := omega) only [↓RA, RZ, simprocAttr]
 refine (sR H).eNew 2 [I 0, I 0] rfl rfl rfl a0z fun A1 H1 hS1 => ?_
 simp only [RT] at hS1
 simp (disch := omega) only [↓RA, RB, simprocAttr, hn, yX]
 refine hS1.ai [I 8, I 1, I 4, I 1, I 16, I 1, I 2, I 1, I 8, I 3, I 8, I 5, I 4, I 3, I 1, I 1, I 32, I 1, I 16, I 3, I 16, I 5, I 32, I 3, I 8, I 7, I 2, I 3, I 1, I 2, I 64, I 1] b9I b9G rfl rfl (by simp [Value.cells]) rfl rfl (by decide) (by decide) fun w1 H2 hS2 => ?_
 simp only [RT] at hS2
 simp (disch := omega) only [↓RA, RZ, simprocAttr, hn, g0]
 have hR : St prog H H2 [⟨ptr A1 0 2, 0, _⟩, ⟨w1, 2, lX.flatMap kpc⟩] := hS2
 have hL : lX.length = 16 := rfl
 have hk : k % 16 < 16 := eR _ (by decide)
 have hk2 : (k : Int).tmod 16 = ((k % 16 : Nat) : Int) := (eK k 16).symm
 try rw [hk2]
 simp (disch := omega) only [↓RA, RZ, simprocAttr, hn, (hR.av 1 rfl vL).idx, (hR.av 1 rfl vL).ag, kpc]
 refine hR.aa 0 rfl [I (iB lX (k % 16 : Nat)).1, I (iB lX (k % 16 : Nat)).2] rfl rfl a0z (by simp) fun H3 hS3 => ?_
 simp only [RT] at hS3
 simp (disch := omega) only [↓RA, RZ, simprocAttr, hn, c5M, hS3.ag 0 rfl]
 first | exact hS3.forget | exact ⟨rfl, hS3.forget⟩
end Go.Ds
namespace Go.Ds
open Go.Proofs Go.Proofs.Tryz
variable {H : Heap}
set_option maxRecDepth 10000
structure RPl where
 tone : Nat
 feet : Nat
 first : Int
 pipes : Nat
 w0 : Nat
 w1 : Nat
 w2 : Nat
 w3 : Nat
 w4 : Nat
 deriving Inhabited
def RPl.cells (p : RPl) : List Value := [.int .u8 p.tone, .int .u8 p.feet, .int .i8 p.first, .int .u8 p.pipes, .int .u8 p.w0, .int .u8 p.w1, .int .u8 p.w2, .int .u8 p.w3, .int .u8 p.w4]
def RPl.Ok (p : RPl) : Prop := p.tone < 256 ∧ p.feet < 256 ∧ -128 ≤ p.first ∧ p.first < 128 ∧ p.pipes < 256 ∧ p.w0 < 256 ∧ p.w1 < 256 ∧ p.w2 < 256 ∧ p.w3 < 256 ∧ p.w4 < 256
def RPl.wind (p : RPl) (j : Nat) : Nat := iB [p.w0, p.w1, p.w2, p.w3, p.w4] (j % 5)
theorem RPl.Ok.wind {p : RPl} (hp : p.Ok) (j : Nat) : p.wind j < 256 := by
 obtain ⟨_, _, _, _, _, h0, h1, h2, h3, h4⟩ := hp
 have : j % 5 = 0 ∨ j % 5 = 1 ∨ j % 5 = 2 ∨ j % 5 = 3 ∨ j % 5 = 4 := by omega
 unfold RPl.wind
 rcases this with e | e | e | e | e <;> rw [e] <;> assumption
def tK : List ByteArray := [⟨#[79, 112, 101, 110]⟩, ⟨#[70, 108, 117, 116, 101]⟩, ⟨#[82, 101, 101, 100]⟩]
theorem b2f (p : RPl) (hp : p.Ok) (i : Nat) (hi : i < 10) : Fn prog 47 [.agg #[.int .u8 p.tone, .int .u8 p.feet, .int .i8 p.first, .int .u8 p.pipes, .int .u8 p.w0, .int .u8 p.w1, .int .u8 p.w2, .int .u8 p.w3, .int .u8 p.w4], I i] H fun r H' =>
 ∃ wv, r = .agg #[.string ⟨#[82, UInt8.ofNat (48 + i)]⟩, .string (iB tK (p.tone % 3)), I (iB lX (p.feet % 16)).1, I (iB lX (p.feet % 16)).2, I p.first, wv] ∧
   St prog H H' [⟨wv, 1, (List.range (1 + p.pipes % 25)).map fun j => I (p.wind j)⟩] := by
 have hwb := fun j => hp.wind j
 obtain ⟨h1, h2, h3, h4, h5, _⟩ := hp
 refine .aD func47 rfl (by kernel_rfl) (m := 48) rfl fun l hn g0 g1 => ?_
 have hm : (i : Int).tmod 10 = i := ((eK i 10).symm).trans (by rw [fT hi])
 have ht : (p.tone : Int).tmod 3 = ((p.tone % 3 : Nat) : Int) := (eK p.tone 3).symm
 have ht3 : p.tone % 3 < 3 := eR _ (by decide)
 have htl : tK.length = 3 := rfl
 simp (disch := omega) only [↓RA, RB, simprocAttr, g0]
 refine (sR H).eNew 9 [(.int .u8 p.tone), (.int .u8 p.feet), (.int .i8 p.first), (.int .u8 p.pipes), (.int .u8 p.w0), (.int .u8 p.w1), (.int .u8 p.w2), (.int .u8 p.w3), (.int .u8 p.w4)] rfl rfl rfl b4y fun A1 H1 hS1 => ?_
 simp only [RT] at hS1
 simp (disch := omega) only [↓RA, RZ, simprocAttr]
 refine hS1.eNew 6 [(.string ⟨#[]⟩), (.string ⟨#[]⟩), I 0, I 0, I 0, (.slice none 0 0)] rfl rfl rfl a3c fun A2 H2 hS2 => ?_
 simp only [RT] at hS2
 simp (disch := omega) only [↓RA, simprocAttr]
 refine Wp.cH jZ [13, 14, 15, 16, 17, 18, 0, 1, 2, 3, 4, 5, 6, 7, 8, 9, 10, 11, 12, 19, 20, 21] [6, 7, 8, 9, 10, 11, 12, 13, 14, 15, 16, 17, 18, 0, 1, 2, 3, 4, 5, 19, 20, 21] ⟨true, [], [(11, 10), (17, 13), (18, 13)]⟩ [(4, 0), (5, 0), (9, 0), (15, 0), (15, 3)] (by kernel_rfl) (by kernel_rfl) (by kernel_rfl) ?_
 simp (disch := omega) only [↓RA, RZ, simprocAttr, hn, hS2.ld 0 rfl]
 refine hS2.cF (a6Z p.feet) fun H3 hS3 => ?_
 simp (disch := omega) only [↓RA, RZ, simprocAttr, hn, g1, hS3.ld 0 rfl, hm]
 refine hS3.ai [_] b0w b0t rfl rfl (by simp [Value.cells]) rfl rfl (by decide) (by decide) fun w1 H4 hS4 => ?_
 simp only [RT] at hS4
 simp (disch := omega) only [↓RA, RB, simprocAttr, hn, vQ (hS4.rd 2 rfl) nI.1 nI.2.1 nI.2.2, sH]
 refine hS4.ai [(.string ⟨#[79, 112, 101, 110]⟩), (.string ⟨#[70, 108, 117, 116, 101]⟩), (.string ⟨#[82, 101, 101, 100]⟩)] c3Z c3H rfl rfl (by simp [Value.cells]) rfl rfl (by decide) (by decide) fun w2 H5 hS5 => ?_
 simp only [RT] at hS5
 simp (disch := omega) only [↓RA, RZ, simprocAttr, hn, hS5.ld 0 rfl, ht]
 have hR : St prog H H5 [⟨ptr A1 0 9, 0, _⟩, ⟨ptr A2 0 6, 0, _⟩, ⟨w1, 1, _⟩, ⟨w2, 1, tK.flatMap (one Value.string)⟩] := hS5
 simp (disch := omega) only [↓RA, RZ, simprocAttr, hn, (hR.av 3 rfl (tC _)).idx, (hR.av 3 rfl (tC _)).ld, one, a4H]
 refine hR.eNew 6 [(.string ⟨#[]⟩), (.string ⟨#[]⟩), I 0, I 0, I 0, (.slice none 0 0)] rfl rfl rfl a3c fun A3 H6 hS6 => ?_
 simp only [RT] at hS6
 simp (disch := omega) only [↓RA, RB, simprocAttr, hn]
 refine hS6.aa 4 rfl [(.string ⟨#[82, UInt8.ofNat (48 + (i : Int)).toNat]⟩), (.string (iB tK (p.tone % 3 : Nat))), I (iB lX (p.feet % 16)).1, I (iB lX (p.feet % 16)).2, _, (.slice none 0 0)] rfl rfl a3c (by simp) fun H7 hS7 => ?_
 simp only [RT] at hS7
 simp (disch := omega) only [↓RA, RZ, simprocAttr, hn, hS2.ld 0 rfl, hS3.ld 0 rfl]
 have hN : St prog H H7 [⟨ptr A1 0 9, 0, _⟩, ⟨ptr A2 0 6, 0, _⟩, ⟨ptr A3 0 6, 0, [.string ⟨#[82, UInt8.ofNat (48 + (i : Int)).toNat]⟩, .string (iB tK (p.tone % 3)), I (iB lX (p.feet % 16)).1, I (iB lX (p.feet % 16)).2, I p.first, .slice none 0 0]⟩, ⟨.slice none 0 0, 1, []⟩] := (hS7.nil 0).pick [0, 1, 4, 5] (by decide) rfl
 refine Wp.al (fun n l H' => l.length = 48 ∧ get l 2 = (ptr A1 0 9) ∧ get l 4 = (ptr A2 0 6) ∧ get l 5 = (ptr A3 0 6) ∧ ∃ (j : Nat) (wv : Value), (n + j = 1 + p.pipes % 25) ∧ get l 6 = I j ∧ St prog H H' [⟨ptr A1 0 9, 0, [(.int .u8 p.tone), (.int .u8 p.feet), (.int .i8 p.first), (.int .u8 p.pipes), (.int .u8 p.w0), (.int .u8 p.w1), (.int .u8 p.w2), (.int .u8 p.w3), (.int .u8 p.w4)]⟩, ⟨ptr A2 0 6, 0, [(.string ⟨#[]⟩), (.string ⟨#[]⟩), I 0, I 0, I 0, (.slice none 0 0)]⟩, ⟨ptr A3 0 6, 0, [.string ⟨#[82, UInt8.ofNat (48 + (i : Int)).toNat]⟩, .string (iB tK (p.tone % 3)), I (iB lX (p.feet % 16)).1, I (iB lX (p.feet % 16)).2, I p.first, wv]⟩, ⟨wv, 1, (List.range j).map fun q => I (p.wind q)⟩]) (1 + p.pipes % 25) ?_ ?_
 ·simp (disch := omega) only [RB, RC, simprocAttr, hn]
  exact ⟨0, _, by omega, rfl, hN⟩
 rintro n l H8 ⟨hn, g2, g4, g5, j, wv, hj, g6, hS8⟩
 have hpp : (p.pipes : Int).tmod 25 = ((p.pipes % 25 : Nat) : Int) := (eK p.pipes 25).symm
 have hj5 : (j : Int).tmod 5 = ((j % 5 : Nat) : Int) := (eK j 5).symm
 have hw : (p.cells)[4 + j % 5]? = some (.int .u8 (p.wind j)) := by
  have : j % 5 = 0 ∨ j % 5 = 1 ∨ j % 5 = 2 ∨ j % 5 = 3 ∨ j % 5 = 4 := by omega
  unfold RPl.wind
  rcases this with e | e | e | e | e <;> rw [e] <;> rfl
 simp only [RPl.cells] at hw
 have hwj := hwb j
 simp (disch := omega) only [↓RA, RZ, simprocAttr, hn, g2, g6, hS8.ld 0 rfl, hpp]
 refine iA (fun q => ?_) (fun q => ?_)
 ·simp (disch := omega) only [↓RA, RC, simprocAttr, q]
  refine Wp.aO jZ [(1, 9)] (by kernel_rfl) (by kernel_rfl) ?_
  simp (disch := omega) only [↓RA, RZ, simprocAttr, hn, g2, g5, g6, hS8.ld 2 rfl, hS8.ld 0 rfl, hw, hj5]
  refine hS8.ai [_] a3l a5Z rfl rfl (by simp [Value.cells]) rfl rfl (by decide) (by decide) fun w3 H9 hS9 => ?_
  simp only [RT] at hS9
  simp (disch := omega) only [↓RA, RZ, simprocAttr, hn]
  refine hS9.aq 3 rfl (hS9.rd 4 rfl) a3l (by first | (simp; done) | (simp; omega)) fun w4 H10 hS10 => ?_
  simp only [RT] at hS10
  simp (disch := omega) only [↓RA, RZ, simprocAttr, hn, g5]
  refine hS10.aa 2 rfl [w4] (by rw [(hS10.rd 3 rfl).cells.1]) (by simp [(hS10.rd 3 rfl).cells.2.1]) c4f (by simp) fun H11 hS11 => ?_
  simp only [RT] at hS11
  simp (disch := omega) only [↓RA, RZ, simprocAttr, hn, g2, g4, g5, g6, hS9.ld 2 rfl]
  refine ⟨n - 1, by omega, j + 1, w4, by omega, rfl, ?_⟩
  rw [ez, dA]
  exact hS11.pick [0, 1, 2, 3] (by decide) rfl
 simp (disch := omega) only [↓RA, RZ, simprocAttr, hn, g4, g5, hS8.ag 2 rfl, q]
 refine hS8.aa 1 rfl [(.string ⟨#[82, UInt8.ofNat (48 + (i : Int)).toNat]⟩), (.string (iB tK (p.tone % 3))), I (iB lX (p.feet % 16)).1, I (iB lX (p.feet % 16)).2, I p.first, wv] rfl (by simp [OC, (hS8.rd 3 rfl).cells.2.1]) a3c (by simp) fun H12 hS12 => ?_
 simp only [RT] at hS12
 simp (disch := omega) only [↓RA, RZ, simprocAttr, g4, c5J, hS12.ag 1 rfl, q]
 have hjj : j = 1 + p.pipes % 25 := by omega
 subst hjj
 have he : (48 + (i : Int)).toNat = 48 + i := by omega
 exact ⟨wv, by rw [he], hS12.pick [3] (by decide) rfl⟩
end Go.Ds
namespace Go.Ds
open Go.Proofs
variable {P : Program} {H : Heap} {α : Type} {n : Nat} {cel : α → List Value} {v : Value} {xs : List α} {X Y : Nat → Prop}
theorem RdAt.lt {size : Nat} {cs : List Value} (h : RdAt H v size cs) {B : Nat} (hb : kJ v = some B) : B < H.length := by
 rcases h with ⟨h1, _⟩ | ⟨A, i, e, row, ty, rw, lo, ver, n, h, _, _, _, _, _, h7⟩
 ·rw [h1] at hb; simp [kJ] at hb
 ·rw [h7] at hb
  simp [kJ] at hb
  exact hb ▸ jG h
theorem RdAt.cI {H' : Heap} {size : Nat} {cs : List Value} (h : RdAt H v size cs) (hk : ∀ B, kJ v = some B → iP H' B = iP H B) : RdAt H' v size cs := by
 rcases h with h | ⟨A, i, e, row, ty, rw, lo, ver, n, h, h2, h3, h4, h5, h6, h7⟩
 ·exact .inl h
 ·exact .inr ⟨A, i, e, row, ty, rw, lo, ver, n, by rw [hk A (by rw [h7]; rfl), h], h2, h3, h4, h5, h6, h7⟩
theorem St.ax {B0 : Base} {os : List Ob} (hS : St P B0 H os) : ∃ B : Base, B = ⟨H, pC os⟩ ∧ St P B H os := ⟨_, rfl, hS.aH⟩
theorem St.aj {B0 B : Base} {H1 : Heap} {os os1 : List Ob} (hS : St P B0 H os) (hB : B = ⟨H, pC os⟩) (h1 : St P B H1 os1) : St P B0 H1 os1 := by
 subst hB
 exact hS.bE h1
def Slx (n : Nat) (cel : α → List Value) (H : Heap) (X : Nat → Prop) (v : Value) (xs : List α) : Prop := Sl n cel H v xs ∧ ∀ B, kJ v = some B → X B
def Kept (H : Heap) (X : Nat → Prop) (H' : Heap) (Y : Nat → Prop) : Prop := ∀ B, X B → B < H.length → iP H' B = iP H B ∧ Y B
theorem Slx.step {H' : Heap} (h : Slx n cel H X v xs) (hk : Kept H X H' Y) : Slx n cel H' Y v xs :=
 ⟨⟨h.1.rd.cI fun B hb => (hk B (h.2 B hb) (h.1.rd.lt hb)).1, h.1.hc, h.1.pos⟩, fun B hb => (hk B (h.2 B hb) (h.1.rd.lt hb)).2⟩
def nb (vs : List Value) : Nat → Prop := fun B => ∀ v ∈ vs, kJ v ≠ some B
theorem a9d (os : List Ob) (B : Nat) : nb (os.map (·.v)) B ↔ ¬ pC os B := by
 unfold nb pC
 constructor
 ·rintro h ⟨o, ho, hb⟩
  exact h o.v (eV ho) hb
 ·intro h v hv hb
  obtain ⟨o, ho, rfl⟩ := dy.1 hv
  exact h ⟨o, ho, hb⟩
theorem St.kept {B : Base} {H' : Heap} {os os' : List Ob} (hS : St P B H' os') (hB : B = ⟨H, pC os⟩) : Kept H (nb (os.map (·.v))) H' (nb (os'.map (·.v))) := by
 subst hB
 intro B hX hB
 rw [a9d] at hX ⊢
 exact ⟨hS.old B hB hX, fun ⟨o, ho, hb⟩ => by
  rcases hS.new o ho B hb with h | h
  ·have h : H.length ≤ B := h
   omega
  ·exact hX h⟩
theorem St.aJ {H0 : Base} {H' : Heap} {os : List Ob} (hS : St P H0 H os) : Kept H' (fun B => H.length ≤ B) H' (nb (os.map (·.v))) := by
 intro B hX hB
 rw [a9d]
 exact ⟨rfl, fun ⟨o, ho, hb⟩ => by
  have := (hS.own o ho).lt hb
  omega⟩
theorem Kept.trans {H' H'' : Heap} {X Y Z : Nat → Prop} (h : Kept H X H' Y) (h' : Kept H' Y H'' Z) (hl : H.length ≤ H'.length) : Kept H X H'' Z :=
 fun B hX hB => by
  obtain ⟨e, hY⟩ := h B hX hB
  obtain ⟨e', hZ⟩ := h' B hY (dO hB hl)
  exact ⟨e'.trans e, hZ⟩
theorem Slx.any (h : Slx n cel H X v xs) : Slx n cel H (fun _ => True) v xs := ⟨h.1, fun _ _ => trivial⟩
theorem St.cW {H0 : Base} {os os' : List Ob} (hS : St P H0 H os) (i : Nat) {m : Nat} (ho : os[i]? = some ⟨v, m + 1, xs.flatMap cel⟩) (hc : ∀ x, (cel x).length = m + 1) (idx : List Nat) (hi : i ∉ idx) (h : idx.map (os[·]?) = os'.map some) :
 Slx (m + 1) cel H (nb (os'.map (·.v))) v xs := by
 refine ⟨hS.av i ho hc, fun B hb => ?_⟩
 rw [a9d]
 rintro ⟨o, hmem, hob⟩
 have : some o ∈ idx.map (os[·]?) := by rw [h]; exact eV hmem
 obtain ⟨j, hj, hj2⟩ := dy.1 this
 have hne : i ≠ j := fun e => hi (e ▸ hj)
 have hpw := ec.1 hS.sep
 obtain ⟨hi1, ei⟩ := dw.1 ho
 obtain ⟨hj1, ej⟩ := dw.1 hj2
 rcases fu hne with hh | hh
 ·have := hpw i j hi1 hj1 hh B (by rw [ei]; exact hb)
  rw [ej] at this
  exact this hob
 ·have := hpw j i hj1 hi1 hh B (by rw [ej]; exact hob)
  rw [ei] at this
  exact this hb
theorem St.cj {H0 : Heap} {os : List Ob} (hS : St P H0 H os) (i : Nat) {m : Nat} (ho : os[i]? = some ⟨v, m + 1, xs.flatMap cel⟩) (hc : ∀ x, (cel x).length = m + 1) : Slx (m + 1) cel H (fun B => H0.length ≤ B) v xs :=
 ⟨hS.av i ho hc, fun B hb => by
  rcases hS.new _ (dT ho) B hb with h | h
  ·exact h
  ·exact h.elim⟩
def Seg.Ix (H : Heap) (X : Nat → Prop) (s : Seg) : Prop := Slx 2 Drw.cells H X s.dv s.draws ∧ s.draws.length < 1000000000
def Stp.Ix (H : Heap) (X : Nat → Prop) (s : Stp) : Prop := Slx 3 Seg.cells H X s.gv s.segs ∧ (∀ g ∈ s.segs, g.Ix H X) ∧ s.segs.length < 1000000000
def Dvn.Ix (H : Heap) (X : Nat → Prop) (d : Dvn) : Prop := Slx 4 Stp.cells H X d.sv d.stops ∧ (∀ s ∈ d.stops, s.Ix H X) ∧ d.stops.length < 1000000000
def Rk.Ix (H : Heap) (X : Nat → Prop) (r : Rk) : Prop := Slx 1 (one I) H X r.wv r.wind ∧ r.wind.length < 1000000000
section
variable {H' : Heap}
theorem Seg.Ix.step {s : Seg} (h : s.Ix H X) (hk : Kept H X H' Y) : s.Ix H' Y := ⟨h.1.step hk, h.2⟩
theorem Stp.Ix.step {s : Stp} (h : s.Ix H X) (hk : Kept H X H' Y) : s.Ix H' Y := ⟨h.1.step hk, fun g hg => (h.2.1 g hg).step hk, h.2.2⟩
theorem Dvn.Ix.step {d : Dvn} (h : d.Ix H X) (hk : Kept H X H' Y) : d.Ix H' Y := ⟨h.1.step hk, fun g hg => (h.2.1 g hg).step hk, h.2.2⟩
theorem Rk.Ix.step {r : Rk} (h : r.Ix H X) (hk : Kept H X H' Y) : r.Ix H' Y := ⟨h.1.step hk, h.2⟩
theorem Seg.Ix.in {s : Seg} (h : s.Ix H X) : s.In H := ⟨h.1.1, h.2⟩
theorem Stp.Ix.in {s : Stp} (h : s.Ix H X) : s.In H := ⟨h.1.1, fun g hg => (h.2.1 g hg).in, h.2.2⟩
theorem Dvn.Ix.in {d : Dvn} (h : d.Ix H X) : d.In H := ⟨h.1.1, fun g hg => (h.2.1 g hg).in, h.2.2⟩
theorem Rk.Ix.in {r : Rk} (h : r.Ix H X) : r.In H := ⟨h.1.1, h.2⟩
end
theorem a1L {α : Type} (f : α → Value) (l : List α) : l.flatMap (one f) = l.map f := by
 induction l with
 | nil => rfl
 | cons a l ih => rw [dK, ih]; rfl
end Go.Ds
namespace Go.Ds
open Go.Proofs
theorem a8z (m : Nat) (n s : Int) (h0 : 0 ≤ n) (h1 : n < m) (h2 : -127 ≤ s) (h3 : s ≤ 127) : lK m [⟨n, s⟩] = 0 := by
 rw [lK, if_neg (by simp)]
 refine kU _ _ fun j hj => ?_
 have hj0 : j = 0 := by simpa using hj
 subst hj0
 have e : iB ([⟨n, s⟩] : List Drw) 0 = ⟨n, s⟩ := rfl
 unfold kK
 rw [e, if_neg (by simp only; omega), if_neg (by simp only; omega), if_neg (by simp)]
theorem c1g (m : Nat) (n s t : Int) (h0 : 0 ≤ n) (h1 : n < m) (h2 : -127 ≤ s) (h3 : s ≤ 127) (h4 : -127 ≤ t) (h5 : t ≤ 127) (hne : s ≠ t) : lK m [⟨n, s⟩, ⟨n, t⟩] = 0 := by
 rw [lK, if_neg (by simp)]
 refine kU _ _ fun j hj => ?_
 have hj0 : j = 0 ∨ j = 1 := by
  have : j < 2 := by simpa using hj
  omega
 rcases hj0 with rfl | rfl
 ·have e : iB ([⟨n, s⟩, ⟨n, t⟩] : List Drw) 0 = ⟨n, s⟩ := rfl
  unfold kK
  rw [e, if_neg (by simp only; omega), if_neg (by simp only; omega), if_neg (by simp)]
 ·have e : iB ([⟨n, s⟩, ⟨n, t⟩] : List Drw) 1 = ⟨n, t⟩ := rfl
  unfold kK
  rw [e, if_neg (by simp only; omega), if_neg (by simp only; omega), if_neg (by simp [eH hne])]
theorem a7v (lo hi a b : Int) (m : Nat) (dv : Value) (ds : List Drw) (h1 : lo ≤ a) (h2 : a ≤ b) (h3 : b ≤ hi) (hd : lK m ds = 0) : lO (lA lo hi m [⟨a, b, dv, ds⟩]) 1 = 0 := by
 refine kU _ _ fun j hj => ?_
 have hj0 : j = 0 := by omega
 subst hj0
 have e : iB ([⟨a, b, dv, ds⟩] : List Seg) 0 = ⟨a, b, dv, ds⟩ := rfl
 unfold lA
 rw [e, if_neg (by simp only; omega), if_neg (by simp only; omega)]
 exact hd
theorem b9F (lo hi c : Int) (m : Nat) (dv dv' : Value) (ds ds' : List Drw) (h1 : lo < c) (h2 : c ≤ hi) (hd : lK m ds = 0) (hd' : lK m ds' = 0) : lO (lA lo hi m [⟨lo, c - 1, dv, ds⟩, ⟨c, hi, dv', ds'⟩]) 2 = 0 := by
 refine kU _ _ fun j hj => ?_
 have e0 : iB ([⟨lo, c - 1, dv, ds⟩, ⟨c, hi, dv', ds'⟩] : List Seg) 0 = ⟨lo, c - 1, dv, ds⟩ := rfl
 have e1 : iB ([⟨lo, c - 1, dv, ds⟩, ⟨c, hi, dv', ds'⟩] : List Seg) 1 = ⟨c, hi, dv', ds'⟩ := rfl
 have hj0 : j = 0 ∨ j = 1 := by omega
 rcases hj0 with rfl | rfl
 ·unfold lA
  rw [e0, if_neg (by simp only; omega), if_neg (by simp only; omega)]
  exact hd
 ·unfold lA
  rw [e1, show (1 : Nat) - 1 = 0 from rfl, e0, if_neg (by simp only; omega), if_neg (by simp only; omega)]
  exact hd'
def nm (c : UInt8) (i : Nat) : ByteArray := ⟨#[c, UInt8.ofNat (48 + i)]⟩
theorem a5b {c : UInt8} {i j : Nat} (hi : i < 10) (hj : j < 10) (h : nm c i = nm c j) : i = j := by
 unfold nm at h
 have h2 : (#[c, UInt8.ofNat (48 + i)] : Array UInt8) = #[c, UInt8.ofNat (48 + j)] := congrArg ByteArray.data h
 have h3 : UInt8.ofNat (48 + i) = UInt8.ofNat (48 + j) := by simpa using h2
 have h4 := congrArg UInt8.toNat h3
 simp only [UInt8.toNat_ofNat'] at h4
 omega
theorem a1i {c : UInt8} (hc : c = 82 ∨ c = 68 ∨ c = 83 ∨ c = 67) {i : Nat} (hi : i < 10) : kY (nm c i) = true := by
 have h : i = 0 ∨ i = 1 ∨ i = 2 ∨ i = 3 ∨ i = 4 ∨ i = 5 ∨ i = 6 ∨ i = 7 ∨ i = 8 ∨ i = 9 := by omega
 rcases hc with rfl | rfl | rfl | rfl <;> rcases h with rfl | rfl | rfl | rfl | rfl | rfl | rfl | rfl | rfl | rfl <;> decide
structure StpOk (m : Nat) (lo hi : Int) (i : Nat) (s : Stp) : Prop where
 name : s.name = nm 83 i
 feet : (s.num, s.den) ∈ lD
 pos : 0 < s.segs.length
 len : s.segs.length ≤ 2
 segs : lO (lA lo hi m s.segs) s.segs.length = 0
theorem b5b {p : Int × Int} (h : p ∈ lD) : nE p.1 p.2 = 0 := by
 have : lD.all (fun p => decide (nE p.1 p.2 = 0)) = true := by decide
 exact of_decide_eq_true (dz.1 this p h)
theorem b3M {p : Int × Int} (h : p ∈ lX) : nE p.1 p.2 = 0 := by
 have : lX.all (fun p => decide (nE p.1 p.2 = 0)) = true := by decide
 exact of_decide_eq_true (dz.1 this p h)
theorem StpOk.stopE {rs : List Rk} {lo hi : Int} {i : Nat} {s : Stp} (h : StpOk rs.length lo hi i s) (hi10 : i < 10) (hp : sG rs lo hi = 0) : stopE rs lo hi s = 0 := by
 unfold Go.Ds.stopE
 rw [if_neg (by rw [hp]; simp), if_neg (by rw [h.name, a1i (by simp) hi10]; simp), if_neg (by rw [b5b h.feet]; simp), if_neg (by have := h.pos; omega), if_neg (by have := h.len; omega)]
 exact h.segs
structure RkOk (i : Nat) (r : Rk) : Prop where
 name : r.name = nm 82 i
 tone : r.tone ∈ tK
 feet : (r.num, r.den) ∈ lX
 first : -128 ≤ r.first ∧ r.first < 128
 pos : 0 < r.wind.length
 len : r.wind.length ≤ 25
 wind : ∀ x ∈ r.wind, 0 ≤ x ∧ x < 256
theorem b5n {s : ByteArray} (h : s ∈ tK) : kY s = true := by
 have : tK.all (fun s => kY s) = true := by decide
 exact dz.1 this s h
theorem RkOk.rankE {i : Nat} {r : Rk} (h : RkOk i r) (hi : i < 10) : rankE r = 0 := by
 have hf := h.first
 have hp := h.pos
 have hl := h.len
 have hw : a0i r.wind = 0 := by
  unfold a0i
  rw [if_neg]
  intro hh
  rw [gA] at hh
  obtain ⟨x, hx, hp⟩ := hh
  have := h.wind x hx
  simp only [eF, decide_eq_true_eq] at hp
  omega
 unfold Go.Ds.rankE
 rw [if_neg (by rw [h.name, a1i (by simp) hi, b5n h.tone]; simp), if_neg (by rw [b3M h.feet]; simp), if_neg (by omega), if_neg (by omega), if_neg (by omega), hw]
theorem a1M {lo hi : Int} (h0 : 0 ≤ lo) (h1 : lo ≤ hi) (h2 : hi ≤ 127) : qV lo hi = 0 := by
 unfold qV
 rw [if_neg (by omega), if_neg (by omega)]
theorem c1L {rs : List Rk} {lo hi : Int} (hl : rs.length ≤ 3) (hr : ∀ j, j < rs.length → RkOk j (iB rs j)) (h0 : 0 ≤ lo) (h1 : lo ≤ hi) (h2 : hi ≤ 127) : sG rs lo hi = 0 := by
 have e := kU (fun j => Go.Ds.rankE (iB rs j)) rs.length fun j hj => (hr j hj).rankE (by omega)
 unfold sG
 rw [if_neg (by omega), if_neg (by rw [e]; simp)]
 exact a1M h0 h1 h2
structure DvOk (m i : Nat) (d : Dvn) : Prop where
 name : d.name = nm 68 i
 lo : 36 ≤ d.lo
 le : d.lo ≤ d.hi
 hi : d.hi ≤ 60
 wide : d.hi ≤ d.lo + 8
 len : d.stops.length ≤ 3
 stops : ∀ k, k < d.stops.length → StpOk m d.lo d.hi k (iB d.stops k)
structure CpOk (n i : Nat) (c : Cpl) : Prop where
 name : c.name = nm 67 i
 src : 0 ≤ c.src ∧ c.src < n
 dst : 0 ≤ c.dst ∧ c.dst < n
 shift : -24 ≤ c.shift ∧ c.shift ≤ 24
 ne : ¬ (c.src = c.dst ∧ c.shift = 0)
def b6g : ByteArray := ⟨#[79, 114, 103, 97, 110]⟩
structure OrgOk (o : Org) : Prop where
 name : o.name = b6g
 rpos : 0 < o.ranks.length
 rlen : o.ranks.length ≤ 3
 ranks : ∀ j, j < o.ranks.length → RkOk j (iB o.ranks j)
 dpos : 0 < o.dvs.length
 dlen : o.dvs.length ≤ 3
 dvs : ∀ j, j < o.dvs.length → DvOk o.ranks.length j (iB o.dvs j)
 clen : o.cpls.length ≤ 3
 cpls : ∀ j, j < o.cpls.length → CpOk o.dvs.length j (iB o.cpls j)
theorem b3o : kY b6g = true := by decide
theorem DvOk.divE {rs : List Rk} {i : Nat} {d : Dvn} (h : DvOk rs.length i d) (hl : rs.length ≤ 3) (hr : ∀ j, j < rs.length → RkOk j (iB rs j)) : divE rs d = 0 := by
 have h1 := h.lo
 have h2 := h.le
 have h3 := h.hi
 have h4 := h.len
 unfold Go.Ds.divE
 rw [if_neg (by rw [a1M (by omega) h2 (by omega)]; simp), if_neg (by omega)]
 refine kU _ _ fun j hj => ?_
 have hs := h.stops j hj
 unfold pA
 rw [if_neg (by rw [hs.stopE (by omega) (c1L hl hr (by omega) h2 (by omega))]; simp), if_neg]
 rintro ⟨q, hq, e⟩
 rw [hs.name, (h.stops q (by omega)).name] at e
 have := a5b (by omega) (by omega) e
 omega
theorem OrgOk.organE {o : Org} (h : OrgOk o) : organE o = 0 := by
 have h1 := h.rpos
 have h2 := h.rlen
 have h3 := h.dpos
 have h4 := h.dlen
 have h5 := h.clen
 have e1 : lO (nP o.ranks) o.ranks.length = 0 := kU _ _ fun j hj => by
  unfold nP
  rw [if_neg (by rw [(h.ranks j hj).rankE (by omega)]; simp), if_neg]
  rintro ⟨q, hq, e⟩
  rw [(h.ranks j hj).name, (h.ranks q (by omega)).name] at e
  have := a5b (by omega) (by omega) e
  omega
 have e2 : lO (tO o.ranks o.dvs) o.dvs.length = 0 := kU _ _ fun j hj => by
  unfold tO
  rw [if_neg (by rw [(h.dvs j hj).name, a1i (by simp) (by omega)]; simp), if_neg]
  ·exact (h.dvs j hj).divE h2 h.ranks
  rintro ⟨q, hq, e⟩
  rw [(h.dvs j hj).name, (h.dvs q (by omega)).name] at e
  have := a5b (by omega) (by omega) e
  omega
 have e3 : tM (kps o.dvs) o.cpls = 0 := by
  have hk : (kps o.dvs).length = o.dvs.length := by simp [kps]
  unfold tM
  rw [if_neg (by omega), if_neg]
  ·refine kU _ _ fun j hj => ?_
   have hc := h.cpls j hj
   have c1 := hc.src
   have c2 := hc.dst
   have c3 := hc.shift
   unfold mR
   simp only
   rw [if_neg (by rw [hc.name, a1i (by simp) (by omega)]; simp), if_neg, if_neg (by rw [hk]; omega), if_neg (by omega), if_neg hc.ne]
   rintro ⟨q, hq, e⟩
   rw [hc.name, (h.cpls q (by omega)).name] at e
   have := a5b (by omega) (by omega) e
   omega
  ·rintro ⟨k, hk, hne⟩
   unfold kps at hk
   obtain ⟨d, hd, rfl⟩ := dy.1 hk
   obtain ⟨j, hj, rfl⟩ := dR.1 hd
   have hd := h.dvs j hj
   rw [jR o.dvs j hj] at hd
   have h1 := hd.lo
   have h2 := hd.le
   have h3 := hd.hi
   exact hne (a1M (by omega) h2 (by omega))
 unfold Go.Ds.organE
 rw [if_neg (by rw [h.name, b3o]; simp), if_neg (by omega), if_neg (by rw [e1]; simp), if_neg (by omega), if_neg (by omega), if_neg (by rw [e2]; simp)]
 exact e3
def jT (x : Int × Int) : List Value := [I x.1, I x.2]
def pr (l : List (Int × Int)) : List Value := l.flatMap jT
theorem kE (x : Int × Int) : (jT x).length = 2 := rfl
theorem iF (l : List (Int × Int)) : (pr l).length = l.length * 2 := iK kE l
def le2 (x y : Int × Int) : Bool := decide (x.1 < y.1) || (decide (x.1 = y.1) && decide (x.2 ≤ y.2))
theorem nY (x y : Int × Int) : le2 x y = true ↔ x.1 < y.1 ∨ (x.1 = y.1 ∧ x.2 ≤ y.2) := by
 unfold le2
 simp only [eF, dc, decide_eq_true_eq]
def wB (es : List (Int × Int)) : List (Int × Int) := es.mergeSort le2
theorem pS (es : List (Int × Int)) : (wB es).Perm es := List.mergeSort_perm _ _
theorem oU (es : List (Int × Int)) : (wB es).length = es.length := (pS es).length_eq
theorem a2r (es : List (Int × Int)) : (wB es).Pairwise fun a b => le2 a b = true := by
 unfold wB
 refine List.pairwise_mergeSort ?_ ?_ _
 ·intro a b c h1 h2
  rw [nY] at *
  omega
 ·intro a b
  rw [eF, nY, nY]
  omega
def cf2 (x y : Int × Int) : Int := if x.1 < y.1 then -1 else if y.1 < x.1 then 1 else if x.2 < y.2 then -1 else if y.2 < x.2 then 1 else 0
def yL {α : Type} [Inhabited α] [DecidableEq α] (es : List α) (m : Nat) : List α := ((List.range m).filter fun i => decide (i = 0 ∨ iB es i ≠ iB es (i - 1))).map fun i => iB es i
def dd {α : Type} [Inhabited α] [DecidableEq α] (es : List α) : List α := yL es es.length
section
variable {α : Type} [Inhabited α] [DecidableEq α]
theorem rZ (es : List α) (m : Nat) : yL es (m + 1) = yL es m ++ (if m = 0 ∨ iB es m ≠ iB es (m - 1) then [iB es m] else []) := by
 unfold yL
 rw [ez, ew, dA]
 congr 1
 by_cases h : m = 0 ∨ iB es m ≠ iB es (m - 1)
 ·rw [if_pos h]
  simp only [List.filter_cons, List.filter_nil, decide_eq_true h, if_true, ef, fY]
 ·rw [if_neg h]
  simp only [List.filter_cons, List.filter_nil, decide_eq_false h, dW, if_false, fY]
theorem c2y (es : List α) (m : Nat) : (yL es m).length ≤ m := by
 unfold yL
 rw [dF]
 refine dI (dS _ _) ?_
 simp
theorem kI (es : List α) (m : Nat) (h : m < es.length) : es.take (m + 1) = es.take m ++ [iB es m] := by
 rw [jR es m h, List.take_succ_eq_append_getElem h]
theorem sN (es : List α) : ∀ m, m ≤ es.length → (∀ j, 0 < j → j < m → iB es j ≠ iB es (j - 1)) → yL es m = es.take m
 | 0, _, _ => by simp [yL]
 | m + 1, hm, h => by
   have ih := sN es m (by omega) fun j h1 h2 => h j h1 (by omega)
   rw [rZ, ih, kI es m (by omega), if_pos]
   by_cases h0 : m = 0
   ·exact .inl h0
   ·exact .inr (h m (by omega) (by omega))
end
theorem tW {v : Value} {n lo k b : Nat} (h : kJ (kT v n lo k) = some b) : kJ v = some b := by
 unfold kT at h
 split at h <;> exact h
theorem jN (a b : List (Int × Int)) : pr (a ++ b) = pr a ++ pr b := dN
structure Reg where
 stops : List Nat
 cpl : Nat
 off : Nat
 deriving Inhabited, DecidableEq
def u64 (n : Nat) : Value := .int .u64 n
def Reg.cells (r : Reg) (sv : Value) : List Value := [sv, u64 r.cpl, u64 r.off]
def Reg.Ok (r : Reg) : Prop := r.stops.length < 1000000000 ∧ (∀ x ∈ r.stops, x < 18446744073709551616) ∧ r.cpl < 18446744073709551616 ∧ r.off < 18446744073709551616
def Reg.In (H : Heap) (r : Reg) (sv : Value) : Prop := Sl 1 (one u64) H sv r.stops ∧ r.Ok
theorem Reg.In.ab {P : Program} {H H0 : Heap} {os : List Ob} {r : Reg} {sv : Value} (h : r.In H0 sv) (hS : St P H0 H os) : r.In H sv := ⟨hS.sl h.1, h.2⟩
abbrev Ct := Int × Int
abbrev vR (n : Int) : Int := IntKind.wrap .i64 n
def rO (o : Org) (c : Ct) : Bool := decide (0 ≤ c.1) && decide (c.1 < o.dvs.length) && decide ((iB o.dvs c.1.toNat).lo ≤ c.2) && decide (c.2 ≤ (iB o.dvs c.1.toNat).hi)
def a0K (o : Org) (c : Ct) : Int := if c.1 < 0 ∨ o.dvs.length ≤ c.1 then 10 else if c.2 < (iB o.dvs c.1.toNat).lo ∨ (iB o.dvs c.1.toNat).hi < c.2 then 23 else 0
theorem uA (o : Org) (c : Ct) : a0K o c = 0 ↔ rO o c = true := by
 unfold a0K rO
 by_cases h1 : c.1 < 0 ∨ o.dvs.length ≤ c.1
 ·rw [if_pos h1]
  simp
  omega
 ·rw [if_neg h1]
  by_cases h2 : c.2 < (iB o.dvs c.1.toNat).lo ∨ (iB o.dvs c.1.toNat).hi < c.2
  ·rw [if_pos h2]
   simp
   omega
  ·rw [if_neg h2]
   simp
   omega
def to1 (x : Cpl) (c : Ct) : Ct := (x.dst, vR (c.2 + x.shift))
def a1d (cp : Nat) (thr : Bool) (c : Ct) (x : Cpl) (i : Nat) : Bool := cp.testBit i && decide (x.src = c.1) && (!thr || x.thr)
def step1 (o : Org) (cp : Nat) (thr : Bool) (c : Ct) (q : List Ct) (i : Nat) : List Ct :=
 if a1d cp thr c (iB o.cpls i) i && rO o (to1 (iB o.cpls i) c) && !decide (to1 (iB o.cpls i) c ∈ q) then q ++ [to1 (iB o.cpls i) c] else q
def stepN (o : Org) (cp : Nat) (thr : Bool) (c : Ct) (q : List Ct) (n : Nat) : List Ct := (List.range n).foldl (step1 o cp thr c) q
def stepF (o : Org) (cp : Nat) (thr : Bool) (c : Ct) (q : List Ct) : List Ct := stepN o cp thr c q o.cpls.length
theorem nR (o : Org) (cp : Nat) (thr : Bool) (c : Ct) (q : List Ct) (n : Nat) : stepN o cp thr c q (n + 1) = step1 o cp thr c (stepN o cp thr c q n) n := by
 unfold stepN
 rw [ez, gx]
 rfl
def Que (o : Org) (q : List Ct) : Prop := q.Nodup ∧ ∀ c ∈ q, rO o c = true
theorem Que.nil (o : Org) : Que o [] := ⟨.nil, by simp⟩
theorem Que.step1 {o : Org} {q : List Ct} (h : Que o q) (cp : Nat) (thr : Bool) (c : Ct) (i : Nat) : Que o (step1 o cp thr c q i) := by
 unfold Go.Ds.step1
 split
 ·rename_i hh
  simp only [dc, dM, decide_eq_false_iff_not] at hh
  refine ⟨?_, ?_⟩
  ·rw [List.nodup_append]
   exact ⟨h.1, by simp, fun a ha b hb e => hh.2 (by simp at hb; rw [← hb, ← e]; exact ha)⟩
  ·intro x hx
   rcases dJ.1 hx with hx | hx
   ·exact h.2 x hx
   ·simp at hx
    rw [hx]
    exact hh.1.2
 ·exact h
theorem Que.stepN {o : Org} {q : List Ct} (h : Que o q) (cp : Nat) (thr : Bool) (c : Ct) : ∀ n, Que o (stepN o cp thr c q n)
 | 0 => h
 | n + 1 => by rw [nR]; exact (h.stepN cp thr c n).step1 cp thr c n
theorem Que.stepF {o : Org} {q : List Ct} (h : Que o q) (cp : Nat) (thr : Bool) (c : Ct) : Que o (stepF o cp thr c q) := h.stepN cp thr c _
theorem a7r : ∀ (N : Nat) (l : List Nat), l.Nodup → (∀ i ∈ l, i < N) → l.length ≤ N
 | 0, l, hn, h => by
   cases l with
   | nil => simp
   | cons a l => exact absurd (h a (by simp)) (dL _)
 | N + 1, l, hn, h => by
   have h1 : (l.erase N).length ≤ N := by
    refine a7r N _ (hn.erase N) fun i hi => ?_
    have h2 := (List.Nodup.mem_erase_iff hn).1 hi
    have := h i h2.2
    omega
   rw [List.length_erase] at h1
   split at h1 <;> omega
theorem vF {f : Nat → Int} {n : Nat} (h : lO f n = 0) : ∀ j, j < n → f j = 0 := by
 intro j hj
 unfold lO at h
 cases hf : (List.range n).find? (fun j => decide (f j ≠ 0)) with
 | some i =>
   rw [hf] at h
   have := List.find?_some hf
   simp only [decide_eq_true_eq] at this
   exact absurd h this
 | none =>
   rw [gR] at hf
   have := hf j (dB.2 hj)
   simpa using this
structure Org.Fine (o : Org) : Prop where
 dpos : 0 < o.dvs.length
 dlen : o.dvs.length ≤ 8
 rlen : o.ranks.length ≤ 60
 keys : ∀ j, j < o.dvs.length → 0 ≤ (iB o.dvs j).lo ∧ (iB o.dvs j).lo ≤ (iB o.dvs j).hi ∧ (iB o.dvs j).hi ≤ 127
 stops : ∀ j, j < o.dvs.length → (iB o.dvs j).stops.length ≤ 60
 clen : o.cpls.length ≤ 40
 draws : ∀ j, j < o.dvs.length → ∀ s ∈ (iB o.dvs j).stops, ∀ g ∈ s.segs, g.draws.length ≤ 8
theorem Org.bg {o : Org} (h : organE o = 0) : o.Fine := by
 unfold organE at h
 split at h
 ·omega
 split at h
 ·omega
 rename_i _ h2
 split at h
 ·rename_i hh; exact absurd h hh
 split at h
 ·omega
 rename_i h4
 split at h
 ·omega
 rename_i h5
 split at h
 ·rename_i hh; exact absurd h hh
 rename_i h6
 have h6 := dG.1 h6
 have hd : ∀ j, j < o.dvs.length → (0 ≤ (iB o.dvs j).lo ∧ (iB o.dvs j).lo ≤ (iB o.dvs j).hi ∧ (iB o.dvs j).hi ≤ 127) ∧ (iB o.dvs j).stops.length ≤ 60 ∧ ∀ s ∈ (iB o.dvs j).stops, ∀ g ∈ s.segs, g.draws.length ≤ 8 := by
  intro j hj
  have e := vF h6 j hj
  unfold tO at e
  split at e
  ·omega
  split at e
  ·omega
  unfold divE at e
  split at e
  ·rename_i hh; exact absurd e hh
  rename_i hc
  have hc := dG.1 hc
  split at e
  ·omega
  unfold qV at hc
  split at hc
  ·omega
  split at hc
  ·omega
  refine ⟨by omega, by omega, fun s hs g hg => ?_⟩
  obtain ⟨k, hk, rfl⟩ := dR.1 hs
  obtain ⟨i, hi, rfl⟩ := dR.1 hg
  have e2 := vF e k hk
  unfold pA at e2
  rw [jR _ k hk] at e2
  split at e2
  ·rename_i hh; exact absurd e2 hh
  rename_i e3
  have e3 := dG.1 e3
  unfold stopE at e3
  split at e3
  ·rename_i hh; exact absurd e3 hh
  split at e3
  ·omega
  split at e3
  ·rename_i hh; exact absurd e3 hh
  split at e3
  ·omega
  split at e3
  ·omega
  have e4 := vF e3 i hi
  unfold lA at e4
  rw [jR _ i hi] at e4
  split at e4
  ·omega
  split at e4
  ·omega
  unfold lK at e4
  split at e4
  ·omega
  omega
 refine ⟨by omega, by omega, by omega, fun j hj => (hd j hj).1, fun j hj => (hd j hj).2.1, ?_, fun j hj => (hd j hj).2.2⟩
 unfold tM at h
 split at h <;> omega
theorem uL (o : Org) (c : Ct) : rO o c = true ↔ 0 ≤ c.1 ∧ c.1 < o.dvs.length ∧ (iB o.dvs c.1.toNat).lo ≤ c.2 ∧ c.2 ≤ (iB o.dvs c.1.toNat).hi := by
 unfold rO
 simp only [dc, decide_eq_true_eq, and_assoc]
theorem a1A {o : Org} (ho : o.Fine) {c : Ct} (h : rO o c = true) : 0 ≤ c.1 ∧ c.1 < 8 ∧ 0 ≤ c.2 ∧ c.2 ≤ 127 := by
 have h := (uL o c).1 h
 have hk := ho.keys c.1.toNat (by omega)
 have := ho.dlen
 omega
theorem Que.len {o : Org} {q : List Ct} (h : Que o q) (ho : o.Fine) : q.length ≤ 1024 := by
 have h1 := a7r 1024 (q.map fun c => c.1.toNat * 128 + c.2.toNat) ?_ ?_
 ·simpa using h1
 ·unfold List.Nodup
  rw [gy]
  refine List.Pairwise.imp_of_mem (fun {a b} ha hb hne e => hne ?_) h.1
  have h1 := a1A ho (h.2 a ha)
  have h2 := a1A ho (h.2 b hb)
  apply gz <;> omega
 ·intro i hi
  obtain ⟨c, hc, rfl⟩ := dy.1 hi
  have h1 := a1A ho (h.2 c hc)
  omega
def bfs (o : Org) (cp : Nat) : Nat → Nat → List Ct → List Ct
 | 0, _, q => q
 | n + 1, i, q => if i < q.length then bfs o cp n (i + 1) (stepF o cp true (iB q i) q) else q
def oF (o : Org) (cp : Nat) (l : List Ct) : List Ct := l.foldl (fun q c => stepF o cp false c q) []
def tY (o : Org) (r : Reg) (l : List Ct) : List Ct := dd (wB (l.filter (fun c => !r.off.testBit c.1.toNat) ++ bfs o r.cpl 1100 0 (oF o r.cpl l)))
def pL (rs : List Rk) (d : Drw) (key : Int) : Ct := if d.rank < 0 ∨ rs.length ≤ d.rank then (0, 0) else (d.rank, vR (vR (key + d.shift) - (iB rs d.rank.toNat).first))
def a0q (rs : List Rk) (d : Drw) (key : Int) : Bool := !decide (d.rank < 0 ∨ rs.length ≤ d.rank) && decide (0 ≤ (pL rs d key).2) && decide ((pL rs d key).2 < (iB rs d.rank.toNat).wind.length)
def a8y (s : Stp) (key : Int) (j : Nat) : Bool := decide ((iB s.segs j).lo ≤ key) && decide (key ≤ (iB s.segs j).hi)
def a8C (s : Stp) (key : Int) : List Drw := if mZ (a8y s key) s.segs.length < 0 then [] else (iB s.segs (mZ (a8y s key) s.segs.length).toNat).draws
def sS (rs : List Rk) (s : Stp) (key : Int) : List Ct := dd (wB (((a8C s key).filter fun d => a0q rs d key).map fun d => pL rs d key))
def qM (o : Org) (r : Reg) (c : Ct) : List Ct := (List.range (iB o.dvs c.1.toNat).stops.length).flatMap fun i => if (iB r.stops c.1.toNat).testBit i then sS o.ranks (iB (iB o.dvs c.1.toNat).stops i) c.2 else []
def a5v (o : Org) (r : Reg) (l : List Ct) : List Ct := dd (wB (l.flatMap (qM o r)))
def uH (o : Org) (r : Reg) (l : List Ct) : List Ct := a5v o r (tY o r l)
end Go.Ds
namespace Go.Ds
open Go.Proofs Go.Proofs.Tryz
variable {H : Heap}
theorem a3r (a b : Nat) (h : a < 18446744073709551616) : ((a : Nat) : Int).fdiv (2 ^ min b (IntKind.bits .u64)) = ((a >>> b : Nat) : Int) := by
 have e : IntKind.bits .u64 = 64 := rfl
 rw [e]
 have h1 : ((a : Nat) : Int).fdiv (2 ^ min b 64) = ((a / 2 ^ min b 64 : Nat) : Int) := by
  rw [Int.fdiv_eq_ediv_of_nonneg _ (by exact Int.le_of_lt (Int.pow_pos (by decide)))]
  simp
 rw [h1, fh]
 by_cases hb : b ≤ 64
 ·rw [ff hb]
 ·rw [Nat.min_eq_right (by omega)]
  have h2 : a / 2 ^ 64 = 0 := gG (by simpa using h)
  have h3 : a / 2 ^ b = 0 := gG (dO (by simpa using h) (fz (by decide) (show 64 ≤ b by omega)))
  rw [h2, h3]
theorem a2K (n : Nat) (h : n < 18446744073709551616) : IntKind.wrap .u64 ((BitVec.ofInt (IntKind.bits .u64) (n : Int) &&& BitVec.ofInt (IntKind.bits .u64) 1).toNat : Int) = ((n % 2 : Nat) : Int) := by
 have e : (BitVec.ofInt (IntKind.bits .u64) (n : Int) &&& BitVec.ofInt (IntKind.bits .u64) 1).toNat = n % 2 := by
  show (BitVec.ofInt 64 (n : Int) &&& BitVec.ofInt 64 1).toNat = n % 2
  rw [ik]
  have h1 : (BitVec.ofInt 64 (n : Int)).toNat = n := by
   rw [fA, gS]
   exact fT (by simpa using h)
  have h2 : (BitVec.ofInt 64 1).toNat = 1 := rfl
  rw [h1, h2, Nat.and_one_is_mod]
 rw [e]
 have : n % 2 < 2 := eR _ (by decide)
 have hh : n % 2 = 0 ∨ n % 2 = 1 := by omega
 rcases hh with h | h <;> rw [h] <;> rfl
theorem tb (a i : Nat) : a.testBit i = decide (a >>> i % 2 = 1) := by
 rw [Nat.testBit_eq_decide_div_mod_eq, fh]
theorem xA {a : Nat} (b : Nat) (h : a < 18446744073709551616) : a >>> b < 18446744073709551616 := by
 rw [fh]
 exact Nat.lt_of_le_of_lt (Nat.div_le_self _ _) h
theorem wZ (o : Org) (ho : o.In H) (c : Ct) : Fn prog 66 [.agg #[.string o.name, o.rv, o.dv, o.cv], .agg #[I c.1, I c.2]] H fun r H' => r = I (a0K o c) ∧ St prog H H' [] := by
 have hl := ho.2.2.2.2.2.2.1
 refine .aD func66 rfl (by kernel_rfl) (m := 36) rfl fun l hn g0 g1 => ?_
 simp (disch := omega) only [↓RA, RB, simprocAttr, g0]
 refine (sR H).eNew 4 [(.string o.name), o.rv, o.dv, o.cv] rfl rfl (by simp [OC, ((sR H).sl ho.1).cells.2.1, ((sR H).sl ho.2.2.1).cells.2.1, ((sR H).sl ho.2.2.2.2.1).cells.2.1]) mW fun A1 H1 hS1 => ?_
 simp only [RT] at hS1
 simp (disch := omega) only [↓RA, RB, simprocAttr, g1]
 refine hS1.eNew 2 [I c.1, I c.2] rfl rfl rfl pK fun A2 H2 hS2 => ?_
 simp only [RT] at hS2
 simp (disch := omega) only [↓RA, RZ, simprocAttr, hn, hS2.ld 1 rfl]
 refine iO (fun h1 => ?_) (fun h1 => ?_)
 ·simp (disch := omega) only [↓RA, RZ, simprocAttr, hn, b4v, h1]
  exact ⟨by rw [a0K, if_pos (by omega)], hS2.forget⟩
 simp (disch := omega) only [↓RA, RZ, simprocAttr, hn, hS2.ld 1 rfl, hS2.ld 0 rfl, (hS2.sl ho.2.2.1).len, h1]
 refine iA (fun h2 => ?_) (fun h2 => ?_)
 ·simp (disch := omega) only [↓RA, RZ, simprocAttr, hn, b4v, h1, h2]
  exact ⟨by rw [a0K, if_pos (by omega)], hS2.forget⟩
 obtain ⟨j, hj⟩ : ∃ j : Nat, c.1 = j := ⟨c.1.toNat, by omega⟩
 have hc : a0K o c = if c.2 < (iB o.dvs j).lo ∨ (iB o.dvs j).hi < c.2 then 23 else 0 := by
  rw [a0K, if_neg (by omega), hj]
  rfl
 rw [hj] at h1 h2
 simp (disch := omega) only [↓RA, RZ, simprocAttr, hn, hS2.ld 0 rfl, h1, h2, hj]
 simp (disch := omega) only [↓RA, RZ, simprocAttr, hn, hS2.ld 1 rfl, (hS2.sl ho.2.2.1).idx, (hS2.sl ho.2.2.1).bh, (hS2.sl ho.2.2.1).cC 2, Dvn.cells, h1, h2, hj]
 refine hS2.eNew 2 [I 0, I 0] rfl rfl rfl vX fun A3 H3 hS3 => ?_
 simp only [RT] at hS3
 simp (disch := omega) only [↓RA, RZ, simprocAttr, hn, h1, h2, hj]
 refine hS3.aa 2 rfl [I (iB o.dvs j).lo, I (iB o.dvs j).hi] rfl rfl vX (by simp) fun H4 hS4 => ?_
 simp only [RT] at hS4
 simp (disch := omega) only [↓RA, RZ, simprocAttr, hn, hS4.ld 1 rfl, hS4.ld 2 rfl, h1, h2, hj]
 refine iO (fun h3 => ?_) (fun h3 => ?_)
 ·simp (disch := omega) only [↓RA, RZ, simprocAttr, hn, b4v, h1, h2, hj, h3]
  exact ⟨by rw [hc, if_pos (by omega)], hS4.forget⟩
 simp (disch := omega) only [↓RA, RZ, simprocAttr, hn, hS4.ld 1 rfl, hS4.ld 2 rfl, h1, h2, hj, h3]
 refine iA (fun h4 => ?_) (fun h4 => ?_)
 ·simp (disch := omega) only [↓RA, RZ, simprocAttr, hn, b4v, h1, h2, hj, h3, h4]
  exact ⟨by rw [hc, if_pos (by omega)], hS4.forget⟩
 simp (disch := omega) only [↓RA, RZ, simprocAttr, hn, b4v, h1, h2, hj, h3, h4]
 exact ⟨by rw [hc, if_neg (by omega)], hS4.forget⟩
def lY (o : Org) (r : Reg) : Int := if organE o ≠ 0 then organE o else if r.stops.length ≠ o.dvs.length then 5 else if ∃ j, j < o.dvs.length ∧ iB r.stops j >>> (iB o.dvs j).stops.length ≠ 0 then 3 else if r.cpl >>> o.cpls.length ≠ 0 ∨ r.off >>> o.dvs.length ≠ 0 then 3 else 0
theorem b4W (o : Org) (ho : o.In H) (r : Reg) (sv : Value) (hr : r.In H sv) : Fn prog 13 [.agg #[.string o.name, o.rv, o.dv, o.cv], .agg #[sv, .int .u64 r.cpl, .int .u64 r.off]] H fun v H' => v = I (lY o r) ∧ St prog H H' [] := by
 have hl := ho.2.2.2.2.2.2.1
 have hlc := ho.2.2.2.2.2.2.2
 obtain ⟨hr1, hr2, hr3, hr4, hr5⟩ := hr
 refine .aD func13 rfl (by kernel_rfl) (m := 55) rfl fun l hn g0 g1 => ?_
 simp (disch := omega) only [↓RA, RB, simprocAttr, g0]
 refine (sR H).eNew 4 [(.string o.name), o.rv, o.dv, o.cv] rfl rfl (by simp [OC, ((sR H).sl ho.1).cells.2.1, ((sR H).sl ho.2.2.1).cells.2.1, ((sR H).sl ho.2.2.2.2.1).cells.2.1]) mW fun A1 H1 hS1 => ?_
 simp only [RT] at hS1
 simp (disch := omega) only [↓RA, RB, simprocAttr, g1]
 refine hS1.eNew 3 [sv, (.int .u64 r.cpl), (.int .u64 r.off)] rfl rfl (by simp [OC, (hS1.sl hr1).cells.2.1]) mP fun A2 H2 hS2 => ?_
 simp only [RT] at hS2
 simp (disch := omega) only [↓RA, RZ, simprocAttr, hn, hS2.ag 0 rfl]
 refine hS2.cF (yU o (ho.ab hS2)) fun H3 hS3 => ?_
 simp (disch := omega) only [↓RA, RB, simprocAttr, hn]
 refine iA (fun h1 => ?_) (fun h1 => ?_)
 ·simp (disch := omega) only [↓RA, RZ, simprocAttr, hn, b1P, h1]
  exact ⟨by rw [lY, if_pos h1], hS3.forget⟩
 simp (disch := omega) only [↓RA, RZ, simprocAttr, hn, hS3.ld 1 rfl, (hS3.sl hr1).len, hS3.ld 0 rfl, (hS3.sl ho.2.2.1).len, h1]
 refine iA (fun h2 => ?_) (fun h2 => ?_)
 ·simp (disch := omega) only [↓RA, RZ, simprocAttr, hn, b1P, h1, h2]
  exact ⟨by rw [lY, if_neg h1, if_pos (by omega)], hS3.forget⟩
 simp (disch := omega) only [↓RA, RZ, simprocAttr, hn, hS3.ld 0 rfl, (hS3.sl ho.2.2.1).len, h1, h2]
 have hE : lY o r = if ∃ j, j < o.dvs.length ∧ iB r.stops j >>> (iB o.dvs j).stops.length ≠ 0 then 3 else if r.cpl >>> o.cpls.length ≠ 0 ∨ r.off >>> o.dvs.length ≠ 0 then 3 else 0 := by rw [lY, if_neg h1, if_neg (by omega)]
 refine Wp.al (fun n l H' => l.length = 55 ∧ get l 2 = (ptr A1 0 4) ∧ get l 3 = (ptr A2 0 3) ∧ get l 21 = o.dv ∧ get l 22 = I o.dvs.length ∧ ∃ (j : Nat), (n + j = o.dvs.length ∧ ∀ q, q < j → iB r.stops q >>> (iB o.dvs q).stops.length = 0) ∧ get l 23 = I j ∧ St prog H H' [⟨ptr A1 0 4, 0, [(.string o.name), o.rv, o.dv, o.cv]⟩, ⟨ptr A2 0 3, 0, [sv, (.int .u64 r.cpl), (.int .u64 r.off)]⟩]) o.dvs.length ?_ ?_
 ·simp (disch := omega) only [RB, RC, simprocAttr, hn]
  exact ⟨0, ⟨by omega, fun q hq => absurd hq (dL _)⟩, rfl, hS3⟩
 rintro n l H4 ⟨hn, g2, g3, g21, g22, j, ⟨hj,hz⟩, g23, hS4⟩
 have e1 := a3r r.cpl o.cpls.length hr4
 have e2 := a3r r.off o.dvs.length hr5
 simp (disch := omega) only [↓RA, RB, simprocAttr, hn, g22, g23]
 refine iA (fun q1 => ?_) (fun q1 => ?_)
 ·have hst := (ho.2.2.2.1 _ (iE (xs := o.dvs) (j := j) (by omega))).2.2
  have e3 := a3r (iB r.stops j) (iB o.dvs j).stops.length (hr3 _ (iE (by omega)))
  simp (disch := omega) only [↓RA, RZ, simprocAttr, hn, g21, g23, (hS4.sl ho.2.2.1).idx, (hS4.sl ho.2.2.1).ag, Dvn.cells, q1]
  refine hS4.eNew 5 [(.string ⟨#[]⟩), (.bool false), I 0, I 0, (.slice none 0 0)] rfl rfl rfl tI fun A3 H5 hS5 => ?_
  simp only [RT] at hS5
  simp (disch := omega) only [↓RA, RZ, simprocAttr, hn, q1]
  refine hS5.aa 2 rfl [(.string (iB o.dvs j).name), (.bool (iB o.dvs j).pedal), I (iB o.dvs j).lo, I (iB o.dvs j).hi, (iB o.dvs j).sv] rfl (by simp [OC, (hS5.sl (ho.2.2.2.1 (iB o.dvs j) (iE (by omega))).1).cells.2.1]) tI (by simp) fun H6 hS6 => ?_
  simp only [RT] at hS6
  simp (disch := omega) only [↓RA, RZ, simprocAttr, q1]
  refine Wp.drw jZ (by kernel_rfl) ?_
  simp (disch := omega) only [↓RA, RZ, simprocAttr, hn, g3, hS6.ld 1 rfl, (hS6.sl hr1).idx, (hS6.sl hr1).ld, one, u64, hS6.ld 2 rfl, (hS6.sl (ho.2.2.2.1 (iB o.dvs j) (iE (by omega))).1).len, e3]
  refine iA (fun q2 => ?_) (fun q2 => ?_)
  ·simp (disch := omega) only [↓RA, RZ, simprocAttr, hn, b1P, q2]
   exact ⟨by rw [hE, if_pos ⟨j, by omega, by omega⟩], hS6.forget⟩
  simp (disch := omega) only [↓RA, RZ, simprocAttr, hn, g2, g3, g21, g22, g23, q2]
  exact ⟨n - 1, by omega, j + 1, ⟨by omega, fun q hq => by rcases du.1 hq with e | e; (· exact hz q e); (· rw [e]; omega)⟩, by simp, hS6.sub (by simp)⟩
 simp (disch := omega) only [↓RA, RZ, simprocAttr, hn, g2, g3, hS4.ld 1 rfl, hS4.ld 0 rfl, (hS4.sl ho.2.2.2.2.1).len, q1, e1]
 have hno : ¬ ∃ j, j < o.dvs.length ∧ iB r.stops j >>> (iB o.dvs j).stops.length ≠ 0 := by
  rintro ⟨q, hq, hne⟩
  exact hne (hz q (by omega))
 rw [if_neg hno] at hE
 clear hno
 refine iO (fun q3 => ?_) (fun q3 => ?_)
 ·simp (disch := omega) only [↓RA, RZ, simprocAttr, hn, b1P, q1, q3]
  exact ⟨by rw [hE, if_pos (by omega)], hS4.forget⟩
 simp (disch := omega) only [↓RA, RZ, simprocAttr, hn, g2, g3, hS4.ld 1 rfl, hS4.ld 0 rfl, (hS4.sl ho.2.2.1).len, q1, e2, q3]
 refine iA (fun q4 => ?_) (fun q4 => ?_)
 ·simp (disch := omega) only [↓RA, RZ, simprocAttr, hn, b1P, q1, q3, q4]
  exact ⟨by rw [hE, if_pos (by omega)], hS4.forget⟩
 simp (disch := omega) only [↓RA, RZ, simprocAttr, hn, b1P, q1, q3, q4]
 exact ⟨by rw [hE, if_neg (by omega)], hS4.forget⟩
def uQ (o : Org) (b : Nat → Nat) : Reg := ⟨(List.range o.dvs.length).map fun i => b (i % 3) % 2 ^ (iB o.dvs i).stops.length, b 3 % 2 ^ o.cpls.length, b 4 % 2 ^ o.dvs.length⟩
theorem a5x (n : Nat) (h : n < 18446744073709551616) : (BitVec.ofInt (IntKind.bits .u64) (n : Int)).toNat = n := by
 show (BitVec.ofInt 64 (n : Int)).toNat = n
 rw [fA, gS]
 exact fT (by simpa using h)
theorem b4F (b n : Nat) (h : n ≤ 8) (hb : b < 256) : IntKind.wrap .u64 ((BitVec.ofInt (IntKind.bits .u64) (b : Int) &&& BitVec.ofInt (IntKind.bits .u64) (IntKind.wrap .u64 (IntKind.wrap .u64 (1 * 2 ^ min n (IntKind.bits .u64)) - 1))).toNat : Int) = ((b % 2 ^ n : Nat) : Int) := by
 have key : IntKind.wrap .u64 (IntKind.wrap .u64 (1 * 2 ^ min n (IntKind.bits .u64)) - 1) = ((2 ^ n - 1 : Nat) : Int) := by
  have : n = 0 ∨ n = 1 ∨ n = 2 ∨ n = 3 ∨ n = 4 ∨ n = 5 ∨ n = 6 ∨ n = 7 ∨ n = 8 := by omega
  rcases this with rfl | rfl | rfl | rfl | rfl | rfl | rfl | rfl | rfl <;> rfl
 have hp : 2 ^ n ≤ 2 ^ 8 := fz (by decide) h
 have e8 : 2 ^ 8 = 256 := rfl
 rw [key, ik, a5x b (by omega), a5x _ (by omega), Nat.and_two_pow_sub_one_eq_mod]
 have : b % 2 ^ n ≤ b := Nat.mod_le _ _
 exact qR _ (by omega) (by omega)
theorem b2b {o : Org} (b : Nat → Nat) (ho : organE o = 0) : lY o (uQ o b) = 0 := by
 have hz : ∀ x n : Nat, (x % 2 ^ n) >>> n = 0 := fun x n => by
  rw [fh]
  exact gG (eR _ (Nat.two_pow_pos n))
 unfold lY uQ
 rw [if_neg (by rw [ho]; simp), if_neg (by simp), if_neg, if_neg (by simp only [hz]; simp)]
 rintro ⟨j, hj, hne⟩
 simp only at hne
 rw [jR _ j (by simpa using hj)] at hne
 simp only [List.getElem_map, gT, hz, ne_eq, not_true_eq_false] at hne
theorem a9j (o : Org) (ho : o.In H) (h1 : o.cpls.length ≤ 3) (h2 : o.dvs.length ≤ 3) (h3 : ∀ j, j < o.dvs.length → (iB o.dvs j).stops.length ≤ 3) (b : Nat → Nat) (hb : ∀ i, b i < 256) :
 Fn prog 17 [.agg #[.string o.name, o.rv, o.dv, o.cv], .agg #[.int .u8 (b 0), .int .u8 (b 1), .int .u8 (b 2), .int .u8 (b 3), .int .u8 (b 4)]] H fun r H' =>
  ∃ sv, r = .agg #[sv, .int .u64 (uQ o b).cpl, .int .u64 (uQ o b).off] ∧ St prog H H' [⟨sv, 1, ((uQ o b).stops).flatMap (one u64)⟩] := by
 have k0 := hb 0
 have k1 := hb 1
 have k2 := hb 2
 have k3 := hb 3
 have k4 := hb 4
 refine .aD func17 rfl (by kernel_rfl) (m := 57) rfl fun l hn g0 g1 => ?_
 simp (disch := omega) only [↓RA, RB, simprocAttr, g0]
 refine (sR H).eNew 4 [(.string o.name), o.rv, o.dv, o.cv] rfl rfl (by simp [OC, ((sR H).sl ho.1).cells.2.1, ((sR H).sl ho.2.2.1).cells.2.1, ((sR H).sl ho.2.2.2.2.1).cells.2.1]) mW fun A1 H1 hS1 => ?_
 simp only [RT] at hS1
 simp (disch := omega) only [↓RA, RB, simprocAttr, g1]
 refine hS1.eNew 5 [(.int .u8 (b 0)), (.int .u8 (b 1)), (.int .u8 (b 2)), (.int .u8 (b 3)), (.int .u8 (b 4))] rfl rfl rfl c2u fun A2 H2 hS2 => ?_
 simp only [RT] at hS2
 simp (disch := omega) only [↓RA, RZ, simprocAttr]
 refine hS2.eNew 3 [(.slice none 0 0), (.int .u64 0), (.int .u64 0)] rfl rfl rfl mP fun A3 H3 hS3 => ?_
 simp only [RT] at hS3
 simp (disch := omega) only [↓RA, RZ, simprocAttr, hn, hS3.ld 1 rfl, hS3.ld 0 rfl, (hS3.sl ho.2.2.2.2.1).len, (hS3.sl ho.2.2.1).len, b6B]
 refine hS3.eNew 3 [(.slice none 0 0), (.int .u64 0), (.int .u64 0)] rfl rfl rfl mP fun A4 H4 hS4 => ?_
 simp only [RT] at hS4
 simp (disch := omega) only [↓RA, RB, simprocAttr, hn]
 refine hS4.aa 3 rfl [(.slice none 0 0), _, _] rfl rfl mP (by simp) fun H5 hS5 => ?_
 simp only [RT] at hS5
 simp (disch := omega) only [↓RA, RB, simprocAttr]
 have m1 := b4F (b 3) o.cpls.length (by omega) (hb 3)
 have m2 := b4F (b 4) o.dvs.length (by omega) (hb 4)
 have hS6 := hS5.nil 0
 simp only [RT] at hS6
 simp only [m1, m2] at hS6
 refine Wp.al (fun n l H' => l.length = 57 ∧ get l 2 = (ptr A1 0 4) ∧ get l 3 = (ptr A2 0 5) ∧ get l 4 = (ptr A3 0 3) ∧ get l 5 = (ptr A4 0 3) ∧ ∃ (i : Nat) (sv : Value), (n + i = o.dvs.length) ∧ get l 6 = I i ∧ St prog H H' [⟨ptr A1 0 4, 0, [(.string o.name), o.rv, o.dv, o.cv]⟩, ⟨ptr A2 0 5, 0, [(.int .u8 (b 0)), (.int .u8 (b 1)), (.int .u8 (b 2)), (.int .u8 (b 3)), (.int .u8 (b 4))]⟩, ⟨ptr A3 0 3, 0, [(.slice none 0 0), (.int .u64 0), (.int .u64 0)]⟩, ⟨ptr A4 0 3, 0, [sv, .int .u64 (b 3 % 2 ^ o.cpls.length : Nat), .int .u64 (b 4 % 2 ^ o.dvs.length : Nat)]⟩, ⟨sv, 1, ((List.range i).map fun i => b (i % 3) % 2 ^ (iB o.dvs i).stops.length).flatMap (one u64)⟩]) o.dvs.length ?_ ?_
 ·simp (disch := omega) only [RB, RC, simprocAttr, hn]
  exact ⟨0, _, by omega, rfl, hS6⟩
 rintro n l H6 ⟨hn, g2, g3, g4, g5, i, sv, hi, g6, hS7⟩
 simp (disch := omega) only [↓RA, RZ, simprocAttr, hn, g2, g6, hS7.ld 0 rfl, (hS7.sl ho.2.2.1).len]
 refine iA (fun q => ?_) (fun q => ?_)
 ·have hi3 : (i : Int).tmod 3 = ((i % 3 : Nat) : Int) := (eK i 3).symm
  have hw : ([Value.int .u8 (b 0), .int .u8 (b 1), .int .u8 (b 2), .int .u8 (b 3), .int .u8 (b 4)] : List Value)[i % 3]? = some (.int .u8 (b (i % 3))) := by
   have : i % 3 = 0 ∨ i % 3 = 1 ∨ i % 3 = 2 := by omega
   rcases this with e | e | e <;> rw [e] <;> rfl
  have hst := h3 i (by omega)
  have hbi := hb (i % 3)
  have m3 := b4F (b (i % 3)) (iB o.dvs i).stops.length (by omega) (hb _)
  simp (disch := omega) only [↓RA, RC, simprocAttr, q]
  refine Wp.aO jZ [(1, 19)] (by kernel_rfl) (by kernel_rfl) ?_
  simp (disch := omega) only [↓RA, RZ, simprocAttr, hn, g2, g3, g5, g6, hS7.ld 3 rfl, hS7.ld 1 rfl, hw, hS7.ld 0 rfl, (hS7.sl ho.2.2.1).idx, (hS7.sl ho.2.2.1).bh, (hS7.sl ho.2.2.1).ld, Dvn.cells, (hS7.sl (ho.2.2.2.1 (iB o.dvs i) (iE (by omega))).1).len, hi3, m3]
  refine hS7.ai [_] a8h b9u rfl rfl (by simp [Value.cells]) rfl rfl (by decide) (by decide) fun w1 H7 hS8 => ?_
  simp only [RT] at hS8
  simp (disch := omega) only [↓RA, RZ, simprocAttr, hn]
  refine hS8.aq 4 rfl (hS8.rd 5 rfl) a8h (by rw [iK (n := 1) (cel := one u64) (fun _ => rfl)]; simp; omega) fun w2 H8 hS9 => ?_
  simp only [RT] at hS9
  simp (disch := omega) only [↓RA, RZ, simprocAttr, hn, g5]
  refine hS9.aa 3 rfl [w2] (by rw [(hS9.rd 4 rfl).cells.1]) (by simp [(hS9.rd 4 rfl).cells.2.1]) b7b (by simp) fun H9 hS10 => ?_
  simp only [RT] at hS10
  simp (disch := omega) only [↓RA, RZ, simprocAttr, hn, g2, g3, g4, g5, g6, hS8.ld 3 rfl]
  refine ⟨n - 1, by omega, i + 1, w2, by omega, rfl, ?_⟩
  rw [ez, dA, dN]
  exact hS10.pick [0, 1, 2, 3, 4] (by decide) rfl
 simp (disch := omega) only [↓RA, RZ, simprocAttr, hn, g4, g5, hS7.ag 3 rfl, q]
 refine hS7.aa 2 rfl [sv, (.int .u64 (b 3 % 2 ^ o.cpls.length : Nat)), (.int .u64 (b 4 % 2 ^ o.dvs.length : Nat))] rfl (by simp [OC, (hS7.rd 4 rfl).cells.2.1]) mP (by simp) fun H10 hS11 => ?_
 simp only [RT] at hS11
 simp (disch := omega) only [↓RA, RZ, simprocAttr, g4, c5V, hS11.ag 2 rfl, q]
 have hii : i = o.dvs.length := by omega
 subst hii
 exact ⟨sv, rfl, hS11.pick [4] (by decide) rfl⟩
end Go.Ds
namespace Go.Ds
open Go.Proofs Go.Proofs.Tryz
variable {H : Heap}
set_option maxRecDepth 10000
theorem RdAt.sub_self {v : Value} {size n : Nat} {cs : List Value} (h : RdAt H v (size + 1) cs) (hn : cs.length = n * (size + 1)) : kT v (size + 1) 0 n = v := by
 rcases h with ⟨rfl, _⟩ | ⟨A, i, e, row, ty, rw, lo, ver, m, _, _, _, _, _, h6, rfl⟩
 ·rfl
 ·have : m = n := fG (fH size) (h6.symm.trans hn)
  subst this
  simp [kT]
theorem uK {v : Value} {xs : List (Int × Int)} {rest : List Value} (h : RdAt H v 2 (pr xs ++ rest)) : RdAt H (kT v 2 0 xs.length) 2 (pr xs) := by
 by_cases h0 : pr xs ++ rest = []
 ·have hx : xs.length = 0 := by
   have := congrArg List.length h0
   rw [dh, iF, ey] at this
   omega
  have e := RdAt.sub_self (size := 1) (n := 0) h (by rw [h0]; rfl)
  obtain rfl := fx.1 hx
  show RdAt H (kT v 2 0 0) 2 []
  rw [show kT v 2 0 0 = v from e]
  rwa [h0] at h
 ·have h5 := RdAt.sub h 0 xs.length (by rw [dh, iF]; omega) h0
  rw [Nat.zero_mul, gY, show xs.length * 2 = (pr xs).length from (iF xs).symm, List.take_left' rfl] at h5
  exact h5
theorem vH {H0 : Heap} {v : Value} {xs : List (Int × Int)} {rest : List Value} (h : St prog H0 H [⟨v, 2, pr xs ++ rest⟩]) : Slx 2 jT H (fun B => H0.length ≤ B) (kT v 2 0 xs.length) xs := by
 refine ⟨⟨uK (h.rd 0 rfl), kE, by decide⟩, fun b hb => ?_⟩
 rcases h.new _ (dU ..) b (tW hb) with h | h
 ·exact h
 ·exact h.elim
theorem c1z : a4g prog 60 = some (1 + 1) := by kernel_rfl
theorem c2W : a4g prog 45 = some (1 + 1) := by kernel_rfl
theorem a4R {B : Base} {v : Value} {es : List (Int × Int)} (hS : St prog B H [⟨v, 2, pr es⟩]) (hl : es.length < 100000000000) :
 Fn prog 114 [v] H fun r H' => ∃ rest : List Value, r = kT v 2 0 (dd es).length ∧ St prog B H' [⟨v, 2, pr (dd es) ++ rest⟩] := by
 refine .aY func114 rfl (by kernel_rfl) (m := 61) rfl fun l hn g0 => ?_
 simp (disch := omega) only [↓RA, RZ, simprocAttr, hn, g0, (hS.av 0 rfl (fun _ => rfl)).len]
 refine iA (fun h => ?_) (fun h => ?_)
 ·have hd := sN es es.length (dm _) fun j h1 h2 => by omega
  rw [ek] at hd
  simp (disch := omega) only [↓RA, RZ, simprocAttr, hn, g0, b6K, h]
  exact ⟨[], by unfold dd; rw [hd]; exact (RdAt.sub_self (size := 1) (hS.rd 0 rfl) (iF es)).symm, by unfold dd; rw [hd, dr]; exact hS⟩
 simp (disch := omega) only [↓RA, RZ, simprocAttr, h]
 refine Wp.al (fun n l H' => l.length = 61 ∧ get l 0 = v ∧ ∃ (k : Nat), (0 < k ∧ n + k = es.length ∧ ∀ j, 0 < j → j < k → iB es j ≠ iB es (j - 1)) ∧ get l 3 = I k ∧ St prog B H' [⟨v, 2, pr es⟩]) (es.length - 1) ?_ ?_
 ·simp (disch := omega) only [RB, RC, simprocAttr, hn, g0]
  exact ⟨1, ⟨by omega, by omega, fun j h1 h2 => by omega⟩, rfl, hS⟩
 rintro n l H1 ⟨hn, g0, k, ⟨hk0,hk,hdis⟩, g3, hS1⟩
 simp (disch := omega) only [↓RA, RZ, simprocAttr, hn, g0, g3, (hS1.av 0 rfl (fun _ => rfl)).len]
 refine iA (fun h2 => ?_) (fun h2 => ?_)
 ·have hkl : k < es.length := by omega
  have hpre : (k : Int) - 1 = ((k - 1 : Nat) : Int) := by omega
  simp (disch := omega) only [↓RA, RC, simprocAttr, h2]
  refine Wp.drw jZ (by kernel_rfl) ?_
  simp (disch := omega) only [↓RA, RZ, simprocAttr, hn, g0, g3, (hS1.av 0 rfl (fun _ => rfl)).idx, (hS1.av 0 rfl (fun _ => rfl)).ag, jT, hpre]
  refine iA (fun h3 => ?_) (fun h3 => ?_)
  ·have h3 : iB es k = iB es (k - 1) := gz h3.1 h3.2
   have hlen : (pr es).length = es.length * (1 + 1) := iF es
   have hpos : 0 < es.length := by omega
   have hdk := sN es k (by omega) hdis
   have hdk1 : yL es (k + 1) = es.take k := by rw [rZ, hdk, if_neg (by rintro (h4 | h4); omega; exact h4 h3), dr]
   have hrow : St prog B H1 [⟨v, 2, pr (yL es (k + 1) ++ es.drop k)⟩] := by rw [hdk1, fL]; exact hS1
   have hdl : (yL es (k + 1)).length = k := by rw [hdk1, eI]; omega
   simp (disch := omega) only [↓RA, RZ, simprocAttr, hn, g0, g3, (hS1.av 0 rfl (fun _ => rfl)).aL, h3]
   refine Wp.al (fun n l H' => l.length = 61 ∧ get l 0 = v ∧ ∃ k2 : Nat, (0 < k2 ∧ n + k + k2 = es.length ∧ (yL es (k + k2)).length < k + k2) ∧ get l 3 = I (yL es (k + k2)).length ∧ get l 4 = kT v 2 k (es.length - k) ∧ get l 5 = I k2 ∧ St prog B H' [⟨v, 2, pr (yL es (k + k2) ++ es.drop (yL es (k + k2)).length)⟩]) (es.length - k - 1) ?_ ?_
   ·simp (disch := omega) only [RB, RC, simprocAttr, hn, g0, g3]
    refine ⟨1, ⟨by omega, by omega, by omega⟩, by rw [hdl], by congr 1; omega, rfl, ?_⟩
    rw [hdl]
    exact hrow
   clear hrow hdk hdk1 hdl hdis
   rintro n l H9 ⟨hn, g0, k2, ⟨hk20, hk2, hlt⟩, g3, g4, g5, hS9⟩
   have hsucc := rZ es (k + k2)
   generalize hD : yL es (k + k2) = D at g3 hlt hS9 hsucc
   have hrl : (D ++ es.drop D.length).length = es.length := by rw [dh, eD]; omega
   have hv : Sl 2 jT H9 v (D ++ es.drop D.length) := hS9.av 0 rfl kE
   have hat : ∀ j, D.length ≤ j → iB (D ++ es.drop D.length) j = iB es j := fun j hj => by
    unfold iB
    rw [dg, dZ hj, dH, dg]
    congr 2; omega
   have hsub : Sl 2 jT H9 (kT v 2 k ((D ++ es.drop D.length).length - k)) ((D ++ es.drop D.length).drop k) := hv.cE k (by omega) (by omega)
   rw [hrl] at hsub
   have hsl : ((D ++ es.drop D.length).drop k).length = es.length - k := by rw [eD, hrl]
   have hsat : ∀ j, D.length ≤ k + j → iB ((D ++ es.drop D.length).drop k) j = iB es (k + j) := fun j hj => by
    rw [← hat (k + j) hj]
    unfold iB
    rw [dg, dH, dg]
   have hbd : ((es.length - k : Nat) : Int) = (es.length : Int) - k := by omega
   simp (disch := omega) only [↓RA, RZ, simprocAttr, hn, g4, g5, hsub.len, hsl, hbd]
   refine iA (fun h4 => ?_) (fun h4 => ?_)
   ·have hj : k + k2 < es.length := by omega
    have hpre2 : (k2 : Int) - 1 = ((k2 - 1 : Nat) : Int) := by omega
    have e1 := hsat k2 (by omega)
    have e2 := hsat (k2 - 1) (by omega)
    rw [show k + (k2 - 1) = k + k2 - 1 from by omega] at e2
    simp (disch := omega) only [↓RA, RC, simprocAttr, h4]
    refine Wp.drw jZ (by kernel_rfl) ?_
    simp (disch := omega) only [↓RA, RZ, simprocAttr, hn, g4, g5, hsub.idx, hsub.ag, jT, hpre2, e1, e2]
    refine iA (fun h5 => ?_) (fun h5 => ?_)
    ·have hne : iB es (k + k2) ≠ iB es (k + k2 - 1) := fun e => h5 (by rw [e]; exact ⟨rfl, rfl⟩)
     rw [if_pos (.inr hne)] at hsucc
     simp (disch := omega) only [↓RA, RZ, simprocAttr, hn, g0, g3, g4, g5, hsub.idx, hsub.ag, jT, e1, h5]
     simp (disch := omega) only [↓RA, RZ, simprocAttr, hn, (hS9.av 0 rfl (fun _ => rfl)).idx, h5]
     refine hS9.aR 0 rfl [I (iB es (k + k2)).1, I (iB es (k + k2)).2] rfl rfl pK (by simp) (by rw [iF, hrl]; simp; omega) fun H2 hS2 => ?_
     simp only [RT] at hS2
     simp (disch := omega) only [↓RA, RZ, simprocAttr, hn, g0, g3, g4, g5, h5]
     refine ⟨n - 1, by omega, k2 + 1, ?_⟩
     rw [show k + (k2 + 1) = k + k2 + 1 from by omega, hsucc]
     refine ⟨⟨by omega, by omega, by simp; omega⟩, by simp, by simp, ?_⟩
     have e3 : pr (D ++ [iB es (k + k2)] ++ es.drop (D ++ [iB es (k + k2)]).length) = ((pr (D ++ es.drop D.length)).set (D.length * 2) (I (iB es (k + k2)).1)).set (D.length * 2 + 1) (I (iB es (k + k2)).2) := by
      have hx : es.drop D.length = iB es D.length :: es.drop (D.length + 1) := by
       rw [jR es _ (by omega)]
       exact eQ (by omega)
      rw [hx, dh, gp, jN, jN, jN]
      have e4 : pr (iB es D.length :: es.drop (D.length + 1)) = I (iB es D.length).1 :: I (iB es D.length).2 :: pr (es.drop (D.length + 1)) := rfl
      have e5 : pr [iB es (k + k2)] = [I (iB es (k + k2)).1, I (iB es (k + k2)).2] := rfl
      have e6 : (pr D).length = D.length * 2 := iF D
      rw [e4, e5, dX _ _ (by omega), dX _ _ (by omega), e6, gF, fy]
      simp
     rw [e3]
     exact hS2
    have heq : iB es (k + k2) = iB es (k + k2 - 1) := by
     have h6 := dG.1 h5
     exact gz h6.1 h6.2
    rw [if_neg (by rintro (h6 | h6); omega; exact h6 heq), dr] at hsucc
    simp (disch := omega) only [↓RA, RZ, simprocAttr, hn, g0, g3, g4, g5, h5]
    refine ⟨n - 1, by omega, k2 + 1, ?_⟩
    rw [show k + (k2 + 1) = k + k2 + 1 from by omega, hsucc]
    exact ⟨⟨by omega, by omega, by omega⟩, rfl, by simp, hS9⟩
   have hke : k + k2 = es.length := by omega
   rw [hke] at hD
   have hcl : (pr (D ++ es.drop D.length)).length = es.length * (1 + 1) := by rw [iF, hrl]
   have hDn : D.length ≤ es.length := by omega
   simp (disch := omega) only [↓RA, RZ, simprocAttr, hn, g0, g3, (hS9.av 0 rfl (fun _ => rfl)).aL, h4]
   rw [show (((D ++ es.drop D.length).length : Int) - D.length).toNat = es.length - D.length from by rw [hrl]; omega]
   refine hS9.bq (size := 1) 0 rfl D.length (es.length - D.length) (by rw [hcl]; omega) (by
    intro e
    have h2 : (pr (D ++ es.drop D.length)).length = 0 := by rw [e]; rfl
    rw [iF, hrl] at h2; omega) c1z fun z H3 hz hSc => ?_
   simp only [RT] at hSc
   have e3 : iZ (pr (D ++ es.drop D.length)) (D.length * 2) z = pr D ++ z := by
    rw [jN, show D.length * 2 = (pr D).length from (iF D).symm, mD z (pr D) (pr (es.drop D.length)) (by rw [iF, eD]; omega)]
    rw [gh (by rw [iF, eD]; omega), dr]
   rw [show D.length * (1 + 1) = D.length * 2 from rfl, e3] at hSc
   have hw : RdAt H3 v (1 + 1) (pr D ++ z) := hSc.rd 0 rfl
   have hwl : (pr D ++ z).length = es.length * (1 + 1) := by rw [dh, iF, hz]; omega
   simp (disch := omega) only [↓RA, RZ, simprocAttr, hn, g0, g3, hw.aM hwl, b6K, h4]
   exact ⟨z, by unfold dd; rw [hD], by unfold dd; rw [hD]; exact hSc⟩
  have hne : iB es k ≠ iB es (k - 1) := fun e => h3 (by rw [e]; exact ⟨rfl, rfl⟩)
  simp (disch := omega) only [↓RA, RZ, simprocAttr, hn, g0, g3, h3]
  refine ⟨n - 1, by omega, k + 1, ⟨by omega, by omega, fun j h4 h5 => ?_⟩, by simp, hS1⟩
  by_cases e : j = k
  ·rw [e]; exact hne
  ·exact hdis j h4 (by omega)
 have hke : k = es.length := by omega
 have hd := sN es es.length (dm _) (hke ▸ hdis)
 rw [ek] at hd
 simp (disch := omega) only [↓RA, RZ, simprocAttr, hn, g0, b6K, h2]
 exact ⟨[], by unfold dd; rw [hd]; exact (RdAt.sub_self (size := 1) (hS.rd 0 rfl) (iF es)).symm, by unfold dd; rw [hd, dr]; exact hS1⟩
theorem a5X {B : Base} {v : Value} {es : List (Int × Int)} (hS : St prog B H [⟨v, 2, pr es⟩]) (hl : es.length < 100000000000) :
 Fn prog 114 [v] H fun r H' => ∃ rest : List Value, (∀ b, kJ r = some b → kJ v = some b) ∧ (∀ H2, RdAt H2 v 2 (pr (dd es) ++ rest) → RdAt H2 r 2 (pr (dd es))) ∧ St prog B H' [⟨v, 2, pr (dd es) ++ rest⟩] :=
 (a4R hS hl).mono fun _ _ ⟨rest, e, h⟩ => ⟨rest, fun _ h => tW (e ▸ h), fun _ h => e ▸ uK h, h⟩
theorem yV {B : Base} {v : Value} {es : List (Int × Int)} (hS : St prog B H [⟨v, 2, pr es⟩]) (hl : es.length < 100000000000) :
 Fn prog 72 [v] H fun r H' => ∃ rest : List Value, r = kT v 2 0 (dd es).length ∧ St prog B H' [⟨v, 2, pr (dd es) ++ rest⟩] := by
 refine .aY func72 rfl (by kernel_rfl) (m := 61) rfl fun l hn g0 => ?_
 simp (disch := omega) only [↓RA, RZ, simprocAttr, hn, g0, (hS.av 0 rfl (fun _ => rfl)).len]
 refine iA (fun h => ?_) (fun h => ?_)
 ·have hd := sN es es.length (dm _) fun j h1 h2 => by omega
  rw [ek] at hd
  simp (disch := omega) only [↓RA, RZ, simprocAttr, hn, g0, c0D, h]
  exact ⟨[], by unfold dd; rw [hd]; exact (RdAt.sub_self (size := 1) (hS.rd 0 rfl) (iF es)).symm, by unfold dd; rw [hd, dr]; exact hS⟩
 simp (disch := omega) only [↓RA, RZ, simprocAttr, h]
 refine Wp.al (fun n l H' => l.length = 61 ∧ get l 0 = v ∧ ∃ (k : Nat), (0 < k ∧ n + k = es.length ∧ ∀ j, 0 < j → j < k → iB es j ≠ iB es (j - 1)) ∧ get l 3 = I k ∧ St prog B H' [⟨v, 2, pr es⟩]) (es.length - 1) ?_ ?_
 ·simp (disch := omega) only [RB, RC, simprocAttr, hn, g0]
  exact ⟨1, ⟨by omega, by omega, fun j h1 h2 => by omega⟩, rfl, hS⟩
 rintro n l H1 ⟨hn, g0, k, ⟨hk0,hk,hdis⟩, g3, hS1⟩
 simp (disch := omega) only [↓RA, RZ, simprocAttr, hn, g0, g3, (hS1.av 0 rfl (fun _ => rfl)).len]
 refine iA (fun h2 => ?_) (fun h2 => ?_)
 ·have hkl : k < es.length := by omega
  have hpre : (k : Int) - 1 = ((k - 1 : Nat) : Int) := by omega
  simp (disch := omega) only [↓RA, RC, simprocAttr, h2]
  refine Wp.drw jZ (by kernel_rfl) ?_
  simp (disch := omega) only [↓RA, RZ, simprocAttr, hn, g0, g3, (hS1.av 0 rfl (fun _ => rfl)).idx, (hS1.av 0 rfl (fun _ => rfl)).ag, jT, hpre]
  refine iA (fun h3 => ?_) (fun h3 => ?_)
  ·have h3 : iB es k = iB es (k - 1) := gz h3.1 h3.2
   have hlen : (pr es).length = es.length * (1 + 1) := iF es
   have hpos : 0 < es.length := by omega
   have hdk := sN es k (by omega) hdis
   have hdk1 : yL es (k + 1) = es.take k := by rw [rZ, hdk, if_neg (by rintro (h4 | h4); omega; exact h4 h3), dr]
   have hrow : St prog B H1 [⟨v, 2, pr (yL es (k + 1) ++ es.drop k)⟩] := by rw [hdk1, fL]; exact hS1
   have hdl : (yL es (k + 1)).length = k := by rw [hdk1, eI]; omega
   simp (disch := omega) only [↓RA, RZ, simprocAttr, hn, g0, g3, (hS1.av 0 rfl (fun _ => rfl)).aL, h3]
   refine Wp.al (fun n l H' => l.length = 61 ∧ get l 0 = v ∧ ∃ k2 : Nat, (0 < k2 ∧ n + k + k2 = es.length ∧ (yL es (k + k2)).length < k + k2) ∧ get l 3 = I (yL es (k + k2)).length ∧ get l 4 = kT v 2 k (es.length - k) ∧ get l 5 = I k2 ∧ St prog B H' [⟨v, 2, pr (yL es (k + k2) ++ es.drop (yL es (k + k2)).length)⟩]) (es.length - k - 1) ?_ ?_
   ·simp (disch := omega) only [RB, RC, simprocAttr, hn, g0, g3]
    refine ⟨1, ⟨by omega, by omega, by omega⟩, by rw [hdl], by congr 1; omega, rfl, ?_⟩
    rw [hdl]
    exact hrow
   clear hrow hdk hdk1 hdl hdis
   rintro n l H9 ⟨hn, g0, k2, ⟨hk20, hk2, hlt⟩, g3, g4, g5, hS9⟩
   have hsucc := rZ es (k + k2)
   generalize hD : yL es (k + k2) = D at g3 hlt hS9 hsucc
   have hrl : (D ++ es.drop D.length).length = es.length := by rw [dh, eD]; omega
   have hv : Sl 2 jT H9 v (D ++ es.drop D.length) := hS9.av 0 rfl kE
   have hat : ∀ j, D.length ≤ j → iB (D ++ es.drop D.length) j = iB es j := fun j hj => by
    unfold iB
    rw [dg, dZ hj, dH, dg]
    congr 2; omega
   have hsub : Sl 2 jT H9 (kT v 2 k ((D ++ es.drop D.length).length - k)) ((D ++ es.drop D.length).drop k) := hv.cE k (by omega) (by omega)
   rw [hrl] at hsub
   have hsl : ((D ++ es.drop D.length).drop k).length = es.length - k := by rw [eD, hrl]
   have hsat : ∀ j, D.length ≤ k + j → iB ((D ++ es.drop D.length).drop k) j = iB es (k + j) := fun j hj => by
    rw [← hat (k + j) hj]
    unfold iB
    rw [dg, dH, dg]
   have hbd : ((es.length - k : Nat) : Int) = (es.length : Int) - k := by omega
   simp (disch := omega) only [↓RA, RZ, simprocAttr, hn, g4, g5, hsub.len, hsl, hbd]
   refine iA (fun h4 => ?_) (fun h4 => ?_)
   ·have hj : k + k2 < es.length := by omega
    have hpre2 : (k2 : Int) - 1 = ((k2 - 1 : Nat) : Int) := by omega
    have e1 := hsat k2 (by omega)
    have e2 := hsat (k2 - 1) (by omega)
    rw [show k + (k2 - 1) = k + k2 - 1 from by omega] at e2
    simp (disch := omega) only [↓RA, RC, simprocAttr, h4]
    refine Wp.drw jZ (by kernel_rfl) ?_
    simp (disch := omega) only [↓RA, RZ, simprocAttr, hn, g4, g5, hsub.idx, hsub.ag, jT, hpre2, e1, e2]
    refine iA (fun h5 => ?_) (fun h5 => ?_)
    ·have hne : iB es (k + k2) ≠ iB es (k + k2 - 1) := fun e => h5 (by rw [e]; exact ⟨rfl, rfl⟩)
     rw [if_pos (.inr hne)] at hsucc
     simp (disch := omega) only [↓RA, RZ, simprocAttr, hn, g0, g3, g4, g5, hsub.idx, hsub.ag, jT, e1, h5]
     simp (disch := omega) only [↓RA, RZ, simprocAttr, hn, (hS9.av 0 rfl (fun _ => rfl)).idx, h5]
     refine hS9.aR 0 rfl [I (iB es (k + k2)).1, I (iB es (k + k2)).2] rfl rfl rB (by simp) (by rw [iF, hrl]; simp; omega) fun H2 hS2 => ?_
     simp only [RT] at hS2
     simp (disch := omega) only [↓RA, RZ, simprocAttr, hn, g0, g3, g4, g5, h5]
     refine ⟨n - 1, by omega, k2 + 1, ?_⟩
     rw [show k + (k2 + 1) = k + k2 + 1 from by omega, hsucc]
     refine ⟨⟨by omega, by omega, by simp; omega⟩, by simp, by simp, ?_⟩
     have e3 : pr (D ++ [iB es (k + k2)] ++ es.drop (D ++ [iB es (k + k2)]).length) = ((pr (D ++ es.drop D.length)).set (D.length * 2) (I (iB es (k + k2)).1)).set (D.length * 2 + 1) (I (iB es (k + k2)).2) := by
      have hx : es.drop D.length = iB es D.length :: es.drop (D.length + 1) := by
       rw [jR es _ (by omega)]
       exact eQ (by omega)
      rw [hx, dh, gp, jN, jN, jN]
      have e4 : pr (iB es D.length :: es.drop (D.length + 1)) = I (iB es D.length).1 :: I (iB es D.length).2 :: pr (es.drop (D.length + 1)) := rfl
      have e5 : pr [iB es (k + k2)] = [I (iB es (k + k2)).1, I (iB es (k + k2)).2] := rfl
      have e6 : (pr D).length = D.length * 2 := iF D
      rw [e4, e5, dX _ _ (by omega), dX _ _ (by omega), e6, gF, fy]
      simp
     rw [e3]
     exact hS2
    have heq : iB es (k + k2) = iB es (k + k2 - 1) := by
     have h6 := dG.1 h5
     exact gz h6.1 h6.2
    rw [if_neg (by rintro (h6 | h6); omega; exact h6 heq), dr] at hsucc
    simp (disch := omega) only [↓RA, RZ, simprocAttr, hn, g0, g3, g4, g5, h5]
    refine ⟨n - 1, by omega, k2 + 1, ?_⟩
    rw [show k + (k2 + 1) = k + k2 + 1 from by omega, hsucc]
    exact ⟨⟨by omega, by omega, by omega⟩, rfl, by simp, hS9⟩
   have hke : k + k2 = es.length := by omega
   rw [hke] at hD
   have hcl : (pr (D ++ es.drop D.length)).length = es.length * (1 + 1) := by rw [iF, hrl]
   have hDn : D.length ≤ es.length := by omega
   simp (disch := omega) only [↓RA, RZ, simprocAttr, hn, g0, g3, (hS9.av 0 rfl (fun _ => rfl)).aL, h4]
   rw [show (((D ++ es.drop D.length).length : Int) - D.length).toNat = es.length - D.length from by rw [hrl]; omega]
   refine hS9.bq (size := 1) 0 rfl D.length (es.length - D.length) (by rw [hcl]; omega) (by
    intro e
    have h2 : (pr (D ++ es.drop D.length)).length = 0 := by rw [e]; rfl
    rw [iF, hrl] at h2; omega) c2W fun z H3 hz hSc => ?_
   simp only [RT] at hSc
   have e3 : iZ (pr (D ++ es.drop D.length)) (D.length * 2) z = pr D ++ z := by
    rw [jN, show D.length * 2 = (pr D).length from (iF D).symm, mD z (pr D) (pr (es.drop D.length)) (by rw [iF, eD]; omega)]
    rw [gh (by rw [iF, eD]; omega), dr]
   rw [show D.length * (1 + 1) = D.length * 2 from rfl, e3] at hSc
   have hw : RdAt H3 v (1 + 1) (pr D ++ z) := hSc.rd 0 rfl
   have hwl : (pr D ++ z).length = es.length * (1 + 1) := by rw [dh, iF, hz]; omega
   simp (disch := omega) only [↓RA, RZ, simprocAttr, hn, g0, g3, hw.aM hwl, c0D, h4]
   exact ⟨z, by unfold dd; rw [hD], by unfold dd; rw [hD]; exact hSc⟩
  have hne : iB es k ≠ iB es (k - 1) := fun e => h3 (by rw [e]; exact ⟨rfl, rfl⟩)
  simp (disch := omega) only [↓RA, RZ, simprocAttr, hn, g0, g3, h3]
  refine ⟨n - 1, by omega, k + 1, ⟨by omega, by omega, fun j h4 h5 => ?_⟩, by simp, hS1⟩
  by_cases e : j = k
  ·rw [e]; exact hne
  ·exact hdis j h4 (by omega)
 have hke : k = es.length := by omega
 have hd := sN es es.length (dm _) (hke ▸ hdis)
 rw [ek] at hd
 simp (disch := omega) only [↓RA, RZ, simprocAttr, hn, g0, c0D, h2]
 exact ⟨[], by unfold dd; rw [hd]; exact (RdAt.sub_self (size := 1) (hS.rd 0 rfl) (iF es)).symm, by unfold dd; rw [hd, dr]; exact hS1⟩
theorem a6w {B : Base} {v : Value} {es : List (Int × Int)} (hS : St prog B H [⟨v, 2, pr es⟩]) (hl : es.length < 100000000000) :
 Fn prog 72 [v] H fun r H' => ∃ rest : List Value, (∀ b, kJ r = some b → kJ v = some b) ∧ (∀ H2, RdAt H2 v 2 (pr (dd es) ++ rest) → RdAt H2 r 2 (pr (dd es))) ∧ St prog B H' [⟨v, 2, pr (dd es) ++ rest⟩] :=
 (yV hS hl).mono fun _ _ ⟨rest, e, h⟩ => ⟨rest, fun _ h => tW (e ▸ h), fun _ h => e ▸ uK h, h⟩
end Go.Ds
namespace Go.Ds
open Go.Proofs Go.Proofs.Tryz
variable {H : Heap}
theorem a7C (a : Int) : Fn prog 117 [I a] H fun r H' => r = .bool false ∧ St prog H H' [] := by
 refine .aY func117 rfl (by kernel_rfl) (m := 6) rfl fun l hn g0 => ?_
 simp (disch := omega) only [↓RA, RZ, simprocAttr, hn, g0, c4Y]
 exact .refl _ _
def sF (a b : Int) : Int := if a < b then -1 else if b < a then 1 else 0
theorem vJ (a b : Int) : Fn prog 63 [I a, I b] H fun r H' => r = I (sF a b) ∧ St prog H H' [] := by
 refine .aD func63 rfl (by kernel_rfl) (m := 20) rfl fun l hn g0 g1 => ?_
 simp (disch := omega) only [↓RA, RZ, simprocAttr, hn, g0]
 refine (sR H).cF (a7C _) fun H1 hS1 => ?_
 simp (disch := omega) only [↓RA, RZ, simprocAttr, hn, g1]
 refine hS1.cF (a7C _) fun H2 hS2 => ?_
 simp (disch := omega) only [↓RA, RB, simprocAttr, hn, g0, g1]
 refine iA (fun h => ?_) (fun h => ?_)
 ·simp (disch := omega) only [↓RA, RZ, simprocAttr, hn, c1u, h]
  exact ⟨by simp [sF, h], hS2⟩
 simp (disch := omega) only [↓RA, RZ, simprocAttr, hn, g0, g1, h]
 refine iA (fun h2 => ?_) (fun h2 => ?_)
 ·simp (disch := omega) only [↓RA, RZ, simprocAttr, hn, c1u, h, h2]
  exact ⟨by simp [sF, h, h2], hS2⟩
 simp (disch := omega) only [↓RA, RZ, simprocAttr, hn, c1u, h, h2]
 exact ⟨by simp [sF, h, h2], hS2⟩
def orI : List Int → Int
 | [] => 0
 | a :: l => if a = 0 then orI l else a
theorem a2j (xs : List Int) : ∀ i, i ≤ xs.length → (∀ j, j < i → iB xs j = 0) → orI xs = orI (xs.drop i)
 | 0, _, _ => rfl
 | i + 1, hi, h => by
   rw [a2j xs i (by omega) (fun j hj => h j (by omega)), uT xs i (by omega), orI, if_pos (h i (by omega))]
theorem b4Z (v : Value) (xs : List Int) (hv : Sl 1 (one I) H v xs) (hl : xs.length < 1000000) : Fn prog 141 [v] H fun r H' => r = I (orI xs) ∧ St prog H H' [] := by
 refine .aY func141 rfl (by kernel_rfl) (m := 18) rfl fun l hn g0 => ?_
 simp (disch := omega) only [↓RA, RZ, simprocAttr, hn, g0, ((sR H).sl hv).len]
 refine Wp.al (fun n l H' => l.length = 18 ∧ get l 3 = I 0 ∧ get l 6 = v ∧ get l 7 = I xs.length ∧ ∃ (i : Nat), (n + i = xs.length ∧ ∀ j, j < i → iB xs j = 0) ∧ get l 8 = I i ∧ St prog H H' []) xs.length ?_ ?_
 ·simp (disch := omega) only [RB, RC, simprocAttr, hn]
  exact ⟨0, ⟨by omega, by simp⟩, rfl, (sR H)⟩
 rintro n l H1 ⟨hn, g3, g6, g7, i, ⟨hi,h0⟩, g8, hS1⟩
 simp (disch := omega) only [↓RA, RB, simprocAttr, hn, g7, g8]
 refine iA (fun h => ?_) (fun h => ?_)
 ·simp (disch := omega) only [↓RA, RZ, simprocAttr, hn, g3, g6, g8, (hS1.sl hv).idx, (hS1.sl hv).ld, one, h]
  refine iA (fun h2 => ?_) (fun h2 => ?_)
  ·simp (disch := omega) only [↓RA, RZ, simprocAttr, hn, c0a, h, h2]
   refine ⟨?_, hS1⟩
   rw [a2j xs i (by omega) h0, uT xs i (by omega), orI, if_neg h2]
  simp (disch := omega) only [↓RA, RZ, simprocAttr, hn, g3, g6, g7, g8, h, h2]
  exact ⟨n - 1, by omega, i + 1, ⟨by omega, fun j hj => by by_cases e : j = i; (· subst e; exact dG.1 h2); exact h0 j (by omega)⟩, by simp, hS1⟩
 simp (disch := omega) only [↓RA, RZ, simprocAttr, hn, g3, c0a, h]
 refine ⟨?_, hS1⟩
 rw [a2j xs i (by omega) h0, List.drop_eq_nil_of_le (by omega), orI]
theorem a9x (x y : Int × Int) : orI [sF x.1 y.1, sF x.2 y.2] = cf2 x y := by
 unfold cf2 sF orI orI orI
 split
 ·simp
 ·split
  ·simp
  ·simp
   intro h
   exact h.symm
theorem b9a (x y : Int × Int) : Fn prog 113 [.agg #[I x.1, I x.2], .agg #[I y.1, I y.2]] H fun r H' => r = I (cf2 x y) ∧ St prog H H' [] := by
 refine .aD func113 rfl (by kernel_rfl) (m := 17) rfl fun l hn g0 g1 => ?_
 simp (disch := omega) only [↓RA, RB, simprocAttr, g0]
 refine (sR H).eNew 2 [I x.1, I x.2] rfl rfl rfl pK fun A1 H1 hS1 => ?_
 simp only [RT] at hS1
 simp (disch := omega) only [↓RA, RB, simprocAttr, g1]
 refine hS1.eNew 2 [I y.1, I y.2] rfl rfl rfl pK fun A2 H2 hS2 => ?_
 simp only [RT] at hS2
 simp (disch := omega) only [↓RA, RB, simprocAttr]
 refine Wp.aO jZ [(6, 0), (8, 0)] (by kernel_rfl) (by kernel_rfl) ?_
 simp (disch := omega) only [↓RA, RZ, simprocAttr, hn, hS2.ld 0 rfl, hS2.ld 1 rfl]
 refine hS2.cF (vJ x.1 y.1) fun H3 hS3 => ?_
 simp (disch := omega) only [↓RA, RZ, simprocAttr, hn, hS3.ld 0 rfl, hS3.ld 1 rfl]
 refine hS3.cF (vJ x.2 y.2) fun H4 hS4 => ?_
 simp (disch := omega) only [↓RA, RB, simprocAttr, hn]
 refine hS4.ai [I (sF x.1 y.1), I (sF x.2 y.2)] a3l a5Z rfl rfl (by simp [Value.cells]) rfl rfl (by decide) (by decide) fun w1 H5 hS5 => ?_
 simp only [RT] at hS5
 simp (disch := omega) only [↓RA, RZ, simprocAttr, hn]
 refine hS5.cF (b4Z w1 [sF x.1 y.1, sF x.2 y.2] (hS5.av 2 rfl (tC _)) (by simp)) fun H6 hS6 => ?_
 simp (disch := omega) only [↓RA, RZ, simprocAttr, hn, hS2.ld 0 rfl, hS2.ld 1 rfl, c4L]
 exact ⟨by rw [a9x], hS6.forget⟩
theorem b7s (x y : Int × Int) : Fn prog 103 [.agg #[I x.1, I x.2], .agg #[I y.1, I y.2]] H fun r H' => r = I (cf2 x y) ∧ St prog H H' [] := by
 refine .aD func103 rfl (by kernel_rfl) (m := 17) rfl fun l hn g0 g1 => ?_
 simp (disch := omega) only [↓RA, RB, simprocAttr, g0]
 refine (sR H).eNew 2 [I x.1, I x.2] rfl rfl rfl rB fun A1 H1 hS1 => ?_
 simp only [RT] at hS1
 simp (disch := omega) only [↓RA, RB, simprocAttr, g1]
 refine hS1.eNew 2 [I y.1, I y.2] rfl rfl rfl rB fun A2 H2 hS2 => ?_
 simp only [RT] at hS2
 simp (disch := omega) only [↓RA, RB, simprocAttr]
 refine Wp.aO jZ [(6, 0), (8, 0)] (by kernel_rfl) (by kernel_rfl) ?_
 simp (disch := omega) only [↓RA, RZ, simprocAttr, hn, hS2.ld 0 rfl, hS2.ld 1 rfl]
 refine hS2.cF (vJ x.1 y.1) fun H3 hS3 => ?_
 simp (disch := omega) only [↓RA, RZ, simprocAttr, hn, hS3.ld 0 rfl, hS3.ld 1 rfl]
 refine hS3.cF (vJ x.2 y.2) fun H4 hS4 => ?_
 simp (disch := omega) only [↓RA, RB, simprocAttr, hn]
 refine hS4.ai [I (sF x.1 y.1), I (sF x.2 y.2)] a3l a5Z rfl rfl (by simp [Value.cells]) rfl rfl (by decide) (by decide) fun w1 H5 hS5 => ?_
 simp only [RT] at hS5
 simp (disch := omega) only [↓RA, RZ, simprocAttr, hn]
 refine hS5.cF (b4Z w1 [sF x.1 y.1, sF x.2 y.2] (hS5.av 2 rfl (tC _)) (by simp)) fun H6 hS6 => ?_
 simp (disch := omega) only [↓RA, RZ, simprocAttr, hn, hS2.ld 0 rfl, hS2.ld 1 rfl, c3h]
 exact ⟨by rw [a9x], hS6.forget⟩
theorem b8z (x y : Int × Int) : Fn prog 213 [.agg #[I x.1, I x.2], .agg #[I y.1, I y.2]] H fun r H' => r = I (cf2 x y) ∧ St prog H H' [] := by
 refine .aD func213 rfl (by kernel_rfl) (m := 17) rfl fun l hn g0 g1 => ?_
 simp (disch := omega) only [↓RA, RB, simprocAttr, g0]
 refine (sR H).eNew 2 [I x.1, I x.2] rfl rfl rfl rB fun A1 H1 hS1 => ?_
 simp only [RT] at hS1
 simp (disch := omega) only [↓RA, RB, simprocAttr, g1]
 refine hS1.eNew 2 [I y.1, I y.2] rfl rfl rfl rB fun A2 H2 hS2 => ?_
 simp only [RT] at hS2
 simp (disch := omega) only [↓RA, RB, simprocAttr]
 refine Wp.aO jZ [(6, 0), (8, 0)] (by kernel_rfl) (by kernel_rfl) ?_
 simp (disch := omega) only [↓RA, RZ, simprocAttr, hn, hS2.ld 0 rfl, hS2.ld 1 rfl]
 refine hS2.cF (vJ x.1 y.1) fun H3 hS3 => ?_
 simp (disch := omega) only [↓RA, RZ, simprocAttr, hn, hS3.ld 0 rfl, hS3.ld 1 rfl]
 refine hS3.cF (vJ x.2 y.2) fun H4 hS4 => ?_
 simp (disch := omega) only [↓RA, RB, simprocAttr, hn]
 refine hS4.ai [I (sF x.1 y.1), I (sF x.2 y.2)] a3l a5Z rfl rfl (by simp [Value.cells]) rfl rfl (by decide) (by decide) fun w1 H5 hS5 => ?_
 simp only [RT] at hS5
 simp (disch := omega) only [↓RA, RZ, simprocAttr, hn]
 refine hS5.cF (b4Z w1 [sF x.1 y.1, sF x.2 y.2] (hS5.av 2 rfl (tC _)) (by simp)) fun H6 hS6 => ?_
 simp (disch := omega) only [↓RA, RZ, simprocAttr, hn, hS2.ld 0 rfl, hS2.ld 1 rfl, c2V]
 exact ⟨by rw [a9x], hS6.forget⟩
end Go.Ds
namespace Go.Ds
open Go.Proofs
open Go.Shelf Go.RowKit Go.Lib Go.Sort
theorem lt2 (x y : Int × Int) : ltOf cf2 x y = decide (x.1 < y.1 ∨ (x.1 = y.1 ∧ x.2 < y.2)) := by
 unfold ltOf cf2
 congr 1
 apply propext
 split
 ·omega
 ·split
  ·omega
  ·split
   ·omega
   ·split <;> omega
theorem c3V : SWO (ltOf cf2) where
 irrefl x := by rw [lt2]; simp
 trans x y z h1 h2 := by rw [lt2] at *; simp at *; omega
 ntrans x y z h1 h2 := by rw [lt2] at *; simp at *; omega
theorem c4O (x y : Int × Int) (h1 : ltOf cf2 x y = false) (h2 : ltOf cf2 y x = false) : x = y := by
 rw [lt2] at *
 simp at h1 h2
 apply gz <;> omega
theorem b5V : (fun x y => !(ltOf cf2) y x) = le2 := by
 funext x y
 rw [lt2]
 by_cases h : le2 x y = true
 ·rw [h]
  rw [nY] at h
  rw [dM, decide_eq_false_iff_not]
  omega
 ·rw [eM] at h
  rw [h]
  rw [← eM, nY] at h
  rw [Bool.not_eq_false', decide_eq_true_eq]
  omega
def a4N (P : Program) (K kc : FuncId) (sm : Int × Int → Prop) : Prop := ∀ (kJ off cap : Nat) (d : Array (Int × Int)) (w : World), (∀ x ∈ d.toList, sm x) → HoldsK jT 2 w kJ off d → kJ < w.heap.size → d.size < 4611686018427387904 →
    Calls P K #[.slice (some ⟨kJ, off, none⟩) d.size cap, .func (.func kc) #[] #[]] w fun e w' => e = .returned (.tuple #[]) ∧ ∃ n os, w' = sortWorldK jT 2 w kJ off n (d.toList.mergeSort le2).toArray os
def a2k (P : Program) (K : FuncId) : Prop := ∀ (p : Option Addr) (cap : Nat) (fv : Value) (w : World), Calls P K #[.slice p 0 cap, fv] w fun e w' => e = .returned (.tuple #[]) ∧ w' = w
theorem b4P {P : Program} {kc : FuncId} {α : Type} [Inhabited α] (val : α → Int × Int) (cf : α → α → Int) (hf : ∀ x y, Fn P kc [.agg #[I (val x).1, I (val x).2], .agg #[I (val y).1, I (val y).2]] .nil fun r H' => r = I (cf x y) ∧ St P (.nil : Heap) H' []) (kJ off size : Nat) (w : World) : CmpLays P kc #[] (fun x => jT (val x)) 2 cf kJ off size w := by
 intro m os dk hdk x y
 generalize sortWorldK (fun x => jT (val x)) 2 w kJ off m dk os = W
 obtain ⟨_, v, H1, h1, hr, _⟩ := hf x y
 have ha : All2 (V (fun _ _ => none)) [.agg #[I (val x).1, I (val x).2], .agg #[I (val y).1, I (val y).2]] (#[.agg #[I (val x).1, I (val x).2], .agg #[I (val y).1, I (val y).2]] : Array Value).toList := ⟨.of_flat rfl, .of_flat rfl, trivial⟩
 have hc := CallOk.calls (f := kc) h1 (HRel.none W) ha
 have hargs : (#[.agg (jT (val x)).toArray, .agg (jT (val y)).toArray] ++ #[] : Array Value) = #[.agg #[I (val x).1, I (val x).2], .agg #[I (val y).1, I (val y).2]] := rfl
 rw [hargs]
 refine hc.mono ?_
 rintro e w' ⟨ρ', v', rfl, hp, hv⟩
 subst hr
 have hfr : ∀ b, b < W.heap.size → w'.heap[b]? = W.heap[b]? := fun b hb => (hp.frame b hb (by rintro ⟨A, e, p, kJ, hq, _⟩; cases hq)).1
 refine ⟨by rw [hv.ae rfl], w'.drawn - W.drawn, w'.heap.extract W.heap.size w'.heap.size, ?_⟩
 have h1 := hp.os
 have h2 := hp.tape
 have h3 := hp.output
 have h4 := hp.size
 clear hp hv
 obtain ⟨wh, wt, wd, wo, wu⟩ := W
 obtain ⟨ah, at', ad, ao, au⟩ := w'
 simp only at h1 h2 h3 h4 hfr
 simp only [grow, World.drewN, World.mk.injEq]
 refine ⟨?_, h2.1, by omega, h1, h3⟩
 apply Array.ext_getElem?
 intro i
 rw [Array.getElem?_append]
 split
 ·exact hfr i (by assumption)
 ·rw [Array.getElem?_extract]
  split
  ·congr 1; omega
  ·rw [Array.getElem?_eq_none (by omega)]
theorem a7w {P : Program} {kc : FuncId} (hf : ∀ x y, Fn P kc [.agg #[I x.1, I x.2], .agg #[I y.1, I y.2]] .nil fun r H' => r = I (cf2 x y) ∧ St P (.nil : Heap) H' []) (kJ off size : Nat) (w : World) : CmpLays P kc #[] jT 2 cf2 kJ off size w := b4P (fun x => x) cf2 hf kJ off size w
section
variable {P : Program} {H : Heap} {ρ ρ' : Rho} {H' : Heap} {w w1 w2 : World}
theorem Post.cO (h : Post P ρ H w ρ' H' w1) (hsz : w1.heap.size ≤ w2.heap.size) (hb : ∀ b, b < w1.heap.size → w2.heap[b]? = w1.heap[b]?) (h1 : w2.os = w1.os) (h2 : w2.tape = w1.tape ∧ w1.drawn ≤ w2.drawn) (h3 : w2.output = w1.output) : Post P ρ H w ρ' H' w2 where
 le := h.le
 rel := h.rel.other hsz fun A e p hp => hb _ (h.rel.dom _ _ _ hp).2
 len := h.len
 size := dI h.size hsz
 os := h1.trans h.os
 tape := ⟨h2.1.trans h.tape.1, dI h.tape.2 h2.2⟩
 output := h3.trans h.output
 frame b hlt hw := by
  obtain ⟨e, hw'⟩ := h.frame b hlt hw
  exact ⟨(hb b (dO hlt h.size)).trans e, hw'⟩
 loops b r hr := by
  obtain ⟨r', hr'⟩ := h.loops b r hr
  exact ⟨r', by rw [hb b (mJ hr')]; exact hr'⟩
 img := h.img
theorem c0i : ∀ (l : List (Int × Int)) (j : Nat), j < l.length * 2 → (jT (l.toArray[j / 2]!))[j % 2]! = (pr l).getD j undef := by
 intro l
 induction l with
 | nil => intro j hj; simp at hj
 | cons x l ih =>
   intro j hj
   have e : pr (x :: l) = I x.1 :: I x.2 :: pr l := rfl
   rw [e]
   match j with
   | 0 => rfl
   | 1 => rfl
   | j + 2 =>
     have h1 : (j + 2) / 2 = j / 2 + 1 := by omega
     have h2 : (j + 2) % 2 = j % 2 := by omega
     have := ih j (by simp at hj; omega)
     rw [h1, h2]
     simp only [List.getD_cons_succ]
     rw [← this]
     congr 2
     simp only [List.getElem!_toArray]
     simp
end
theorem V.func0 {ρ : Rho} {k : FuncId} {v' : Value} (h : V ρ (.func (.func k) #[] #[]) v') : v' = .func (.func k) #[] #[] := by
 cases h with
 | v1 h => cases h with
   | c1 h => cases h with
     | c0 h => cases h with
       | flat h => rfl
     | fn ha hb =>
       rename_i a' b'
       have e1 : a' = #[] := by
        obtain ⟨l⟩ := a'
        cases l with
        | nil => rfl
        | cons => exact ha.elim
       have e2 : b' = #[] := by
        obtain ⟨l⟩ := b'
        cases l with
        | nil => rfl
        | cons => exact hb.elim
       rw [e1, e2]
theorem a8i (es : List (Int × Int)) : kH (pr es) = true := by
 unfold kH
 rw [dz]
 intro c hc
 obtain ⟨x, _, hx⟩ := eC.1 hc
 simp only [jT, eA, eJ, or_false] at hx
 rcases hx with rfl | rfl <;> rfl
set_option maxRecDepth 10000 in
theorem b7R {P : Program} {K kc : FuncId} {sm : Int × Int → Prop} (hso : a4N P K kc sm) {H : Heap} {A i lo ver n : Nat} {ty : TypeId} {pre : List Value} {es : List (Int × Int)} (hg : iP H A = some (.cells (pre ++ pr es) ty true lo ver)) (hlo : lo ≤ i + (pr es).length) (hpre : pre.length = i)
 (hn : (pr es).length = n * 2) (hty : iD P ty = some 2) (hl : es.length < 100000000000) (h0 : es ≠ []) (hsm : ∀ x ∈ es, sm x) :
 CallOk P K [.slice (some ⟨A, i, some (i + (pr es).length)⟩) n 2, .func (.func kc) #[] #[]] H (.tuple #[]) (hset H A (.cells (iZ (pre ++ pr es) i (pr (wB es))) ty true (pre ++ pr es).length ver)) := by
 intro k ρ w args' hr ha
 obtain ⟨l⟩ := args'
 match l, ha with
 | [x, f], ⟨hx, hf, _⟩ =>
   obtain rfl := V.func0 hf
   have hlen : (pre ++ pr es).length = i + (pr es).length := by rw [dh, hpre]
   obtain ⟨p, c', a, hp, h0', hin, hnc, hac, hpk, rfl⟩ := hx.aw
   rw [iF] at hn
   have hne : 0 < es.length := ga.2 h0
   have hnn : n = es.length := by omega
   subst hnn
   have ha' : a = ⟨p.b, p.at i, none⟩ := by
    rcases hac with h | h
    ·exact h.1
    ·omega
   subst ha'
   have hp2 : ρ A (pre ++ pr es).length = some p := by rw [hlen]; exact hp
   obtain ⟨_, _, hfit, cur, ty', fr, hw, hsz, hfr, hcell⟩ := (hr.cells _ _ _ _ _ _ hg).2 _ _ hp2
   obtain ⟨rfl, hd0, _⟩ := hfr rfl
   let d : Array (Int × Int) := es.toArray
   have hds : d.size = es.length := by simp [d]
   have hfl := fun j hj => c0i es j (by simpa using hj)
   have hH : Go.Sort.HoldsK jT 2 w p.b (p.at i) d := by
    intro j hj
    rw [Go.Sort.size_flatK, hds] at hj
    constructor
    ·have hc : (pre ++ pr es)[i + j]? = some ((pr es).getD j undef) := by
      rw [dZ (by omega), hpre, fy, dg, dx (by rw [iF]; omega)]
      rfl
     obtain ⟨c2, hc2, hrel⟩ := hcell (by rw [hlen]; exact hlo) (i + j) _ (by rw [hlen, iF]; omega) (by omega) hc
     have hsc : jB ((pr es).getD j undef) = true := by
      have := a8i es
      unfold kH at this
      rw [dz] at this
      apply this
      rw [dg, dx (by rw [iF]; omega)]
      exact gE _
     have := hrel.az hsc
     subst this
     have hat : p.at (i + j) = p.at i + j := by unfold Place.at; omega
     rw [hat] at hc2
     simp only [World.cell?, hw]
     rw [Go.Sort.get_flatK _ _ _ _ (by rw [hds]; exact hj), hfl j hj]
     exact hc2
    ·simp only [World.frozen?, hw]
     simp
   have hcon := hso p.b (p.at i) c' d w (by simpa [d] using hsm) hH (hr.dom _ _ _ hp).2 (by rw [hds]; omega)
   rw [hds] at hcon
   obtain ⟨w1, hrun, hpost⟩ := tS hr hg hp2 h0' (.aG (a8i (wB es))) (by rw [hlen, iF, iF, (pS es).length_eq]; omega) (by rw [hlen]; exact hlo)
   have hcsz : p.at i + (pr (wB es)).length ≤ cur.size := by
    rw [iF, (pS es).length_eq, hsz]
    unfold Place.at
    rw [hlen, iF] at hfit
    omega
   have hst := run_storeCells_at (P := P) p.b (p.at i) ty' (pr (wB es)) 0 cur w hw (by simpa using hcsz) (All2.aG (ρ := ρ) (a8i (wB es))).aW
   rw [hst] at hrun
   injection hrun with _ hw1
   subst hw1
   refine callsIn_wide.2 (hcon.mono ?_)
   rintro e w' ⟨rfl, m, os, rfl⟩
   refine ⟨ρ, _, rfl, ?_, .tuple trivial⟩
   have hsl : (wB es).length = es.length := (pS es).length_eq
   have hml : ((d.toList.mergeSort le2)).length = es.length := by simp [d]
   have hfs : ∀ j, j < es.length * 2 → (Go.Sort.flatK jT 2 (d.toList.mergeSort le2).toArray)[j]! = (pr (wB es)).getD j undef := fun j hj => by
    rw [Go.Sort.get_flatK _ _ _ _ (by simpa [d] using hj)]
    exact c0i (d.toList.mergeSort le2) j (by rw [hml]; exact hj)
   have hFs : (Go.Sort.flatK jT 2 (d.toList.mergeSort le2).toArray).size = es.length * 2 := by simp [d]
   unfold sortWorldK Go.Sort.putRowK
   generalize Go.Sort.flatK jT 2 (d.toList.mergeSort le2).toArray = F at hfs hFs ⊢
   have hlt := mJ hw
   have hh : ∀ b, b < w.heap.size → (Go.Sort.grow (Go.Sort.putRow id (Go.Sort.ahead w m) p.b (p.at i) F) os).heap[b]? = (Go.Sort.putRow id (Go.Sort.ahead w m) p.b (p.at i) F).heap[b]? := fun b hb => by
    have : b < (Go.Sort.putRow id (Go.Sort.ahead w m) p.b (p.at i) F).heap.size := by simpa [Go.Sort.putRow, Go.Sort.mapBlock, Go.Sort.ahead] using hb
    unfold Go.Sort.grow
    exact fE this
   refine hpost.cO ?_ ?_ rfl ⟨rfl, Nat.le_add_right _ _⟩ rfl
   ·simp [Go.Sort.grow, Go.Sort.putRow, Go.Sort.mapBlock, Go.Sort.ahead]
   ·intro b hbs
    rw [setRow_size] at hbs
    rw [hh b hbs]
    by_cases e : b = p.b
    ·subst e
     rw [setRow_heap w p.b cur _ ty' (0, 0) hw]
     have e2 : (Go.Sort.putRow id (Go.Sort.ahead w m) p.b (p.at i) F).heap[p.b]? = some (.cells (Go.Sort.putCells id (p.at i) F cur) ty' (0, 0)) := by
      simp [Go.Sort.putRow, Go.Sort.mapBlock, Go.Sort.ahead, gm, hw, Go.Sort.onCells]
     rw [e2]
     congr 2
     apply Array.ext_getElem?
     intro j
     have hseg := a5G cur.toList (pr (wB es)) (p.at i) j (by simpa using hcsz)
     have e3 : ((List.take (p.at i + 0) cur.toList ++ pr (wB es) ++ List.drop (p.at i + 0 + (pr (wB es)).length) cur.toList).toArray)[j]? = (List.take (p.at i) cur.toList ++ pr (wB es) ++ List.drop (p.at i + (pr (wB es)).length) cur.toList)[j]? := by simp
     rw [e3, hseg]
     simp only [Go.Sort.putCells, Array.getElem?_mapIdx, gk]
     rw [iF, hsl] at hcsz ⊢
     by_cases h1 : p.at i ≤ j ∧ j < p.at i + es.length * 2
     ·rw [if_pos h1]
      have hjc : j < cur.size := by omega
      rw [fJ hjc]
      simp only [dP]
      rw [if_pos (by rw [hFs]; exact h1), hfs _ (by omega), dg, dx (by rw [iF, hsl]; omega)]
      rfl
     ·rw [if_neg h1]
      cases hc : cur[j]? with
      | none => simp
      | some c =>
        simp only [dP]
        rw [if_neg (by rw [hFs]; exact h1)]
    ·rw [setRow_other _ _ _ _ e]
     simp [Go.Sort.putRow, Go.Sort.mapBlock, Go.Sort.ahead, gm, eH e]
theorem a1O {P : Program} {K kc : FuncId} {sm : Int × Int → Prop} (hso : a4N P K kc sm) (hno : a2k P K) (hent0 : rK P K) {H : Heap} {H0 : Base} {os : List Ob} (hS : St P H0 H os) (i : Nat) {v : Value} {es : List (Int × Int)} (ho : os[i]? = some ⟨v, 2, pr es⟩) (hl : es.length < 100000000000) (hsm : ∀ x ∈ es, sm x) {Q : Value → Heap → Prop}
 (h : ∀ H1, St P H0 H1 (os.set i ⟨v, 2, pr (wB es)⟩) → Q (.tuple #[]) H1) : wT P K [v, .func (.func kc) #[] #[]] H Q := by
 have hent : rK P K := hent0
 by_cases h0 : es = []
 ·subst h0
  refine ⟨.tuple #[], H, hent, ?_, h H ?_⟩
  ·intro k ρ w args' hr ha
   obtain ⟨l⟩ := args'
   match l, ha with
   | [x, f], ⟨hx, hf, _⟩ =>
     obtain rfl := V.func0 hf
     have hown := hS.own _ (dT ho)
     unfold OwnAt at hown
     rw [if_neg (by simp)] at hown
     have hx0 : ∃ p cap, x = .slice p 0 cap := by
      rcases hown with ⟨h2, _⟩ | ⟨A, j, ty, lo', ver, pre, m, h2, h3, h4, h5, h6, h7⟩
      ·simp only at h2
       subst h2
       rcases hx.ay with ⟨_, _, _, rfl⟩ | ⟨A, j, e, p, c', a, hh, _⟩
       ·exact ⟨_, _, rfl⟩
       ·cases hh
      ·simp only at h5 h6
       subst h6
       have hm : m = 0 := by have : (pr []).length = 0 := rfl; omega
       subst hm
       obtain ⟨p, c', a, _, _, _, _, _, _, rfl⟩ := hx.aw
       exact ⟨_, _, rfl⟩
     obtain ⟨p, cap, rfl⟩ := hx0
     refine callsIn_wide.2 ((hno p cap _ w).mono ?_)
     rintro e w' ⟨rfl, rfl⟩
     exact ⟨ρ, _, rfl, .refl hr, .tuple trivial⟩
  ·obtain ⟨hi, hoi⟩ := dw.1 ho
   have e : wB [] = [] := List.Perm.eq_nil (pS [])
   rw [e, ← hoi, gn]
   exact hS
 ·have hown := hS.own _ (dT ho)
  unfold OwnAt at hown
  rw [if_neg (by simp)] at hown
  have hne : 0 < es.length := ga.2 h0
  rcases hown with ⟨_, h3⟩ | ⟨A, j, ty, lo', ver, pre, m, h2, h3, h4, h5, h6, h7⟩
  ·simp only at h3
   have := congrArg List.length h3
   rw [iF, ey] at this
   omega
  ·simp only at h2 h3 h5 h6
   have hsl : (pr (wB es)).length = (pr es).length := by rw [iF, iF, (pS es).length_eq]
   have hcall := b7R hso h2 h3 h4 h5 h7 hl h0 hsm
   rw [← h6] at hcall
   refine ⟨_, _, hent, hcall, h _ (hS.put i ho ?_ ?_ ?_ ?_)⟩
   ·unfold OwnAt
    rw [if_neg (by simp)]
    refine .inr ⟨A, j, ty, (pre ++ pr es).length, ver, pre, m, ?_, ?_, h4, ?_, ?_, h7⟩
    ·rw [iR _ (jG h2)]
     have := mD (pr (wB es)) pre (pr es) (by rw [hsl]; exact dm _)
     rw [h4] at this
     rw [this, hsl, List.drop_length, dr]
    ·simp only [dh, h4, hsl]; exact dm _
    ·simp only [hsl]; exact h5
    ·simp only [hsl]; exact h6
   ·rw [jA]; exact dm _
   ·intro B' hB hne'
    refine pQ fun hh => hne' ?_
    simp [kJ, h6, hh]
   ·intro B' hB
    exact .inl hB
end Go.Ds
namespace Go.Proofs
open Go.Shelf
def Tryz.bF : Go.Shelf.Ren := ⟨fun | 6 => 70 | 15 => 124 | 14 => 123 | 28 => 167 | 29 => 168 | 20 => 159 | 21 => 160 | 22 => 161 | 23 => 162 | 24 => 163 | 25 => 164 | 26 => 165 | 27 => 166 | 46 => 214 | 47 => 215 | 48 => 216 | 49 => 217 | 50 => 218 | 57 => 245 | n => n, fun | 22 => 45 | 24 => 74 | 25 => 161 | 3 => 3 | 39 => 143 | 0 => 0 | 53 => 257 | 55 => 28 | 4 => 4 | 46 => 251 | 45 => 250 | 50 => 197 | 5 => 5 | 9 => 9 | 66 => 300 | 70 => 304 | 76 => 334 | 77 => 335 | n => n, fun | n => n⟩
theorem Tryz.bR : Go.Proofs.SlLaysF0.n6 Tryz.prog Tryz.bF := {
 mixed := by kernel_rfl
 f6 := ⟨Tryz.f70.name, by decide, Tryz.func70.trans (congrArg some (by kernel_rfl))⟩
 f14 := ⟨Tryz.f123.name, by decide, Tryz.func123.trans (congrArg some (by kernel_rfl))⟩
 f15 := Tryz.func124.trans (congrArg some (by kernel_rfl))
 f20 := ⟨Tryz.f159.name, by decide, Tryz.func159.trans (congrArg some (by kernel_rfl))⟩
 f21 := ⟨Tryz.f160.name, by decide, Tryz.func160.trans (congrArg some (by kernel_rfl))⟩
 f22 := ⟨Tryz.f161.name, by decide, Tryz.func161.trans (congrArg some (by kernel_rfl))⟩
 f23 := ⟨Tryz.f162.name, by decide, Tryz.func162.trans (congrArg some (by kernel_rfl))⟩
 f24 := ⟨Tryz.f163.name, by decide, Tryz.func163.trans (congrArg some (by kernel_rfl))⟩
 f25 := ⟨Tryz.f164.name, by decide, Tryz.func164.trans (congrArg some (by kernel_rfl))⟩
 f26 := ⟨Tryz.f165.name, by decide, Tryz.func165.trans (congrArg some (by kernel_rfl))⟩
 f27 := ⟨Tryz.f166.name, by decide, Tryz.func166.trans (congrArg some (by kernel_rfl))⟩
 f28 := Tryz.func167.trans (congrArg some (by kernel_rfl))
 f29 := Tryz.func168.trans (congrArg some (by kernel_rfl))
 f46 := ⟨Tryz.f214.name, by decide, Tryz.func214.trans (congrArg some (by kernel_rfl))⟩
 f47 := Tryz.func215.trans (congrArg some (by kernel_rfl))
 f48 := Tryz.func216.trans (congrArg some (by kernel_rfl))
 f49 := ⟨Tryz.f217.name, by decide, Tryz.func217.trans (congrArg some (by kernel_rfl))⟩
 f50 := ⟨Tryz.f218.name, by decide, Tryz.func218.trans (congrArg some (by kernel_rfl))⟩
 f57 := ⟨Tryz.f245.name, by decide, Tryz.func245.trans (congrArg some (by kernel_rfl))⟩
 t0 := Tryz.underlying0
 a0 := Tryz.isAgg0
 z0 := Tryz.sizeOf0
 v0 := Tryz.zeroValue0
 t3 := Tryz.underlying3
 a3 := Tryz.isAgg3
 z3 := Tryz.sizeOf3
 v3 := Tryz.zeroValue3
 t4 := Tryz.underlying4
 a4 := Tryz.isAgg4
 z4 := Tryz.sizeOf4
 v4 := Tryz.zeroValue4
 t5 := Tryz.underlying5
 a5 := Tryz.isAgg5
 z5 := Tryz.sizeOf5
 v5 := Tryz.zeroValue5
 t9 := Tryz.underlying9
 a9 := Tryz.isAgg9
 z9 := Tryz.sizeOf9
 v9 := Tryz.zeroValue9
 t22 := Tryz.underlying45
 a22 := Tryz.isAgg45
 z22 := Tryz.sizeOf45
 v22 := Tryz.zeroValue45
 t25 := Tryz.underlying161
 a25 := Tryz.isAgg161
 z25 := Tryz.sizeOf161
 v25 := Tryz.zeroValue161
 t39 := Tryz.underlying143
 a39 := Tryz.isAgg143
 z39 := Tryz.sizeOf143
 v39 := Tryz.zeroValue143
 t45 := Tryz.underlying250
 a45 := Tryz.isAgg250
 z45 := Tryz.sizeOf250
 v45 := Tryz.zeroValue250
 t46 := Tryz.underlying251
 a46 := Tryz.isAgg251
 z46 := Tryz.sizeOf251
 v46 := Tryz.zeroValue251
 t50 := Tryz.underlying197
 a50 := Tryz.isAgg197
 z50 := Tryz.sizeOf197
 v50 := Tryz.zeroValue197
 t53 := Tryz.underlying257
 a53 := Tryz.isAgg257
 z53 := Tryz.sizeOf257
 v53 := Tryz.zeroValue257
 t55 := Tryz.underlying28
 a55 := Tryz.isAgg28
 z55 := Tryz.sizeOf28
 v55 := Tryz.zeroValue28
 t66 := Tryz.underlying300
 a66 := Tryz.isAgg300
 z66 := Tryz.sizeOf300
 v66 := Tryz.zeroValue300
 t70 := Tryz.underlying304
 a70 := Tryz.isAgg304
 z70 := Tryz.sizeOf304
 v70 := Tryz.zeroValue304
 t76 := Tryz.underlying334
 a76 := Tryz.isAgg334
 z76 := Tryz.sizeOf334
 v76 := Tryz.zeroValue334
 t77 := Tryz.underlying335
 a77 := Tryz.isAgg335
 z77 := Tryz.sizeOf335
 v77 := Tryz.zeroValue335 }
def Tryz.bA : Go.Shelf.Ren := ⟨fun | 6 => 112 | 15 => 124 | 14 => 148 | 28 => 167 | 29 => 168 | 20 => 194 | 21 => 195 | 22 => 196 | 23 => 197 | 24 => 198 | 25 => 199 | 26 => 200 | 27 => 201 | 46 => 232 | 47 => 215 | 48 => 216 | 49 => 233 | 50 => 234 | 57 => 250 | n => n, fun | 22 => 60 | 24 => 67 | 25 => 210 | 3 => 3 | 39 => 143 | 0 => 0 | 53 => 257 | 55 => 28 | 4 => 4 | 46 => 251 | 45 => 250 | 50 => 197 | 5 => 5 | 9 => 9 | 66 => 300 | 70 => 304 | 76 => 334 | 77 => 335 | n => n, fun | n => n⟩
theorem Tryz.bH : Go.Proofs.SlLaysF0.n6 Tryz.prog Tryz.bA := {
 mixed := by kernel_rfl
 f6 := ⟨Tryz.f112.name, by decide, Tryz.func112.trans (congrArg some (by kernel_rfl))⟩
 f14 := ⟨Tryz.f148.name, by decide, Tryz.func148.trans (congrArg some (by kernel_rfl))⟩
 f15 := Tryz.func124.trans (congrArg some (by kernel_rfl))
 f20 := ⟨Tryz.f194.name, by decide, Tryz.func194.trans (congrArg some (by kernel_rfl))⟩
 f21 := ⟨Tryz.f195.name, by decide, Tryz.func195.trans (congrArg some (by kernel_rfl))⟩
 f22 := ⟨Tryz.f196.name, by decide, Tryz.func196.trans (congrArg some (by kernel_rfl))⟩
 f23 := ⟨Tryz.f197.name, by decide, Tryz.func197.trans (congrArg some (by kernel_rfl))⟩
 f24 := ⟨Tryz.f198.name, by decide, Tryz.func198.trans (congrArg some (by kernel_rfl))⟩
 f25 := ⟨Tryz.f199.name, by decide, Tryz.func199.trans (congrArg some (by kernel_rfl))⟩
 f26 := ⟨Tryz.f200.name, by decide, Tryz.func200.trans (congrArg some (by kernel_rfl))⟩
 f27 := ⟨Tryz.f201.name, by decide, Tryz.func201.trans (congrArg some (by kernel_rfl))⟩
 f28 := Tryz.func167.trans (congrArg some (by kernel_rfl))
 f29 := Tryz.func168.trans (congrArg some (by kernel_rfl))
 f46 := ⟨Tryz.f232.name, by decide, Tryz.func232.trans (congrArg some (by kernel_rfl))⟩
 f47 := Tryz.func215.trans (congrArg some (by kernel_rfl))
 f48 := Tryz.func216.trans (congrArg some (by kernel_rfl))
 f49 := ⟨Tryz.f233.name, by decide, Tryz.func233.trans (congrArg some (by kernel_rfl))⟩
 f50 := ⟨Tryz.f234.name, by decide, Tryz.func234.trans (congrArg some (by kernel_rfl))⟩
 f57 := ⟨Tryz.f250.name, by decide, Tryz.func250.trans (congrArg some (by kernel_rfl))⟩
 t0 := Tryz.underlying0
 a0 := Tryz.isAgg0
 z0 := Tryz.sizeOf0
 v0 := Tryz.zeroValue0
 t3 := Tryz.underlying3
 a3 := Tryz.isAgg3
 z3 := Tryz.sizeOf3
 v3 := Tryz.zeroValue3
 t4 := Tryz.underlying4
 a4 := Tryz.isAgg4
 z4 := Tryz.sizeOf4
 v4 := Tryz.zeroValue4
 t5 := Tryz.underlying5
 a5 := Tryz.isAgg5
 z5 := Tryz.sizeOf5
 v5 := Tryz.zeroValue5
 t9 := Tryz.underlying9
 a9 := Tryz.isAgg9
 z9 := Tryz.sizeOf9
 v9 := Tryz.zeroValue9
 t22 := Tryz.underlying60
 a22 := Tryz.isAgg60
 z22 := Tryz.sizeOf60
 v22 := Tryz.zeroValue60
 t25 := Tryz.underlying210
 a25 := Tryz.isAgg210
 z25 := Tryz.sizeOf210
 v25 := Tryz.zeroValue210
 t39 := Tryz.underlying143
 a39 := Tryz.isAgg143
 z39 := Tryz.sizeOf143
 v39 := Tryz.zeroValue143
 t45 := Tryz.underlying250
 a45 := Tryz.isAgg250
 z45 := Tryz.sizeOf250
 v45 := Tryz.zeroValue250
 t46 := Tryz.underlying251
 a46 := Tryz.isAgg251
 z46 := Tryz.sizeOf251
 v46 := Tryz.zeroValue251
 t50 := Tryz.underlying197
 a50 := Tryz.isAgg197
 z50 := Tryz.sizeOf197
 v50 := Tryz.zeroValue197
 t53 := Tryz.underlying257
 a53 := Tryz.isAgg257
 z53 := Tryz.sizeOf257
 v53 := Tryz.zeroValue257
 t55 := Tryz.underlying28
 a55 := Tryz.isAgg28
 z55 := Tryz.sizeOf28
 v55 := Tryz.zeroValue28
 t66 := Tryz.underlying300
 a66 := Tryz.isAgg300
 z66 := Tryz.sizeOf300
 v66 := Tryz.zeroValue300
 t70 := Tryz.underlying304
 a70 := Tryz.isAgg304
 z70 := Tryz.sizeOf304
 v70 := Tryz.zeroValue304
 t76 := Tryz.underlying334
 a76 := Tryz.isAgg334
 z76 := Tryz.sizeOf334
 v76 := Tryz.zeroValue334
 t77 := Tryz.underlying335
 a77 := Tryz.isAgg335
 z77 := Tryz.sizeOf335
 v77 := Tryz.zeroValue335 }
end Go.Proofs
namespace Go.Ds
open Go.Proofs Go.Proofs.Tryz Go.Shelf Go.RowKit Go.Lib Go.Sort
theorem a8a (x : Int × Int) : ∀ v ∈ jT x, v.oneCell' = true := by
 intro v hv
 simp [jT] at hv
 rcases hv with rfl | rfl <;> rfl
theorem c3t (kc : FuncId) (eg : ∀ args w, (callFunc kc args).run prog w = .ok (.enter kc args) w) (hf : ∀ x y, Fn prog kc [.agg #[I x.1, I x.2], .agg #[I y.1, I y.2]] .nil fun r H' => r = I (cf2 x y) ∧ St prog (.nil : Heap) H' []) : a4N prog 70 kc (fun _ => True) :=
 fun kJ off cap d w _ hH hblk hsz => by
  have h := AnyQ.slices_SortFunc_total Tryz.bR 2 Tryz.isAgg74 Tryz.sizeOf74 jT (fun _ => rfl) a8a cf2 c3V kc #[] kJ off cap d w eg (a7w hf kJ off d.size w) hH hblk hsz c4O
  rw [b5V] at h
  exact h
theorem c5b (kc : FuncId) (eg : ∀ args w, (callFunc kc args).run prog w = .ok (.enter kc args) w) (hf : ∀ x y, Fn prog kc [.agg #[I x.1, I x.2], .agg #[I y.1, I y.2]] .nil fun r H' => r = I (cf2 x y) ∧ St prog (.nil : Heap) H' []) : a4N prog 112 kc (fun _ => True) :=
 fun kJ off cap d w _ hH hblk hsz => by
  have h := AnyQ.slices_SortFunc_total Tryz.bH 2 Tryz.isAgg67 Tryz.sizeOf67 jT (fun _ => rfl) a8a cf2 c3V kc #[] kJ off cap d w eg (a7w hf kJ off d.size w) hH hblk hsz c4O
  rw [b5V] at h
  exact h
theorem c3v : a2k prog 70 := fun p cap fv w => AnyF.slices_SortFunc_none { Tryz.bR with } p cap fv w
theorem c4G : a2k prog 112 := fun p cap fv w => AnyF.slices_SortFunc_none { Tryz.bH with } p cap fv w
def a9e (K kc : FuncId) : Prop := ∀ {H : Heap} {B : Base} {os : List Ob} (hS : St prog B H os) (i : Nat) {v : Value} {es : List (Int × Int)} (ho : os[i]? = some ⟨v, 2, pr es⟩) (hl : es.length < 100000000000) {Q : Value → Heap → Prop}
    (h : ∀ H1, St prog B H1 (os.set i ⟨v, 2, pr (wB es)⟩) → Q (.tuple #[]) H1), wT prog K [v, .func (.func kc) #[] #[]] H Q
theorem c4w : rK prog 70 := ⟨Tryz.f70, func70, by kernel_rfl, by kernel_rfl⟩
theorem c3M : rK prog 112 := ⟨Tryz.f112, func112, by kernel_rfl, by kernel_rfl⟩
theorem c3S : a9e 70 213 := fun hS i _ _ ho hl _ h => a1O (c3t 213 (enters_of func213 (by kernel_rfl) rfl) fun x y => b8z x y) c3v c4w hS i ho hl (fun _ _ => trivial) h
theorem c4r : a9e 70 103 := fun hS i _ _ ho hl _ h => a1O (c3t 103 (enters_of func103 (by kernel_rfl) rfl) fun x y => b7s x y) c3v c4w hS i ho hl (fun _ _ => trivial) h
theorem c4u : a9e 112 113 := fun hS i _ _ ho hl _ h => a1O (c5b 113 (enters_of func113 (by kernel_rfl) rfl) fun x y => b9a x y) c4G c3M hS i ho hl (fun _ _ => trivial) h
end Go.Ds
namespace Go.Ds
open Go.Proofs Go.Proofs.Tryz
variable {H : Heap}
set_option maxRecDepth 10000
theorem xX {p : Nat → Bool} {n j : Nat} (h : mZ p n = (j : Int)) : j < n := by
 unfold mZ at h
 split at h
 ·rename_i q hq
  have := dB.1 (gJ hq)
  omega
 ·omega
theorem b8x (g : Seg) (hg : g.In H) (key : Int) (A : Nat) (hA : Var H A 1 [I key]) : Fn prog 212 [.agg #[I g.lo, I g.hi, g.dv], ptr A 0 1] H fun r H' => r = .bool (decide (g.lo ≤ key) && decide (key ≤ g.hi)) ∧ St prog H H' [] := by
 refine .aD func212 rfl (by kernel_rfl) (m := 14) rfl fun l hn g0 g1 => ?_
 simp (disch := omega) only [↓RA, RB, simprocAttr, g0]
 refine (sR H).eNew 3 [I g.lo, I g.hi, g.dv] rfl rfl (by simp [OC, ((sR H).sl hg.1).cells.2.1]) a2B fun A1 H1 hS1 => ?_
 simp only [RT] at hS1
 simp (disch := omega) only [↓RA, RZ, simprocAttr, hn, g1, hS1.ld 0 rfl, (hS1.va hA).ld]
 refine kA (fun h1 => ?_) (fun h1 => ?_)
 ·simp (disch := omega) only [↓RA, RZ, simprocAttr, hn, g1, (hS1.va hA).ld, hS1.ld 0 rfl, c0o, h1]
  first | exact hS1.forget | exact ⟨by simp [h1], hS1.forget⟩
 simp (disch := omega) only [↓RA, RZ, simprocAttr, hn, c0o, h1]
 first | exact hS1.forget | exact ⟨by simp [], hS1.forget⟩
theorem b9D (v : Value) (xs : List Seg) (hv : Sl 3 Seg.cells H v xs) (hl : xs.length < 1000000000) (k : FuncId) (caps : List Value) (p : Nat → Bool)
 (hf : ∀ j H1, j < xs.length → St prog H H1 [] → Fn prog k (.agg #[I (iB xs j).lo, I (iB xs j).hi, (iB xs j).dv] :: caps) H1 fun r H2 => r = .bool (p j) ∧ St prog H1 H2 []) :
 Fn prog 211 [v, .func (.func k) #[] caps.toArray] H fun r H' => r = I (mZ p xs.length) ∧ St prog H H' [] := by
 refine .aD func211 rfl (by kernel_rfl) (m := 19) rfl fun l hn g0 g1 => ?_
 simp (disch := omega) only [↓RA, RZ, simprocAttr, hn, g0, ((sR H).sl hv).len]
 refine Wp.al (fun n l H' => l.length = 19 ∧ get l 0 = v ∧ get l 1 = .func (.func k) #[] caps.toArray ∧ get l 7 = I xs.length ∧ ∃ (j : Nat), (n + j = xs.length ∧ ∀ q, q < j → p q = false) ∧ get l 8 = I j ∧ St prog H H' []) xs.length ?_ ?_
 ·simp (disch := omega) only [RB, RC, simprocAttr, hn, g0, g1]
  exact ⟨0, ⟨by omega, fun q hq => absurd hq (dL _)⟩, rfl, (sR H)⟩
 rintro n l H1 ⟨hn, g0, g1, g7, j, ⟨hi,h0⟩, g8, hS1⟩
 simp (disch := omega) only [↓RA, RB, simprocAttr, hn, g7, g8]
 refine iA (fun h => ?_) (fun h => ?_)
 ·simp (disch := omega) only [↓RA, RZ, simprocAttr, hn, g0, g1, g8, (hS1.sl hv).idx, (hS1.sl hv).ag, Seg.cells, h]
  refine hS1.cF (hf j _ (by omega) hS1) fun H2 hS2 => ?_
  simp (disch := omega) only [↓RA, RZ, simprocAttr, hn, h]
  refine jE (fun hp => ?_) (fun hp => ?_)
  ·simp (disch := omega) only [↓RA, RZ, simprocAttr, hn, b9T, h, hp]
   exact ⟨by rw [vG p xs.length j (by omega) hp h0], hS2⟩
  simp (disch := omega) only [↓RA, RZ, simprocAttr, hn, g0, g1, g7, g8, h, hp]
  exact ⟨n - 1, by omega, j + 1, ⟨by omega, fun q hq => by rcases du.1 hq with e | e; (· exact h0 q e); (· rw [e]; exact hp)⟩, by simp, hS2⟩
 simp (disch := omega) only [↓RA, RZ, simprocAttr, hn, b9T, h]
 exact ⟨by rw [vA p xs.length fun q hq => h0 q (by omega)], hS1⟩
theorem b0c {H0 : Heap} {os0 : List Ob} (hS0 : St prog H0 H os0) (s : Stp) (hs0 : s.In H0) (key : Int) : Fn prog 153 [.agg #[.string s.name, I s.num, I s.den, s.gv], I key] H fun r H' => ∃ g : Seg, r = .agg #[I g.lo, I g.hi, g.dv] ∧ g.In H0 ∧ g.draws = a8C s key ∧ St prog H H' [] := by
 have hs := hs0.ab hS0
 have hl := hs.2.2
 refine .aD func153 rfl (by kernel_rfl) (m := 18) rfl fun l hn g0 g1 => ?_
 simp (disch := omega) only [↓RA, RB, simprocAttr, g0]
 refine (sR H).eNew 4 [(.string s.name), I s.num, I s.den, s.gv] rfl rfl (by simp [OC, ((sR H).sl hs.1).cells.2.1]) mY fun A1 H1 hS1 => ?_
 simp only [RT] at hS1
 simp (disch := omega) only [↓RA, RB, simprocAttr, g1]
 refine hS1.eNew 1 [I key] rfl rfl rfl tS3 fun A2 H2 hS2 => ?_
 simp only [RT] at hS2
 simp (disch := omega) only [↓RA, RZ, simprocAttr]
 refine hS2.eNew 3 [I 0, I 0, (.slice none 0 0)] rfl rfl rfl a2B fun A3 H3 hS3 => ?_
 simp only [RT] at hS3
 simp (disch := omega) only [↓RA, RZ, simprocAttr, hn, hS3.ld 0 rfl]
 have hA := hS3.var 1 rfl
 have hSc := hS3
 refine hS3.cF (b9D s.gv s.segs (hS3.sl hs.1) hs.2.2 212 [ptr A2 0 1] (a8y s key) (fun j H1 hj hS' => b8x _ ((hs.2.1 _ (iE hj)).ab (hSc.trans hS')) key A2 (hA.ab hS'.ab))) fun H4 hS4 => ?_
 simp (disch := omega) only [↓RA, RB, simprocAttr, hn]
 refine iA (fun h => ?_) (fun h => ?_)
 ·simp (disch := omega) only [↓RA, RZ, simprocAttr, hn, c2w, h]
  refine hS4.aa 2 rfl [I 0, I 0, (.slice none 0 0)] rfl rfl a2B (by simp) fun H5 hS5 => ?_
  simp only [RT] at hS5
  simp (disch := omega) only [↓RA, RZ, simprocAttr, hn, c0h, hS5.ag 2 rfl, h]
  exact ⟨⟨0, 0, .slice none 0 0, []⟩, rfl, ⟨⟨.inl ⟨rfl, rfl⟩, fun _ => rfl, by decide⟩, by simp⟩, by rw [a8C, if_pos h], hS5.forget⟩
 obtain ⟨j, hj⟩ : ∃ j : Nat, mZ (a8y s key) s.segs.length = j := ⟨(mZ (a8y s key) s.segs.length).toNat, by omega⟩
 have hjl : j < s.segs.length := xX hj
 simp (disch := omega) only [↓RA, RZ, simprocAttr, hn, hS4.ld 0 rfl, (hS4.sl hs.1).idx, (hS4.sl hs.1).ag, Seg.cells, hj]
 refine hS4.aa 2 rfl [I (iB s.segs j).lo, I (iB s.segs j).hi, (iB s.segs j).dv] rfl (by simp [OC, (hS4.sl (hs.2.1 (iB s.segs j) (iE (by omega))).1).cells.2.1]) a2B (by simp) fun H6 hS6 => ?_
 simp only [RT] at hS6
 simp (disch := omega) only [↓RA, RZ, simprocAttr, hn, c0h, hS6.ag 2 rfl, hj]
 exact ⟨iB s.segs j, rfl, hs0.2.1 _ (iE hjl), by rw [a8C, if_neg h, hj]; rfl, hS6.forget⟩
theorem b9o (rv : Value) (rks : List Rk) (hr : Sl 6 Rk.cells H rv rks) (hrk : ∀ r ∈ rks, r.In H) (hl : rks.length < 1000000000) (d : Drw) (key : Int) :
 Fn prog 154 [rv, .agg #[I d.rank, I d.shift], I key] H fun r H' => r = .tuple #[.agg #[I (pL rks d key).1, I (pL rks d key).2], .bool (a0q rks d key)] ∧ St prog H H' [] := by
 refine .bO func154 rfl (by kernel_rfl) (m := 48) rfl fun l hn g0 g1 g2 => ?_
 simp (disch := omega) only [↓RA, RB, simprocAttr, g1]
 refine (sR H).eNew 2 [I d.rank, I d.shift] rfl rfl rfl a0N fun A1 H1 hS1 => ?_
 simp only [RT] at hS1
 simp (disch := omega) only [↓RA, RZ, simprocAttr]
 refine hS1.eNew 2 [I 0, I 0] rfl rfl rfl rB fun A2 H2 hS2 => ?_
 simp only [RT] at hS2
 simp (disch := omega) only [↓RA, RZ, simprocAttr, hn, hS2.ld 0 rfl]
 refine iO (fun h1 => ?_) (fun h1 => ?_)
 ·simp (disch := omega) only [↓RA, RZ, simprocAttr, hn, c0r, h1]
  refine hS2.aa 1 rfl [I 0, I 0] rfl rfl rB (by simp) fun H3 hS3 => ?_
  simp only [RT] at hS3
  simp (disch := omega) only [↓RA, RZ, simprocAttr, hn, b1d, hS3.ag 1 rfl, h1]
  exact ⟨by rw [pL, a0q, if_pos (by omega), decide_eq_true (by omega)]; rfl, hS3.forget⟩
 simp (disch := omega) only [↓RA, RZ, simprocAttr, hn, g0, hS2.ld 0 rfl, (hS2.sl hr).len, h1]
 refine iA (fun h2 => ?_) (fun h2 => ?_)
 ·simp (disch := omega) only [↓RA, RZ, simprocAttr, hn, c0r, h1, h2]
  refine hS2.aa 1 rfl [I 0, I 0] rfl rfl rB (by simp) fun H4 hS4 => ?_
  simp only [RT] at hS4
  simp (disch := omega) only [↓RA, RZ, simprocAttr, hn, b1d, hS4.ag 1 rfl, h1, h2]
  exact ⟨by rw [pL, a0q, if_pos (by omega), decide_eq_true (by omega)]; rfl, hS4.forget⟩
 obtain ⟨j, hj⟩ : ∃ j : Nat, d.rank = j := ⟨d.rank.toNat, by omega⟩
 have hjl : j < rks.length := by omega
 have hp : pL rks d key = ((j : Int), vR (vR (key + d.shift) - (iB rks j).first)) := by rw [pL, if_neg (by omega), hj]; rfl
 have hh : a0q rks d key = (decide (0 ≤ vR (vR (key + d.shift) - (iB rks j).first)) && decide (vR (vR (key + d.shift) - (iB rks j).first) < (iB rks j).wind.length)) := by
  rw [a0q, hp, decide_eq_false (by omega), hj]
  rfl
 rw [hp, hh]
 have hw := (hrk _ (iE hjl)).2
 simp (disch := omega) only [↓RA, simprocAttr, hj]
 refine Wp.drw jZ (by kernel_rfl) ?_
 simp (disch := omega) only [↓RA, RZ, simprocAttr, hn, g2]
 simp (disch := omega) only [↓RA, RZ, simprocAttr, hn, g0, hS2.ld 0 rfl, (hS2.sl hr).idx, (hS2.sl hr).bh, (hS2.sl hr).ld, Rk.cells, hj]
 refine Wp.aO jZ [(10, 18), (13, 18), (14, 18)] (by kernel_rfl) (by kernel_rfl) ?_
 simp (disch := omega) only [↓RA, RZ, simprocAttr, hn, hS2.ld 0 rfl, b4n, hj]
 refine kA (fun h3 => ?_) (fun h3 => ?_)
 ·skip
  simp (disch := omega) only [↓RA, RZ, simprocAttr, hn, g0, hS2.ld 0 rfl, (hS2.sl hr).idx, (hS2.sl hr).bh, (hS2.sl hr).ld, Rk.cells, (hS2.sl (hrk (iB rks j) (iE (by omega))).1).len, hj, h3]
  refine hS2.aa 1 rfl [I j, _] rfl rfl rB (by simp) fun H5 hS5 => ?_
  simp only [RT] at hS5
  simp (disch := omega) only [↓RA, RZ, simprocAttr, hn, hS5.ld 0 rfl, Rk.cells, (hS5.sl hr).ld, (hS5.sl (hrk (iB rks j) (iE (by omega))).1).len, b1d, hS5.ag 1 rfl, hj, h3]
  exact hS5.forget
 simp (disch := omega) only [↓RA, RZ, simprocAttr, hn, h3]
 refine hS2.aa 1 rfl [I j, _] rfl rfl rB (by simp) fun H6 hS6 => ?_
 simp only [RT] at hS6
 simp (disch := omega) only [↓RA, RZ, simprocAttr, hn, b1d, hS6.ag 1 rfl, h3]
 first | exact hS6.forget | exact ⟨by rw [fQ], hS6.forget⟩
theorem b2L {B : Base} {v : Value} {es : List (Int × Int)} (hS : St prog B H [⟨v, 2, pr es⟩]) (hl : es.length < 1000000) :
 Fn prog 155 [v] H fun r H' => ∃ rest : List Value, (∀ b, kJ r = some b → kJ v = some b) ∧ (∀ H2, RdAt H2 v 2 (pr (dd (wB es)) ++ rest) → RdAt H2 r 2 (pr (dd (wB es)))) ∧ St prog B H' [⟨v, 2, pr (dd (wB es)) ++ rest⟩] := by
 refine .aY func155 rfl (by kernel_rfl) (m := 7) rfl fun l hn g0 => ?_
 simp (disch := omega) only [↓RA, RZ, simprocAttr, hn, g0]
 refine c3S hS 0 rfl (ia hl (by decide)) fun H1 hS1 => ?_
 simp only [fw] at hS1
 simp (disch := omega) only [↓RA, RZ, simprocAttr, hn, g0]
 refine iJ (a6w hS1 (by rw [oU]; exact ia hl (by decide))) ?_
 rintro r H2 ⟨rest, hb, hrd, hS2⟩
 have hrc := (hrd H2 (hS2.rd 0 rfl)).cells
 simp (disch := omega) only [↓RA, RB, simprocAttr, hn, c5f]
 exact ⟨rest, hb, hrd, hS2⟩
theorem b5z {a b : Int} {v : Value} {α : Type} {n : Nat} {cel : α → List Value} {xs : List α} (h : Sl n cel H v xs) : wW prog 189 (.agg #[I a, I b, v]) 2 = some v := by
 rcases h.rd with ⟨rfl, _⟩ | ⟨A, i, e, row, ty, rw, lo, ver, n, _, _, _, _, _, _, rfl⟩ <;> kernel_rfl
theorem b6R (rv : Value) (rks : List Rk) (hr : Sl 6 Rk.cells H rv rks) (hrk : ∀ r ∈ rks, r.In H) (hl : rks.length < 1000000000) (s : Stp) (hs : s.In H) (hs2 : ∀ g ∈ s.segs, g.draws.length ≤ 8) (key : Int) :
 Fn prog 118 [rv, .agg #[.string s.name, I s.num, I s.den, s.gv], I key] H fun r H' => Slx 2 jT H' (fun B => H.length ≤ B) r (sS rks s key) ∧ St prog H H' [] := by
 refine .bO func118 rfl (by kernel_rfl) (m := 36) rfl fun l hn g0 g1 g2 => ?_
 simp (disch := omega) only [↓RA, RB, simprocAttr, g1]
 refine (sR H).eNew 4 [(.string s.name), I s.num, I s.den, s.gv] rfl rfl (by simp [OC, ((sR H).sl hs.1).cells.2.1]) mY fun A1 H1 hS1 => ?_
 simp only [RT] at hS1
 simp (disch := omega) only [↓RA, RZ, simprocAttr, hn, g2, hS1.ag 0 rfl]
 refine iJ (b0c hS1 s hs key) ?_
 rintro r H2 ⟨g, rfl, hgi, hgd, hT1⟩
 have hS2 := hS1.trans hT1
 simp only [RT] at hS2
 have hgl := hgi.2
 have hg8 : g.draws.length ≤ 8 := by
  rw [hgd]
  unfold a8C
  split
  ·simp
  ·rename_i h
   exact hs2 _ (iE (xX (p := a8y s key) (n := s.segs.length) (by omega)))
 simp (disch := omega) only [↓RA, RZ, simprocAttr, hn, b5z (hS2.sl hgi.1), (hS2.sl hgi.1).len]
 have hS3 := hS2.nil 1
 simp only [RT] at hS3
 refine Wp.al (fun n l H' => l.length = 36 ∧ get l 0 = rv ∧ get l 2 = I key ∧ get l 6 = (.slice none 0 0) ∧ get l 15 = g.dv ∧ get l 16 = I g.draws.length ∧ ∃ (i : Nat) (ov : Value), (n + i = g.draws.length) ∧ get l 17 = I i ∧ get l 7 = ov ∧ St prog H H' [⟨ptr A1 0 4, 0, [(.string s.name), I s.num, I s.den, s.gv]⟩, ⟨ov, 2, pr (((g.draws.take i).filter fun d => a0q rks d key).map fun d => pL rks d key)⟩]) g.draws.length ?_ ?_
 ·simp (disch := omega) only [RB, RC, simprocAttr, hn, g0, g2]
  exact ⟨0, _, by omega, rfl, rfl, hS3⟩
 rintro n l H3 ⟨hn, g0, g2, g6, g15, g16, i, ov, hi, g17, g7, hS4⟩
 simp (disch := omega) only [↓RA, RB, simprocAttr, hn, g16, g17]
 refine iA (fun q1 => ?_) (fun q1 => ?_)
 ·simp (disch := omega) only [↓RA, RZ, simprocAttr, hn, g15, g17, (hS4.sl hgi.1).idx, (hS4.sl hgi.1).ag, Drw.cells, q1]
  refine hS4.eNew 2 [I 0, I 0] rfl rfl rfl a0N fun A2 H4 hS5 => ?_
  simp only [RT] at hS5
  simp (disch := omega) only [↓RA, RZ, simprocAttr, hn, q1]
  refine hS5.aa 2 rfl [I (iB g.draws i).rank, I (iB g.draws i).shift] rfl rfl a0N (by simp) fun H5 hS6 => ?_
  simp only [RT] at hS6
  simp (disch := omega) only [↓RA, RZ, simprocAttr, hn, g0, g2, hS6.ag 2 rfl, q1]
  refine hS6.cF (b9o rv rks (hS6.sl hr) (fun r hr' => (hrk r hr').ab hS6) hl (iB g.draws i) key) fun H6 hS7 => ?_
  have htk := kI g.draws i (by omega)
  have hfl : ((g.draws.take i).filter fun d => a0q rks d key).length ≤ i := by
   refine dI (dS _ _) ?_
   simp
   omega
  simp (disch := omega) only [↓RA, RZ, simprocAttr, hn, q1]
  refine hS7.eNew 2 [I 0, I 0] rfl rfl rfl rB fun A3 H7 hS8 => ?_
  simp only [RT] at hS8
  simp (disch := omega) only [↓RA, RZ, simprocAttr, hn, q1]
  refine hS8.aa 3 rfl [I (pL rks (iB g.draws i) key).1, I (pL rks (iB g.draws i) key).2] rfl rfl rB (by simp) fun H8 hS9 => ?_
  simp only [RT] at hS9
  simp (disch := omega) only [↓RA, RZ, simprocAttr, hn, q1]
  refine jE (fun q2 => ?_) (fun q2 => ?_)
  ·skip
   simp (disch := omega) only [↓RA, RZ, simprocAttr, hn, g7, hS9.ag 3 rfl, q1, q2]
   refine hS9.ai [I (pL rks (iB g.draws i) key).1, I (pL rks (iB g.draws i) key).2] b5E c3y rfl rfl (by simp [Value.cells]) rfl rfl (by decide) (by decide) fun w1 H9 hS10 => ?_
   simp only [RT] at hS10
   simp (disch := omega) only [↓RA, RZ, simprocAttr, hn, q1, q2]
   refine hS10.aq 1 rfl (hS10.rd 4 rfl) b5E (by rw [iF]; simp; omega) fun w2 H10 hS11 => ?_
   simp only [RT] at hS11
   simp (disch := omega) only [↓RA, RZ, simprocAttr, hn, g0, g2, g6, g15, g16, g17, q1, q2]
   refine ⟨n - 1, by omega, i + 1, w2, by omega, by simp, rfl, ?_⟩
   rw [htk, ew, dA, jN]
   have e : ([iB g.draws i].filter fun d => a0q rks d key) = [iB g.draws i] := by simp [q2]
   rw [e]
   exact hS11.pick [0, 1] (by decide) rfl
  simp (disch := omega) only [↓RA, RZ, simprocAttr, hn, g0, g2, g6, g15, g16, g17, g7, q1, q2]
  refine ⟨n - 1, by omega, i + 1, ov, by omega, by simp, rfl, ?_⟩
  rw [htk, ew, dA, jN]
  have e : ([iB g.draws i].filter fun d => a0q rks d key) = [] := by simp [q2]
  rw [e]
  simp only [pr, fY, fB, dr]
  exact hS9.pick [0, 1] (by decide) rfl
 simp (disch := omega) only [↓RA, RZ, simprocAttr, hn, g7, q1]
 have hii : i = g.draws.length := by omega
 subst hii
 have hfl : ((g.draws.filter fun d => a0q rks d key).map fun d => pL rks d key).length ≤ 8 := by
  rw [dF]
  exact dI (dS _ _) hg8
 rw [ek] at hS4
 have hM1 := hS4.pick (os' := [⟨ov, 2, _⟩]) [1] (by decide) rfl
 have hR1 := hS4.pick (os' := [⟨ov, 2, _⟩, ⟨ptr A1 0 4, 0, _⟩]) [1, 0] (by decide) rfl
 refine iJ (b2L (es := (g.draws.filter fun d => a0q rks d key).map fun d => pL rks d key) hM1.aH (by omega)) ?_
 rintro r H11 ⟨rest, hb, hrd, hT3⟩
 have hS12 := hR1.frame hT3
 simp only [RT] at hS12
 have hrr := hrd _ (hS12.rd 0 rfl)
 have hrc := hrr.cells
 simp (disch := omega) only [↓RA, RZ, simprocAttr, hn, c3x, q1]
 refine ⟨⟨⟨?_, kE, by decide⟩, fun b h => ?_⟩, hS12.forget⟩
 ·unfold sS
  rw [← hgd]
  exact hrr
 ·rcases hS12.new _ (dU ..) b (hb b h) with h | h
  ·exact h
  ·exact h.elim
end Go.Ds
