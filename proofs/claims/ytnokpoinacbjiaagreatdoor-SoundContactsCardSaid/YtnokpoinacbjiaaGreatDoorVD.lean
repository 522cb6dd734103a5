/-
  A part of the proof of SoundContacts.
-/
import Derived.Test.YtnokpoinacbjiaaGreatDoorVC
import Derived.Test.YtnokpoinacbjiaaGreatDoorVB
import Derived.Shelf.SlSortCmp.NoneTotal
import Derived.Shelf.SlGeneric
import Derived.Shelf.SlLaysF0
import Derived.Test.YtnokpoinacbjiaaGreatDoorProg
set_option linter.unusedVariables false
set_option linter.unusedSimpArgs false
set_option linter.defProp false
set_option linter.unusedSectionVars false
namespace Go.Ds
open Go.Proofs Go.Proofs.Tryz
variable {H : Heap}
def pB (b : Int) : Bool := (decide (65 ≤ b) && decide (b ≤ 90)) || (decide (97 ≤ b) && decide (b ≤ 122))
theorem a2B (b : Int) : Fn prog 107 [.int .u8 b] H fun r H' => r = .bool (pB b) ∧ St prog H H' [] := by
 refine .aR func107 rfl (by kernel_rfl) (m := 17) rfl fun l hn g0 => ?_
 simp (disch := omega) only [↓RA, RZ, simprocAttr, hn, g0]
 refine jB (fun h1 => ?_) (fun h1 => ?_)
 ·simp (disch := omega) only [↓RA, RZ, simprocAttr, hn, g0, h1]
  refine iD (fun h2 => ?_) (fun h2 => ?_)
  ·simp (disch := omega) only [↓RA, RZ, simprocAttr, hn, a7a, h1, h2]
   first | exact (sR H) | exact ⟨by simp [pB, h1, h2], (sR H)⟩
  simp (disch := omega) only [↓RA, RZ, simprocAttr, hn, g0, h1, h2]
  refine jB (fun h3 => ?_) (fun h3 => ?_)
  ·simp (disch := omega) only [↓RA, RZ, simprocAttr, hn, g0, a7a, h1, h2, h3]
   first | exact (sR H) | exact ⟨by simp [pB, h1, h2, h3], (sR H)⟩
  simp (disch := omega) only [↓RA, RZ, simprocAttr, hn, a7a, h1, h2, h3]
  first | exact (sR H) | exact ⟨by simp [pB, h1, h2, h3], (sR H)⟩
 simp (disch := omega) only [↓RA, RZ, simprocAttr, hn, g0, h1]
 refine jB (fun h4 => ?_) (fun h4 => ?_)
 ·simp (disch := omega) only [↓RA, RZ, simprocAttr, hn, g0, a7a, h1, h4]
  first | exact (sR H) | exact ⟨by simp [pB, h1, h4], (sR H)⟩
 simp (disch := omega) only [↓RA, RZ, simprocAttr, hn, a7a, h1, h4]
 first | exact (sR H) | exact ⟨by simp [pB, h1, h4], (sR H)⟩
theorem b2V (b : Int) : Fn prog 109 [I b] H fun r H' => r = .bool (decide (-256 ≤ b) && decide (b ≤ 256)) ∧ St prog H H' [] := by
 refine .aR func109 rfl (by kernel_rfl) (m := 9) rfl fun l hn g0 => ?_
 simp (disch := omega) only [↓RA, RZ, simprocAttr, hn, g0]
 refine jB (fun h1 => ?_) (fun h1 => ?_)
 ·simp (disch := omega) only [↓RA, RZ, simprocAttr, hn, g0, b8N, h1]
  first | exact (sR H) | exact ⟨by simp [h1], (sR H)⟩
 simp (disch := omega) only [↓RA, RZ, simprocAttr, hn, b8N, h1]
 first | exact (sR H) | exact ⟨by simp [], (sR H)⟩
theorem b4P (b : Int) : Fn prog 150 [I b] H fun r H' => r = .bool (decide (b < 0) || decide (1000000 < b)) ∧ St prog H H' [] := by
 refine .aR func150 rfl (by kernel_rfl) (m := 9) rfl fun l hn g0 => ?_
 simp (disch := omega) only [↓RA, RZ, simprocAttr, hn, g0]
 refine iD (fun h1 => ?_) (fun h1 => ?_)
 ·simp (disch := omega) only [↓RA, RZ, simprocAttr, hn, b8M, h1]
  first | exact (sR H) | exact ⟨by simp [], (sR H)⟩
 simp (disch := omega) only [↓RA, RZ, simprocAttr, hn, g0, b8M, h1]
 first | exact (sR H) | exact ⟨by simp [], (sR H)⟩
theorem a3S (n : Int) (h : -9223372036854775808 ≤ n) (h0 : n < 0) : IntKind.wrap .u64 (0 - IntKind.wrap .u64 n) = n.natAbs := by
 have e : ∀ m : Int, IntKind.wrap .u64 m = m % 18446744073709551616 := fun m => by
  show (if (false && decide (m % 18446744073709551616 ≥ 9223372036854775808)) = true then m % 18446744073709551616 - 18446744073709551616 else m % 18446744073709551616) = _
  simp
 rw [e, e]
 omega
theorem a4c (n : Int) (hn0 : c1s n) : Fn prog 181 [I n] H fun r H' => r = .int .u64 n.natAbs ∧ St prog H H' [] := by
 refine .aR func181 rfl (by kernel_rfl) (m := 10) rfl fun l hn g0 => ?_
 simp (disch := omega) only [↓RA, RB, simprocAttr, hn, g0]
 refine gT (fun h => ?_) (fun h => ?_)
 ·simp (disch := omega) only [↓RA, RZ, simprocAttr, hn, g0, b8t, h]
  exact ⟨by rw [a3S n hn0.1 h], (sR H)⟩
 simp (disch := omega) only [↓RA, RZ, simprocAttr, hn, g0, b8t, h]
 refine ⟨?_, (sR H)⟩
 have := hn0.2
 rw [nH n (by omega) (by omega)]
 congr 1
 omega
theorem c0u (a b : Nat) (ha : a < 18446744073709551616) (hb : b < 18446744073709551616) : Fn prog 180 [.int .u64 a, .int .u64 b] H fun r H' => r = .int .u64 (Nat.gcd a b) ∧ St prog H H' [] := by
 refine .aG func180 rfl (by kernel_rfl) (m := 12) rfl fun l hn g0 g1 => ?_
 simp (disch := omega) only [↓RA, RB, simprocAttr]
 refine Wp.al (fun n l H' => l.length = 12 ∧ get l 4 = (.int .u64 0) ∧ ∃ (x y : Nat), (n = y ∧ x < 18446744073709551616 ∧ y < 18446744073709551616 ∧ Nat.gcd a b = Nat.gcd x y) ∧ get l 0 = (.int .u64 x) ∧ get l 1 = (.int .u64 y) ∧ St prog H H' []) b ?_ ?_
 ·simp (disch := omega) only [RB, RC, simprocAttr, hn, g0, g1]
  exact ⟨a, b, ⟨rfl, ha, hb, rfl⟩, rfl, rfl, (sR H)⟩
 rintro n l H1 ⟨hn, g4, x, y, ⟨hy,hx1,hy1,hg⟩, g0, g1, hS1⟩
 simp (disch := omega) only [↓RA, RB, simprocAttr, hn, g1]
 refine gT (fun h => ?_) (fun h => ?_)
 ·simp (disch := omega) only [↓RA, RC, simprocAttr, h]
  refine Wp.drw jU (by kernel_rfl) ?_
  simp (disch := omega) only [↓RA, RZ, simprocAttr, hn, g4, g0, g1]
  refine ⟨x % y, ?_, y, x % y, ⟨rfl, hy1, ?_, ?_⟩, rfl, ?_, hS1⟩
  ·rw [hy]; exact eF _ (by omega)
  ·exact dy (eF _ (by omega)) (by omega)
  ·rw [hg, Nat.gcd_comm x y, Nat.gcd_rec]
   exact Nat.gcd_comm _ _
  ·rw [dT]
 simp (disch := omega) only [↓RA, RZ, simprocAttr, hn, g0, c3m, h]
 have h0 : y = 0 := by omega
 subst h0
 exact ⟨by rw [hg, Nat.gcd_zero_right], hS1⟩
theorem b5Q (a b : Int) (ha0 : 0 ≤ a) (ha : a < 18446744073709551616) (hb0 : 0 ≤ b) (hb : b < 18446744073709551616) : Fn prog 180 [.int .u64 a, .int .u64 b] H fun r H' => r = .int .u64 (Nat.gcd a.toNat b.toNat) ∧ St prog H H' [] := by
 have := c0u (H := H) a.toNat b.toNat (by omega) (by omega)
 rwa [fz ha0, fz hb0] at this
def uV (num den : Int) : Int := if 0 < den ∧ den ≤ 1000000 ∧ -1000000 ≤ num ∧ num ≤ 1000000 ∧ Nat.gcd num.natAbs den.toNat = 1 then 0 else 2
theorem b8c (num den : Int) : Fn prog 148 [.agg #[I num, I den]] H fun r H' => r = I (uV num den) ∧ St prog H H' [] := by
 refine .aR func148 rfl (by kernel_rfl) (m := 31) rfl fun l hn g0 => ?_
 simp (disch := omega) only [↓RA, RB, simprocAttr, g0]
 refine (sR H).eNew 2 [I num, I den] rfl rfl rfl yM fun A1 H1 hS1 => ?_
 simp only [RT] at hS1
 simp (disch := omega) only [↓RA, RB, simprocAttr]
 refine Wp.aT jU [(23, 0), (24, 0)] (by kernel_rfl) (by kernel_rfl) ?_
 simp (disch := omega) only [↓RA, RZ, simprocAttr, hn, hS1.ld 0 rfl]
 refine iD (fun h1 => ?_) (fun h1 => ?_)
 ·simp (disch := omega) only [↓RA, RZ, simprocAttr, hn, a3j, h1]
  refine ⟨?_, hS1.forget⟩; unfold uV; (repeat' split); all_goals first | rfl | omega
 simp (disch := omega) only [↓RA, RZ, simprocAttr, hn, hS1.ld 0 rfl, h1]
 refine iD (fun h2 => ?_) (fun h2 => ?_)
 ·simp (disch := omega) only [↓RA, RZ, simprocAttr, hn, a3j, h1, h2]
  refine ⟨?_, hS1.forget⟩; unfold uV; (repeat' split); all_goals first | rfl | omega
 simp (disch := omega) only [↓RA, RZ, simprocAttr, hn, hS1.ld 0 rfl, h1, h2]
 refine iD (fun h3 => ?_) (fun h3 => ?_)
 ·simp (disch := omega) only [↓RA, RZ, simprocAttr, hn, a3j, h1, h2, h3]
  refine ⟨?_, hS1.forget⟩; unfold uV; (repeat' split); all_goals first | rfl | omega
 simp (disch := omega) only [↓RA, RZ, simprocAttr, hn, hS1.ld 0 rfl, h1, h2, h3]
 refine iD (fun h4 => ?_) (fun h4 => ?_)
 ·simp (disch := omega) only [↓RA, RZ, simprocAttr, hn, a3j, h1, h2, h3, h4]
  refine ⟨?_, hS1.forget⟩; unfold uV; (repeat' split); all_goals first | rfl | omega
 simp (disch := omega) only [↓RA, RZ, simprocAttr, hn, hS1.ld 0 rfl, h1, h2, h3, h4]
 refine hS1.cF (a4c num ⟨by omega, by omega⟩) fun H2 hS2 => ?_
 simp (disch := omega) only [↓RA, RZ, simprocAttr, hn, hS2.ld 0 rfl, h1, h2, h3, h4]
 refine hS2.cF (b5Q _ _ (by omega) (by omega) (by omega) (by omega)) fun H3 hS3 => ?_
 simp (disch := omega) only [↓RA, RZ, simprocAttr, hn, hS1.ld 0 rfl, h1, h2, h3, h4]
 refine gT (fun h5 => ?_) (fun h5 => ?_)
 ·simp (disch := omega) only [↓RA, RZ, simprocAttr, hn, a3j, h1, h2, h3, h4, h5]
  refine ⟨?_, hS3.forget⟩; unfold uV; (repeat' split); all_goals first | rfl | omega
 simp (disch := omega) only [↓RA, RZ, simprocAttr, hn, a3j, h1, h2, h3, h4, h5]
 refine ⟨?_, hS3.forget⟩; unfold uV; (repeat' split); all_goals first | rfl | omega
def nD (num den : Int) : Int := if uV num den ≠ 0 then 2 else if num ≤ 0 ∨ 128 * den < num then 3 else if 128 < den then 4 else 0
theorem b3i {num den : Int} (h : uV num den = 0) : 0 < den ∧ den ≤ 1000000 ∧ -1000000 ≤ num ∧ num ≤ 1000000 ∧ Nat.gcd num.natAbs den.toNat = 1 := by
 unfold uV at h
 split at h
 ·assumption
 ·cases h
theorem a0s (num den : Int) : Fn prog 108 [.agg #[I num, I den]] H fun r H' => r = I (nD num den) ∧ St prog H H' [] := by
 refine .aR func108 rfl (by kernel_rfl) (m := 23) rfl fun l hn g0 => ?_
 simp (disch := omega) only [↓RA, RB, simprocAttr, g0]
 refine (sR H).eNew 2 [I num, I den] rfl rfl rfl yM fun A1 H1 hS1 => ?_
 simp only [RT] at hS1
 simp (disch := omega) only [↓RA, RZ, simprocAttr, hn, hS1.aj 0 rfl]
 refine hS1.cF (b8c num den) fun H2 hS2 => ?_
 simp (disch := omega) only [↓RA, RB, simprocAttr, hn]
 refine gT (fun h => ?_) (fun h => ?_)
 ·simp (disch := omega) only [↓RA, RZ, simprocAttr, hn, a6m, h]
  exact ⟨by rw [nD, if_pos h], hS2.forget⟩
 have hf := b3i (dA.1 h)
 simp (disch := omega) only [↓RA, RZ, simprocAttr, hn, hS2.ld 0 rfl, h]
 refine iD (fun h1 => ?_) (fun h1 => ?_)
 ·simp (disch := omega) only [↓RA, RZ, simprocAttr, hn, a6m, h, h1]
  refine ⟨?_, hS2.forget⟩; unfold nD; (repeat' split); all_goals first | rfl | omega
 simp (disch := omega) only [↓RA, RZ, simprocAttr, hn, hS2.ld 0 rfl, h, h1]
 refine gT (fun h2 => ?_) (fun h2 => ?_)
 ·simp (disch := omega) only [↓RA, RZ, simprocAttr, hn, a6m, h, h1, h2]
  refine ⟨?_, hS2.forget⟩; unfold nD; (repeat' split); all_goals first | rfl | omega
 simp (disch := omega) only [↓RA, RZ, simprocAttr, hn, hS2.ld 0 rfl, h, h1, h2]
 refine gT (fun h3 => ?_) (fun h3 => ?_)
 ·simp (disch := omega) only [↓RA, RZ, simprocAttr, hn, a6m, h, h1, h2, h3]
  refine ⟨?_, hS2.forget⟩; unfold nD; (repeat' split); all_goals first | rfl | omega
 simp (disch := omega) only [↓RA, RZ, simprocAttr, hn, a6m, h, h1, h2, h3]
 refine ⟨?_, hS2.forget⟩; unfold nD; (repeat' split); all_goals first | rfl | omega
def pO (p : Nat → Bool) (n : Nat) : Int := match (List.range n).find? p with | some j => j | none => -1
theorem uW (p : Nat → Bool) (n i : Nat) (hi : i < n) (hp : p i = true) (h0 : ∀ j, j < i → p j = false) : (List.range n).find? p = some i := by
 rw [List.find?_eq_some_iff_getElem]
 refine ⟨hp, i, by simpa using hi, by simp, fun j hj => by simp [h0 j hj]⟩
theorem xH (p : Nat → Bool) (n i : Nat) (hi : i < n) (hp : p i = true) (h0 : ∀ j, j < i → p j = false) : pO p n = i := by
 unfold pO
 rw [uW p n i hi hp h0]
theorem wU (p : Nat → Bool) (n : Nat) (h0 : ∀ j, j < n → p j = false) : pO p n = -1 := by
 unfold pO
 have : (List.range n).find? p = none := by
  rw [fX]
  intro j hj
  simp [h0 j (dm.1 hj)]
 rw [this]
theorem a0j (p : Nat → Bool) (n : Nat) : (0 ≤ pO p n) ↔ ∃ j, j < n ∧ p j = true := by
 unfold pO
 cases h : (List.range n).find? p with
 | none =>
   rw [fX] at h
   simp only [dm] at h
   constructor
   ·intro hh; exact absurd hh (by decide)
   ·rintro ⟨j, hj, hp⟩; exact absurd hp (h j hj)
 | some j =>
   constructor
   ·intro _
    exact ⟨j, dm.1 (gw h), List.find?_some h⟩
   ·intro _; show (0 : Int) ≤ (j : Int); omega
theorem b7X (v : Value) (xs : List Int) (hv : Sl 1 (one I) H v xs) (hl : xs.length < 1000000000) (k : FuncId) (caps : List Value) (p : Nat → Bool)
 (hf : ∀ j H1, j < xs.length → St prog H H1 [] → Fn prog k (I (gU xs j) :: caps) H1 fun r H2 => r = .bool (p j) ∧ St prog H1 H2 []) :
 Fn prog 182 [v, .func (.func k) #[] caps.toArray] H fun r H' => r = I (pO p xs.length) ∧ St prog H H' [] := by
 refine .aG func182 rfl (by kernel_rfl) (m := 19) rfl fun l hn g0 g1 => ?_
 simp (disch := omega) only [↓RA, RZ, simprocAttr, hn, g0, ((sR H).sl hv).len]
 refine Wp.al (fun n l H' => l.length = 19 ∧ get l 0 = v ∧ get l 1 = .func (.func k) #[] caps.toArray ∧ get l 7 = I xs.length ∧ ∃ (j : Nat), (n + j = xs.length ∧ ∀ q, q < j → p q = false) ∧ get l 8 = I j ∧ St prog H H' []) xs.length ?_ ?_
 ·simp (disch := omega) only [RB, RC, simprocAttr, hn, g0, g1]
  exact ⟨0, ⟨by omega, fun q hq => absurd hq (dF _)⟩, rfl, (sR H)⟩
 rintro n l H1 ⟨hn, g0, g1, g7, j, ⟨hi,h0⟩, g8, hS1⟩
 simp (disch := omega) only [↓RA, RB, simprocAttr, hn, g7, g8]
 refine gT (fun h => ?_) (fun h => ?_)
 ·simp (disch := omega) only [↓RA, RZ, simprocAttr, hn, g0, g1, g8, (hS1.sl hv).idx, (hS1.sl hv).ld, one, h]
  refine hS1.cF (hf j _ (by omega) hS1) fun H2 hS2 => ?_
  simp (disch := omega) only [↓RA, RZ, simprocAttr, hn, h]
  refine jD (fun hp => ?_) (fun hp => ?_)
  ·simp (disch := omega) only [↓RA, RZ, simprocAttr, hn, b8C, h, hp]
   exact ⟨by rw [xH p xs.length j (by omega) hp h0], hS2⟩
  simp (disch := omega) only [↓RA, RZ, simprocAttr, hn, g0, g1, g7, g8, h, hp]
  exact ⟨n - 1, by omega, j + 1, ⟨by omega, fun q hq => by rcases de.1 hq with e | e; (· exact h0 q e); (· rw [e]; exact hp)⟩, by simp, hS2⟩
 simp (disch := omega) only [↓RA, RZ, simprocAttr, hn, b8C, h]
 exact ⟨by rw [wU p xs.length fun q hq => h0 q (by omega)], hS1⟩
theorem b6M (v : Value) (xs : List Int) (hv : Sl 1 (one I) H v xs) (hl : xs.length < 1000000000) (k : FuncId) (caps : List Value) (p : Nat → Bool)
 (hf : ∀ j H1, j < xs.length → St prog H H1 [] → Fn prog k (I (gU xs j) :: caps) H1 fun r H2 => r = .bool (p j) ∧ St prog H1 H2 []) :
 Fn prog 149 [v, .func (.func k) #[] caps.toArray] H fun r H' => r = .bool (decide (0 ≤ pO p xs.length)) ∧ St prog H H' [] := by
 refine .aG func149 rfl (by kernel_rfl) (m := 9) rfl fun l hn g0 g1 => ?_
 simp (disch := omega) only [↓RA, RZ, simprocAttr, hn, g0, g1]
 refine (sR H).cF (b7X v xs hv hl k caps p hf) fun H1 hS1 => ?_
 simp (disch := omega) only [↓RA, RZ, simprocAttr, hn, c3t]
 first | exact hS1 | exact ⟨rfl, hS1⟩
def xX (xs : List Int) : Int := if xs.any fun w => decide (w < 0) || decide (1000000 < w) then 3 else 0
theorem b3A (v : Value) (xs : List Int) (hv : Sl 1 (one I) H v xs) (hl : xs.length < 1000000000) : Fn prog 110 [v] H fun r H' => r = I (xX xs) ∧ St prog H H' [] := by
 have key : (0 ≤ pO (fun j => decide (gU xs j < 0) || decide (1000000 < gU xs j)) xs.length) ↔ (xs.any fun w => decide (w < 0) || decide (1000000 < w)) = true := by
  rw [a0j, gm]
  constructor
  ·rintro ⟨j, hj, hp⟩; exact ⟨_, gX hj, hp⟩
  ·rintro ⟨x, hx, hp⟩
   obtain ⟨j, hj, rfl⟩ := dQ.1 hx
   exact ⟨j, hj, by rw [jY xs j hj]; exact hp⟩
 refine .aR func110 rfl (by kernel_rfl) (m := 5) rfl fun l hn g0 => ?_
 simp (disch := omega) only [↓RA, RZ, simprocAttr, hn, g0]
 refine (sR H).cF (b6M v xs hv hl 150 [] _ (fun j H1 hj hS => b4P (gU xs j))) fun H1 hS1 => ?_
 simp (disch := omega) only [↓RA, RB, simprocAttr, hn]
 refine gT (fun h => ?_) (fun h => ?_)
 ·simp (disch := omega) only [↓RA, RZ, simprocAttr, hn, b8L, h]
  exact ⟨by rw [xX, if_pos (key.1 h)], hS1⟩
 simp (disch := omega) only [↓RA, RZ, simprocAttr, hn, b8L, h]
 exact ⟨by rw [xX, if_neg (fun hh => h (key.2 hh))], hS1⟩
def ncF (b : Int) : Bool := pB b || (decide (48 ≤ b) && decide (b ≤ 57)) || decide (b = 95)
def kJ (s : ByteArray) : Bool := decide (0 < s.size) && decide (s.size ≤ 32) && pB (nP s 0) && (List.range (s.size - 1)).all fun j => ncF (nP s (j + 1))
theorem c3i (s z : ByteArray) (hz : z.size = 0) : s = z ↔ s.size = 0 := ⟨fun h => by rw [h, hz], fun h => by
 apply zZ
 have h1 : s.data.toList = [] := eU (by simpa using h)
 have h2 : z.data.toList = [] := eU (by simpa using hz)
 rw [h1, h2]⟩
theorem pD (s : ByteArray) : Fn prog 73 [.string s] H fun r H' => r = .bool (kJ s) ∧ St prog H H' [] := by
 have hz := c3i s { data := #[] } rfl
 refine .aR func73 rfl (by kernel_rfl) (m := 42) rfl fun l hn g0 => ?_
 simp (disch := omega) only [↓RA, RZ, simprocAttr, hn, g0, hz]
 refine iD (fun h1 => ?_) (fun h1 => ?_)
 ·simp (disch := omega) only [↓RA, RZ, simprocAttr, hn, b1p, h1]
  first | exact (sR H) | exact ⟨by simp [kJ, h1], (sR H)⟩
 simp (disch := omega) only [↓RA, RZ, simprocAttr, hn, g0, h1]
 refine iD (fun h2 => ?_) (fun h2 => ?_)
 ·simp (disch := omega) only [↓RA, RZ, simprocAttr, hn, b1p, h1, h2]
  first | exact (sR H) | exact ⟨by simp [kJ, show ¬ s.size ≤ 32 by omega], (sR H)⟩
 simp (disch := omega) only [↓RA, RZ, simprocAttr, hn, g0, h1, h2]
 refine (sR H).cF (a2B _) fun H1 hS1 => ?_
 simp (disch := omega) only [↓RA, RZ, simprocAttr, hn, h1, h2]
 refine jD (fun h3 => ?_) (fun h3 => ?_)
 ·simp (disch := omega) only [↓RA, RZ, simprocAttr, hn, b1p, h1, h2, h3]
  first | exact hS1 | exact ⟨by simp at h3; simp [kJ, h3], hS1⟩
 simp (disch := omega) only [↓RA, RZ, simprocAttr, h1, h2, h3]
 have h4 : pB (nP s 0) = true := by simpa using h3
 have hA : kJ s = (List.range (s.size - 1)).all fun j => ncF (nP s (j + 1)) := by simp [kJ, h4, show 0 < s.size by omega, show s.size ≤ 32 by omega]
 refine Wp.al (fun n l H' => l.length = 42 ∧ get l 0 = (.string s) ∧ ∃ (i : Nat), (n + i = s.size ∧ 1 ≤ i ∧ ∀ j, 1 ≤ j → j < i → ncF (nP s j) = true) ∧ get l 3 = I i ∧ St prog H H' []) (s.size - 1) ?_ ?_
 ·simp (disch := omega) only [RB, RC, simprocAttr, hn, g0]
  exact ⟨1, ⟨by omega, by omega, fun j h1 h2 => by omega⟩, rfl, hS1⟩
 rintro n l H2 ⟨hn, g0, i, ⟨hi,hi1,h0⟩, g3, hS2⟩
 simp (disch := omega) only [↓RA, RZ, simprocAttr, hn, g0, g3]
 refine gT (fun h5 => ?_) (fun h5 => ?_)
 ·simp (disch := omega) only [↓RA, RZ, simprocAttr, hn, g0, g3, h5]
  refine hS2.cF (a2B _) fun H3 hS3 => ?_
  have hF : ncF (nP s i) = false → kJ s = false := fun hh => by
   rw [hA, List.all_eq_false]
   exact ⟨i - 1, dm.2 (by omega), by rw [show i - 1 + 1 = i by omega, hh]; simp⟩
  have hT : ncF (nP s i) = true → ∀ j, 1 ≤ j → j < i + 1 → ncF (nP s j) = true := fun hh j h1 h2 => by
   by_cases e : j = i
   ·rw [e]; exact hh
   ·exact h0 j h1 (by omega)
  simp (disch := omega) only [↓RA, RZ, simprocAttr, hn, h5]
  refine pG (fun h1 => ?_) (fun h1 => ?_)
  ·simp (disch := omega) only [↓RA, RZ, simprocAttr, hn, h5, h1]
   refine iD (fun h2 => ?_) (fun h2 => ?_)
   ·simp (disch := omega) only [↓RA, RZ, simprocAttr, hn, h5, h1, h2]
    refine gT (fun h3 => ?_) (fun h3 => ?_)
    ·simp (disch := omega) only [↓RA, RZ, simprocAttr, hn, b1p, h5, h1, h2, h3]
     exact ⟨by rw [hF (by simp_all [ncF] <;> omega)], hS3⟩
    simp (disch := omega) only [↓RA, RZ, simprocAttr, hn, g0, g3, h5, h1, h2, h3]
    exact ⟨n - 1, by omega, i + 1, ⟨by omega, by omega, hT (by simp_all [ncF] <;> omega)⟩, by simp, hS3⟩
   simp (disch := omega) only [↓RA, RZ, simprocAttr, hn, h5, h1, h2]
   refine jB (fun h4 => ?_) (fun h4 => ?_)
   ·simp (disch := omega) only [↓RA, RZ, simprocAttr, hn, h5, h1, h2, h4]
    refine gT (fun h5 => ?_) (fun h5 => ?_)
    ·simp (disch := omega) only [↓RA, RZ, simprocAttr, hn, b1p, h1, h2, h4, h5]
     exact ⟨by rw [hF (by simp_all [ncF] <;> omega)], hS3⟩
    simp (disch := omega) only [↓RA, RZ, simprocAttr, hn, g0, g3, h1, h2, h4, h5]
    exact ⟨n - 1, by omega, i + 1, ⟨by omega, by omega, hT (by simp_all [ncF] <;> omega)⟩, by simp, hS3⟩
   simp (disch := omega) only [↓RA, RZ, simprocAttr, hn, g0, g3, h5, h1, h2, h4]
   exact ⟨n - 1, by omega, i + 1, ⟨by omega, by omega, hT (by simp_all [ncF] <;> omega)⟩, by simp, hS3⟩
  simp (disch := omega) only [↓RA, RZ, simprocAttr, hn, g0, g3, h5, h1]
  exact ⟨n - 1, by omega, i + 1, ⟨by omega, by omega, hT (by simp_all [ncF] <;> omega)⟩, by simp, hS3⟩
 simp (disch := omega) only [↓RA, RZ, simprocAttr, hn, b1p, h5]
 refine ⟨?_, hS2⟩
 rw [hA]
 congr 1
 symm
 rw [dg]
 intro j hj
 exact h0 (j + 1) (by omega) (by have := dm.1 hj; omega)
def rankE (r : Rk) : Int := if kJ r.name = false ∨ kJ r.tone = false then 8 else if nD r.num r.den ≠ 0 then nD r.num r.den else if ¬ (-256 ≤ r.first ∧ r.first ≤ 256) then 3 else if r.wind.length = 0 then 13 else if 128 < r.wind.length then 4 else xX r.wind
theorem a9z (r : Rk) (hr : r.In H) : Fn prog 74 [.agg #[.string r.name, .string r.tone, I r.num, I r.den, I r.first, r.wv]] H fun v H' => v = I (rankE r) ∧ St prog H H' [] := by
 have hl := hr.2
 refine .aR func74 rfl (by kernel_rfl) (m := 38) rfl fun l hn g0 => ?_
 simp (disch := omega) only [↓RA, RB, simprocAttr, g0]
 refine (sR H).eNew 6 [(.string r.name), (.string r.tone), I r.num, I r.den, I r.first, r.wv] rfl rfl (by simp [OC, ((sR H).sl hr.1).cells.2.1]) wT fun A1 H1 hS1 => ?_
 simp only [RT] at hS1
 simp (disch := omega) only [↓RA, RZ, simprocAttr, hn, hS1.ld 0 rfl]
 refine hS1.cF (pD _) fun H2 hS2 => ?_
 simp (disch := omega) only [↓RA, RZ, simprocAttr, hn]
 refine pG (fun h1 => ?_) (fun h1 => ?_)
 ·simp (disch := omega) only [↓RA, RZ, simprocAttr, hn, a7q, h1]
  refine ⟨?_, hS2.forget⟩; clear hS1; unfold rankE; (try simp only [dw] at *); (repeat' split); all_goals first | rfl | omega | simp_all
 simp (disch := omega) only [↓RA, RZ, simprocAttr, hn, hS2.ld 0 rfl, h1]
 refine hS2.cF (pD _) fun H3 hS3 => ?_
 simp (disch := omega) only [↓RA, RZ, simprocAttr, hn, h1]
 refine jD (fun h2 => ?_) (fun h2 => ?_)
 ·simp (disch := omega) only [↓RA, RB, simprocAttr, hn, a7q, h1, h2]
  refine ⟨?_, hS3.forget⟩; clear hS1; unfold rankE; (try simp only [dw] at *); (repeat' split); all_goals first | rfl | omega | simp_all
 simp (disch := omega) only [↓RA, RZ, simprocAttr, hn, hS3.aj 0 rfl, h1, h2]
 refine hS3.cF (a0s _ _) fun H4 hS4 => ?_
 simp (disch := omega) only [↓RA, RB, simprocAttr, hn, h1, h2]
 refine gT (fun h3 => ?_) (fun h3 => ?_)
 ·simp (disch := omega) only [↓RA, RZ, simprocAttr, hn, a7q, h1, h2, h3]
  refine ⟨?_, hS4.forget⟩; clear hS1; unfold rankE; (try simp only [ec, dw, cS, decide_eq_true_eq, gK, ef, decide_eq_false_iff_not] at *); (repeat' split); all_goals first | rfl | omega | simp_all
 simp (disch := omega) only [↓RA, RZ, simprocAttr, hn, hS4.ld 0 rfl, h1, h2, h3]
 refine hS4.cF (b2V _) fun H5 hS5 => ?_
 simp (disch := omega) only [↓RA, RZ, simprocAttr, hn, h1, h2, h3]
 refine jD (fun h4 => ?_) (fun h4 => ?_)
 ·simp (disch := omega) only [↓RA, RZ, simprocAttr, hn, a7q, h1, h2, h3, h4]
  refine ⟨?_, hS5.forget⟩; clear hS1; unfold rankE; (try simp only [dw, ef, decide_eq_false_iff_not] at *); (repeat' split); all_goals first | rfl | omega | simp_all
 simp (disch := omega) only [↓RA, RZ, simprocAttr, hn, hS5.ld 0 rfl, (hS5.sl hr.1).len, h1, h2, h3, h4]
 refine gT (fun h5 => ?_) (fun h5 => ?_)
 ·simp (disch := omega) only [↓RA, RZ, simprocAttr, hn, a7q, h1, h2, h3, h4, h5]
  refine ⟨?_, hS5.forget⟩; clear hS1; unfold rankE; (try simp only [ec, dw, cS, decide_eq_true_eq, gK, ef, decide_eq_false_iff_not] at *); (repeat' split); all_goals first | rfl | omega | simp_all
 simp (disch := omega) only [↓RA, RZ, simprocAttr, hn, hS5.ld 0 rfl, (hS5.sl hr.1).len, h1, h2, h3, h4, h5]
 refine gT (fun h6 => ?_) (fun h6 => ?_)
 ·simp (disch := omega) only [↓RA, RZ, simprocAttr, hn, a7q, h1, h2, h3, h4, h5, h6]
  refine ⟨?_, hS5.forget⟩; clear hS1; unfold rankE; (try simp only [ec, dw, cS, decide_eq_true_eq, gK, ef, decide_eq_false_iff_not] at *); (repeat' split); all_goals first | rfl | omega | simp_all
 simp (disch := omega) only [↓RA, RZ, simprocAttr, hn, hS5.ld 0 rfl, h1, h2, h3, h4, h5, h6]
 refine hS5.cF (b3A r.wv r.wind (hS5.sl hr.1) (by have := hr.2; omega)) fun H6 hS6 => ?_
 simp (disch := omega) only [↓RA, RZ, simprocAttr, hn, a7q, h1, h2, h3, h4, h5, h6]
 refine ⟨?_, hS6.forget⟩; clear hS1; unfold rankE; (try simp only [ec, dw, cS, decide_eq_true_eq, gK, ef, decide_eq_false_iff_not] at *); (repeat' split); all_goals first | rfl | omega | simp_all
abbrev KS (kvs : List (ByteArray × Bool)) : List Value := kcs Value.string Value.bool kvs
def oU (kvs : List (ByteArray × Bool)) (s : ByteArray) : Bool := (a0z kvs s).getD false
theorem a1C (B : Base) (A : Nat) (kvs : List (ByteArray × Bool)) (s : ByteArray) (hS : St prog B H [⟨.map (some A), 0, KS kvs⟩]) :
 Fn prog 75 [.map (some A), .string s] H fun r H' => r = I (if oU kvs s = true then 9 else 0) ∧ ∃ kvs', (∀ t, oU kvs' t = (oU kvs t || decide (t = s))) ∧ St prog B H' [⟨.map (some A), 0, KS kvs'⟩] := by
 refine .aG func75 rfl (by kernel_rfl) (m := 10) rfl fun l hn g0 g1 => ?_
 simp (disch := omega) only [↓RA, RB, simprocAttr, hn, g0, g1]
 refine hS.bJ 0 rfl a5b (fun _ => rfl) ?_
 simp (disch := omega) only [↓RA, RB, simprocAttr, hn]
 refine jD (fun h => ?_) (fun h => ?_)
 ·simp (disch := omega) only [↓RA, RB, simprocAttr, hn, c1t, h]
  refine ⟨by simp [oU, h], kvs, fun t => ?_, hS⟩
  by_cases e : t = s
  ·subst e; simp [oU, h]
  ·simp [e]
 simp (disch := omega) only [↓RA, RB, simprocAttr, hn, g0, g1, h]
 refine hS.ca 0 rfl a5b fun H1 hS1 => ?_
 simp only [RT] at hS1
 simp (disch := omega) only [↓RA, RB, simprocAttr, hn, c1t, h]
 refine ⟨by simp [oU, h], _, fun t => ?_, hS1⟩
 unfold oU
 rw [a0X]
 by_cases e : t = s
 ·simp [e]
 ·simp [e]
def pQ (lo hi : Int) : Int := if lo < 0 ∨ 127 < hi then 3 else if hi < lo then 23 else 0
theorem a0o (lo hi : Int) : Fn prog 97 [.agg #[I lo, I hi]] H fun r H' => r = I (pQ lo hi) ∧ St prog H H' [] := by
 refine .aR func97 rfl (by kernel_rfl) (m := 18) rfl fun l hn g0 => ?_
 simp (disch := omega) only [↓RA, RB, simprocAttr, g0]
 refine (sR H).eNew 2 [I lo, I hi] rfl rfl rfl sC fun A1 H1 hS1 => ?_
 simp only [RT] at hS1
 simp (disch := omega) only [↓RA, RZ, simprocAttr, hn, hS1.ld 0 rfl]
 refine iD (fun h1 => ?_) (fun h1 => ?_)
 ·simp (disch := omega) only [↓RA, RZ, simprocAttr, hn, b5W, h1]
  refine ⟨?_, hS1.forget⟩; unfold pQ; (repeat' split); all_goals first | rfl | omega
 simp (disch := omega) only [↓RA, RZ, simprocAttr, hn, hS1.ld 0 rfl, h1]
 refine gT (fun h2 => ?_) (fun h2 => ?_)
 ·simp (disch := omega) only [↓RA, RZ, simprocAttr, hn, b5W, h1, h2]
  refine ⟨?_, hS1.forget⟩; unfold pQ; (repeat' split); all_goals first | rfl | omega
 simp (disch := omega) only [↓RA, RZ, simprocAttr, hn, hS1.ld 0 rfl, h1, h2]
 refine gT (fun h3 => ?_) (fun h3 => ?_)
 ·simp (disch := omega) only [↓RA, RZ, simprocAttr, hn, b5W, h1, h2, h3]
  refine ⟨?_, hS1.forget⟩; unfold pQ; (repeat' split); all_goals first | rfl | omega
 simp (disch := omega) only [↓RA, RZ, simprocAttr, hn, b5W, h1, h2, h3]
 refine ⟨?_, hS1.forget⟩; unfold pQ; (repeat' split); all_goals first | rfl | omega
def kY (f : Nat → Int) (n : Nat) : Int := match (List.range n).find? (fun j => decide (f j ≠ 0)) with | some j => f j | none => 0
theorem nN (f : Nat → Int) (n i : Nat) (hi : i < n) (hp : f i ≠ 0) (h0 : ∀ j, j < i → f j = 0) : kY f n = f i := by
 unfold kY
 rw [uW _ n i hi (by simpa using hp) (fun j hj => by simpa using h0 j hj)]
theorem kG (f : Nat → Int) (n : Nat) (h0 : ∀ j, j < n → f j = 0) : kY f n = 0 := by
 unfold kY
 have : (List.range n).find? (fun j => decide (f j ≠ 0)) = none := by
  rw [fX]
  intro j hj
  simpa using h0 j (dm.1 hj)
 rw [this]
def rV (rs : List Rk) (lo hi : Int) : Int := if 60 < rs.length then 4 else if kY (fun j => rankE (gU rs j)) rs.length ≠ 0 then kY (fun j => rankE (gU rs j)) rs.length else pQ lo hi
theorem b3P (rv : Value) (rs : List Rk) (lo hi : Int) (hr : Sl 6 Rk.cells H rv rs) (hrk : ∀ r ∈ rs, r.In H) (hl : rs.length < 1000000000) :
 Fn prog 151 [.agg #[rv, I lo, I hi]] H fun v H' => v = I (rV rs lo hi) ∧ St prog H H' [] := by
 refine .aR func151 rfl (by kernel_rfl) (m := 26) rfl fun l hn g0 => ?_
 simp (disch := omega) only [↓RA, RB, simprocAttr, g0]
 refine (sR H).eNew 3 [rv, I lo, I hi] rfl rfl (by simp [OC, ((sR H).sl hr).cells.2.1]) a9G fun A1 H1 hS1 => ?_
 simp only [RT] at hS1
 simp (disch := omega) only [↓RA, RZ, simprocAttr, hn, hS1.ld 0 rfl, (hS1.sl hr).len]
 refine gT (fun h => ?_) (fun h => ?_)
 ·simp (disch := omega) only [↓RA, RZ, simprocAttr, hn, b5m, h]
  exact ⟨by rw [rV, if_pos (by omega)], hS1.forget⟩
 simp (disch := omega) only [↓RA, RZ, simprocAttr, hn, hS1.ld 0 rfl, (hS1.sl hr).len, h]
 refine Wp.al (fun n l H' => l.length = 26 ∧ get l 1 = (ptr A1 0 3) ∧ get l 11 = rv ∧ get l 12 = I rs.length ∧ ∃ (i : Nat), (n + i = rs.length ∧ ∀ j, j < i → rankE (gU rs j) = 0) ∧ get l 13 = I i ∧ St prog H H' [⟨ptr A1 0 3, 0, [rv, I lo, I hi]⟩]) rs.length ?_ ?_
 ·simp (disch := omega) only [RB, RC, simprocAttr, hn]
  exact ⟨0, ⟨by omega, by simp⟩, rfl, hS1⟩
 rintro n l H2 ⟨hn, g1, g11, g12, i, ⟨hi1,h0⟩, g13, hS2⟩
 simp (disch := omega) only [↓RA, RB, simprocAttr, hn, g12, g13]
 refine gT (fun h1 => ?_) (fun h1 => ?_)
 ·simp (disch := omega) only [↓RA, RZ, simprocAttr, hn, g11, g13, (hS2.sl hr).idx, (hS2.sl hr).aj, Rk.cells, h1]
  refine hS2.eNew 6 [(.string ⟨#[]⟩), (.string ⟨#[]⟩), I 0, I 0, I 0, (.slice none 0 0)] rfl rfl rfl wT fun A2 H3 hS3 => ?_
  simp only [RT] at hS3
  simp (disch := omega) only [↓RA, RZ, simprocAttr, hn, h1]
  refine hS3.aa 1 rfl [(.string (gU rs i).name), (.string (gU rs i).tone), I (gU rs i).num, I (gU rs i).den, I (gU rs i).first, (gU rs i).wv] rfl (by simp [OC, (hS3.sl (hrk (gU rs i) (gX (by omega))).1).cells.2.1]) wT (by simp) fun H4 hS4 => ?_
  simp only [RT] at hS4
  simp (disch := omega) only [↓RA, RZ, simprocAttr, hn, hS4.aj 1 rfl, h1]
  refine hS4.cF (a9z (gU rs i) ((hrk _ (gX (by omega))).ai hS4)) fun H5 hS5 => ?_
  simp (disch := omega) only [↓RA, RZ, simprocAttr, hn, h1]
  refine gT (fun h2 => ?_) (fun h2 => ?_)
  ·simp (disch := omega) only [↓RA, RZ, simprocAttr, hn, b5m, h1, h2]
   refine ⟨?_, hS5.forget⟩
   rw [rV, if_neg (by omega), nN _ rs.length i (by omega) h2 h0, if_pos h2]
  simp (disch := omega) only [↓RA, RZ, simprocAttr, hn, g1, g11, g12, g13, h1, h2]
  exact ⟨n - 1, by omega, i + 1, ⟨by omega, fun j hj => by rcases de.1 hj with e | e; (· exact h0 j e); (· rw [e]; exact dA.1 h2)⟩, by simp, hS5.sub (by simp)⟩
 simp (disch := omega) only [↓RA, RZ, simprocAttr, hn, g1, hS2.aj 0 rfl, h1]
 refine hS2.cF (a0o lo hi) fun H6 hS6 => ?_
 simp (disch := omega) only [↓RA, RZ, simprocAttr, hn, b5m, h1]
 refine ⟨?_, hS6.forget⟩
 have e := kG (fun j => rankE (gU rs j)) rs.length fun j hj => h0 j (by omega)
 rw [rV, if_neg (by omega), if_neg (by rw [e]; simp)]
theorem Drw.eq (a b : Drw) : (a.rank = b.rank ∧ a.shift = b.shift) ↔ b = a := by
 cases a; cases b; simp [eq_comm]
theorem b0X (v : Value) (xs : List Drw) (hv : Sl 2 Drw.cells H v xs) (hl : xs.length < 1000000000) (d : Drw) :
 Fn prog 205 [v, .agg #[I d.rank, I d.shift]] H fun r H' => r = I (pO (fun j => decide (gU xs j = d)) xs.length) ∧ St prog H H' [] := by
 refine .aG func205 rfl (by kernel_rfl) (m := 19) rfl fun l hn g0 g1 => ?_
 simp (disch := omega) only [↓RA, RB, simprocAttr, g1]
 refine (sR H).eNew 2 [I d.rank, I d.shift] rfl rfl rfl zV fun A1 H1 hS1 => ?_
 simp only [RT] at hS1
 simp (disch := omega) only [↓RA, RZ, simprocAttr, hn, g0, (hS1.sl hv).len]
 refine Wp.al (fun n l H' => l.length = 19 ∧ get l 0 = v ∧ get l 3 = (ptr A1 0 2) ∧ get l 7 = I xs.length ∧ ∃ (j : Nat), (n + j = xs.length ∧ ∀ q, q < j → decide (gU xs q = d) = false) ∧ get l 8 = I j ∧ St prog H H' [⟨ptr A1 0 2, 0, [I d.rank, I d.shift]⟩]) xs.length ?_ ?_
 ·simp (disch := omega) only [RB, RC, simprocAttr, hn, g0]
  exact ⟨0, ⟨by omega, fun q hq => absurd hq (dF _)⟩, rfl, hS1⟩
 rintro n l H2 ⟨hn, g0, g3, g7, j, ⟨hi,h0⟩, g8, hS2⟩
 simp (disch := omega) only [↓RA, RB, simprocAttr, hn, g7, g8]
 refine gT (fun h => ?_) (fun h => ?_)
 ·simp (disch := omega) only [↓RA, RZ, simprocAttr, hn, g8, h]
  refine Wp.drw jU (by kernel_rfl) ?_
  simp (disch := omega) only [↓RA, RZ, simprocAttr, hn, g0, g3, hS2.aj 0 rfl, (hS2.sl hv).idx, (hS2.sl hv).aj, Drw.cells]
  refine gT (fun hp => ?_) (fun hp => ?_)
  ·simp (disch := omega) only [↓RA, RZ, simprocAttr, hn, b8w, hp]
   exact ⟨by rw [xH _ xs.length j (by omega) (by simpa using (Drw.eq _ _).1 hp) h0], hS2.forget⟩
  simp (disch := omega) only [↓RA, RZ, simprocAttr, hn, g0, g3, g7, g8, hp]
  exact ⟨n - 1, by omega, j + 1, ⟨by omega, fun q hq => by rcases de.1 hq with e | e; (· exact h0 q e); (· rw [e]; simpa using fun hh => hp ((Drw.eq _ _).2 hh))⟩, by simp, hS2⟩
 simp (disch := omega) only [↓RA, RZ, simprocAttr, hn, b8w, h]
 exact ⟨by rw [wU _ xs.length fun q hq => h0 q (by omega)], hS2.forget⟩
theorem b5S (v : Value) (xs : List Drw) (hv : Sl 2 Drw.cells H v xs) (hl : xs.length < 1000000000) (d : Drw) :
 Fn prog 183 [v, .agg #[I d.rank, I d.shift]] H fun r H' => r = .bool (decide (d ∈ xs)) ∧ St prog H H' [] := by
 have e : decide (0 ≤ pO (fun j => decide (gU xs j = d)) xs.length) = decide (d ∈ xs) := by
  rw [dP, decide_eq_true_iff, decide_eq_true_iff, a0j]
  constructor
  ·rintro ⟨j, hj, hp⟩
   rw [← of_decide_eq_true hp]; exact gX hj
  ·intro hx
   obtain ⟨j, hj, rfl⟩ := dQ.1 hx
   exact ⟨j, hj, by rw [jY xs j hj]; simp⟩
 refine .aG func183 rfl (by kernel_rfl) (m := 9) rfl fun l hn g0 g1 => ?_
 simp (disch := omega) only [↓RA, RB, simprocAttr, g1]
 refine (sR H).eNew 2 [I d.rank, I d.shift] rfl rfl rfl zV fun A1 H1 hS1 => ?_
 simp only [RT] at hS1
 simp (disch := omega) only [↓RA, RZ, simprocAttr, hn, g0, hS1.aj 0 rfl]
 refine hS1.cF (b0X v xs (hS1.sl hv) hl d) fun H2 hS2 => ?_
 simp (disch := omega) only [↓RA, RB, simprocAttr, hn, c1V]
 rw [← e]
 first | exact hS2.forget | exact ⟨rfl, hS2.forget⟩
def kB (m : Nat) (l : List Drw) (j : Nat) : Int := if (gU l j).rank < 0 ∨ m ≤ (gU l j).rank then 10 else if (gU l j).shift < -127 ∨ 127 < (gU l j).shift then 3 else if gU l j ∈ l.take j then 9 else 0
def kT (m : Nat) (l : List Drw) : Int := if 8 < l.length then 4 else kY (kB m l) l.length
theorem a6l (rv : Value) (rs : List Rk) (lo hi : Int) (hr : Sl 6 Rk.cells H rv rs) (hl : rs.length < 1000000000) (dv : Value) (ds : List Drw) (hd : Sl 2 Drw.cells H dv ds) (hl2 : ds.length < 1000000000) :
 Fn prog 152 [.agg #[rv, I lo, I hi], dv] H fun v H' => v = I (kT rs.length ds) ∧ St prog H H' [] := by
 refine .aG func152 rfl (by kernel_rfl) (m := 45) rfl fun l hn g0 g1 => ?_
 simp (disch := omega) only [↓RA, RB, simprocAttr, g0]
 refine (sR H).eNew 3 [rv, I lo, I hi] rfl rfl (by simp [OC, ((sR H).sl hr).cells.2.1]) a9G fun A1 H1 hS1 => ?_
 simp only [RT] at hS1
 simp (disch := omega) only [↓RA, RZ, simprocAttr, hn, g1, (hS1.sl hd).len]
 refine gT (fun h => ?_) (fun h => ?_)
 ·simp (disch := omega) only [↓RA, RZ, simprocAttr, hn, a1M, h]
  exact ⟨by rw [kT, if_pos (by omega)], hS1.forget⟩
 simp (disch := omega) only [↓RA, RZ, simprocAttr, hn, g1, (hS1.sl hd).len, h]
 refine Wp.al (fun n l H' => l.length = 45 ∧ get l 1 = dv ∧ get l 2 = (ptr A1 0 3) ∧ get l 10 = dv ∧ get l 11 = I ds.length ∧ ∃ (i : Nat), (n + i = ds.length ∧ ∀ j, j < i → kB rs.length ds j = 0) ∧ get l 12 = I i ∧ St prog H H' [⟨ptr A1 0 3, 0, [rv, I lo, I hi]⟩]) ds.length ?_ ?_
 ·simp (disch := omega) only [RB, RC, simprocAttr, hn, g1]
  exact ⟨0, ⟨by omega, by simp⟩, rfl, hS1⟩
 rintro n l H2 ⟨hn, g1, g2, sQ, g11, i, ⟨hi1,h0⟩, g12, hS2⟩
 simp (disch := omega) only [↓RA, RB, simprocAttr, hn, g11, g12]
 refine gT (fun h1 => ?_) (fun h1 => ?_)
 ·have key : kB rs.length ds i ≠ 0 → kT rs.length ds = kB rs.length ds i := fun hne => by rw [kT, if_neg (by omega), nN _ ds.length i (by omega) hne h0]
  simp (disch := omega) only [↓RA, RZ, simprocAttr, hn, sQ, g12, (hS2.sl hd).idx, (hS2.sl hd).aj, Drw.cells, h1]
  refine hS2.eNew 2 [I 0, I 0] rfl rfl rfl zV fun A2 H3 hS3 => ?_
  simp only [RT] at hS3
  simp (disch := omega) only [↓RA, RZ, simprocAttr, hn, h1]
  refine hS3.aa 1 rfl [I (gU ds i).rank, I (gU ds i).shift] rfl rfl zV (by simp) fun H4 hS4 => ?_
  simp only [RT] at hS4
  simp (disch := omega) only [↓RA, RZ, simprocAttr, hn, hS4.ld 1 rfl, h1]
  refine iD (fun h1 => ?_) (fun h1 => ?_)
  ·simp (disch := omega) only [↓RA, RZ, simprocAttr, hn, a1M, h1]
   (first | (have e1 : kB rs.length ds i = 10 := by rw [kB, if_pos (by omega)]); exact ⟨by rw [key (by rw [e1]; decide), e1], hS4.forget⟩ | (have e1 : kB rs.length ds i = 3 := by rw [kB, if_neg (by omega), if_pos (by omega)]); exact ⟨by rw [key (by rw [e1]; decide), e1], hS4.forget⟩ | (have e1 : kB rs.length ds i = 9 := by rw [kB, if_neg (by omega), if_neg (by omega), if_pos (by simp_all)]); exact ⟨by rw [key (by rw [e1]; decide), e1], hS4.forget⟩)
  simp (disch := omega) only [↓RA, RZ, simprocAttr, hn, g2, hS4.ld 1 rfl, hS4.ld 0 rfl, (hS4.sl hr).len, h1]
  refine gT (fun h2 => ?_) (fun h2 => ?_)
  ·simp (disch := omega) only [↓RA, RZ, simprocAttr, hn, a1M, h1, h2]
   (first | (have e1 : kB rs.length ds i = 10 := by rw [kB, if_pos (by omega)]); exact ⟨by rw [key (by rw [e1]; decide), e1], hS4.forget⟩ | (have e1 : kB rs.length ds i = 3 := by rw [kB, if_neg (by omega), if_pos (by omega)]); exact ⟨by rw [key (by rw [e1]; decide), e1], hS4.forget⟩ | (have e1 : kB rs.length ds i = 9 := by rw [kB, if_neg (by omega), if_neg (by omega), if_pos (by simp_all)]); exact ⟨by rw [key (by rw [e1]; decide), e1], hS4.forget⟩)
  simp (disch := omega) only [↓RA, RZ, simprocAttr, hn, hS4.ld 1 rfl, h1, h2]
  refine iD (fun h3 => ?_) (fun h3 => ?_)
  ·simp (disch := omega) only [↓RA, RZ, simprocAttr, hn, a1M, h1, h2, h3]
   (first | (have e1 : kB rs.length ds i = 10 := by rw [kB, if_pos (by omega)]); exact ⟨by rw [key (by rw [e1]; decide), e1], hS4.forget⟩ | (have e1 : kB rs.length ds i = 3 := by rw [kB, if_neg (by omega), if_pos (by omega)]); exact ⟨by rw [key (by rw [e1]; decide), e1], hS4.forget⟩ | (have e1 : kB rs.length ds i = 9 := by rw [kB, if_neg (by omega), if_neg (by omega), if_pos (by simp_all)]); exact ⟨by rw [key (by rw [e1]; decide), e1], hS4.forget⟩)
  simp (disch := omega) only [↓RA, RZ, simprocAttr, hn, hS4.ld 1 rfl, h1, h2, h3]
  refine gT (fun h4 => ?_) (fun h4 => ?_)
  ·simp (disch := omega) only [↓RA, RZ, simprocAttr, hn, a1M, h1, h2, h3, h4]
   (first | (have e1 : kB rs.length ds i = 10 := by rw [kB, if_pos (by omega)]); exact ⟨by rw [key (by rw [e1]; decide), e1], hS4.forget⟩ | (have e1 : kB rs.length ds i = 3 := by rw [kB, if_neg (by omega), if_pos (by omega)]); exact ⟨by rw [key (by rw [e1]; decide), e1], hS4.forget⟩ | (have e1 : kB rs.length ds i = 9 := by rw [kB, if_neg (by omega), if_neg (by omega), if_pos (by simp_all)]); exact ⟨by rw [key (by rw [e1]; decide), e1], hS4.forget⟩)
  simp (disch := omega) only [↓RA, RZ, simprocAttr, h1, h2, h3, h4]
  refine Wp.drw jU (by kernel_rfl) ?_
  simp (disch := omega) only [↓RA, RZ, simprocAttr, hn, g1, (hS4.sl hd).aQ, hS4.aj 1 rfl]
  refine hS4.cF (b5S _ (ds.take i) ((hS4.sl hd).cu i (by omega) (by omega)) (by simp; omega) (gU ds i)) fun H5 hS5 => ?_
  simp (disch := omega) only [↓RA, RB, simprocAttr, hn]
  refine gT (fun h5 => ?_) (fun h5 => ?_)
  ·simp (disch := omega) only [↓RA, RZ, simprocAttr, hn, a1M, h5]
   (first | (have e1 : kB rs.length ds i = 10 := by rw [kB, if_pos (by omega)]); exact ⟨by rw [key (by rw [e1]; decide), e1], hS5.forget⟩ | (have e1 : kB rs.length ds i = 3 := by rw [kB, if_neg (by omega), if_pos (by omega)]); exact ⟨by rw [key (by rw [e1]; decide), e1], hS5.forget⟩ | (have e1 : kB rs.length ds i = 9 := by rw [kB, if_neg (by omega), if_neg (by omega), if_pos (by simp_all)]); exact ⟨by rw [key (by rw [e1]; decide), e1], hS5.forget⟩)
  simp (disch := omega) only [↓RA, RZ, simprocAttr, hn, g1, g2, sQ, g11, g12, h5]
  have e0 : kB rs.length ds i = 0 := by rw [kB, if_neg (by omega), if_neg (by omega), if_neg (by simp_all)]
  exact ⟨n - 1, by omega, i + 1, ⟨by omega, fun j hj => by rcases de.1 hj with e | e; (· exact h0 j e); (· rw [e]; exact e0)⟩, by simp, hS5.sub (by simp)⟩
 simp (disch := omega) only [↓RA, RZ, simprocAttr, hn, a1M, h1]
 exact ⟨by rw [kT, if_neg (by omega), kG _ _ fun j hj => h0 j (by omega)], hS2.forget⟩
def kM (lo hi : Int) (m : Nat) (gs : List Seg) (j : Nat) : Int := if min (gU gs j).lo (gU gs j).hi < lo ∨ hi < max (gU gs j).lo (gU gs j).hi then 23 else if (gU gs j).hi < (gU gs j).lo ∨ (0 < j ∧ (gU gs j).lo ≤ (gU gs (j - 1)).hi) then 6 else kT m (gU gs j).draws
def stopE (rs : List Rk) (lo hi : Int) (s : Stp) : Int := if rV rs lo hi ≠ 0 then rV rs lo hi else if kJ s.name = false then 8 else if nD s.num s.den ≠ 0 then nD s.num s.den else if s.segs.length = 0 then 13 else if 12 < s.segs.length then 4 else kY (kM lo hi rs.length s.segs) s.segs.length
theorem b5H (rv : Value) (rs : List Rk) (lo hi : Int) (hr : Sl 6 Rk.cells H rv rs) (hrk : ∀ r ∈ rs, r.In H) (hl : rs.length < 1000000000) (s : Stp) (hs : s.In H) :
 Fn prog 111 [.agg #[rv, I lo, I hi], .agg #[.string s.name, I s.num, I s.den, s.gv]] H fun v H' => v = I (stopE rs lo hi s) ∧ St prog H H' [] := by
 have hl2 := hs.2.2
 refine .aG func111 rfl (by kernel_rfl) (m := 94) rfl fun l hn g0 g1 => ?_
 simp (disch := omega) only [↓RA, RB, simprocAttr, g0]
 refine (sR H).eNew 3 [rv, I lo, I hi] rfl rfl (by simp [OC, ((sR H).sl hr).cells.2.1]) a9G fun A1 H1 hS1 => ?_
 simp only [RT] at hS1
 simp (disch := omega) only [↓RA, RB, simprocAttr, g1]
 refine hS1.eNew 4 [(.string s.name), I s.num, I s.den, s.gv] rfl rfl (by simp [OC, (hS1.sl hs.1).cells.2.1]) nV fun A2 H2 hS2 => ?_
 simp only [RT] at hS2
 simp (disch := omega) only [↓RA, RZ, simprocAttr, hn, hS2.aj 0 rfl]
 refine hS2.cF (b3P rv rs lo hi (hS2.sl hr) (fun r h => (hrk r h).ai hS2) hl) fun H3 hS3 => ?_
 simp (disch := omega) only [↓RA, RB, simprocAttr, hn]
 refine gT (fun p1 => ?_) (fun p1 => ?_)
 ·simp (disch := omega) only [↓RA, RZ, simprocAttr, hn, sA, p1]
  exact ⟨by rw [stopE, if_pos p1], hS3.forget⟩
 simp (disch := omega) only [↓RA, RZ, simprocAttr, hn, hS3.ld 1 rfl, p1]
 refine hS3.cF (pD s.name) fun H4 hS4 => ?_
 simp (disch := omega) only [↓RA, RZ, simprocAttr, hn, p1]
 refine jD (fun p2 => ?_) (fun p2 => ?_)
 ·simp (disch := omega) only [↓RA, RZ, simprocAttr, hn, sA, p1, p2]
  exact ⟨by rw [stopE, if_neg p1, if_pos (by simpa using p2)], hS4.forget⟩
 have p2' : ¬ kJ s.name = false := by simpa using p2
 simp (disch := omega) only [↓RA, RZ, simprocAttr, hn, hS4.aj 1 rfl, p1, p2]
 refine hS4.cF (a0s s.num s.den) fun H5 hS5 => ?_
 simp (disch := omega) only [↓RA, RZ, simprocAttr, hn, p1, p2]
 refine gT (fun p3 => ?_) (fun p3 => ?_)
 ·simp (disch := omega) only [↓RA, RZ, simprocAttr, hn, sA, p1, p2, p3]
  exact ⟨by rw [stopE, if_neg p1, if_neg p2', if_pos p3], hS5.forget⟩
 simp (disch := omega) only [↓RA, RZ, simprocAttr, hn, hS5.ld 1 rfl, (hS5.sl hs.1).len, p1, p2, p3]
 refine gT (fun p4 => ?_) (fun p4 => ?_)
 ·simp (disch := omega) only [↓RA, RZ, simprocAttr, hn, sA, p1, p2, p3, p4]
  exact ⟨by rw [stopE, if_neg p1, if_neg p2', if_neg p3, if_pos (by omega)], hS5.forget⟩
 simp (disch := omega) only [↓RA, RZ, simprocAttr, hn, hS5.ld 1 rfl, (hS5.sl hs.1).len, p1, p2, p3, p4]
 refine gT (fun p5 => ?_) (fun p5 => ?_)
 ·simp (disch := omega) only [↓RA, RZ, simprocAttr, hn, sA, p1, p2, p3, p4, p5]
  exact ⟨by rw [stopE, if_neg p1, if_neg p2', if_neg p3, if_neg (by omega), if_pos (by omega)], hS5.forget⟩
 have hE : stopE rs lo hi s = kY (kM lo hi rs.length s.segs) s.segs.length := by rw [stopE, if_neg p1, if_neg p2', if_neg p3, if_neg (by omega), if_neg (by omega)]
 simp (disch := omega) only [↓RA, RZ, simprocAttr, hn, hS5.ld 1 rfl, (hS5.sl hs.1).len, p1, p2, p3, p4, p5]
 refine Wp.al (fun n l H' => l.length = 94 ∧ get l 2 = (ptr A1 0 3) ∧ get l 3 = (ptr A2 0 4) ∧ get l 36 = s.gv ∧ get l 37 = I s.segs.length ∧ ∃ (i : Nat), (n + i = s.segs.length ∧ ∀ j, j < i → kM lo hi rs.length s.segs j = 0) ∧ get l 38 = I i ∧ St prog H H' [⟨ptr A1 0 3, 0, [rv, I lo, I hi]⟩, ⟨ptr A2 0 4, 0, [(.string s.name), I s.num, I s.den, s.gv]⟩]) s.segs.length ?_ ?_
 ·simp (disch := omega) only [RB, RC, simprocAttr, hn]
  exact ⟨0, ⟨by omega, by simp⟩, rfl, hS5⟩
 rintro n l H6 ⟨hn, g2, g3, g36, g37, i, ⟨hi1,h0⟩, g38, hS6⟩
 simp (disch := omega) only [↓RA, RB, simprocAttr, hn, g37, g38]
 refine gT (fun q1 => ?_) (fun q1 => ?_)
 ·have key : kM lo hi rs.length s.segs i ≠ 0 → stopE rs lo hi s = kM lo hi rs.length s.segs i := fun hne => by rw [hE, nN _ _ i (by omega) hne h0]
  have ei : ((i : Int) - 1).toNat = i - 1 := by omega
  simp (disch := omega) only [↓RA, RZ, simprocAttr, hn, g36, g38, (hS6.sl hs.1).idx, (hS6.sl hs.1).aj, Seg.cells, q1]
  refine hS6.eNew 3 [I 0, I 0, (.slice none 0 0)] rfl rfl rfl a0P fun A3 H7 hS7 => ?_
  simp only [RT] at hS7
  simp (disch := omega) only [↓RA, RZ, simprocAttr, hn, q1]
  refine hS7.aa 2 rfl [I (gU s.segs i).lo, I (gU s.segs i).hi, (gU s.segs i).dv] rfl (by simp [OC, (hS7.sl (hs.2.1 (gU s.segs i) (gX (by omega))).1).cells.2.1]) a0P (by simp) fun H8 hS8 => ?_
  simp only [RT] at hS8
  simp (disch := omega) only [↓RA, RZ, simprocAttr, hn, g2, hS8.ld 2 rfl, hS8.ld 0 rfl, q1]
  refine iD (fun h1 => ?_) (fun h1 => ?_)
  ·simp (disch := omega) only [↓RA, RZ, simprocAttr, hn, sA, q1, h1]
   (first | (have e1 : kM lo hi rs.length s.segs i = 23 := by rw [kM, if_pos (by omega)]); exact ⟨by rw [key (by rw [e1]; decide), e1], hS8.forget⟩ | (have e1 : kM lo hi rs.length s.segs i = 6 := by rw [kM, if_neg (by omega), if_pos (by omega)]); exact ⟨by rw [key (by rw [e1]; decide), e1], hS8.forget⟩ | (have e1 : kM lo hi rs.length s.segs i = kT rs.length (gU s.segs i).draws := by rw [kM, if_neg (by omega), if_neg (by omega)]); exact ⟨by rw [key (by rw [e1]; assumption), e1], hS8.forget⟩)
  simp (disch := omega) only [↓RA, RZ, simprocAttr, hn, g2, hS8.ld 2 rfl, hS8.ld 0 rfl, q1, h1]
  refine gT (fun h2 => ?_) (fun h2 => ?_)
  ·simp (disch := omega) only [↓RA, RZ, simprocAttr, hn, sA, q1, h1, h2]
   (first | (have e1 : kM lo hi rs.length s.segs i = 23 := by rw [kM, if_pos (by omega)]); exact ⟨by rw [key (by rw [e1]; decide), e1], hS8.forget⟩ | (have e1 : kM lo hi rs.length s.segs i = 6 := by rw [kM, if_neg (by omega), if_pos (by omega)]); exact ⟨by rw [key (by rw [e1]; decide), e1], hS8.forget⟩ | (have e1 : kM lo hi rs.length s.segs i = kT rs.length (gU s.segs i).draws := by rw [kM, if_neg (by omega), if_neg (by omega)]); exact ⟨by rw [key (by rw [e1]; assumption), e1], hS8.forget⟩)
  simp (disch := omega) only [↓RA, RZ, simprocAttr, q1, h1, h2]
  refine Wp.drw jU (by kernel_rfl) ?_
  simp (disch := omega) only [↓RA, RZ, simprocAttr, hn, hS8.ld 2 rfl]
  refine iD (fun h3 => ?_) (fun h3 => ?_)
  ·simp (disch := omega) only [↓RA, RZ, simprocAttr, hn, sA, h3]
   (first | (have e1 : kM lo hi rs.length s.segs i = 23 := by rw [kM, if_pos (by omega)]); exact ⟨by rw [key (by rw [e1]; decide), e1], hS8.forget⟩ | (have e1 : kM lo hi rs.length s.segs i = 6 := by rw [kM, if_neg (by omega), if_pos (by omega)]); exact ⟨by rw [key (by rw [e1]; decide), e1], hS8.forget⟩ | (have e1 : kM lo hi rs.length s.segs i = kT rs.length (gU s.segs i).draws := by rw [kM, if_neg (by omega), if_neg (by omega)]); exact ⟨by rw [key (by rw [e1]; assumption), e1], hS8.forget⟩)
  simp (disch := omega) only [↓RA, RZ, simprocAttr, hn, h3]
  refine jB (fun h4 => ?_) (fun h4 => ?_)
  ·simp (disch := omega) only [↓RA, RZ, simprocAttr, hn, g3, hS8.ld 2 rfl, hS8.ld 1 rfl, (hS8.sl hs.1).idx, (hS8.sl hs.1).bf, (hS8.sl hs.1).ld, Seg.cells, ei, h3, h4]
   refine gT (fun h5 => ?_) (fun h5 => ?_)
   ·simp (disch := omega) only [↓RA, RZ, simprocAttr, hn, sA, h3, h4, h5]
    (first | (have e1 : kM lo hi rs.length s.segs i = 23 := by rw [kM, if_pos (by omega)]); exact ⟨by rw [key (by rw [e1]; decide), e1], hS8.forget⟩ | (have e1 : kM lo hi rs.length s.segs i = 6 := by rw [kM, if_neg (by omega), if_pos (by omega)]); exact ⟨by rw [key (by rw [e1]; decide), e1], hS8.forget⟩ | (have e1 : kM lo hi rs.length s.segs i = kT rs.length (gU s.segs i).draws := by rw [kM, if_neg (by omega), if_neg (by omega)]); exact ⟨by rw [key (by rw [e1]; assumption), e1], hS8.forget⟩)
   simp (disch := omega) only [↓RA, RZ, simprocAttr, hn, g2, hS8.aj 0 rfl, hS8.ld 2 rfl, h3, h4, h5]
   refine hS8.cF (a6l rv rs lo hi (hS8.sl hr) hl _ _ (hS8.sl (hs.2.1 _ (gX (by omega))).1) (hs.2.1 _ (gX (by omega))).2) fun H9 hS9 => ?_
   simp (disch := omega) only [↓RA, RZ, simprocAttr, hn, h3, h4, h5]
   refine gT (fun h6 => ?_) (fun h6 => ?_)
   ·simp (disch := omega) only [↓RA, RZ, simprocAttr, hn, sA, h3, h4, h5, h6]
    (first | (have e1 : kM lo hi rs.length s.segs i = 23 := by rw [kM, if_pos (by omega)]); exact ⟨by rw [key (by rw [e1]; decide), e1], hS9.forget⟩ | (have e1 : kM lo hi rs.length s.segs i = 6 := by rw [kM, if_neg (by omega), if_pos (by omega)]); exact ⟨by rw [key (by rw [e1]; decide), e1], hS9.forget⟩ | (have e1 : kM lo hi rs.length s.segs i = kT rs.length (gU s.segs i).draws := by rw [kM, if_neg (by omega), if_neg (by omega)]); exact ⟨by rw [key (by rw [e1]; assumption), e1], hS9.forget⟩)
   simp (disch := omega) only [↓RA, RZ, simprocAttr, hn, g2, g3, g36, g37, g38, h3, h4, h5, h6]
   have e0 : kM lo hi rs.length s.segs i = 0 := by rw [kM, if_neg (by omega), if_neg (by omega)]; omega
   exact ⟨n - 1, by omega, i + 1, ⟨by omega, fun j hj => by rcases de.1 hj with e | e; (· exact h0 j e); (· rw [e]; exact e0)⟩, by simp, hS9.sub (by simp)⟩
  simp (disch := omega) only [↓RA, RZ, simprocAttr, hn, g2, hS8.aj 0 rfl, hS8.ld 2 rfl, h3, h4]
  refine hS8.cF (a6l rv rs lo hi (hS8.sl hr) hl _ _ (hS8.sl (hs.2.1 _ (gX (by omega))).1) (hs.2.1 _ (gX (by omega))).2) fun H10 hS10 => ?_
  simp (disch := omega) only [↓RA, RZ, simprocAttr, hn, h3, h4]
  refine gT (fun h7 => ?_) (fun h7 => ?_)
  ·simp (disch := omega) only [↓RA, RZ, simprocAttr, hn, sA, h3, h4, h7]
   (first | (have e1 : kM lo hi rs.length s.segs i = 23 := by rw [kM, if_pos (by omega)]); exact ⟨by rw [key (by rw [e1]; decide), e1], hS10.forget⟩ | (have e1 : kM lo hi rs.length s.segs i = 6 := by rw [kM, if_neg (by omega), if_pos (by omega)]); exact ⟨by rw [key (by rw [e1]; decide), e1], hS10.forget⟩ | (have e1 : kM lo hi rs.length s.segs i = kT rs.length (gU s.segs i).draws := by rw [kM, if_neg (by omega), if_neg (by omega)]); exact ⟨by rw [key (by rw [e1]; assumption), e1], hS10.forget⟩)
  simp (disch := omega) only [↓RA, RZ, simprocAttr, hn, g2, g3, g36, g37, g38, h3, h4, h7]
  have e0 : kM lo hi rs.length s.segs i = 0 := by rw [kM, if_neg (by omega), if_neg (by omega)]; omega
  exact ⟨n - 1, by omega, i + 1, ⟨by omega, fun j hj => by rcases de.1 hj with e | e; (· exact h0 j e); (· rw [e]; exact e0)⟩, by simp, hS10.sub (by simp)⟩
 simp (disch := omega) only [↓RA, RZ, simprocAttr, hn, sA, q1]
 exact ⟨by rw [hE, kG _ _ fun j hj => h0 j (by omega)], hS6.forget⟩
theorem b7M (v : Value) (xs : List Cpl) (hv : Sl 5 Cpl.cells H v xs) (hl : xs.length < 1000000000) (k : FuncId) (caps : List Value) (p : Nat → Bool)
 (hf : ∀ j H1, j < xs.length → St prog H H1 [] → Fn prog k (.agg #[.string (gU xs j).name, I (gU xs j).src, I (gU xs j).dst, I (gU xs j).shift, .bool (gU xs j).thr] :: caps) H1 fun r H2 => r = .bool (p j) ∧ St prog H1 H2 []) :
 Fn prog 153 [v, .func (.func k) #[] caps.toArray] H fun r H' => r = I (pO p xs.length) ∧ St prog H H' [] := by
 refine .aG func153 rfl (by kernel_rfl) (m := 19) rfl fun l hn g0 g1 => ?_
 simp (disch := omega) only [↓RA, RZ, simprocAttr, hn, g0, ((sR H).sl hv).len]
 refine Wp.al (fun n l H' => l.length = 19 ∧ get l 0 = v ∧ get l 1 = .func (.func k) #[] caps.toArray ∧ get l 7 = I xs.length ∧ ∃ (j : Nat), (n + j = xs.length ∧ ∀ q, q < j → p q = false) ∧ get l 8 = I j ∧ St prog H H' []) xs.length ?_ ?_
 ·simp (disch := omega) only [RB, RC, simprocAttr, hn, g0, g1]
  exact ⟨0, ⟨by omega, fun q hq => absurd hq (dF _)⟩, rfl, (sR H)⟩
 rintro n l H1 ⟨hn, g0, g1, g7, j, ⟨hi,h0⟩, g8, hS1⟩
 simp (disch := omega) only [↓RA, RB, simprocAttr, hn, g7, g8]
 refine gT (fun h => ?_) (fun h => ?_)
 ·simp (disch := omega) only [↓RA, RZ, simprocAttr, hn, g0, g1, g8, (hS1.sl hv).idx, (hS1.sl hv).aj, Cpl.cells, h]
  refine hS1.cF (hf j _ (by omega) hS1) fun H2 hS2 => ?_
  simp (disch := omega) only [↓RA, RZ, simprocAttr, hn, h]
  refine jD (fun hp => ?_) (fun hp => ?_)
  ·simp (disch := omega) only [↓RA, RZ, simprocAttr, hn, b8z, h, hp]
   exact ⟨by rw [xH p xs.length j (by omega) hp h0], hS2⟩
  simp (disch := omega) only [↓RA, RZ, simprocAttr, hn, g0, g1, g7, g8, h, hp]
  exact ⟨n - 1, by omega, j + 1, ⟨by omega, fun q hq => by rcases de.1 hq with e | e; (· exact h0 q e); (· rw [e]; exact hp)⟩, by simp, hS2⟩
 simp (disch := omega) only [↓RA, RZ, simprocAttr, hn, b8z, h]
 exact ⟨by rw [wU p xs.length fun q hq => h0 q (by omega)], hS1⟩
theorem b5K (v : Value) (xs : List Cpl) (hv : Sl 5 Cpl.cells H v xs) (hl : xs.length < 1000000000) (k : FuncId) (caps : List Value) (p : Nat → Bool)
 (hf : ∀ j H1, j < xs.length → St prog H H1 [] → Fn prog k (.agg #[.string (gU xs j).name, I (gU xs j).src, I (gU xs j).dst, I (gU xs j).shift, .bool (gU xs j).thr] :: caps) H1 fun r H2 => r = .bool (p j) ∧ St prog H1 H2 []) :
 Fn prog 112 [v, .func (.func k) #[] caps.toArray] H fun r H' => r = .bool (decide (0 ≤ pO p xs.length)) ∧ St prog H H' [] := by
 refine .aG func112 rfl (by kernel_rfl) (m := 9) rfl fun l hn g0 g1 => ?_
 simp (disch := omega) only [↓RA, RZ, simprocAttr, hn, g0, g1]
 refine (sR H).cF (b7M v xs hv hl k caps p hf) fun H1 hS1 => ?_
 simp (disch := omega) only [↓RA, RZ, simprocAttr, hn, c1l]
 first | exact hS1 | exact ⟨rfl, hS1⟩
theorem a7A (c : Cpl) (A : Nat) (d : Cpl) (hA : Var H A 5 d.cells) : Fn prog 113 [.agg #[.string c.name, I c.src, I c.dst, I c.shift, .bool c.thr], ptr A 0 5] H fun r H' => r = .bool (decide (c.name = d.name)) ∧ St prog H H' [] := by
 refine .aG func113 rfl (by kernel_rfl) (m := 9) rfl fun l hn g0 g1 => ?_
 simp (disch := omega) only [↓RA, RB, simprocAttr, g0]
 refine (sR H).eNew 5 [(.string c.name), I c.src, I c.dst, I c.shift, (.bool c.thr)] rfl rfl rfl sK fun A1 H1 hS1 => ?_
 simp only [RT] at hS1
 simp (disch := omega) only [↓RA, RZ, simprocAttr, hn, g1, hS1.ld 0 rfl, (hS1.va hA).ld, c1C, Cpl.cells]
 first | exact hS1.forget | exact ⟨rfl, hS1.forget⟩
def lW (m : Nat) (cs : List Cpl) (j : Nat) : Int :=
 let c := gU cs j
 if kJ c.name = false then 8 else if ∃ q, q < j ∧ (gU cs q).name = c.name then 9 else if c.src < 0 ∨ m ≤ c.src ∨ c.dst < 0 ∨ m ≤ c.dst then 10 else if c.shift < -127 ∨ 127 < c.shift then 3 else if c.src = c.dst ∧ c.shift = 0 then 7 else 0
def sH (ks : List (Int × Int)) (cs : List Cpl) : Int := if 8 < ks.length ∨ 40 < cs.length then 4 else if ∃ k ∈ ks, pQ k.1 k.2 ≠ 0 then 23 else kY (lW ks.length cs) cs.length
def kpc (k : Int × Int) : List Value := [I k.1, I k.2]
theorem a5j {α : Type} [Inhabited α] (xs : List α) (i j : Nat) (h : j < i) : gU (xs.take i) j = gU xs j := by
 unfold gU
 rw [cW, cW, dH h]
theorem a6j (kv cv : Value) (ks : List (Int × Int)) (cs : List Cpl) (hk : Sl 2 kpc H kv ks) (hc : Sl 5 Cpl.cells H cv cs) (hl : ks.length < 1000000000) (hl2 : cs.length < 1000000000) :
 Fn prog 77 [kv, cv] H fun v H' => v = I (sH ks cs) ∧ St prog H H' [] := by
 refine .aG func77 rfl (by kernel_rfl) (m := 89) rfl fun l hn g0 g1 => ?_
 simp (disch := omega) only [↓RA, RZ, simprocAttr, hn, g0, ((sR H).sl hk).len]
 refine iD (fun p1 => ?_) (fun p1 => ?_)
 ·simp (disch := omega) only [↓RA, RZ, simprocAttr, hn, yY, p1]
  exact ⟨by rw [sH, if_pos (by omega)], (sR H)⟩
 simp (disch := omega) only [↓RA, RZ, simprocAttr, hn, g1, ((sR H).sl hc).len, p1]
 refine gT (fun p2 => ?_) (fun p2 => ?_)
 ·simp (disch := omega) only [↓RA, RZ, simprocAttr, hn, yY, p1, p2]
  exact ⟨by rw [sH, if_pos (by omega)], (sR H)⟩
 simp (disch := omega) only [↓RA, RZ, simprocAttr, hn, g0, ((sR H).sl hk).len, p1, p2]
 refine Wp.al (fun n l H' => l.length = 89 ∧ get l 0 = kv ∧ get l 1 = cv ∧ get l 17 = kv ∧ get l 18 = I ks.length ∧ ∃ (i : Nat), (n + i = ks.length ∧ ∀ j, j < i → pQ (gU ks j).1 (gU ks j).2 = 0) ∧ get l 19 = I i ∧ St prog H H' []) ks.length ?_ ?_
 ·simp (disch := omega) only [RB, RC, simprocAttr, hn, g0, g1]
  exact ⟨0, ⟨by omega, by simp⟩, rfl, (sR H)⟩
 rintro n l H1 ⟨hn, g0, g1, g17, g18, i, ⟨hi1,h0⟩, g19, hS1⟩
 simp (disch := omega) only [↓RA, RB, simprocAttr, hn, g18, g19]
 refine gT (fun p3 => ?_) (fun p3 => ?_)
 ·simp (disch := omega) only [↓RA, RZ, simprocAttr, hn, g17, g19, (hS1.sl hk).idx, (hS1.sl hk).aj, kpc, p3]
  refine hS1.eNew 2 [I 0, I 0] rfl rfl rfl sC fun A1 H2 hS2 => ?_
  simp only [RT] at hS2
  simp (disch := omega) only [↓RA, RZ, simprocAttr, hn, p3]
  refine hS2.aa 0 rfl [I (gU ks i).1, I (gU ks i).2] rfl rfl sC (by simp) fun H3 hS3 => ?_
  simp only [RT] at hS3
  simp (disch := omega) only [↓RA, RZ, simprocAttr, hn, hS3.aj 0 rfl, p3]
  refine hS3.cF (a0o _ _) fun H4 hS4 => ?_
  simp (disch := omega) only [↓RA, RZ, simprocAttr, hn, p3]
  refine gT (fun p4 => ?_) (fun p4 => ?_)
  ·simp (disch := omega) only [↓RA, RZ, simprocAttr, hn, yY, p3, p4]
   exact ⟨by rw [sH, if_neg (by omega), if_pos ⟨_, gX (by omega), p4⟩], hS4.forget⟩
  simp (disch := omega) only [↓RA, RZ, simprocAttr, hn, g0, g1, g17, g18, g19, p3, p4]
  exact ⟨n - 1, by omega, i + 1, ⟨by omega, fun j hj => by rcases de.1 hj with e | e; (· exact h0 j e); (· rw [e]; exact dA.1 p4)⟩, by simp, hS4.sub (by simp)⟩
 have hE : sH ks cs = kY (lW ks.length cs) cs.length := by
  rw [sH, if_neg (by omega), if_neg]
  rintro ⟨k, hk, hne⟩
  obtain ⟨j, hj, rfl⟩ := dQ.1 hk
  rw [← jY ks j hj] at hne
  exact hne (h0 j (by omega))
 simp (disch := omega) only [↓RA, RZ, simprocAttr, hn, g1, (hS1.sl hc).len, p3]
 refine Wp.al (fun n l H' => l.length = 89 ∧ get l 0 = kv ∧ get l 1 = cv ∧ get l 27 = cv ∧ get l 28 = I cs.length ∧ ∃ (i : Nat), (n + i = cs.length ∧ ∀ j, j < i → lW ks.length cs j = 0) ∧ get l 29 = I i ∧ St prog H H' []) cs.length ?_ ?_
 ·simp (disch := omega) only [RB, RC, simprocAttr, hn, g0, g1]
  exact ⟨0, ⟨by omega, by simp⟩, rfl, hS1⟩
 rintro n l H5 ⟨hn, g0, g1, g27, g28, i, ⟨hi2,hz⟩, g29, hS5⟩
 simp (disch := omega) only [↓RA, RB, simprocAttr, hn, g28, g29]
 refine gT (fun q1 => ?_) (fun q1 => ?_)
 ·have key : lW ks.length cs i ≠ 0 → sH ks cs = lW ks.length cs i := fun hne => by rw [hE, nN _ _ i (by omega) hne hz]
  simp (disch := omega) only [↓RA, RZ, simprocAttr, hn, g27, g29, (hS5.sl hc).idx, (hS5.sl hc).aj, Cpl.cells, q1]
  refine hS5.eNew 5 [(.string ⟨#[]⟩), I 0, I 0, I 0, (.bool false)] rfl rfl rfl sK fun A2 H6 hS6 => ?_
  simp only [RT] at hS6
  simp (disch := omega) only [↓RA, RZ, simprocAttr, hn, q1]
  refine hS6.aa 0 rfl [(.string (gU cs i).name), I (gU cs i).src, I (gU cs i).dst, I (gU cs i).shift, (.bool (gU cs i).thr)] rfl rfl sK (by simp) fun H7 hS7 => ?_
  simp only [RT] at hS7
  simp (disch := omega) only [↓RA, RZ, simprocAttr, hn, hS7.ld 0 rfl, q1]
  refine hS7.cF (pD _) fun H8 hS8 => ?_
  simp (disch := omega) only [↓RA, RZ, simprocAttr, hn, q1]
  refine jD (fun q2 => ?_) (fun q2 => ?_)
  ·have e1 : lW ks.length cs i = 8 := by unfold lW; simp only; rw [if_pos (by simpa using q2)]
   simp (disch := omega) only [↓RA, RZ, simprocAttr, hn, yY, q1, q2]
   exact ⟨by rw [key (by rw [e1]; decide), e1], hS8.forget⟩
  have q2' : ¬ kJ (gU cs i).name = false := by simpa using q2
  simp (disch := omega) only [↓RA, RZ, simprocAttr, hn, g1, (hS8.sl hc).aQ, q1, q2]
  have hA := hS8.var 0 rfl
  refine hS8.cF (b5K _ (cs.take i) ((hS8.sl hc).cu i (by omega) (by omega)) (by simp; omega) 113 [ptr A2 0 5] (fun j => decide ((gU (cs.take i) j).name = (gU cs i).name)) (fun j H1 hj hS' => a7A _ A2 (gU cs i) (hS'.va hA))) fun H9 hS9 => ?_
  have hx : 0 ≤ pO (fun j => decide ((gU (cs.take i) j).name = (gU cs i).name)) (cs.take i).length ↔ ∃ q, q < i ∧ (gU cs q).name = (gU cs i).name := by
   rw [a0j]
   constructor
   ·rintro ⟨j, hj, hp⟩
    have hj' : j < i := by simp at hj; omega
    exact ⟨j, hj', by rw [← a5j cs i j hj']; exact of_decide_eq_true hp⟩
   ·rintro ⟨j, hj, hp⟩
    exact ⟨j, by simp; omega, decide_eq_true (by rw [a5j cs i j hj]; exact hp)⟩
  simp (disch := omega) only [↓RA, RZ, simprocAttr, hn, q1, q2]
  refine gT (fun q3 => ?_) (fun q3 => ?_)
  ·have e1 : lW ks.length cs i = 9 := by unfold lW; simp only; rw [if_neg q2', if_pos (hx.1 q3)]
   simp (disch := omega) only [↓RA, RZ, simprocAttr, hn, yY, q1, q2, q3]
   exact ⟨by rw [key (by rw [e1]; decide), e1], hS9.forget⟩
  have q3' : ¬ ∃ q, q < i ∧ (gU cs q).name = (gU cs i).name := fun hh => q3 (hx.2 hh)
  have hC : lW ks.length cs i = if (gU cs i).src < 0 ∨ ks.length ≤ (gU cs i).src ∨ (gU cs i).dst < 0 ∨ ks.length ≤ (gU cs i).dst then 10 else if (gU cs i).shift < -127 ∨ 127 < (gU cs i).shift then 3 else if (gU cs i).src = (gU cs i).dst ∧ (gU cs i).shift = 0 then 7 else 0 := by
   unfold lW; simp only; rw [if_neg q2', if_neg q3']
  clear hx
  simp (disch := omega) only [↓RA, RZ, simprocAttr, hn, hS9.ld 0 rfl, q1, q2, q3]
  refine iD (fun h1 => ?_) (fun h1 => ?_)
  ·simp (disch := omega) only [↓RA, RZ, simprocAttr, hn, yY, q1, q2, q3, h1]
   (first | (have e1 : lW ks.length cs i = 10 := by rw [hC, if_pos (by omega)]); exact ⟨by rw [key (by rw [e1]; decide), e1], hS9.forget⟩ | (have e1 : lW ks.length cs i = 3 := by rw [hC, if_neg (by omega), if_pos (by omega)]); exact ⟨by rw [key (by rw [e1]; decide), e1], hS9.forget⟩ | (have e1 : lW ks.length cs i = 7 := by rw [hC, if_neg (by omega), if_neg (by omega), if_pos (by omega)]); exact ⟨by rw [key (by rw [e1]; decide), e1], hS9.forget⟩)
  simp (disch := omega) only [↓RA, RZ, simprocAttr, hn, g0, hS9.ld 0 rfl, (hS9.sl hk).len, q1, q2, q3, h1]
  refine iD (fun h2 => ?_) (fun h2 => ?_)
  ·simp (disch := omega) only [↓RA, RZ, simprocAttr, hn, yY, q1, q2, q3, h1, h2]
   (first | (have e1 : lW ks.length cs i = 10 := by rw [hC, if_pos (by omega)]); exact ⟨by rw [key (by rw [e1]; decide), e1], hS9.forget⟩ | (have e1 : lW ks.length cs i = 3 := by rw [hC, if_neg (by omega), if_pos (by omega)]); exact ⟨by rw [key (by rw [e1]; decide), e1], hS9.forget⟩ | (have e1 : lW ks.length cs i = 7 := by rw [hC, if_neg (by omega), if_neg (by omega), if_pos (by omega)]); exact ⟨by rw [key (by rw [e1]; decide), e1], hS9.forget⟩)
  simp (disch := omega) only [↓RA, RZ, simprocAttr, hn, hS9.ld 0 rfl, q1, q2, q3, h1, h2]
  refine iD (fun h3 => ?_) (fun h3 => ?_)
  ·simp (disch := omega) only [↓RA, RZ, simprocAttr, hn, yY, q1, q2, q3, h1, h2, h3]
   (first | (have e1 : lW ks.length cs i = 10 := by rw [hC, if_pos (by omega)]); exact ⟨by rw [key (by rw [e1]; decide), e1], hS9.forget⟩ | (have e1 : lW ks.length cs i = 3 := by rw [hC, if_neg (by omega), if_pos (by omega)]); exact ⟨by rw [key (by rw [e1]; decide), e1], hS9.forget⟩ | (have e1 : lW ks.length cs i = 7 := by rw [hC, if_neg (by omega), if_neg (by omega), if_pos (by omega)]); exact ⟨by rw [key (by rw [e1]; decide), e1], hS9.forget⟩)
  simp (disch := omega) only [↓RA, RZ, simprocAttr, hn, g0, hS9.ld 0 rfl, (hS9.sl hk).len, q1, q2, q3, h1, h2, h3]
  refine gT (fun h4 => ?_) (fun h4 => ?_)
  ·simp (disch := omega) only [↓RA, RZ, simprocAttr, hn, yY, q1, q2, q3, h1, h2, h3, h4]
   (first | (have e1 : lW ks.length cs i = 10 := by rw [hC, if_pos (by omega)]); exact ⟨by rw [key (by rw [e1]; decide), e1], hS9.forget⟩ | (have e1 : lW ks.length cs i = 3 := by rw [hC, if_neg (by omega), if_pos (by omega)]); exact ⟨by rw [key (by rw [e1]; decide), e1], hS9.forget⟩ | (have e1 : lW ks.length cs i = 7 := by rw [hC, if_neg (by omega), if_neg (by omega), if_pos (by omega)]); exact ⟨by rw [key (by rw [e1]; decide), e1], hS9.forget⟩)
  simp (disch := omega) only [↓RA, RZ, simprocAttr, hn, hS9.ld 0 rfl, q1, q2, q3, h1, h2, h3, h4]
  refine iD (fun h5 => ?_) (fun h5 => ?_)
  ·simp (disch := omega) only [↓RA, RZ, simprocAttr, hn, yY, q1, q2, q3, h1, h2, h3, h4, h5]
   (first | (have e1 : lW ks.length cs i = 10 := by rw [hC, if_pos (by omega)]); exact ⟨by rw [key (by rw [e1]; decide), e1], hS9.forget⟩ | (have e1 : lW ks.length cs i = 3 := by rw [hC, if_neg (by omega), if_pos (by omega)]); exact ⟨by rw [key (by rw [e1]; decide), e1], hS9.forget⟩ | (have e1 : lW ks.length cs i = 7 := by rw [hC, if_neg (by omega), if_neg (by omega), if_pos (by omega)]); exact ⟨by rw [key (by rw [e1]; decide), e1], hS9.forget⟩)
  simp (disch := omega) only [↓RA, RZ, simprocAttr, hn, hS9.ld 0 rfl, q1, q2, q3, h1, h2, h3, h4, h5]
  refine gT (fun h6 => ?_) (fun h6 => ?_)
  ·simp (disch := omega) only [↓RA, RZ, simprocAttr, hn, yY, q1, q2, q3, h1, h2, h3, h4, h5, h6]
   (first | (have e1 : lW ks.length cs i = 10 := by rw [hC, if_pos (by omega)]); exact ⟨by rw [key (by rw [e1]; decide), e1], hS9.forget⟩ | (have e1 : lW ks.length cs i = 3 := by rw [hC, if_neg (by omega), if_pos (by omega)]); exact ⟨by rw [key (by rw [e1]; decide), e1], hS9.forget⟩ | (have e1 : lW ks.length cs i = 7 := by rw [hC, if_neg (by omega), if_neg (by omega), if_pos (by omega)]); exact ⟨by rw [key (by rw [e1]; decide), e1], hS9.forget⟩)
  simp (disch := omega) only [↓RA, RZ, simprocAttr, hn, hS9.ld 0 rfl, q1, q2, q3, h1, h2, h3, h4, h5, h6]
  refine jB (fun h7 => ?_) (fun h7 => ?_)
  ·simp (disch := omega) only [↓RA, RZ, simprocAttr, hn, hS9.ld 0 rfl, q1, q2, q3, h3, h4, h5, h6, h7]
   refine gT (fun h8 => ?_) (fun h8 => ?_)
   ·simp (disch := omega) only [↓RA, RZ, simprocAttr, hn, yY, q1, q2, q3, h3, h4, h7, h8]
    (first | (have e1 : lW ks.length cs i = 10 := by rw [hC, if_pos (by omega)]); exact ⟨by rw [key (by rw [e1]; decide), e1], hS9.forget⟩ | (have e1 : lW ks.length cs i = 3 := by rw [hC, if_neg (by omega), if_pos (by omega)]); exact ⟨by rw [key (by rw [e1]; decide), e1], hS9.forget⟩ | (have e1 : lW ks.length cs i = 7 := by rw [hC, if_neg (by omega), if_neg (by omega), if_pos (by omega)]); exact ⟨by rw [key (by rw [e1]; decide), e1], hS9.forget⟩)
   simp (disch := omega) only [↓RA, RZ, simprocAttr, hn, g0, g1, g27, g28, g29, q1, q2, q3, h3, h4, h5, h6, h7, h8]
   have e0 : lW ks.length cs i = 0 := by rw [hC, if_neg (by omega), if_neg (by omega), if_neg (by omega)]
   exact ⟨n - 1, by omega, i + 1, ⟨by omega, fun j hj => by rcases de.1 hj with e | e; (· exact hz j e); (· rw [e]; exact e0)⟩, by simp, hS9.sub (by simp)⟩
  simp (disch := omega) only [↓RA, RZ, simprocAttr, hn, g0, g1, g27, g28, g29, q1, q2, q3, h1, h2, h3, h4, h5, h6, h7]
  have e0 : lW ks.length cs i = 0 := by rw [hC, if_neg (by omega), if_neg (by omega), if_neg (by omega)]
  exact ⟨n - 1, by omega, i + 1, ⟨by omega, fun j hj => by rcases de.1 hj with e | e; (· exact hz j e); (· rw [e]; exact e0)⟩, by simp, hS9.sub (by simp)⟩
 simp (disch := omega) only [↓RA, RZ, simprocAttr, hn, yY, q1]
 exact ⟨by rw [hE, kG _ _ fun j hj => hz j (by omega)], hS5.forget⟩
def nX (rs : List Rk) (lo hi : Int) (l : List Stp) (j : Nat) : Int := if stopE rs lo hi (gU l j) ≠ 0 then stopE rs lo hi (gU l j) else if ∃ q, q < j ∧ (gU l q).name = (gU l j).name then 9 else 0
def divE (rs : List Rk) (d : Dvn) : Int := if pQ d.lo d.hi ≠ 0 then pQ d.lo d.hi else if 60 < d.stops.length then 4 else kY (nX rs d.lo d.hi d.stops) d.stops.length
theorem xU {kvs kvs' : List (ByteArray × Bool)} {f : Nat → ByteArray} {i : Nat} (h : ∀ t, oU kvs t = true ↔ ∃ q, q < i ∧ f q = t) (h' : ∀ t, oU kvs' t = (oU kvs t || decide (t = f i))) : ∀ t, oU kvs' t = true ↔ ∃ q, q < i + 1 ∧ f q = t := by
 intro t
 rw [h', dX, h, decide_eq_true_iff]
 constructor
 ·rintro (⟨q, hq, e⟩ | e)
  ·exact ⟨q, by omega, e⟩
  ·exact ⟨i, by omega, e.symm⟩
 ·rintro ⟨q, hq, e⟩
  rcases de.1 hq with hh | hh
  ·exact .inl ⟨q, hh, e⟩
  ·right; rw [← e, hh]
theorem a0A (t : ByteArray) : oU [] t = false := rfl
theorem c0V (o : Org) (ho : o.In H) (d : Dvn) (hd : d.In H) :
 Fn prog 76 [.agg #[.string o.name, o.rv, o.dv, o.cv], .agg #[.string d.name, .bool d.pedal, I d.lo, I d.hi, d.sv]] H fun v H' => v = I (divE o.ranks d) ∧ St prog H H' [] := by
 have hl := hd.2.2
 refine .aG func76 rfl (by kernel_rfl) (m := 47) rfl fun l hn g0 g1 => ?_
 simp (disch := omega) only [↓RA, RB, simprocAttr, g0]
 refine (sR H).eNew 4 [(.string o.name), o.rv, o.dv, o.cv] rfl rfl (by simp [OC, ((sR H).sl ho.1).cells.2.1, ((sR H).sl ho.2.2.1).cells.2.1, ((sR H).sl ho.2.2.2.2.1).cells.2.1]) mT fun A1 H1 hS1 => ?_
 simp only [RT] at hS1
 simp (disch := omega) only [↓RA, RB, simprocAttr, g1]
 refine hS1.eNew 5 [(.string d.name), (.bool d.pedal), I d.lo, I d.hi, d.sv] rfl rfl (by simp [OC, (hS1.sl hd.1).cells.2.1]) sB fun A2 H2 hS2 => ?_
 simp only [RT] at hS2
 simp (disch := omega) only [↓RA, RZ, simprocAttr, hn, hS2.aj 1 rfl]
 refine hS2.cF (a0o d.lo d.hi) fun H3 hS3 => ?_
 simp (disch := omega) only [↓RA, RB, simprocAttr, hn]
 refine gT (fun p1 => ?_) (fun p1 => ?_)
 ·simp (disch := omega) only [↓RA, RZ, simprocAttr, hn, b4v, p1]
  exact ⟨by rw [divE, if_pos p1], hS3.forget⟩
 simp (disch := omega) only [↓RA, RZ, simprocAttr, hn, hS3.ld 1 rfl, (hS3.sl hd.1).len, p1]
 refine gT (fun p2 => ?_) (fun p2 => ?_)
 ·simp (disch := omega) only [↓RA, RZ, simprocAttr, hn, b4v, p1, p2]
  exact ⟨by rw [divE, if_neg p1, if_pos (by omega)], hS3.forget⟩
 have hE : divE o.ranks d = kY (nX o.ranks d.lo d.hi d.stops) d.stops.length := by rw [divE, if_neg p1, if_neg (by omega)]
 simp (disch := omega) only [↓RA, simprocAttr]
 refine hS3.bQ a5b fun M1 H4 hS4 => ?_
 simp only [RT] at hS4
 simp (disch := omega) only [↓RA, RZ, simprocAttr, hn, hS4.ld 1 rfl, (hS4.sl hd.1).len, p1, p2]
 refine Wp.al (fun n l H' => l.length = 47 ∧ get l 2 = (ptr A1 0 4) ∧ get l 3 = (ptr A2 0 5) ∧ get l 6 = (.map (some M1)) ∧ get l 23 = d.sv ∧ get l 24 = I d.stops.length ∧ ∃ (i : Nat) (kvs : List (ByteArray × Bool)), (n + i = d.stops.length ∧ (∀ j, j < i → nX o.ranks d.lo d.hi d.stops j = 0) ∧ (∀ t, oU kvs t = true ↔ ∃ q, q < i ∧ (gU d.stops q).name = t)) ∧ get l 25 = I i ∧ St prog H H' [⟨ptr A1 0 4, 0, [(.string o.name), o.rv, o.dv, o.cv]⟩, ⟨ptr A2 0 5, 0, [(.string d.name), (.bool d.pedal), I d.lo, I d.hi, d.sv]⟩, ⟨.map (some M1), 0, KS kvs⟩]) d.stops.length ?_ ?_
 ·simp (disch := omega) only [RB, RC, simprocAttr, hn]
  exact ⟨0, [], ⟨by omega, by simp, by simp [a0A]⟩, rfl, hS4⟩
 rintro n l H5 ⟨hn, g2, g3, g6, g23, g24, i, kvs, ⟨hi1,hz,hk⟩, g25, hS5⟩
 simp (disch := omega) only [↓RA, RB, simprocAttr, hn, g24, g25]
 refine gT (fun q1 => ?_) (fun q1 => ?_)
 ·have key : nX o.ranks d.lo d.hi d.stops i ≠ 0 → divE o.ranks d = nX o.ranks d.lo d.hi d.stops i := fun hne => by rw [hE, nN _ _ i (by omega) hne hz]
  simp (disch := omega) only [↓RA, RZ, simprocAttr, hn, g23, g25, (hS5.sl hd.1).idx, (hS5.sl hd.1).aj, Stp.cells, q1]
  refine hS5.eNew 4 [(.string ⟨#[]⟩), I 0, I 0, (.slice none 0 0)] rfl rfl rfl nV fun A3 H6 hS6 => ?_
  simp only [RT] at hS6
  simp (disch := omega) only [↓RA, RZ, simprocAttr, hn, q1]
  refine hS6.aa 3 rfl [(.string (gU d.stops i).name), I (gU d.stops i).num, I (gU d.stops i).den, (gU d.stops i).gv] rfl (by simp [OC, (hS6.sl (hd.2.1 (gU d.stops i) (gX (by omega))).1).cells.2.1]) nV (by simp) fun H7 hS7 => ?_
  simp only [RT] at hS7
  simp (disch := omega) only [↓RA, RZ, simprocAttr, hn, g2, g3, hS7.ld 0 rfl, hS7.aj 1 rfl, b0Y (hS7.sl ho.1).cells, hS7.aj 3 rfl, q1]
  refine hS7.cF (b5H o.rv o.ranks d.lo d.hi (hS7.sl ho.1) (fun r h => (ho.2.1 r h).ai hS7) ho.2.2.2.2.2.1 (gU d.stops i) ((hd.2.1 _ (gX (by omega))).ai hS7)) fun H8 hS8 => ?_
  simp (disch := omega) only [↓RA, RZ, simprocAttr, hn, q1]
  refine gT (fun q2 => ?_) (fun q2 => ?_)
  ·have e1 : nX o.ranks d.lo d.hi d.stops i = stopE o.ranks d.lo d.hi (gU d.stops i) := by rw [nX, if_pos q2]
   simp (disch := omega) only [↓RA, RZ, simprocAttr, hn, b4v, q1, q2]
   exact ⟨by rw [key (by rw [e1]; exact q2), e1], hS8.forget⟩
  simp (disch := omega) only [↓RA, RZ, simprocAttr, hn, g6, hS8.ld 3 rfl, q1, q2]
  have hM1 := hS8.pick (os' := [⟨.map (some M1), 0, _⟩]) [2] (by decide) rfl
  have hR1 := hS8.pick (os' := [⟨.map (some M1), 0, _⟩, ⟨ptr A1 0 4, 0, _⟩, ⟨ptr A2 0 5, 0, _⟩, ⟨ptr A3 0 4, 0, _⟩]) [2, 0, 1, 3] (by decide) rfl
  refine iB (a1C _ M1 kvs (gU d.stops i).name hM1.aF) ?_
  rintro r H9 ⟨rfl, kvs', hk', hT3⟩
  have hS9 := hR1.frame hT3
  simp only [RT] at hS9
  simp (disch := omega) only [↓RA, RZ, simprocAttr, hn, q1, q2]
  refine gT (fun q3 => ?_) (fun q3 => ?_)
  ·have q3' : oU kvs (gU d.stops i).name = true := by
    by_cases hh : oU kvs (gU d.stops i).name = true
    ·exact hh
    ·rw [if_neg hh] at q3; exact absurd rfl q3
   have e1 : nX o.ranks d.lo d.hi d.stops i = 9 := by rw [nX, if_neg q2, if_pos ((hk _).1 q3')]
   simp (disch := omega) only [↓RA, RZ, simprocAttr, hn, b4v, q1, q2, q3]
   exact ⟨by rw [key (by rw [e1]; decide), e1, if_pos q3'], hS9.forget⟩
  have q3' : ¬ oU kvs (gU d.stops i).name = true := fun hh => q3 (by rw [if_pos hh]; decide)
  have e0 : nX o.ranks d.lo d.hi d.stops i = 0 := by rw [nX, if_neg q2, if_neg (fun hh => q3' ((hk _).2 hh))]
  simp (disch := omega) only [↓RA, RZ, simprocAttr, hn, g2, g3, g6, g23, g24, g25, q1, q2, q3]
  exact ⟨n - 1, by omega, i + 1, kvs', ⟨by omega, fun j hj => by rcases de.1 hj with e | e; (· exact hz j e); (· rw [e]; exact e0), xU (f := fun q => (gU d.stops q).name) hk hk'⟩, by simp, hS9.pick [1, 2, 0] (by decide) rfl⟩
 simp (disch := omega) only [↓RA, RZ, simprocAttr, hn, b4v, q1]
 exact ⟨by rw [hE, kG _ _ fun j hj => hz j (by omega)], hS5.forget⟩
def nB (l : List Rk) (j : Nat) : Int := if rankE (gU l j) ≠ 0 then rankE (gU l j) else if ∃ q, q < j ∧ (gU l q).name = (gU l j).name then 9 else 0
def sN (rs : List Rk) (l : List Dvn) (j : Nat) : Int := if kJ (gU l j).name = false then 8 else if ∃ q, q < j ∧ (gU l q).name = (gU l j).name then 9 else divE rs (gU l j)
def kps (l : List Dvn) : List (Int × Int) := l.map fun d => (d.lo, d.hi)
def organE (o : Org) : Int := if kJ o.name = false then 8 else if 60 < o.ranks.length then 4 else if kY (nB o.ranks) o.ranks.length ≠ 0 then kY (nB o.ranks) o.ranks.length else
 if o.dvs.length = 0 then 13 else if 8 < o.dvs.length then 4 else if kY (sN o.ranks o.dvs) o.dvs.length ≠ 0 then kY (sN o.ranks o.dvs) o.dvs.length else sH (kps o.dvs) o.cpls
theorem uI (k : Int × Int) : (kpc k).length = 2 := rfl
theorem b3V (l : List Dvn) (i : Nat) (h : i < l.length) : (kps (l.take (i + 1))).flatMap kpc = (kps (l.take i)).flatMap kpc ++ [I (gU l i).lo, I (gU l i).hi] := by
 unfold kps
 rw [a2j l i h, dM, dG]
 rfl
theorem a1B (o : Org) (ho : o.In H) : Fn prog 35 [.agg #[.string o.name, o.rv, o.dv, o.cv]] H fun v H' => v = I (organE o) ∧ St prog H H' [] := by
 have hlr := ho.2.2.2.2.2.1
 have hld := ho.2.2.2.2.2.2.1
 have hlc := ho.2.2.2.2.2.2.2
 refine .aR func35 rfl (by kernel_rfl) (m := 89) rfl fun l hn g0 => ?_
 simp (disch := omega) only [↓RA, RB, simprocAttr, g0]
 refine (sR H).eNew 4 [(.string o.name), o.rv, o.dv, o.cv] rfl rfl (by simp [OC, ((sR H).sl ho.1).cells.2.1, ((sR H).sl ho.2.2.1).cells.2.1, ((sR H).sl ho.2.2.2.2.1).cells.2.1]) mT fun A1 H1 hS1 => ?_
 simp only [RT] at hS1
 simp (disch := omega) only [↓RA, RZ, simprocAttr, hn, hS1.ld 0 rfl]
 refine hS1.cF (pD _) fun H2 hS2 => ?_
 simp (disch := omega) only [↓RA, RB, simprocAttr, hn]
 refine jD (fun p1 => ?_) (fun p1 => ?_)
 ·simp (disch := omega) only [↓RA, RB, simprocAttr, hn, a2p, p1]
  exact ⟨by rw [organE, if_pos (by simpa using p1)], hS2.forget⟩
 have p1' : ¬ kJ o.name = false := by simpa using p1
 simp (disch := omega) only [↓RA, RZ, simprocAttr, hn, hS2.ld 0 rfl, (hS2.sl ho.1).len, p1]
 refine gT (fun p2 => ?_) (fun p2 => ?_)
 ·simp (disch := omega) only [↓RA, RZ, simprocAttr, hn, a2p, p1, p2]
  exact ⟨by rw [organE, if_neg p1', if_pos (by omega)], hS2.forget⟩
 simp (disch := omega) only [↓RA, simprocAttr]
 refine hS2.bQ a5b fun M1 H3 hS3 => ?_
 simp only [RT] at hS3
 simp (disch := omega) only [↓RA, RZ, simprocAttr, hn, hS3.ld 0 rfl, (hS3.sl ho.1).len, p1, p2]
 refine Wp.al (fun n l H' => l.length = 89 ∧ get l 1 = (ptr A1 0 4) ∧ get l 3 = (.map (some M1)) ∧ get l 25 = o.rv ∧ get l 26 = I o.ranks.length ∧ ∃ (i : Nat) (kvs : List (ByteArray × Bool)), (n + i = o.ranks.length ∧ (∀ j, j < i → nB o.ranks j = 0) ∧ (∀ t, oU kvs t = true ↔ ∃ q, q < i ∧ (gU o.ranks q).name = t)) ∧ get l 27 = I i ∧ St prog H H' [⟨ptr A1 0 4, 0, [(.string o.name), o.rv, o.dv, o.cv]⟩, ⟨.map (some M1), 0, KS kvs⟩]) o.ranks.length ?_ ?_
 ·simp (disch := omega) only [RB, RC, simprocAttr, hn]
  exact ⟨0, [], ⟨by omega, by simp, by simp [a0A]⟩, rfl, hS3⟩
 rintro n l H4 ⟨hn, g1, g3, g25, g26, i, kvs, ⟨hi1,hz,hk⟩, g27, hS4⟩
 simp (disch := omega) only [↓RA, RB, simprocAttr, hn, g26, g27]
 refine gT (fun q1 => ?_) (fun q1 => ?_)
 ·have key : nB o.ranks i ≠ 0 → organE o = nB o.ranks i := fun hne => by rw [organE, if_neg p1', if_neg (by omega), nN _ _ i (by omega) hne hz, if_pos hne]
  simp (disch := omega) only [↓RA, RZ, simprocAttr, hn, g25, g27, (hS4.sl ho.1).idx, (hS4.sl ho.1).aj, Rk.cells, q1]
  refine hS4.eNew 6 [(.string ⟨#[]⟩), (.string ⟨#[]⟩), I 0, I 0, I 0, (.slice none 0 0)] rfl rfl rfl wT fun A2 H5 hS5 => ?_
  simp only [RT] at hS5
  simp (disch := omega) only [↓RA, RZ, simprocAttr, hn, q1]
  refine hS5.aa 2 rfl [(.string (gU o.ranks i).name), (.string (gU o.ranks i).tone), I (gU o.ranks i).num, I (gU o.ranks i).den, I (gU o.ranks i).first, (gU o.ranks i).wv] rfl (by simp [OC, (hS5.sl (ho.2.1 (gU o.ranks i) (gX (by omega))).1).cells.2.1]) wT (by simp) fun H6 hS6 => ?_
  simp only [RT] at hS6
  simp (disch := omega) only [↓RA, RZ, simprocAttr, hn, hS6.aj 2 rfl, q1]
  refine hS6.cF (a9z (gU o.ranks i) ((ho.2.1 _ (gX (by omega))).ai hS6)) fun H7 hS7 => ?_
  simp (disch := omega) only [↓RA, RZ, simprocAttr, hn, q1]
  refine gT (fun q2 => ?_) (fun q2 => ?_)
  ·have e1 : nB o.ranks i = rankE (gU o.ranks i) := by rw [nB, if_pos q2]
   simp (disch := omega) only [↓RA, RZ, simprocAttr, hn, a2p, q1, q2]
   exact ⟨by rw [key (by rw [e1]; exact q2), e1], hS7.forget⟩
  simp (disch := omega) only [↓RA, RZ, simprocAttr, hn, g3, hS7.ld 2 rfl, q1, q2]
  have hM1 := hS7.pick (os' := [⟨.map (some M1), 0, _⟩]) [1] (by decide) rfl
  have hR1 := hS7.pick (os' := [⟨.map (some M1), 0, _⟩, ⟨ptr A1 0 4, 0, _⟩, ⟨ptr A2 0 6, 0, _⟩]) [1, 0, 2] (by decide) rfl
  refine iB (a1C _ M1 kvs (gU o.ranks i).name hM1.aF) ?_
  rintro r H8 ⟨rfl, kvs', hk', hT3⟩
  have hS8 := hR1.frame hT3
  simp only [RT] at hS8
  simp (disch := omega) only [↓RA, RZ, simprocAttr, hn, q1, q2]
  refine gT (fun q3 => ?_) (fun q3 => ?_)
  ·have q3' : oU kvs (gU o.ranks i).name = true := by
    by_cases hh : oU kvs (gU o.ranks i).name = true
    ·exact hh
    ·rw [if_neg hh] at q3; exact absurd rfl q3
   have e1 : nB o.ranks i = 9 := by rw [nB, if_neg q2, if_pos ((hk _).1 q3')]
   simp (disch := omega) only [↓RA, RZ, simprocAttr, hn, a2p, q1, q2, q3]
   exact ⟨by rw [key (by rw [e1]; decide), e1, if_pos q3'], hS8.forget⟩
  have q3' : ¬ oU kvs (gU o.ranks i).name = true := fun hh => q3 (by rw [if_pos hh]; decide)
  have e0 : nB o.ranks i = 0 := by rw [nB, if_neg q2, if_neg (fun hh => q3' ((hk _).2 hh))]
  simp (disch := omega) only [↓RA, RZ, simprocAttr, hn, g1, g3, g25, g26, g27, q1, q2, q3]
  exact ⟨n - 1, by omega, i + 1, kvs', ⟨by omega, fun j hj => by rcases de.1 hj with e | e; (· exact hz j e); (· rw [e]; exact e0), xU (f := fun q => (gU o.ranks q).name) hk hk'⟩, by simp, hS8.pick [1, 0] (by decide) rfl⟩
 have hR : kY (nB o.ranks) o.ranks.length = 0 := kG _ _ fun j hj => hz j (by omega)
 clear hk hz
 simp (disch := omega) only [↓RA, RZ, simprocAttr, hn, g1, hS4.ld 0 rfl, (hS4.sl ho.2.2.1).len, q1]
 refine gT (fun p4 => ?_) (fun p4 => ?_)
 ·simp (disch := omega) only [↓RA, RZ, simprocAttr, hn, a2p, q1, p4]
  exact ⟨by rw [organE, if_neg p1', if_neg (by omega), if_neg (by rw [hR]; simp), if_pos (by omega)], hS4.forget⟩
 simp (disch := omega) only [↓RA, RZ, simprocAttr, hn, g1, hS4.ld 0 rfl, (hS4.sl ho.2.2.1).len, q1, p4]
 refine gT (fun p5 => ?_) (fun p5 => ?_)
 ·simp (disch := omega) only [↓RA, RZ, simprocAttr, hn, a2p, q1, p4, p5]
  exact ⟨by rw [organE, if_neg p1', if_neg (by omega), if_neg (by rw [hR]; simp), if_neg (by omega), if_pos (by omega)], hS4.forget⟩
 have hE : organE o = if kY (sN o.ranks o.dvs) o.dvs.length ≠ 0 then kY (sN o.ranks o.dvs) o.dvs.length else sH (kps o.dvs) o.cpls := by
  rw [organE, if_neg p1', if_neg (by omega), if_neg (by rw [hR]; simp), if_neg (by omega), if_neg (by omega)]
 clear hR
 simp (disch := omega) only [↓RA, simprocAttr]
 refine hS4.bQ a5b fun M2 H9 hS9 => ?_
 simp only [RT] at hS9
 simp (disch := omega) only [↓RA, RZ, simprocAttr, hn, g1, hS9.ld 0 rfl, (hS9.sl ho.2.2.1).len, q1, p4, p5]
 have hS10 := hS9.pick (os' := [⟨ptr A1 0 4, 0, _⟩, ⟨.map (some M2), 0, _⟩]) [0, 2] (by decide) rfl
 have hS11 := hS10.nil 1
 simp only [RT] at hS11
 refine Wp.al (fun n l H' => l.length = 89 ∧ get l 1 = (ptr A1 0 4) ∧ get l 3 = (.map (some M2)) ∧ get l 56 = o.dv ∧ get l 57 = I o.dvs.length ∧ ∃ (i : Nat) (kvs : List (ByteArray × Bool)) (w : Value), (n + i = o.dvs.length ∧ (∀ j, j < i → sN o.ranks o.dvs j = 0) ∧ (∀ t, oU kvs t = true ↔ ∃ q, q < i ∧ (gU o.dvs q).name = t)) ∧ get l 58 = I i ∧ get l 8 = w ∧ St prog H H' [⟨ptr A1 0 4, 0, [(.string o.name), o.rv, o.dv, o.cv]⟩, ⟨.map (some M2), 0, KS kvs⟩, ⟨w, 2, (kps (o.dvs.take i)).flatMap kpc⟩]) o.dvs.length ?_ ?_
 ·simp (disch := omega) only [RB, RC, simprocAttr, hn, g1]
  exact ⟨0, [], _, ⟨by omega, by simp, by simp [a0A]⟩, rfl, rfl, hS11⟩
 rintro n l H10 ⟨hn, g1, g3, g56, g57, i, kvs, w, ⟨hi1,hz,hk⟩, g58, g8, hS12⟩
 simp (disch := omega) only [↓RA, RB, simprocAttr, hn, g57, g58]
 refine gT (fun q1 => ?_) (fun q1 => ?_)
 ·have key : sN o.ranks o.dvs i ≠ 0 → organE o = sN o.ranks o.dvs i := fun hne => by rw [hE, nN _ _ i (by omega) hne hz, if_pos hne]
  simp (disch := omega) only [↓RA, RZ, simprocAttr, hn, g56, g58, (hS12.sl ho.2.2.1).idx, (hS12.sl ho.2.2.1).aj, Dvn.cells, q1]
  refine hS12.eNew 5 [(.string ⟨#[]⟩), (.bool false), I 0, I 0, (.slice none 0 0)] rfl rfl rfl sB fun A3 H11 hS13 => ?_
  simp only [RT] at hS13
  simp (disch := omega) only [↓RA, RZ, simprocAttr, hn, q1]
  refine hS13.aa 3 rfl [(.string (gU o.dvs i).name), (.bool (gU o.dvs i).pedal), I (gU o.dvs i).lo, I (gU o.dvs i).hi, (gU o.dvs i).sv] rfl (by simp [OC, (hS13.sl (ho.2.2.2.1 (gU o.dvs i) (gX (by omega))).1).cells.2.1]) sB (by simp) fun H12 hS14 => ?_
  simp only [RT] at hS14
  simp (disch := omega) only [↓RA, RZ, simprocAttr, hn, hS14.ld 3 rfl, q1]
  refine hS14.cF (pD _) fun H13 hS15 => ?_
  simp (disch := omega) only [↓RA, RZ, simprocAttr, hn, q1]
  refine jD (fun q2 => ?_) (fun q2 => ?_)
  ·have e1 : sN o.ranks o.dvs i = 8 := by rw [sN, if_pos (by simpa using q2)]
   simp (disch := omega) only [↓RA, RZ, simprocAttr, hn, a2p, q1, q2]
   exact ⟨by rw [key (by rw [e1]; decide), e1], hS15.forget⟩
  have q2' : ¬ kJ (gU o.dvs i).name = false := by simpa using q2
  simp (disch := omega) only [↓RA, RZ, simprocAttr, hn, g3, hS15.ld 3 rfl, q1, q2]
  have hM2 := hS15.pick (os' := [⟨.map (some M2), 0, _⟩]) [1] (by decide) rfl
  have hR2 := hS15.pick (os' := [⟨.map (some M2), 0, _⟩, ⟨ptr A1 0 4, 0, _⟩, ⟨w, 2, _⟩, ⟨ptr A3 0 5, 0, _⟩]) [1, 0, 2, 3] (by decide) rfl
  refine iB (a1C _ M2 kvs (gU o.dvs i).name hM2.aF) ?_
  rintro r H14 ⟨rfl, kvs', hk', hT5⟩
  have hS16 := hR2.frame hT5
  simp only [RT] at hS16
  simp (disch := omega) only [↓RA, RZ, simprocAttr, hn, q1, q2]
  refine gT (fun q3 => ?_) (fun q3 => ?_)
  ·have q3' : oU kvs (gU o.dvs i).name = true := by
    by_cases hh : oU kvs (gU o.dvs i).name = true
    ·exact hh
    ·rw [if_neg hh] at q3; exact absurd rfl q3
   have e1 : sN o.ranks o.dvs i = 9 := by rw [sN, if_neg q2', if_pos ((hk _).1 q3')]
   simp (disch := omega) only [↓RA, RZ, simprocAttr, hn, a2p, q1, q2, q3]
   exact ⟨by rw [key (by rw [e1]; decide), e1, if_pos q3'], hS16.forget⟩
  have q3' : ¬ oU kvs (gU o.dvs i).name = true := fun hh => q3 (by rw [if_pos hh]; decide)
  simp (disch := omega) only [↓RA, RZ, simprocAttr, hn, g1, hS16.aj 1 rfl, hS16.aj 3 rfl, q1, q2, q3]
  refine hS16.cF (c0V o (ho.ai hS16) (gU o.dvs i) ((ho.2.2.2.1 _ (gX (by omega))).ai hS16)) fun H15 hS17 => ?_
  have e0 : sN o.ranks o.dvs i = divE o.ranks (gU o.dvs i) := by rw [sN, if_neg q2', if_neg (fun hh => q3' ((hk _).2 hh))]
  simp (disch := omega) only [↓RA, RZ, simprocAttr, hn, q1, q2, q3]
  refine gT (fun q4 => ?_) (fun q4 => ?_)
  ·simp (disch := omega) only [↓RA, RZ, simprocAttr, hn, a2p, q1, q2, q3, q4]
   exact ⟨by rw [key (by rw [e0]; exact q4), e0], hS17.forget⟩
  have e2 : sN o.ranks o.dvs i = 0 := by rw [e0]; exact dA.1 q4
  simp (disch := omega) only [↓RA, RZ, simprocAttr, hn, g8, hS17.aj 3 rfl, q1, q2, q3, q4]
  refine hS17.ae [I (gU o.dvs i).lo, I (gU o.dvs i).hi] b8V c2n rfl rfl (by simp [Value.cells]) rfl rfl (by decide) (by decide) fun w1 H16 hS18 => ?_
  simp only [RT] at hS18
  simp (disch := omega) only [↓RA, RZ, simprocAttr, hn, q1, q2, q3, q4]
  refine hS18.aq 2 rfl (hS18.rd 4 rfl) b8V (by rw [iL uI]; simp [kps]; omega) fun w2 H17 hS19 => ?_
  simp only [RT] at hS19
  simp (disch := omega) only [↓RA, RZ, simprocAttr, hn, g1, g3, g56, g57, g58, q1, q2, q3, q4]
  refine ⟨n - 1, by omega, i + 1, kvs', _, ⟨by omega, fun j hj => by rcases de.1 hj with e | e; (· exact hz j e); (· rw [e]; exact e2), xU (f := fun q => (gU o.dvs q).name) hk hk'⟩, by simp, rfl, ?_⟩
  rw [b3V _ _ (by omega)]
  exact hS19.pick [1, 0, 2] (by decide) rfl
 have hD : kY (sN o.ranks o.dvs) o.dvs.length = 0 := kG _ _ fun j hj => hz j (by omega)
 have hi : i = o.dvs.length := by omega
 subst hi
 rw [eo] at hS12
 simp (disch := omega) only [↓RA, RZ, simprocAttr, hn, g1, g8, hS12.ld 0 rfl, q1]
 refine hS12.cF (a6j w o.cv (kps o.dvs) o.cpls (hS12.ax 2 rfl uI) (hS12.sl ho.2.2.2.2.1) (by simp [kps]; omega) hlc) fun H18 hS20 => ?_
 simp (disch := omega) only [↓RA, RZ, simprocAttr, hn, a2p, q1]
 exact ⟨by rw [hE, if_neg (by rw [hD]; simp)], hS20.forget⟩
def kK : List (Int × Int) := [(8, 1), (4, 1), (16, 1), (8, 3), (2, 1), (8, 5)]
def lG : List (Int × Int) := [(8, 1), (4, 1), (16, 1), (2, 1), (8, 3), (8, 5), (4, 3), (1, 1), (32, 1), (16, 3), (16, 5), (32, 3), (8, 7), (2, 3), (1, 2), (64, 1)]
theorem a5S (k : Nat) : Fn prog 88 [.int .u8 k] H fun r H' => r = .agg #[I (gU kK (k % 6)).1, I (gU kK (k % 6)).2] ∧ St prog H H' [] := by
 refine .aR func88 rfl (by kernel_rfl) (m := 14) rfl fun l hn g0 => ?_
 simp (disch := omega) only [↓RA, RZ, simprocAttr]
 refine (sR H).eNew 2 [I 0, I 0] rfl rfl rfl yM fun A1 H1 hS1 => ?_
 simp only [RT] at hS1
 simp (disch := omega) only [↓RA, RB, simprocAttr, hn, sT]
 refine hS1.ae [I 8, I 1, I 4, I 1, I 16, I 1, I 8, I 3, I 2, I 1, I 8, I 5] b8H b8n rfl rfl (by simp [Value.cells]) rfl rfl (by decide) (by decide) fun w1 H2 hS2 => ?_
 simp only [RT] at hS2
 simp (disch := omega) only [↓RA, RZ, simprocAttr, hn, g0]
 have hR : St prog H H2 [⟨ptr A1 0 2, 0, _⟩, ⟨w1, 2, kK.flatMap kpc⟩] := hS2
 have hL : kK.length = 6 := rfl
 have hk : k % 6 < 6 := eF _ (by decide)
 have hk2 : (k : Int).tmod 6 = ((k % 6 : Nat) : Int) := (dT k 6).symm
 try rw [hk2]
 simp (disch := omega) only [↓RA, RZ, simprocAttr, hn, (hR.ax 1 rfl uI).idx, (hR.ax 1 rfl uI).aj, kpc]
 refine hR.aa 0 rfl [I (gU kK (k % 6 : Nat)).1, I (gU kK (k % 6 : Nat)).2] rfl rfl yM (by simp) fun H3 hS3 => ?_
 simp only [RT] at hS3
 simp (disch := omega) only [↓RA, RZ, simprocAttr, hn, c4t, hS3.aj 0 rfl]
 first | exact hS3.forget | exact ⟨rfl, hS3.forget⟩
theorem a6B (k : Nat) : Fn prog 87 [.int .u8 k] H fun r H' => r = .agg #[I (gU lG (k % 16)).1, I (gU lG (k % 16)).2] ∧ St prog H H' [] := by
 refine .aR func87 rfl (by kernel_rfl) (m := 24) rfl fun l hn g0 => ?_
 simp (disch := omega) only [↓RA, RZ, simprocAttr]
 refine (sR H).eNew 2 [I 0, I 0] rfl rfl rfl yM fun A1 H1 hS1 => ?_
 simp only [RT] at hS1
 simp (disch := omega) only [↓RA, RB, simprocAttr, hn, sT]
 refine hS1.ae [I 8, I 1, I 4, I 1, I 16, I 1, I 2, I 1, I 8, I 3, I 8, I 5, I 4, I 3, I 1, I 1, I 32, I 1, I 16, I 3, I 16, I 5, I 32, I 3, I 8, I 7, I 2, I 3, I 1, I 2, I 64, I 1] b8H b8n rfl rfl (by simp [Value.cells]) rfl rfl (by decide) (by decide) fun w1 H2 hS2 => ?_
 simp only [RT] at hS2
 simp (disch := omega) only [↓RA, RZ, simprocAttr, hn, g0]
 have hR : St prog H H2 [⟨ptr A1 0 2, 0, _⟩, ⟨w1, 2, lG.flatMap kpc⟩] := hS2
 have hL : lG.length = 16 := rfl
 have hk : k % 16 < 16 := eF _ (by decide)
 have hk2 : (k : Int).tmod 16 = ((k % 16 : Nat) : Int) := (dT k 16).symm
 try rw [hk2]
 simp (disch := omega) only [↓RA, RZ, simprocAttr, hn, (hR.ax 1 rfl uI).idx, (hR.ax 1 rfl uI).aj, kpc]
 refine hR.aa 0 rfl [I (gU lG (k % 16 : Nat)).1, I (gU lG (k % 16 : Nat)).2] rfl rfl yM (by simp) fun H3 hS3 => ?_
 simp only [RT] at hS3
 simp (disch := omega) only [↓RA, RZ, simprocAttr, hn, c3I, hS3.aj 0 rfl]
 first | exact hS3.forget | exact ⟨rfl, hS3.forget⟩
end Go.Ds
namespace Go.Ds
open Go.Proofs Go.Proofs.Tryz
variable {H : Heap}
set_option maxRecDepth 10000
structure RPl where
 tone : Nat
 feet : Nat
 first : Int
 pipes : Nat
 w0 : Nat
 w1 : Nat
 w2 : Nat
 w3 : Nat
 w4 : Nat
 deriving Inhabited
def RPl.cells (p : RPl) : List Value := [.int .u8 p.tone, .int .u8 p.feet, .int .i8 p.first, .int .u8 p.pipes, .int .u8 p.w0, .int .u8 p.w1, .int .u8 p.w2, .int .u8 p.w3, .int .u8 p.w4]
def RPl.Ok (p : RPl) : Prop := p.tone < 256 ∧ p.feet < 256 ∧ -128 ≤ p.first ∧ p.first < 128 ∧ p.pipes < 256 ∧ p.w0 < 256 ∧ p.w1 < 256 ∧ p.w2 < 256 ∧ p.w3 < 256 ∧ p.w4 < 256
def RPl.wind (p : RPl) (j : Nat) : Nat := gU [p.w0, p.w1, p.w2, p.w3, p.w4] (j % 5)
theorem RPl.Ok.wind {p : RPl} (hp : p.Ok) (j : Nat) : p.wind j < 256 := by
 obtain ⟨_, _, _, _, _, h0, h1, h2, h3, h4⟩ := hp
 have : j % 5 = 0 ∨ j % 5 = 1 ∨ j % 5 = 2 ∨ j % 5 = 3 ∨ j % 5 = 4 := by omega
 unfold RPl.wind
 rcases this with e | e | e | e | e <;> rw [e] <;> assumption
def sL : List ByteArray := [⟨#[79, 112, 101, 110]⟩, ⟨#[70, 108, 117, 116, 101]⟩, ⟨#[82, 101, 101, 100]⟩]
theorem b1v (p : RPl) (hp : p.Ok) (i : Nat) (hi : i < 10) : Fn prog 43 [.agg #[.int .u8 p.tone, .int .u8 p.feet, .int .i8 p.first, .int .u8 p.pipes, .int .u8 p.w0, .int .u8 p.w1, .int .u8 p.w2, .int .u8 p.w3, .int .u8 p.w4], I i] H fun r H' =>
 ∃ wv, r = .agg #[.string ⟨#[82, UInt8.ofNat (48 + i)]⟩, .string (gU sL (p.tone % 3)), I (gU lG (p.feet % 16)).1, I (gU lG (p.feet % 16)).2, I p.first, wv] ∧
   St prog H H' [⟨wv, 1, (List.range (1 + p.pipes % 25)).map fun j => I (p.wind j)⟩] := by
 have hwb := fun j => hp.wind j
 obtain ⟨h1, h2, h3, h4, h5, _⟩ := hp
 refine .aG func43 rfl (by kernel_rfl) (m := 48) rfl fun l hn g0 g1 => ?_
 have hm : (i : Int).tmod 10 = i := ((dT i 10).symm).trans (by rw [gk hi])
 have ht : (p.tone : Int).tmod 3 = ((p.tone % 3 : Nat) : Int) := (dT p.tone 3).symm
 have ht3 : p.tone % 3 < 3 := eF _ (by decide)
 have htl : sL.length = 3 := rfl
 simp (disch := omega) only [↓RA, RB, simprocAttr, g0]
 refine (sR H).eNew 9 [(.int .u8 p.tone), (.int .u8 p.feet), (.int .i8 p.first), (.int .u8 p.pipes), (.int .u8 p.w0), (.int .u8 p.w1), (.int .u8 p.w2), (.int .u8 p.w3), (.int .u8 p.w4)] rfl rfl rfl b4c fun A1 H1 hS1 => ?_
 simp only [RT] at hS1
 simp (disch := omega) only [↓RA, RZ, simprocAttr]
 refine hS1.eNew 6 [(.string ⟨#[]⟩), (.string ⟨#[]⟩), I 0, I 0, I 0, (.slice none 0 0)] rfl rfl rfl wT fun A2 H2 hS2 => ?_
 simp only [RT] at hS2
 simp (disch := omega) only [↓RA, simprocAttr]
 refine Wp.cb jU [13, 14, 15, 16, 17, 18, 0, 1, 2, 3, 4, 5, 6, 7, 8, 9, 10, 11, 12, 19, 20, 21] [6, 7, 8, 9, 10, 11, 12, 13, 14, 15, 16, 17, 18, 0, 1, 2, 3, 4, 5, 19, 20, 21] ⟨true, [], [(11, 10), (17, 13), (18, 13)]⟩ [(4, 0), (5, 0), (9, 0), (15, 0), (15, 3)] (by kernel_rfl) (by kernel_rfl) (by kernel_rfl) ?_
 simp (disch := omega) only [↓RA, RZ, simprocAttr, hn, hS2.ld 0 rfl]
 refine hS2.cF (a6B p.feet) fun H3 hS3 => ?_
 simp (disch := omega) only [↓RA, RZ, simprocAttr, hn, g1, hS3.ld 0 rfl, hm]
 refine hS3.ae [_] a9I a9Y rfl rfl (by simp [Value.cells]) rfl rfl (by decide) (by decide) fun w1 H4 hS4 => ?_
 simp only [RT] at hS4
 simp (disch := omega) only [↓RA, RB, simprocAttr, hn, uF (hS4.rd 2 rfl) mN.1 mN.2.1 mN.2.2, rY]
 refine hS4.ae [(.string ⟨#[79, 112, 101, 110]⟩), (.string ⟨#[70, 108, 117, 116, 101]⟩), (.string ⟨#[82, 101, 101, 100]⟩)] c1Q c3f rfl rfl (by simp [Value.cells]) rfl rfl (by decide) (by decide) fun w2 H5 hS5 => ?_
 simp only [RT] at hS5
 simp (disch := omega) only [↓RA, RZ, simprocAttr, hn, hS5.ld 0 rfl, ht]
 have hR : St prog H H5 [⟨ptr A1 0 9, 0, _⟩, ⟨ptr A2 0 6, 0, _⟩, ⟨w1, 1, _⟩, ⟨w2, 1, sL.flatMap (one Value.string)⟩] := hS5
 simp (disch := omega) only [↓RA, RZ, simprocAttr, hn, (hR.ax 3 rfl (rG _)).idx, (hR.ax 3 rfl (rG _)).ld, one, a3L]
 refine hR.eNew 6 [(.string ⟨#[]⟩), (.string ⟨#[]⟩), I 0, I 0, I 0, (.slice none 0 0)] rfl rfl rfl wT fun A3 H6 hS6 => ?_
 simp only [RT] at hS6
 simp (disch := omega) only [↓RA, RB, simprocAttr, hn]
 refine hS6.aa 4 rfl [(.string ⟨#[82, UInt8.ofNat (48 + (i : Int)).toNat]⟩), (.string (gU sL (p.tone % 3 : Nat))), I (gU lG (p.feet % 16)).1, I (gU lG (p.feet % 16)).2, _, (.slice none 0 0)] rfl rfl wT (by simp) fun H7 hS7 => ?_
 simp only [RT] at hS7
 simp (disch := omega) only [↓RA, RZ, simprocAttr, hn, hS2.ld 0 rfl, hS3.ld 0 rfl]
 have hN : St prog H H7 [⟨ptr A1 0 9, 0, _⟩, ⟨ptr A2 0 6, 0, _⟩, ⟨ptr A3 0 6, 0, [.string ⟨#[82, UInt8.ofNat (48 + (i : Int)).toNat]⟩, .string (gU sL (p.tone % 3)), I (gU lG (p.feet % 16)).1, I (gU lG (p.feet % 16)).2, I p.first, .slice none 0 0]⟩, ⟨.slice none 0 0, 1, []⟩] := (hS7.nil 0).pick [0, 1, 4, 5] (by decide) rfl
 refine Wp.al (fun n l H' => l.length = 48 ∧ get l 2 = (ptr A1 0 9) ∧ get l 4 = (ptr A2 0 6) ∧ get l 5 = (ptr A3 0 6) ∧ ∃ (j : Nat) (wv : Value), (n + j = 1 + p.pipes % 25) ∧ get l 6 = I j ∧ St prog H H' [⟨ptr A1 0 9, 0, [(.int .u8 p.tone), (.int .u8 p.feet), (.int .i8 p.first), (.int .u8 p.pipes), (.int .u8 p.w0), (.int .u8 p.w1), (.int .u8 p.w2), (.int .u8 p.w3), (.int .u8 p.w4)]⟩, ⟨ptr A2 0 6, 0, [(.string ⟨#[]⟩), (.string ⟨#[]⟩), I 0, I 0, I 0, (.slice none 0 0)]⟩, ⟨ptr A3 0 6, 0, [.string ⟨#[82, UInt8.ofNat (48 + (i : Int)).toNat]⟩, .string (gU sL (p.tone % 3)), I (gU lG (p.feet % 16)).1, I (gU lG (p.feet % 16)).2, I p.first, wv]⟩, ⟨wv, 1, (List.range j).map fun q => I (p.wind q)⟩]) (1 + p.pipes % 25) ?_ ?_
 ·simp (disch := omega) only [RB, RC, simprocAttr, hn]
  exact ⟨0, _, by omega, rfl, hN⟩
 rintro n l H8 ⟨hn, g2, g4, g5, j, wv, hj, g6, hS8⟩
 have hpp : (p.pipes : Int).tmod 25 = ((p.pipes % 25 : Nat) : Int) := (dT p.pipes 25).symm
 have hj5 : (j : Int).tmod 5 = ((j % 5 : Nat) : Int) := (dT j 5).symm
 have hw : (p.cells)[4 + j % 5]? = some (.int .u8 (p.wind j)) := by
  have : j % 5 = 0 ∨ j % 5 = 1 ∨ j % 5 = 2 ∨ j % 5 = 3 ∨ j % 5 = 4 := by omega
  unfold RPl.wind
  rcases this with e | e | e | e | e <;> rw [e] <;> rfl
 simp only [RPl.cells] at hw
 have hwj := hwb j
 simp (disch := omega) only [↓RA, RZ, simprocAttr, hn, g2, g6, hS8.ld 0 rfl, hpp]
 refine gT (fun q => ?_) (fun q => ?_)
 ·simp (disch := omega) only [↓RA, RC, simprocAttr, q]
  refine Wp.aT jU [(1, 9)] (by kernel_rfl) (by kernel_rfl) ?_
  simp (disch := omega) only [↓RA, RZ, simprocAttr, hn, g2, g5, g6, hS8.ld 2 rfl, hS8.ld 0 rfl, hw, hj5]
  refine hS8.ae [_] a0N a5H rfl rfl (by simp [Value.cells]) rfl rfl (by decide) (by decide) fun w3 H9 hS9 => ?_
  simp only [RT] at hS9
  simp (disch := omega) only [↓RA, RZ, simprocAttr, hn]
  refine hS9.aq 3 rfl (hS9.rd 4 rfl) a0N (by first | (simp; done) | (simp; omega)) fun w4 H10 hS10 => ?_
  simp only [RT] at hS10
  simp (disch := omega) only [↓RA, RZ, simprocAttr, hn, g5]
  refine hS10.aa 2 rfl [w4] (by rw [(hS10.rd 3 rfl).cells.1]) (by simp [(hS10.rd 3 rfl).cells.2.1]) b7z (by simp) fun H11 hS11 => ?_
  simp only [RT] at hS11
  simp (disch := omega) only [↓RA, RZ, simprocAttr, hn, g2, g4, g5, g6, hS9.ld 2 rfl]
  refine ⟨n - 1, by omega, j + 1, w4, by omega, rfl, ?_⟩
  rw [dS, dM]
  exact hS11.pick [0, 1, 2, 3] (by decide) rfl
 simp (disch := omega) only [↓RA, RZ, simprocAttr, hn, g4, g5, hS8.aj 2 rfl, q]
 refine hS8.aa 1 rfl [(.string ⟨#[82, UInt8.ofNat (48 + (i : Int)).toNat]⟩), (.string (gU sL (p.tone % 3))), I (gU lG (p.feet % 16)).1, I (gU lG (p.feet % 16)).2, I p.first, wv] rfl (by simp [OC, (hS8.rd 3 rfl).cells.2.1]) wT (by simp) fun H12 hS12 => ?_
 simp only [RT] at hS12
 simp (disch := omega) only [↓RA, RZ, simprocAttr, g4, c4f, hS12.aj 1 rfl, q]
 have hjj : j = 1 + p.pipes % 25 := by omega
 subst hjj
 have he : (48 + (i : Int)).toNat = 48 + i := by omega
 exact ⟨wv, by rw [he], hS12.pick [3] (by decide) rfl⟩
end Go.Ds
namespace Go.Ds
open Go.Proofs
variable {P : Program} {H : Heap} {α : Type} {n : Nat} {cel : α → List Value} {v : Value} {xs : List α} {X Y : Nat → Prop}
theorem RdAt.lt {size : Nat} {cs : List Value} (h : RdAt H v size cs) {B : Nat} (hb : jW v = some B) : B < H.length := by
 rcases h with ⟨h1, _⟩ | ⟨A, i, e, row, ty, rw, lo, ver, n, h, _, _, _, _, _, h7⟩
 ·rw [h1] at hb; simp [jW] at hb
 ·rw [h7] at hb
  simp [jW] at hb
  exact hb ▸ jA h
theorem RdAt.cA {H' : Heap} {size : Nat} {cs : List Value} (h : RdAt H v size cs) (hk : ∀ B, jW v = some B → iI H' B = iI H B) : RdAt H' v size cs := by
 rcases h with h | ⟨A, i, e, row, ty, rw, lo, ver, n, h, h2, h3, h4, h5, h6, h7⟩
 ·exact .inl h
 ·exact .inr ⟨A, i, e, row, ty, rw, lo, ver, n, by rw [hk A (by rw [h7]; rfl), h], h2, h3, h4, h5, h6, h7⟩
theorem St.aB {B0 : Base} {os : List Ob} (hS : St P B0 H os) : ∃ B : Base, B = ⟨H, qI os⟩ ∧ St P B H os := ⟨_, rfl, hS.aF⟩
theorem St.ag {B0 B : Base} {H1 : Heap} {os os1 : List Ob} (hS : St P B0 H os) (hB : B = ⟨H, qI os⟩) (h1 : St P B H1 os1) : St P B0 H1 os1 := by
 subst hB
 exact hS.bq h1
def Slx (n : Nat) (cel : α → List Value) (H : Heap) (X : Nat → Prop) (v : Value) (xs : List α) : Prop := Sl n cel H v xs ∧ ∀ B, jW v = some B → X B
def Kept (H : Heap) (X : Nat → Prop) (H' : Heap) (Y : Nat → Prop) : Prop := ∀ B, X B → B < H.length → iI H' B = iI H B ∧ Y B
theorem Slx.step {H' : Heap} (h : Slx n cel H X v xs) (hk : Kept H X H' Y) : Slx n cel H' Y v xs :=
 ⟨⟨h.1.rd.cA fun B hb => (hk B (h.2 B hb) (h.1.rd.lt hb)).1, h.1.hc, h.1.pos⟩, fun B hb => (hk B (h.2 B hb) (h.1.rd.lt hb)).2⟩
def nb (vs : List Value) : Nat → Prop := fun B => ∀ v ∈ vs, jW v ≠ some B
theorem a8f (os : List Ob) (B : Nat) : nb (os.map (·.v)) B ↔ ¬ qI os B := by
 unfold nb qI
 constructor
 ·rintro h ⟨o, ho, hb⟩
  exact h o.v (fA ho) hb
 ·intro h v hv hb
  obtain ⟨o, ho, rfl⟩ := dp.1 hv
  exact h ⟨o, ho, hb⟩
theorem St.kept {B : Base} {H' : Heap} {os os' : List Ob} (hS : St P B H' os') (hB : B = ⟨H, qI os⟩) : Kept H (nb (os.map (·.v))) H' (nb (os'.map (·.v))) := by
 subst hB
 intro B hX hB
 rw [a8f] at hX ⊢
 exact ⟨hS.old B hB hX, fun ⟨o, ho, hb⟩ => by
  rcases hS.new o ho B hb with h | h
  ·have h : H.length ≤ B := h
   omega
  ·exact hX h⟩
theorem St.aW {H0 : Base} {H' : Heap} {os : List Ob} (hS : St P H0 H os) : Kept H' (fun B => H.length ≤ B) H' (nb (os.map (·.v))) := by
 intro B hX hB
 rw [a8f]
 exact ⟨rfl, fun ⟨o, ho, hb⟩ => by
  have := (hS.own o ho).lt hb
  omega⟩
theorem Kept.trans {H' H'' : Heap} {X Y Z : Nat → Prop} (h : Kept H X H' Y) (h' : Kept H' Y H'' Z) (hl : H.length ≤ H'.length) : Kept H X H'' Z :=
 fun B hX hB => by
  obtain ⟨e, hY⟩ := h B hX hB
  obtain ⟨e', hZ⟩ := h' B hY (dy hB hl)
  exact ⟨e'.trans e, hZ⟩
theorem Slx.any (h : Slx n cel H X v xs) : Slx n cel H (fun _ => True) v xs := ⟨h.1, fun _ _ => trivial⟩
theorem St.cM {H0 : Base} {os os' : List Ob} (hS : St P H0 H os) (i : Nat) {m : Nat} (ho : os[i]? = some ⟨v, m + 1, xs.flatMap cel⟩) (hc : ∀ x, (cel x).length = m + 1) (idx : List Nat) (hi : i ∉ idx) (h : idx.map (os[·]?) = os'.map some) :
 Slx (m + 1) cel H (nb (os'.map (·.v))) v xs := by
 refine ⟨hS.ax i ho hc, fun B hb => ?_⟩
 rw [a8f]
 rintro ⟨o, hmem, hob⟩
 have : some o ∈ idx.map (os[·]?) := by rw [h]; exact fA hmem
 obtain ⟨j, hj, hj2⟩ := dp.1 this
 have hne : i ≠ j := fun e => hi (e ▸ hj)
 have hpw := eh.1 hS.sep
 obtain ⟨hi1, ei⟩ := dh.1 ho
 obtain ⟨hj1, ej⟩ := dh.1 hj2
 rcases fC hne with hh | hh
 ·have := hpw i j hi1 hj1 hh B (by rw [ei]; exact hb)
  rw [ej] at this
  exact this hob
 ·have := hpw j i hj1 hi1 hh B (by rw [ej]; exact hob)
  rw [ei] at this
  exact this hb
theorem St.cB {H0 : Heap} {os : List Ob} (hS : St P H0 H os) (i : Nat) {m : Nat} (ho : os[i]? = some ⟨v, m + 1, xs.flatMap cel⟩) (hc : ∀ x, (cel x).length = m + 1) : Slx (m + 1) cel H (fun B => H0.length ≤ B) v xs :=
 ⟨hS.ax i ho hc, fun B hb => by
  rcases hS.new _ (dE ho) B hb with h | h
  ·exact h
  ·exact h.elim⟩
def Seg.Ix (H : Heap) (X : Nat → Prop) (s : Seg) : Prop := Slx 2 Drw.cells H X s.dv s.draws ∧ s.draws.length < 1000000000
def Stp.Ix (H : Heap) (X : Nat → Prop) (s : Stp) : Prop := Slx 3 Seg.cells H X s.gv s.segs ∧ (∀ g ∈ s.segs, g.Ix H X) ∧ s.segs.length < 1000000000
def Dvn.Ix (H : Heap) (X : Nat → Prop) (d : Dvn) : Prop := Slx 4 Stp.cells H X d.sv d.stops ∧ (∀ s ∈ d.stops, s.Ix H X) ∧ d.stops.length < 1000000000
def Rk.Ix (H : Heap) (X : Nat → Prop) (r : Rk) : Prop := Slx 1 (one I) H X r.wv r.wind ∧ r.wind.length < 1000000000
section
variable {H' : Heap}
theorem Seg.Ix.step {s : Seg} (h : s.Ix H X) (hk : Kept H X H' Y) : s.Ix H' Y := ⟨h.1.step hk, h.2⟩
theorem Stp.Ix.step {s : Stp} (h : s.Ix H X) (hk : Kept H X H' Y) : s.Ix H' Y := ⟨h.1.step hk, fun g hg => (h.2.1 g hg).step hk, h.2.2⟩
theorem Dvn.Ix.step {d : Dvn} (h : d.Ix H X) (hk : Kept H X H' Y) : d.Ix H' Y := ⟨h.1.step hk, fun g hg => (h.2.1 g hg).step hk, h.2.2⟩
theorem Rk.Ix.step {r : Rk} (h : r.Ix H X) (hk : Kept H X H' Y) : r.Ix H' Y := ⟨h.1.step hk, h.2⟩
theorem Seg.Ix.in {s : Seg} (h : s.Ix H X) : s.In H := ⟨h.1.1, h.2⟩
theorem Stp.Ix.in {s : Stp} (h : s.Ix H X) : s.In H := ⟨h.1.1, fun g hg => (h.2.1 g hg).in, h.2.2⟩
theorem Dvn.Ix.in {d : Dvn} (h : d.Ix H X) : d.In H := ⟨h.1.1, fun g hg => (h.2.1 g hg).in, h.2.2⟩
theorem Rk.Ix.in {r : Rk} (h : r.Ix H X) : r.In H := ⟨h.1.1, h.2⟩
end
theorem wA {α : Type} (f : α → Value) (l : List α) : l.flatMap (one f) = l.map f := by
 induction l with
 | nil => rfl
 | cons a l ih => rw [dz, ih]; rfl
end Go.Ds
namespace Go.Ds
open Go.Proofs
theorem a7t (m : Nat) (n s : Int) (h0 : 0 ≤ n) (h1 : n < m) (h2 : -127 ≤ s) (h3 : s ≤ 127) : kT m [⟨n, s⟩] = 0 := by
 rw [kT, if_neg (by simp)]
 refine kG _ _ fun j hj => ?_
 have hj0 : j = 0 := by simpa using hj
 subst hj0
 have e : gU ([⟨n, s⟩] : List Drw) 0 = ⟨n, s⟩ := rfl
 unfold kB
 rw [e, if_neg (by simp only; omega), if_neg (by simp only; omega), if_neg (by simp)]
theorem b9g (m : Nat) (n s t : Int) (h0 : 0 ≤ n) (h1 : n < m) (h2 : -127 ≤ s) (h3 : s ≤ 127) (h4 : -127 ≤ t) (h5 : t ≤ 127) (hne : s ≠ t) : kT m [⟨n, s⟩, ⟨n, t⟩] = 0 := by
 rw [kT, if_neg (by simp)]
 refine kG _ _ fun j hj => ?_
 have hj0 : j = 0 ∨ j = 1 := by
  have : j < 2 := by simpa using hj
  omega
 rcases hj0 with rfl | rfl
 ·have e : gU ([⟨n, s⟩, ⟨n, t⟩] : List Drw) 0 = ⟨n, s⟩ := rfl
  unfold kB
  rw [e, if_neg (by simp only; omega), if_neg (by simp only; omega), if_neg (by simp)]
 ·have e : gU ([⟨n, s⟩, ⟨n, t⟩] : List Drw) 1 = ⟨n, t⟩ := rfl
  unfold kB
  rw [e, if_neg (by simp only; omega), if_neg (by simp only; omega), if_neg (by simp [eR hne])]
theorem a5Z (lo hi a b : Int) (m : Nat) (dv : Value) (ds : List Drw) (h1 : lo ≤ a) (h2 : a ≤ b) (h3 : b ≤ hi) (hd : kT m ds = 0) : kY (kM lo hi m [⟨a, b, dv, ds⟩]) 1 = 0 := by
 refine kG _ _ fun j hj => ?_
 have hj0 : j = 0 := by omega
 subst hj0
 have e : gU ([⟨a, b, dv, ds⟩] : List Seg) 0 = ⟨a, b, dv, ds⟩ := rfl
 unfold kM
 rw [e, if_neg (by simp only; omega), if_neg (by simp only; omega)]
 exact hd
theorem b8q (lo hi c : Int) (m : Nat) (dv dv' : Value) (ds ds' : List Drw) (h1 : lo < c) (h2 : c ≤ hi) (hd : kT m ds = 0) (hd' : kT m ds' = 0) : kY (kM lo hi m [⟨lo, c - 1, dv, ds⟩, ⟨c, hi, dv', ds'⟩]) 2 = 0 := by
 refine kG _ _ fun j hj => ?_
 have e0 : gU ([⟨lo, c - 1, dv, ds⟩, ⟨c, hi, dv', ds'⟩] : List Seg) 0 = ⟨lo, c - 1, dv, ds⟩ := rfl
 have e1 : gU ([⟨lo, c - 1, dv, ds⟩, ⟨c, hi, dv', ds'⟩] : List Seg) 1 = ⟨c, hi, dv', ds'⟩ := rfl
 have hj0 : j = 0 ∨ j = 1 := by omega
 rcases hj0 with rfl | rfl
 ·unfold kM
  rw [e0, if_neg (by simp only; omega), if_neg (by simp only; omega)]
  exact hd
 ·unfold kM
  rw [e1, show (1 : Nat) - 1 = 0 from rfl, e0, if_neg (by simp only; omega), if_neg (by simp only; omega)]
  exact hd'
def nm (c : UInt8) (i : Nat) : ByteArray := ⟨#[c, UInt8.ofNat (48 + i)]⟩
theorem a3v {c : UInt8} {i j : Nat} (hi : i < 10) (hj : j < 10) (h : nm c i = nm c j) : i = j := by
 unfold nm at h
 have h2 : (#[c, UInt8.ofNat (48 + i)] : Array UInt8) = #[c, UInt8.ofNat (48 + j)] := congrArg ByteArray.data h
 have h3 : UInt8.ofNat (48 + i) = UInt8.ofNat (48 + j) := by simpa using h2
 have h4 := congrArg UInt8.toNat h3
 simp only [UInt8.toNat_ofNat'] at h4
 omega
theorem a0k {c : UInt8} (hc : c = 82 ∨ c = 68 ∨ c = 83 ∨ c = 67) {i : Nat} (hi : i < 10) : kJ (nm c i) = true := by
 have h : i = 0 ∨ i = 1 ∨ i = 2 ∨ i = 3 ∨ i = 4 ∨ i = 5 ∨ i = 6 ∨ i = 7 ∨ i = 8 ∨ i = 9 := by omega
 rcases hc with rfl | rfl | rfl | rfl <;> rcases h with rfl | rfl | rfl | rfl | rfl | rfl | rfl | rfl | rfl | rfl <;> decide
structure StpOk (m : Nat) (lo hi : Int) (i : Nat) (s : Stp) : Prop where
 name : s.name = nm 83 i
 feet : (s.num, s.den) ∈ kK
 pos : 0 < s.segs.length
 len : s.segs.length ≤ 2
 segs : kY (kM lo hi m s.segs) s.segs.length = 0
theorem b2Y {p : Int × Int} (h : p ∈ kK) : nD p.1 p.2 = 0 := by
 have : kK.all (fun p => decide (nD p.1 p.2 = 0)) = true := by decide
 exact of_decide_eq_true (dg.1 this p h)
theorem b4d {p : Int × Int} (h : p ∈ lG) : nD p.1 p.2 = 0 := by
 have : lG.all (fun p => decide (nD p.1 p.2 = 0)) = true := by decide
 exact of_decide_eq_true (dg.1 this p h)
theorem StpOk.stopE {rs : List Rk} {lo hi : Int} {i : Nat} {s : Stp} (h : StpOk rs.length lo hi i s) (hi10 : i < 10) (hp : rV rs lo hi = 0) : stopE rs lo hi s = 0 := by
 unfold Go.Ds.stopE
 rw [if_neg (by rw [hp]; simp), if_neg (by rw [h.name, a0k (by simp) hi10]; simp), if_neg (by rw [b2Y h.feet]; simp), if_neg (by have := h.pos; omega), if_neg (by have := h.len; omega)]
 exact h.segs
structure RkOk (i : Nat) (r : Rk) : Prop where
 name : r.name = nm 82 i
 tone : r.tone ∈ sL
 feet : (r.num, r.den) ∈ lG
 first : -128 ≤ r.first ∧ r.first < 128
 pos : 0 < r.wind.length
 len : r.wind.length ≤ 25
 wind : ∀ x ∈ r.wind, 0 ≤ x ∧ x < 256
theorem b4G {s : ByteArray} (h : s ∈ sL) : kJ s = true := by
 have : sL.all (fun s => kJ s) = true := by decide
 exact dg.1 this s h
theorem RkOk.rankE {i : Nat} {r : Rk} (h : RkOk i r) (hi : i < 10) : rankE r = 0 := by
 have hf := h.first
 have hp := h.pos
 have hl := h.len
 have hw : xX r.wind = 0 := by
  unfold xX
  rw [if_neg]
  intro hh
  rw [gm] at hh
  obtain ⟨x, hx, hp⟩ := hh
  have := h.wind x hx
  simp only [dX, decide_eq_true_eq] at hp
  omega
 unfold Go.Ds.rankE
 rw [if_neg (by rw [h.name, a0k (by simp) hi, b4G h.tone]; simp), if_neg (by rw [b4d h.feet]; simp), if_neg (by omega), if_neg (by omega), if_neg (by omega), hw]
theorem a1V {lo hi : Int} (h0 : 0 ≤ lo) (h1 : lo ≤ hi) (h2 : hi ≤ 127) : pQ lo hi = 0 := by
 unfold pQ
 rw [if_neg (by omega), if_neg (by omega)]
theorem b9y {rs : List Rk} {lo hi : Int} (hl : rs.length ≤ 3) (hr : ∀ j, j < rs.length → RkOk j (gU rs j)) (h0 : 0 ≤ lo) (h1 : lo ≤ hi) (h2 : hi ≤ 127) : rV rs lo hi = 0 := by
 have e := kG (fun j => Go.Ds.rankE (gU rs j)) rs.length fun j hj => (hr j hj).rankE (by omega)
 unfold rV
 rw [if_neg (by omega), if_neg (by rw [e]; simp)]
 exact a1V h0 h1 h2
structure DvOk (m i : Nat) (d : Dvn) : Prop where
 name : d.name = nm 68 i
 lo : 36 ≤ d.lo
 le : d.lo ≤ d.hi
 hi : d.hi ≤ 60
 wide : d.hi ≤ d.lo + 8
 len : d.stops.length ≤ 3
 stops : ∀ k, k < d.stops.length → StpOk m d.lo d.hi k (gU d.stops k)
structure CpOk (n i : Nat) (c : Cpl) : Prop where
 name : c.name = nm 67 i
 src : 0 ≤ c.src ∧ c.src < n
 dst : 0 ≤ c.dst ∧ c.dst < n
 shift : -24 ≤ c.shift ∧ c.shift ≤ 24
 ne : ¬ (c.src = c.dst ∧ c.shift = 0)
def b2O : ByteArray := ⟨#[79, 114, 103, 97, 110]⟩
structure OrgOk (o : Org) : Prop where
 name : o.name = b2O
 rpos : 0 < o.ranks.length
 rlen : o.ranks.length ≤ 3
 ranks : ∀ j, j < o.ranks.length → RkOk j (gU o.ranks j)
 dpos : 0 < o.dvs.length
 dlen : o.dvs.length ≤ 3
 dvs : ∀ j, j < o.dvs.length → DvOk o.ranks.length j (gU o.dvs j)
 clen : o.cpls.length ≤ 3
 cpls : ∀ j, j < o.cpls.length → CpOk o.dvs.length j (gU o.cpls j)
theorem b1Z : kJ b2O = true := by decide
theorem DvOk.divE {rs : List Rk} {i : Nat} {d : Dvn} (h : DvOk rs.length i d) (hl : rs.length ≤ 3) (hr : ∀ j, j < rs.length → RkOk j (gU rs j)) : divE rs d = 0 := by
 have h1 := h.lo
 have h2 := h.le
 have h3 := h.hi
 have h4 := h.len
 unfold Go.Ds.divE
 rw [if_neg (by rw [a1V (by omega) h2 (by omega)]; simp), if_neg (by omega)]
 refine kG _ _ fun j hj => ?_
 have hs := h.stops j hj
 unfold nX
 rw [if_neg (by rw [hs.stopE (by omega) (b9y hl hr (by omega) h2 (by omega))]; simp), if_neg]
 rintro ⟨q, hq, e⟩
 rw [hs.name, (h.stops q (by omega)).name] at e
 have := a3v (by omega) (by omega) e
 omega
theorem OrgOk.organE {o : Org} (h : OrgOk o) : organE o = 0 := by
 have h1 := h.rpos
 have h2 := h.rlen
 have h3 := h.dpos
 have h4 := h.dlen
 have h5 := h.clen
 have e1 : kY (nB o.ranks) o.ranks.length = 0 := kG _ _ fun j hj => by
  unfold nB
  rw [if_neg (by rw [(h.ranks j hj).rankE (by omega)]; simp), if_neg]
  rintro ⟨q, hq, e⟩
  rw [(h.ranks j hj).name, (h.ranks q (by omega)).name] at e
  have := a3v (by omega) (by omega) e
  omega
 have e2 : kY (sN o.ranks o.dvs) o.dvs.length = 0 := kG _ _ fun j hj => by
  unfold sN
  rw [if_neg (by rw [(h.dvs j hj).name, a0k (by simp) (by omega)]; simp), if_neg]
  ·exact (h.dvs j hj).divE h2 h.ranks
  rintro ⟨q, hq, e⟩
  rw [(h.dvs j hj).name, (h.dvs q (by omega)).name] at e
  have := a3v (by omega) (by omega) e
  omega
 have e3 : sH (kps o.dvs) o.cpls = 0 := by
  have hk : (kps o.dvs).length = o.dvs.length := by simp [kps]
  unfold sH
  rw [if_neg (by omega), if_neg]
  ·refine kG _ _ fun j hj => ?_
   have hc := h.cpls j hj
   have c1 := hc.src
   have c2 := hc.dst
   have c3 := hc.shift
   unfold lW
   simp only
   rw [if_neg (by rw [hc.name, a0k (by simp) (by omega)]; simp), if_neg, if_neg (by rw [hk]; omega), if_neg (by omega), if_neg hc.ne]
   rintro ⟨q, hq, e⟩
   rw [hc.name, (h.cpls q (by omega)).name] at e
   have := a3v (by omega) (by omega) e
   omega
  ·rintro ⟨k, hk, hne⟩
   unfold kps at hk
   obtain ⟨d, hd, rfl⟩ := dp.1 hk
   obtain ⟨j, hj, rfl⟩ := dQ.1 hd
   have hd := h.dvs j hj
   rw [jY o.dvs j hj] at hd
   have h1 := hd.lo
   have h2 := hd.le
   have h3 := hd.hi
   exact hne (a1V (by omega) h2 (by omega))
 unfold Go.Ds.organE
 rw [if_neg (by rw [h.name, b1Z]; simp), if_neg (by omega), if_neg (by rw [e1]; simp), if_neg (by omega), if_neg (by omega), if_neg (by rw [e2]; simp)]
 exact e3
def jT (x : Int × Int) : List Value := [I x.1, I x.2]
def pr (l : List (Int × Int)) : List Value := l.flatMap jT
theorem kH (x : Int × Int) : (jT x).length = 2 := rfl
theorem hK (l : List (Int × Int)) : (pr l).length = l.length * 2 := iL kH l
def le2 (x y : Int × Int) : Bool := decide (x.1 < y.1) || (decide (x.1 = y.1) && decide (x.2 ≤ y.2))
theorem mP (x y : Int × Int) : le2 x y = true ↔ x.1 < y.1 ∨ (x.1 = y.1 ∧ x.2 ≤ y.2) := by
 unfold le2
 simp only [dX, cS, decide_eq_true_eq]
def sP (es : List (Int × Int)) : List (Int × Int) := es.mergeSort le2
theorem lZ (es : List (Int × Int)) : (sP es).Perm es := List.mergeSort_perm _ _
theorem pW (es : List (Int × Int)) : (sP es).length = es.length := (lZ es).length_eq
theorem rA (es : List (Int × Int)) : (sP es).Pairwise fun a b => le2 a b = true := by
 unfold sP
 refine List.pairwise_mergeSort ?_ ?_ _
 ·intro a b c h1 h2
  rw [mP] at *
  omega
 ·intro a b
  rw [dX, mP, mP]
  omega
def cf2 (x y : Int × Int) : Int := if x.1 < y.1 then -1 else if y.1 < x.1 then 1 else if x.2 < y.2 then -1 else if y.2 < x.2 then 1 else 0
def wD {α : Type} [Inhabited α] [DecidableEq α] (es : List α) (m : Nat) : List α := ((List.range m).filter fun i => decide (i = 0 ∨ gU es i ≠ gU es (i - 1))).map fun i => gU es i
def dd {α : Type} [Inhabited α] [DecidableEq α] (es : List α) : List α := wD es es.length
section
variable {α : Type} [Inhabited α] [DecidableEq α]
theorem qU (es : List α) (m : Nat) : wD es (m + 1) = wD es m ++ (if m = 0 ∨ gU es m ≠ gU es (m - 1) then [gU es m] else []) := by
 unfold wD
 rw [dS, eO, dM]
 congr 1
 by_cases h : m = 0 ∨ gU es m ≠ gU es (m - 1)
 ·rw [if_pos h]
  simp only [List.filter_cons, List.filter_nil, decide_eq_true h, if_true, dU, fW]
 ·rw [if_neg h]
  simp only [List.filter_cons, List.filter_nil, decide_eq_false h, dK, if_false, fW]
theorem c0Y (es : List α) (m : Nat) : (wD es m).length ≤ m := by
 unfold wD
 rw [dY]
 refine dq (dW _ _) ?_
 simp
theorem lP (es : List α) (m : Nat) (h : m < es.length) : es.take (m + 1) = es.take m ++ [gU es m] := by
 rw [jY es m h, List.take_succ_eq_append_getElem h]
theorem rP (es : List α) : ∀ m, m ≤ es.length → (∀ j, 0 < j → j < m → gU es j ≠ gU es (j - 1)) → wD es m = es.take m
 | 0, _, _ => by simp [wD]
 | m + 1, hm, h => by
   have ih := rP es m (by omega) fun j h1 h2 => h j h1 (by omega)
   rw [qU, ih, lP es m (by omega), if_pos]
   by_cases h0 : m = 0
   ·exact .inl h0
   ·exact .inr (h m (by omega) (by omega))
end
theorem a5I {v : Value} {n lo k b : Nat} (h : jW (pU v n lo k) = some b) : jW v = some b := by
 unfold pU at h
 split at h <;> exact h
theorem jE (a b : List (Int × Int)) : pr (a ++ b) = pr a ++ pr b := dG
structure Reg where
 stops : List Nat
 cpl : Nat
 off : Nat
 deriving Inhabited, DecidableEq
def u64 (n : Nat) : Value := .int .u64 n
def Reg.cells (r : Reg) (sv : Value) : List Value := [sv, u64 r.cpl, u64 r.off]
def Reg.Ok (r : Reg) : Prop := r.stops.length < 1000000000 ∧ (∀ x ∈ r.stops, x < 18446744073709551616) ∧ r.cpl < 18446744073709551616 ∧ r.off < 18446744073709551616
def Reg.In (H : Heap) (r : Reg) (sv : Value) : Prop := Sl 1 (one u64) H sv r.stops ∧ r.Ok
theorem Reg.In.ai {P : Program} {H H0 : Heap} {os : List Ob} {r : Reg} {sv : Value} (h : r.In H0 sv) (hS : St P H0 H os) : r.In H sv := ⟨hS.sl h.1, h.2⟩
abbrev Ct := Int × Int
abbrev pX (n : Int) : Int := IntKind.wrap .i64 n
def oW (o : Org) (c : Ct) : Bool := decide (0 ≤ c.1) && decide (c.1 < o.dvs.length) && decide ((gU o.dvs c.1.toNat).lo ≤ c.2) && decide (c.2 ≤ (gU o.dvs c.1.toNat).hi)
def a1v (o : Org) (c : Ct) : Int := if c.1 < 0 ∨ o.dvs.length ≤ c.1 then 10 else if c.2 < (gU o.dvs c.1.toNat).lo ∨ (gU o.dvs c.1.toNat).hi < c.2 then 23 else 0
theorem xE (o : Org) (c : Ct) : a1v o c = 0 ↔ oW o c = true := by
 unfold a1v oW
 by_cases h1 : c.1 < 0 ∨ o.dvs.length ≤ c.1
 ·rw [if_pos h1]
  simp
  omega
 ·rw [if_neg h1]
  by_cases h2 : c.2 < (gU o.dvs c.1.toNat).lo ∨ (gU o.dvs c.1.toNat).hi < c.2
  ·rw [if_pos h2]
   simp
   omega
  ·rw [if_neg h2]
   simp
   omega
def to1 (x : Cpl) (c : Ct) : Ct := (x.dst, pX (c.2 + x.shift))
def rJ (cp : Nat) (thr : Bool) (c : Ct) (x : Cpl) (i : Nat) : Bool := cp.testBit i && decide (x.src = c.1) && (!thr || x.thr)
def step1 (o : Org) (cp : Nat) (thr : Bool) (c : Ct) (q : List Ct) (i : Nat) : List Ct :=
 if rJ cp thr c (gU o.cpls i) i && oW o (to1 (gU o.cpls i) c) && !decide (to1 (gU o.cpls i) c ∈ q) then q ++ [to1 (gU o.cpls i) c] else q
def stepN (o : Org) (cp : Nat) (thr : Bool) (c : Ct) (q : List Ct) (n : Nat) : List Ct := (List.range n).foldl (step1 o cp thr c) q
def stepF (o : Org) (cp : Nat) (thr : Bool) (c : Ct) (q : List Ct) : List Ct := stepN o cp thr c q o.cpls.length
theorem lF (o : Org) (cp : Nat) (thr : Bool) (c : Ct) (q : List Ct) (n : Nat) : stepN o cp thr c q (n + 1) = step1 o cp thr c (stepN o cp thr c q n) n := by
 unfold stepN
 rw [dS, gh]
 rfl
def Que (o : Org) (q : List Ct) : Prop := q.Nodup ∧ ∀ c ∈ q, oW o c = true
theorem Que.nil (o : Org) : Que o [] := ⟨.nil, by simp⟩
theorem Que.step1 {o : Org} {q : List Ct} (h : Que o q) (cp : Nat) (thr : Bool) (c : Ct) (i : Nat) : Que o (step1 o cp thr c q i) := by
 unfold Go.Ds.step1
 split
 ·rename_i hh
  simp only [cS, dw, decide_eq_false_iff_not] at hh
  refine ⟨?_, ?_⟩
  ·rw [List.nodup_append]
   exact ⟨h.1, by simp, fun a ha b hb e => hh.2 (by simp at hb; rw [← hb, ← e]; exact ha)⟩
  ·intro x hx
   rcases dx.1 hx with hx | hx
   ·exact h.2 x hx
   ·simp at hx
    rw [hx]
    exact hh.1.2
 ·exact h
theorem Que.stepN {o : Org} {q : List Ct} (h : Que o q) (cp : Nat) (thr : Bool) (c : Ct) : ∀ n, Que o (stepN o cp thr c q n)
 | 0 => h
 | n + 1 => by rw [lF]; exact (h.stepN cp thr c n).step1 cp thr c n
theorem Que.stepF {o : Org} {q : List Ct} (h : Que o q) (cp : Nat) (thr : Bool) (c : Ct) : Que o (stepF o cp thr c q) := h.stepN cp thr c _
theorem a4X : ∀ (N : Nat) (l : List Nat), l.Nodup → (∀ i ∈ l, i < N) → l.length ≤ N
 | 0, l, hn, h => by
   cases l with
   | nil => simp
   | cons a l => exact absurd (h a (by simp)) (dF _)
 | N + 1, l, hn, h => by
   have h1 : (l.erase N).length ≤ N := by
    refine a4X N _ (hn.erase N) fun i hi => ?_
    have h2 := (List.Nodup.mem_erase_iff hn).1 hi
    have := h i h2.2
    omega
   rw [List.length_erase] at h1
   split at h1 <;> omega
theorem yI {f : Nat → Int} {n : Nat} (h : kY f n = 0) : ∀ j, j < n → f j = 0 := by
 intro j hj
 unfold kY at h
 cases hf : (List.range n).find? (fun j => decide (f j ≠ 0)) with
 | some i =>
   rw [hf] at h
   have := List.find?_some hf
   simp only [decide_eq_true_eq] at this
   exact absurd h this
 | none =>
   rw [fX] at hf
   have := hf j (dm.2 hj)
   simpa using this
structure Org.Fine (o : Org) : Prop where
 dpos : 0 < o.dvs.length
 dlen : o.dvs.length ≤ 8
 rlen : o.ranks.length ≤ 60
 keys : ∀ j, j < o.dvs.length → 0 ≤ (gU o.dvs j).lo ∧ (gU o.dvs j).lo ≤ (gU o.dvs j).hi ∧ (gU o.dvs j).hi ≤ 127
 stops : ∀ j, j < o.dvs.length → (gU o.dvs j).stops.length ≤ 60
 clen : o.cpls.length ≤ 40
 draws : ∀ j, j < o.dvs.length → ∀ s ∈ (gU o.dvs j).stops, ∀ g ∈ s.segs, g.draws.length ≤ 8
theorem Org.bl {o : Org} (h : organE o = 0) : o.Fine := by
 unfold organE at h
 split at h
 ·omega
 split at h
 ·omega
 rename_i _ h2
 split at h
 ·rename_i hh; exact absurd h hh
 split at h
 ·omega
 rename_i h4
 split at h
 ·omega
 rename_i h5
 split at h
 ·rename_i hh; exact absurd h hh
 rename_i h6
 have h6 := dA.1 h6
 have hd : ∀ j, j < o.dvs.length → (0 ≤ (gU o.dvs j).lo ∧ (gU o.dvs j).lo ≤ (gU o.dvs j).hi ∧ (gU o.dvs j).hi ≤ 127) ∧ (gU o.dvs j).stops.length ≤ 60 ∧ ∀ s ∈ (gU o.dvs j).stops, ∀ g ∈ s.segs, g.draws.length ≤ 8 := by
  intro j hj
  have e := yI h6 j hj
  unfold sN at e
  split at e
  ·omega
  split at e
  ·omega
  unfold divE at e
  split at e
  ·rename_i hh; exact absurd e hh
  rename_i hc
  have hc := dA.1 hc
  split at e
  ·omega
  unfold pQ at hc
  split at hc
  ·omega
  split at hc
  ·omega
  refine ⟨by omega, by omega, fun s hs g hg => ?_⟩
  obtain ⟨k, hk, rfl⟩ := dQ.1 hs
  obtain ⟨i, hi, rfl⟩ := dQ.1 hg
  have e2 := yI e k hk
  unfold nX at e2
  rw [jY _ k hk] at e2
  split at e2
  ·rename_i hh; exact absurd e2 hh
  rename_i e3
  have e3 := dA.1 e3
  unfold stopE at e3
  split at e3
  ·rename_i hh; exact absurd e3 hh
  split at e3
  ·omega
  split at e3
  ·rename_i hh; exact absurd e3 hh
  split at e3
  ·omega
  split at e3
  ·omega
  have e4 := yI e3 i hi
  unfold kM at e4
  rw [jY _ i hi] at e4
  split at e4
  ·omega
  split at e4
  ·omega
  unfold kT at e4
  split at e4
  ·omega
  omega
 refine ⟨by omega, by omega, by omega, fun j hj => (hd j hj).1, fun j hj => (hd j hj).2.1, ?_, fun j hj => (hd j hj).2.2⟩
 unfold sH at h
 split at h <;> omega
theorem nJ (o : Org) (c : Ct) : oW o c = true ↔ 0 ≤ c.1 ∧ c.1 < o.dvs.length ∧ (gU o.dvs c.1.toNat).lo ≤ c.2 ∧ c.2 ≤ (gU o.dvs c.1.toNat).hi := by
 unfold oW
 simp only [cS, decide_eq_true_eq, and_assoc]
theorem wG {o : Org} (ho : o.Fine) {c : Ct} (h : oW o c = true) : 0 ≤ c.1 ∧ c.1 < 8 ∧ 0 ≤ c.2 ∧ c.2 ≤ 127 := by
 have h := (nJ o c).1 h
 have hk := ho.keys c.1.toNat (by omega)
 have := ho.dlen
 omega
theorem Que.len {o : Org} {q : List Ct} (h : Que o q) (ho : o.Fine) : q.length ≤ 1024 := by
 have h1 := a4X 1024 (q.map fun c => c.1.toNat * 128 + c.2.toNat) ?_ ?_
 ·simpa using h1
 ·unfold List.Nodup
  rw [gi]
  refine List.Pairwise.imp_of_mem (fun {a b} ha hb hne e => hne ?_) h.1
  have h1 := wG ho (h.2 a ha)
  have h2 := wG ho (h.2 b hb)
  apply fT <;> omega
 ·intro i hi
  obtain ⟨c, hc, rfl⟩ := dp.1 hi
  have h1 := wG ho (h.2 c hc)
  omega
def bfs (o : Org) (cp : Nat) : Nat → Nat → List Ct → List Ct
 | 0, _, q => q
 | n + 1, i, q => if i < q.length then bfs o cp n (i + 1) (stepF o cp true (gU q i) q) else q
def jX (o : Org) (cp : Nat) (l : List Ct) : List Ct := l.foldl (fun q c => stepF o cp false c q) []
def mG (o : Org) (r : Reg) (l : List Ct) : List Ct := dd (sP (l.filter (fun c => !r.off.testBit c.1.toNat) ++ bfs o r.cpl 1100 0 (jX o r.cpl l)))
def oF (rs : List Rk) (d : Drw) (key : Int) : Ct := if d.rank < 0 ∨ rs.length ≤ d.rank then (0, 0) else (d.rank, pX (pX (key + d.shift) - (gU rs d.rank.toNat).first))
def xV (rs : List Rk) (d : Drw) (key : Int) : Bool := !decide (d.rank < 0 ∨ rs.length ≤ d.rank) && decide (0 ≤ (oF rs d key).2) && decide ((oF rs d key).2 < (gU rs d.rank.toNat).wind.length)
def a7i (s : Stp) (key : Int) (j : Nat) : Bool := decide ((gU s.segs j).lo ≤ key) && decide (key ≤ (gU s.segs j).hi)
def a9o (s : Stp) (key : Int) : List Drw := if pO (a7i s key) s.segs.length < 0 then [] else (gU s.segs (pO (a7i s key) s.segs.length).toNat).draws
def rD (rs : List Rk) (s : Stp) (key : Int) : List Ct := dd (sP (((a9o s key).filter fun d => xV rs d key).map fun d => oF rs d key))
def rM (o : Org) (r : Reg) (c : Ct) : List Ct := (List.range (gU o.dvs c.1.toNat).stops.length).flatMap fun i => if (gU r.stops c.1.toNat).testBit i then rD o.ranks (gU (gU o.dvs c.1.toNat).stops i) c.2 else []
def b4e (o : Org) (r : Reg) (l : List Ct) : List Ct := dd (sP (l.flatMap (rM o r)))
def a8d (o : Org) (r : Reg) (l : List Ct) : List Ct := b4e o r (mG o r l)
end Go.Ds
namespace Go.Ds
open Go.Proofs Go.Proofs.Tryz
variable {H : Heap}
theorem a1k (a b : Nat) (h : a < 18446744073709551616) : ((a : Nat) : Int).fdiv (2 ^ min b (IntKind.bits .u64)) = ((a >>> b : Nat) : Int) := by
 have e : IntKind.bits .u64 = 64 := rfl
 rw [e]
 have h1 : ((a : Nat) : Int).fdiv (2 ^ min b 64) = ((a / 2 ^ min b 64 : Nat) : Int) := by
  rw [gj _ (by exact Int.le_of_lt (Int.pow_pos (by decide)))]
  simp
 rw [h1, eE]
 by_cases hb : b ≤ 64
 ·rw [fH hb]
 ·rw [Nat.min_eq_right (by omega)]
  have h2 : a / 2 ^ 64 = 0 := gr (by simpa using h)
  have h3 : a / 2 ^ b = 0 := gr (dy (by simpa using h) (fb (by decide) (show 64 ≤ b by omega)))
  rw [h2, h3]
theorem zW (n : Nat) (h : n < 18446744073709551616) : IntKind.wrap .u64 ((BitVec.ofInt (IntKind.bits .u64) (n : Int) &&& BitVec.ofInt (IntKind.bits .u64) 1).toNat : Int) = ((n % 2 : Nat) : Int) := by
 have e : (BitVec.ofInt (IntKind.bits .u64) (n : Int) &&& BitVec.ofInt (IntKind.bits .u64) 1).toNat = n % 2 := by
  show (BitVec.ofInt 64 (n : Int) &&& BitVec.ofInt 64 1).toNat = n % 2
  rw [gu]
  have h1 : (BitVec.ofInt 64 (n : Int)).toNat = n := by
   rw [fJ, BitVec.toNat_ofNat]
   exact gk (by simpa using h)
  have h2 : (BitVec.ofInt 64 1).toNat = 1 := rfl
  rw [h1, h2, Nat.and_one_is_mod]
 rw [e]
 have : n % 2 < 2 := eF _ (by decide)
 have hh : n % 2 = 0 ∨ n % 2 = 1 := by omega
 rcases hh with h | h <;> rw [h] <;> rfl
theorem tb (a i : Nat) : a.testBit i = decide (a >>> i % 2 = 1) := by
 rw [Nat.testBit_eq_decide_div_mod_eq, eE]
theorem tN {a : Nat} (b : Nat) (h : a < 18446744073709551616) : a >>> b < 18446744073709551616 := by
 rw [eE]
 exact Nat.lt_of_le_of_lt (Nat.div_le_self _ _) h
theorem a1J (o : Org) (ho : o.In H) (c : Ct) : Fn prog 67 [.agg #[.string o.name, o.rv, o.dv, o.cv], .agg #[I c.1, I c.2]] H fun r H' => r = I (a1v o c) ∧ St prog H H' [] := by
 have hl := ho.2.2.2.2.2.2.1
 refine .aG func67 rfl (by kernel_rfl) (m := 36) rfl fun l hn g0 g1 => ?_
 simp (disch := omega) only [↓RA, RB, simprocAttr, g0]
 refine (sR H).eNew 4 [(.string o.name), o.rv, o.dv, o.cv] rfl rfl (by simp [OC, ((sR H).sl ho.1).cells.2.1, ((sR H).sl ho.2.2.1).cells.2.1, ((sR H).sl ho.2.2.2.2.1).cells.2.1]) mT fun A1 H1 hS1 => ?_
 simp only [RT] at hS1
 simp (disch := omega) only [↓RA, RB, simprocAttr, g1]
 refine hS1.eNew 2 [I c.1, I c.2] rfl rfl rfl nR fun A2 H2 hS2 => ?_
 simp only [RT] at hS2
 simp (disch := omega) only [↓RA, RZ, simprocAttr, hn, hS2.ld 1 rfl]
 refine iD (fun h1 => ?_) (fun h1 => ?_)
 ·simp (disch := omega) only [↓RA, RZ, simprocAttr, hn, b3M, h1]
  exact ⟨by rw [a1v, if_pos (by omega)], hS2.forget⟩
 simp (disch := omega) only [↓RA, RZ, simprocAttr, hn, hS2.ld 1 rfl, hS2.ld 0 rfl, (hS2.sl ho.2.2.1).len, h1]
 refine gT (fun h2 => ?_) (fun h2 => ?_)
 ·simp (disch := omega) only [↓RA, RZ, simprocAttr, hn, b3M, h1, h2]
  exact ⟨by rw [a1v, if_pos (by omega)], hS2.forget⟩
 obtain ⟨j, hj⟩ : ∃ j : Nat, c.1 = j := ⟨c.1.toNat, by omega⟩
 have hc : a1v o c = if c.2 < (gU o.dvs j).lo ∨ (gU o.dvs j).hi < c.2 then 23 else 0 := by
  rw [a1v, if_neg (by omega), hj]
  rfl
 rw [hj] at h1 h2
 simp (disch := omega) only [↓RA, RZ, simprocAttr, hn, hS2.ld 0 rfl, h1, h2, hj]
 simp (disch := omega) only [↓RA, RZ, simprocAttr, hn, hS2.ld 1 rfl, (hS2.sl ho.2.2.1).idx, (hS2.sl ho.2.2.1).bf, (hS2.sl ho.2.2.1).cD 2, Dvn.cells, h1, h2, hj]
 refine hS2.eNew 2 [I 0, I 0] rfl rfl rfl sC fun A3 H3 hS3 => ?_
 simp only [RT] at hS3
 simp (disch := omega) only [↓RA, RZ, simprocAttr, hn, h1, h2, hj]
 refine hS3.aa 2 rfl [I (gU o.dvs j).lo, I (gU o.dvs j).hi] rfl rfl sC (by simp) fun H4 hS4 => ?_
 simp only [RT] at hS4
 simp (disch := omega) only [↓RA, RZ, simprocAttr, hn, hS4.ld 1 rfl, hS4.ld 2 rfl, h1, h2, hj]
 refine iD (fun h3 => ?_) (fun h3 => ?_)
 ·simp (disch := omega) only [↓RA, RZ, simprocAttr, hn, b3M, h1, h2, hj, h3]
  exact ⟨by rw [hc, if_pos (by omega)], hS4.forget⟩
 simp (disch := omega) only [↓RA, RZ, simprocAttr, hn, hS4.ld 1 rfl, hS4.ld 2 rfl, h1, h2, hj, h3]
 refine gT (fun h4 => ?_) (fun h4 => ?_)
 ·simp (disch := omega) only [↓RA, RZ, simprocAttr, hn, b3M, h1, h2, hj, h3, h4]
  exact ⟨by rw [hc, if_pos (by omega)], hS4.forget⟩
 simp (disch := omega) only [↓RA, RZ, simprocAttr, hn, b3M, h1, h2, hj, h3, h4]
 exact ⟨by rw [hc, if_neg (by omega)], hS4.forget⟩
def pY (o : Org) (r : Reg) : Int := if organE o ≠ 0 then organE o else if r.stops.length ≠ o.dvs.length then 5 else if ∃ j, j < o.dvs.length ∧ gU r.stops j >>> (gU o.dvs j).stops.length ≠ 0 then 3 else if r.cpl >>> o.cpls.length ≠ 0 ∨ r.off >>> o.dvs.length ≠ 0 then 3 else 0
theorem b9e (o : Org) (ho : o.In H) (r : Reg) (sv : Value) (hr : r.In H sv) : Fn prog 18 [.agg #[.string o.name, o.rv, o.dv, o.cv], .agg #[sv, .int .u64 r.cpl, .int .u64 r.off]] H fun v H' => v = I (pY o r) ∧ St prog H H' [] := by
 have hl := ho.2.2.2.2.2.2.1
 have hlc := ho.2.2.2.2.2.2.2
 obtain ⟨hr1, hr2, hr3, hr4, hr5⟩ := hr
 refine .aG func18 rfl (by kernel_rfl) (m := 55) rfl fun l hn g0 g1 => ?_
 simp (disch := omega) only [↓RA, RB, simprocAttr, g0]
 refine (sR H).eNew 4 [(.string o.name), o.rv, o.dv, o.cv] rfl rfl (by simp [OC, ((sR H).sl ho.1).cells.2.1, ((sR H).sl ho.2.2.1).cells.2.1, ((sR H).sl ho.2.2.2.2.1).cells.2.1]) mT fun A1 H1 hS1 => ?_
 simp only [RT] at hS1
 simp (disch := omega) only [↓RA, RB, simprocAttr, g1]
 refine hS1.eNew 3 [sv, (.int .u64 r.cpl), (.int .u64 r.off)] rfl rfl (by simp [OC, (hS1.sl hr1).cells.2.1]) qP fun A2 H2 hS2 => ?_
 simp only [RT] at hS2
 simp (disch := omega) only [↓RA, RZ, simprocAttr, hn, hS2.aj 0 rfl]
 refine hS2.cF (a1B o (ho.ai hS2)) fun H3 hS3 => ?_
 simp (disch := omega) only [↓RA, RB, simprocAttr, hn]
 refine gT (fun h1 => ?_) (fun h1 => ?_)
 ·simp (disch := omega) only [↓RA, RZ, simprocAttr, hn, b1t, h1]
  exact ⟨by rw [pY, if_pos h1], hS3.forget⟩
 simp (disch := omega) only [↓RA, RZ, simprocAttr, hn, hS3.ld 1 rfl, (hS3.sl hr1).len, hS3.ld 0 rfl, (hS3.sl ho.2.2.1).len, h1]
 refine gT (fun h2 => ?_) (fun h2 => ?_)
 ·simp (disch := omega) only [↓RA, RZ, simprocAttr, hn, b1t, h1, h2]
  exact ⟨by rw [pY, if_neg h1, if_pos (by omega)], hS3.forget⟩
 simp (disch := omega) only [↓RA, RZ, simprocAttr, hn, hS3.ld 0 rfl, (hS3.sl ho.2.2.1).len, h1, h2]
 have hE : pY o r = if ∃ j, j < o.dvs.length ∧ gU r.stops j >>> (gU o.dvs j).stops.length ≠ 0 then 3 else if r.cpl >>> o.cpls.length ≠ 0 ∨ r.off >>> o.dvs.length ≠ 0 then 3 else 0 := by rw [pY, if_neg h1, if_neg (by omega)]
 refine Wp.al (fun n l H' => l.length = 55 ∧ get l 2 = (ptr A1 0 4) ∧ get l 3 = (ptr A2 0 3) ∧ get l 21 = o.dv ∧ get l 22 = I o.dvs.length ∧ ∃ (j : Nat), (n + j = o.dvs.length ∧ ∀ q, q < j → gU r.stops q >>> (gU o.dvs q).stops.length = 0) ∧ get l 23 = I j ∧ St prog H H' [⟨ptr A1 0 4, 0, [(.string o.name), o.rv, o.dv, o.cv]⟩, ⟨ptr A2 0 3, 0, [sv, (.int .u64 r.cpl), (.int .u64 r.off)]⟩]) o.dvs.length ?_ ?_
 ·simp (disch := omega) only [RB, RC, simprocAttr, hn]
  exact ⟨0, ⟨by omega, fun q hq => absurd hq (dF _)⟩, rfl, hS3⟩
 rintro n l H4 ⟨hn, g2, g3, g21, g22, j, ⟨hj,hz⟩, g23, hS4⟩
 have e1 := a1k r.cpl o.cpls.length hr4
 have e2 := a1k r.off o.dvs.length hr5
 simp (disch := omega) only [↓RA, RB, simprocAttr, hn, g22, g23]
 refine gT (fun q1 => ?_) (fun q1 => ?_)
 ·have hst := (ho.2.2.2.1 _ (gX (xs := o.dvs) (j := j) (by omega))).2.2
  have e3 := a1k (gU r.stops j) (gU o.dvs j).stops.length (hr3 _ (gX (by omega)))
  simp (disch := omega) only [↓RA, RZ, simprocAttr, hn, g21, g23, (hS4.sl ho.2.2.1).idx, (hS4.sl ho.2.2.1).aj, Dvn.cells, q1]
  refine hS4.eNew 5 [(.string ⟨#[]⟩), (.bool false), I 0, I 0, (.slice none 0 0)] rfl rfl rfl sB fun A3 H5 hS5 => ?_
  simp only [RT] at hS5
  simp (disch := omega) only [↓RA, RZ, simprocAttr, hn, q1]
  refine hS5.aa 2 rfl [(.string (gU o.dvs j).name), (.bool (gU o.dvs j).pedal), I (gU o.dvs j).lo, I (gU o.dvs j).hi, (gU o.dvs j).sv] rfl (by simp [OC, (hS5.sl (ho.2.2.2.1 (gU o.dvs j) (gX (by omega))).1).cells.2.1]) sB (by simp) fun H6 hS6 => ?_
  simp only [RT] at hS6
  simp (disch := omega) only [↓RA, RZ, simprocAttr, q1]
  refine Wp.drw jU (by kernel_rfl) ?_
  simp (disch := omega) only [↓RA, RZ, simprocAttr, hn, g3, hS6.ld 1 rfl, (hS6.sl hr1).idx, (hS6.sl hr1).ld, one, u64, hS6.ld 2 rfl, (hS6.sl (ho.2.2.2.1 (gU o.dvs j) (gX (by omega))).1).len, e3]
  refine gT (fun q2 => ?_) (fun q2 => ?_)
  ·simp (disch := omega) only [↓RA, RZ, simprocAttr, hn, b1t, q2]
   exact ⟨by rw [hE, if_pos ⟨j, by omega, by omega⟩], hS6.forget⟩
  simp (disch := omega) only [↓RA, RZ, simprocAttr, hn, g2, g3, g21, g22, g23, q2]
  exact ⟨n - 1, by omega, j + 1, ⟨by omega, fun q hq => by rcases de.1 hq with e | e; (· exact hz q e); (· rw [e]; omega)⟩, by simp, hS6.sub (by simp)⟩
 simp (disch := omega) only [↓RA, RZ, simprocAttr, hn, g2, g3, hS4.ld 1 rfl, hS4.ld 0 rfl, (hS4.sl ho.2.2.2.2.1).len, q1, e1]
 have hno : ¬ ∃ j, j < o.dvs.length ∧ gU r.stops j >>> (gU o.dvs j).stops.length ≠ 0 := by
  rintro ⟨q, hq, hne⟩
  exact hne (hz q (by omega))
 rw [if_neg hno] at hE
 clear hno
 refine iD (fun q3 => ?_) (fun q3 => ?_)
 ·simp (disch := omega) only [↓RA, RZ, simprocAttr, hn, b1t, q1, q3]
  exact ⟨by rw [hE, if_pos (by omega)], hS4.forget⟩
 simp (disch := omega) only [↓RA, RZ, simprocAttr, hn, g2, g3, hS4.ld 1 rfl, hS4.ld 0 rfl, (hS4.sl ho.2.2.1).len, q1, e2, q3]
 refine gT (fun q4 => ?_) (fun q4 => ?_)
 ·simp (disch := omega) only [↓RA, RZ, simprocAttr, hn, b1t, q1, q3, q4]
  exact ⟨by rw [hE, if_pos (by omega)], hS4.forget⟩
 simp (disch := omega) only [↓RA, RZ, simprocAttr, hn, b1t, q1, q3, q4]
 exact ⟨by rw [hE, if_neg (by omega)], hS4.forget⟩
def tP (o : Org) (b : Nat → Nat) : Reg := ⟨(List.range o.dvs.length).map fun i => b (i % 3) % 2 ^ (gU o.dvs i).stops.length, b 3 % 2 ^ o.cpls.length, b 4 % 2 ^ o.dvs.length⟩
theorem tA (n : Nat) (h : n < 18446744073709551616) : (BitVec.ofInt (IntKind.bits .u64) (n : Int)).toNat = n := by
 show (BitVec.ofInt 64 (n : Int)).toNat = n
 rw [fJ, BitVec.toNat_ofNat]
 exact gk (by simpa using h)
theorem b2G (b n : Nat) (h : n ≤ 8) (hb : b < 256) : IntKind.wrap .u64 ((BitVec.ofInt (IntKind.bits .u64) (b : Int) &&& BitVec.ofInt (IntKind.bits .u64) (IntKind.wrap .u64 (IntKind.wrap .u64 (1 * 2 ^ min n (IntKind.bits .u64)) - 1))).toNat : Int) = ((b % 2 ^ n : Nat) : Int) := by
 have key : IntKind.wrap .u64 (IntKind.wrap .u64 (1 * 2 ^ min n (IntKind.bits .u64)) - 1) = ((2 ^ n - 1 : Nat) : Int) := by
  have : n = 0 ∨ n = 1 ∨ n = 2 ∨ n = 3 ∨ n = 4 ∨ n = 5 ∨ n = 6 ∨ n = 7 ∨ n = 8 := by omega
  rcases this with rfl | rfl | rfl | rfl | rfl | rfl | rfl | rfl | rfl <;> rfl
 have hp : 2 ^ n ≤ 2 ^ 8 := fb (by decide) h
 have e8 : 2 ^ 8 = 256 := rfl
 rw [key, gu, tA b (by omega), tA _ (by omega), Nat.and_two_pow_sub_one_eq_mod]
 have : b % 2 ^ n ≤ b := Nat.mod_le _ _
 exact nH _ (by omega) (by omega)
theorem b1P {o : Org} (b : Nat → Nat) (ho : organE o = 0) : pY o (tP o b) = 0 := by
 have hz : ∀ x n : Nat, (x % 2 ^ n) >>> n = 0 := fun x n => by
  rw [eE]
  exact gr (eF _ (Nat.two_pow_pos n))
 unfold pY tP
 rw [if_neg (by rw [ho]; simp), if_neg (by simp), if_neg, if_neg (by simp only [hz]; simp)]
 rintro ⟨j, hj, hne⟩
 simp only at hne
 rw [jY _ j (by simpa using hj)] at hne
 simp only [List.getElem_map, List.getElem_range, hz, ne_eq, not_true_eq_false] at hne
theorem a8A (o : Org) (ho : o.In H) (h1 : o.cpls.length ≤ 3) (h2 : o.dvs.length ≤ 3) (h3 : ∀ j, j < o.dvs.length → (gU o.dvs j).stops.length ≤ 3) (b : Nat → Nat) (hb : ∀ i, b i < 256) :
 Fn prog 13 [.agg #[.string o.name, o.rv, o.dv, o.cv], .agg #[.int .u8 (b 0), .int .u8 (b 1), .int .u8 (b 2), .int .u8 (b 3), .int .u8 (b 4)]] H fun r H' =>
  ∃ sv, r = .agg #[sv, .int .u64 (tP o b).cpl, .int .u64 (tP o b).off] ∧ St prog H H' [⟨sv, 1, ((tP o b).stops).flatMap (one u64)⟩] := by
 have k0 := hb 0
 have k1 := hb 1
 have k2 := hb 2
 have k3 := hb 3
 have k4 := hb 4
 refine .aG func13 rfl (by kernel_rfl) (m := 57) rfl fun l hn g0 g1 => ?_
 simp (disch := omega) only [↓RA, RB, simprocAttr, g0]
 refine (sR H).eNew 4 [(.string o.name), o.rv, o.dv, o.cv] rfl rfl (by simp [OC, ((sR H).sl ho.1).cells.2.1, ((sR H).sl ho.2.2.1).cells.2.1, ((sR H).sl ho.2.2.2.2.1).cells.2.1]) mT fun A1 H1 hS1 => ?_
 simp only [RT] at hS1
 simp (disch := omega) only [↓RA, RB, simprocAttr, g1]
 refine hS1.eNew 5 [(.int .u8 (b 0)), (.int .u8 (b 1)), (.int .u8 (b 2)), (.int .u8 (b 3)), (.int .u8 (b 4))] rfl rfl rfl c0O fun A2 H2 hS2 => ?_
 simp only [RT] at hS2
 simp (disch := omega) only [↓RA, RZ, simprocAttr]
 refine hS2.eNew 3 [(.slice none 0 0), (.int .u64 0), (.int .u64 0)] rfl rfl rfl qP fun A3 H3 hS3 => ?_
 simp only [RT] at hS3
 simp (disch := omega) only [↓RA, RZ, simprocAttr, hn, hS3.ld 1 rfl, hS3.ld 0 rfl, (hS3.sl ho.2.2.2.2.1).len, (hS3.sl ho.2.2.1).len, b4K]
 refine hS3.eNew 3 [(.slice none 0 0), (.int .u64 0), (.int .u64 0)] rfl rfl rfl qP fun A4 H4 hS4 => ?_
 simp only [RT] at hS4
 simp (disch := omega) only [↓RA, RB, simprocAttr, hn]
 refine hS4.aa 3 rfl [(.slice none 0 0), _, _] rfl rfl qP (by simp) fun H5 hS5 => ?_
 simp only [RT] at hS5
 simp (disch := omega) only [↓RA, RB, simprocAttr]
 have m1 := b2G (b 3) o.cpls.length (by omega) (hb 3)
 have m2 := b2G (b 4) o.dvs.length (by omega) (hb 4)
 have hS6 := hS5.nil 0
 simp only [RT] at hS6
 simp only [m1, m2] at hS6
 refine Wp.al (fun n l H' => l.length = 57 ∧ get l 2 = (ptr A1 0 4) ∧ get l 3 = (ptr A2 0 5) ∧ get l 4 = (ptr A3 0 3) ∧ get l 5 = (ptr A4 0 3) ∧ ∃ (i : Nat) (sv : Value), (n + i = o.dvs.length) ∧ get l 6 = I i ∧ St prog H H' [⟨ptr A1 0 4, 0, [(.string o.name), o.rv, o.dv, o.cv]⟩, ⟨ptr A2 0 5, 0, [(.int .u8 (b 0)), (.int .u8 (b 1)), (.int .u8 (b 2)), (.int .u8 (b 3)), (.int .u8 (b 4))]⟩, ⟨ptr A3 0 3, 0, [(.slice none 0 0), (.int .u64 0), (.int .u64 0)]⟩, ⟨ptr A4 0 3, 0, [sv, .int .u64 (b 3 % 2 ^ o.cpls.length : Nat), .int .u64 (b 4 % 2 ^ o.dvs.length : Nat)]⟩, ⟨sv, 1, ((List.range i).map fun i => b (i % 3) % 2 ^ (gU o.dvs i).stops.length).flatMap (one u64)⟩]) o.dvs.length ?_ ?_
 ·simp (disch := omega) only [RB, RC, simprocAttr, hn]
  exact ⟨0, _, by omega, rfl, hS6⟩
 rintro n l H6 ⟨hn, g2, g3, g4, g5, i, sv, hi, g6, hS7⟩
 simp (disch := omega) only [↓RA, RZ, simprocAttr, hn, g2, g6, hS7.ld 0 rfl, (hS7.sl ho.2.2.1).len]
 refine gT (fun q => ?_) (fun q => ?_)
 ·have hi3 : (i : Int).tmod 3 = ((i % 3 : Nat) : Int) := (dT i 3).symm
  have hw : ([Value.int .u8 (b 0), .int .u8 (b 1), .int .u8 (b 2), .int .u8 (b 3), .int .u8 (b 4)] : List Value)[i % 3]? = some (.int .u8 (b (i % 3))) := by
   have : i % 3 = 0 ∨ i % 3 = 1 ∨ i % 3 = 2 := by omega
   rcases this with e | e | e <;> rw [e] <;> rfl
  have hst := h3 i (by omega)
  have hbi := hb (i % 3)
  have m3 := b2G (b (i % 3)) (gU o.dvs i).stops.length (by omega) (hb _)
  simp (disch := omega) only [↓RA, RC, simprocAttr, q]
  refine Wp.aT jU [(1, 19)] (by kernel_rfl) (by kernel_rfl) ?_
  simp (disch := omega) only [↓RA, RZ, simprocAttr, hn, g2, g3, g5, g6, hS7.ld 3 rfl, hS7.ld 1 rfl, hw, hS7.ld 0 rfl, (hS7.sl ho.2.2.1).idx, (hS7.sl ho.2.2.1).bf, (hS7.sl ho.2.2.1).ld, Dvn.cells, (hS7.sl (ho.2.2.2.1 (gU o.dvs i) (gX (by omega))).1).len, hi3, m3]
  refine hS7.ae [_] c0P c1m rfl rfl (by simp [Value.cells]) rfl rfl (by decide) (by decide) fun w1 H7 hS8 => ?_
  simp only [RT] at hS8
  simp (disch := omega) only [↓RA, RZ, simprocAttr, hn]
  refine hS8.aq 4 rfl (hS8.rd 5 rfl) c0P (by rw [iL (n := 1) (cel := one u64) (fun _ => rfl)]; simp; omega) fun w2 H8 hS9 => ?_
  simp only [RT] at hS9
  simp (disch := omega) only [↓RA, RZ, simprocAttr, hn, g5]
  refine hS9.aa 3 rfl [w2] (by rw [(hS9.rd 4 rfl).cells.1]) (by simp [(hS9.rd 4 rfl).cells.2.1]) c1Y (by simp) fun H9 hS10 => ?_
  simp only [RT] at hS10
  simp (disch := omega) only [↓RA, RZ, simprocAttr, hn, g2, g3, g4, g5, g6, hS8.ld 3 rfl]
  refine ⟨n - 1, by omega, i + 1, w2, by omega, rfl, ?_⟩
  rw [dS, dM, dG]
  exact hS10.pick [0, 1, 2, 3, 4] (by decide) rfl
 simp (disch := omega) only [↓RA, RZ, simprocAttr, hn, g4, g5, hS7.aj 3 rfl, q]
 refine hS7.aa 2 rfl [sv, (.int .u64 (b 3 % 2 ^ o.cpls.length : Nat)), (.int .u64 (b 4 % 2 ^ o.dvs.length : Nat))] rfl (by simp [OC, (hS7.rd 4 rfl).cells.2.1]) qP (by simp) fun H10 hS11 => ?_
 simp only [RT] at hS11
 simp (disch := omega) only [↓RA, RZ, simprocAttr, g4, c4W, hS11.aj 2 rfl, q]
 have hii : i = o.dvs.length := by omega
 subst hii
 exact ⟨sv, rfl, hS11.pick [4] (by decide) rfl⟩
end Go.Ds
namespace Go.Ds
open Go.Proofs Go.Proofs.Tryz
variable {H : Heap}
set_option maxRecDepth 10000
theorem b9A : a9O prog 46 = some (1 + 1) := by kernel_rfl
theorem c1B : a9O prog 58 = some (1 + 1) := by kernel_rfl
theorem a6k {B : Base} {v : Value} {es : List (Int × Int)} (hS : St prog B H [⟨v, 2, pr es⟩]) (hl : es.length < 100000000000) :
 Fn prog 92 [v] H fun r H' => ∃ rest : List Value, (∀ b, jW r = some b → jW v = some b) ∧ (∀ H2, RdAt H2 v 2 (pr (dd es) ++ rest) → RdAt H2 r 2 (pr (dd es))) ∧ St prog B H' [⟨v, 2, pr (dd es) ++ rest⟩] := by
 refine .aR func92 rfl (by kernel_rfl) (m := 61) rfl fun l hn g0 => ?_
 simp (disch := omega) only [↓RA, RZ, simprocAttr, hn, g0, (hS.ax 0 rfl (fun _ => rfl)).len]
 refine gT (fun h => ?_) (fun h => ?_)
 ·have hd := rP es es.length (da _) fun j h1 h2 => by omega
  rw [eo] at hd
  simp (disch := omega) only [↓RA, RZ, simprocAttr, hn, g0, b9d, h]
  exact ⟨[], fun _ h => h, by unfold dd; rw [hd, di]; exact fun _ h => h, by unfold dd; rw [hd, di]; exact hS⟩
 simp (disch := omega) only [↓RA, RZ, simprocAttr, h]
 refine Wp.al (fun n l H' => l.length = 61 ∧ get l 0 = v ∧ ∃ (k : Nat), (0 < k ∧ n + k = es.length ∧ ∀ j, 0 < j → j < k → gU es j ≠ gU es (j - 1)) ∧ get l 3 = I k ∧ St prog B H' [⟨v, 2, pr es⟩]) (es.length - 1) ?_ ?_
 ·simp (disch := omega) only [RB, RC, simprocAttr, hn, g0]
  exact ⟨1, ⟨by omega, by omega, fun j h1 h2 => by omega⟩, rfl, hS⟩
 rintro n l H1 ⟨hn, g0, k, ⟨hk0,hk,hdis⟩, g3, hS1⟩
 simp (disch := omega) only [↓RA, RZ, simprocAttr, hn, g0, g3, (hS1.ax 0 rfl (fun _ => rfl)).len]
 refine gT (fun h2 => ?_) (fun h2 => ?_)
 ·have hkl : k < es.length := by omega
  have hpre : (k : Int) - 1 = ((k - 1 : Nat) : Int) := by omega
  simp (disch := omega) only [↓RA, RC, simprocAttr, h2]
  refine Wp.drw jU (by kernel_rfl) ?_
  simp (disch := omega) only [↓RA, RZ, simprocAttr, hn, g0, g3, (hS1.ax 0 rfl (fun _ => rfl)).idx, (hS1.ax 0 rfl (fun _ => rfl)).aj, jT, hpre]
  refine gT (fun h3 => ?_) (fun h3 => ?_)
  ·have h3 : gU es k = gU es (k - 1) := fT h3.1 h3.2
   have hlen : (pr es).length = es.length * (1 + 1) := hK es
   have hpos : 0 < es.length := by omega
   have hdk := rP es k (by omega) hdis
   have hdk1 : wD es (k + 1) = es.take k := by rw [qU, hdk, if_neg (by rintro (h4 | h4); omega; exact h4 h3), di]
   have hrow : St prog B H1 [⟨v, 2, pr (wD es (k + 1) ++ es.drop k)⟩] := by rw [hdk1, List.take_append_drop]; exact hS1
   have hdl : (wD es (k + 1)).length = k := by rw [hdk1, gQ]; omega
   simp (disch := omega) only [↓RA, RZ, simprocAttr, hn, g0, g3, (hS1.ax 0 rfl (fun _ => rfl)).aP, h3]
   refine Wp.al (fun n l H' => l.length = 61 ∧ get l 0 = v ∧ ∃ k2 : Nat, (0 < k2 ∧ n + k + k2 = es.length ∧ (wD es (k + k2)).length < k + k2) ∧ get l 3 = I (wD es (k + k2)).length ∧ get l 4 = pU v 2 k (es.length - k) ∧ get l 5 = I k2 ∧ St prog B H' [⟨v, 2, pr (wD es (k + k2) ++ es.drop (wD es (k + k2)).length)⟩]) (es.length - k - 1) ?_ ?_
   ·simp (disch := omega) only [RB, RC, simprocAttr, hn, g0, g3]
    refine ⟨1, ⟨by omega, by omega, by omega⟩, by rw [hdl], by congr 1; omega, rfl, ?_⟩
    rw [hdl]
    exact hrow
   clear hrow hdk hdk1 hdl hdis
   rintro n l H9 ⟨hn, g0, k2, ⟨hk20, hk2, hlt⟩, g3, g4, g5, hS9⟩
   have hsucc := qU es (k + k2)
   generalize hD : wD es (k + k2) = D at g3 hlt hS9 hsucc
   have hrl : (D ++ es.drop D.length).length = es.length := by rw [dj, fp]; omega
   have hv : Sl 2 jT H9 v (D ++ es.drop D.length) := hS9.ax 0 rfl kH
   have hat : ∀ j, D.length ≤ j → gU (D ++ es.drop D.length) j = gU es j := fun j hj => by
    unfold gU
    rw [cW, ee hj, dr, cW]
    congr 2; omega
   have hsub : Sl 2 jT H9 (pU v 2 k ((D ++ es.drop D.length).length - k)) ((D ++ es.drop D.length).drop k) := hv.cw k (by omega) (by omega)
   rw [hrl] at hsub
   have hsl : ((D ++ es.drop D.length).drop k).length = es.length - k := by rw [fp, hrl]
   have hsat : ∀ j, D.length ≤ k + j → gU ((D ++ es.drop D.length).drop k) j = gU es (k + j) := fun j hj => by
    rw [← hat (k + j) hj]
    unfold gU
    rw [cW, dr, cW]
   have hbd : ((es.length - k : Nat) : Int) = (es.length : Int) - k := by omega
   simp (disch := omega) only [↓RA, RZ, simprocAttr, hn, g4, g5, hsub.len, hsl, hbd]
   refine gT (fun h4 => ?_) (fun h4 => ?_)
   ·have hj : k + k2 < es.length := by omega
    have hpre2 : (k2 : Int) - 1 = ((k2 - 1 : Nat) : Int) := by omega
    have e1 := hsat k2 (by omega)
    have e2 := hsat (k2 - 1) (by omega)
    rw [show k + (k2 - 1) = k + k2 - 1 from by omega] at e2
    simp (disch := omega) only [↓RA, RC, simprocAttr, h4]
    refine Wp.drw jU (by kernel_rfl) ?_
    simp (disch := omega) only [↓RA, RZ, simprocAttr, hn, g4, g5, hsub.idx, hsub.aj, jT, hpre2, e1, e2]
    refine gT (fun h5 => ?_) (fun h5 => ?_)
    ·have hne : gU es (k + k2) ≠ gU es (k + k2 - 1) := fun e => h5 (by rw [e]; exact ⟨rfl, rfl⟩)
     rw [if_pos (.inr hne)] at hsucc
     simp (disch := omega) only [↓RA, RZ, simprocAttr, hn, g0, g3, g4, g5, hsub.idx, hsub.aj, jT, e1, h5]
     simp (disch := omega) only [↓RA, RZ, simprocAttr, hn, (hS9.ax 0 rfl (fun _ => rfl)).idx, h5]
     refine hS9.bu 0 rfl [I (gU es (k + k2)).1, I (gU es (k + k2)).2] rfl rfl nR (by simp) (by rw [hK, hrl]; simp; omega) fun H2 hS2 => ?_
     simp only [RT] at hS2
     simp (disch := omega) only [↓RA, RZ, simprocAttr, hn, g0, g3, g4, g5, h5]
     refine ⟨n - 1, by omega, k2 + 1, ?_⟩
     rw [show k + (k2 + 1) = k + k2 + 1 from by omega, hsucc]
     refine ⟨⟨by omega, by omega, by simp; omega⟩, by simp, by simp, ?_⟩
     have e3 : pr (D ++ [gU es (k + k2)] ++ es.drop (D ++ [gU es (k + k2)]).length) = ((pr (D ++ es.drop D.length)).set (D.length * 2) (I (gU es (k + k2)).1)).set (D.length * 2 + 1) (I (gU es (k + k2)).2) := by
      have hx : es.drop D.length = gU es D.length :: es.drop (D.length + 1) := by
       rw [jY es _ (by omega)]
       exact fm (by omega)
      rw [hx, dj, List.length_singleton, jE, jE, jE]
      have e4 : pr (gU es D.length :: es.drop (D.length + 1)) = I (gU es D.length).1 :: I (gU es D.length).2 :: pr (es.drop (D.length + 1)) := rfl
      have e5 : pr [gU es (k + k2)] = [I (gU es (k + k2)).1, I (gU es (k + k2)).2] := rfl
      have e6 : (pr D).length = D.length * 2 := hK D
      rw [e4, e5, fo _ _ (by omega), fo _ _ (by omega), e6, Nat.sub_self, fS]
      simp
     rw [e3]
     exact hS2
    have heq : gU es (k + k2) = gU es (k + k2 - 1) := by
     have h6 := dA.1 h5
     exact fT h6.1 h6.2
    rw [if_neg (by rintro (h6 | h6); omega; exact h6 heq), di] at hsucc
    simp (disch := omega) only [↓RA, RZ, simprocAttr, hn, g0, g3, g4, g5, h5]
    refine ⟨n - 1, by omega, k2 + 1, ?_⟩
    rw [show k + (k2 + 1) = k + k2 + 1 from by omega, hsucc]
    exact ⟨⟨by omega, by omega, by omega⟩, rfl, by simp, hS9⟩
   have hke : k + k2 = es.length := by omega
   rw [hke] at hD
   have hcl : (pr (D ++ es.drop D.length)).length = es.length * (1 + 1) := by rw [hK, hrl]
   have hDn : D.length ≤ es.length := by omega
   simp (disch := omega) only [↓RA, RZ, simprocAttr, hn, g0, g3, (hS9.ax 0 rfl (fun _ => rfl)).aP, h4]
   rw [show (((D ++ es.drop D.length).length : Int) - D.length).toNat = es.length - D.length from by rw [hrl]; omega]
   refine hS9.bI (size := 1) 0 rfl D.length (es.length - D.length) (by rw [hcl]; omega) (by
    intro e
    have h2 : (pr (D ++ es.drop D.length)).length = 0 := by rw [e]; rfl
    rw [hK, hrl] at h2; omega) b9A fun z H3 hz hSc => ?_
   simp only [RT] at hSc
   have e3 : iQ (pr (D ++ es.drop D.length)) (D.length * 2) z = pr D ++ z := by
    rw [jE, show D.length * 2 = (pr D).length from (hK D).symm, mF z (pr D) (pr (es.drop D.length)) (by rw [hK, fp]; omega)]
    rw [List.drop_of_length_le (by rw [hK, fp]; omega), di]
   rw [show D.length * (1 + 1) = D.length * 2 from rfl, e3] at hSc
   have hw : RdAt H3 v (1 + 1) (pr D ++ z) := hSc.rd 0 rfl
   have hwl : (pr D ++ z).length = es.length * (1 + 1) := by rw [dj, hK, hz]; omega
   simp (disch := omega) only [↓RA, RZ, simprocAttr, hn, g0, g3, hw.aQ hwl, b9d, h4]
   refine ⟨z, fun b h => a5I h, fun H2 h2 => ?_, by unfold dd; rw [hD]; exact hSc⟩
   unfold dd at h2 ⊢
   rw [hD] at h2 ⊢
   have h5 := RdAt.sub h2 0 D.length (by rw [hwl]; omega) (by
    intro e
    rw [e] at hwl
    simp at hwl; omega)
   rw [Nat.zero_mul, List.drop_zero, show D.length * 2 = (pr D).length from (hK D).symm, List.take_left' rfl] at h5
   exact h5
  have hne : gU es k ≠ gU es (k - 1) := fun e => h3 (by rw [e]; exact ⟨rfl, rfl⟩)
  simp (disch := omega) only [↓RA, RZ, simprocAttr, hn, g0, g3, h3]
  refine ⟨n - 1, by omega, k + 1, ⟨by omega, by omega, fun j h4 h5 => ?_⟩, by simp, hS1⟩
  by_cases e : j = k
  ·rw [e]; exact hne
  ·exact hdis j h4 (by omega)
 have hke : k = es.length := by omega
 have hd := rP es es.length (da _) (hke ▸ hdis)
 rw [eo] at hd
 simp (disch := omega) only [↓RA, RZ, simprocAttr, hn, g0, b9d, h2]
 exact ⟨[], fun _ h => h, by unfold dd; rw [hd, di]; exact fun _ h => h, by unfold dd; rw [hd, di]; exact hS1⟩
theorem zK {B : Base} {v : Value} {es : List (Int × Int)} (hS : St prog B H [⟨v, 2, pr es⟩]) (hl : es.length < 100000000000) :
 Fn prog 64 [v] H fun r H' => ∃ rest : List Value, (∀ b, jW r = some b → jW v = some b) ∧ (∀ H2, RdAt H2 v 2 (pr (dd es) ++ rest) → RdAt H2 r 2 (pr (dd es))) ∧ St prog B H' [⟨v, 2, pr (dd es) ++ rest⟩] := by
 refine .aR func64 rfl (by kernel_rfl) (m := 61) rfl fun l hn g0 => ?_
 simp (disch := omega) only [↓RA, RZ, simprocAttr, hn, g0, (hS.ax 0 rfl (fun _ => rfl)).len]
 refine gT (fun h => ?_) (fun h => ?_)
 ·have hd := rP es es.length (da _) fun j h1 h2 => by omega
  rw [eo] at hd
  simp (disch := omega) only [↓RA, RZ, simprocAttr, hn, g0, c0R, h]
  exact ⟨[], fun _ h => h, by unfold dd; rw [hd, di]; exact fun _ h => h, by unfold dd; rw [hd, di]; exact hS⟩
 simp (disch := omega) only [↓RA, RZ, simprocAttr, h]
 refine Wp.al (fun n l H' => l.length = 61 ∧ get l 0 = v ∧ ∃ (k : Nat), (0 < k ∧ n + k = es.length ∧ ∀ j, 0 < j → j < k → gU es j ≠ gU es (j - 1)) ∧ get l 3 = I k ∧ St prog B H' [⟨v, 2, pr es⟩]) (es.length - 1) ?_ ?_
 ·simp (disch := omega) only [RB, RC, simprocAttr, hn, g0]
  exact ⟨1, ⟨by omega, by omega, fun j h1 h2 => by omega⟩, rfl, hS⟩
 rintro n l H1 ⟨hn, g0, k, ⟨hk0,hk,hdis⟩, g3, hS1⟩
 simp (disch := omega) only [↓RA, RZ, simprocAttr, hn, g0, g3, (hS1.ax 0 rfl (fun _ => rfl)).len]
 refine gT (fun h2 => ?_) (fun h2 => ?_)
 ·have hkl : k < es.length := by omega
  have hpre : (k : Int) - 1 = ((k - 1 : Nat) : Int) := by omega
  simp (disch := omega) only [↓RA, RC, simprocAttr, h2]
  refine Wp.drw jU (by kernel_rfl) ?_
  simp (disch := omega) only [↓RA, RZ, simprocAttr, hn, g0, g3, (hS1.ax 0 rfl (fun _ => rfl)).idx, (hS1.ax 0 rfl (fun _ => rfl)).aj, jT, hpre]
  refine gT (fun h3 => ?_) (fun h3 => ?_)
  ·have h3 : gU es k = gU es (k - 1) := fT h3.1 h3.2
   have hlen : (pr es).length = es.length * (1 + 1) := hK es
   have hpos : 0 < es.length := by omega
   have hdk := rP es k (by omega) hdis
   have hdk1 : wD es (k + 1) = es.take k := by rw [qU, hdk, if_neg (by rintro (h4 | h4); omega; exact h4 h3), di]
   have hrow : St prog B H1 [⟨v, 2, pr (wD es (k + 1) ++ es.drop k)⟩] := by rw [hdk1, List.take_append_drop]; exact hS1
   have hdl : (wD es (k + 1)).length = k := by rw [hdk1, gQ]; omega
   simp (disch := omega) only [↓RA, RZ, simprocAttr, hn, g0, g3, (hS1.ax 0 rfl (fun _ => rfl)).aP, h3]
   refine Wp.al (fun n l H' => l.length = 61 ∧ get l 0 = v ∧ ∃ k2 : Nat, (0 < k2 ∧ n + k + k2 = es.length ∧ (wD es (k + k2)).length < k + k2) ∧ get l 3 = I (wD es (k + k2)).length ∧ get l 4 = pU v 2 k (es.length - k) ∧ get l 5 = I k2 ∧ St prog B H' [⟨v, 2, pr (wD es (k + k2) ++ es.drop (wD es (k + k2)).length)⟩]) (es.length - k - 1) ?_ ?_
   ·simp (disch := omega) only [RB, RC, simprocAttr, hn, g0, g3]
    refine ⟨1, ⟨by omega, by omega, by omega⟩, by rw [hdl], by congr 1; omega, rfl, ?_⟩
    rw [hdl]
    exact hrow
   clear hrow hdk hdk1 hdl hdis
   rintro n l H9 ⟨hn, g0, k2, ⟨hk20, hk2, hlt⟩, g3, g4, g5, hS9⟩
   have hsucc := qU es (k + k2)
   generalize hD : wD es (k + k2) = D at g3 hlt hS9 hsucc
   have hrl : (D ++ es.drop D.length).length = es.length := by rw [dj, fp]; omega
   have hv : Sl 2 jT H9 v (D ++ es.drop D.length) := hS9.ax 0 rfl kH
   have hat : ∀ j, D.length ≤ j → gU (D ++ es.drop D.length) j = gU es j := fun j hj => by
    unfold gU
    rw [cW, ee hj, dr, cW]
    congr 2; omega
   have hsub : Sl 2 jT H9 (pU v 2 k ((D ++ es.drop D.length).length - k)) ((D ++ es.drop D.length).drop k) := hv.cw k (by omega) (by omega)
   rw [hrl] at hsub
   have hsl : ((D ++ es.drop D.length).drop k).length = es.length - k := by rw [fp, hrl]
   have hsat : ∀ j, D.length ≤ k + j → gU ((D ++ es.drop D.length).drop k) j = gU es (k + j) := fun j hj => by
    rw [← hat (k + j) hj]
    unfold gU
    rw [cW, dr, cW]
   have hbd : ((es.length - k : Nat) : Int) = (es.length : Int) - k := by omega
   simp (disch := omega) only [↓RA, RZ, simprocAttr, hn, g4, g5, hsub.len, hsl, hbd]
   refine gT (fun h4 => ?_) (fun h4 => ?_)
   ·have hj : k + k2 < es.length := by omega
    have hpre2 : (k2 : Int) - 1 = ((k2 - 1 : Nat) : Int) := by omega
    have e1 := hsat k2 (by omega)
    have e2 := hsat (k2 - 1) (by omega)
    rw [show k + (k2 - 1) = k + k2 - 1 from by omega] at e2
    simp (disch := omega) only [↓RA, RC, simprocAttr, h4]
    refine Wp.drw jU (by kernel_rfl) ?_
    simp (disch := omega) only [↓RA, RZ, simprocAttr, hn, g4, g5, hsub.idx, hsub.aj, jT, hpre2, e1, e2]
    refine gT (fun h5 => ?_) (fun h5 => ?_)
    ·have hne : gU es (k + k2) ≠ gU es (k + k2 - 1) := fun e => h5 (by rw [e]; exact ⟨rfl, rfl⟩)
     rw [if_pos (.inr hne)] at hsucc
     simp (disch := omega) only [↓RA, RZ, simprocAttr, hn, g0, g3, g4, g5, hsub.idx, hsub.aj, jT, e1, h5]
     simp (disch := omega) only [↓RA, RZ, simprocAttr, hn, (hS9.ax 0 rfl (fun _ => rfl)).idx, h5]
     refine hS9.bu 0 rfl [I (gU es (k + k2)).1, I (gU es (k + k2)).2] rfl rfl vV (by simp) (by rw [hK, hrl]; simp; omega) fun H2 hS2 => ?_
     simp only [RT] at hS2
     simp (disch := omega) only [↓RA, RZ, simprocAttr, hn, g0, g3, g4, g5, h5]
     refine ⟨n - 1, by omega, k2 + 1, ?_⟩
     rw [show k + (k2 + 1) = k + k2 + 1 from by omega, hsucc]
     refine ⟨⟨by omega, by omega, by simp; omega⟩, by simp, by simp, ?_⟩
     have e3 : pr (D ++ [gU es (k + k2)] ++ es.drop (D ++ [gU es (k + k2)]).length) = ((pr (D ++ es.drop D.length)).set (D.length * 2) (I (gU es (k + k2)).1)).set (D.length * 2 + 1) (I (gU es (k + k2)).2) := by
      have hx : es.drop D.length = gU es D.length :: es.drop (D.length + 1) := by
       rw [jY es _ (by omega)]
       exact fm (by omega)
      rw [hx, dj, List.length_singleton, jE, jE, jE]
      have e4 : pr (gU es D.length :: es.drop (D.length + 1)) = I (gU es D.length).1 :: I (gU es D.length).2 :: pr (es.drop (D.length + 1)) := rfl
      have e5 : pr [gU es (k + k2)] = [I (gU es (k + k2)).1, I (gU es (k + k2)).2] := rfl
      have e6 : (pr D).length = D.length * 2 := hK D
      rw [e4, e5, fo _ _ (by omega), fo _ _ (by omega), e6, Nat.sub_self, fS]
      simp
     rw [e3]
     exact hS2
    have heq : gU es (k + k2) = gU es (k + k2 - 1) := by
     have h6 := dA.1 h5
     exact fT h6.1 h6.2
    rw [if_neg (by rintro (h6 | h6); omega; exact h6 heq), di] at hsucc
    simp (disch := omega) only [↓RA, RZ, simprocAttr, hn, g0, g3, g4, g5, h5]
    refine ⟨n - 1, by omega, k2 + 1, ?_⟩
    rw [show k + (k2 + 1) = k + k2 + 1 from by omega, hsucc]
    exact ⟨⟨by omega, by omega, by omega⟩, rfl, by simp, hS9⟩
   have hke : k + k2 = es.length := by omega
   rw [hke] at hD
   have hcl : (pr (D ++ es.drop D.length)).length = es.length * (1 + 1) := by rw [hK, hrl]
   have hDn : D.length ≤ es.length := by omega
   simp (disch := omega) only [↓RA, RZ, simprocAttr, hn, g0, g3, (hS9.ax 0 rfl (fun _ => rfl)).aP, h4]
   rw [show (((D ++ es.drop D.length).length : Int) - D.length).toNat = es.length - D.length from by rw [hrl]; omega]
   refine hS9.bI (size := 1) 0 rfl D.length (es.length - D.length) (by rw [hcl]; omega) (by
    intro e
    have h2 : (pr (D ++ es.drop D.length)).length = 0 := by rw [e]; rfl
    rw [hK, hrl] at h2; omega) c1B fun z H3 hz hSc => ?_
   simp only [RT] at hSc
   have e3 : iQ (pr (D ++ es.drop D.length)) (D.length * 2) z = pr D ++ z := by
    rw [jE, show D.length * 2 = (pr D).length from (hK D).symm, mF z (pr D) (pr (es.drop D.length)) (by rw [hK, fp]; omega)]
    rw [List.drop_of_length_le (by rw [hK, fp]; omega), di]
   rw [show D.length * (1 + 1) = D.length * 2 from rfl, e3] at hSc
   have hw : RdAt H3 v (1 + 1) (pr D ++ z) := hSc.rd 0 rfl
   have hwl : (pr D ++ z).length = es.length * (1 + 1) := by rw [dj, hK, hz]; omega
   simp (disch := omega) only [↓RA, RZ, simprocAttr, hn, g0, g3, hw.aQ hwl, c0R, h4]
   refine ⟨z, fun b h => a5I h, fun H2 h2 => ?_, by unfold dd; rw [hD]; exact hSc⟩
   unfold dd at h2 ⊢
   rw [hD] at h2 ⊢
   have h5 := RdAt.sub h2 0 D.length (by rw [hwl]; omega) (by
    intro e
    rw [e] at hwl
    simp at hwl; omega)
   rw [Nat.zero_mul, List.drop_zero, show D.length * 2 = (pr D).length from (hK D).symm, List.take_left' rfl] at h5
   exact h5
  have hne : gU es k ≠ gU es (k - 1) := fun e => h3 (by rw [e]; exact ⟨rfl, rfl⟩)
  simp (disch := omega) only [↓RA, RZ, simprocAttr, hn, g0, g3, h3]
  refine ⟨n - 1, by omega, k + 1, ⟨by omega, by omega, fun j h4 h5 => ?_⟩, by simp, hS1⟩
  by_cases e : j = k
  ·rw [e]; exact hne
  ·exact hdis j h4 (by omega)
 have hke : k = es.length := by omega
 have hd := rP es es.length (da _) (hke ▸ hdis)
 rw [eo] at hd
 simp (disch := omega) only [↓RA, RZ, simprocAttr, hn, g0, c0R, h2]
 exact ⟨[], fun _ h => h, by unfold dd; rw [hd, di]; exact fun _ h => h, by unfold dd; rw [hd, di]; exact hS1⟩
end Go.Ds
namespace Go.Ds
open Go.Proofs Go.Proofs.Tryz
variable {H : Heap}
theorem a6y (a : Int) : Fn prog 116 [I a] H fun r H' => r = .bool false ∧ St prog H H' [] := by
 refine .aR func116 rfl (by kernel_rfl) (m := 6) rfl fun l hn g0 => ?_
 simp (disch := omega) only [↓RA, RZ, simprocAttr, hn, g0, c1y]
 exact .refl _ _
def rK (a b : Int) : Int := if a < b then -1 else if b < a then 1 else 0
theorem uE (a b : Int) : Fn prog 80 [I a, I b] H fun r H' => r = I (rK a b) ∧ St prog H H' [] := by
 refine .aG func80 rfl (by kernel_rfl) (m := 20) rfl fun l hn g0 g1 => ?_
 simp (disch := omega) only [↓RA, RZ, simprocAttr, hn, g0]
 refine (sR H).cF (a6y _) fun H1 hS1 => ?_
 simp (disch := omega) only [↓RA, RZ, simprocAttr, hn, g1]
 refine hS1.cF (a6y _) fun H2 hS2 => ?_
 simp (disch := omega) only [↓RA, RB, simprocAttr, hn, g0, g1]
 refine gT (fun h => ?_) (fun h => ?_)
 ·simp (disch := omega) only [↓RA, RZ, simprocAttr, hn, b9W, h]
  exact ⟨by simp [rK, h], hS2⟩
 simp (disch := omega) only [↓RA, RZ, simprocAttr, hn, g0, g1, h]
 refine gT (fun h2 => ?_) (fun h2 => ?_)
 ·simp (disch := omega) only [↓RA, RZ, simprocAttr, hn, b9W, h, h2]
  exact ⟨by simp [rK, h, h2], hS2⟩
 simp (disch := omega) only [↓RA, RZ, simprocAttr, hn, b9W, h, h2]
 exact ⟨by simp [rK, h, h2], hS2⟩
def orI : List Int → Int
 | [] => 0
 | a :: l => if a = 0 then orI l else a
theorem a1A (xs : List Int) : ∀ i, i ≤ xs.length → (∀ j, j < i → gU xs j = 0) → orI xs = orI (xs.drop i)
 | 0, _, _ => rfl
 | i + 1, hi, h => by
   rw [a1A xs i (by omega) (fun j hj => h j (by omega)), wX xs i (by omega), orI, if_pos (h i (by omega))]
theorem b5k (v : Value) (xs : List Int) (hv : Sl 1 (one I) H v xs) (hl : xs.length < 1000000) : Fn prog 123 [v] H fun r H' => r = I (orI xs) ∧ St prog H H' [] := by
 refine .aR func123 rfl (by kernel_rfl) (m := 18) rfl fun l hn g0 => ?_
 simp (disch := omega) only [↓RA, RZ, simprocAttr, hn, g0, ((sR H).sl hv).len]
 refine Wp.al (fun n l H' => l.length = 18 ∧ get l 3 = I 0 ∧ get l 6 = v ∧ get l 7 = I xs.length ∧ ∃ (i : Nat), (n + i = xs.length ∧ ∀ j, j < i → gU xs j = 0) ∧ get l 8 = I i ∧ St prog H H' []) xs.length ?_ ?_
 ·simp (disch := omega) only [RB, RC, simprocAttr, hn]
  exact ⟨0, ⟨by omega, by simp⟩, rfl, (sR H)⟩
 rintro n l H1 ⟨hn, g3, g6, g7, i, ⟨hi,h0⟩, g8, hS1⟩
 simp (disch := omega) only [↓RA, RB, simprocAttr, hn, g7, g8]
 refine gT (fun h => ?_) (fun h => ?_)
 ·simp (disch := omega) only [↓RA, RZ, simprocAttr, hn, g3, g6, g8, (hS1.sl hv).idx, (hS1.sl hv).ld, one, h]
  refine gT (fun h2 => ?_) (fun h2 => ?_)
  ·simp (disch := omega) only [↓RA, RZ, simprocAttr, hn, b8U, h, h2]
   refine ⟨?_, hS1⟩
   rw [a1A xs i (by omega) h0, wX xs i (by omega), orI, if_neg h2]
  simp (disch := omega) only [↓RA, RZ, simprocAttr, hn, g3, g6, g7, g8, h, h2]
  exact ⟨n - 1, by omega, i + 1, ⟨by omega, fun j hj => by by_cases e : j = i; (· subst e; exact dA.1 h2); exact h0 j (by omega)⟩, by simp, hS1⟩
 simp (disch := omega) only [↓RA, RZ, simprocAttr, hn, g3, b8U, h]
 refine ⟨?_, hS1⟩
 rw [a1A xs i (by omega) h0, List.drop_eq_nil_of_le (by omega), orI]
theorem a9p (x y : Int × Int) : orI [rK x.1 y.1, rK x.2 y.2] = cf2 x y := by
 unfold cf2 rK orI orI orI
 split
 ·simp
 ·split
  ·simp
  ·simp
   intro h
   exact h.symm
theorem b8e (x y : Int × Int) : Fn prog 91 [.agg #[I x.1, I x.2], .agg #[I y.1, I y.2]] H fun r H' => r = I (cf2 x y) ∧ St prog H H' [] := by
 refine .aG func91 rfl (by kernel_rfl) (m := 17) rfl fun l hn g0 g1 => ?_
 simp (disch := omega) only [↓RA, RB, simprocAttr, g0]
 refine (sR H).eNew 2 [I x.1, I x.2] rfl rfl rfl nR fun A1 H1 hS1 => ?_
 simp only [RT] at hS1
 simp (disch := omega) only [↓RA, RB, simprocAttr, g1]
 refine hS1.eNew 2 [I y.1, I y.2] rfl rfl rfl nR fun A2 H2 hS2 => ?_
 simp only [RT] at hS2
 simp (disch := omega) only [↓RA, RB, simprocAttr]
 refine Wp.aT jU [(6, 0), (8, 0)] (by kernel_rfl) (by kernel_rfl) ?_
 simp (disch := omega) only [↓RA, RZ, simprocAttr, hn, hS2.ld 0 rfl, hS2.ld 1 rfl]
 refine hS2.cF (uE x.1 y.1) fun H3 hS3 => ?_
 simp (disch := omega) only [↓RA, RZ, simprocAttr, hn, hS3.ld 0 rfl, hS3.ld 1 rfl]
 refine hS3.cF (uE x.2 y.2) fun H4 hS4 => ?_
 simp (disch := omega) only [↓RA, RB, simprocAttr, hn]
 refine hS4.ae [I (rK x.1 y.1), I (rK x.2 y.2)] a0N a5H rfl rfl (by simp [Value.cells]) rfl rfl (by decide) (by decide) fun w1 H5 hS5 => ?_
 simp only [RT] at hS5
 simp (disch := omega) only [↓RA, RZ, simprocAttr, hn]
 refine hS5.cF (b5k w1 [rK x.1 y.1, rK x.2 y.2] (hS5.ax 2 rfl (rG _)) (by simp)) fun H6 hS6 => ?_
 simp (disch := omega) only [↓RA, RZ, simprocAttr, hn, hS2.ld 0 rfl, hS2.ld 1 rfl, c3W]
 exact ⟨by rw [a9p], hS6.forget⟩
theorem b5Y (x y : Int × Int) : Fn prog 100 [.agg #[I x.1, I x.2], .agg #[I y.1, I y.2]] H fun r H' => r = I (cf2 x y) ∧ St prog H H' [] := by
 refine .aG func100 rfl (by kernel_rfl) (m := 17) rfl fun l hn g0 g1 => ?_
 simp (disch := omega) only [↓RA, RB, simprocAttr, g0]
 refine (sR H).eNew 2 [I x.1, I x.2] rfl rfl rfl vV fun A1 H1 hS1 => ?_
 simp only [RT] at hS1
 simp (disch := omega) only [↓RA, RB, simprocAttr, g1]
 refine hS1.eNew 2 [I y.1, I y.2] rfl rfl rfl vV fun A2 H2 hS2 => ?_
 simp only [RT] at hS2
 simp (disch := omega) only [↓RA, RB, simprocAttr]
 refine Wp.aT jU [(6, 0), (8, 0)] (by kernel_rfl) (by kernel_rfl) ?_
 simp (disch := omega) only [↓RA, RZ, simprocAttr, hn, hS2.ld 0 rfl, hS2.ld 1 rfl]
 refine hS2.cF (uE x.1 y.1) fun H3 hS3 => ?_
 simp (disch := omega) only [↓RA, RZ, simprocAttr, hn, hS3.ld 0 rfl, hS3.ld 1 rfl]
 refine hS3.cF (uE x.2 y.2) fun H4 hS4 => ?_
 simp (disch := omega) only [↓RA, RB, simprocAttr, hn]
 refine hS4.ae [I (rK x.1 y.1), I (rK x.2 y.2)] a0N a5H rfl rfl (by simp [Value.cells]) rfl rfl (by decide) (by decide) fun w1 H5 hS5 => ?_
 simp only [RT] at hS5
 simp (disch := omega) only [↓RA, RZ, simprocAttr, hn]
 refine hS5.cF (b5k w1 [rK x.1 y.1, rK x.2 y.2] (hS5.ax 2 rfl (rG _)) (by simp)) fun H6 hS6 => ?_
 simp (disch := omega) only [↓RA, RZ, simprocAttr, hn, hS2.ld 0 rfl, hS2.ld 1 rfl, c2B]
 exact ⟨by rw [a9p], hS6.forget⟩
theorem b7k (x y : Int × Int) : Fn prog 179 [.agg #[I x.1, I x.2], .agg #[I y.1, I y.2]] H fun r H' => r = I (cf2 x y) ∧ St prog H H' [] := by
 refine .aG func179 rfl (by kernel_rfl) (m := 17) rfl fun l hn g0 g1 => ?_
 simp (disch := omega) only [↓RA, RB, simprocAttr, g0]
 refine (sR H).eNew 2 [I x.1, I x.2] rfl rfl rfl vV fun A1 H1 hS1 => ?_
 simp only [RT] at hS1
 simp (disch := omega) only [↓RA, RB, simprocAttr, g1]
 refine hS1.eNew 2 [I y.1, I y.2] rfl rfl rfl vV fun A2 H2 hS2 => ?_
 simp only [RT] at hS2
 simp (disch := omega) only [↓RA, RB, simprocAttr]
 refine Wp.aT jU [(6, 0), (8, 0)] (by kernel_rfl) (by kernel_rfl) ?_
 simp (disch := omega) only [↓RA, RZ, simprocAttr, hn, hS2.ld 0 rfl, hS2.ld 1 rfl]
 refine hS2.cF (uE x.1 y.1) fun H3 hS3 => ?_
 simp (disch := omega) only [↓RA, RZ, simprocAttr, hn, hS3.ld 0 rfl, hS3.ld 1 rfl]
 refine hS3.cF (uE x.2 y.2) fun H4 hS4 => ?_
 simp (disch := omega) only [↓RA, RB, simprocAttr, hn]
 refine hS4.ae [I (rK x.1 y.1), I (rK x.2 y.2)] a0N a5H rfl rfl (by simp [Value.cells]) rfl rfl (by decide) (by decide) fun w1 H5 hS5 => ?_
 simp only [RT] at hS5
 simp (disch := omega) only [↓RA, RZ, simprocAttr, hn]
 refine hS5.cF (b5k w1 [rK x.1 y.1, rK x.2 y.2] (hS5.ax 2 rfl (rG _)) (by simp)) fun H6 hS6 => ?_
 simp (disch := omega) only [↓RA, RZ, simprocAttr, hn, hS2.ld 0 rfl, hS2.ld 1 rfl, c1K]
 exact ⟨by rw [a9p], hS6.forget⟩
end Go.Ds
namespace Go.Ds
open Go.Proofs
open Go.Shelf Go.RowKit Go.Lib Go.Sort
theorem lt2 (x y : Int × Int) : ltOf cf2 x y = decide (x.1 < y.1 ∨ (x.1 = y.1 ∧ x.2 < y.2)) := by
 unfold ltOf cf2
 congr 1
 apply propext
 split
 ·omega
 ·split
  ·omega
  ·split
   ·omega
   ·split <;> omega
theorem c1q : SWO (ltOf cf2) where
 irrefl x := by rw [lt2]; simp
 trans x y z h1 h2 := by rw [lt2] at *; simp at *; omega
 ntrans x y z h1 h2 := by rw [lt2] at *; simp at *; omega
theorem c1P (x y : Int × Int) (h1 : ltOf cf2 x y = false) (h2 : ltOf cf2 y x = false) : x = y := by
 rw [lt2] at *
 simp at h1 h2
 apply fT <;> omega
theorem a8P : (fun x y => !(ltOf cf2) y x) = le2 := by
 funext x y
 rw [lt2]
 by_cases h : le2 x y = true
 ·rw [h]
  rw [mP] at h
  rw [dw, decide_eq_false_iff_not]
  omega
 ·rw [ec] at h
  rw [h]
  rw [← ec, mP] at h
  rw [Bool.not_eq_false', decide_eq_true_eq]
  omega
def a1P (P : Program) (K kc : FuncId) (sm : Int × Int → Prop) : Prop := ∀ (jW off cap : Nat) (d : Array (Int × Int)) (w : World), (∀ x ∈ d.toList, sm x) → HoldsK jT 2 w jW off d → jW < w.heap.size → d.size < 4611686018427387904 →
    Calls P K #[.slice (some ⟨jW, off, none⟩) d.size cap, .func (.func kc) #[] #[]] w fun e w' => e = .returned (.tuple #[]) ∧ ∃ n os, w' = sortWorldK jT 2 w jW off n (d.toList.mergeSort le2).toArray os
def a1W (P : Program) (K : FuncId) : Prop := ∀ (p : Option Addr) (cap : Nat) (fv : Value) (w : World), Calls P K #[.slice p 0 cap, fv] w fun e w' => e = .returned (.tuple #[]) ∧ w' = w
theorem a5T {P : Program} {kc : FuncId} {α : Type} [Inhabited α] (val : α → Int × Int) (cf : α → α → Int) (hf : ∀ x y, Fn P kc [.agg #[I (val x).1, I (val x).2], .agg #[I (val y).1, I (val y).2]] .nil fun r H' => r = I (cf x y) ∧ St P (.nil : Heap) H' []) (jW off size : Nat) (w : World) : CmpLays P kc #[] (fun x => jT (val x)) 2 cf jW off size w := by
 intro m os dk hdk x y
 generalize sortWorldK (fun x => jT (val x)) 2 w jW off m dk os = W
 obtain ⟨_, v, H1, h1, hr, _⟩ := hf x y
 have ha : All2 (V (fun _ _ => none)) [.agg #[I (val x).1, I (val x).2], .agg #[I (val y).1, I (val y).2]] (#[.agg #[I (val x).1, I (val x).2], .agg #[I (val y).1, I (val y).2]] : Array Value).toList := ⟨.of_flat rfl, .of_flat rfl, trivial⟩
 have hc := CallOk.calls (f := kc) h1 (HRel.none W) ha
 have hargs : (#[.agg (jT (val x)).toArray, .agg (jT (val y)).toArray] ++ #[] : Array Value) = #[.agg #[I (val x).1, I (val x).2], .agg #[I (val y).1, I (val y).2]] := rfl
 rw [hargs]
 refine hc.mono ?_
 rintro e w' ⟨ρ', v', rfl, hp, hv⟩
 subst hr
 have hfr : ∀ b, b < W.heap.size → w'.heap[b]? = W.heap[b]? := fun b hb => (hp.frame b hb (by rintro ⟨A, e, p, jW, hq, _⟩; cases hq)).1
 refine ⟨by rw [hv.ab rfl], w'.drawn - W.drawn, w'.heap.extract W.heap.size w'.heap.size, ?_⟩
 have h1 := hp.os
 have h2 := hp.tape
 have h3 := hp.output
 have h4 := hp.size
 clear hp hv
 obtain ⟨wh, wt, wd, wo, wu⟩ := W
 obtain ⟨ah, at', ad, ao, au⟩ := w'
 simp only at h1 h2 h3 h4 hfr
 simp only [grow, World.drewN, World.mk.injEq]
 refine ⟨?_, h2.1, by omega, h1, h3⟩
 apply Array.ext_getElem?
 intro i
 rw [Array.getElem?_append]
 split
 ·exact hfr i (by assumption)
 ·rw [Array.getElem?_extract]
  split
  ·congr 1; omega
  ·rw [Array.getElem?_eq_none (by omega)]
theorem a5G {P : Program} {kc : FuncId} (hf : ∀ x y, Fn P kc [.agg #[I x.1, I x.2], .agg #[I y.1, I y.2]] .nil fun r H' => r = I (cf2 x y) ∧ St P (.nil : Heap) H' []) (jW off size : Nat) (w : World) : CmpLays P kc #[] jT 2 cf2 jW off size w := a5T (fun x => x) cf2 hf jW off size w
section
variable {P : Program} {H : Heap} {ρ ρ' : Rho} {H' : Heap} {w w1 w2 : World}
theorem Post.cG (h : Post P ρ H w ρ' H' w1) (hsz : w1.heap.size ≤ w2.heap.size) (hb : ∀ b, b < w1.heap.size → w2.heap[b]? = w1.heap[b]?) (h1 : w2.os = w1.os) (h2 : w2.tape = w1.tape ∧ w1.drawn ≤ w2.drawn) (h3 : w2.output = w1.output) : Post P ρ H w ρ' H' w2 where
 le := h.le
 rel := h.rel.other hsz fun A e p hp => hb _ (h.rel.dom _ _ _ hp).2
 len := h.len
 size := dq h.size hsz
 os := h1.trans h.os
 tape := ⟨h2.1.trans h.tape.1, dq h.tape.2 h2.2⟩
 output := h3.trans h.output
 frame b hlt hw := by
  obtain ⟨e, hw'⟩ := h.frame b hlt hw
  exact ⟨(hb b (dy hlt h.size)).trans e, hw'⟩
 loops b r hr := by
  obtain ⟨r', hr'⟩ := h.loops b r hr
  exact ⟨r', by rw [hb b (lQ hr')]; exact hr'⟩
 img := h.img
theorem b8j : ∀ (l : List (Int × Int)) (j : Nat), j < l.length * 2 → (jT (l.toArray[j / 2]!))[j % 2]! = (pr l).getD j undef := by
 intro l
 induction l with
 | nil => intro j hj; simp at hj
 | cons x l ih =>
   intro j hj
   have e : pr (x :: l) = I x.1 :: I x.2 :: pr l := rfl
   rw [e]
   match j with
   | 0 => rfl
   | 1 => rfl
   | j + 2 =>
     have h1 : (j + 2) / 2 = j / 2 + 1 := by omega
     have h2 : (j + 2) % 2 = j % 2 := by omega
     have := ih j (by simp at hj; omega)
     rw [h1, h2]
     simp only [List.getD_cons_succ]
     rw [← this]
     congr 2
     simp only [List.getElem!_toArray]
     simp
end
theorem V.func0 {ρ : Rho} {k : FuncId} {v' : Value} (h : V ρ (.func (.func k) #[] #[]) v') : v' = .func (.func k) #[] #[] := by
 cases h with
 | v1 h => cases h with
   | c1 h => cases h with
     | c0 h => cases h with
       | flat h => rfl
     | fn ha hb =>
       rename_i a' b'
       have e1 : a' = #[] := by
        obtain ⟨l⟩ := a'
        cases l with
        | nil => rfl
        | cons => exact ha.elim
       have e2 : b' = #[] := by
        obtain ⟨l⟩ := b'
        cases l with
        | nil => rfl
        | cons => exact hb.elim
       rw [e1, e2]
theorem a7k (es : List (Int × Int)) : jV (pr es) = true := by
 unfold jV
 rw [dg]
 intro c hc
 obtain ⟨x, _, hx⟩ := ey.1 hc
 simp only [jT, dJ, eu, or_false] at hx
 rcases hx with rfl | rfl <;> rfl
set_option maxRecDepth 10000 in
theorem b6k {P : Program} {K kc : FuncId} {sm : Int × Int → Prop} (hso : a1P P K kc sm) {H : Heap} {A i lo ver n : Nat} {ty : TypeId} {pre : List Value} {es : List (Int × Int)} (hg : iI H A = some (.cells (pre ++ pr es) ty true lo ver)) (hlo : lo ≤ i + (pr es).length) (hpre : pre.length = i)
 (hn : (pr es).length = n * 2) (hty : gW P ty = some 2) (hl : es.length < 100000000000) (h0 : es ≠ []) (hsm : ∀ x ∈ es, sm x) :
 CallOk P K [.slice (some ⟨A, i, some (i + (pr es).length)⟩) n 2, .func (.func kc) #[] #[]] H (.tuple #[]) (hset H A (.cells (iQ (pre ++ pr es) i (pr (sP es))) ty true (pre ++ pr es).length ver)) := by
 intro k ρ w args' hr ha
 obtain ⟨l⟩ := args'
 match l, ha with
 | [x, f], ⟨hx, hf, _⟩ =>
   obtain rfl := V.func0 hf
   have hlen : (pre ++ pr es).length = i + (pr es).length := by rw [dj, hpre]
   obtain ⟨p, c', a, hp, h0', hin, hnc, hac, hpk, rfl⟩ := hx.av
   rw [hK] at hn
   have hne : 0 < es.length := fM.2 h0
   have hnn : n = es.length := by omega
   subst hnn
   have ha' : a = ⟨p.b, p.at i, none⟩ := by
    rcases hac with h | h
    ·exact h.1
    ·omega
   subst ha'
   have hp2 : ρ A (pre ++ pr es).length = some p := by rw [hlen]; exact hp
   obtain ⟨_, _, hfit, cur, ty', fr, hw, hsz, hfr, hcell⟩ := (hr.cells _ _ _ _ _ _ hg).2 _ _ hp2
   obtain ⟨rfl, hd0, _⟩ := hfr rfl
   let d : Array (Int × Int) := es.toArray
   have hds : d.size = es.length := by simp [d]
   have hfl := fun j hj => b8j es j (by simpa using hj)
   have hH : Go.Sort.HoldsK jT 2 w p.b (p.at i) d := by
    intro j hj
    rw [Go.Sort.size_flatK, hds] at hj
    constructor
    ·have hc : (pre ++ pr es)[i + j]? = some ((pr es).getD j undef) := by
      rw [ee (by omega), hpre, fS, cW, dc (by rw [hK]; omega)]
      rfl
     obtain ⟨c2, hc2, hrel⟩ := hcell (by rw [hlen]; exact hlo) (i + j) _ (by rw [hlen, hK]; omega) (by omega) hc
     have hsc : iP ((pr es).getD j undef) = true := by
      have := a7k es
      unfold jV at this
      rw [dg] at this
      apply this
      rw [cW, dc (by rw [hK]; omega)]
      exact gq _
     have := hrel.ay hsc
     subst this
     have hat : p.at (i + j) = p.at i + j := by unfold Place.at; omega
     rw [hat] at hc2
     simp only [World.cell?, hw]
     rw [Go.Sort.get_flatK _ _ _ _ (by rw [hds]; exact hj), hfl j hj]
     exact hc2
    ·simp only [World.frozen?, hw]
     simp
   have hcon := hso p.b (p.at i) c' d w (by simpa [d] using hsm) hH (hr.dom _ _ _ hp).2 (by rw [hds]; omega)
   rw [hds] at hcon
   obtain ⟨w1, hrun, hpost⟩ := tE hr hg hp2 h0' (.aE (a7k (sP es))) (by rw [hlen, hK, hK, (lZ es).length_eq]; omega) (by rw [hlen]; exact hlo)
   have hcsz : p.at i + (pr (sP es)).length ≤ cur.size := by
    rw [hK, (lZ es).length_eq, hsz]
    unfold Place.at
    rw [hlen, hK] at hfit
    omega
   have hst := run_storeCells_at (P := P) p.b (p.at i) ty' (pr (sP es)) 0 cur w hw (by simpa using hcsz) (All2.aE (ρ := ρ) (a7k (sP es))).aS
   rw [hst] at hrun
   injection hrun with _ hw1
   subst hw1
   refine callsIn_wide.2 (hcon.mono ?_)
   rintro e w' ⟨rfl, m, os, rfl⟩
   refine ⟨ρ, _, rfl, ?_, .tuple trivial⟩
   have hsl : (sP es).length = es.length := (lZ es).length_eq
   have hml : ((d.toList.mergeSort le2)).length = es.length := by simp [d]
   have hfs : ∀ j, j < es.length * 2 → (Go.Sort.flatK jT 2 (d.toList.mergeSort le2).toArray)[j]! = (pr (sP es)).getD j undef := fun j hj => by
    rw [Go.Sort.get_flatK _ _ _ _ (by simpa [d] using hj)]
    exact b8j (d.toList.mergeSort le2) j (by rw [hml]; exact hj)
   have hFs : (Go.Sort.flatK jT 2 (d.toList.mergeSort le2).toArray).size = es.length * 2 := by simp [d]
   unfold sortWorldK Go.Sort.putRowK
   generalize Go.Sort.flatK jT 2 (d.toList.mergeSort le2).toArray = F at hfs hFs ⊢
   have hlt := lQ hw
   have hh : ∀ b, b < w.heap.size → (Go.Sort.grow (Go.Sort.putRow id (Go.Sort.ahead w m) p.b (p.at i) F) os).heap[b]? = (Go.Sort.putRow id (Go.Sort.ahead w m) p.b (p.at i) F).heap[b]? := fun b hb => by
    have : b < (Go.Sort.putRow id (Go.Sort.ahead w m) p.b (p.at i) F).heap.size := by simpa [Go.Sort.putRow, Go.Sort.mapBlock, Go.Sort.ahead] using hb
    unfold Go.Sort.grow
    exact fg this
   refine hpost.cG ?_ ?_ rfl ⟨rfl, Nat.le_add_right _ _⟩ rfl
   ·simp [Go.Sort.grow, Go.Sort.putRow, Go.Sort.mapBlock, Go.Sort.ahead]
   ·intro b hbs
    rw [setRow_size] at hbs
    rw [hh b hbs]
    by_cases e : b = p.b
    ·subst e
     rw [setRow_heap w p.b cur _ ty' (0, 0) hw]
     have e2 : (Go.Sort.putRow id (Go.Sort.ahead w m) p.b (p.at i) F).heap[p.b]? = some (.cells (Go.Sort.putCells id (p.at i) F cur) ty' (0, 0)) := by
      simp [Go.Sort.putRow, Go.Sort.mapBlock, Go.Sort.ahead, ga, hw, Go.Sort.onCells]
     rw [e2]
     congr 2
     apply Array.ext_getElem?
     intro j
     have hseg := a4t cur.toList (pr (sP es)) (p.at i) j (by simpa using hcsz)
     have e3 : ((List.take (p.at i + 0) cur.toList ++ pr (sP es) ++ List.drop (p.at i + 0 + (pr (sP es)).length) cur.toList).toArray)[j]? = (List.take (p.at i) cur.toList ++ pr (sP es) ++ List.drop (p.at i + (pr (sP es)).length) cur.toList)[j]? := by simp
     rw [e3, hseg]
     simp only [Go.Sort.putCells, Array.getElem?_mapIdx, fZ]
     rw [hK, hsl] at hcsz ⊢
     by_cases h1 : p.at i ≤ j ∧ j < p.at i + es.length * 2
     ·rw [if_pos h1]
      have hjc : j < cur.size := by omega
      rw [fj hjc]
      simp only [dD]
      rw [if_pos (by rw [hFs]; exact h1), hfs _ (by omega), cW, dc (by rw [hK, hsl]; omega)]
      rfl
     ·rw [if_neg h1]
      cases hc : cur[j]? with
      | none => simp
      | some c =>
        simp only [dD]
        rw [if_neg (by rw [hFs]; exact h1)]
    ·rw [setRow_other _ _ _ _ e]
     simp [Go.Sort.putRow, Go.Sort.mapBlock, Go.Sort.ahead, ga, eR e]
theorem vW {P : Program} {K kc : FuncId} {sm : Int × Int → Prop} (hso : a1P P K kc sm) (hno : a1W P K) (hent0 : qA P K) {H : Heap} {H0 : Base} {os : List Ob} (hS : St P H0 H os) (i : Nat) {v : Value} {es : List (Int × Int)} (ho : os[i]? = some ⟨v, 2, pr es⟩) (hl : es.length < 100000000000) (hsm : ∀ x ∈ es, sm x) {Q : Value → Heap → Prop}
 (h : ∀ H1, St P H0 H1 (os.set i ⟨v, 2, pr (sP es)⟩) → Q (.tuple #[]) H1) : sV P K [v, .func (.func kc) #[] #[]] H Q := by
 have hent : qA P K := hent0
 by_cases h0 : es = []
 ·subst h0
  refine ⟨.tuple #[], H, hent, ?_, h H ?_⟩
  ·intro k ρ w args' hr ha
   obtain ⟨l⟩ := args'
   match l, ha with
   | [x, f], ⟨hx, hf, _⟩ =>
     obtain rfl := V.func0 hf
     have hown := hS.own _ (dE ho)
     unfold OwnAt at hown
     rw [if_neg (by simp)] at hown
     have hx0 : ∃ p cap, x = .slice p 0 cap := by
      rcases hown with ⟨h2, _⟩ | ⟨A, j, ty, lo', ver, pre, m, h2, h3, h4, h5, h6, h7⟩
      ·simp only at h2
       subst h2
       rcases hx.aw with ⟨_, _, _, rfl⟩ | ⟨A, j, e, p, c', a, hh, _⟩
       ·exact ⟨_, _, rfl⟩
       ·cases hh
      ·simp only at h5 h6
       subst h6
       have hm : m = 0 := by have : (pr []).length = 0 := rfl; omega
       subst hm
       obtain ⟨p, c', a, _, _, _, _, _, _, rfl⟩ := hx.av
       exact ⟨_, _, rfl⟩
     obtain ⟨p, cap, rfl⟩ := hx0
     refine callsIn_wide.2 ((hno p cap _ w).mono ?_)
     rintro e w' ⟨rfl, rfl⟩
     exact ⟨ρ, _, rfl, .refl hr, .tuple trivial⟩
  ·obtain ⟨hi, hoi⟩ := dh.1 ho
   have e : sP [] = [] := List.Perm.eq_nil (lZ [])
   rw [e, ← hoi, List.set_getElem_self]
   exact hS
 ·have hown := hS.own _ (dE ho)
  unfold OwnAt at hown
  rw [if_neg (by simp)] at hown
  have hne : 0 < es.length := fM.2 h0
  rcases hown with ⟨_, h3⟩ | ⟨A, j, ty, lo', ver, pre, m, h2, h3, h4, h5, h6, h7⟩
  ·simp only at h3
   have := congrArg List.length h3
   rw [hK, eX] at this
   omega
  ·simp only at h2 h3 h5 h6
   have hsl : (pr (sP es)).length = (pr es).length := by rw [hK, hK, (lZ es).length_eq]
   have hcall := b6k hso h2 h3 h4 h5 h7 hl h0 hsm
   rw [← h6] at hcall
   refine ⟨_, _, hent, hcall, h _ (hS.put i ho ?_ ?_ ?_ ?_)⟩
   ·unfold OwnAt
    rw [if_neg (by simp)]
    refine .inr ⟨A, j, ty, (pre ++ pr es).length, ver, pre, m, ?_, ?_, h4, ?_, ?_, h7⟩
    ·rw [iJ _ (jA h2)]
     have := mF (pr (sP es)) pre (pr es) (by rw [hsl]; exact da _)
     rw [h4] at this
     rw [this, hsl, List.drop_length, di]
    ·simp only [dj, h4, hsl]; exact da _
    ·simp only [hsl]; exact h5
    ·simp only [hsl]; exact h6
   ·rw [jC]; exact da _
   ·intro B' hB hne'
    refine pL fun hh => hne' ?_
    simp [jW, h6, hh]
   ·intro B' hB
    exact .inl hB
end Go.Ds
namespace Go.Proofs
open Go.Shelf
def Tryz.br : Go.Shelf.Ren := ⟨fun | 6 => 62 | 15 => 96 | 14 => 105 | 28 => 132 | 29 => 133 | 20 => 137 | 21 => 138 | 22 => 139 | 23 => 140 | 24 => 141 | 25 => 142 | 26 => 143 | 27 => 144 | 46 => 174 | 47 => 170 | 48 => 171 | 49 => 175 | 50 => 176 | 57 => 204 | n => n, fun | 22 => 58 | 24 => 70 | 25 => 143 | 3 => 3 | 39 => 72 | 0 => 0 | 53 => 215 | 55 => 39 | 4 => 4 | 46 => 209 | 45 => 208 | 50 => 180 | 5 => 5 | 9 => 9 | 66 => 245 | 70 => 249 | 76 => 284 | 77 => 285 | n => n, fun | n => n⟩
theorem Tryz.bK : Go.Proofs.SlLaysF0.n6 Tryz.prog Tryz.br := {
 mixed := by kernel_rfl
 f6 := ⟨Tryz.f62.name, by decide, Tryz.func62.trans (congrArg some (by kernel_rfl))⟩
 f14 := ⟨Tryz.f105.name, by decide, Tryz.func105.trans (congrArg some (by kernel_rfl))⟩
 f15 := Tryz.func96.trans (congrArg some (by kernel_rfl))
 f20 := ⟨Tryz.f137.name, by decide, Tryz.func137.trans (congrArg some (by kernel_rfl))⟩
 f21 := ⟨Tryz.f138.name, by decide, Tryz.func138.trans (congrArg some (by kernel_rfl))⟩
 f22 := ⟨Tryz.f139.name, by decide, Tryz.func139.trans (congrArg some (by kernel_rfl))⟩
 f23 := ⟨Tryz.f140.name, by decide, Tryz.func140.trans (congrArg some (by kernel_rfl))⟩
 f24 := ⟨Tryz.f141.name, by decide, Tryz.func141.trans (congrArg some (by kernel_rfl))⟩
 f25 := ⟨Tryz.f142.name, by decide, Tryz.func142.trans (congrArg some (by kernel_rfl))⟩
 f26 := ⟨Tryz.f143.name, by decide, Tryz.func143.trans (congrArg some (by kernel_rfl))⟩
 f27 := ⟨Tryz.f144.name, by decide, Tryz.func144.trans (congrArg some (by kernel_rfl))⟩
 f28 := Tryz.func132.trans (congrArg some (by kernel_rfl))
 f29 := Tryz.func133.trans (congrArg some (by kernel_rfl))
 f46 := ⟨Tryz.f174.name, by decide, Tryz.func174.trans (congrArg some (by kernel_rfl))⟩
 f47 := Tryz.func170.trans (congrArg some (by kernel_rfl))
 f48 := Tryz.func171.trans (congrArg some (by kernel_rfl))
 f49 := ⟨Tryz.f175.name, by decide, Tryz.func175.trans (congrArg some (by kernel_rfl))⟩
 f50 := ⟨Tryz.f176.name, by decide, Tryz.func176.trans (congrArg some (by kernel_rfl))⟩
 f57 := ⟨Tryz.f204.name, by decide, Tryz.func204.trans (congrArg some (by kernel_rfl))⟩
 t0 := Tryz.underlying0
 a0 := Tryz.isAgg0
 z0 := Tryz.sizeOf0
 v0 := Tryz.zeroValue0
 t3 := Tryz.underlying3
 a3 := Tryz.isAgg3
 z3 := Tryz.sizeOf3
 v3 := Tryz.zeroValue3
 t4 := Tryz.underlying4
 a4 := Tryz.isAgg4
 z4 := Tryz.sizeOf4
 v4 := Tryz.zeroValue4
 t5 := Tryz.underlying5
 a5 := Tryz.isAgg5
 z5 := Tryz.sizeOf5
 v5 := Tryz.zeroValue5
 t9 := Tryz.underlying9
 a9 := Tryz.isAgg9
 z9 := Tryz.sizeOf9
 v9 := Tryz.zeroValue9
 t22 := Tryz.underlying58
 a22 := Tryz.isAgg58
 z22 := Tryz.sizeOf58
 v22 := Tryz.zeroValue58
 t25 := Tryz.underlying143
 a25 := Tryz.isAgg143
 z25 := Tryz.sizeOf143
 v25 := Tryz.zeroValue143
 t39 := Tryz.underlying72
 a39 := Tryz.isAgg72
 z39 := Tryz.sizeOf72
 v39 := Tryz.zeroValue72
 t45 := Tryz.underlying208
 a45 := Tryz.isAgg208
 z45 := Tryz.sizeOf208
 v45 := Tryz.zeroValue208
 t46 := Tryz.underlying209
 a46 := Tryz.isAgg209
 z46 := Tryz.sizeOf209
 v46 := Tryz.zeroValue209
 t50 := Tryz.underlying180
 a50 := Tryz.isAgg180
 z50 := Tryz.sizeOf180
 v50 := Tryz.zeroValue180
 t53 := Tryz.underlying215
 a53 := Tryz.isAgg215
 z53 := Tryz.sizeOf215
 v53 := Tryz.zeroValue215
 t55 := Tryz.underlying39
 a55 := Tryz.isAgg39
 z55 := Tryz.sizeOf39
 v55 := Tryz.zeroValue39
 t66 := Tryz.underlying245
 a66 := Tryz.isAgg245
 z66 := Tryz.sizeOf245
 v66 := Tryz.zeroValue245
 t70 := Tryz.underlying249
 a70 := Tryz.isAgg249
 z70 := Tryz.sizeOf249
 v70 := Tryz.zeroValue249
 t76 := Tryz.underlying284
 a76 := Tryz.isAgg284
 z76 := Tryz.sizeOf284
 v76 := Tryz.zeroValue284
 t77 := Tryz.underlying285
 a77 := Tryz.isAgg285
 z77 := Tryz.sizeOf285
 v77 := Tryz.zeroValue285 }
def Tryz.bm : Go.Shelf.Ren := ⟨fun | 6 => 51 | 15 => 96 | 14 => 95 | 28 => 132 | 29 => 133 | 20 => 124 | 21 => 125 | 22 => 126 | 23 => 127 | 24 => 128 | 25 => 129 | 26 => 130 | 27 => 131 | 46 => 169 | 47 => 170 | 48 => 171 | 49 => 172 | 50 => 173 | 57 => 203 | n => n, fun | 22 => 46 | 24 => 52 | 25 => 133 | 3 => 3 | 39 => 72 | 0 => 0 | 53 => 215 | 55 => 39 | 4 => 4 | 46 => 209 | 45 => 208 | 50 => 180 | 5 => 5 | 9 => 9 | 66 => 245 | 70 => 249 | 76 => 284 | 77 => 285 | n => n, fun | n => n⟩
theorem Tryz.bd : Go.Proofs.SlLaysF0.n6 Tryz.prog Tryz.bm := {
 mixed := by kernel_rfl
 f6 := ⟨Tryz.f51.name, by decide, Tryz.func51.trans (congrArg some (by kernel_rfl))⟩
 f14 := ⟨Tryz.f95.name, by decide, Tryz.func95.trans (congrArg some (by kernel_rfl))⟩
 f15 := Tryz.func96.trans (congrArg some (by kernel_rfl))
 f20 := ⟨Tryz.f124.name, by decide, Tryz.func124.trans (congrArg some (by kernel_rfl))⟩
 f21 := ⟨Tryz.f125.name, by decide, Tryz.func125.trans (congrArg some (by kernel_rfl))⟩
 f22 := ⟨Tryz.f126.name, by decide, Tryz.func126.trans (congrArg some (by kernel_rfl))⟩
 f23 := ⟨Tryz.f127.name, by decide, Tryz.func127.trans (congrArg some (by kernel_rfl))⟩
 f24 := ⟨Tryz.f128.name, by decide, Tryz.func128.trans (congrArg some (by kernel_rfl))⟩
 f25 := ⟨Tryz.f129.name, by decide, Tryz.func129.trans (congrArg some (by kernel_rfl))⟩
 f26 := ⟨Tryz.f130.name, by decide, Tryz.func130.trans (congrArg some (by kernel_rfl))⟩
 f27 := ⟨Tryz.f131.name, by decide, Tryz.func131.trans (congrArg some (by kernel_rfl))⟩
 f28 := Tryz.func132.trans (congrArg some (by kernel_rfl))
 f29 := Tryz.func133.trans (congrArg some (by kernel_rfl))
 f46 := ⟨Tryz.f169.name, by decide, Tryz.func169.trans (congrArg some (by kernel_rfl))⟩
 f47 := Tryz.func170.trans (congrArg some (by kernel_rfl))
 f48 := Tryz.func171.trans (congrArg some (by kernel_rfl))
 f49 := ⟨Tryz.f172.name, by decide, Tryz.func172.trans (congrArg some (by kernel_rfl))⟩
 f50 := ⟨Tryz.f173.name, by decide, Tryz.func173.trans (congrArg some (by kernel_rfl))⟩
 f57 := ⟨Tryz.f203.name, by decide, Tryz.func203.trans (congrArg some (by kernel_rfl))⟩
 t0 := Tryz.underlying0
 a0 := Tryz.isAgg0
 z0 := Tryz.sizeOf0
 v0 := Tryz.zeroValue0
 t3 := Tryz.underlying3
 a3 := Tryz.isAgg3
 z3 := Tryz.sizeOf3
 v3 := Tryz.zeroValue3
 t4 := Tryz.underlying4
 a4 := Tryz.isAgg4
 z4 := Tryz.sizeOf4
 v4 := Tryz.zeroValue4
 t5 := Tryz.underlying5
 a5 := Tryz.isAgg5
 z5 := Tryz.sizeOf5
 v5 := Tryz.zeroValue5
 t9 := Tryz.underlying9
 a9 := Tryz.isAgg9
 z9 := Tryz.sizeOf9
 v9 := Tryz.zeroValue9
 t22 := Tryz.underlying46
 a22 := Tryz.isAgg46
 z22 := Tryz.sizeOf46
 v22 := Tryz.zeroValue46
 t25 := Tryz.underlying133
 a25 := Tryz.isAgg133
 z25 := Tryz.sizeOf133
 v25 := Tryz.zeroValue133
 t39 := Tryz.underlying72
 a39 := Tryz.isAgg72
 z39 := Tryz.sizeOf72
 v39 := Tryz.zeroValue72
 t45 := Tryz.underlying208
 a45 := Tryz.isAgg208
 z45 := Tryz.sizeOf208
 v45 := Tryz.zeroValue208
 t46 := Tryz.underlying209
 a46 := Tryz.isAgg209
 z46 := Tryz.sizeOf209
 v46 := Tryz.zeroValue209
 t50 := Tryz.underlying180
 a50 := Tryz.isAgg180
 z50 := Tryz.sizeOf180
 v50 := Tryz.zeroValue180
 t53 := Tryz.underlying215
 a53 := Tryz.isAgg215
 z53 := Tryz.sizeOf215
 v53 := Tryz.zeroValue215
 t55 := Tryz.underlying39
 a55 := Tryz.isAgg39
 z55 := Tryz.sizeOf39
 v55 := Tryz.zeroValue39
 t66 := Tryz.underlying245
 a66 := Tryz.isAgg245
 z66 := Tryz.sizeOf245
 v66 := Tryz.zeroValue245
 t70 := Tryz.underlying249
 a70 := Tryz.isAgg249
 z70 := Tryz.sizeOf249
 v70 := Tryz.zeroValue249
 t76 := Tryz.underlying284
 a76 := Tryz.isAgg284
 z76 := Tryz.sizeOf284
 v76 := Tryz.zeroValue284
 t77 := Tryz.underlying285
 a77 := Tryz.isAgg285
 z77 := Tryz.sizeOf285
 v77 := Tryz.zeroValue285 }
end Go.Proofs
namespace Go.Ds
open Go.Proofs Go.Proofs.Tryz Go.Shelf Go.RowKit Go.Lib Go.Sort
theorem a1u (x : Int × Int) : ∀ v ∈ jT x, v.oneCell' = true := by
 intro v hv
 simp [jT] at hv
 rcases hv with rfl | rfl <;> rfl
theorem c2E (kc : FuncId) (eg : ∀ args w, (callFunc kc args).run prog w = .ok (.enter kc args) w) (hf : ∀ x y, Fn prog kc [.agg #[I x.1, I x.2], .agg #[I y.1, I y.2]] .nil fun r H' => r = I (cf2 x y) ∧ St prog (.nil : Heap) H' []) : a1P prog 62 kc (fun _ => True) :=
 fun jW off cap d w _ hH hblk hsz => by
  have h := AnyQ.slices_SortFunc_total Tryz.bK 2 Tryz.isAgg70 Tryz.sizeOf70 jT (fun _ => rfl) a1u cf2 c1q kc #[] jW off cap d w eg (a5G hf jW off d.size w) hH hblk hsz c1P
  rw [a8P] at h
  exact h
theorem c3b (kc : FuncId) (eg : ∀ args w, (callFunc kc args).run prog w = .ok (.enter kc args) w) (hf : ∀ x y, Fn prog kc [.agg #[I x.1, I x.2], .agg #[I y.1, I y.2]] .nil fun r H' => r = I (cf2 x y) ∧ St prog (.nil : Heap) H' []) : a1P prog 51 kc (fun _ => True) :=
 fun jW off cap d w _ hH hblk hsz => by
  have h := AnyQ.slices_SortFunc_total Tryz.bd 2 Tryz.isAgg52 Tryz.sizeOf52 jT (fun _ => rfl) a1u cf2 c1q kc #[] jW off cap d w eg (a5G hf jW off d.size w) hH hblk hsz c1P
  rw [a8P] at h
  exact h
theorem c2I : a1W prog 62 := fun p cap fv w => AnyF.slices_SortFunc_none { Tryz.bK with } p cap fv w
theorem b8O : a1W prog 51 := fun p cap fv w => AnyF.slices_SortFunc_none { Tryz.bd with } p cap fv w
def a8h (K kc : FuncId) : Prop := ∀ {H : Heap} {B : Base} {os : List Ob} (hS : St prog B H os) (i : Nat) {v : Value} {es : List (Int × Int)} (ho : os[i]? = some ⟨v, 2, pr es⟩) (hl : es.length < 100000000000) {Q : Value → Heap → Prop}
    (h : ∀ H1, St prog B H1 (os.set i ⟨v, 2, pr (sP es)⟩) → Q (.tuple #[]) H1), sV prog K [v, .func (.func kc) #[] #[]] H Q
theorem c2S : qA prog 62 := ⟨Tryz.f62, func62, by kernel_rfl, by kernel_rfl⟩
theorem b8K : qA prog 51 := ⟨Tryz.f51, func51, by kernel_rfl, by kernel_rfl⟩
theorem c1M : a8h 62 179 := fun hS i _ _ ho hl _ h => vW (c2E 179 (enters_of func179 (by kernel_rfl) rfl) fun x y => b7k x y) c2I c2S hS i ho hl (fun _ _ => trivial) h
theorem c2h : a8h 62 100 := fun hS i _ _ ho hl _ h => vW (c2E 100 (enters_of func100 (by kernel_rfl) rfl) fun x y => b5Y x y) c2I c2S hS i ho hl (fun _ _ => trivial) h
theorem c2Q : a8h 51 91 := fun hS i _ _ ho hl _ h => vW (c3b 91 (enters_of func91 (by kernel_rfl) rfl) fun x y => b8e x y) b8O b8K hS i ho hl (fun _ _ => trivial) h
end Go.Ds
namespace Go.Ds
open Go.Proofs Go.Proofs.Tryz
variable {H : Heap}
set_option maxRecDepth 10000
theorem a3u {p : Nat → Bool} {n j : Nat} (h : pO p n = (j : Int)) : j < n := by
 unfold pO at h
 split at h
 ·rename_i q hq
  have := dm.1 (gw hq)
  omega
 ·omega
theorem b5M (g : Seg) (hg : g.In H) (key : Int) (A : Nat) (hA : Var H A 1 [I key]) : Fn prog 178 [.agg #[I g.lo, I g.hi, g.dv], ptr A 0 1] H fun r H' => r = .bool (decide (g.lo ≤ key) && decide (key ≤ g.hi)) ∧ St prog H H' [] := by
 refine .aG func178 rfl (by kernel_rfl) (m := 14) rfl fun l hn g0 g1 => ?_
 simp (disch := omega) only [↓RA, RB, simprocAttr, g0]
 refine (sR H).eNew 3 [I g.lo, I g.hi, g.dv] rfl rfl (by simp [OC, ((sR H).sl hg.1).cells.2.1]) a0P fun A1 H1 hS1 => ?_
 simp only [RT] at hS1
 simp (disch := omega) only [↓RA, RZ, simprocAttr, hn, g1, hS1.ld 0 rfl, (hS1.va hA).ld]
 refine jB (fun h1 => ?_) (fun h1 => ?_)
 ·simp (disch := omega) only [↓RA, RZ, simprocAttr, hn, g1, (hS1.va hA).ld, hS1.ld 0 rfl, b8F, h1]
  first | exact hS1.forget | exact ⟨by simp [h1], hS1.forget⟩
 simp (disch := omega) only [↓RA, RZ, simprocAttr, hn, b8F, h1]
 first | exact hS1.forget | exact ⟨by simp [], hS1.forget⟩
theorem b6d (v : Value) (xs : List Seg) (hv : Sl 3 Seg.cells H v xs) (hl : xs.length < 1000000000) (k : FuncId) (caps : List Value) (p : Nat → Bool)
 (hf : ∀ j H1, j < xs.length → St prog H H1 [] → Fn prog k (.agg #[I (gU xs j).lo, I (gU xs j).hi, (gU xs j).dv] :: caps) H1 fun r H2 => r = .bool (p j) ∧ St prog H1 H2 []) :
 Fn prog 177 [v, .func (.func k) #[] caps.toArray] H fun r H' => r = I (pO p xs.length) ∧ St prog H H' [] := by
 refine .aG func177 rfl (by kernel_rfl) (m := 19) rfl fun l hn g0 g1 => ?_
 simp (disch := omega) only [↓RA, RZ, simprocAttr, hn, g0, ((sR H).sl hv).len]
 refine Wp.al (fun n l H' => l.length = 19 ∧ get l 0 = v ∧ get l 1 = .func (.func k) #[] caps.toArray ∧ get l 7 = I xs.length ∧ ∃ (j : Nat), (n + j = xs.length ∧ ∀ q, q < j → p q = false) ∧ get l 8 = I j ∧ St prog H H' []) xs.length ?_ ?_
 ·simp (disch := omega) only [RB, RC, simprocAttr, hn, g0, g1]
  exact ⟨0, ⟨by omega, fun q hq => absurd hq (dF _)⟩, rfl, (sR H)⟩
 rintro n l H1 ⟨hn, g0, g1, g7, j, ⟨hi,h0⟩, g8, hS1⟩
 simp (disch := omega) only [↓RA, RB, simprocAttr, hn, g7, g8]
 refine gT (fun h => ?_) (fun h => ?_)
 ·simp (disch := omega) only [↓RA, RZ, simprocAttr, hn, g0, g1, g8, (hS1.sl hv).idx, (hS1.sl hv).aj, Seg.cells, h]
  refine hS1.cF (hf j _ (by omega) hS1) fun H2 hS2 => ?_
  simp (disch := omega) only [↓RA, RZ, simprocAttr, hn, h]
  refine jD (fun hp => ?_) (fun hp => ?_)
  ·simp (disch := omega) only [↓RA, RZ, simprocAttr, hn, b8J, h, hp]
   exact ⟨by rw [xH p xs.length j (by omega) hp h0], hS2⟩
  simp (disch := omega) only [↓RA, RZ, simprocAttr, hn, g0, g1, g7, g8, h, hp]
  exact ⟨n - 1, by omega, j + 1, ⟨by omega, fun q hq => by rcases de.1 hq with e | e; (· exact h0 q e); (· rw [e]; exact hp)⟩, by simp, hS2⟩
 simp (disch := omega) only [↓RA, RZ, simprocAttr, hn, b8J, h]
 exact ⟨by rw [wU p xs.length fun q hq => h0 q (by omega)], hS1⟩
theorem a7l {H0 : Heap} {os0 : List Ob} (hS0 : St prog H0 H os0) (s : Stp) (hs0 : s.In H0) (key : Int) : Fn prog 145 [.agg #[.string s.name, I s.num, I s.den, s.gv], I key] H fun r H' => ∃ g : Seg, r = .agg #[I g.lo, I g.hi, g.dv] ∧ g.In H0 ∧ g.draws = a9o s key ∧ St prog H H' [] := by
 have hs := hs0.ai hS0
 have hl := hs.2.2
 refine .aG func145 rfl (by kernel_rfl) (m := 18) rfl fun l hn g0 g1 => ?_
 simp (disch := omega) only [↓RA, RB, simprocAttr, g0]
 refine (sR H).eNew 4 [(.string s.name), I s.num, I s.den, s.gv] rfl rfl (by simp [OC, ((sR H).sl hs.1).cells.2.1]) nV fun A1 H1 hS1 => ?_
 simp only [RT] at hS1
 simp (disch := omega) only [↓RA, RB, simprocAttr, g1]
 refine hS1.eNew 1 [I key] rfl rfl rfl tS3 fun A2 H2 hS2 => ?_
 simp only [RT] at hS2
 simp (disch := omega) only [↓RA, RZ, simprocAttr]
 refine hS2.eNew 3 [I 0, I 0, (.slice none 0 0)] rfl rfl rfl a0P fun A3 H3 hS3 => ?_
 simp only [RT] at hS3
 simp (disch := omega) only [↓RA, RZ, simprocAttr, hn, hS3.ld 0 rfl]
 have hA := hS3.var 1 rfl
 have hSc := hS3
 refine hS3.cF (b6d s.gv s.segs (hS3.sl hs.1) hs.2.2 178 [ptr A2 0 1] (a7i s key) (fun j H1 hj hS' => b5M _ ((hs.2.1 _ (gX hj)).ai (hSc.trans hS')) key A2 (hA.ai hS'.ai))) fun H4 hS4 => ?_
 simp (disch := omega) only [↓RA, RB, simprocAttr, hn]
 refine gT (fun h => ?_) (fun h => ?_)
 ·simp (disch := omega) only [↓RA, RZ, simprocAttr, hn, b9C, h]
  refine hS4.aa 2 rfl [I 0, I 0, (.slice none 0 0)] rfl rfl a0P (by simp) fun H5 hS5 => ?_
  simp only [RT] at hS5
  simp (disch := omega) only [↓RA, RZ, simprocAttr, hn, b8R, hS5.aj 2 rfl, h]
  exact ⟨⟨0, 0, .slice none 0 0, []⟩, rfl, ⟨⟨.inl ⟨rfl, rfl⟩, fun _ => rfl, by decide⟩, by simp⟩, by rw [a9o, if_pos h], hS5.forget⟩
 obtain ⟨j, hj⟩ : ∃ j : Nat, pO (a7i s key) s.segs.length = j := ⟨(pO (a7i s key) s.segs.length).toNat, by omega⟩
 have hjl : j < s.segs.length := a3u hj
 simp (disch := omega) only [↓RA, RZ, simprocAttr, hn, hS4.ld 0 rfl, (hS4.sl hs.1).idx, (hS4.sl hs.1).aj, Seg.cells, hj]
 refine hS4.aa 2 rfl [I (gU s.segs j).lo, I (gU s.segs j).hi, (gU s.segs j).dv] rfl (by simp [OC, (hS4.sl (hs.2.1 (gU s.segs j) (gX (by omega))).1).cells.2.1]) a0P (by simp) fun H6 hS6 => ?_
 simp only [RT] at hS6
 simp (disch := omega) only [↓RA, RZ, simprocAttr, hn, b8R, hS6.aj 2 rfl, hj]
 exact ⟨gU s.segs j, rfl, hs0.2.1 _ (gX hjl), by rw [a9o, if_neg h, hj]; rfl, hS6.forget⟩
theorem b7C (rv : Value) (rks : List Rk) (hr : Sl 6 Rk.cells H rv rks) (hrk : ∀ r ∈ rks, r.In H) (hl : rks.length < 1000000000) (d : Drw) (key : Int) :
 Fn prog 146 [rv, .agg #[I d.rank, I d.shift], I key] H fun r H' => r = .tuple #[.agg #[I (oF rks d key).1, I (oF rks d key).2], .bool (xV rks d key)] ∧ St prog H H' [] := by
 refine .bA func146 rfl (by kernel_rfl) (m := 48) rfl fun l hn g0 g1 g2 => ?_
 simp (disch := omega) only [↓RA, RB, simprocAttr, g1]
 refine (sR H).eNew 2 [I d.rank, I d.shift] rfl rfl rfl zV fun A1 H1 hS1 => ?_
 simp only [RT] at hS1
 simp (disch := omega) only [↓RA, RZ, simprocAttr]
 refine hS1.eNew 2 [I 0, I 0] rfl rfl rfl vV fun A2 H2 hS2 => ?_
 simp only [RT] at hS2
 simp (disch := omega) only [↓RA, RZ, simprocAttr, hn, hS2.ld 0 rfl]
 refine iD (fun h1 => ?_) (fun h1 => ?_)
 ·simp (disch := omega) only [↓RA, RZ, simprocAttr, hn, b8Y, h1]
  refine hS2.aa 1 rfl [I 0, I 0] rfl rfl vV (by simp) fun H3 hS3 => ?_
  simp only [RT] at hS3
  simp (disch := omega) only [↓RA, RZ, simprocAttr, hn, a9t, hS3.aj 1 rfl, h1]
  exact ⟨by rw [oF, xV, if_pos (by omega), decide_eq_true (by omega)]; rfl, hS3.forget⟩
 simp (disch := omega) only [↓RA, RZ, simprocAttr, hn, g0, hS2.ld 0 rfl, (hS2.sl hr).len, h1]
 refine gT (fun h2 => ?_) (fun h2 => ?_)
 ·simp (disch := omega) only [↓RA, RZ, simprocAttr, hn, b8Y, h1, h2]
  refine hS2.aa 1 rfl [I 0, I 0] rfl rfl vV (by simp) fun H4 hS4 => ?_
  simp only [RT] at hS4
  simp (disch := omega) only [↓RA, RZ, simprocAttr, hn, a9t, hS4.aj 1 rfl, h1, h2]
  exact ⟨by rw [oF, xV, if_pos (by omega), decide_eq_true (by omega)]; rfl, hS4.forget⟩
 obtain ⟨j, hj⟩ : ∃ j : Nat, d.rank = j := ⟨d.rank.toNat, by omega⟩
 have hjl : j < rks.length := by omega
 have hp : oF rks d key = ((j : Int), pX (pX (key + d.shift) - (gU rks j).first)) := by rw [oF, if_neg (by omega), hj]; rfl
 have hh : xV rks d key = (decide (0 ≤ pX (pX (key + d.shift) - (gU rks j).first)) && decide (pX (pX (key + d.shift) - (gU rks j).first) < (gU rks j).wind.length)) := by
  rw [xV, hp, decide_eq_false (by omega), hj]
  rfl
 rw [hp, hh]
 have hw := (hrk _ (gX hjl)).2
 simp (disch := omega) only [↓RA, simprocAttr, hj]
 refine Wp.drw jU (by kernel_rfl) ?_
 simp (disch := omega) only [↓RA, RZ, simprocAttr, hn, g2]
 simp (disch := omega) only [↓RA, RZ, simprocAttr, hn, g0, hS2.ld 0 rfl, (hS2.sl hr).idx, (hS2.sl hr).bf, (hS2.sl hr).ld, Rk.cells, hj]
 refine Wp.aT jU [(10, 18), (13, 18), (14, 18)] (by kernel_rfl) (by kernel_rfl) ?_
 simp (disch := omega) only [↓RA, RZ, simprocAttr, hn, hS2.ld 0 rfl, a0U, hj]
 refine jB (fun h3 => ?_) (fun h3 => ?_)
 ·skip
  simp (disch := omega) only [↓RA, RZ, simprocAttr, hn, g0, hS2.ld 0 rfl, (hS2.sl hr).idx, (hS2.sl hr).bf, (hS2.sl hr).ld, Rk.cells, (hS2.sl (hrk (gU rks j) (gX (by omega))).1).len, hj, h3]
  refine hS2.aa 1 rfl [I j, _] rfl rfl vV (by simp) fun H5 hS5 => ?_
  simp only [RT] at hS5
  simp (disch := omega) only [↓RA, RZ, simprocAttr, hn, hS5.ld 0 rfl, Rk.cells, (hS5.sl hr).ld, (hS5.sl (hrk (gU rks j) (gX (by omega))).1).len, a9t, hS5.aj 1 rfl, hj, h3]
  exact hS5.forget
 simp (disch := omega) only [↓RA, RZ, simprocAttr, hn, h3]
 refine hS2.aa 1 rfl [I j, _] rfl rfl vV (by simp) fun H6 hS6 => ?_
 simp only [RT] at hS6
 simp (disch := omega) only [↓RA, RZ, simprocAttr, hn, a9t, hS6.aj 1 rfl, h3]
 first | exact hS6.forget | exact ⟨by rw [fw], hS6.forget⟩
theorem b0W {B : Base} {v : Value} {es : List (Int × Int)} (hS : St prog B H [⟨v, 2, pr es⟩]) (hl : es.length < 1000000) :
 Fn prog 147 [v] H fun r H' => ∃ rest : List Value, (∀ b, jW r = some b → jW v = some b) ∧ (∀ H2, RdAt H2 v 2 (pr (dd (sP es)) ++ rest) → RdAt H2 r 2 (pr (dd (sP es)))) ∧ St prog B H' [⟨v, 2, pr (dd (sP es)) ++ rest⟩] := by
 refine .aR func147 rfl (by kernel_rfl) (m := 7) rfl fun l hn g0 => ?_
 simp (disch := omega) only [↓RA, RZ, simprocAttr, hn, g0]
 refine c1M hS 0 rfl (gL hl (by decide)) fun H1 hS1 => ?_
 simp only [fE] at hS1
 simp (disch := omega) only [↓RA, RZ, simprocAttr, hn, g0]
 refine iB (zK hS1 (by rw [pW]; exact gL hl (by decide))) ?_
 rintro r H2 ⟨rest, hb, hrd, hS2⟩
 have hrc := (hrd H2 (hS2.rd 0 rfl)).cells
 simp (disch := omega) only [↓RA, RB, simprocAttr, hn, c1X]
 exact ⟨rest, hb, hrd, hS2⟩
theorem b4U {a b : Int} {v : Value} {α : Type} {n : Nat} {cel : α → List Value} {xs : List α} (h : Sl n cel H v xs) : uZ prog 150 (.agg #[I a, I b, v]) 2 = some v := by
 rcases h.rd with ⟨rfl, _⟩ | ⟨A, i, e, row, ty, rw, lo, ver, n, _, _, _, _, _, _, rfl⟩ <;> kernel_rfl
theorem b5e (rv : Value) (rks : List Rk) (hr : Sl 6 Rk.cells H rv rks) (hrk : ∀ r ∈ rks, r.In H) (hl : rks.length < 1000000000) (s : Stp) (hs : s.In H) (hs2 : ∀ g ∈ s.segs, g.draws.length ≤ 8) (key : Int) :
 Fn prog 106 [rv, .agg #[.string s.name, I s.num, I s.den, s.gv], I key] H fun r H' => Slx 2 jT H' (fun B => H.length ≤ B) r (rD rks s key) ∧ St prog H H' [] := by
 refine .bA func106 rfl (by kernel_rfl) (m := 36) rfl fun l hn g0 g1 g2 => ?_
 simp (disch := omega) only [↓RA, RB, simprocAttr, g1]
 refine (sR H).eNew 4 [(.string s.name), I s.num, I s.den, s.gv] rfl rfl (by simp [OC, ((sR H).sl hs.1).cells.2.1]) nV fun A1 H1 hS1 => ?_
 simp only [RT] at hS1
 simp (disch := omega) only [↓RA, RZ, simprocAttr, hn, g2, hS1.aj 0 rfl]
 refine iB (a7l hS1 s hs key) ?_
 rintro r H2 ⟨g, rfl, hgi, hgd, hT1⟩
 have hS2 := hS1.trans hT1
 simp only [RT] at hS2
 have hgl := hgi.2
 have hg8 : g.draws.length ≤ 8 := by
  rw [hgd]
  unfold a9o
  split
  ·simp
  ·rename_i h
   exact hs2 _ (gX (a3u (p := a7i s key) (n := s.segs.length) (by omega)))
 simp (disch := omega) only [↓RA, RZ, simprocAttr, hn, b4U (hS2.sl hgi.1), (hS2.sl hgi.1).len]
 have hS3 := hS2.nil 1
 simp only [RT] at hS3
 refine Wp.al (fun n l H' => l.length = 36 ∧ get l 0 = rv ∧ get l 2 = I key ∧ get l 6 = (.slice none 0 0) ∧ get l 15 = g.dv ∧ get l 16 = I g.draws.length ∧ ∃ (i : Nat) (ov : Value), (n + i = g.draws.length) ∧ get l 17 = I i ∧ get l 7 = ov ∧ St prog H H' [⟨ptr A1 0 4, 0, [(.string s.name), I s.num, I s.den, s.gv]⟩, ⟨ov, 2, pr (((g.draws.take i).filter fun d => xV rks d key).map fun d => oF rks d key)⟩]) g.draws.length ?_ ?_
 ·simp (disch := omega) only [RB, RC, simprocAttr, hn, g0, g2]
  exact ⟨0, _, by omega, rfl, rfl, hS3⟩
 rintro n l H3 ⟨hn, g0, g2, g6, g15, g16, i, ov, hi, g17, g7, hS4⟩
 simp (disch := omega) only [↓RA, RB, simprocAttr, hn, g16, g17]
 refine gT (fun q1 => ?_) (fun q1 => ?_)
 ·simp (disch := omega) only [↓RA, RZ, simprocAttr, hn, g15, g17, (hS4.sl hgi.1).idx, (hS4.sl hgi.1).aj, Drw.cells, q1]
  refine hS4.eNew 2 [I 0, I 0] rfl rfl rfl zV fun A2 H4 hS5 => ?_
  simp only [RT] at hS5
  simp (disch := omega) only [↓RA, RZ, simprocAttr, hn, q1]
  refine hS5.aa 2 rfl [I (gU g.draws i).rank, I (gU g.draws i).shift] rfl rfl zV (by simp) fun H5 hS6 => ?_
  simp only [RT] at hS6
  simp (disch := omega) only [↓RA, RZ, simprocAttr, hn, g0, g2, hS6.aj 2 rfl, q1]
  refine hS6.cF (b7C rv rks (hS6.sl hr) (fun r hr' => (hrk r hr').ai hS6) hl (gU g.draws i) key) fun H6 hS7 => ?_
  have htk := lP g.draws i (by omega)
  have hfl : ((g.draws.take i).filter fun d => xV rks d key).length ≤ i := by
   refine dq (dW _ _) ?_
   simp
   omega
  simp (disch := omega) only [↓RA, RZ, simprocAttr, hn, q1]
  refine hS7.eNew 2 [I 0, I 0] rfl rfl rfl vV fun A3 H7 hS8 => ?_
  simp only [RT] at hS8
  simp (disch := omega) only [↓RA, RZ, simprocAttr, hn, q1]
  refine hS8.aa 3 rfl [I (oF rks (gU g.draws i) key).1, I (oF rks (gU g.draws i) key).2] rfl rfl vV (by simp) fun H8 hS9 => ?_
  simp only [RT] at hS9
  simp (disch := omega) only [↓RA, RZ, simprocAttr, hn, q1]
  refine jD (fun q2 => ?_) (fun q2 => ?_)
  ·skip
   simp (disch := omega) only [↓RA, RZ, simprocAttr, hn, g7, hS9.aj 3 rfl, q1, q2]
   refine hS9.ae [I (oF rks (gU g.draws i) key).1, I (oF rks (gU g.draws i) key).2] b6h c2M rfl rfl (by simp [Value.cells]) rfl rfl (by decide) (by decide) fun w1 H9 hS10 => ?_
   simp only [RT] at hS10
   simp (disch := omega) only [↓RA, RZ, simprocAttr, hn, q1, q2]
   refine hS10.aq 1 rfl (hS10.rd 4 rfl) b6h (by rw [hK]; simp; omega) fun w2 H10 hS11 => ?_
   simp only [RT] at hS11
   simp (disch := omega) only [↓RA, RZ, simprocAttr, hn, g0, g2, g6, g15, g16, g17, q1, q2]
   refine ⟨n - 1, by omega, i + 1, w2, by omega, by simp, rfl, ?_⟩
   rw [htk, eO, dM, jE]
   have e : ([gU g.draws i].filter fun d => xV rks d key) = [gU g.draws i] := by simp [q2]
   rw [e]
   exact hS11.pick [0, 1] (by decide) rfl
  simp (disch := omega) only [↓RA, RZ, simprocAttr, hn, g0, g2, g6, g15, g16, g17, g7, q1, q2]
  refine ⟨n - 1, by omega, i + 1, ov, by omega, by simp, rfl, ?_⟩
  rw [htk, eO, dM, jE]
  have e : ([gU g.draws i].filter fun d => xV rks d key) = [] := by simp [q2]
  rw [e]
  simp only [pr, fW, eT, di]
  exact hS9.pick [0, 1] (by decide) rfl
 simp (disch := omega) only [↓RA, RZ, simprocAttr, hn, g7, q1]
 have hii : i = g.draws.length := by omega
 subst hii
 have hfl : ((g.draws.filter fun d => xV rks d key).map fun d => oF rks d key).length ≤ 8 := by
  rw [dY]
  exact dq (dW _ _) hg8
 rw [eo] at hS4
 have hM1 := hS4.pick (os' := [⟨ov, 2, _⟩]) [1] (by decide) rfl
 have hR1 := hS4.pick (os' := [⟨ov, 2, _⟩, ⟨ptr A1 0 4, 0, _⟩]) [1, 0] (by decide) rfl
 refine iB (b0W (es := (g.draws.filter fun d => xV rks d key).map fun d => oF rks d key) hM1.aF (by omega)) ?_
 rintro r H11 ⟨rest, hb, hrd, hT3⟩
 have hS12 := hR1.frame hT3
 simp only [RT] at hS12
 have hrr := hrd _ (hS12.rd 0 rfl)
 have hrc := hrr.cells
 simp (disch := omega) only [↓RA, RZ, simprocAttr, hn, c2T, q1]
 refine ⟨⟨⟨?_, kH, by decide⟩, fun b h => ?_⟩, hS12.forget⟩
 ·unfold rD
  rw [← hgd]
  exact hrr
 ·rcases hS12.new _ (dL ..) b (hb b h) with h | h
  ·exact h
  ·exact h.elim
end Go.Ds
namespace Go.Ds
open Go.Proofs Go.Proofs.Tryz
variable {H : Heap}
set_option maxRecDepth 10000
set_option maxHeartbeats 1000000
abbrev KC (kvs : List (Ct × Bool)) : List Value := kcs (fun p : Int × Int => .agg #[I p.1, I p.2]) Value.bool kvs
def vT (kvs : List (Ct × Bool)) (c : Ct) : Bool := (a0z kvs c).getD false
theorem b0K {B : Base} (o : Org) (r : Reg) (sv : Value) (c : Ct) (AO AR AS AQ M : Nat) (qv : Value) (q : List Ct) (kvs : List (Ct × Bool))
 (hS : St prog B H [⟨.map (some M), 0, KC kvs⟩, ⟨ptr AQ 0 1, 0, [qv]⟩, ⟨qv, 2, pr q⟩])
 (hO : ∀ {H1 : Heap} {os : List Ob}, St prog B H1 os → Var H1 AO 4 [.string o.name, o.rv, o.dv, o.cv] ∧ o.In H1 ∧ Var H1 AR 3 [sv, .int .u64 r.cpl, .int .u64 r.off] ∧ Var H1 AS 1 [.map (some M)])
 (hk : ∀ t, vT kvs t = true ↔ t ∈ q) (hq : Que o q) (ho : o.Fine) (hr : r.Ok) :
 Fn prog 90 [.agg #[I c.1, I c.2], .bool true, ptr AO 0 4, ptr AR 0 3, ptr AS 0 1, ptr AQ 0 1] H fun rr H' => ∃ kvs' qv', rr = .tuple #[] ∧ (∀ t, vT kvs' t = true ↔ t ∈ stepF o r.cpl true c q) ∧
  St prog B H' [⟨.map (some M), 0, KC kvs'⟩, ⟨ptr AQ 0 1, 0, [qv']⟩, ⟨qv', 2, pr (stepF o r.cpl true c q)⟩] := by
 have hcl := ho.clen
 refine .cK func90 rfl (by kernel_rfl) (m := 65) rfl fun l hn g0 g1 g2 g3 g4 g5 => ?_
 simp (disch := omega) only [↓RA, RB, simprocAttr, g0]
 refine hS.eNew 2 [I c.1, I c.2] rfl rfl rfl nR fun A1 H1 hS1 => ?_
 simp only [RT] at hS1
 simp (disch := omega) only [↓RA, RZ, simprocAttr, hn, g2, ((hO hS1).1).ld, ((hO hS1).2.1.2.2.2.2.1).len]
 refine Wp.al (fun n l H' => l.length = 65 ∧ get l 1 = (.bool true) ∧ get l 2 = (ptr AO 0 4) ∧ get l 3 = (ptr AR 0 3) ∧ get l 4 = (ptr AS 0 1) ∧ get l 5 = (ptr AQ 0 1) ∧ get l 6 = (ptr A1 0 2) ∧ get l 12 = o.cv ∧ get l 13 = I o.cpls.length ∧ ∃ (i : Nat) (kvs' : List (Ct × Bool)) (qv' : Value), (n + i = o.cpls.length ∧ ∀ t, vT kvs' t = true ↔ t ∈ stepN o r.cpl true c q i) ∧ get l 14 = I i ∧ St prog B H' [⟨.map (some M), 0, KC kvs'⟩, ⟨ptr AQ 0 1, 0, [qv']⟩, ⟨qv', 2, pr (stepN o r.cpl true c q i)⟩, ⟨ptr A1 0 2, 0, [I c.1, I c.2]⟩]) o.cpls.length ?_ ?_
 ·simp (disch := omega) only [RB, RC, simprocAttr, hn, g1, g2, g3, g4, g5]
  exact ⟨0, kvs, qv, ⟨by omega, hk⟩, rfl, hS1⟩
 rintro n l H2 ⟨hn, g1, g2, g3, g4, g5, g6, g12, g13, i, kvs', qv', ⟨hi,hk'⟩, g14, hS2⟩
 simp (disch := omega) only [↓RA, RB, simprocAttr, hn, g13, g14]
 refine gT (fun q1 => ?_) (fun q1 => ?_)
 ·have hql : (stepN o r.cpl true c q i).length ≤ 1024 := (hq.stepN r.cpl true c i).len ho
  have e1 := a1k r.cpl i hr.2.2.1
  have e2 := zW (r.cpl >>> i) (tN i hr.2.2.1)
  have e3 := tb r.cpl i
  have hskip : rJ r.cpl true c (gU o.cpls i) i = false → stepN o r.cpl true c q (i + 1) = stepN o r.cpl true c q i := fun h => by
   rw [lF, step1, if_neg (by rw [h]; simp)]
  have hkeep : oW o ((gU o.cpls i).dst, pX (c.2 + (gU o.cpls i).shift)) = false ∨ ((gU o.cpls i).dst, pX (c.2 + (gU o.cpls i).shift)) ∈ stepN o r.cpl true c q i → stepN o r.cpl true c q (i + 1) = stepN o r.cpl true c q i := fun h => by
   rw [lF, step1, if_neg]
   simp only [to1, cS, dw]
   rintro ⟨⟨_, h2⟩, h3⟩
   rcases h with h | h
   ·rw [h] at h2; cases h2
   ·exact absurd h (of_decide_eq_false h3)
  simp (disch := omega) only [↓RA, RZ, simprocAttr, hn, g12, g14, ((hO hS2).2.1.2.2.2.2.1).idx, ((hO hS2).2.1.2.2.2.2.1).aj, Cpl.cells, q1]
  refine hS2.eNew 5 [(.string ⟨#[]⟩), I 0, I 0, I 0, (.bool false)] rfl rfl rfl sK fun A2 H3 hS3 => ?_
  simp only [RT] at hS3
  simp (disch := omega) only [↓RA, RZ, simprocAttr, hn, q1]
  refine hS3.aa 4 rfl [(.string (gU o.cpls i).name), I (gU o.cpls i).src, I (gU o.cpls i).dst, I (gU o.cpls i).shift, (.bool (gU o.cpls i).thr)] rfl rfl sK (by simp) fun H4 hS4 => ?_
  simp only [RT] at hS4
  simp (disch := omega) only [↓RA, RZ, simprocAttr, hn, g3, ((hO hS4).2.2.1).ld, q1, e1, e2]
  refine iD (fun b1 => ?_) (fun b1 => ?_)
  ·have hs := hskip (by unfold rJ; rw [e3, decide_eq_false (by omega)]; rfl)
   simp (disch := omega) only [↓RA, RZ, simprocAttr, hn, g1, g2, g3, g4, g5, g6, g12, g13, g14, q1, b1]
   exact ⟨n - 1, by omega, i + 1, kvs', qv', ⟨by omega, by rw [hs]; exact hk'⟩, by simp, by rw [hs]; exact hS4.pick [0, 1, 2, 3] (by decide) rfl⟩
  have hb : r.cpl.testBit i = true := by rw [e3]; exact decide_eq_true (by omega)
  simp (disch := omega) only [↓RA, RZ, simprocAttr, hn, g6, hS4.ld 4 rfl, hS4.ld 3 rfl, q1, b1]
  refine iD (fun b2 => ?_) (fun b2 => ?_)
  ·have hs := hskip (by unfold rJ; rw [decide_eq_false b2]; simp)
   simp (disch := omega) only [↓RA, RZ, simprocAttr, hn, g1, g2, g3, g4, g5, g6, g12, g13, g14, q1, b1, b2]
   exact ⟨n - 1, by omega, i + 1, kvs', qv', ⟨by omega, by rw [hs]; exact hk'⟩, by simp, by rw [hs]; exact hS4.pick [0, 1, 2, 3] (by decide) rfl⟩
  have hsrc := dA.1 b2
  simp (disch := omega) only [↓RA, RZ, simprocAttr, hn, g1, hS4.ld 4 rfl, q1, b1, b2]
  refine jD (fun b4 => ?_) (fun b4 => ?_)
  ·have hs := hskip (by unfold rJ; simp only [Bool.not_true, Bool.false_or, ef]; exact .inr (by simpa using b4))
   simp (disch := omega) only [↓RA, RZ, simprocAttr, hn, g1, g2, g3, g4, g5, g6, g12, g13, g14, q1, b1, b2, b4]
   exact ⟨n - 1, by omega, i + 1, kvs', qv', ⟨by omega, by rw [hs]; exact hk'⟩, by simp, by rw [hs]; exact hS4.pick [0, 1, 2, 3] (by decide) rfl⟩
  have hgo : rJ r.cpl true c (gU o.cpls i) i = true := by
   unfold rJ
   rw [hb, decide_eq_true hsrc]
   simpa using b4
  simp (disch := omega) only [↓RA, RZ, simprocAttr, hn, g6, hS4.ld 4 rfl, hS4.ld 3 rfl, q1, b1, b2, b4]
  simp (disch := omega) only [↓RA, RZ, simprocAttr, pM]
  refine hS4.eNew 2 [I 0, I 0] rfl rfl rfl nR fun A3 H5 hS5 => ?_
  simp only [RT] at hS5
  simp (disch := omega) only [↓RA, RZ, simprocAttr, hn, q1, b1, b2, b4]
  refine hS5.aa 5 rfl [I (gU o.cpls i).dst, I (pX (c.2 + (gU o.cpls i).shift))] rfl rfl nR (by simp) fun H6 hS6 => ?_
  simp only [RT] at hS6
  simp (disch := omega) only [↓RA, RZ, simprocAttr, hn, g2, ((hO hS6).1).aj, hS6.aj 5 rfl, q1, b1, b2, b4]
  refine hS6.cF (a1J o (hO hS6).2.1 ((gU o.cpls i).dst, pX (c.2 + (gU o.cpls i).shift))) fun H7 hS7 => ?_
  simp (disch := omega) only [↓RA, RZ, simprocAttr, hn, q1, b1, b2, b4]
  refine jB (fun b5 => ?_) (fun b5 => ?_)
  ·have hok := (xE o _).1 b5
   simp (disch := omega) only [↓RA, RZ, simprocAttr, hn, g4, ((hO hS7).2.2.2).ld, hS7.aj 5 rfl, q1, b1, b2, b4, b5]
   refine hS7.bJ (k := ((gU o.cpls i).dst, pX (c.2 + (gU o.cpls i).shift))) 0 rfl a6u (fun _ => rfl) ?_
   simp (disch := omega) only [↓RA, RZ, simprocAttr, hn, q1, b1, b2, b4, b5]
   refine jD (fun b6 => ?_) (fun b6 => ?_)
   ·have hnot : ((gU o.cpls i).dst, pX (c.2 + (gU o.cpls i).shift)) ∉ stepN o r.cpl true c q i := fun h => by
     have h := (hk' _).2 h
     unfold vT at h
     first | (rw [dw] at b6; exact Bool.false_ne_true (b6.symm.trans h)) | exact b6 h
    have hs : stepN o r.cpl true c q (i + 1) = stepN o r.cpl true c q i ++ [((gU o.cpls i).dst, pX (c.2 + (gU o.cpls i).shift))] := by
     rw [lF]
     unfold step1
     rw [if_pos (by simp only [to1, hgo, hok]; simp [hnot])]
     rfl
    simp (disch := omega) only [↓RA, RZ, simprocAttr, hn, g4, ((hO hS7).2.2.2).ld, hS7.aj 5 rfl, q1, b1, b2, b4, b5, b6]
    refine hS7.ca (k := ((gU o.cpls i).dst, pX (c.2 + (gU o.cpls i).shift))) 0 rfl a6u fun H8 hS8 => ?_
    simp only [RT] at hS8
    simp (disch := omega) only [↓RA, RZ, simprocAttr, hn, g5, hS8.ld 1 rfl, hS8.aj 5 rfl, q1, b1, b2, b4, b5, b6]
    refine hS8.ae [I (gU o.cpls i).dst, I (pX (c.2 + (gU o.cpls i).shift))] qM a2k rfl rfl (by simp [Value.cells]) rfl rfl (by decide) (by decide) fun w1 H9 hS9 => ?_
    simp only [RT] at hS9
    simp (disch := omega) only [↓RA, RZ, simprocAttr, hn, q1, b1, b2, b4, b5, b6]
    refine hS9.aq 2 rfl (hS9.rd 6 rfl) qM (by rw [hK]; simp; omega) fun w2 H10 hS10 => ?_
    simp only [RT] at hS10
    simp (disch := omega) only [↓RA, RZ, simprocAttr, hn, g5, q1, b1, b2, b4, b5, b6]
    refine hS10.aa 1 rfl [w2] (by rw [(hS10.rd 2 rfl).cells.1]) (by simp [(hS10.rd 2 rfl).cells.2.1]) a8x (by simp) fun H11 hS11 => ?_
    simp only [RT] at hS11
    simp (disch := omega) only [↓RA, RZ, simprocAttr, hn, g1, g2, g3, g4, g5, g6, g12, g13, g14, q1, b1, b2, b4, b5, b6]
    refine ⟨n - 1, by omega, i + 1, a3x kvs' ((gU o.cpls i).dst, pX (c.2 + (gU o.cpls i).shift)) true, w2, ⟨by omega, fun t => ?_⟩, by simp, ?_⟩
    ·rw [hs, dx, dC, ← hk' t]
     unfold vT
     rw [a0X]
     by_cases e : t = ((gU o.cpls i).dst, pX (c.2 + (gU o.cpls i).shift))
     ·simp [e]
     ·simp [e]
    ·rw [hs, jE]
     exact hS11.pick [0, 1, 2, 3] (by decide) rfl
   have hin : ((gU o.cpls i).dst, pX (c.2 + (gU o.cpls i).shift)) ∈ stepN o r.cpl true c q i := (hk' _).1 (by
    unfold vT
    simpa using b6)
   have hs := hkeep (.inr hin)
   simp (disch := omega) only [↓RA, RZ, simprocAttr, hn, g1, g2, g3, g4, g5, g6, g12, g13, g14, q1, b1, b2, b4, b5, b6]
   exact ⟨n - 1, by omega, i + 1, kvs', qv', ⟨by omega, by rw [hs]; exact hk'⟩, by simp, by rw [hs]; exact hS7.pick [0, 1, 2, 3] (by decide) rfl⟩
  have hs := hkeep (.inl (by rw [← ec]; exact fun h => b5 ((xE o _).2 h)))
  simp (disch := omega) only [↓RA, RZ, simprocAttr, hn, g1, g2, g3, g4, g5, g6, g12, g13, g14, q1, b1, b2, b4, b5]
  exact ⟨n - 1, by omega, i + 1, kvs', qv', ⟨by omega, by rw [hs]; exact hk'⟩, by simp, by rw [hs]; exact hS7.pick [0, 1, 2, 3] (by decide) rfl⟩
 simp (disch := omega) only [↓RA, RZ, simprocAttr, c2c, q1]
 have hii : i = o.cpls.length := by omega
 subst hii
 exact ⟨kvs', qv', hk', hS2.pick [0, 1, 2] (by decide) rfl⟩
theorem b2v {B : Base} (o : Org) (r : Reg) (sv : Value) (c : Ct) (AO AR AS AQ M : Nat) (qv : Value) (q : List Ct) (kvs : List (Ct × Bool))
 (hS : St prog B H [⟨.map (some M), 0, KC kvs⟩, ⟨ptr AQ 0 1, 0, [qv]⟩, ⟨qv, 2, pr q⟩])
 (hO : ∀ {H1 : Heap} {os : List Ob}, St prog B H1 os → Var H1 AO 4 [.string o.name, o.rv, o.dv, o.cv] ∧ o.In H1 ∧ Var H1 AR 3 [sv, .int .u64 r.cpl, .int .u64 r.off] ∧ Var H1 AS 1 [.map (some M)])
 (hk : ∀ t, vT kvs t = true ↔ t ∈ q) (hq : Que o q) (ho : o.Fine) (hr : r.Ok) :
 Fn prog 90 [.agg #[I c.1, I c.2], .bool false, ptr AO 0 4, ptr AR 0 3, ptr AS 0 1, ptr AQ 0 1] H fun rr H' => ∃ kvs' qv', rr = .tuple #[] ∧ (∀ t, vT kvs' t = true ↔ t ∈ stepF o r.cpl false c q) ∧
  St prog B H' [⟨.map (some M), 0, KC kvs'⟩, ⟨ptr AQ 0 1, 0, [qv']⟩, ⟨qv', 2, pr (stepF o r.cpl false c q)⟩] := by
 have hcl := ho.clen
 refine .cK func90 rfl (by kernel_rfl) (m := 65) rfl fun l hn g0 g1 g2 g3 g4 g5 => ?_
 simp (disch := omega) only [↓RA, RB, simprocAttr, g0]
 refine hS.eNew 2 [I c.1, I c.2] rfl rfl rfl nR fun A1 H1 hS1 => ?_
 simp only [RT] at hS1
 simp (disch := omega) only [↓RA, RZ, simprocAttr, hn, g2, ((hO hS1).1).ld, ((hO hS1).2.1.2.2.2.2.1).len]
 refine Wp.al (fun n l H' => l.length = 65 ∧ get l 1 = (.bool false) ∧ get l 2 = (ptr AO 0 4) ∧ get l 3 = (ptr AR 0 3) ∧ get l 4 = (ptr AS 0 1) ∧ get l 5 = (ptr AQ 0 1) ∧ get l 6 = (ptr A1 0 2) ∧ get l 12 = o.cv ∧ get l 13 = I o.cpls.length ∧ ∃ (i : Nat) (kvs' : List (Ct × Bool)) (qv' : Value), (n + i = o.cpls.length ∧ ∀ t, vT kvs' t = true ↔ t ∈ stepN o r.cpl false c q i) ∧ get l 14 = I i ∧ St prog B H' [⟨.map (some M), 0, KC kvs'⟩, ⟨ptr AQ 0 1, 0, [qv']⟩, ⟨qv', 2, pr (stepN o r.cpl false c q i)⟩, ⟨ptr A1 0 2, 0, [I c.1, I c.2]⟩]) o.cpls.length ?_ ?_
 ·simp (disch := omega) only [RB, RC, simprocAttr, hn, g1, g2, g3, g4, g5]
  exact ⟨0, kvs, qv, ⟨by omega, hk⟩, rfl, hS1⟩
 rintro n l H2 ⟨hn, g1, g2, g3, g4, g5, g6, g12, g13, i, kvs', qv', ⟨hi,hk'⟩, g14, hS2⟩
 simp (disch := omega) only [↓RA, RB, simprocAttr, hn, g13, g14]
 refine gT (fun q1 => ?_) (fun q1 => ?_)
 ·have hql : (stepN o r.cpl false c q i).length ≤ 1024 := (hq.stepN r.cpl false c i).len ho
  have e1 := a1k r.cpl i hr.2.2.1
  have e2 := zW (r.cpl >>> i) (tN i hr.2.2.1)
  have e3 := tb r.cpl i
  have hskip : rJ r.cpl false c (gU o.cpls i) i = false → stepN o r.cpl false c q (i + 1) = stepN o r.cpl false c q i := fun h => by
   rw [lF, step1, if_neg (by rw [h]; simp)]
  have hkeep : oW o ((gU o.cpls i).dst, pX (c.2 + (gU o.cpls i).shift)) = false ∨ ((gU o.cpls i).dst, pX (c.2 + (gU o.cpls i).shift)) ∈ stepN o r.cpl false c q i → stepN o r.cpl false c q (i + 1) = stepN o r.cpl false c q i := fun h => by
   rw [lF, step1, if_neg]
   simp only [to1, cS, dw]
   rintro ⟨⟨_, h2⟩, h3⟩
   rcases h with h | h
   ·rw [h] at h2; cases h2
   ·exact absurd h (of_decide_eq_false h3)
  simp (disch := omega) only [↓RA, RZ, simprocAttr, hn, g12, g14, ((hO hS2).2.1.2.2.2.2.1).idx, ((hO hS2).2.1.2.2.2.2.1).aj, Cpl.cells, q1]
  refine hS2.eNew 5 [(.string ⟨#[]⟩), I 0, I 0, I 0, (.bool false)] rfl rfl rfl sK fun A2 H3 hS3 => ?_
  simp only [RT] at hS3
  simp (disch := omega) only [↓RA, RZ, simprocAttr, hn, q1]
  refine hS3.aa 4 rfl [(.string (gU o.cpls i).name), I (gU o.cpls i).src, I (gU o.cpls i).dst, I (gU o.cpls i).shift, (.bool (gU o.cpls i).thr)] rfl rfl sK (by simp) fun H4 hS4 => ?_
  simp only [RT] at hS4
  simp (disch := omega) only [↓RA, RZ, simprocAttr, hn, g3, ((hO hS4).2.2.1).ld, q1, e1, e2]
  refine iD (fun b1 => ?_) (fun b1 => ?_)
  ·have hs := hskip (by unfold rJ; rw [e3, decide_eq_false (by omega)]; rfl)
   simp (disch := omega) only [↓RA, RZ, simprocAttr, hn, g1, g2, g3, g4, g5, g6, g12, g13, g14, q1, b1]
   exact ⟨n - 1, by omega, i + 1, kvs', qv', ⟨by omega, by rw [hs]; exact hk'⟩, by simp, by rw [hs]; exact hS4.pick [0, 1, 2, 3] (by decide) rfl⟩
  have hb : r.cpl.testBit i = true := by rw [e3]; exact decide_eq_true (by omega)
  simp (disch := omega) only [↓RA, RZ, simprocAttr, hn, g6, hS4.ld 4 rfl, hS4.ld 3 rfl, q1, b1]
  refine iD (fun b2 => ?_) (fun b2 => ?_)
  ·have hs := hskip (by unfold rJ; rw [decide_eq_false b2]; simp)
   simp (disch := omega) only [↓RA, RZ, simprocAttr, hn, g1, g2, g3, g4, g5, g6, g12, g13, g14, q1, b1, b2]
   exact ⟨n - 1, by omega, i + 1, kvs', qv', ⟨by omega, by rw [hs]; exact hk'⟩, by simp, by rw [hs]; exact hS4.pick [0, 1, 2, 3] (by decide) rfl⟩
  have hsrc := dA.1 b2
  have hgo : rJ r.cpl false c (gU o.cpls i) i = true := by
   unfold rJ
   rw [hb, decide_eq_true hsrc]
   rfl
  simp (disch := omega) only [↓RA, RZ, simprocAttr, hn, g1, g6, hS4.ld 4 rfl, hS4.ld 3 rfl, q1, b1, b2]
  simp (disch := omega) only [↓RA, RZ, simprocAttr, pM]
  refine hS4.eNew 2 [I 0, I 0] rfl rfl rfl nR fun A3 H5 hS5 => ?_
  simp only [RT] at hS5
  simp (disch := omega) only [↓RA, RZ, simprocAttr, hn, q1, b1, b2]
  refine hS5.aa 5 rfl [I (gU o.cpls i).dst, I (pX (c.2 + (gU o.cpls i).shift))] rfl rfl nR (by simp) fun H6 hS6 => ?_
  simp only [RT] at hS6
  simp (disch := omega) only [↓RA, RZ, simprocAttr, hn, g2, ((hO hS6).1).aj, hS6.aj 5 rfl, q1, b1, b2]
  refine hS6.cF (a1J o (hO hS6).2.1 ((gU o.cpls i).dst, pX (c.2 + (gU o.cpls i).shift))) fun H7 hS7 => ?_
  simp (disch := omega) only [↓RA, RZ, simprocAttr, hn, q1, b1, b2]
  refine jB (fun b5 => ?_) (fun b5 => ?_)
  ·have hok := (xE o _).1 b5
   simp (disch := omega) only [↓RA, RZ, simprocAttr, hn, g4, ((hO hS7).2.2.2).ld, hS7.aj 5 rfl, q1, b1, b2, b5]
   refine hS7.bJ (k := ((gU o.cpls i).dst, pX (c.2 + (gU o.cpls i).shift))) 0 rfl a6u (fun _ => rfl) ?_
   simp (disch := omega) only [↓RA, RZ, simprocAttr, hn, q1, b1, b2, b5]
   refine jD (fun b6 => ?_) (fun b6 => ?_)
   ·have hnot : ((gU o.cpls i).dst, pX (c.2 + (gU o.cpls i).shift)) ∉ stepN o r.cpl false c q i := fun h => by
     have h := (hk' _).2 h
     unfold vT at h
     first | (rw [dw] at b6; exact Bool.false_ne_true (b6.symm.trans h)) | exact b6 h
    have hs : stepN o r.cpl false c q (i + 1) = stepN o r.cpl false c q i ++ [((gU o.cpls i).dst, pX (c.2 + (gU o.cpls i).shift))] := by
     rw [lF]
     unfold step1
     rw [if_pos (by simp only [to1, hgo, hok]; simp [hnot])]
     rfl
    simp (disch := omega) only [↓RA, RZ, simprocAttr, hn, g4, ((hO hS7).2.2.2).ld, hS7.aj 5 rfl, q1, b1, b2, b5, b6]
    refine hS7.ca (k := ((gU o.cpls i).dst, pX (c.2 + (gU o.cpls i).shift))) 0 rfl a6u fun H8 hS8 => ?_
    simp only [RT] at hS8
    simp (disch := omega) only [↓RA, RZ, simprocAttr, hn, g5, hS8.ld 1 rfl, hS8.aj 5 rfl, q1, b1, b2, b5, b6]
    refine hS8.ae [I (gU o.cpls i).dst, I (pX (c.2 + (gU o.cpls i).shift))] qM a2k rfl rfl (by simp [Value.cells]) rfl rfl (by decide) (by decide) fun w1 H9 hS9 => ?_
    simp only [RT] at hS9
    simp (disch := omega) only [↓RA, RZ, simprocAttr, hn, q1, b1, b2, b5, b6]
    refine hS9.aq 2 rfl (hS9.rd 6 rfl) qM (by rw [hK]; simp; omega) fun w2 H10 hS10 => ?_
    simp only [RT] at hS10
    simp (disch := omega) only [↓RA, RZ, simprocAttr, hn, g5, q1, b1, b2, b5, b6]
    refine hS10.aa 1 rfl [w2] (by rw [(hS10.rd 2 rfl).cells.1]) (by simp [(hS10.rd 2 rfl).cells.2.1]) a8x (by simp) fun H11 hS11 => ?_
    simp only [RT] at hS11
    simp (disch := omega) only [↓RA, RZ, simprocAttr, hn, g1, g2, g3, g4, g5, g6, g12, g13, g14, q1, b1, b2, b5, b6]
    refine ⟨n - 1, by omega, i + 1, a3x kvs' ((gU o.cpls i).dst, pX (c.2 + (gU o.cpls i).shift)) true, w2, ⟨by omega, fun t => ?_⟩, by simp, ?_⟩
    ·rw [hs, dx, dC, ← hk' t]
     unfold vT
     rw [a0X]
     by_cases e : t = ((gU o.cpls i).dst, pX (c.2 + (gU o.cpls i).shift))
     ·simp [e]
     ·simp [e]
    ·rw [hs, jE]
     exact hS11.pick [0, 1, 2, 3] (by decide) rfl
   have hin : ((gU o.cpls i).dst, pX (c.2 + (gU o.cpls i).shift)) ∈ stepN o r.cpl false c q i := (hk' _).1 (by
    unfold vT
    simpa using b6)
   have hs := hkeep (.inr hin)
   simp (disch := omega) only [↓RA, RZ, simprocAttr, hn, g1, g2, g3, g4, g5, g6, g12, g13, g14, q1, b1, b2, b5, b6]
   exact ⟨n - 1, by omega, i + 1, kvs', qv', ⟨by omega, by rw [hs]; exact hk'⟩, by simp, by rw [hs]; exact hS7.pick [0, 1, 2, 3] (by decide) rfl⟩
  have hs := hkeep (.inl (by rw [← ec]; exact fun h => b5 ((xE o _).2 h)))
  simp (disch := omega) only [↓RA, RZ, simprocAttr, hn, g1, g2, g3, g4, g5, g6, g12, g13, g14, q1, b1, b2, b5]
  exact ⟨n - 1, by omega, i + 1, kvs', qv', ⟨by omega, by rw [hs]; exact hk'⟩, by simp, by rw [hs]; exact hS7.pick [0, 1, 2, 3] (by decide) rfl⟩
 simp (disch := omega) only [↓RA, RZ, simprocAttr, c2c, q1]
 have hii : i = o.cpls.length := by omega
 subst hii
 exact ⟨kvs', qv', hk', hS2.pick [0, 1, 2] (by decide) rfl⟩
theorem zN (o : Org) (cp : Nat) (l : List Ct) (i : Nat) (h : i < l.length) : jX o cp (l.take (i + 1)) = stepF o cp false (gU l i) (jX o cp (l.take i)) := by
 unfold jX
 rw [lP l i h, gh]
 rfl
theorem mU (o : Org) (cp : Nat) (l : List Ct) : Que o (jX o cp l) := by
 unfold jX
 have : ∀ (l : List Ct) (q : List Ct), Que o q → Que o (l.foldl (fun q c => stepF o cp false c q) q) := by
  intro l
  induction l with
  | nil => intro q h; exact h
  | cons c l ih => intro q h; exact ih _ (h.stepF cp false c)
 exact this l [] (Que.nil o)
theorem a7T : iT (.map none) = true := rfl
theorem zQ (o : Org) (ho : o.In H) (hf : o.Fine) (r : Reg) (sv : Value) (hr : r.In H sv) (fv : Value) (first : List Ct) (hfi : Sl 2 jT H fv first) (hfl : first.length ≤ 1024) (hfo : ∀ c ∈ first, oW o c = true) :
 Fn prog 46 [.agg #[.string o.name, o.rv, o.dv, o.cv], .agg #[sv, .int .u64 r.cpl, .int .u64 r.off], fv] H fun rr H' => Slx 2 jT H' (fun B => H.length ≤ B) rr (mG o r first) ∧ St prog H H' [] := by
 refine .bA func46 rfl (by kernel_rfl) (m := 56) rfl fun l hn g0 g1 g2 => ?_
 simp (disch := omega) only [↓RA, RB, simprocAttr, g0]
 refine (sR H).eNew 4 [(.string o.name), o.rv, o.dv, o.cv] rfl rfl (by simp [OC, ((sR H).sl ho.1).cells.2.1, ((sR H).sl ho.2.2.1).cells.2.1, ((sR H).sl ho.2.2.2.2.1).cells.2.1]) mT fun A1 H1 hS1 => ?_
 simp only [RT] at hS1
 simp (disch := omega) only [↓RA, RB, simprocAttr, g1]
 refine hS1.eNew 3 [sv, (.int .u64 r.cpl), (.int .u64 r.off)] rfl rfl (by simp [OC, (hS1.sl hr.1).cells.2.1]) qP fun A2 H2 hS2 => ?_
 simp only [RT] at hS2
 simp (disch := omega) only [↓RA, RB, simprocAttr]
 refine hS2.bQ a6u fun M1 H3 hS3 => ?_
 simp only [RT] at hS3
 simp (disch := omega) only [↓RA, RZ, simprocAttr, a7T]
 refine hS3.eNew 1 [(.map none)] rfl rfl rfl b5x fun A3 H4 hS4 => ?_
 simp only [RT] at hS4
 simp (disch := omega) only [↓RA, RB, simprocAttr, hn]
 refine hS4.aa 3 rfl [(.map (some M1))] rfl rfl b5x (by simp) fun H5 hS5 => ?_
 simp only [RT] at hS5
 simp (disch := omega) only [↓RA, RZ, simprocAttr]
 refine hS5.eNew 1 [(.slice none 0 0)] rfl rfl rfl a8x fun A4 H6 hS6 => ?_
 simp only [RT] at hS6
 simp (disch := omega) only [↓RA, RZ, simprocAttr, hn, g2, (hS6.sl hfi).len]
 have hS7 := hS6.nil 1
 simp only [RT] at hS7
 have hS8 := hS7.nil 1
 simp only [RT] at hS8
 refine Wp.al (fun n l H' => l.length = 56 ∧ get l 4 = (ptr A2 0 3) ∧ get l 6 = (.slice none 0 0) ∧ get l 8 = (ptr A4 0 1) ∧ get l 10 = (.func (.func 90) #[] #[(ptr A1 0 4), (ptr A2 0 3), (ptr A3 0 1), (ptr A4 0 1)]) ∧ get l 16 = fv ∧ get l 17 = I first.length ∧ ∃ (i : Nat) (kvs : List (Ct × Bool)) (qv ov : Value), (n + i = first.length ∧ ∀ t, vT kvs t = true ↔ t ∈ jX o r.cpl (first.take i)) ∧ get l 18 = I i ∧ get l 9 = ov ∧ St prog H H' [⟨ptr A1 0 4, 0, [(.string o.name), o.rv, o.dv, o.cv]⟩, ⟨ptr A2 0 3, 0, [sv, (.int .u64 r.cpl), (.int .u64 r.off)]⟩, ⟨.map (some M1), 0, KC kvs⟩, ⟨ptr A3 0 1, 0, [(.map (some M1))]⟩, ⟨ptr A4 0 1, 0, [qv]⟩, ⟨qv, 2, pr (jX o r.cpl (first.take i))⟩, ⟨ov, 2, pr ((first.take i).filter fun c => !r.off.testBit c.1.toNat)⟩]) first.length ?_ ?_
 ·simp (disch := omega) only [RB, RC, simprocAttr, hn]
  refine ⟨0, [], .slice none 0 0, .slice none 0 0, ⟨by omega, fun t => ?_⟩, rfl, rfl, hS8⟩
  simp [vT, a0z, jX]
 rintro n l H7 ⟨hn, g4, g6, g8, sQ, g16, g17, i, kvs, qv, ov, ⟨hi,hk⟩, g18, g9, hS9⟩
 simp (disch := omega) only [↓RA, RB, simprocAttr, hn, g17, g18]
 refine gT (fun q1 => ?_) (fun q1 => ?_)
 ·have hci := (nJ o _).1 (hfo _ (gX (xs := first) (j := i) (by omega)))
  have hqu := mU o r.cpl (first.take i)
  have hqs := zN o r.cpl first i (by omega)
  have hql := (mU o r.cpl (first.take (i + 1))).len hf
  simp (disch := omega) only [↓RA, RZ, simprocAttr, hn, g16, g18, (hS9.sl hfi).idx, (hS9.sl hfi).aj, jT, q1]
  refine hS9.eNew 2 [I 0, I 0] rfl rfl rfl nR fun A5 H8 hS10 => ?_
  simp only [RT] at hS10
  simp (disch := omega) only [↓RA, RZ, simprocAttr, hn, q1]
  refine hS10.aa 7 rfl [I (gU first i).1, I (gU first i).2] rfl rfl nR (by simp) fun H9 hS11 => ?_
  simp only [RT] at hS11
  simp (disch := omega) only [↓RA, RZ, simprocAttr, hn, sQ, hS11.aj 7 rfl, q1]
  have hM1 := hS11.pick (os' := [⟨.map (some M1), 0, _⟩, ⟨ptr A4 0 1, 0, _⟩, ⟨qv, 2, _⟩]) [2, 4, 5] (by decide) rfl
  have hR1 := hS11.pick (os' := [⟨.map (some M1), 0, _⟩, ⟨ptr A4 0 1, 0, _⟩, ⟨qv, 2, _⟩, ⟨ptr A1 0 4, 0, _⟩, ⟨ptr A2 0 3, 0, _⟩, ⟨ptr A3 0 1, 0, _⟩, ⟨ov, 2, _⟩, ⟨ptr A5 0 2, 0, _⟩]) [2, 4, 5, 0, 1, 3, 6, 7] (by decide) rfl
  refine iB (b2v o r sv (gU first i) A1 A2 A3 A4 M1 qv (jX o r.cpl (first.take i)) kvs hM1.aF (fun h => ⟨(hR1.frame h.forget).var 0 rfl, ho.ai (hR1.frame h.forget), (hR1.frame h.forget).var 1 rfl, (hR1.frame h.forget).var 2 rfl⟩) hk hqu hf hr.2) ?_
  rintro r H10 ⟨kvs', qv', rfl, hk', hT1⟩
  have hS12 := hR1.frame hT1
  simp only [RT] at hS12
  have e1 := a1k r.off (gU first i).1.toNat hr.2.2.2.2
  have e2 := zW (r.off >>> (gU first i).1.toNat) (tN _ hr.2.2.2.2)
  have e3 := tb r.off (gU first i).1.toNat
  have htk := lP first i (by omega)
  have hfl : (pr ((first.take i).filter fun c => !r.off.testBit c.1.toNat)).length ≤ i * 2 := by
   rw [hK]
   refine dB 2 ?_
   refine dq (dW _ _) ?_
   simp
   omega
  rw [← hqs] at hk'
  simp (disch := omega) only [↓RA, RZ, simprocAttr, hn, g4, hS12.ld 4 rfl, hS12.ld 7 rfl, q1, e1, e2]
  refine gT (fun q2 => ?_) (fun q2 => ?_)
  ·have hx : ([gU first i].filter fun c => !r.off.testBit c.1.toNat) = [gU first i] := by simp [e3, decide_eq_false (show ¬ r.off >>> (gU first i).1.toNat % 2 = 1 by omega)]
   simp (disch := omega) only [↓RA, RZ, simprocAttr, hn, g9, hS12.aj 7 rfl, q1, q2]
   refine hS12.ae [I (gU first i).1, I (gU first i).2] qM a2k rfl rfl (by simp [Value.cells]) rfl rfl (by decide) (by decide) fun w1 H11 hS13 => ?_
   simp only [RT] at hS13
   simp (disch := omega) only [↓RA, RZ, simprocAttr, hn, q1, q2]
   refine hS13.aq 6 rfl (hS13.rd 8 rfl) qM (by first | (simp; done) | (simp; omega)) fun w2 H12 hS14 => ?_
   simp only [RT] at hS14
   simp (disch := omega) only [↓RA, RZ, simprocAttr, hn, g4, g6, g8, sQ, g16, g17, g18, q1, q2]
   refine ⟨n - 1, by omega, i + 1, kvs', qv', w2, ⟨by omega, hk'⟩, by simp, rfl, ?_⟩
   rw [hqs, htk, eO, hx, jE]
   exact hS14.pick [3, 4, 0, 5, 1, 2, 6] (by decide) rfl
  have hx : ([gU first i].filter fun c => !r.off.testBit c.1.toNat) = [] := by simp [e3, decide_eq_true (show r.off >>> (gU first i).1.toNat % 2 = 1 by omega)]
  simp (disch := omega) only [↓RA, RZ, simprocAttr, hn, g4, g6, g8, sQ, g16, g17, g18, g9, q1, q2]
  refine ⟨n - 1, by omega, i + 1, kvs', qv', ov, ⟨by omega, hk'⟩, by simp, rfl, ?_⟩
  rw [hqs, htk, eO, hx, di]
  exact hS12.pick [3, 4, 0, 5, 1, 2, 6] (by decide) rfl
 simp (disch := omega) only [↓RA, RZ, simprocAttr, q1]
 have hii : i = first.length := by omega
 subst hii
 rw [eo] at hk
 rw [eo] at hS9
 have hqu := mU o r.cpl first
 have hoL : (pr (first.filter fun c => !r.off.testBit c.1.toNat)).length ≤ 2048 := by
  rw [hK]
  exact dB 2 (dq (dW _ _) hfl)
 refine Wp.al (fun n l H' => l.length = 56 ∧ get l 6 = (.slice none 0 0) ∧ get l 8 = (ptr A4 0 1) ∧ get l 9 = ov ∧ get l 10 = (.func (.func 90) #[] #[(ptr A1 0 4), (ptr A2 0 3), (ptr A3 0 1), (ptr A4 0 1)]) ∧ ∃ (j : Nat) (kvs : List (Ct × Bool)) (qv : Value) (q : List Ct), (n + j = 1100 ∧ bfs o r.cpl n j q = bfs o r.cpl 1100 0 (jX o r.cpl first) ∧ Que o q ∧ ∀ t, vT kvs t = true ↔ t ∈ q) ∧ get l 13 = I j ∧ St prog H H' [⟨ptr A1 0 4, 0, [(.string o.name), o.rv, o.dv, o.cv]⟩, ⟨ptr A2 0 3, 0, [sv, (.int .u64 r.cpl), (.int .u64 r.off)]⟩, ⟨.map (some M1), 0, KC kvs⟩, ⟨ptr A3 0 1, 0, [(.map (some M1))]⟩, ⟨ptr A4 0 1, 0, [qv]⟩, ⟨qv, 2, pr q⟩, ⟨ov, 2, pr (first.filter fun c => !r.off.testBit c.1.toNat)⟩]) 1100 ?_ ?_
 ·simp (disch := omega) only [RB, RC, simprocAttr, hn, g6, g8, sQ, g9]
  exact ⟨0, kvs, qv, _, ⟨rfl, rfl, hqu, hk⟩, rfl, hS9⟩
 rintro n l H13 ⟨hn, g6, g8, g9, sQ, j, kvs, qv, q, ⟨hj,hbf,hqq,hkk⟩, g13, hS15⟩
 have hql := hqq.len hf
 simp (disch := omega) only [↓RA, RZ, simprocAttr, hn, g8, g13, hS15.ld 4 rfl, (hS15.ax 5 rfl (fun _ => rfl)).len]
 refine gT (fun q3 => ?_) (fun q3 => ?_)
 ·have hjl : j < q.length := by omega
  simp (disch := omega) only [↓RA, RZ, simprocAttr, hn, g8, sQ, g13, hS15.ld 4 rfl, (hS15.ax 5 rfl (fun _ => rfl)).idx, (hS15.ax 5 rfl (fun _ => rfl)).aj, jT, q3]
  have hM2 := hS15.pick (os' := [⟨.map (some M1), 0, _⟩, ⟨ptr A4 0 1, 0, _⟩, ⟨qv, 2, _⟩]) [2, 4, 5] (by decide) rfl
  have hR2 := hS15.pick (os' := [⟨.map (some M1), 0, _⟩, ⟨ptr A4 0 1, 0, _⟩, ⟨qv, 2, _⟩, ⟨ptr A1 0 4, 0, _⟩, ⟨ptr A2 0 3, 0, _⟩, ⟨ptr A3 0 1, 0, _⟩, ⟨ov, 2, _⟩]) [2, 4, 5, 0, 1, 3, 6] (by decide) rfl
  refine iB (b0K o r sv (gU q j) A1 A2 A3 A4 M1 qv q kvs hM2.aF (fun h => ⟨(hR2.frame h.forget).var 0 rfl, ho.ai (hR2.frame h.forget), (hR2.frame h.forget).var 1 rfl, (hR2.frame h.forget).var 2 rfl⟩) hkk hqq hf hr.2) ?_
  rintro r H14 ⟨kvs', qv', rfl, hk', hT2⟩
  have hS16 := hR2.frame hT2
  simp only [RT] at hS16
  simp (disch := omega) only [↓RA, RZ, simprocAttr, hn, g6, g8, g9, sQ, g13, q3]
  obtain ⟨n', rfl⟩ : ∃ n', n = n' + 1 := ⟨n - 1, by omega⟩
  rw [bfs, if_pos hjl] at hbf
  exact ⟨n', by omega, j + 1, kvs', qv', _, ⟨by omega, hbf, hqq.stepF _ _ _, hk'⟩, by simp, hS16.pick [3, 4, 0, 5, 1, 2, 6] (by decide) rfl⟩
 have hbq : bfs o r.cpl 1100 0 (jX o r.cpl first) = q := by
  rw [← hbf]
  cases n with
  | zero => rfl
  | succ n => rw [bfs, if_neg (by omega)]
 have hqp : (pr q).length ≤ 2048 := by rw [hK]; omega
 simp (disch := omega) only [↓RA, RZ, simprocAttr, hn, g8, g9, hS15.ld 4 rfl, q3]
 refine hS15.aq 6 rfl (hS15.rd 5 rfl) qM (by first | (simp; done) | (simp; omega)) fun w3 H15 hS17 => ?_
 simp only [RT] at hS17
 simp (disch := omega) only [↓RA, RZ, simprocAttr, hn, q3]
 rw [← jE, ← hbq] at hS17
 have hLL : ((first.filter fun c => !r.off.testBit c.1.toNat) ++ bfs o r.cpl 1100 0 (jX o r.cpl first)).length < 1000000 := by
  have h1 := dW (fun c : Ct => !r.off.testBit c.1.toNat) first
  rw [dj, hbq]
  omega
 refine c2Q hS17 6 rfl (gL hLL (by decide)) fun HS hSS => ?_
 simp only [List.set_cons_succ, fE] at hSS
 simp (disch := omega) only [↓RA, RZ, simprocAttr, hn, q3]
 have hM3 := hSS.pick (os' := [⟨w3, 2, _⟩]) [6] (by decide) rfl
 have hR3 := hSS.pick (os' := [⟨w3, 2, _⟩, ⟨ptr A1 0 4, 0, _⟩, ⟨ptr A2 0 3, 0, _⟩, ⟨.map (some M1), 0, _⟩, ⟨ptr A3 0 1, 0, _⟩, ⟨ptr A4 0 1, 0, _⟩, ⟨qv, 2, _⟩]) [6, 0, 1, 2, 3, 4, 5] (by decide) rfl
 refine iB (a6k hM3.aF (by rw [pW]; exact gL hLL (by decide))) ?_
 rintro r H16 ⟨rest, hb, hrd, hT3⟩
 have hS18 := hR3.frame hT3
 simp only [RT] at hS18
 have hrr := hrd _ (hS18.rd 0 rfl)
 have hrc := hrr.cells
 simp (disch := omega) only [↓RA, RZ, simprocAttr, hn, c4n, q3]
 refine ⟨⟨⟨hrr, kH, by decide⟩, fun b h => ?_⟩, hS18.forget⟩
 rcases hS18.new _ (dL ..) b (hb b h) with h | h
 ·exact h
 ·exact h.elim
theorem b8E {α : Type} [Inhabited α] [DecidableEq α] (l : List α) : (dd l).length ≤ l.length := c0Y l l.length
theorem a3f (rs : List Rk) (s : Stp) (key : Int) (h : ∀ g ∈ s.segs, g.draws.length ≤ 8) : (rD rs s key).length ≤ 8 := by
 unfold rD
 refine dq (b8E _) ?_
 rw [pW, dY]
 refine dq (dW _ _) ?_
 unfold a9o
 split
 ·simp
 ·exact h _ (gX (a3u (p := a7i s key) (n := s.segs.length) (by omega)))
def nF (o : Org) (rg : Reg) (c : Ct) (k : Nat) : List Ct := (List.range k).flatMap fun i => if (gU rg.stops c.1.toNat).testBit i then rD o.ranks (gU (gU o.dvs c.1.toNat).stops i) c.2 else []
theorem zJ (o : Org) (rg : Reg) (c : Ct) (k : Nat) : nF o rg c (k + 1) = nF o rg c k ++ (if (gU rg.stops c.1.toNat).testBit k then rD o.ranks (gU (gU o.dvs c.1.toNat).stops k) c.2 else []) := by
 unfold nF
 rw [dS, dG, dz, eT, di]
theorem xY {o : Org} (hf : o.Fine) (rg : Reg) {c : Ct} (hc : oW o c = true) : ∀ k, k ≤ (gU o.dvs c.1.toNat).stops.length → (nF o rg c k).length ≤ k * 8
 | 0, _ => by simp [nF]
 | k + 1, hk => by
   have h := xY hf rg hc k (by omega)
   have hc := (nJ o c).1 hc
   rw [zJ, dj]
   split
   ·have := a3f o.ranks (gU (gU o.dvs c.1.toNat).stops k) c.2 (hf.draws c.1.toNat (by omega) _ (gX (by omega)))
    omega
   ·simp
    omega
theorem b2m {o : Org} (hf : o.Fine) (rg : Reg) {c : Ct} (hc : oW o c = true) : (rM o rg c).length ≤ 480 := by
 have h := xY hf rg hc _ (da _)
 have h1 := (nJ o c).1 hc
 have := hf.stops c.1.toNat (by omega)
 have e : rM o rg c = nF o rg c (gU o.dvs c.1.toNat).stops.length := rfl
 rw [e]
 omega
theorem yF {o : Org} (hf : o.Fine) (rg : Reg) : ∀ (l : List Ct), (∀ c ∈ l, oW o c = true) → (l.flatMap (rM o rg)).length ≤ l.length * 480
 | [], _ => by simp
 | c :: l, h => by
   rw [dz, dj, ek]
   have h1 := yF hf rg l fun x hx => h x (by simp [hx])
   have h2 := b2m hf rg (h c (by simp))
   omega
theorem b3t (o : Org) (ho : o.In H) (hf : o.Fine) (rg : Reg) (sv : Value) (hr : rg.In H sv) (hrl : rg.stops.length = o.dvs.length) (fv : Value) (cs : List Ct) (hfi : Sl 2 jT H fv cs) (hfl : cs.length ≤ 2048) (hfo : ∀ c ∈ cs, oW o c = true) :
 Fn prog 66 [.agg #[.string o.name, o.rv, o.dv, o.cv], .agg #[sv, .int .u64 rg.cpl, .int .u64 rg.off], fv] H fun rr H' => Slx 2 jT H' (fun B => H.length ≤ B) rr (b4e o rg cs) ∧ St prog H H' [] := by
 refine .bA func66 rfl (by kernel_rfl) (m := 55) rfl fun l hn g0 g1 g2 => ?_
 simp (disch := omega) only [↓RA, RB, simprocAttr, g0]
 refine (sR H).eNew 4 [(.string o.name), o.rv, o.dv, o.cv] rfl rfl (by simp [OC, ((sR H).sl ho.1).cells.2.1, ((sR H).sl ho.2.2.1).cells.2.1, ((sR H).sl ho.2.2.2.2.1).cells.2.1]) mT fun A1 H1 hS1 => ?_
 simp only [RT] at hS1
 simp (disch := omega) only [↓RA, RB, simprocAttr, g1]
 refine hS1.eNew 3 [sv, (.int .u64 rg.cpl), (.int .u64 rg.off)] rfl rfl (by simp [OC, (hS1.sl hr.1).cells.2.1]) qP fun A2 H2 hS2 => ?_
 simp only [RT] at hS2
 simp (disch := omega) only [↓RA, RZ, simprocAttr, hn, g2, (hS2.sl hfi).len]
 have hS3 := hS2.nil 1
 simp only [RT] at hS3
 refine Wp.al (fun n l H' => l.length = 55 ∧ get l 3 = (ptr A1 0 4) ∧ get l 4 = (ptr A2 0 3) ∧ get l 6 = (.slice none 0 0) ∧ get l 12 = fv ∧ get l 13 = I cs.length ∧ ∃ (i : Nat) (ov : Value), (n + i = cs.length) ∧ get l 14 = I i ∧ get l 7 = ov ∧ St prog H H' [⟨ptr A1 0 4, 0, [(.string o.name), o.rv, o.dv, o.cv]⟩, ⟨ptr A2 0 3, 0, [sv, (.int .u64 rg.cpl), (.int .u64 rg.off)]⟩, ⟨ov, 2, pr ((cs.take i).flatMap (rM o rg))⟩]) cs.length ?_ ?_
 ·simp (disch := omega) only [RB, RC, simprocAttr, hn]
  exact ⟨0, .slice none 0 0, by omega, rfl, rfl, hS3⟩
 rintro n l H3 ⟨hn, g3, g4, g6, g12, g13, i, ov, hi, g14, g7, hS4⟩
 simp (disch := omega) only [↓RA, RB, simprocAttr, hn, g13, g14]
 refine gT (fun q1 => ?_) (fun q1 => ?_)
 ·have hci := (nJ o _).1 (hfo _ (gX (xs := cs) (j := i) (by omega)))
  obtain ⟨a, ha⟩ : ∃ a : Nat, (gU cs i).1 = a := ⟨(gU cs i).1.toNat, by omega⟩
  have ha1 : a < o.dvs.length := by omega
  have hst := (ho.2.2.2.1 _ (gX ha1)).2.2
  have hs60 := hf.stops a ha1
  simp (disch := omega) only [↓RA, RZ, simprocAttr, hn, g12, g14, (hS4.sl hfi).idx, (hS4.sl hfi).aj, jT, q1]
  refine hS4.eNew 2 [I 0, I 0] rfl rfl rfl nR fun A3 H4 hS5 => ?_
  simp only [RT] at hS5
  simp (disch := omega) only [↓RA, RZ, simprocAttr, hn, q1]
  refine hS5.aa 3 rfl [I (gU cs i).1, I (gU cs i).2] rfl rfl nR (by simp) fun H5 hS6 => ?_
  simp only [RT] at hS6
  simp (disch := omega) only [↓RA, RZ, simprocAttr, hn, g3, q1]
  simp only [ha] at hS6
  simp (disch := omega) only [↓RA, RZ, simprocAttr, hn, hS6.ld 0 rfl, hS6.ld 3 rfl, (hS6.sl ho.2.2.1).idx, (hS6.sl ho.2.2.1).bf, (hS6.sl ho.2.2.1).ld, Dvn.cells, (hS6.sl (ho.2.2.2.1 (gU o.dvs a) (gX (by omega))).1).len, q1, ha]
  have hta : (gU cs i).1.toNat = a := by omega
  have htk := lP cs i (by omega)
  have hsx := hr.2.2.1 _ (gX (xs := rg.stops) (j := a) (by omega))
  have hacc : (pr ((cs.take i).flatMap (rM o rg))).length ≤ 2048 * 960 := by
   rw [hK]
   have := yF hf rg (cs.take i) fun c hc => hfo c (List.mem_of_mem_take hc)
   rw [gQ] at this
   omega
  refine Wp.al (fun n l H' => l.length = 55 ∧ get l 3 = (ptr A1 0 4) ∧ get l 4 = (ptr A2 0 3) ∧ get l 6 = (.slice none 0 0) ∧ get l 9 = (ptr A3 0 2) ∧ get l 12 = fv ∧ get l 13 = I cs.length ∧ get l 14 = I i ∧ get l 24 = (gU o.dvs a).sv ∧ get l 25 = I (gU o.dvs a).stops.length ∧ ∃ (k : Nat) (ow : Value), (n + k = (gU o.dvs a).stops.length) ∧ get l 26 = I k ∧ get l 7 = ow ∧ St prog H H' [⟨ptr A1 0 4, 0, [(.string o.name), o.rv, o.dv, o.cv]⟩, ⟨ptr A2 0 3, 0, [sv, (.int .u64 rg.cpl), (.int .u64 rg.off)]⟩, ⟨ow, 2, pr ((cs.take i).flatMap (rM o rg) ++ nF o rg (gU cs i) k)⟩, ⟨ptr A3 0 2, 0, [I a, I (gU cs i).2]⟩]) (gU o.dvs a).stops.length ?_ ?_
  ·simp (disch := omega) only [RB, RC, simprocAttr, hn, g3, g4, g6, g12, g13, g14, g7]
   refine ⟨0, ov, by omega, rfl, rfl, ?_⟩
   rw [show nF o rg (gU cs i) 0 = [] from rfl, di]
   exact hS6
  rintro n l H6 ⟨hn, g3, g4, g6, g9, g12, g13, g14, g24, g25, k, ow, hj, g26, g7, hS7⟩
  simp (disch := omega) only [↓RA, RB, simprocAttr, hn, g25, g26]
  refine gT (fun q2 => ?_) (fun q2 => ?_)
  ·have e1 := a1k (gU rg.stops a) k hsx
   have e2 := zW (gU rg.stops a >>> k) (tN k hsx)
   have e3 := tb (gU rg.stops a) k
   have hsu := zJ o rg (gU cs i) k
   rw [hta] at hsu
   have hKl := xY hf rg (hfo _ (gX (xs := cs) (j := i) (by omega))) k (by rw [hta]; omega)
   have hKp : (pr (nF o rg (gU cs i) k)).length ≤ 2000 := by rw [hK]; omega
   simp (disch := omega) only [↓RA, RZ, simprocAttr, hn, g24, g26, (hS7.sl (ho.2.2.2.1 (gU o.dvs a) (gX (by omega))).1).idx, (hS7.sl (ho.2.2.2.1 (gU o.dvs a) (gX (by omega))).1).aj, Stp.cells, q2]
   refine hS7.eNew 4 [(.string ⟨#[]⟩), I 0, I 0, (.slice none 0 0)] rfl rfl rfl nV fun A4 H7 hS8 => ?_
   simp only [RT] at hS8
   simp (disch := omega) only [↓RA, RZ, simprocAttr, hn, q2]
   refine hS8.aa 4 rfl [(.string (gU (gU o.dvs a).stops k).name), I (gU (gU o.dvs a).stops k).num, I (gU (gU o.dvs a).stops k).den, (gU (gU o.dvs a).stops k).gv] rfl (by simp [OC, (hS8.sl ((ho.2.2.2.1 (gU o.dvs a) (gX (by omega))).2.1 (gU (gU o.dvs a).stops k) (gX (by omega))).1).cells.2.1]) nV (by simp) fun H8 hS9 => ?_
   simp only [RT] at hS9
   simp (disch := omega) only [↓RA, RZ, simprocAttr, hn, g4, g9, hS9.ld 1 rfl, hS9.ld 3 rfl, (hS9.sl hr.1).idx, (hS9.sl hr.1).ld, one, u64, q2, e1, e2]
   refine gT (fun q3 => ?_) (fun q3 => ?_)
   ·have hsu : nF o rg (gU cs i) (k + 1) = nF o rg (gU cs i) k ++ rD o.ranks (gU (gU o.dvs a).stops k) (gU cs i).2 := by rw [hsu, e3, if_pos (decide_eq_true (by omega))]
    have hpp : (pr (rD o.ranks (gU (gU o.dvs a).stops k) (gU cs i).2)).length ≤ 16 := by
     rw [hK]
     exact dB 2 (a3f _ _ _ (hf.draws a ha1 _ (gX (by omega))))
    simp (disch := omega) only [↓RA, RZ, simprocAttr, hn, g3, g9, g7, hS9.ld 0 rfl, hS9.aj 4 rfl, hS9.ld 3 rfl, q2, q3]
    refine iB (b5e o.rv o.ranks (hS9.sl ho.1) (fun q hq => (ho.2.1 q hq).ai hS9) ho.2.2.2.2.2.1 (gU (gU o.dvs a).stops k) (((ho.2.2.2.1 _ (gX ha1)).2.1 _ (gX (by omega))).ai hS9) (hf.draws a ha1 _ (gX (by omega))) (gU cs i).2) ?_
    rintro r H9 ⟨hx, hT1⟩
    have hS10 := hS9.trans hT1
    simp only [RT] at hS10
    simp (disch := omega) only [↓RA, RZ, simprocAttr, hn, q2, q3]
    refine hS10.aq 2 rfl hx.1.rd b6h (by have h := hpp; unfold pr at h; rw [jE, dj]; omega) fun w1 H10 hS11 => ?_
    simp only [RT] at hS11
    simp (disch := omega) only [↓RA, RZ, simprocAttr, hn, g3, g4, g6, g9, g12, g13, g14, g24, g25, g26, q2, q3]
    refine ⟨n - 1, by omega, k + 1, w1, by omega, by simp, rfl, ?_⟩
    rw [hsu, ← ed, jE]
    exact hS11.pick [0, 1, 2, 3] (by decide) rfl
   have hsu : nF o rg (gU cs i) (k + 1) = nF o rg (gU cs i) k := by rw [hsu, e3, if_neg (by rw [decide_eq_true_iff]; omega), di]
   simp (disch := omega) only [↓RA, RZ, simprocAttr, hn, g3, g4, g6, g9, g12, g13, g14, g24, g25, g26, g7, q2, q3]
   refine ⟨n - 1, by omega, k + 1, ow, by omega, by simp, rfl, ?_⟩
   rw [hsu]
   exact hS9.pick [0, 1, 2, 3] (by decide) rfl
  simp (disch := omega) only [↓RA, RZ, simprocAttr, hn, g3, g4, g6, g12, g13, g14, g7, q2]
  refine ⟨cs.length - (i + 1), by omega, i + 1, ow, by omega, by simp, rfl, ?_⟩
  have hkk : k = (gU o.dvs a).stops.length := by omega
  rw [htk, dG, dz, eT, di]
  have e : rM o rg (gU cs i) = nF o rg (gU cs i) k := by rw [hkk, ← hta]; rfl
  rw [e]
  exact hS7.pick [0, 1, 2] (by decide) rfl
 simp (disch := omega) only [↓RA, RZ, simprocAttr, hn, g7, q1]
 have hii : i = cs.length := by omega
 subst hii
 rw [eo] at hS4
 have hLL : (cs.flatMap (rM o rg)).length < 1000000 := by
  have := yF hf rg cs hfo
  omega
 refine c2h hS4 2 rfl (gL hLL (by decide)) fun HS hSS => ?_
 simp only [List.set_cons_succ, fE] at hSS
 simp (disch := omega) only [↓RA, RZ, simprocAttr, hn, g7, q1]
 have hM1 := hSS.pick (os' := [⟨ov, 2, _⟩]) [2] (by decide) rfl
 have hR1 := hSS.pick (os' := [⟨ov, 2, _⟩, ⟨ptr A1 0 4, 0, _⟩, ⟨ptr A2 0 3, 0, _⟩]) [2, 0, 1] (by decide) rfl
 refine iB (zK hM1.aF (by rw [pW]; exact gL hLL (by decide))) ?_
 rintro r H11 ⟨rest, hb, hrd, hT2⟩
 have hS12 := hR1.frame hT2
 simp only [RT] at hS12
 have hrr := hrd _ (hS12.rd 0 rfl)
 have hrc := hrr.cells
 simp (disch := omega) only [↓RA, RZ, simprocAttr, hn, c4Q, q1]
 refine ⟨⟨⟨hrr, kH, by decide⟩, fun b h => ?_⟩, hS12.forget⟩
 rcases hS12.new _ (dL ..) b (hb b h) with h | h
 ·exact h
 ·exact h.elim
end Go.Ds
namespace Go.Ds
open Go.Proofs Go.Proofs.Tryz
variable {H : Heap}
set_option maxRecDepth 10000
theorem Sl.bL {α : Type} {n : Nat} {cel : α → List Value} {v : Value} {xs : List α} (h : Sl n cel H v xs) : jS v = true := by
 rcases h.rd with ⟨rfl, _⟩ | ⟨A, i, e, row, ty, rw, lo, ver, n, _, _, _, _, _, _, rfl⟩ <;> rfl
theorem b9D {α : Type} [Inhabited α] [DecidableEq α] {l : List α} {x : α} (h : x ∈ dd l) : x ∈ l := by
 unfold dd wD at h
 obtain ⟨i, hi, rfl⟩ := dp.1 h
 exact gX (dm.1 (eQ.1 hi).1)
theorem b6x {l : List (Int × Int)} {x : Int × Int} : x ∈ sP l ↔ x ∈ l := (lZ l).mem_iff
theorem Que.bfs {o : Org} (cp : Nat) : ∀ (n i : Nat) {q : List Ct}, Que o q → Que o (bfs o cp n i q)
 | 0, _, _, h => h
 | n + 1, i, q, h => by
   rw [Go.Ds.bfs]
   split
   ·exact Que.bfs cp n (i + 1) (h.stepF cp true _)
   ·exact h
theorem a8H {o : Org} {rg : Reg} {l : List Ct} (hl : ∀ c ∈ l, oW o c = true) : ∀ c ∈ mG o rg l, oW o c = true := by
 intro c hc
 unfold mG at hc
 have hc := b6x.1 (b9D hc)
 rcases dx.1 hc with h | h
 ·exact hl c (eQ.1 h).1
 ·exact ((mU o rg.cpl l).bfs rg.cpl 1100 0).2 c h
theorem a1y {o : Org} (hf : o.Fine) {rg : Reg} {l : List Ct} (hl : l.length ≤ 1024) : (mG o rg l).length ≤ 2048 := by
 unfold mG
 refine dq (b8E _) ?_
 rw [pW, dj]
 have h1 := dW (fun c : Ct => !rg.off.testBit c.1.toNat) l
 have h2 := ((mU o rg.cpl l).bfs rg.cpl 1100 0).len hf
 omega
theorem a6E (o : Org) (ho : o.In H) (hf : o.Fine) (rg : Reg) (sv : Value) (hr : rg.In H sv) (hrl : rg.stops.length = o.dvs.length) (fv : Value) (cs : List Ct) (hfi : Sl 2 jT H fv cs) (hfl : cs.length ≤ 1024) (hfo : ∀ c ∈ cs, oW o c = true) :
 Fn prog 55 [.agg #[.string o.name, o.rv, o.dv, o.cv], .agg #[sv, .int .u64 rg.cpl, .int .u64 rg.off], fv] H fun rr H' => Slx 2 jT H' (fun B => H.length ≤ B) rr (a8d o rg cs) ∧ St prog H H' [] := by
 refine .bA func55 rfl (by kernel_rfl) (m := 14) rfl fun l hn g0 g1 g2 => ?_
 simp (disch := omega) only [↓RA, RB, simprocAttr, g0]
 refine (sR H).eNew 4 [(.string o.name), o.rv, o.dv, o.cv] rfl rfl (by simp [OC, ((sR H).sl ho.1).cells.2.1, ((sR H).sl ho.2.2.1).cells.2.1, ((sR H).sl ho.2.2.2.2.1).cells.2.1]) mT fun A1 H1 hS1 => ?_
 simp only [RT] at hS1
 simp (disch := omega) only [↓RA, RB, simprocAttr, g1]
 refine hS1.eNew 3 [sv, (.int .u64 rg.cpl), (.int .u64 rg.off)] rfl rfl (by simp [OC, (hS1.sl hr.1).cells.2.1]) qP fun A2 H2 hS2 => ?_
 simp only [RT] at hS2
 simp (disch := omega) only [↓RA, RB, simprocAttr]
 refine Wp.aT jU [(0, 6), (1, 6)] (by kernel_rfl) (by kernel_rfl) ?_
 simp (disch := omega) only [↓RA, RZ, simprocAttr, hn, g2, hS2.aj 0 rfl, hS2.aj 1 rfl]
 refine iB (zQ o (ho.ai hS2) hf rg sv (hr.ai hS2) fv cs (hS2.sl hfi) hfl hfo) ?_
 rintro r H3 ⟨hx, hT1⟩
 have hS3 := hS2.trans hT1
 simp only [RT] at hS3
 simp (disch := omega) only [↓RA, RZ, simprocAttr, hn]
 have hSd := hS3
 refine iB (b3t o (ho.ai hS3) hf rg sv (hr.ai hS3) hrl r (mG o rg cs) hx.1 (a1y hf hfl) (a8H hfo)) ?_
 rintro r2 H9 ⟨hx2, hT9⟩
 have hS9 := hSd.trans hT9
 simp only [RT] at hS9
 have hc2 := hx2.1.cells
 simp (disch := omega) only [↓RA, RZ, simprocAttr, hn, hS3.aj 0 rfl, hS3.aj 1 rfl, c3N]
 refine ⟨⟨hx2.1, fun b h => ?_⟩, hS9.forget⟩
 have := hx2.2 b h
 have : H.length ≤ _ := hSd.len
 omega
def rgc (p : Value × Reg) : List Value := [p.1, .int .u64 p.2.cpl, .int .u64 p.2.off]
def qC (o : Org) (l : List (Value × Reg)) : Int := if organE o ≠ 0 then organE o else kY (fun j => pY o (gU l j).2) l.length
theorem b2u (o : Org) (ho : o.In H) (lv : Value) (xs : List (Value × Reg)) (hl : Sl 3 rgc H lv xs) (hle : xs.length < 1000000000) (hr : ∀ p ∈ xs, p.2.In H p.1) :
 Fn prog 89 [.agg #[.string o.name, o.rv, o.dv, o.cv], lv] H fun r H' => r = I (qC o xs) ∧ St prog H H' [] := by
 refine .aG func89 rfl (by kernel_rfl) (m := 27) rfl fun l hn g0 g1 => ?_
 simp (disch := omega) only [↓RA, RB, simprocAttr, g0]
 refine (sR H).eNew 4 [(.string o.name), o.rv, o.dv, o.cv] rfl rfl (by simp [OC, ((sR H).sl ho.1).cells.2.1, ((sR H).sl ho.2.2.1).cells.2.1, ((sR H).sl ho.2.2.2.2.1).cells.2.1]) mT fun A1 H1 hS1 => ?_
 simp only [RT] at hS1
 simp (disch := omega) only [↓RA, RZ, simprocAttr, hn, hS1.aj 0 rfl]
 refine hS1.cF (a1B o (ho.ai hS1)) fun H2 hS2 => ?_
 simp (disch := omega) only [↓RA, RB, simprocAttr, hn]
 refine gT (fun h1 => ?_) (fun h1 => ?_)
 ·simp (disch := omega) only [↓RA, RZ, simprocAttr, hn, b9i, h1]
  exact ⟨by rw [qC, if_pos h1], hS2.forget⟩
 have hE : qC o xs = kY (fun j => pY o (gU xs j).2) xs.length := by rw [qC, if_neg h1]
 simp (disch := omega) only [↓RA, RZ, simprocAttr, hn, g1, (hS2.sl hl).len, h1]
 refine Wp.al (fun n l H' => l.length = 27 ∧ get l 2 = (ptr A1 0 4) ∧ get l 14 = lv ∧ get l 15 = I xs.length ∧ ∃ (j : Nat), (n + j = xs.length ∧ ∀ q, q < j → pY o (gU xs q).2 = 0) ∧ get l 16 = I j ∧ St prog H H' [⟨ptr A1 0 4, 0, [(.string o.name), o.rv, o.dv, o.cv]⟩]) xs.length ?_ ?_
 ·simp (disch := omega) only [RB, RC, simprocAttr, hn]
  exact ⟨0, ⟨by omega, fun q hq => absurd hq (dF _)⟩, rfl, hS2⟩
 rintro n l H3 ⟨hn, g2, g14, g15, j, ⟨hj,hz⟩, g16, hS3⟩
 simp (disch := omega) only [↓RA, RB, simprocAttr, hn, g15, g16]
 refine gT (fun q1 => ?_) (fun q1 => ?_)
 ·simp (disch := omega) only [↓RA, RZ, simprocAttr, hn, g14, g16, (hS3.sl hl).idx, (hS3.sl hl).aj, rgc, q1]
  refine hS3.eNew 3 [(.slice none 0 0), (.int .u64 0), (.int .u64 0)] rfl rfl rfl qP fun A2 H4 hS4 => ?_
  simp only [RT] at hS4
  simp (disch := omega) only [↓RA, RZ, simprocAttr, hn, q1]
  refine hS4.aa 1 rfl [(gU xs j).1, (.int .u64 (gU xs j).2.cpl), (.int .u64 (gU xs j).2.off)] rfl (by simp [OC, (hS4.sl (hr (gU xs j) (gX (by omega))).1).cells.2.1]) qP (by simp) fun H5 hS5 => ?_
  simp only [RT] at hS5
  simp (disch := omega) only [↓RA, RZ, simprocAttr, hn, g2, hS5.aj 0 rfl, hS5.aj 1 rfl, q1]
  refine hS5.cF (b9e o (ho.ai hS5) (gU xs j).2 (gU xs j).1 ((hr _ (gX (by omega))).ai hS5)) fun H6 hS6 => ?_
  simp (disch := omega) only [↓RA, RZ, simprocAttr, hn, q1]
  refine gT (fun q2 => ?_) (fun q2 => ?_)
  ·simp (disch := omega) only [↓RA, RZ, simprocAttr, hn, b9i, q1, q2]
   exact ⟨by rw [hE, nN (fun j => pY o (gU xs j).2) xs.length j (by omega) q2 hz], hS6.forget⟩
  simp (disch := omega) only [↓RA, RZ, simprocAttr, hn, g2, g14, g15, g16, q1, q2]
  exact ⟨n - 1, by omega, j + 1, ⟨by omega, fun q hq => by rcases de.1 hq with e | e; (· exact hz q e); (· rw [e]; exact dA.1 q2)⟩, by simp, hS6.pick [0] (by decide) rfl⟩
 simp (disch := omega) only [↓RA, RZ, simprocAttr, hn, b9i, q1]
 exact ⟨by rw [hE, kG (fun j => pY o (gU xs j).2) xs.length fun q hq => hz q (by omega)], hS3.forget⟩
theorem a4K (o : Org) (sv : Value) (rg : Reg) : qC o [(sv, rg)] = pY o rg := by
 unfold qC
 split
 ·rename_i h
  unfold pY
  rw [if_pos h]
 ·by_cases h : pY o rg = 0
  ·rw [h]
   exact kG _ _ fun j hj => by
    have : j = 0 := by simpa using hj
    rw [this]
    exact h
  ·exact nN (fun j => pY o (gU [(sv, rg)] j).2) 1 0 (by decide) h fun j hj => absurd hj (dF _)
theorem vL {o : Org} {rg : Reg} (h : pY o rg = 0) : organE o = 0 ∧ rg.stops.length = o.dvs.length := by
 unfold pY at h
 split at h
 ·rename_i hh; exact absurd h hh
 rename_i h1
 split at h
 ·omega
 exact ⟨dA.1 h1, by omega⟩
end Go.Ds
namespace Go.Ds
open Go.Proofs
structure Ctl where
 kind : Int
 dv : Int
 ix : Int
 deriving Inhabited, DecidableEq
def Ctl.cells (c : Ctl) : List Value := [I c.kind, I c.dv, I c.ix]
def nS (n : Nat) : List Nat := (List.range 64).filter fun i => n.testBit i
end Go.Ds
namespace Go.Ds
open Go.Proofs
variable {H : Heap}
set_option maxRecDepth 10000
set_option maxHeartbeats 1000000
theorem Wp.bM {P : Program} {c c' : Code} {l l' : List Value} {Q : mV} (hc : c' = c) (hl : l' = l) (h : SW P c l H Q) : Wp P c' l' H Q := by
 subst hc hl; exact h.wp
theorem Wp.cC {P : Program} {c : Code} {l : List Value} {Q : mV} (h : ∀ l', l' = l → Wp P c l' H Q) : Wp P c l H Q := h l rfl
theorem Wp.cd {P : Program} {t : Tmp} {ps : Array Tmp} {assign body : Code} {l : List Value} {Q : mV} {k : FuncId} {captured : List Value} (hg : get l t = .func (.func k) #[] captured.toArray)
 (h : ∀ r : Loop, r.state = .ready → r.pending = none → r.tmps = l.toArray → r.params = ps → r.assign = assign → r.body = body →
   FnS P k ([.func (.yield H.length) #[] #[]] ++ captured) (H.cons (.loop r)) (b3N P l H.length Q)) : Wp P (.rangeFunc (.tmp t) ps assign body) l H Q :=
 Wp.range (first := []) rfl hg (h (a9Z l ps assign body) rfl rfl rfl rfl rfl rfl)
theorem Lp.left {P : Program} {B : Base} {L : Nat} {r : Loop} {ls rest : List Ob} (h : Lp P B L r H (ls ++ rest)) : Lp P B L r H ls := h.sub (List.sublist_append_left _ _)
theorem OwnAt.var {P : Program} {A n : Nat} {cs : List Value} (h : OwnAt P H ⟨ptr A 0 n, 0, cs⟩) : Var H A n cs := by
 unfold OwnAt at h
 rw [if_pos rfl] at h
 rcases h with ⟨A', ty, lo, ver, h1, h2, h3⟩ | ⟨A', es, ck, ver, _, _, h3, _⟩
 ·simp only [ptr, Value.pointer.injEq, du, Addr.mk.injEq] at h3
  obtain ⟨rfl, _, hn⟩ := h3
  exact ⟨hn, ty, true, lo, ver, h1, h2⟩
 ·cases h3
theorem a5y {n i : Nat} (h : i < n) : ∃ t, List.range n = List.range i ++ i :: t := by
 refine ⟨(List.range n).drop (i + 1), ?_⟩
 have h1 : (List.range n).take i = List.range i := by rw [List.take_range, fH (by omega)]
 have h2 := fm (l := List.range n) (i := i) (by simpa using h)
 rw [List.getElem_range] at h2
 rw [← h1, ← h2, List.take_append_drop]
def b4k (x n : Nat) : List Nat := (List.range n).filter fun i => x.testBit i
theorem a4S (x n : Nat) : (b4k x n).length ≤ n := by
 unfold b4k
 refine dq (dW _ _) ?_
 simp
structure Pv where
 v : Value
 l : List Ct
 deriving Inhabited
def Pv.cells (p : Pv) : List Value := [p.v]
def Pv.Ix (H : Heap) (X : Nat → Prop) (p : Pv) : Prop := Slx 2 jT H X p.v p.l
theorem Pv.Ix.step {H' : Heap} {X Y : Nat → Prop} {p : Pv} (h : p.Ix H X) (hk : Kept H X H' Y) : p.Ix H' Y := Slx.step h hk
theorem Kept.and {H' : Heap} {X Y : Nat → Prop} (Q : Nat → Prop) (h : Kept H X H' Y) : Kept H (fun B => Q B ∧ X B) H' (fun B => Q B ∧ Y B) :=
 fun B hX hB => ⟨(h B hX.2 hB).1, hX.1, (h B hX.2 hB).2⟩
theorem Fn.tr {P : Program} {k : FuncId} {args : List Value} {R : Value → Heap → Prop} (h : Fn P k args H R) : Fn P k args H fun v H' => True ∧ R v H' := by
 simpa using h
theorem c2l (i : Nat) (hi : i < 64) : IntKind.wrap .u64 (1 * 2 ^ min i (IntKind.bits .u64)) = ((2 ^ i : Nat) : Int) := by
 have e : IntKind.bits .u64 = 64 := rfl
 rw [e, fH (by omega), Int.one_mul]
 have h1 : ((2 ^ i : Nat) : Int) = 2 ^ i := by simp
 rw [← h1]
 have h2 : 2 ^ i ≤ 2 ^ 63 := fb (by decide) (by omega)
 have h5 : ((2 ^ i : Nat) : Int) ≤ ((2 ^ 63 : Nat) : Int) := Int.ofNat_le.2 h2
 exact nH _ (Int.natCast_nonneg _) (Int.lt_of_le_of_lt h5 (by decide))
end Go.Ds
namespace Go.Ds
open Go.Proofs Go.Proofs.Tryz
variable {H : Heap}
set_option maxRecDepth 10000
set_option maxHeartbeats 1000000
theorem vC {α : Type} [Inhabited α] {xs ys : List α} (hl : xs.length = ys.length) (h : ∀ j, j < xs.length → gU xs j = gU ys j) : xs = ys := by
 apply List.ext_getElem hl
 intro j h1 h2
 have := h j h1
 rwa [jY xs j h1, jY ys j h2] at this
theorem b2U (v w : Value) (xs ys : List Ct) (hv : Sl 2 jT H v xs) (hw : Sl 2 jT H w ys) (hl : xs.length < 1000000000) (hl2 : ys.length < 1000000000) :
 Fn prog 26 [v, w] H fun r H' => r = .bool (decide (xs = ys)) ∧ St prog H H' [] := by
 refine .aG func26 rfl (by kernel_rfl) (m := 26) rfl fun l hn g0 g1 => ?_
 simp (disch := omega) only [↓RA, RZ, simprocAttr, hn, g0, g1, ((sR H).sl hv).len, ((sR H).sl hw).len]
 refine gT (fun h1 => ?_) (fun h1 => ?_)
 ·simp (disch := omega) only [↓RA, RZ, simprocAttr, hn, c0X, h1]
  exact ⟨by rw [decide_eq_false]; intro e; rw [e] at h1; exact h1 rfl, (sR H)⟩
 simp (disch := omega) only [↓RA, RZ, simprocAttr, hn, g0, ((sR H).sl hv).len, h1]
 refine Wp.al (fun n l H' => l.length = 26 ∧ get l 0 = v ∧ get l 1 = w ∧ get l 12 = I xs.length ∧ ∃ (j : Nat), (n + j = xs.length ∧ ∀ q, q < j → gU xs q = gU ys q) ∧ get l 13 = I j ∧ St prog H H' []) xs.length ?_ ?_
 ·simp (disch := omega) only [RB, RC, simprocAttr, hn, g0, g1]
  exact ⟨0, ⟨by omega, fun q hq => absurd hq (dF _)⟩, rfl, (sR H)⟩
 rintro n l H1 ⟨hn, g0, g1, g12, j, ⟨hj,hz⟩, g13, hS1⟩
 simp (disch := omega) only [↓RA, RB, simprocAttr, hn, g12, g13]
 refine gT (fun q1 => ?_) (fun q1 => ?_)
 ·simp (disch := omega) only [↓RA, RZ, simprocAttr, hn, g13, q1]
  refine Wp.drw jU (by kernel_rfl) ?_
  simp (disch := omega) only [↓RA, RZ, simprocAttr, hn, g0, g1, (hS1.sl hv).idx, (hS1.sl hv).aj, jT, (hS1.sl hw).idx, (hS1.sl hw).aj]
  refine gT (fun q2 => ?_) (fun q2 => ?_)
  ·simp (disch := omega) only [↓RA, RZ, simprocAttr, hn, c0X, q2]
   refine ⟨?_, hS1⟩
   rw [decide_eq_false]
   intro e
   rw [e] at q2
   exact q2 ⟨rfl, rfl⟩
  have q3 := dA.1 q2
  simp (disch := omega) only [↓RA, RZ, simprocAttr, hn, g0, g1, g12, g13, q2]
  exact ⟨n - 1, by omega, j + 1, ⟨by omega, fun q hq => by rcases de.1 hq with e | e; (· exact hz q e); (· rw [e]; exact fT q3.1 q3.2)⟩, by simp, hS1⟩
 simp (disch := omega) only [↓RA, RZ, simprocAttr, hn, c0X, q1]
 exact ⟨by rw [decide_eq_true]; exact vC (by omega) fun q hq => hz q (by omega), hS1⟩
def Pv.In (H : Heap) (p : Pv) : Prop := Sl 2 jT H p.v p.l
end Go.Ds
namespace Go.Ds
open Go.Proofs
variable {H : Heap}
set_option maxRecDepth 10000
set_option maxHeartbeats 1000000
end Go.Ds
