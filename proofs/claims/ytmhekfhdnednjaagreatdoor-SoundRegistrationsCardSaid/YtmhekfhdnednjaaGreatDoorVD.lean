/-
  A part of the proof of SoundRegistrations.
-/
import Derived.Test.YtmhekfhdnednjaaGreatDoorVC
import Derived.Test.YtmhekfhdnednjaaGreatDoorVB
import Derived.Shelf.SlSortCmp.NoneTotal
import Derived.Shelf.SlGeneric
import Derived.Shelf.SlLaysF0
import Derived.Test.YtmhekfhdnednjaaGreatDoorProg
set_option linter.unusedVariables false
set_option linter.unusedSimpArgs false
set_option linter.defProp false
set_option linter.unusedSectionVars false
namespace Go.Ds
open Go.Proofs Go.Proofs.Tryz
variable {H : Heap}
def oR (b : Int) : Bool := (decide (65 ≤ b) && decide (b ≤ 90)) || (decide (97 ≤ b) && decide (b ≤ 122))
theorem a2J (b : Int) : Fn prog 104 [.int .u8 b] H fun r H' => r = .bool (oR b) ∧ St prog H H' [] := by
 refine .aS func104 rfl (by kernel_rfl) (m := 17) rfl fun l hn g0 => ?_
 simp (disch := omega) only [↓RA, RZ, simprocAttr, hn, g0]
 refine jO (fun h1 => ?_) (fun h1 => ?_)
 ·simp (disch := omega) only [↓RA, RZ, simprocAttr, hn, g0, h1]
  refine gW (fun h2 => ?_) (fun h2 => ?_)
  ·simp (disch := omega) only [↓RA, RZ, simprocAttr, hn, a5B, h1, h2]
   first | exact (sR H) | exact ⟨by simp [oR, h1, h2], (sR H)⟩
  simp (disch := omega) only [↓RA, RZ, simprocAttr, hn, g0, h1, h2]
  refine jO (fun h3 => ?_) (fun h3 => ?_)
  ·simp (disch := omega) only [↓RA, RZ, simprocAttr, hn, g0, a5B, h1, h2, h3]
   first | exact (sR H) | exact ⟨by simp [oR, h1, h2, h3], (sR H)⟩
  simp (disch := omega) only [↓RA, RZ, simprocAttr, hn, a5B, h1, h2, h3]
  first | exact (sR H) | exact ⟨by simp [oR, h1, h2, h3], (sR H)⟩
 simp (disch := omega) only [↓RA, RZ, simprocAttr, hn, g0, h1]
 refine jO (fun h4 => ?_) (fun h4 => ?_)
 ·simp (disch := omega) only [↓RA, RZ, simprocAttr, hn, g0, a5B, h1, h4]
  first | exact (sR H) | exact ⟨by simp [oR, h1, h4], (sR H)⟩
 simp (disch := omega) only [↓RA, RZ, simprocAttr, hn, a5B, h1, h4]
 first | exact (sR H) | exact ⟨by simp [oR, h1, h4], (sR H)⟩
theorem b1P (b : Int) : Fn prog 106 [I b] H fun r H' => r = .bool (decide (-256 ≤ b) && decide (b ≤ 256)) ∧ St prog H H' [] := by
 refine .aS func106 rfl (by kernel_rfl) (m := 9) rfl fun l hn g0 => ?_
 simp (disch := omega) only [↓RA, RZ, simprocAttr, hn, g0]
 refine jO (fun h1 => ?_) (fun h1 => ?_)
 ·simp (disch := omega) only [↓RA, RZ, simprocAttr, hn, g0, b7X, h1]
  first | exact (sR H) | exact ⟨by simp [h1], (sR H)⟩
 simp (disch := omega) only [↓RA, RZ, simprocAttr, hn, b7X, h1]
 first | exact (sR H) | exact ⟨by simp [], (sR H)⟩
theorem b2u (b : Int) : Fn prog 144 [I b] H fun r H' => r = .bool (decide (b < 0) || decide (1000000 < b)) ∧ St prog H H' [] := by
 refine .aS func144 rfl (by kernel_rfl) (m := 9) rfl fun l hn g0 => ?_
 simp (disch := omega) only [↓RA, RZ, simprocAttr, hn, g0]
 refine gW (fun h1 => ?_) (fun h1 => ?_)
 ·simp (disch := omega) only [↓RA, RZ, simprocAttr, hn, b7y, h1]
  first | exact (sR H) | exact ⟨by simp [], (sR H)⟩
 simp (disch := omega) only [↓RA, RZ, simprocAttr, hn, g0, b7y, h1]
 first | exact (sR H) | exact ⟨by simp [], (sR H)⟩
theorem a3C (n : Int) (h : -9223372036854775808 ≤ n) (h0 : n < 0) : IntKind.wrap .u64 (0 - IntKind.wrap .u64 n) = n.natAbs := by
 have e : ∀ m : Int, IntKind.wrap .u64 m = m % 18446744073709551616 := fun m => by
  show (if (false && decide (m % 18446744073709551616 ≥ 9223372036854775808)) = true then m % 18446744073709551616 - 18446744073709551616 else m % 18446744073709551616) = _
  simp
 rw [e, e]
 omega
theorem a2Y (n : Int) (hn0 : c0Q n) : Fn prog 191 [I n] H fun r H' => r = .int .u64 n.natAbs ∧ St prog H H' [] := by
 refine .aS func191 rfl (by kernel_rfl) (m := 10) rfl fun l hn g0 => ?_
 simp (disch := omega) only [↓RA, RB, simprocAttr, hn, g0]
 refine gM (fun h => ?_) (fun h => ?_)
 ·simp (disch := omega) only [↓RA, RZ, simprocAttr, hn, g0, b7C, h]
  exact ⟨by rw [a3C n hn0.1 h], (sR H)⟩
 simp (disch := omega) only [↓RA, RZ, simprocAttr, hn, g0, b7C, h]
 refine ⟨?_, (sR H)⟩
 have := hn0.2
 rw [pD n (by omega) (by omega)]
 congr 1
 omega
theorem b8p (a b : Nat) (ha : a < 18446744073709551616) (hb : b < 18446744073709551616) : Fn prog 190 [.int .u64 a, .int .u64 b] H fun r H' => r = .int .u64 (Nat.gcd a b) ∧ St prog H H' [] := by
 refine .aM func190 rfl (by kernel_rfl) (m := 12) rfl fun l hn g0 g1 => ?_
 simp (disch := omega) only [↓RA, RB, simprocAttr]
 refine Wp.al (fun n l H' => l.length = 12 ∧ get l 4 = (.int .u64 0) ∧ ∃ (x y : Nat), (n = y ∧ x < 18446744073709551616 ∧ y < 18446744073709551616 ∧ Nat.gcd a b = Nat.gcd x y) ∧ get l 0 = (.int .u64 x) ∧ get l 1 = (.int .u64 y) ∧ St prog H H' []) b ?_ ?_
 ·simp (disch := omega) only [RB, RC, simprocAttr, hn, g0, g1]
  exact ⟨a, b, ⟨rfl, ha, hb, rfl⟩, rfl, rfl, (sR H)⟩
 rintro n l H1 ⟨hn, g4, x, y, ⟨hy,hx1,hy1,hg⟩, g0, g1, hS1⟩
 simp (disch := omega) only [↓RA, RB, simprocAttr, hn, g1]
 refine gM (fun h => ?_) (fun h => ?_)
 ·simp (disch := omega) only [↓RA, RC, simprocAttr, h]
  refine Wp.drw jM (by kernel_rfl) ?_
  simp (disch := omega) only [↓RA, RZ, simprocAttr, hn, g4, g0, g1]
  refine ⟨x % y, ?_, y, x % y, ⟨rfl, hy1, ?_, ?_⟩, rfl, ?_, hS1⟩
  ·rw [hy]; exact eG _ (by omega)
  ·exact dB (eG _ (by omega)) (by omega)
  ·rw [hg, Nat.gcd_comm x y, Nat.gcd_rec]
   exact Nat.gcd_comm _ _
  ·rw [ed]
 simp (disch := omega) only [↓RA, RZ, simprocAttr, hn, g0, c2x, h]
 have h0 : y = 0 := by omega
 subst h0
 exact ⟨by rw [hg, Nat.gcd_zero_right], hS1⟩
theorem b6A (a b : Int) (ha0 : 0 ≤ a) (ha : a < 18446744073709551616) (hb0 : 0 ≤ b) (hb : b < 18446744073709551616) : Fn prog 190 [.int .u64 a, .int .u64 b] H fun r H' => r = .int .u64 (Nat.gcd a.toNat b.toNat) ∧ St prog H H' [] := by
 have := b8p (H := H) a.toNat b.toNat (by omega) (by omega)
 rwa [fx ha0, fx hb0] at this
def uC (num den : Int) : Int := if 0 < den ∧ den ≤ 1000000 ∧ -1000000 ≤ num ∧ num ≤ 1000000 ∧ Nat.gcd num.natAbs den.toNat = 1 then 0 else 2
theorem b5P (num den : Int) : Fn prog 142 [.agg #[I num, I den]] H fun r H' => r = I (uC num den) ∧ St prog H H' [] := by
 refine .aS func142 rfl (by kernel_rfl) (m := 31) rfl fun l hn g0 => ?_
 simp (disch := omega) only [↓RA, RB, simprocAttr, g0]
 refine (sR H).eNew 2 [I num, I den] rfl rfl rfl yD fun A1 H1 hS1 => ?_
 simp only [RT] at hS1
 simp (disch := omega) only [↓RA, RB, simprocAttr]
 refine Wp.aU jM [(23, 0), (24, 0)] (by kernel_rfl) (by kernel_rfl) ?_
 simp (disch := omega) only [↓RA, RZ, simprocAttr, hn, hS1.ld 0 rfl]
 refine gW (fun h1 => ?_) (fun h1 => ?_)
 ·simp (disch := omega) only [↓RA, RZ, simprocAttr, hn, a2r, h1]
  refine ⟨?_, hS1.forget⟩; unfold uC; (repeat' split); all_goals first | rfl | omega
 simp (disch := omega) only [↓RA, RZ, simprocAttr, hn, hS1.ld 0 rfl, h1]
 refine gW (fun h2 => ?_) (fun h2 => ?_)
 ·simp (disch := omega) only [↓RA, RZ, simprocAttr, hn, a2r, h1, h2]
  refine ⟨?_, hS1.forget⟩; unfold uC; (repeat' split); all_goals first | rfl | omega
 simp (disch := omega) only [↓RA, RZ, simprocAttr, hn, hS1.ld 0 rfl, h1, h2]
 refine gW (fun h3 => ?_) (fun h3 => ?_)
 ·simp (disch := omega) only [↓RA, RZ, simprocAttr, hn, a2r, h1, h2, h3]
  refine ⟨?_, hS1.forget⟩; unfold uC; (repeat' split); all_goals first | rfl | omega
 simp (disch := omega) only [↓RA, RZ, simprocAttr, hn, hS1.ld 0 rfl, h1, h2, h3]
 refine gW (fun h4 => ?_) (fun h4 => ?_)
 ·simp (disch := omega) only [↓RA, RZ, simprocAttr, hn, a2r, h1, h2, h3, h4]
  refine ⟨?_, hS1.forget⟩; unfold uC; (repeat' split); all_goals first | rfl | omega
 simp (disch := omega) only [↓RA, RZ, simprocAttr, hn, hS1.ld 0 rfl, h1, h2, h3, h4]
 refine hS1.cF (a2Y num ⟨by omega, by omega⟩) fun H2 hS2 => ?_
 simp (disch := omega) only [↓RA, RZ, simprocAttr, hn, hS2.ld 0 rfl, h1, h2, h3, h4]
 refine hS2.cF (b6A _ _ (by omega) (by omega) (by omega) (by omega)) fun H3 hS3 => ?_
 simp (disch := omega) only [↓RA, RZ, simprocAttr, hn, hS1.ld 0 rfl, h1, h2, h3, h4]
 refine gM (fun h5 => ?_) (fun h5 => ?_)
 ·simp (disch := omega) only [↓RA, RZ, simprocAttr, hn, a2r, h1, h2, h3, h4, h5]
  refine ⟨?_, hS3.forget⟩; unfold uC; (repeat' split); all_goals first | rfl | omega
 simp (disch := omega) only [↓RA, RZ, simprocAttr, hn, a2r, h1, h2, h3, h4, h5]
 refine ⟨?_, hS3.forget⟩; unfold uC; (repeat' split); all_goals first | rfl | omega
def lZ (num den : Int) : Int := if uC num den ≠ 0 then 2 else if num ≤ 0 ∨ 128 * den < num then 3 else if 128 < den then 4 else 0
theorem b2C {num den : Int} (h : uC num den = 0) : 0 < den ∧ den ≤ 1000000 ∧ -1000000 ≤ num ∧ num ≤ 1000000 ∧ Nat.gcd num.natAbs den.toNat = 1 := by
 unfold uC at h
 split at h
 ·assumption
 ·cases h
theorem zT (num den : Int) : Fn prog 105 [.agg #[I num, I den]] H fun r H' => r = I (lZ num den) ∧ St prog H H' [] := by
 refine .aS func105 rfl (by kernel_rfl) (m := 23) rfl fun l hn g0 => ?_
 simp (disch := omega) only [↓RA, RB, simprocAttr, g0]
 refine (sR H).eNew 2 [I num, I den] rfl rfl rfl yD fun A1 H1 hS1 => ?_
 simp only [RT] at hS1
 simp (disch := omega) only [↓RA, RZ, simprocAttr, hn, hS1.aj 0 rfl]
 refine hS1.cF (b5P num den) fun H2 hS2 => ?_
 simp (disch := omega) only [↓RA, RB, simprocAttr, hn]
 refine gM (fun h => ?_) (fun h => ?_)
 ·simp (disch := omega) only [↓RA, RZ, simprocAttr, hn, a4J, h]
  exact ⟨by rw [lZ, if_pos h], hS2.forget⟩
 have hf := b2C (di.1 h)
 simp (disch := omega) only [↓RA, RZ, simprocAttr, hn, hS2.ld 0 rfl, h]
 refine gW (fun h1 => ?_) (fun h1 => ?_)
 ·simp (disch := omega) only [↓RA, RZ, simprocAttr, hn, a4J, h, h1]
  refine ⟨?_, hS2.forget⟩; unfold lZ; (repeat' split); all_goals first | rfl | omega
 simp (disch := omega) only [↓RA, RZ, simprocAttr, hn, hS2.ld 0 rfl, h, h1]
 refine gM (fun h2 => ?_) (fun h2 => ?_)
 ·simp (disch := omega) only [↓RA, RZ, simprocAttr, hn, a4J, h, h1, h2]
  refine ⟨?_, hS2.forget⟩; unfold lZ; (repeat' split); all_goals first | rfl | omega
 simp (disch := omega) only [↓RA, RZ, simprocAttr, hn, hS2.ld 0 rfl, h, h1, h2]
 refine gM (fun h3 => ?_) (fun h3 => ?_)
 ·simp (disch := omega) only [↓RA, RZ, simprocAttr, hn, a4J, h, h1, h2, h3]
  refine ⟨?_, hS2.forget⟩; unfold lZ; (repeat' split); all_goals first | rfl | omega
 simp (disch := omega) only [↓RA, RZ, simprocAttr, hn, a4J, h, h1, h2, h3]
 refine ⟨?_, hS2.forget⟩; unfold lZ; (repeat' split); all_goals first | rfl | omega
def pY (p : Nat → Bool) (n : Nat) : Int := match (List.range n).find? p with | some j => j | none => -1
theorem uF (p : Nat → Bool) (n i : Nat) (hi : i < n) (hp : p i = true) (h0 : ∀ j, j < i → p j = false) : (List.range n).find? p = some i := by
 rw [List.find?_eq_some_iff_getElem]
 refine ⟨hp, i, by simpa using hi, by simp, fun j hj => by simp [h0 j hj]⟩
theorem a0c (p : Nat → Bool) (n i : Nat) (hi : i < n) (hp : p i = true) (h0 : ∀ j, j < i → p j = false) : pY p n = i := by
 unfold pY
 rw [uF p n i hi hp h0]
theorem a0a (p : Nat → Bool) (n : Nat) (h0 : ∀ j, j < n → p j = false) : pY p n = -1 := by
 unfold pY
 have : (List.range n).find? p = none := by
  rw [fP]
  intro j hj
  simp [h0 j (dm.1 hj)]
 rw [this]
theorem a3f (p : Nat → Bool) (n : Nat) : (0 ≤ pY p n) ↔ ∃ j, j < n ∧ p j = true := by
 unfold pY
 cases h : (List.range n).find? p with
 | none =>
   rw [fP] at h
   simp only [dm] at h
   constructor
   ·intro hh; exact absurd hh (by decide)
   ·rintro ⟨j, hj, hp⟩; exact absurd hp (h j hj)
 | some j =>
   constructor
   ·intro _
    exact ⟨j, dm.1 (gg h), List.find?_some h⟩
   ·intro _; show (0 : Int) ≤ (j : Int); omega
theorem b6c (v : Value) (xs : List Int) (hv : Sl 1 (one I) H v xs) (hl : xs.length < 1000000000) (k : FuncId) (caps : List Value) (p : Nat → Bool)
 (hf : ∀ j H1, j < xs.length → St prog H H1 [] → Fn prog k (I (gN xs j) :: caps) H1 fun r H2 => r = .bool (p j) ∧ St prog H1 H2 []) :
 Fn prog 192 [v, .func (.func k) #[] caps.toArray] H fun r H' => r = I (pY p xs.length) ∧ St prog H H' [] := by
 refine .aM func192 rfl (by kernel_rfl) (m := 19) rfl fun l hn g0 g1 => ?_
 simp (disch := omega) only [↓RA, RZ, simprocAttr, hn, g0, ((sR H).sl hv).len]
 refine Wp.al (fun n l H' => l.length = 19 ∧ get l 0 = v ∧ get l 1 = .func (.func k) #[] caps.toArray ∧ get l 7 = I xs.length ∧ ∃ (j : Nat), (n + j = xs.length ∧ ∀ q, q < j → p q = false) ∧ get l 8 = I j ∧ St prog H H' []) xs.length ?_ ?_
 ·simp (disch := omega) only [RB, RC, simprocAttr, hn, g0, g1]
  exact ⟨0, ⟨by omega, fun q hq => absurd hq (dz _)⟩, rfl, (sR H)⟩
 rintro n l H1 ⟨hn, g0, g1, g7, j, ⟨hi,h0⟩, g8, hS1⟩
 simp (disch := omega) only [↓RA, RB, simprocAttr, hn, g7, g8]
 refine gM (fun h => ?_) (fun h => ?_)
 ·simp (disch := omega) only [↓RA, RZ, simprocAttr, hn, g0, g1, g8, (hS1.sl hv).idx, (hS1.sl hv).ld, one, h]
  refine hS1.cF (hf j _ (by omega) hS1) fun H2 hS2 => ?_
  simp (disch := omega) only [↓RA, RZ, simprocAttr, hn, h]
  refine jE (fun hp => ?_) (fun hp => ?_)
  ·simp (disch := omega) only [↓RA, RZ, simprocAttr, hn, b7w, h, hp]
   exact ⟨by rw [a0c p xs.length j (by omega) hp h0], hS2⟩
  simp (disch := omega) only [↓RA, RZ, simprocAttr, hn, g0, g1, g7, g8, h, hp]
  exact ⟨n - 1, by omega, j + 1, ⟨by omega, fun q hq => by rcases de.1 hq with e | e; (· exact h0 q e); (· rw [e]; exact hp)⟩, by simp, hS2⟩
 simp (disch := omega) only [↓RA, RZ, simprocAttr, hn, b7w, h]
 exact ⟨by rw [a0a p xs.length fun q hq => h0 q (by omega)], hS1⟩
theorem b7o (v : Value) (xs : List Int) (hv : Sl 1 (one I) H v xs) (hl : xs.length < 1000000000) (k : FuncId) (caps : List Value) (p : Nat → Bool)
 (hf : ∀ j H1, j < xs.length → St prog H H1 [] → Fn prog k (I (gN xs j) :: caps) H1 fun r H2 => r = .bool (p j) ∧ St prog H1 H2 []) :
 Fn prog 143 [v, .func (.func k) #[] caps.toArray] H fun r H' => r = .bool (decide (0 ≤ pY p xs.length)) ∧ St prog H H' [] := by
 refine .aM func143 rfl (by kernel_rfl) (m := 9) rfl fun l hn g0 g1 => ?_
 simp (disch := omega) only [↓RA, RZ, simprocAttr, hn, g0, g1]
 refine (sR H).cF (b6c v xs hv hl k caps p hf) fun H1 hS1 => ?_
 simp (disch := omega) only [↓RA, RZ, simprocAttr, hn, c1g]
 first | exact hS1 | exact ⟨rfl, hS1⟩
def xR (xs : List Int) : Int := if xs.any fun w => decide (w < 0) || decide (1000000 < w) then 3 else 0
theorem b3A (v : Value) (xs : List Int) (hv : Sl 1 (one I) H v xs) (hl : xs.length < 1000000000) : Fn prog 107 [v] H fun r H' => r = I (xR xs) ∧ St prog H H' [] := by
 have key : (0 ≤ pY (fun j => decide (gN xs j < 0) || decide (1000000 < gN xs j)) xs.length) ↔ (xs.any fun w => decide (w < 0) || decide (1000000 < w)) = true := by
  rw [a3f, fZ]
  constructor
  ·rintro ⟨j, hj, hp⟩; exact ⟨_, gS hj, hp⟩
  ·rintro ⟨x, hx, hp⟩
   obtain ⟨j, hj, rfl⟩ := dI.1 hx
   exact ⟨j, hj, by rw [jJ xs j hj]; exact hp⟩
 refine .aS func107 rfl (by kernel_rfl) (m := 5) rfl fun l hn g0 => ?_
 simp (disch := omega) only [↓RA, RZ, simprocAttr, hn, g0]
 refine (sR H).cF (b7o v xs hv hl 144 [] _ (fun j H1 hj hS => b2u (gN xs j))) fun H1 hS1 => ?_
 simp (disch := omega) only [↓RA, RB, simprocAttr, hn]
 refine gM (fun h => ?_) (fun h => ?_)
 ·simp (disch := omega) only [↓RA, RZ, simprocAttr, hn, b7S, h]
  exact ⟨by rw [xR, if_pos (key.1 h)], hS1⟩
 simp (disch := omega) only [↓RA, RZ, simprocAttr, hn, b7S, h]
 exact ⟨by rw [xR, if_neg (fun hh => h (key.2 hh))], hS1⟩
def ncF (b : Int) : Bool := oR b || (decide (48 ≤ b) && decide (b ≤ 57)) || decide (b = 95)
def kA (s : ByteArray) : Bool := decide (0 < s.size) && decide (s.size ≤ 32) && oR (nC s 0) && (List.range (s.size - 1)).all fun j => ncF (nC s (j + 1))
theorem c0i (s z : ByteArray) (hz : z.size = 0) : s = z ↔ s.size = 0 := ⟨fun h => by rw [h, hz], fun h => by
 apply yQ
 have h1 : s.data.toList = [] := eJ (by simpa using h)
 have h2 : z.data.toList = [] := eJ (by simpa using hz)
 rw [h1, h2]⟩
theorem oX (s : ByteArray) : Fn prog 55 [.string s] H fun r H' => r = .bool (kA s) ∧ St prog H H' [] := by
 have hz := c0i s { data := #[] } rfl
 refine .aS func55 rfl (by kernel_rfl) (m := 42) rfl fun l hn g0 => ?_
 simp (disch := omega) only [↓RA, RZ, simprocAttr, hn, g0, hz]
 refine gW (fun h1 => ?_) (fun h1 => ?_)
 ·simp (disch := omega) only [↓RA, RZ, simprocAttr, hn, a9L, h1]
  first | exact (sR H) | exact ⟨by simp [kA, h1], (sR H)⟩
 simp (disch := omega) only [↓RA, RZ, simprocAttr, hn, g0, h1]
 refine gW (fun h2 => ?_) (fun h2 => ?_)
 ·simp (disch := omega) only [↓RA, RZ, simprocAttr, hn, a9L, h1, h2]
  first | exact (sR H) | exact ⟨by simp [kA, show ¬ s.size ≤ 32 by omega], (sR H)⟩
 simp (disch := omega) only [↓RA, RZ, simprocAttr, hn, g0, h1, h2]
 refine (sR H).cF (a2J _) fun H1 hS1 => ?_
 simp (disch := omega) only [↓RA, RZ, simprocAttr, hn, h1, h2]
 refine jE (fun h3 => ?_) (fun h3 => ?_)
 ·simp (disch := omega) only [↓RA, RZ, simprocAttr, hn, a9L, h1, h2, h3]
  first | exact hS1 | exact ⟨by simp at h3; simp [kA, h3], hS1⟩
 simp (disch := omega) only [↓RA, RZ, simprocAttr, h1, h2, h3]
 have h4 : oR (nC s 0) = true := by simpa using h3
 have hA : kA s = (List.range (s.size - 1)).all fun j => ncF (nC s (j + 1)) := by simp [kA, h4, show 0 < s.size by omega, show s.size ≤ 32 by omega]
 refine Wp.al (fun n l H' => l.length = 42 ∧ get l 0 = (.string s) ∧ ∃ (i : Nat), (n + i = s.size ∧ 1 ≤ i ∧ ∀ j, 1 ≤ j → j < i → ncF (nC s j) = true) ∧ get l 3 = I i ∧ St prog H H' []) (s.size - 1) ?_ ?_
 ·simp (disch := omega) only [RB, RC, simprocAttr, hn, g0]
  exact ⟨1, ⟨by omega, by omega, fun j h1 h2 => by omega⟩, rfl, hS1⟩
 rintro n l H2 ⟨hn, g0, i, ⟨hi,hi1,h0⟩, g3, hS2⟩
 simp (disch := omega) only [↓RA, RZ, simprocAttr, hn, g0, g3]
 refine gM (fun h5 => ?_) (fun h5 => ?_)
 ·simp (disch := omega) only [↓RA, RZ, simprocAttr, hn, g0, g3, h5]
  refine hS2.cF (a2J _) fun H3 hS3 => ?_
  have hF : ncF (nC s i) = false → kA s = false := fun hh => by
   rw [hA, List.all_eq_false]
   exact ⟨i - 1, dm.2 (by omega), by rw [show i - 1 + 1 = i by omega, hh]; simp⟩
  have hT : ncF (nC s i) = true → ∀ j, 1 ≤ j → j < i + 1 → ncF (nC s j) = true := fun hh j h1 h2 => by
   by_cases e : j = i
   ·rw [e]; exact hh
   ·exact h0 j h1 (by omega)
  simp (disch := omega) only [↓RA, RZ, simprocAttr, hn, h5]
  refine xA (fun h1 => ?_) (fun h1 => ?_)
  ·simp (disch := omega) only [↓RA, RZ, simprocAttr, hn, h5, h1]
   refine gW (fun h2 => ?_) (fun h2 => ?_)
   ·simp (disch := omega) only [↓RA, RZ, simprocAttr, hn, h5, h1, h2]
    refine gM (fun h3 => ?_) (fun h3 => ?_)
    ·simp (disch := omega) only [↓RA, RZ, simprocAttr, hn, a9L, h5, h1, h2, h3]
     exact ⟨by rw [hF (by simp_all [ncF] <;> omega)], hS3⟩
    simp (disch := omega) only [↓RA, RZ, simprocAttr, hn, g0, g3, h5, h1, h2, h3]
    exact ⟨n - 1, by omega, i + 1, ⟨by omega, by omega, hT (by simp_all [ncF] <;> omega)⟩, by simp, hS3⟩
   simp (disch := omega) only [↓RA, RZ, simprocAttr, hn, h5, h1, h2]
   refine jO (fun h4 => ?_) (fun h4 => ?_)
   ·simp (disch := omega) only [↓RA, RZ, simprocAttr, hn, h5, h1, h2, h4]
    refine gM (fun h5 => ?_) (fun h5 => ?_)
    ·simp (disch := omega) only [↓RA, RZ, simprocAttr, hn, a9L, h1, h2, h4, h5]
     exact ⟨by rw [hF (by simp_all [ncF] <;> omega)], hS3⟩
    simp (disch := omega) only [↓RA, RZ, simprocAttr, hn, g0, g3, h1, h2, h4, h5]
    exact ⟨n - 1, by omega, i + 1, ⟨by omega, by omega, hT (by simp_all [ncF] <;> omega)⟩, by simp, hS3⟩
   simp (disch := omega) only [↓RA, RZ, simprocAttr, hn, g0, g3, h5, h1, h2, h4]
   exact ⟨n - 1, by omega, i + 1, ⟨by omega, by omega, hT (by simp_all [ncF] <;> omega)⟩, by simp, hS3⟩
  simp (disch := omega) only [↓RA, RZ, simprocAttr, hn, g0, g3, h5, h1]
  exact ⟨n - 1, by omega, i + 1, ⟨by omega, by omega, hT (by simp_all [ncF] <;> omega)⟩, by simp, hS3⟩
 simp (disch := omega) only [↓RA, RZ, simprocAttr, hn, a9L, h5]
 refine ⟨?_, hS2⟩
 rw [hA]
 congr 1
 symm
 rw [dg]
 intro j hj
 exact h0 (j + 1) (by omega) (by have := dm.1 hj; omega)
def rankE (r : Rk) : Int := if kA r.name = false ∨ kA r.tone = false then 8 else if lZ r.num r.den ≠ 0 then lZ r.num r.den else if ¬ (-256 ≤ r.first ∧ r.first ≤ 256) then 3 else if r.wind.length = 0 then 13 else if 128 < r.wind.length then 4 else xR r.wind
theorem a8W (r : Rk) (hr : r.In H) : Fn prog 56 [.agg #[.string r.name, .string r.tone, I r.num, I r.den, I r.first, r.wv]] H fun v H' => v = I (rankE r) ∧ St prog H H' [] := by
 have hl := hr.2
 refine .aS func56 rfl (by kernel_rfl) (m := 38) rfl fun l hn g0 => ?_
 simp (disch := omega) only [↓RA, RB, simprocAttr, g0]
 refine (sR H).eNew 6 [(.string r.name), (.string r.tone), I r.num, I r.den, I r.first, r.wv] rfl rfl (by simp [OC, ((sR H).sl hr.1).cells.2.1]) vX fun A1 H1 hS1 => ?_
 simp only [RT] at hS1
 simp (disch := omega) only [↓RA, RZ, simprocAttr, hn, hS1.ld 0 rfl]
 refine hS1.cF (oX _) fun H2 hS2 => ?_
 simp (disch := omega) only [↓RA, RZ, simprocAttr, hn]
 refine xA (fun h1 => ?_) (fun h1 => ?_)
 ·simp (disch := omega) only [↓RA, RZ, simprocAttr, hn, a6X, h1]
  refine ⟨?_, hS2.forget⟩; clear hS1; unfold rankE; (try simp only [du] at *); (repeat' split); all_goals first | rfl | omega | simp_all
 simp (disch := omega) only [↓RA, RZ, simprocAttr, hn, hS2.ld 0 rfl, h1]
 refine hS2.cF (oX _) fun H3 hS3 => ?_
 simp (disch := omega) only [↓RA, RZ, simprocAttr, hn, h1]
 refine jE (fun h2 => ?_) (fun h2 => ?_)
 ·simp (disch := omega) only [↓RA, RB, simprocAttr, hn, a6X, h1, h2]
  refine ⟨?_, hS3.forget⟩; clear hS1; unfold rankE; (try simp only [du] at *); (repeat' split); all_goals first | rfl | omega | simp_all
 simp (disch := omega) only [↓RA, RZ, simprocAttr, hn, hS3.aj 0 rfl, h1, h2]
 refine hS3.cF (zT _ _) fun H4 hS4 => ?_
 simp (disch := omega) only [↓RA, RB, simprocAttr, hn, h1, h2]
 refine gM (fun h3 => ?_) (fun h3 => ?_)
 ·simp (disch := omega) only [↓RA, RZ, simprocAttr, hn, a6X, h1, h2, h3]
  refine ⟨?_, hS4.forget⟩; clear hS1; unfold rankE; (try simp only [ew, du, cT, decide_eq_true_eq, gB, fh, decide_eq_false_iff_not] at *); (repeat' split); all_goals first | rfl | omega | simp_all
 simp (disch := omega) only [↓RA, RZ, simprocAttr, hn, hS4.ld 0 rfl, h1, h2, h3]
 refine hS4.cF (b1P _) fun H5 hS5 => ?_
 simp (disch := omega) only [↓RA, RZ, simprocAttr, hn, h1, h2, h3]
 refine jE (fun h4 => ?_) (fun h4 => ?_)
 ·simp (disch := omega) only [↓RA, RZ, simprocAttr, hn, a6X, h1, h2, h3, h4]
  refine ⟨?_, hS5.forget⟩; clear hS1; unfold rankE; (try simp only [du, fh, decide_eq_false_iff_not] at *); (repeat' split); all_goals first | rfl | omega | simp_all
 simp (disch := omega) only [↓RA, RZ, simprocAttr, hn, hS5.ld 0 rfl, (hS5.sl hr.1).len, h1, h2, h3, h4]
 refine gM (fun h5 => ?_) (fun h5 => ?_)
 ·simp (disch := omega) only [↓RA, RZ, simprocAttr, hn, a6X, h1, h2, h3, h4, h5]
  refine ⟨?_, hS5.forget⟩; clear hS1; unfold rankE; (try simp only [ew, du, cT, decide_eq_true_eq, gB, fh, decide_eq_false_iff_not] at *); (repeat' split); all_goals first | rfl | omega | simp_all
 simp (disch := omega) only [↓RA, RZ, simprocAttr, hn, hS5.ld 0 rfl, (hS5.sl hr.1).len, h1, h2, h3, h4, h5]
 refine gM (fun h6 => ?_) (fun h6 => ?_)
 ·simp (disch := omega) only [↓RA, RZ, simprocAttr, hn, a6X, h1, h2, h3, h4, h5, h6]
  refine ⟨?_, hS5.forget⟩; clear hS1; unfold rankE; (try simp only [ew, du, cT, decide_eq_true_eq, gB, fh, decide_eq_false_iff_not] at *); (repeat' split); all_goals first | rfl | omega | simp_all
 simp (disch := omega) only [↓RA, RZ, simprocAttr, hn, hS5.ld 0 rfl, h1, h2, h3, h4, h5, h6]
 refine hS5.cF (b3A r.wv r.wind (hS5.sl hr.1) (by have := hr.2; omega)) fun H6 hS6 => ?_
 simp (disch := omega) only [↓RA, RZ, simprocAttr, hn, a6X, h1, h2, h3, h4, h5, h6]
 refine ⟨?_, hS6.forget⟩; clear hS1; unfold rankE; (try simp only [ew, du, cT, decide_eq_true_eq, gB, fh, decide_eq_false_iff_not] at *); (repeat' split); all_goals first | rfl | omega | simp_all
abbrev KS (kvs : List (ByteArray × Bool)) : List Value := kcs Value.string Value.bool kvs
def oO (kvs : List (ByteArray × Bool)) (s : ByteArray) : Bool := (a0G kvs s).getD false
theorem a0W (B : Base) (A : Nat) (kvs : List (ByteArray × Bool)) (s : ByteArray) (hS : St prog B H [⟨.map (some A), 0, KS kvs⟩]) :
 Fn prog 57 [.map (some A), .string s] H fun r H' => r = I (if oO kvs s = true then 9 else 0) ∧ ∃ kvs', (∀ t, oO kvs' t = (oO kvs t || decide (t = s))) ∧ St prog B H' [⟨.map (some A), 0, KS kvs'⟩] := by
 refine .aM func57 rfl (by kernel_rfl) (m := 10) rfl fun l hn g0 g1 => ?_
 simp (disch := omega) only [↓RA, RB, simprocAttr, hn, g0, g1]
 refine hS.bL 0 rfl a5l (fun _ => rfl) ?_
 simp (disch := omega) only [↓RA, RB, simprocAttr, hn]
 refine jE (fun h => ?_) (fun h => ?_)
 ·simp (disch := omega) only [↓RA, RB, simprocAttr, hn, c1d, h]
  refine ⟨by simp [oO, h], kvs, fun t => ?_, hS⟩
  by_cases e : t = s
  ·subst e; simp [oO, h]
  ·simp [e]
 simp (disch := omega) only [↓RA, RB, simprocAttr, hn, g0, g1, h]
 refine hS.cb 0 rfl a5l fun H1 hS1 => ?_
 simp only [RT] at hS1
 simp (disch := omega) only [↓RA, RB, simprocAttr, hn, c1d, h]
 refine ⟨by simp [oO, h], _, fun t => ?_, hS1⟩
 unfold oO
 rw [a0f]
 by_cases e : t = s
 ·simp [e]
 ·simp [e]
def pI (lo hi : Int) : Int := if lo < 0 ∨ 127 < hi then 3 else if hi < lo then 23 else 0
theorem zU (lo hi : Int) : Fn prog 98 [.agg #[I lo, I hi]] H fun r H' => r = I (pI lo hi) ∧ St prog H H' [] := by
 refine .aS func98 rfl (by kernel_rfl) (m := 18) rfl fun l hn g0 => ?_
 simp (disch := omega) only [↓RA, RB, simprocAttr, g0]
 refine (sR H).eNew 2 [I lo, I hi] rfl rfl rfl uB fun A1 H1 hS1 => ?_
 simp only [RT] at hS1
 simp (disch := omega) only [↓RA, RZ, simprocAttr, hn, hS1.ld 0 rfl]
 refine gW (fun h1 => ?_) (fun h1 => ?_)
 ·simp (disch := omega) only [↓RA, RZ, simprocAttr, hn, b4Z, h1]
  refine ⟨?_, hS1.forget⟩; unfold pI; (repeat' split); all_goals first | rfl | omega
 simp (disch := omega) only [↓RA, RZ, simprocAttr, hn, hS1.ld 0 rfl, h1]
 refine gM (fun h2 => ?_) (fun h2 => ?_)
 ·simp (disch := omega) only [↓RA, RZ, simprocAttr, hn, b4Z, h1, h2]
  refine ⟨?_, hS1.forget⟩; unfold pI; (repeat' split); all_goals first | rfl | omega
 simp (disch := omega) only [↓RA, RZ, simprocAttr, hn, hS1.ld 0 rfl, h1, h2]
 refine gM (fun h3 => ?_) (fun h3 => ?_)
 ·simp (disch := omega) only [↓RA, RZ, simprocAttr, hn, b4Z, h1, h2, h3]
  refine ⟨?_, hS1.forget⟩; unfold pI; (repeat' split); all_goals first | rfl | omega
 simp (disch := omega) only [↓RA, RZ, simprocAttr, hn, b4Z, h1, h2, h3]
 refine ⟨?_, hS1.forget⟩; unfold pI; (repeat' split); all_goals first | rfl | omega
def kO (f : Nat → Int) (n : Nat) : Int := match (List.range n).find? (fun j => decide (f j ≠ 0)) with | some j => f j | none => 0
theorem lL (f : Nat → Int) (n i : Nat) (hi : i < n) (hp : f i ≠ 0) (h0 : ∀ j, j < i → f j = 0) : kO f n = f i := by
 unfold kO
 rw [uF _ n i hi (by simpa using hp) (fun j hj => by simpa using h0 j hj)]
theorem jP (f : Nat → Int) (n : Nat) (h0 : ∀ j, j < n → f j = 0) : kO f n = 0 := by
 unfold kO
 have : (List.range n).find? (fun j => decide (f j ≠ 0)) = none := by
  rw [fP]
  intro j hj
  simpa using h0 j (dm.1 hj)
 rw [this]
def qM (rs : List Rk) (lo hi : Int) : Int := if 60 < rs.length then 4 else if kO (fun j => rankE (gN rs j)) rs.length ≠ 0 then kO (fun j => rankE (gN rs j)) rs.length else pI lo hi
theorem b3g (rv : Value) (rs : List Rk) (lo hi : Int) (hr : Sl 6 Rk.cells H rv rs) (hrk : ∀ r ∈ rs, r.In H) (hl : rs.length < 1000000000) :
 Fn prog 145 [.agg #[rv, I lo, I hi]] H fun v H' => v = I (qM rs lo hi) ∧ St prog H H' [] := by
 refine .aS func145 rfl (by kernel_rfl) (m := 26) rfl fun l hn g0 => ?_
 simp (disch := omega) only [↓RA, RB, simprocAttr, g0]
 refine (sR H).eNew 3 [rv, I lo, I hi] rfl rfl (by simp [OC, ((sR H).sl hr).cells.2.1]) a8Q fun A1 H1 hS1 => ?_
 simp only [RT] at hS1
 simp (disch := omega) only [↓RA, RZ, simprocAttr, hn, hS1.ld 0 rfl, (hS1.sl hr).len]
 refine gM (fun h => ?_) (fun h => ?_)
 ·simp (disch := omega) only [↓RA, RZ, simprocAttr, hn, b4p, h]
  exact ⟨by rw [qM, if_pos (by omega)], hS1.forget⟩
 simp (disch := omega) only [↓RA, RZ, simprocAttr, hn, hS1.ld 0 rfl, (hS1.sl hr).len, h]
 refine Wp.al (fun n l H' => l.length = 26 ∧ get l 1 = (ptr A1 0 3) ∧ get l 11 = rv ∧ get l 12 = I rs.length ∧ ∃ (i : Nat), (n + i = rs.length ∧ ∀ j, j < i → rankE (gN rs j) = 0) ∧ get l 13 = I i ∧ St prog H H' [⟨ptr A1 0 3, 0, [rv, I lo, I hi]⟩]) rs.length ?_ ?_
 ·simp (disch := omega) only [RB, RC, simprocAttr, hn]
  exact ⟨0, ⟨by omega, by simp⟩, rfl, hS1⟩
 rintro n l H2 ⟨hn, g1, g11, g12, i, ⟨hi1,h0⟩, g13, hS2⟩
 simp (disch := omega) only [↓RA, RB, simprocAttr, hn, g12, g13]
 refine gM (fun h1 => ?_) (fun h1 => ?_)
 ·simp (disch := omega) only [↓RA, RZ, simprocAttr, hn, g11, g13, (hS2.sl hr).idx, (hS2.sl hr).aj, Rk.cells, h1]
  refine hS2.eNew 6 [(.string ⟨#[]⟩), (.string ⟨#[]⟩), I 0, I 0, I 0, (.slice none 0 0)] rfl rfl rfl vX fun A2 H3 hS3 => ?_
  simp only [RT] at hS3
  simp (disch := omega) only [↓RA, RZ, simprocAttr, hn, h1]
  refine hS3.aa 1 rfl [(.string (gN rs i).name), (.string (gN rs i).tone), I (gN rs i).num, I (gN rs i).den, I (gN rs i).first, (gN rs i).wv] rfl (by simp [OC, (hS3.sl (hrk (gN rs i) (gS (by omega))).1).cells.2.1]) vX (by simp) fun H4 hS4 => ?_
  simp only [RT] at hS4
  simp (disch := omega) only [↓RA, RZ, simprocAttr, hn, hS4.aj 1 rfl, h1]
  refine hS4.cF (a8W (gN rs i) ((hrk _ (gS (by omega))).ae hS4)) fun H5 hS5 => ?_
  simp (disch := omega) only [↓RA, RZ, simprocAttr, hn, h1]
  refine gM (fun h2 => ?_) (fun h2 => ?_)
  ·simp (disch := omega) only [↓RA, RZ, simprocAttr, hn, b4p, h1, h2]
   refine ⟨?_, hS5.forget⟩
   rw [qM, if_neg (by omega), lL _ rs.length i (by omega) h2 h0, if_pos h2]
  simp (disch := omega) only [↓RA, RZ, simprocAttr, hn, g1, g11, g12, g13, h1, h2]
  exact ⟨n - 1, by omega, i + 1, ⟨by omega, fun j hj => by rcases de.1 hj with e | e; (· exact h0 j e); (· rw [e]; exact di.1 h2)⟩, by simp, hS5.sub (by simp)⟩
 simp (disch := omega) only [↓RA, RZ, simprocAttr, hn, g1, hS2.aj 0 rfl, h1]
 refine hS2.cF (zU lo hi) fun H6 hS6 => ?_
 simp (disch := omega) only [↓RA, RZ, simprocAttr, hn, b4p, h1]
 refine ⟨?_, hS6.forget⟩
 have e := jP (fun j => rankE (gN rs j)) rs.length fun j hj => h0 j (by omega)
 rw [qM, if_neg (by omega), if_neg (by rw [e]; simp)]
theorem Drw.eq (a b : Drw) : (a.rank = b.rank ∧ a.shift = b.shift) ↔ b = a := by
 cases a; cases b; simp [eq_comm]
theorem b0U (v : Value) (xs : List Drw) (hv : Sl 2 Drw.cells H v xs) (hl : xs.length < 1000000000) (d : Drw) :
 Fn prog 231 [v, .agg #[I d.rank, I d.shift]] H fun r H' => r = I (pY (fun j => decide (gN xs j = d)) xs.length) ∧ St prog H H' [] := by
 refine .aM func231 rfl (by kernel_rfl) (m := 19) rfl fun l hn g0 g1 => ?_
 simp (disch := omega) only [↓RA, RB, simprocAttr, g1]
 refine (sR H).eNew 2 [I d.rank, I d.shift] rfl rfl rfl yP fun A1 H1 hS1 => ?_
 simp only [RT] at hS1
 simp (disch := omega) only [↓RA, RZ, simprocAttr, hn, g0, (hS1.sl hv).len]
 refine Wp.al (fun n l H' => l.length = 19 ∧ get l 0 = v ∧ get l 3 = (ptr A1 0 2) ∧ get l 7 = I xs.length ∧ ∃ (j : Nat), (n + j = xs.length ∧ ∀ q, q < j → decide (gN xs q = d) = false) ∧ get l 8 = I j ∧ St prog H H' [⟨ptr A1 0 2, 0, [I d.rank, I d.shift]⟩]) xs.length ?_ ?_
 ·simp (disch := omega) only [RB, RC, simprocAttr, hn, g0]
  exact ⟨0, ⟨by omega, fun q hq => absurd hq (dz _)⟩, rfl, hS1⟩
 rintro n l H2 ⟨hn, g0, g3, g7, j, ⟨hi,h0⟩, g8, hS2⟩
 simp (disch := omega) only [↓RA, RB, simprocAttr, hn, g7, g8]
 refine gM (fun h => ?_) (fun h => ?_)
 ·simp (disch := omega) only [↓RA, RZ, simprocAttr, hn, g8, h]
  refine Wp.drw jM (by kernel_rfl) ?_
  simp (disch := omega) only [↓RA, RZ, simprocAttr, hn, g0, g3, hS2.aj 0 rfl, (hS2.sl hv).idx, (hS2.sl hv).aj, Drw.cells]
  refine gM (fun hp => ?_) (fun hp => ?_)
  ·simp (disch := omega) only [↓RA, RZ, simprocAttr, hn, b8d, hp]
   exact ⟨by rw [a0c _ xs.length j (by omega) (by simpa using (Drw.eq _ _).1 hp) h0], hS2.forget⟩
  simp (disch := omega) only [↓RA, RZ, simprocAttr, hn, g0, g3, g7, g8, hp]
  exact ⟨n - 1, by omega, j + 1, ⟨by omega, fun q hq => by rcases de.1 hq with e | e; (· exact h0 q e); (· rw [e]; simpa using fun hh => hp ((Drw.eq _ _).2 hh))⟩, by simp, hS2⟩
 simp (disch := omega) only [↓RA, RZ, simprocAttr, hn, b8d, h]
 exact ⟨by rw [a0a _ xs.length fun q hq => h0 q (by omega)], hS2.forget⟩
theorem b5h (v : Value) (xs : List Drw) (hv : Sl 2 Drw.cells H v xs) (hl : xs.length < 1000000000) (d : Drw) :
 Fn prog 193 [v, .agg #[I d.rank, I d.shift]] H fun r H' => r = .bool (decide (d ∈ xs)) ∧ St prog H H' [] := by
 have e : decide (0 ≤ pY (fun j => decide (gN xs j = d)) xs.length) = decide (d ∈ xs) := by
  rw [dM, decide_eq_true_iff, decide_eq_true_iff, a3f]
  constructor
  ·rintro ⟨j, hj, hp⟩
   rw [← of_decide_eq_true hp]; exact gS hj
  ·intro hx
   obtain ⟨j, hj, rfl⟩ := dI.1 hx
   exact ⟨j, hj, by rw [jJ xs j hj]; simp⟩
 refine .aM func193 rfl (by kernel_rfl) (m := 9) rfl fun l hn g0 g1 => ?_
 simp (disch := omega) only [↓RA, RB, simprocAttr, g1]
 refine (sR H).eNew 2 [I d.rank, I d.shift] rfl rfl rfl yP fun A1 H1 hS1 => ?_
 simp only [RT] at hS1
 simp (disch := omega) only [↓RA, RZ, simprocAttr, hn, g0, hS1.aj 0 rfl]
 refine hS1.cF (b0U v xs (hS1.sl hv) hl d) fun H2 hS2 => ?_
 simp (disch := omega) only [↓RA, RB, simprocAttr, hn, c1x]
 rw [← e]
 first | exact hS2.forget | exact ⟨rfl, hS2.forget⟩
def jS (m : Nat) (l : List Drw) (j : Nat) : Int := if (gN l j).rank < 0 ∨ m ≤ (gN l j).rank then 10 else if (gN l j).shift < -127 ∨ 127 < (gN l j).shift then 3 else if gN l j ∈ l.take j then 9 else 0
def kL (m : Nat) (l : List Drw) : Int := if 8 < l.length then 4 else kO (jS m l) l.length
theorem a4n (rv : Value) (rs : List Rk) (lo hi : Int) (hr : Sl 6 Rk.cells H rv rs) (hl : rs.length < 1000000000) (dv : Value) (ds : List Drw) (hd : Sl 2 Drw.cells H dv ds) (hl2 : ds.length < 1000000000) :
 Fn prog 146 [.agg #[rv, I lo, I hi], dv] H fun v H' => v = I (kL rs.length ds) ∧ St prog H H' [] := by
 refine .aM func146 rfl (by kernel_rfl) (m := 45) rfl fun l hn g0 g1 => ?_
 simp (disch := omega) only [↓RA, RB, simprocAttr, g0]
 refine (sR H).eNew 3 [rv, I lo, I hi] rfl rfl (by simp [OC, ((sR H).sl hr).cells.2.1]) a8Q fun A1 H1 hS1 => ?_
 simp only [RT] at hS1
 simp (disch := omega) only [↓RA, RZ, simprocAttr, hn, g1, (hS1.sl hd).len]
 refine gM (fun h => ?_) (fun h => ?_)
 ·simp (disch := omega) only [↓RA, RZ, simprocAttr, hn, a0d, h]
  exact ⟨by rw [kL, if_pos (by omega)], hS1.forget⟩
 simp (disch := omega) only [↓RA, RZ, simprocAttr, hn, g1, (hS1.sl hd).len, h]
 refine Wp.al (fun n l H' => l.length = 45 ∧ get l 1 = dv ∧ get l 2 = (ptr A1 0 3) ∧ get l 10 = dv ∧ get l 11 = I ds.length ∧ ∃ (i : Nat), (n + i = ds.length ∧ ∀ j, j < i → jS rs.length ds j = 0) ∧ get l 12 = I i ∧ St prog H H' [⟨ptr A1 0 3, 0, [rv, I lo, I hi]⟩]) ds.length ?_ ?_
 ·simp (disch := omega) only [RB, RC, simprocAttr, hn, g1]
  exact ⟨0, ⟨by omega, by simp⟩, rfl, hS1⟩
 rintro n l H2 ⟨hn, g1, g2, pS, g11, i, ⟨hi1,h0⟩, g12, hS2⟩
 simp (disch := omega) only [↓RA, RB, simprocAttr, hn, g11, g12]
 refine gM (fun h1 => ?_) (fun h1 => ?_)
 ·have key : jS rs.length ds i ≠ 0 → kL rs.length ds = jS rs.length ds i := fun hne => by rw [kL, if_neg (by omega), lL _ ds.length i (by omega) hne h0]
  simp (disch := omega) only [↓RA, RZ, simprocAttr, hn, pS, g12, (hS2.sl hd).idx, (hS2.sl hd).aj, Drw.cells, h1]
  refine hS2.eNew 2 [I 0, I 0] rfl rfl rfl yP fun A2 H3 hS3 => ?_
  simp only [RT] at hS3
  simp (disch := omega) only [↓RA, RZ, simprocAttr, hn, h1]
  refine hS3.aa 1 rfl [I (gN ds i).rank, I (gN ds i).shift] rfl rfl yP (by simp) fun H4 hS4 => ?_
  simp only [RT] at hS4
  simp (disch := omega) only [↓RA, RZ, simprocAttr, hn, hS4.ld 1 rfl, h1]
  refine gW (fun h1 => ?_) (fun h1 => ?_)
  ·simp (disch := omega) only [↓RA, RZ, simprocAttr, hn, a0d, h1]
   (first | (have e1 : jS rs.length ds i = 10 := by rw [jS, if_pos (by omega)]); exact ⟨by rw [key (by rw [e1]; decide), e1], hS4.forget⟩ | (have e1 : jS rs.length ds i = 3 := by rw [jS, if_neg (by omega), if_pos (by omega)]); exact ⟨by rw [key (by rw [e1]; decide), e1], hS4.forget⟩ | (have e1 : jS rs.length ds i = 9 := by rw [jS, if_neg (by omega), if_neg (by omega), if_pos (by simp_all)]); exact ⟨by rw [key (by rw [e1]; decide), e1], hS4.forget⟩)
  simp (disch := omega) only [↓RA, RZ, simprocAttr, hn, g2, hS4.ld 1 rfl, hS4.ld 0 rfl, (hS4.sl hr).len, h1]
  refine gM (fun h2 => ?_) (fun h2 => ?_)
  ·simp (disch := omega) only [↓RA, RZ, simprocAttr, hn, a0d, h1, h2]
   (first | (have e1 : jS rs.length ds i = 10 := by rw [jS, if_pos (by omega)]); exact ⟨by rw [key (by rw [e1]; decide), e1], hS4.forget⟩ | (have e1 : jS rs.length ds i = 3 := by rw [jS, if_neg (by omega), if_pos (by omega)]); exact ⟨by rw [key (by rw [e1]; decide), e1], hS4.forget⟩ | (have e1 : jS rs.length ds i = 9 := by rw [jS, if_neg (by omega), if_neg (by omega), if_pos (by simp_all)]); exact ⟨by rw [key (by rw [e1]; decide), e1], hS4.forget⟩)
  simp (disch := omega) only [↓RA, RZ, simprocAttr, hn, hS4.ld 1 rfl, h1, h2]
  refine gW (fun h3 => ?_) (fun h3 => ?_)
  ·simp (disch := omega) only [↓RA, RZ, simprocAttr, hn, a0d, h1, h2, h3]
   (first | (have e1 : jS rs.length ds i = 10 := by rw [jS, if_pos (by omega)]); exact ⟨by rw [key (by rw [e1]; decide), e1], hS4.forget⟩ | (have e1 : jS rs.length ds i = 3 := by rw [jS, if_neg (by omega), if_pos (by omega)]); exact ⟨by rw [key (by rw [e1]; decide), e1], hS4.forget⟩ | (have e1 : jS rs.length ds i = 9 := by rw [jS, if_neg (by omega), if_neg (by omega), if_pos (by simp_all)]); exact ⟨by rw [key (by rw [e1]; decide), e1], hS4.forget⟩)
  simp (disch := omega) only [↓RA, RZ, simprocAttr, hn, hS4.ld 1 rfl, h1, h2, h3]
  refine gM (fun h4 => ?_) (fun h4 => ?_)
  ·simp (disch := omega) only [↓RA, RZ, simprocAttr, hn, a0d, h1, h2, h3, h4]
   (first | (have e1 : jS rs.length ds i = 10 := by rw [jS, if_pos (by omega)]); exact ⟨by rw [key (by rw [e1]; decide), e1], hS4.forget⟩ | (have e1 : jS rs.length ds i = 3 := by rw [jS, if_neg (by omega), if_pos (by omega)]); exact ⟨by rw [key (by rw [e1]; decide), e1], hS4.forget⟩ | (have e1 : jS rs.length ds i = 9 := by rw [jS, if_neg (by omega), if_neg (by omega), if_pos (by simp_all)]); exact ⟨by rw [key (by rw [e1]; decide), e1], hS4.forget⟩)
  simp (disch := omega) only [↓RA, RZ, simprocAttr, h1, h2, h3, h4]
  refine Wp.drw jM (by kernel_rfl) ?_
  simp (disch := omega) only [↓RA, RZ, simprocAttr, hn, g1, (hS4.sl hd).aR, hS4.aj 1 rfl]
  refine hS4.cF (b5h _ (ds.take i) ((hS4.sl hd).cz i (by omega) (by omega)) (by simp; omega) (gN ds i)) fun H5 hS5 => ?_
  simp (disch := omega) only [↓RA, RB, simprocAttr, hn]
  refine gM (fun h5 => ?_) (fun h5 => ?_)
  ·simp (disch := omega) only [↓RA, RZ, simprocAttr, hn, a0d, h5]
   (first | (have e1 : jS rs.length ds i = 10 := by rw [jS, if_pos (by omega)]); exact ⟨by rw [key (by rw [e1]; decide), e1], hS5.forget⟩ | (have e1 : jS rs.length ds i = 3 := by rw [jS, if_neg (by omega), if_pos (by omega)]); exact ⟨by rw [key (by rw [e1]; decide), e1], hS5.forget⟩ | (have e1 : jS rs.length ds i = 9 := by rw [jS, if_neg (by omega), if_neg (by omega), if_pos (by simp_all)]); exact ⟨by rw [key (by rw [e1]; decide), e1], hS5.forget⟩)
  simp (disch := omega) only [↓RA, RZ, simprocAttr, hn, g1, g2, pS, g11, g12, h5]
  have e0 : jS rs.length ds i = 0 := by rw [jS, if_neg (by omega), if_neg (by omega), if_neg (by simp_all)]
  exact ⟨n - 1, by omega, i + 1, ⟨by omega, fun j hj => by rcases de.1 hj with e | e; (· exact h0 j e); (· rw [e]; exact e0)⟩, by simp, hS5.sub (by simp)⟩
 simp (disch := omega) only [↓RA, RZ, simprocAttr, hn, a0d, h1]
 exact ⟨by rw [kL, if_neg (by omega), jP _ _ fun j hj => h0 j (by omega)], hS2.forget⟩
def kE (lo hi : Int) (m : Nat) (gs : List Seg) (j : Nat) : Int := if min (gN gs j).lo (gN gs j).hi < lo ∨ hi < max (gN gs j).lo (gN gs j).hi then 23 else if (gN gs j).hi < (gN gs j).lo ∨ (0 < j ∧ (gN gs j).lo ≤ (gN gs (j - 1)).hi) then 6 else kL m (gN gs j).draws
def stopE (rs : List Rk) (lo hi : Int) (s : Stp) : Int := if qM rs lo hi ≠ 0 then qM rs lo hi else if kA s.name = false then 8 else if lZ s.num s.den ≠ 0 then lZ s.num s.den else if s.segs.length = 0 then 13 else if 12 < s.segs.length then 4 else kO (kE lo hi rs.length s.segs) s.segs.length
theorem b7m (rv : Value) (rs : List Rk) (lo hi : Int) (hr : Sl 6 Rk.cells H rv rs) (hrk : ∀ r ∈ rs, r.In H) (hl : rs.length < 1000000000) (s : Stp) (hs : s.In H) :
 Fn prog 108 [.agg #[rv, I lo, I hi], .agg #[.string s.name, I s.num, I s.den, s.gv]] H fun v H' => v = I (stopE rs lo hi s) ∧ St prog H H' [] := by
 have hl2 := hs.2.2
 refine .aM func108 rfl (by kernel_rfl) (m := 94) rfl fun l hn g0 g1 => ?_
 simp (disch := omega) only [↓RA, RB, simprocAttr, g0]
 refine (sR H).eNew 3 [rv, I lo, I hi] rfl rfl (by simp [OC, ((sR H).sl hr).cells.2.1]) a8Q fun A1 H1 hS1 => ?_
 simp only [RT] at hS1
 simp (disch := omega) only [↓RA, RB, simprocAttr, g1]
 refine hS1.eNew 4 [(.string s.name), I s.num, I s.den, s.gv] rfl rfl (by simp [OC, (hS1.sl hs.1).cells.2.1]) nH fun A2 H2 hS2 => ?_
 simp only [RT] at hS2
 simp (disch := omega) only [↓RA, RZ, simprocAttr, hn, hS2.aj 0 rfl]
 refine hS2.cF (b3g rv rs lo hi (hS2.sl hr) (fun r h => (hrk r h).ae hS2) hl) fun H3 hS3 => ?_
 simp (disch := omega) only [↓RA, RB, simprocAttr, hn]
 refine gM (fun p1 => ?_) (fun p1 => ?_)
 ·simp (disch := omega) only [↓RA, RZ, simprocAttr, hn, rK, p1]
  exact ⟨by rw [stopE, if_pos p1], hS3.forget⟩
 simp (disch := omega) only [↓RA, RZ, simprocAttr, hn, hS3.ld 1 rfl, p1]
 refine hS3.cF (oX s.name) fun H4 hS4 => ?_
 simp (disch := omega) only [↓RA, RZ, simprocAttr, hn, p1]
 refine jE (fun p2 => ?_) (fun p2 => ?_)
 ·simp (disch := omega) only [↓RA, RZ, simprocAttr, hn, rK, p1, p2]
  exact ⟨by rw [stopE, if_neg p1, if_pos (by simpa using p2)], hS4.forget⟩
 have p2' : ¬ kA s.name = false := by simpa using p2
 simp (disch := omega) only [↓RA, RZ, simprocAttr, hn, hS4.aj 1 rfl, p1, p2]
 refine hS4.cF (zT s.num s.den) fun H5 hS5 => ?_
 simp (disch := omega) only [↓RA, RZ, simprocAttr, hn, p1, p2]
 refine gM (fun p3 => ?_) (fun p3 => ?_)
 ·simp (disch := omega) only [↓RA, RZ, simprocAttr, hn, rK, p1, p2, p3]
  exact ⟨by rw [stopE, if_neg p1, if_neg p2', if_pos p3], hS5.forget⟩
 simp (disch := omega) only [↓RA, RZ, simprocAttr, hn, hS5.ld 1 rfl, (hS5.sl hs.1).len, p1, p2, p3]
 refine gM (fun p4 => ?_) (fun p4 => ?_)
 ·simp (disch := omega) only [↓RA, RZ, simprocAttr, hn, rK, p1, p2, p3, p4]
  exact ⟨by rw [stopE, if_neg p1, if_neg p2', if_neg p3, if_pos (by omega)], hS5.forget⟩
 simp (disch := omega) only [↓RA, RZ, simprocAttr, hn, hS5.ld 1 rfl, (hS5.sl hs.1).len, p1, p2, p3, p4]
 refine gM (fun p5 => ?_) (fun p5 => ?_)
 ·simp (disch := omega) only [↓RA, RZ, simprocAttr, hn, rK, p1, p2, p3, p4, p5]
  exact ⟨by rw [stopE, if_neg p1, if_neg p2', if_neg p3, if_neg (by omega), if_pos (by omega)], hS5.forget⟩
 have hE : stopE rs lo hi s = kO (kE lo hi rs.length s.segs) s.segs.length := by rw [stopE, if_neg p1, if_neg p2', if_neg p3, if_neg (by omega), if_neg (by omega)]
 simp (disch := omega) only [↓RA, RZ, simprocAttr, hn, hS5.ld 1 rfl, (hS5.sl hs.1).len, p1, p2, p3, p4, p5]
 refine Wp.al (fun n l H' => l.length = 94 ∧ get l 2 = (ptr A1 0 3) ∧ get l 3 = (ptr A2 0 4) ∧ get l 36 = s.gv ∧ get l 37 = I s.segs.length ∧ ∃ (i : Nat), (n + i = s.segs.length ∧ ∀ j, j < i → kE lo hi rs.length s.segs j = 0) ∧ get l 38 = I i ∧ St prog H H' [⟨ptr A1 0 3, 0, [rv, I lo, I hi]⟩, ⟨ptr A2 0 4, 0, [(.string s.name), I s.num, I s.den, s.gv]⟩]) s.segs.length ?_ ?_
 ·simp (disch := omega) only [RB, RC, simprocAttr, hn]
  exact ⟨0, ⟨by omega, by simp⟩, rfl, hS5⟩
 rintro n l H6 ⟨hn, g2, g3, g36, g37, i, ⟨hi1,h0⟩, g38, hS6⟩
 simp (disch := omega) only [↓RA, RB, simprocAttr, hn, g37, g38]
 refine gM (fun q1 => ?_) (fun q1 => ?_)
 ·have key : kE lo hi rs.length s.segs i ≠ 0 → stopE rs lo hi s = kE lo hi rs.length s.segs i := fun hne => by rw [hE, lL _ _ i (by omega) hne h0]
  have ei : ((i : Int) - 1).toNat = i - 1 := by omega
  simp (disch := omega) only [↓RA, RZ, simprocAttr, hn, g36, g38, (hS6.sl hs.1).idx, (hS6.sl hs.1).aj, Seg.cells, q1]
  refine hS6.eNew 3 [I 0, I 0, (.slice none 0 0)] rfl rfl rfl a1c fun A3 H7 hS7 => ?_
  simp only [RT] at hS7
  simp (disch := omega) only [↓RA, RZ, simprocAttr, hn, q1]
  refine hS7.aa 2 rfl [I (gN s.segs i).lo, I (gN s.segs i).hi, (gN s.segs i).dv] rfl (by simp [OC, (hS7.sl (hs.2.1 (gN s.segs i) (gS (by omega))).1).cells.2.1]) a1c (by simp) fun H8 hS8 => ?_
  simp only [RT] at hS8
  simp (disch := omega) only [↓RA, RZ, simprocAttr, hn, g2, hS8.ld 2 rfl, hS8.ld 0 rfl, q1]
  refine gW (fun h1 => ?_) (fun h1 => ?_)
  ·simp (disch := omega) only [↓RA, RZ, simprocAttr, hn, rK, q1, h1]
   (first | (have e1 : kE lo hi rs.length s.segs i = 23 := by rw [kE, if_pos (by omega)]); exact ⟨by rw [key (by rw [e1]; decide), e1], hS8.forget⟩ | (have e1 : kE lo hi rs.length s.segs i = 6 := by rw [kE, if_neg (by omega), if_pos (by omega)]); exact ⟨by rw [key (by rw [e1]; decide), e1], hS8.forget⟩ | (have e1 : kE lo hi rs.length s.segs i = kL rs.length (gN s.segs i).draws := by rw [kE, if_neg (by omega), if_neg (by omega)]); exact ⟨by rw [key (by rw [e1]; assumption), e1], hS8.forget⟩)
  simp (disch := omega) only [↓RA, RZ, simprocAttr, hn, g2, hS8.ld 2 rfl, hS8.ld 0 rfl, q1, h1]
  refine gM (fun h2 => ?_) (fun h2 => ?_)
  ·simp (disch := omega) only [↓RA, RZ, simprocAttr, hn, rK, q1, h1, h2]
   (first | (have e1 : kE lo hi rs.length s.segs i = 23 := by rw [kE, if_pos (by omega)]); exact ⟨by rw [key (by rw [e1]; decide), e1], hS8.forget⟩ | (have e1 : kE lo hi rs.length s.segs i = 6 := by rw [kE, if_neg (by omega), if_pos (by omega)]); exact ⟨by rw [key (by rw [e1]; decide), e1], hS8.forget⟩ | (have e1 : kE lo hi rs.length s.segs i = kL rs.length (gN s.segs i).draws := by rw [kE, if_neg (by omega), if_neg (by omega)]); exact ⟨by rw [key (by rw [e1]; assumption), e1], hS8.forget⟩)
  simp (disch := omega) only [↓RA, RZ, simprocAttr, q1, h1, h2]
  refine Wp.drw jM (by kernel_rfl) ?_
  simp (disch := omega) only [↓RA, RZ, simprocAttr, hn, hS8.ld 2 rfl]
  refine gW (fun h3 => ?_) (fun h3 => ?_)
  ·simp (disch := omega) only [↓RA, RZ, simprocAttr, hn, rK, h3]
   (first | (have e1 : kE lo hi rs.length s.segs i = 23 := by rw [kE, if_pos (by omega)]); exact ⟨by rw [key (by rw [e1]; decide), e1], hS8.forget⟩ | (have e1 : kE lo hi rs.length s.segs i = 6 := by rw [kE, if_neg (by omega), if_pos (by omega)]); exact ⟨by rw [key (by rw [e1]; decide), e1], hS8.forget⟩ | (have e1 : kE lo hi rs.length s.segs i = kL rs.length (gN s.segs i).draws := by rw [kE, if_neg (by omega), if_neg (by omega)]); exact ⟨by rw [key (by rw [e1]; assumption), e1], hS8.forget⟩)
  simp (disch := omega) only [↓RA, RZ, simprocAttr, hn, h3]
  refine jO (fun h4 => ?_) (fun h4 => ?_)
  ·simp (disch := omega) only [↓RA, RZ, simprocAttr, hn, g3, hS8.ld 2 rfl, hS8.ld 1 rfl, (hS8.sl hs.1).idx, (hS8.sl hs.1).bF, (hS8.sl hs.1).ld, Seg.cells, ei, h3, h4]
   refine gM (fun h5 => ?_) (fun h5 => ?_)
   ·simp (disch := omega) only [↓RA, RZ, simprocAttr, hn, rK, h3, h4, h5]
    (first | (have e1 : kE lo hi rs.length s.segs i = 23 := by rw [kE, if_pos (by omega)]); exact ⟨by rw [key (by rw [e1]; decide), e1], hS8.forget⟩ | (have e1 : kE lo hi rs.length s.segs i = 6 := by rw [kE, if_neg (by omega), if_pos (by omega)]); exact ⟨by rw [key (by rw [e1]; decide), e1], hS8.forget⟩ | (have e1 : kE lo hi rs.length s.segs i = kL rs.length (gN s.segs i).draws := by rw [kE, if_neg (by omega), if_neg (by omega)]); exact ⟨by rw [key (by rw [e1]; assumption), e1], hS8.forget⟩)
   simp (disch := omega) only [↓RA, RZ, simprocAttr, hn, g2, hS8.aj 0 rfl, hS8.ld 2 rfl, h3, h4, h5]
   refine hS8.cF (a4n rv rs lo hi (hS8.sl hr) hl _ _ (hS8.sl (hs.2.1 _ (gS (by omega))).1) (hs.2.1 _ (gS (by omega))).2) fun H9 hS9 => ?_
   simp (disch := omega) only [↓RA, RZ, simprocAttr, hn, h3, h4, h5]
   refine gM (fun h6 => ?_) (fun h6 => ?_)
   ·simp (disch := omega) only [↓RA, RZ, simprocAttr, hn, rK, h3, h4, h5, h6]
    (first | (have e1 : kE lo hi rs.length s.segs i = 23 := by rw [kE, if_pos (by omega)]); exact ⟨by rw [key (by rw [e1]; decide), e1], hS9.forget⟩ | (have e1 : kE lo hi rs.length s.segs i = 6 := by rw [kE, if_neg (by omega), if_pos (by omega)]); exact ⟨by rw [key (by rw [e1]; decide), e1], hS9.forget⟩ | (have e1 : kE lo hi rs.length s.segs i = kL rs.length (gN s.segs i).draws := by rw [kE, if_neg (by omega), if_neg (by omega)]); exact ⟨by rw [key (by rw [e1]; assumption), e1], hS9.forget⟩)
   simp (disch := omega) only [↓RA, RZ, simprocAttr, hn, g2, g3, g36, g37, g38, h3, h4, h5, h6]
   have e0 : kE lo hi rs.length s.segs i = 0 := by rw [kE, if_neg (by omega), if_neg (by omega)]; omega
   exact ⟨n - 1, by omega, i + 1, ⟨by omega, fun j hj => by rcases de.1 hj with e | e; (· exact h0 j e); (· rw [e]; exact e0)⟩, by simp, hS9.sub (by simp)⟩
  simp (disch := omega) only [↓RA, RZ, simprocAttr, hn, g2, hS8.aj 0 rfl, hS8.ld 2 rfl, h3, h4]
  refine hS8.cF (a4n rv rs lo hi (hS8.sl hr) hl _ _ (hS8.sl (hs.2.1 _ (gS (by omega))).1) (hs.2.1 _ (gS (by omega))).2) fun H10 hS10 => ?_
  simp (disch := omega) only [↓RA, RZ, simprocAttr, hn, h3, h4]
  refine gM (fun h7 => ?_) (fun h7 => ?_)
  ·simp (disch := omega) only [↓RA, RZ, simprocAttr, hn, rK, h3, h4, h7]
   (first | (have e1 : kE lo hi rs.length s.segs i = 23 := by rw [kE, if_pos (by omega)]); exact ⟨by rw [key (by rw [e1]; decide), e1], hS10.forget⟩ | (have e1 : kE lo hi rs.length s.segs i = 6 := by rw [kE, if_neg (by omega), if_pos (by omega)]); exact ⟨by rw [key (by rw [e1]; decide), e1], hS10.forget⟩ | (have e1 : kE lo hi rs.length s.segs i = kL rs.length (gN s.segs i).draws := by rw [kE, if_neg (by omega), if_neg (by omega)]); exact ⟨by rw [key (by rw [e1]; assumption), e1], hS10.forget⟩)
  simp (disch := omega) only [↓RA, RZ, simprocAttr, hn, g2, g3, g36, g37, g38, h3, h4, h7]
  have e0 : kE lo hi rs.length s.segs i = 0 := by rw [kE, if_neg (by omega), if_neg (by omega)]; omega
  exact ⟨n - 1, by omega, i + 1, ⟨by omega, fun j hj => by rcases de.1 hj with e | e; (· exact h0 j e); (· rw [e]; exact e0)⟩, by simp, hS10.sub (by simp)⟩
 simp (disch := omega) only [↓RA, RZ, simprocAttr, hn, rK, q1]
 exact ⟨by rw [hE, jP _ _ fun j hj => h0 j (by omega)], hS6.forget⟩
theorem b7d (v : Value) (xs : List Cpl) (hv : Sl 5 Cpl.cells H v xs) (hl : xs.length < 1000000000) (k : FuncId) (caps : List Value) (p : Nat → Bool)
 (hf : ∀ j H1, j < xs.length → St prog H H1 [] → Fn prog k (.agg #[.string (gN xs j).name, I (gN xs j).src, I (gN xs j).dst, I (gN xs j).shift, .bool (gN xs j).thr] :: caps) H1 fun r H2 => r = .bool (p j) ∧ St prog H1 H2 []) :
 Fn prog 147 [v, .func (.func k) #[] caps.toArray] H fun r H' => r = I (pY p xs.length) ∧ St prog H H' [] := by
 refine .aM func147 rfl (by kernel_rfl) (m := 19) rfl fun l hn g0 g1 => ?_
 simp (disch := omega) only [↓RA, RZ, simprocAttr, hn, g0, ((sR H).sl hv).len]
 refine Wp.al (fun n l H' => l.length = 19 ∧ get l 0 = v ∧ get l 1 = .func (.func k) #[] caps.toArray ∧ get l 7 = I xs.length ∧ ∃ (j : Nat), (n + j = xs.length ∧ ∀ q, q < j → p q = false) ∧ get l 8 = I j ∧ St prog H H' []) xs.length ?_ ?_
 ·simp (disch := omega) only [RB, RC, simprocAttr, hn, g0, g1]
  exact ⟨0, ⟨by omega, fun q hq => absurd hq (dz _)⟩, rfl, (sR H)⟩
 rintro n l H1 ⟨hn, g0, g1, g7, j, ⟨hi,h0⟩, g8, hS1⟩
 simp (disch := omega) only [↓RA, RB, simprocAttr, hn, g7, g8]
 refine gM (fun h => ?_) (fun h => ?_)
 ·simp (disch := omega) only [↓RA, RZ, simprocAttr, hn, g0, g1, g8, (hS1.sl hv).idx, (hS1.sl hv).aj, Cpl.cells, h]
  refine hS1.cF (hf j _ (by omega) hS1) fun H2 hS2 => ?_
  simp (disch := omega) only [↓RA, RZ, simprocAttr, hn, h]
  refine jE (fun hp => ?_) (fun hp => ?_)
  ·simp (disch := omega) only [↓RA, RZ, simprocAttr, hn, b7E, h, hp]
   exact ⟨by rw [a0c p xs.length j (by omega) hp h0], hS2⟩
  simp (disch := omega) only [↓RA, RZ, simprocAttr, hn, g0, g1, g7, g8, h, hp]
  exact ⟨n - 1, by omega, j + 1, ⟨by omega, fun q hq => by rcases de.1 hq with e | e; (· exact h0 q e); (· rw [e]; exact hp)⟩, by simp, hS2⟩
 simp (disch := omega) only [↓RA, RZ, simprocAttr, hn, b7E, h]
 exact ⟨by rw [a0a p xs.length fun q hq => h0 q (by omega)], hS1⟩
theorem b5K (v : Value) (xs : List Cpl) (hv : Sl 5 Cpl.cells H v xs) (hl : xs.length < 1000000000) (k : FuncId) (caps : List Value) (p : Nat → Bool)
 (hf : ∀ j H1, j < xs.length → St prog H H1 [] → Fn prog k (.agg #[.string (gN xs j).name, I (gN xs j).src, I (gN xs j).dst, I (gN xs j).shift, .bool (gN xs j).thr] :: caps) H1 fun r H2 => r = .bool (p j) ∧ St prog H1 H2 []) :
 Fn prog 109 [v, .func (.func k) #[] caps.toArray] H fun r H' => r = .bool (decide (0 ≤ pY p xs.length)) ∧ St prog H H' [] := by
 refine .aM func109 rfl (by kernel_rfl) (m := 9) rfl fun l hn g0 g1 => ?_
 simp (disch := omega) only [↓RA, RZ, simprocAttr, hn, g0, g1]
 refine (sR H).cF (b7d v xs hv hl k caps p hf) fun H1 hS1 => ?_
 simp (disch := omega) only [↓RA, RZ, simprocAttr, hn, c1Q]
 first | exact hS1 | exact ⟨rfl, hS1⟩
theorem a8z (c : Cpl) (A : Nat) (d : Cpl) (hA : Var H A 5 d.cells) : Fn prog 110 [.agg #[.string c.name, I c.src, I c.dst, I c.shift, .bool c.thr], ptr A 0 5] H fun r H' => r = .bool (decide (c.name = d.name)) ∧ St prog H H' [] := by
 refine .aM func110 rfl (by kernel_rfl) (m := 9) rfl fun l hn g0 g1 => ?_
 simp (disch := omega) only [↓RA, RB, simprocAttr, g0]
 refine (sR H).eNew 5 [(.string c.name), I c.src, I c.dst, I c.shift, (.bool c.thr)] rfl rfl rfl tW fun A1 H1 hS1 => ?_
 simp only [RT] at hS1
 simp (disch := omega) only [↓RA, RZ, simprocAttr, hn, g1, hS1.ld 0 rfl, (hS1.va hA).ld, c2c, Cpl.cells]
 first | exact hS1.forget | exact ⟨rfl, hS1.forget⟩
def lN (m : Nat) (cs : List Cpl) (j : Nat) : Int :=
 let c := gN cs j
 if kA c.name = false then 8 else if ∃ q, q < j ∧ (gN cs q).name = c.name then 9 else if c.src < 0 ∨ m ≤ c.src ∨ c.dst < 0 ∨ m ≤ c.dst then 10 else if c.shift < -127 ∨ 127 < c.shift then 3 else if c.src = c.dst ∧ c.shift = 0 then 7 else 0
def rI (ks : List (Int × Int)) (cs : List Cpl) : Int := if 8 < ks.length ∨ 40 < cs.length then 4 else if ∃ k ∈ ks, pI k.1 k.2 ≠ 0 then 23 else kO (lN ks.length cs) cs.length
def kpc (k : Int × Int) : List Value := [I k.1, I k.2]
theorem a5w {α : Type} [Inhabited α] (xs : List α) (i j : Nat) (h : j < i) : gN (xs.take i) j = gN xs j := by
 unfold gN
 rw [cV, cV, dD h]
theorem a4R (kv cv : Value) (ks : List (Int × Int)) (cs : List Cpl) (hk : Sl 2 kpc H kv ks) (hc : Sl 5 Cpl.cells H cv cs) (hl : ks.length < 1000000000) (hl2 : cs.length < 1000000000) :
 Fn prog 59 [kv, cv] H fun v H' => v = I (rI ks cs) ∧ St prog H H' [] := by
 refine .aM func59 rfl (by kernel_rfl) (m := 89) rfl fun l hn g0 g1 => ?_
 simp (disch := omega) only [↓RA, RZ, simprocAttr, hn, g0, ((sR H).sl hk).len]
 refine gW (fun p1 => ?_) (fun p1 => ?_)
 ·simp (disch := omega) only [↓RA, RZ, simprocAttr, hn, yN, p1]
  exact ⟨by rw [rI, if_pos (by omega)], (sR H)⟩
 simp (disch := omega) only [↓RA, RZ, simprocAttr, hn, g1, ((sR H).sl hc).len, p1]
 refine gM (fun p2 => ?_) (fun p2 => ?_)
 ·simp (disch := omega) only [↓RA, RZ, simprocAttr, hn, yN, p1, p2]
  exact ⟨by rw [rI, if_pos (by omega)], (sR H)⟩
 simp (disch := omega) only [↓RA, RZ, simprocAttr, hn, g0, ((sR H).sl hk).len, p1, p2]
 refine Wp.al (fun n l H' => l.length = 89 ∧ get l 0 = kv ∧ get l 1 = cv ∧ get l 17 = kv ∧ get l 18 = I ks.length ∧ ∃ (i : Nat), (n + i = ks.length ∧ ∀ j, j < i → pI (gN ks j).1 (gN ks j).2 = 0) ∧ get l 19 = I i ∧ St prog H H' []) ks.length ?_ ?_
 ·simp (disch := omega) only [RB, RC, simprocAttr, hn, g0, g1]
  exact ⟨0, ⟨by omega, by simp⟩, rfl, (sR H)⟩
 rintro n l H1 ⟨hn, g0, g1, g17, g18, i, ⟨hi1,h0⟩, g19, hS1⟩
 simp (disch := omega) only [↓RA, RB, simprocAttr, hn, g18, g19]
 refine gM (fun p3 => ?_) (fun p3 => ?_)
 ·simp (disch := omega) only [↓RA, RZ, simprocAttr, hn, g17, g19, (hS1.sl hk).idx, (hS1.sl hk).aj, kpc, p3]
  refine hS1.eNew 2 [I 0, I 0] rfl rfl rfl uB fun A1 H2 hS2 => ?_
  simp only [RT] at hS2
  simp (disch := omega) only [↓RA, RZ, simprocAttr, hn, p3]
  refine hS2.aa 0 rfl [I (gN ks i).1, I (gN ks i).2] rfl rfl uB (by simp) fun H3 hS3 => ?_
  simp only [RT] at hS3
  simp (disch := omega) only [↓RA, RZ, simprocAttr, hn, hS3.aj 0 rfl, p3]
  refine hS3.cF (zU _ _) fun H4 hS4 => ?_
  simp (disch := omega) only [↓RA, RZ, simprocAttr, hn, p3]
  refine gM (fun p4 => ?_) (fun p4 => ?_)
  ·simp (disch := omega) only [↓RA, RZ, simprocAttr, hn, yN, p3, p4]
   exact ⟨by rw [rI, if_neg (by omega), if_pos ⟨_, gS (by omega), p4⟩], hS4.forget⟩
  simp (disch := omega) only [↓RA, RZ, simprocAttr, hn, g0, g1, g17, g18, g19, p3, p4]
  exact ⟨n - 1, by omega, i + 1, ⟨by omega, fun j hj => by rcases de.1 hj with e | e; (· exact h0 j e); (· rw [e]; exact di.1 p4)⟩, by simp, hS4.sub (by simp)⟩
 have hE : rI ks cs = kO (lN ks.length cs) cs.length := by
  rw [rI, if_neg (by omega), if_neg]
  rintro ⟨k, hk, hne⟩
  obtain ⟨j, hj, rfl⟩ := dI.1 hk
  rw [← jJ ks j hj] at hne
  exact hne (h0 j (by omega))
 simp (disch := omega) only [↓RA, RZ, simprocAttr, hn, g1, (hS1.sl hc).len, p3]
 refine Wp.al (fun n l H' => l.length = 89 ∧ get l 0 = kv ∧ get l 1 = cv ∧ get l 27 = cv ∧ get l 28 = I cs.length ∧ ∃ (i : Nat), (n + i = cs.length ∧ ∀ j, j < i → lN ks.length cs j = 0) ∧ get l 29 = I i ∧ St prog H H' []) cs.length ?_ ?_
 ·simp (disch := omega) only [RB, RC, simprocAttr, hn, g0, g1]
  exact ⟨0, ⟨by omega, by simp⟩, rfl, hS1⟩
 rintro n l H5 ⟨hn, g0, g1, g27, g28, i, ⟨hi2,hz⟩, g29, hS5⟩
 simp (disch := omega) only [↓RA, RB, simprocAttr, hn, g28, g29]
 refine gM (fun q1 => ?_) (fun q1 => ?_)
 ·have key : lN ks.length cs i ≠ 0 → rI ks cs = lN ks.length cs i := fun hne => by rw [hE, lL _ _ i (by omega) hne hz]
  simp (disch := omega) only [↓RA, RZ, simprocAttr, hn, g27, g29, (hS5.sl hc).idx, (hS5.sl hc).aj, Cpl.cells, q1]
  refine hS5.eNew 5 [(.string ⟨#[]⟩), I 0, I 0, I 0, (.bool false)] rfl rfl rfl tW fun A2 H6 hS6 => ?_
  simp only [RT] at hS6
  simp (disch := omega) only [↓RA, RZ, simprocAttr, hn, q1]
  refine hS6.aa 0 rfl [(.string (gN cs i).name), I (gN cs i).src, I (gN cs i).dst, I (gN cs i).shift, (.bool (gN cs i).thr)] rfl rfl tW (by simp) fun H7 hS7 => ?_
  simp only [RT] at hS7
  simp (disch := omega) only [↓RA, RZ, simprocAttr, hn, hS7.ld 0 rfl, q1]
  refine hS7.cF (oX _) fun H8 hS8 => ?_
  simp (disch := omega) only [↓RA, RZ, simprocAttr, hn, q1]
  refine jE (fun q2 => ?_) (fun q2 => ?_)
  ·have e1 : lN ks.length cs i = 8 := by unfold lN; simp only; rw [if_pos (by simpa using q2)]
   simp (disch := omega) only [↓RA, RZ, simprocAttr, hn, yN, q1, q2]
   exact ⟨by rw [key (by rw [e1]; decide), e1], hS8.forget⟩
  have q2' : ¬ kA (gN cs i).name = false := by simpa using q2
  simp (disch := omega) only [↓RA, RZ, simprocAttr, hn, g1, (hS8.sl hc).aR, q1, q2]
  have hA := hS8.var 0 rfl
  refine hS8.cF (b5K _ (cs.take i) ((hS8.sl hc).cz i (by omega) (by omega)) (by simp; omega) 110 [ptr A2 0 5] (fun j => decide ((gN (cs.take i) j).name = (gN cs i).name)) (fun j H1 hj hS' => a8z _ A2 (gN cs i) (hS'.va hA))) fun H9 hS9 => ?_
  have hx : 0 ≤ pY (fun j => decide ((gN (cs.take i) j).name = (gN cs i).name)) (cs.take i).length ↔ ∃ q, q < i ∧ (gN cs q).name = (gN cs i).name := by
   rw [a3f]
   constructor
   ·rintro ⟨j, hj, hp⟩
    have hj' : j < i := by simp at hj; omega
    exact ⟨j, hj', by rw [← a5w cs i j hj']; exact of_decide_eq_true hp⟩
   ·rintro ⟨j, hj, hp⟩
    exact ⟨j, by simp; omega, decide_eq_true (by rw [a5w cs i j hj]; exact hp)⟩
  simp (disch := omega) only [↓RA, RZ, simprocAttr, hn, q1, q2]
  refine gM (fun q3 => ?_) (fun q3 => ?_)
  ·have e1 : lN ks.length cs i = 9 := by unfold lN; simp only; rw [if_neg q2', if_pos (hx.1 q3)]
   simp (disch := omega) only [↓RA, RZ, simprocAttr, hn, yN, q1, q2, q3]
   exact ⟨by rw [key (by rw [e1]; decide), e1], hS9.forget⟩
  have q3' : ¬ ∃ q, q < i ∧ (gN cs q).name = (gN cs i).name := fun hh => q3 (hx.2 hh)
  have hC : lN ks.length cs i = if (gN cs i).src < 0 ∨ ks.length ≤ (gN cs i).src ∨ (gN cs i).dst < 0 ∨ ks.length ≤ (gN cs i).dst then 10 else if (gN cs i).shift < -127 ∨ 127 < (gN cs i).shift then 3 else if (gN cs i).src = (gN cs i).dst ∧ (gN cs i).shift = 0 then 7 else 0 := by
   unfold lN; simp only; rw [if_neg q2', if_neg q3']
  clear hx
  simp (disch := omega) only [↓RA, RZ, simprocAttr, hn, hS9.ld 0 rfl, q1, q2, q3]
  refine gW (fun h1 => ?_) (fun h1 => ?_)
  ·simp (disch := omega) only [↓RA, RZ, simprocAttr, hn, yN, q1, q2, q3, h1]
   (first | (have e1 : lN ks.length cs i = 10 := by rw [hC, if_pos (by omega)]); exact ⟨by rw [key (by rw [e1]; decide), e1], hS9.forget⟩ | (have e1 : lN ks.length cs i = 3 := by rw [hC, if_neg (by omega), if_pos (by omega)]); exact ⟨by rw [key (by rw [e1]; decide), e1], hS9.forget⟩ | (have e1 : lN ks.length cs i = 7 := by rw [hC, if_neg (by omega), if_neg (by omega), if_pos (by omega)]); exact ⟨by rw [key (by rw [e1]; decide), e1], hS9.forget⟩)
  simp (disch := omega) only [↓RA, RZ, simprocAttr, hn, g0, hS9.ld 0 rfl, (hS9.sl hk).len, q1, q2, q3, h1]
  refine gW (fun h2 => ?_) (fun h2 => ?_)
  ·simp (disch := omega) only [↓RA, RZ, simprocAttr, hn, yN, q1, q2, q3, h1, h2]
   (first | (have e1 : lN ks.length cs i = 10 := by rw [hC, if_pos (by omega)]); exact ⟨by rw [key (by rw [e1]; decide), e1], hS9.forget⟩ | (have e1 : lN ks.length cs i = 3 := by rw [hC, if_neg (by omega), if_pos (by omega)]); exact ⟨by rw [key (by rw [e1]; decide), e1], hS9.forget⟩ | (have e1 : lN ks.length cs i = 7 := by rw [hC, if_neg (by omega), if_neg (by omega), if_pos (by omega)]); exact ⟨by rw [key (by rw [e1]; decide), e1], hS9.forget⟩)
  simp (disch := omega) only [↓RA, RZ, simprocAttr, hn, hS9.ld 0 rfl, q1, q2, q3, h1, h2]
  refine gW (fun h3 => ?_) (fun h3 => ?_)
  ·simp (disch := omega) only [↓RA, RZ, simprocAttr, hn, yN, q1, q2, q3, h1, h2, h3]
   (first | (have e1 : lN ks.length cs i = 10 := by rw [hC, if_pos (by omega)]); exact ⟨by rw [key (by rw [e1]; decide), e1], hS9.forget⟩ | (have e1 : lN ks.length cs i = 3 := by rw [hC, if_neg (by omega), if_pos (by omega)]); exact ⟨by rw [key (by rw [e1]; decide), e1], hS9.forget⟩ | (have e1 : lN ks.length cs i = 7 := by rw [hC, if_neg (by omega), if_neg (by omega), if_pos (by omega)]); exact ⟨by rw [key (by rw [e1]; decide), e1], hS9.forget⟩)
  simp (disch := omega) only [↓RA, RZ, simprocAttr, hn, g0, hS9.ld 0 rfl, (hS9.sl hk).len, q1, q2, q3, h1, h2, h3]
  refine gM (fun h4 => ?_) (fun h4 => ?_)
  ·simp (disch := omega) only [↓RA, RZ, simprocAttr, hn, yN, q1, q2, q3, h1, h2, h3, h4]
   (first | (have e1 : lN ks.length cs i = 10 := by rw [hC, if_pos (by omega)]); exact ⟨by rw [key (by rw [e1]; decide), e1], hS9.forget⟩ | (have e1 : lN ks.length cs i = 3 := by rw [hC, if_neg (by omega), if_pos (by omega)]); exact ⟨by rw [key (by rw [e1]; decide), e1], hS9.forget⟩ | (have e1 : lN ks.length cs i = 7 := by rw [hC, if_neg (by omega), if_neg (by omega), if_pos (by omega)]); exact ⟨by rw [key (by rw [e1]; decide), e1], hS9.forget⟩)
  simp (disch := omega) only [↓RA, RZ, simprocAttr, hn, hS9.ld 0 rfl, q1, q2, q3, h1, h2, h3, h4]
  refine gW (fun h5 => ?_) (fun h5 => ?_)
  ·simp (disch := omega) only [↓RA, RZ, simprocAttr, hn, yN, q1, q2, q3, h1, h2, h3, h4, h5]
   (first | (have e1 : lN ks.length cs i = 10 := by rw [hC, if_pos (by omega)]); exact ⟨by rw [key (by rw [e1]; decide), e1], hS9.forget⟩ | (have e1 : lN ks.length cs i = 3 := by rw [hC, if_neg (by omega), if_pos (by omega)]); exact ⟨by rw [key (by rw [e1]; decide), e1], hS9.forget⟩ | (have e1 : lN ks.length cs i = 7 := by rw [hC, if_neg (by omega), if_neg (by omega), if_pos (by omega)]); exact ⟨by rw [key (by rw [e1]; decide), e1], hS9.forget⟩)
  simp (disch := omega) only [↓RA, RZ, simprocAttr, hn, hS9.ld 0 rfl, q1, q2, q3, h1, h2, h3, h4, h5]
  refine gM (fun h6 => ?_) (fun h6 => ?_)
  ·simp (disch := omega) only [↓RA, RZ, simprocAttr, hn, yN, q1, q2, q3, h1, h2, h3, h4, h5, h6]
   (first | (have e1 : lN ks.length cs i = 10 := by rw [hC, if_pos (by omega)]); exact ⟨by rw [key (by rw [e1]; decide), e1], hS9.forget⟩ | (have e1 : lN ks.length cs i = 3 := by rw [hC, if_neg (by omega), if_pos (by omega)]); exact ⟨by rw [key (by rw [e1]; decide), e1], hS9.forget⟩ | (have e1 : lN ks.length cs i = 7 := by rw [hC, if_neg (by omega), if_neg (by omega), if_pos (by omega)]); exact ⟨by rw [key (by rw [e1]; decide), e1], hS9.forget⟩)
  simp (disch := omega) only [↓RA, RZ, simprocAttr, hn, hS9.ld 0 rfl, q1, q2, q3, h1, h2, h3, h4, h5, h6]
  refine jO (fun h7 => ?_) (fun h7 => ?_)
  ·simp (disch := omega) only [↓RA, RZ, simprocAttr, hn, hS9.ld 0 rfl, q1, q2, q3, h3, h4, h5, h6, h7]
   refine gM (fun h8 => ?_) (fun h8 => ?_)
   ·simp (disch := omega) only [↓RA, RZ, simprocAttr, hn, yN, q1, q2, q3, h3, h4, h7, h8]
    (first | (have e1 : lN ks.length cs i = 10 := by rw [hC, if_pos (by omega)]); exact ⟨by rw [key (by rw [e1]; decide), e1], hS9.forget⟩ | (have e1 : lN ks.length cs i = 3 := by rw [hC, if_neg (by omega), if_pos (by omega)]); exact ⟨by rw [key (by rw [e1]; decide), e1], hS9.forget⟩ | (have e1 : lN ks.length cs i = 7 := by rw [hC, if_neg (by omega), if_neg (by omega), if_pos (by omega)]); exact ⟨by rw [key (by rw [e1]; decide), e1], hS9.forget⟩)
   simp (disch := omega) only [↓RA, RZ, simprocAttr, hn, g0, g1, g27, g28, g29, q1, q2, q3, h3, h4, h5, h6, h7, h8]
   have e0 : lN ks.length cs i = 0 := by rw [hC, if_neg (by omega), if_neg (by omega), if_neg (by omega)]
   exact ⟨n - 1, by omega, i + 1, ⟨by omega, fun j hj => by rcases de.1 hj with e | e; (· exact hz j e); (· rw [e]; exact e0)⟩, by simp, hS9.sub (by simp)⟩
  simp (disch := omega) only [↓RA, RZ, simprocAttr, hn, g0, g1, g27, g28, g29, q1, q2, q3, h1, h2, h3, h4, h5, h6, h7]
  have e0 : lN ks.length cs i = 0 := by rw [hC, if_neg (by omega), if_neg (by omega), if_neg (by omega)]
  exact ⟨n - 1, by omega, i + 1, ⟨by omega, fun j hj => by rcases de.1 hj with e | e; (· exact hz j e); (· rw [e]; exact e0)⟩, by simp, hS9.sub (by simp)⟩
 simp (disch := omega) only [↓RA, RZ, simprocAttr, hn, yN, q1]
 exact ⟨by rw [hE, jP _ _ fun j hj => hz j (by omega)], hS5.forget⟩
def nI (rs : List Rk) (lo hi : Int) (l : List Stp) (j : Nat) : Int := if stopE rs lo hi (gN l j) ≠ 0 then stopE rs lo hi (gN l j) else if ∃ q, q < j ∧ (gN l q).name = (gN l j).name then 9 else 0
def divE (rs : List Rk) (d : Dvn) : Int := if pI d.lo d.hi ≠ 0 then pI d.lo d.hi else if 60 < d.stops.length then 4 else kO (nI rs d.lo d.hi d.stops) d.stops.length
theorem xG {kvs kvs' : List (ByteArray × Bool)} {f : Nat → ByteArray} {i : Nat} (h : ∀ t, oO kvs t = true ↔ ∃ q, q < i ∧ f q = t) (h' : ∀ t, oO kvs' t = (oO kvs t || decide (t = f i))) : ∀ t, oO kvs' t = true ↔ ∃ q, q < i + 1 ∧ f q = t := by
 intro t
 rw [h', dQ, h, decide_eq_true_iff]
 constructor
 ·rintro (⟨q, hq, e⟩ | e)
  ·exact ⟨q, by omega, e⟩
  ·exact ⟨i, by omega, e.symm⟩
 ·rintro ⟨q, hq, e⟩
  rcases de.1 hq with hh | hh
  ·exact .inl ⟨q, hh, e⟩
  ·right; rw [← e, hh]
theorem a1h (t : ByteArray) : oO [] t = false := rfl
theorem b9O (o : Org) (ho : o.In H) (d : Dvn) (hd : d.In H) :
 Fn prog 58 [.agg #[.string o.name, o.rv, o.dv, o.cv], .agg #[.string d.name, .bool d.pedal, I d.lo, I d.hi, d.sv]] H fun v H' => v = I (divE o.ranks d) ∧ St prog H H' [] := by
 have hl := hd.2.2
 refine .aM func58 rfl (by kernel_rfl) (m := 47) rfl fun l hn g0 g1 => ?_
 simp (disch := omega) only [↓RA, RB, simprocAttr, g0]
 refine (sR H).eNew 4 [(.string o.name), o.rv, o.dv, o.cv] rfl rfl (by simp [OC, ((sR H).sl ho.1).cells.2.1, ((sR H).sl ho.2.2.1).cells.2.1, ((sR H).sl ho.2.2.2.2.1).cells.2.1]) oD fun A1 H1 hS1 => ?_
 simp only [RT] at hS1
 simp (disch := omega) only [↓RA, RB, simprocAttr, g1]
 refine hS1.eNew 5 [(.string d.name), (.bool d.pedal), I d.lo, I d.hi, d.sv] rfl rfl (by simp [OC, (hS1.sl hd.1).cells.2.1]) tS fun A2 H2 hS2 => ?_
 simp only [RT] at hS2
 simp (disch := omega) only [↓RA, RZ, simprocAttr, hn, hS2.aj 1 rfl]
 refine hS2.cF (zU d.lo d.hi) fun H3 hS3 => ?_
 simp (disch := omega) only [↓RA, RB, simprocAttr, hn]
 refine gM (fun p1 => ?_) (fun p1 => ?_)
 ·simp (disch := omega) only [↓RA, RZ, simprocAttr, hn, b2F, p1]
  exact ⟨by rw [divE, if_pos p1], hS3.forget⟩
 simp (disch := omega) only [↓RA, RZ, simprocAttr, hn, hS3.ld 1 rfl, (hS3.sl hd.1).len, p1]
 refine gM (fun p2 => ?_) (fun p2 => ?_)
 ·simp (disch := omega) only [↓RA, RZ, simprocAttr, hn, b2F, p1, p2]
  exact ⟨by rw [divE, if_neg p1, if_pos (by omega)], hS3.forget⟩
 have hE : divE o.ranks d = kO (nI o.ranks d.lo d.hi d.stops) d.stops.length := by rw [divE, if_neg p1, if_neg (by omega)]
 simp (disch := omega) only [↓RA, simprocAttr]
 refine hS3.bR a5l fun M1 H4 hS4 => ?_
 simp only [RT] at hS4
 simp (disch := omega) only [↓RA, RZ, simprocAttr, hn, hS4.ld 1 rfl, (hS4.sl hd.1).len, p1, p2]
 refine Wp.al (fun n l H' => l.length = 47 ∧ get l 2 = (ptr A1 0 4) ∧ get l 3 = (ptr A2 0 5) ∧ get l 6 = (.map (some M1)) ∧ get l 23 = d.sv ∧ get l 24 = I d.stops.length ∧ ∃ (i : Nat) (kvs : List (ByteArray × Bool)), (n + i = d.stops.length ∧ (∀ j, j < i → nI o.ranks d.lo d.hi d.stops j = 0) ∧ (∀ t, oO kvs t = true ↔ ∃ q, q < i ∧ (gN d.stops q).name = t)) ∧ get l 25 = I i ∧ St prog H H' [⟨ptr A1 0 4, 0, [(.string o.name), o.rv, o.dv, o.cv]⟩, ⟨ptr A2 0 5, 0, [(.string d.name), (.bool d.pedal), I d.lo, I d.hi, d.sv]⟩, ⟨.map (some M1), 0, KS kvs⟩]) d.stops.length ?_ ?_
 ·simp (disch := omega) only [RB, RC, simprocAttr, hn]
  exact ⟨0, [], ⟨by omega, by simp, by simp [a1h]⟩, rfl, hS4⟩
 rintro n l H5 ⟨hn, g2, g3, g6, g23, g24, i, kvs, ⟨hi1,hz,hk⟩, g25, hS5⟩
 simp (disch := omega) only [↓RA, RB, simprocAttr, hn, g24, g25]
 refine gM (fun q1 => ?_) (fun q1 => ?_)
 ·have key : nI o.ranks d.lo d.hi d.stops i ≠ 0 → divE o.ranks d = nI o.ranks d.lo d.hi d.stops i := fun hne => by rw [hE, lL _ _ i (by omega) hne hz]
  simp (disch := omega) only [↓RA, RZ, simprocAttr, hn, g23, g25, (hS5.sl hd.1).idx, (hS5.sl hd.1).aj, Stp.cells, q1]
  refine hS5.eNew 4 [(.string ⟨#[]⟩), I 0, I 0, (.slice none 0 0)] rfl rfl rfl nH fun A3 H6 hS6 => ?_
  simp only [RT] at hS6
  simp (disch := omega) only [↓RA, RZ, simprocAttr, hn, q1]
  refine hS6.aa 3 rfl [(.string (gN d.stops i).name), I (gN d.stops i).num, I (gN d.stops i).den, (gN d.stops i).gv] rfl (by simp [OC, (hS6.sl (hd.2.1 (gN d.stops i) (gS (by omega))).1).cells.2.1]) nH (by simp) fun H7 hS7 => ?_
  simp only [RT] at hS7
  simp (disch := omega) only [↓RA, RZ, simprocAttr, hn, g2, g3, hS7.ld 0 rfl, hS7.aj 1 rfl, b0N (hS7.sl ho.1).cells, hS7.aj 3 rfl, q1]
  refine hS7.cF (b7m o.rv o.ranks d.lo d.hi (hS7.sl ho.1) (fun r h => (ho.2.1 r h).ae hS7) ho.2.2.2.2.2.1 (gN d.stops i) ((hd.2.1 _ (gS (by omega))).ae hS7)) fun H8 hS8 => ?_
  simp (disch := omega) only [↓RA, RZ, simprocAttr, hn, q1]
  refine gM (fun q2 => ?_) (fun q2 => ?_)
  ·have e1 : nI o.ranks d.lo d.hi d.stops i = stopE o.ranks d.lo d.hi (gN d.stops i) := by rw [nI, if_pos q2]
   simp (disch := omega) only [↓RA, RZ, simprocAttr, hn, b2F, q1, q2]
   exact ⟨by rw [key (by rw [e1]; exact q2), e1], hS8.forget⟩
  simp (disch := omega) only [↓RA, RZ, simprocAttr, hn, g6, hS8.ld 3 rfl, q1, q2]
  have hM1 := hS8.pick (os' := [⟨.map (some M1), 0, _⟩]) [2] (by decide) rfl
  have hR1 := hS8.pick (os' := [⟨.map (some M1), 0, _⟩, ⟨ptr A1 0 4, 0, _⟩, ⟨ptr A2 0 5, 0, _⟩, ⟨ptr A3 0 4, 0, _⟩]) [2, 0, 1, 3] (by decide) rfl
  refine gV (a0W _ M1 kvs (gN d.stops i).name hM1.aL) ?_
  rintro r H9 ⟨rfl, kvs', hk', hT3⟩
  have hS9 := hR1.frame hT3
  simp only [RT] at hS9
  simp (disch := omega) only [↓RA, RZ, simprocAttr, hn, q1, q2]
  refine gM (fun q3 => ?_) (fun q3 => ?_)
  ·have q3' : oO kvs (gN d.stops i).name = true := by
    by_cases hh : oO kvs (gN d.stops i).name = true
    ·exact hh
    ·rw [if_neg hh] at q3; exact absurd rfl q3
   have e1 : nI o.ranks d.lo d.hi d.stops i = 9 := by rw [nI, if_neg q2, if_pos ((hk _).1 q3')]
   simp (disch := omega) only [↓RA, RZ, simprocAttr, hn, b2F, q1, q2, q3]
   exact ⟨by rw [key (by rw [e1]; decide), e1, if_pos q3'], hS9.forget⟩
  have q3' : ¬ oO kvs (gN d.stops i).name = true := fun hh => q3 (by rw [if_pos hh]; decide)
  have e0 : nI o.ranks d.lo d.hi d.stops i = 0 := by rw [nI, if_neg q2, if_neg (fun hh => q3' ((hk _).2 hh))]
  simp (disch := omega) only [↓RA, RZ, simprocAttr, hn, g2, g3, g6, g23, g24, g25, q1, q2, q3]
  exact ⟨n - 1, by omega, i + 1, kvs', ⟨by omega, fun j hj => by rcases de.1 hj with e | e; (· exact hz j e); (· rw [e]; exact e0), xG (f := fun q => (gN d.stops q).name) hk hk'⟩, by simp, hS9.pick [1, 2, 0] (by decide) rfl⟩
 simp (disch := omega) only [↓RA, RZ, simprocAttr, hn, b2F, q1]
 exact ⟨by rw [hE, jP _ _ fun j hj => hz j (by omega)], hS5.forget⟩
def mO (l : List Rk) (j : Nat) : Int := if rankE (gN l j) ≠ 0 then rankE (gN l j) else if ∃ q, q < j ∧ (gN l q).name = (gN l j).name then 9 else 0
def rS (rs : List Rk) (l : List Dvn) (j : Nat) : Int := if kA (gN l j).name = false then 8 else if ∃ q, q < j ∧ (gN l q).name = (gN l j).name then 9 else divE rs (gN l j)
def kps (l : List Dvn) : List (Int × Int) := l.map fun d => (d.lo, d.hi)
def organE (o : Org) : Int := if kA o.name = false then 8 else if 60 < o.ranks.length then 4 else if kO (mO o.ranks) o.ranks.length ≠ 0 then kO (mO o.ranks) o.ranks.length else
 if o.dvs.length = 0 then 13 else if 8 < o.dvs.length then 4 else if kO (rS o.ranks o.dvs) o.dvs.length ≠ 0 then kO (rS o.ranks o.dvs) o.dvs.length else rI (kps o.dvs) o.cpls
theorem tI (k : Int × Int) : (kpc k).length = 2 := rfl
theorem b3r (l : List Dvn) (i : Nat) (h : i < l.length) : (kps (l.take (i + 1))).flatMap kpc = (kps (l.take i)).flatMap kpc ++ [I (gN l i).lo, I (gN l i).hi] := by
 unfold kps
 rw [a1L l i h, dT, dY]
 rfl
theorem a0C (o : Org) (ho : o.In H) : Fn prog 20 [.agg #[.string o.name, o.rv, o.dv, o.cv]] H fun v H' => v = I (organE o) ∧ St prog H H' [] := by
 have hlr := ho.2.2.2.2.2.1
 have hld := ho.2.2.2.2.2.2.1
 have hlc := ho.2.2.2.2.2.2.2
 refine .aS func20 rfl (by kernel_rfl) (m := 89) rfl fun l hn g0 => ?_
 simp (disch := omega) only [↓RA, RB, simprocAttr, g0]
 refine (sR H).eNew 4 [(.string o.name), o.rv, o.dv, o.cv] rfl rfl (by simp [OC, ((sR H).sl ho.1).cells.2.1, ((sR H).sl ho.2.2.1).cells.2.1, ((sR H).sl ho.2.2.2.2.1).cells.2.1]) oD fun A1 H1 hS1 => ?_
 simp only [RT] at hS1
 simp (disch := omega) only [↓RA, RZ, simprocAttr, hn, hS1.ld 0 rfl]
 refine hS1.cF (oX _) fun H2 hS2 => ?_
 simp (disch := omega) only [↓RA, RB, simprocAttr, hn]
 refine jE (fun p1 => ?_) (fun p1 => ?_)
 ·simp (disch := omega) only [↓RA, RB, simprocAttr, hn, a1B, p1]
  exact ⟨by rw [organE, if_pos (by simpa using p1)], hS2.forget⟩
 have p1' : ¬ kA o.name = false := by simpa using p1
 simp (disch := omega) only [↓RA, RZ, simprocAttr, hn, hS2.ld 0 rfl, (hS2.sl ho.1).len, p1]
 refine gM (fun p2 => ?_) (fun p2 => ?_)
 ·simp (disch := omega) only [↓RA, RZ, simprocAttr, hn, a1B, p1, p2]
  exact ⟨by rw [organE, if_neg p1', if_pos (by omega)], hS2.forget⟩
 simp (disch := omega) only [↓RA, simprocAttr]
 refine hS2.bR a5l fun M1 H3 hS3 => ?_
 simp only [RT] at hS3
 simp (disch := omega) only [↓RA, RZ, simprocAttr, hn, hS3.ld 0 rfl, (hS3.sl ho.1).len, p1, p2]
 refine Wp.al (fun n l H' => l.length = 89 ∧ get l 1 = (ptr A1 0 4) ∧ get l 3 = (.map (some M1)) ∧ get l 25 = o.rv ∧ get l 26 = I o.ranks.length ∧ ∃ (i : Nat) (kvs : List (ByteArray × Bool)), (n + i = o.ranks.length ∧ (∀ j, j < i → mO o.ranks j = 0) ∧ (∀ t, oO kvs t = true ↔ ∃ q, q < i ∧ (gN o.ranks q).name = t)) ∧ get l 27 = I i ∧ St prog H H' [⟨ptr A1 0 4, 0, [(.string o.name), o.rv, o.dv, o.cv]⟩, ⟨.map (some M1), 0, KS kvs⟩]) o.ranks.length ?_ ?_
 ·simp (disch := omega) only [RB, RC, simprocAttr, hn]
  exact ⟨0, [], ⟨by omega, by simp, by simp [a1h]⟩, rfl, hS3⟩
 rintro n l H4 ⟨hn, g1, g3, g25, g26, i, kvs, ⟨hi1,hz,hk⟩, g27, hS4⟩
 simp (disch := omega) only [↓RA, RB, simprocAttr, hn, g26, g27]
 refine gM (fun q1 => ?_) (fun q1 => ?_)
 ·have key : mO o.ranks i ≠ 0 → organE o = mO o.ranks i := fun hne => by rw [organE, if_neg p1', if_neg (by omega), lL _ _ i (by omega) hne hz, if_pos hne]
  simp (disch := omega) only [↓RA, RZ, simprocAttr, hn, g25, g27, (hS4.sl ho.1).idx, (hS4.sl ho.1).aj, Rk.cells, q1]
  refine hS4.eNew 6 [(.string ⟨#[]⟩), (.string ⟨#[]⟩), I 0, I 0, I 0, (.slice none 0 0)] rfl rfl rfl vX fun A2 H5 hS5 => ?_
  simp only [RT] at hS5
  simp (disch := omega) only [↓RA, RZ, simprocAttr, hn, q1]
  refine hS5.aa 2 rfl [(.string (gN o.ranks i).name), (.string (gN o.ranks i).tone), I (gN o.ranks i).num, I (gN o.ranks i).den, I (gN o.ranks i).first, (gN o.ranks i).wv] rfl (by simp [OC, (hS5.sl (ho.2.1 (gN o.ranks i) (gS (by omega))).1).cells.2.1]) vX (by simp) fun H6 hS6 => ?_
  simp only [RT] at hS6
  simp (disch := omega) only [↓RA, RZ, simprocAttr, hn, hS6.aj 2 rfl, q1]
  refine hS6.cF (a8W (gN o.ranks i) ((ho.2.1 _ (gS (by omega))).ae hS6)) fun H7 hS7 => ?_
  simp (disch := omega) only [↓RA, RZ, simprocAttr, hn, q1]
  refine gM (fun q2 => ?_) (fun q2 => ?_)
  ·have e1 : mO o.ranks i = rankE (gN o.ranks i) := by rw [mO, if_pos q2]
   simp (disch := omega) only [↓RA, RZ, simprocAttr, hn, a1B, q1, q2]
   exact ⟨by rw [key (by rw [e1]; exact q2), e1], hS7.forget⟩
  simp (disch := omega) only [↓RA, RZ, simprocAttr, hn, g3, hS7.ld 2 rfl, q1, q2]
  have hM1 := hS7.pick (os' := [⟨.map (some M1), 0, _⟩]) [1] (by decide) rfl
  have hR1 := hS7.pick (os' := [⟨.map (some M1), 0, _⟩, ⟨ptr A1 0 4, 0, _⟩, ⟨ptr A2 0 6, 0, _⟩]) [1, 0, 2] (by decide) rfl
  refine gV (a0W _ M1 kvs (gN o.ranks i).name hM1.aL) ?_
  rintro r H8 ⟨rfl, kvs', hk', hT3⟩
  have hS8 := hR1.frame hT3
  simp only [RT] at hS8
  simp (disch := omega) only [↓RA, RZ, simprocAttr, hn, q1, q2]
  refine gM (fun q3 => ?_) (fun q3 => ?_)
  ·have q3' : oO kvs (gN o.ranks i).name = true := by
    by_cases hh : oO kvs (gN o.ranks i).name = true
    ·exact hh
    ·rw [if_neg hh] at q3; exact absurd rfl q3
   have e1 : mO o.ranks i = 9 := by rw [mO, if_neg q2, if_pos ((hk _).1 q3')]
   simp (disch := omega) only [↓RA, RZ, simprocAttr, hn, a1B, q1, q2, q3]
   exact ⟨by rw [key (by rw [e1]; decide), e1, if_pos q3'], hS8.forget⟩
  have q3' : ¬ oO kvs (gN o.ranks i).name = true := fun hh => q3 (by rw [if_pos hh]; decide)
  have e0 : mO o.ranks i = 0 := by rw [mO, if_neg q2, if_neg (fun hh => q3' ((hk _).2 hh))]
  simp (disch := omega) only [↓RA, RZ, simprocAttr, hn, g1, g3, g25, g26, g27, q1, q2, q3]
  exact ⟨n - 1, by omega, i + 1, kvs', ⟨by omega, fun j hj => by rcases de.1 hj with e | e; (· exact hz j e); (· rw [e]; exact e0), xG (f := fun q => (gN o.ranks q).name) hk hk'⟩, by simp, hS8.pick [1, 0] (by decide) rfl⟩
 have hR : kO (mO o.ranks) o.ranks.length = 0 := jP _ _ fun j hj => hz j (by omega)
 clear hk hz
 simp (disch := omega) only [↓RA, RZ, simprocAttr, hn, g1, hS4.ld 0 rfl, (hS4.sl ho.2.2.1).len, q1]
 refine gM (fun p4 => ?_) (fun p4 => ?_)
 ·simp (disch := omega) only [↓RA, RZ, simprocAttr, hn, a1B, q1, p4]
  exact ⟨by rw [organE, if_neg p1', if_neg (by omega), if_neg (by rw [hR]; simp), if_pos (by omega)], hS4.forget⟩
 simp (disch := omega) only [↓RA, RZ, simprocAttr, hn, g1, hS4.ld 0 rfl, (hS4.sl ho.2.2.1).len, q1, p4]
 refine gM (fun p5 => ?_) (fun p5 => ?_)
 ·simp (disch := omega) only [↓RA, RZ, simprocAttr, hn, a1B, q1, p4, p5]
  exact ⟨by rw [organE, if_neg p1', if_neg (by omega), if_neg (by rw [hR]; simp), if_neg (by omega), if_pos (by omega)], hS4.forget⟩
 have hE : organE o = if kO (rS o.ranks o.dvs) o.dvs.length ≠ 0 then kO (rS o.ranks o.dvs) o.dvs.length else rI (kps o.dvs) o.cpls := by
  rw [organE, if_neg p1', if_neg (by omega), if_neg (by rw [hR]; simp), if_neg (by omega), if_neg (by omega)]
 clear hR
 simp (disch := omega) only [↓RA, simprocAttr]
 refine hS4.bR a5l fun M2 H9 hS9 => ?_
 simp only [RT] at hS9
 simp (disch := omega) only [↓RA, RZ, simprocAttr, hn, g1, hS9.ld 0 rfl, (hS9.sl ho.2.2.1).len, q1, p4, p5]
 have hS10 := hS9.pick (os' := [⟨ptr A1 0 4, 0, _⟩, ⟨.map (some M2), 0, _⟩]) [0, 2] (by decide) rfl
 have hS11 := hS10.nil 1
 simp only [RT] at hS11
 refine Wp.al (fun n l H' => l.length = 89 ∧ get l 1 = (ptr A1 0 4) ∧ get l 3 = (.map (some M2)) ∧ get l 56 = o.dv ∧ get l 57 = I o.dvs.length ∧ ∃ (i : Nat) (kvs : List (ByteArray × Bool)) (w : Value), (n + i = o.dvs.length ∧ (∀ j, j < i → rS o.ranks o.dvs j = 0) ∧ (∀ t, oO kvs t = true ↔ ∃ q, q < i ∧ (gN o.dvs q).name = t)) ∧ get l 58 = I i ∧ get l 8 = w ∧ St prog H H' [⟨ptr A1 0 4, 0, [(.string o.name), o.rv, o.dv, o.cv]⟩, ⟨.map (some M2), 0, KS kvs⟩, ⟨w, 2, (kps (o.dvs.take i)).flatMap kpc⟩]) o.dvs.length ?_ ?_
 ·simp (disch := omega) only [RB, RC, simprocAttr, hn, g1]
  exact ⟨0, [], _, ⟨by omega, by simp, by simp [a1h]⟩, rfl, rfl, hS11⟩
 rintro n l H10 ⟨hn, g1, g3, g56, g57, i, kvs, w, ⟨hi1,hz,hk⟩, g58, g8, hS12⟩
 simp (disch := omega) only [↓RA, RB, simprocAttr, hn, g57, g58]
 refine gM (fun q1 => ?_) (fun q1 => ?_)
 ·have key : rS o.ranks o.dvs i ≠ 0 → organE o = rS o.ranks o.dvs i := fun hne => by rw [hE, lL _ _ i (by omega) hne hz, if_pos hne]
  simp (disch := omega) only [↓RA, RZ, simprocAttr, hn, g56, g58, (hS12.sl ho.2.2.1).idx, (hS12.sl ho.2.2.1).aj, Dvn.cells, q1]
  refine hS12.eNew 5 [(.string ⟨#[]⟩), (.bool false), I 0, I 0, (.slice none 0 0)] rfl rfl rfl tS fun A3 H11 hS13 => ?_
  simp only [RT] at hS13
  simp (disch := omega) only [↓RA, RZ, simprocAttr, hn, q1]
  refine hS13.aa 3 rfl [(.string (gN o.dvs i).name), (.bool (gN o.dvs i).pedal), I (gN o.dvs i).lo, I (gN o.dvs i).hi, (gN o.dvs i).sv] rfl (by simp [OC, (hS13.sl (ho.2.2.2.1 (gN o.dvs i) (gS (by omega))).1).cells.2.1]) tS (by simp) fun H12 hS14 => ?_
  simp only [RT] at hS14
  simp (disch := omega) only [↓RA, RZ, simprocAttr, hn, hS14.ld 3 rfl, q1]
  refine hS14.cF (oX _) fun H13 hS15 => ?_
  simp (disch := omega) only [↓RA, RZ, simprocAttr, hn, q1]
  refine jE (fun q2 => ?_) (fun q2 => ?_)
  ·have e1 : rS o.ranks o.dvs i = 8 := by rw [rS, if_pos (by simpa using q2)]
   simp (disch := omega) only [↓RA, RZ, simprocAttr, hn, a1B, q1, q2]
   exact ⟨by rw [key (by rw [e1]; decide), e1], hS15.forget⟩
  have q2' : ¬ kA (gN o.dvs i).name = false := by simpa using q2
  simp (disch := omega) only [↓RA, RZ, simprocAttr, hn, g3, hS15.ld 3 rfl, q1, q2]
  have hM2 := hS15.pick (os' := [⟨.map (some M2), 0, _⟩]) [1] (by decide) rfl
  have hR2 := hS15.pick (os' := [⟨.map (some M2), 0, _⟩, ⟨ptr A1 0 4, 0, _⟩, ⟨w, 2, _⟩, ⟨ptr A3 0 5, 0, _⟩]) [1, 0, 2, 3] (by decide) rfl
  refine gV (a0W _ M2 kvs (gN o.dvs i).name hM2.aL) ?_
  rintro r H14 ⟨rfl, kvs', hk', hT5⟩
  have hS16 := hR2.frame hT5
  simp only [RT] at hS16
  simp (disch := omega) only [↓RA, RZ, simprocAttr, hn, q1, q2]
  refine gM (fun q3 => ?_) (fun q3 => ?_)
  ·have q3' : oO kvs (gN o.dvs i).name = true := by
    by_cases hh : oO kvs (gN o.dvs i).name = true
    ·exact hh
    ·rw [if_neg hh] at q3; exact absurd rfl q3
   have e1 : rS o.ranks o.dvs i = 9 := by rw [rS, if_neg q2', if_pos ((hk _).1 q3')]
   simp (disch := omega) only [↓RA, RZ, simprocAttr, hn, a1B, q1, q2, q3]
   exact ⟨by rw [key (by rw [e1]; decide), e1, if_pos q3'], hS16.forget⟩
  have q3' : ¬ oO kvs (gN o.dvs i).name = true := fun hh => q3 (by rw [if_pos hh]; decide)
  simp (disch := omega) only [↓RA, RZ, simprocAttr, hn, g1, hS16.aj 1 rfl, hS16.aj 3 rfl, q1, q2, q3]
  refine hS16.cF (b9O o (ho.ae hS16) (gN o.dvs i) ((ho.2.2.2.1 _ (gS (by omega))).ae hS16)) fun H15 hS17 => ?_
  have e0 : rS o.ranks o.dvs i = divE o.ranks (gN o.dvs i) := by rw [rS, if_neg q2', if_neg (fun hh => q3' ((hk _).2 hh))]
  simp (disch := omega) only [↓RA, RZ, simprocAttr, hn, q1, q2, q3]
  refine gM (fun q4 => ?_) (fun q4 => ?_)
  ·simp (disch := omega) only [↓RA, RZ, simprocAttr, hn, a1B, q1, q2, q3, q4]
   exact ⟨by rw [key (by rw [e0]; exact q4), e0], hS17.forget⟩
  have e2 : rS o.ranks o.dvs i = 0 := by rw [e0]; exact di.1 q4
  simp (disch := omega) only [↓RA, RZ, simprocAttr, hn, g8, hS17.aj 3 rfl, q1, q2, q3, q4]
  refine hS17.ai [I (gN o.dvs i).lo, I (gN o.dvs i).hi] b8c c0q rfl rfl (by simp [Value.cells]) rfl rfl (by decide) (by decide) fun w1 H16 hS18 => ?_
  simp only [RT] at hS18
  simp (disch := omega) only [↓RA, RZ, simprocAttr, hn, q1, q2, q3, q4]
  refine hS18.ar 2 rfl (hS18.rd 4 rfl) b8c (by rw [iK tI]; simp [kps]; omega) fun w2 H17 hS19 => ?_
  simp only [RT] at hS19
  simp (disch := omega) only [↓RA, RZ, simprocAttr, hn, g1, g3, g56, g57, g58, q1, q2, q3, q4]
  refine ⟨n - 1, by omega, i + 1, kvs', _, ⟨by omega, fun j hj => by rcases de.1 hj with e | e; (· exact hz j e); (· rw [e]; exact e2), xG (f := fun q => (gN o.dvs q).name) hk hk'⟩, by simp, rfl, ?_⟩
  rw [b3r _ _ (by omega)]
  exact hS19.pick [1, 0, 2] (by decide) rfl
 have hD : kO (rS o.ranks o.dvs) o.dvs.length = 0 := jP _ _ fun j hj => hz j (by omega)
 have hi : i = o.dvs.length := by omega
 subst hi
 rw [ee] at hS12
 simp (disch := omega) only [↓RA, RZ, simprocAttr, hn, g1, g8, hS12.ld 0 rfl, q1]
 refine hS12.cF (a4R w o.cv (kps o.dvs) o.cpls (hS12.ay 2 rfl tI) (hS12.sl ho.2.2.2.2.1) (by simp [kps]; omega) hlc) fun H18 hS20 => ?_
 simp (disch := omega) only [↓RA, RZ, simprocAttr, hn, a1B, q1]
 exact ⟨by rw [hE, if_neg (by rw [hD]; simp)], hS20.forget⟩
def kD : List (Int × Int) := [(8, 1), (4, 1), (16, 1), (8, 3), (2, 1), (8, 5)]
def kV : List (Int × Int) := [(8, 1), (4, 1), (16, 1), (2, 1), (8, 3), (8, 5), (4, 3), (1, 1), (32, 1), (16, 3), (16, 5), (32, 3), (8, 7), (2, 3), (1, 2), (64, 1)]
theorem a6v (k : Nat) : Fn prog 97 [.int .u8 k] H fun r H' => r = .agg #[I (gN kD (k % 6)).1, I (gN kD (k % 6)).2] ∧ St prog H H' [] := by
 refine .aS func97 rfl (by kernel_rfl) (m := 14) rfl fun l hn g0 => ?_
 simp (disch := omega) only [↓RA, RZ, simprocAttr]
 refine (sR H).eNew 2 [I 0, I 0] rfl rfl rfl yD fun A1 H1 hS1 => ?_
 simp only [RT] at hS1
 simp (disch := omega) only [↓RA, RB, simprocAttr, hn, sD]
 refine hS1.ai [I 8, I 1, I 4, I 1, I 16, I 1, I 8, I 3, I 2, I 1, I 8, I 5] b7U b8i rfl rfl (by simp [Value.cells]) rfl rfl (by decide) (by decide) fun w1 H2 hS2 => ?_
 simp only [RT] at hS2
 simp (disch := omega) only [↓RA, RZ, simprocAttr, hn, g0]
 have hR : St prog H H2 [⟨ptr A1 0 2, 0, _⟩, ⟨w1, 2, kD.flatMap kpc⟩] := hS2
 have hL : kD.length = 6 := rfl
 have hk : k % 6 < 6 := eG _ (by decide)
 have hk2 : (k : Int).tmod 6 = ((k % 6 : Nat) : Int) := (ed k 6).symm
 try rw [hk2]
 simp (disch := omega) only [↓RA, RZ, simprocAttr, hn, (hR.ay 1 rfl tI).idx, (hR.ay 1 rfl tI).aj, kpc]
 refine hR.aa 0 rfl [I (gN kD (k % 6 : Nat)).1, I (gN kD (k % 6 : Nat)).2] rfl rfl yD (by simp) fun H3 hS3 => ?_
 simp only [RT] at hS3
 simp (disch := omega) only [↓RA, RZ, simprocAttr, hn, c2L, hS3.aj 0 rfl]
 first | exact hS3.forget | exact ⟨rfl, hS3.forget⟩
theorem a5m (k : Nat) : Fn prog 96 [.int .u8 k] H fun r H' => r = .agg #[I (gN kV (k % 16)).1, I (gN kV (k % 16)).2] ∧ St prog H H' [] := by
 refine .aS func96 rfl (by kernel_rfl) (m := 24) rfl fun l hn g0 => ?_
 simp (disch := omega) only [↓RA, RZ, simprocAttr]
 refine (sR H).eNew 2 [I 0, I 0] rfl rfl rfl yD fun A1 H1 hS1 => ?_
 simp only [RT] at hS1
 simp (disch := omega) only [↓RA, RB, simprocAttr, hn, sD]
 refine hS1.ai [I 8, I 1, I 4, I 1, I 16, I 1, I 2, I 1, I 8, I 3, I 8, I 5, I 4, I 3, I 1, I 1, I 32, I 1, I 16, I 3, I 16, I 5, I 32, I 3, I 8, I 7, I 2, I 3, I 1, I 2, I 64, I 1] b7U b8i rfl rfl (by simp [Value.cells]) rfl rfl (by decide) (by decide) fun w1 H2 hS2 => ?_
 simp only [RT] at hS2
 simp (disch := omega) only [↓RA, RZ, simprocAttr, hn, g0]
 have hR : St prog H H2 [⟨ptr A1 0 2, 0, _⟩, ⟨w1, 2, kV.flatMap kpc⟩] := hS2
 have hL : kV.length = 16 := rfl
 have hk : k % 16 < 16 := eG _ (by decide)
 have hk2 : (k : Int).tmod 16 = ((k % 16 : Nat) : Int) := (ed k 16).symm
 try rw [hk2]
 simp (disch := omega) only [↓RA, RZ, simprocAttr, hn, (hR.ay 1 rfl tI).idx, (hR.ay 1 rfl tI).aj, kpc]
 refine hR.aa 0 rfl [I (gN kV (k % 16 : Nat)).1, I (gN kV (k % 16 : Nat)).2] rfl rfl yD (by simp) fun H3 hS3 => ?_
 simp only [RT] at hS3
 simp (disch := omega) only [↓RA, RZ, simprocAttr, hn, c3J, hS3.aj 0 rfl]
 first | exact hS3.forget | exact ⟨rfl, hS3.forget⟩
end Go.Ds
namespace Go.Ds
open Go.Proofs Go.Proofs.Tryz
variable {H : Heap}
set_option maxRecDepth 10000
structure RPl where
 tone : Nat
 feet : Nat
 first : Int
 pipes : Nat
 w0 : Nat
 w1 : Nat
 w2 : Nat
 w3 : Nat
 w4 : Nat
 deriving Inhabited
def RPl.cells (p : RPl) : List Value := [.int .u8 p.tone, .int .u8 p.feet, .int .i8 p.first, .int .u8 p.pipes, .int .u8 p.w0, .int .u8 p.w1, .int .u8 p.w2, .int .u8 p.w3, .int .u8 p.w4]
def RPl.Ok (p : RPl) : Prop := p.tone < 256 ∧ p.feet < 256 ∧ -128 ≤ p.first ∧ p.first < 128 ∧ p.pipes < 256 ∧ p.w0 < 256 ∧ p.w1 < 256 ∧ p.w2 < 256 ∧ p.w3 < 256 ∧ p.w4 < 256
def RPl.wind (p : RPl) (j : Nat) : Nat := gN [p.w0, p.w1, p.w2, p.w3, p.w4] (j % 5)
theorem RPl.Ok.wind {p : RPl} (hp : p.Ok) (j : Nat) : p.wind j < 256 := by
 obtain ⟨_, _, _, _, _, h0, h1, h2, h3, h4⟩ := hp
 have : j % 5 = 0 ∨ j % 5 = 1 ∨ j % 5 = 2 ∨ j % 5 = 3 ∨ j % 5 = 4 := by omega
 unfold RPl.wind
 rcases this with e | e | e | e | e <;> rw [e] <;> assumption
def rO : List ByteArray := [⟨#[79, 112, 101, 110]⟩, ⟨#[70, 108, 117, 116, 101]⟩, ⟨#[82, 101, 101, 100]⟩]
theorem b0n (p : RPl) (hp : p.Ok) (i : Nat) (hi : i < 10) : Fn prog 47 [.agg #[.int .u8 p.tone, .int .u8 p.feet, .int .i8 p.first, .int .u8 p.pipes, .int .u8 p.w0, .int .u8 p.w1, .int .u8 p.w2, .int .u8 p.w3, .int .u8 p.w4], I i] H fun r H' =>
 ∃ wv, r = .agg #[.string ⟨#[82, UInt8.ofNat (48 + i)]⟩, .string (gN rO (p.tone % 3)), I (gN kV (p.feet % 16)).1, I (gN kV (p.feet % 16)).2, I p.first, wv] ∧
   St prog H H' [⟨wv, 1, (List.range (1 + p.pipes % 25)).map fun j => I (p.wind j)⟩] := by
 have hwb := fun j => hp.wind j
 obtain ⟨h1, h2, h3, h4, h5, _⟩ := hp
 refine .aM func47 rfl (by kernel_rfl) (m := 48) rfl fun l hn g0 g1 => ?_
 have hm : (i : Int).tmod 10 = i := ((ed i 10).symm).trans (by rw [gG hi])
 have ht : (p.tone : Int).tmod 3 = ((p.tone % 3 : Nat) : Int) := (ed p.tone 3).symm
 have ht3 : p.tone % 3 < 3 := eG _ (by decide)
 have htl : rO.length = 3 := rfl
 simp (disch := omega) only [↓RA, RB, simprocAttr, g0]
 refine (sR H).eNew 9 [(.int .u8 p.tone), (.int .u8 p.feet), (.int .i8 p.first), (.int .u8 p.pipes), (.int .u8 p.w0), (.int .u8 p.w1), (.int .u8 p.w2), (.int .u8 p.w3), (.int .u8 p.w4)] rfl rfl rfl b2Q fun A1 H1 hS1 => ?_
 simp only [RT] at hS1
 simp (disch := omega) only [↓RA, RZ, simprocAttr]
 refine hS1.eNew 6 [(.string ⟨#[]⟩), (.string ⟨#[]⟩), I 0, I 0, I 0, (.slice none 0 0)] rfl rfl rfl vX fun A2 H2 hS2 => ?_
 simp only [RT] at hS2
 simp (disch := omega) only [↓RA, simprocAttr]
 refine Wp.cd jM [13, 14, 15, 16, 17, 18, 0, 1, 2, 3, 4, 5, 6, 7, 8, 9, 10, 11, 12, 19, 20, 21] [6, 7, 8, 9, 10, 11, 12, 13, 14, 15, 16, 17, 18, 0, 1, 2, 3, 4, 5, 19, 20, 21] ⟨true, [], [(11, 10), (17, 13), (18, 13)]⟩ [(4, 0), (5, 0), (9, 0), (15, 0), (15, 3)] (by kernel_rfl) (by kernel_rfl) (by kernel_rfl) ?_
 simp (disch := omega) only [↓RA, RZ, simprocAttr, hn, hS2.ld 0 rfl]
 refine hS2.cF (a5m p.feet) fun H3 hS3 => ?_
 simp (disch := omega) only [↓RA, RZ, simprocAttr, hn, g1, hS3.ld 0 rfl, hm]
 refine hS3.ai [_] a9b a9A rfl rfl (by simp [Value.cells]) rfl rfl (by decide) (by decide) fun w1 H4 hS4 => ?_
 simp only [RT] at hS4
 simp (disch := omega) only [↓RA, RB, simprocAttr, hn, tA (hS4.rd 2 rfl) mF.1 mF.2.1 mF.2.2, qT]
 refine hS4.ai [(.string ⟨#[79, 112, 101, 110]⟩), (.string ⟨#[70, 108, 117, 116, 101]⟩), (.string ⟨#[82, 101, 101, 100]⟩)] c2f c0I rfl rfl (by simp [Value.cells]) rfl rfl (by decide) (by decide) fun w2 H5 hS5 => ?_
 simp only [RT] at hS5
 simp (disch := omega) only [↓RA, RZ, simprocAttr, hn, hS5.ld 0 rfl, ht]
 have hR : St prog H H5 [⟨ptr A1 0 9, 0, _⟩, ⟨ptr A2 0 6, 0, _⟩, ⟨w1, 1, _⟩, ⟨w2, 1, rO.flatMap (one Value.string)⟩] := hS5
 simp (disch := omega) only [↓RA, RZ, simprocAttr, hn, (hR.ay 3 rfl (wF _)).idx, (hR.ay 3 rfl (wF _)).ld, one, a3W]
 refine hR.eNew 6 [(.string ⟨#[]⟩), (.string ⟨#[]⟩), I 0, I 0, I 0, (.slice none 0 0)] rfl rfl rfl vX fun A3 H6 hS6 => ?_
 simp only [RT] at hS6
 simp (disch := omega) only [↓RA, RB, simprocAttr, hn]
 refine hS6.aa 4 rfl [(.string ⟨#[82, UInt8.ofNat (48 + (i : Int)).toNat]⟩), (.string (gN rO (p.tone % 3 : Nat))), I (gN kV (p.feet % 16)).1, I (gN kV (p.feet % 16)).2, _, (.slice none 0 0)] rfl rfl vX (by simp) fun H7 hS7 => ?_
 simp only [RT] at hS7
 simp (disch := omega) only [↓RA, RZ, simprocAttr, hn, hS2.ld 0 rfl, hS3.ld 0 rfl]
 have hN : St prog H H7 [⟨ptr A1 0 9, 0, _⟩, ⟨ptr A2 0 6, 0, _⟩, ⟨ptr A3 0 6, 0, [.string ⟨#[82, UInt8.ofNat (48 + (i : Int)).toNat]⟩, .string (gN rO (p.tone % 3)), I (gN kV (p.feet % 16)).1, I (gN kV (p.feet % 16)).2, I p.first, .slice none 0 0]⟩, ⟨.slice none 0 0, 1, []⟩] := (hS7.nil 0).pick [0, 1, 4, 5] (by decide) rfl
 refine Wp.al (fun n l H' => l.length = 48 ∧ get l 2 = (ptr A1 0 9) ∧ get l 4 = (ptr A2 0 6) ∧ get l 5 = (ptr A3 0 6) ∧ ∃ (j : Nat) (wv : Value), (n + j = 1 + p.pipes % 25) ∧ get l 6 = I j ∧ St prog H H' [⟨ptr A1 0 9, 0, [(.int .u8 p.tone), (.int .u8 p.feet), (.int .i8 p.first), (.int .u8 p.pipes), (.int .u8 p.w0), (.int .u8 p.w1), (.int .u8 p.w2), (.int .u8 p.w3), (.int .u8 p.w4)]⟩, ⟨ptr A2 0 6, 0, [(.string ⟨#[]⟩), (.string ⟨#[]⟩), I 0, I 0, I 0, (.slice none 0 0)]⟩, ⟨ptr A3 0 6, 0, [.string ⟨#[82, UInt8.ofNat (48 + (i : Int)).toNat]⟩, .string (gN rO (p.tone % 3)), I (gN kV (p.feet % 16)).1, I (gN kV (p.feet % 16)).2, I p.first, wv]⟩, ⟨wv, 1, (List.range j).map fun q => I (p.wind q)⟩]) (1 + p.pipes % 25) ?_ ?_
 ·simp (disch := omega) only [RB, RC, simprocAttr, hn]
  exact ⟨0, _, by omega, rfl, hN⟩
 rintro n l H8 ⟨hn, g2, g4, g5, j, wv, hj, g6, hS8⟩
 have hpp : (p.pipes : Int).tmod 25 = ((p.pipes % 25 : Nat) : Int) := (ed p.pipes 25).symm
 have hj5 : (j : Int).tmod 5 = ((j % 5 : Nat) : Int) := (ed j 5).symm
 have hw : (p.cells)[4 + j % 5]? = some (.int .u8 (p.wind j)) := by
  have : j % 5 = 0 ∨ j % 5 = 1 ∨ j % 5 = 2 ∨ j % 5 = 3 ∨ j % 5 = 4 := by omega
  unfold RPl.wind
  rcases this with e | e | e | e | e <;> rw [e] <;> rfl
 simp only [RPl.cells] at hw
 have hwj := hwb j
 simp (disch := omega) only [↓RA, RZ, simprocAttr, hn, g2, g6, hS8.ld 0 rfl, hpp]
 refine gM (fun q => ?_) (fun q => ?_)
 ·simp (disch := omega) only [↓RA, RC, simprocAttr, q]
  refine Wp.aU jM [(1, 9)] (by kernel_rfl) (by kernel_rfl) ?_
  simp (disch := omega) only [↓RA, RZ, simprocAttr, hn, g2, g5, g6, hS8.ld 2 rfl, hS8.ld 0 rfl, hw, hj5]
  refine hS8.ai [_] a3l a7R rfl rfl (by simp [Value.cells]) rfl rfl (by decide) (by decide) fun w3 H9 hS9 => ?_
  simp only [RT] at hS9
  simp (disch := omega) only [↓RA, RZ, simprocAttr, hn]
  refine hS9.ar 3 rfl (hS9.rd 4 rfl) a3l (by first | (simp; done) | (simp; omega)) fun w4 H10 hS10 => ?_
  simp only [RT] at hS10
  simp (disch := omega) only [↓RA, RZ, simprocAttr, hn, g5]
  refine hS10.aa 2 rfl [w4] (by rw [(hS10.rd 3 rfl).cells.1]) (by simp [(hS10.rd 3 rfl).cells.2.1]) b5F (by simp) fun H11 hS11 => ?_
  simp only [RT] at hS11
  simp (disch := omega) only [↓RA, RZ, simprocAttr, hn, g2, g4, g5, g6, hS9.ld 2 rfl]
  refine ⟨n - 1, by omega, j + 1, w4, by omega, rfl, ?_⟩
  rw [eZ, dT]
  exact hS11.pick [0, 1, 2, 3] (by decide) rfl
 simp (disch := omega) only [↓RA, RZ, simprocAttr, hn, g4, g5, hS8.aj 2 rfl, q]
 refine hS8.aa 1 rfl [(.string ⟨#[82, UInt8.ofNat (48 + (i : Int)).toNat]⟩), (.string (gN rO (p.tone % 3))), I (gN kV (p.feet % 16)).1, I (gN kV (p.feet % 16)).2, I p.first, wv] rfl (by simp [OC, (hS8.rd 3 rfl).cells.2.1]) vX (by simp) fun H12 hS12 => ?_
 simp only [RT] at hS12
 simp (disch := omega) only [↓RA, RZ, simprocAttr, g4, c3H, hS12.aj 1 rfl, q]
 have hjj : j = 1 + p.pipes % 25 := by omega
 subst hjj
 have he : (48 + (i : Int)).toNat = 48 + i := by omega
 exact ⟨wv, by rw [he], hS12.pick [3] (by decide) rfl⟩
end Go.Ds
namespace Go.Ds
open Go.Proofs
variable {P : Program} {H : Heap} {α : Type} {n : Nat} {cel : α → List Value} {v : Value} {xs : List α} {X Y : Nat → Prop}
theorem RdAt.lt {size : Nat} {cs : List Value} (h : RdAt H v size cs) {B : Nat} (hb : jV v = some B) : B < H.length := by
 rcases h with ⟨h1, _⟩ | ⟨A, i, e, row, ty, rw, lo, ver, n, h, _, _, _, _, _, h7⟩
 ·rw [h1] at hb; simp [jV] at hb
 ·rw [h7] at hb
  simp [jV] at hb
  exact hb ▸ iR h
theorem RdAt.cC {H' : Heap} {size : Nat} {cs : List Value} (h : RdAt H v size cs) (hk : ∀ B, jV v = some B → hK H' B = hK H B) : RdAt H' v size cs := by
 rcases h with h | ⟨A, i, e, row, ty, rw, lo, ver, n, h, h2, h3, h4, h5, h6, h7⟩
 ·exact .inl h
 ·exact .inr ⟨A, i, e, row, ty, rw, lo, ver, n, by rw [hk A (by rw [h7]; rfl), h], h2, h3, h4, h5, h6, h7⟩
theorem St.aB {B0 : Base} {os : List Ob} (hS : St P B0 H os) : ∃ B : Base, B = ⟨H, pZ os⟩ ∧ St P B H os := ⟨_, rfl, hS.aL⟩
theorem St.ag {B0 B : Base} {H1 : Heap} {os os1 : List Ob} (hS : St P B0 H os) (hB : B = ⟨H, pZ os⟩) (h1 : St P B H1 os1) : St P B0 H1 os1 := by
 subst hB
 exact hS.bp h1
def Slx (n : Nat) (cel : α → List Value) (H : Heap) (X : Nat → Prop) (v : Value) (xs : List α) : Prop := Sl n cel H v xs ∧ ∀ B, jV v = some B → X B
def Kept (H : Heap) (X : Nat → Prop) (H' : Heap) (Y : Nat → Prop) : Prop := ∀ B, X B → B < H.length → hK H' B = hK H B ∧ Y B
theorem Slx.step {H' : Heap} (h : Slx n cel H X v xs) (hk : Kept H X H' Y) : Slx n cel H' Y v xs :=
 ⟨⟨h.1.rd.cC fun B hb => (hk B (h.2 B hb) (h.1.rd.lt hb)).1, h.1.hc, h.1.pos⟩, fun B hb => (hk B (h.2 B hb) (h.1.rd.lt hb)).2⟩
def nb (vs : List Value) : Nat → Prop := fun B => ∀ v ∈ vs, jV v ≠ some B
theorem a7G (os : List Ob) (B : Nat) : nb (os.map (·.v)) B ↔ ¬ pZ os B := by
 unfold nb pZ
 constructor
 ·rintro h ⟨o, ho, hb⟩
  exact h o.v (fy ho) hb
 ·intro h v hv hb
  obtain ⟨o, ho, rfl⟩ := dx.1 hv
  exact h ⟨o, ho, hb⟩
theorem St.kept {B : Base} {H' : Heap} {os os' : List Ob} (hS : St P B H' os') (hB : B = ⟨H, pZ os⟩) : Kept H (nb (os.map (·.v))) H' (nb (os'.map (·.v))) := by
 subst hB
 intro B hX hB
 rw [a7G] at hX ⊢
 exact ⟨hS.old B hB hX, fun ⟨o, ho, hb⟩ => by
  rcases hS.new o ho B hb with h | h
  ·have h : H.length ≤ B := h
   omega
  ·exact hX h⟩
theorem St.aV {H0 : Base} {H' : Heap} {os : List Ob} (hS : St P H0 H os) : Kept H' (fun B => H.length ≤ B) H' (nb (os.map (·.v))) := by
 intro B hX hB
 rw [a7G]
 exact ⟨rfl, fun ⟨o, ho, hb⟩ => by
  have := (hS.own o ho).lt hb
  omega⟩
theorem Kept.trans {H' H'' : Heap} {X Y Z : Nat → Prop} (h : Kept H X H' Y) (h' : Kept H' Y H'' Z) (hl : H.length ≤ H'.length) : Kept H X H'' Z :=
 fun B hX hB => by
  obtain ⟨e, hY⟩ := h B hX hB
  obtain ⟨e', hZ⟩ := h' B hY (dB hB hl)
  exact ⟨e'.trans e, hZ⟩
theorem Slx.any (h : Slx n cel H X v xs) : Slx n cel H (fun _ => True) v xs := ⟨h.1, fun _ _ => trivial⟩
theorem St.cN {H0 : Base} {os os' : List Ob} (hS : St P H0 H os) (i : Nat) {m : Nat} (ho : os[i]? = some ⟨v, m + 1, xs.flatMap cel⟩) (hc : ∀ x, (cel x).length = m + 1) (idx : List Nat) (hi : i ∉ idx) (h : idx.map (os[·]?) = os'.map some) :
 Slx (m + 1) cel H (nb (os'.map (·.v))) v xs := by
 refine ⟨hS.ay i ho hc, fun B hb => ?_⟩
 rw [a7G]
 rintro ⟨o, hmem, hob⟩
 have : some o ∈ idx.map (os[·]?) := by rw [h]; exact fy hmem
 obtain ⟨j, hj, hj2⟩ := dx.1 this
 have hne : i ≠ j := fun e => hi (e ▸ hj)
 have hpw := dS.1 hS.sep
 obtain ⟨hi1, ei⟩ := dc.1 ho
 obtain ⟨hj1, ej⟩ := dc.1 hj2
 rcases fB hne with hh | hh
 ·have := hpw i j hi1 hj1 hh B (by rw [ei]; exact hb)
  rw [ej] at this
  exact this hob
 ·have := hpw j i hj1 hi1 hh B (by rw [ej]; exact hob)
  rw [ei] at this
  exact this hb
theorem St.cg {H0 : Heap} {os : List Ob} (hS : St P H0 H os) (i : Nat) {m : Nat} (ho : os[i]? = some ⟨v, m + 1, xs.flatMap cel⟩) (hc : ∀ x, (cel x).length = m + 1) : Slx (m + 1) cel H (fun B => H0.length ≤ B) v xs :=
 ⟨hS.ay i ho hc, fun B hb => by
  rcases hS.new _ (dA ho) B hb with h | h
  ·exact h
  ·exact h.elim⟩
def Seg.Ix (H : Heap) (X : Nat → Prop) (s : Seg) : Prop := Slx 2 Drw.cells H X s.dv s.draws ∧ s.draws.length < 1000000000
def Stp.Ix (H : Heap) (X : Nat → Prop) (s : Stp) : Prop := Slx 3 Seg.cells H X s.gv s.segs ∧ (∀ g ∈ s.segs, g.Ix H X) ∧ s.segs.length < 1000000000
def Dvn.Ix (H : Heap) (X : Nat → Prop) (d : Dvn) : Prop := Slx 4 Stp.cells H X d.sv d.stops ∧ (∀ s ∈ d.stops, s.Ix H X) ∧ d.stops.length < 1000000000
def Rk.Ix (H : Heap) (X : Nat → Prop) (r : Rk) : Prop := Slx 1 (one I) H X r.wv r.wind ∧ r.wind.length < 1000000000
section
variable {H' : Heap}
theorem Seg.Ix.step {s : Seg} (h : s.Ix H X) (hk : Kept H X H' Y) : s.Ix H' Y := ⟨h.1.step hk, h.2⟩
theorem Stp.Ix.step {s : Stp} (h : s.Ix H X) (hk : Kept H X H' Y) : s.Ix H' Y := ⟨h.1.step hk, fun g hg => (h.2.1 g hg).step hk, h.2.2⟩
theorem Dvn.Ix.step {d : Dvn} (h : d.Ix H X) (hk : Kept H X H' Y) : d.Ix H' Y := ⟨h.1.step hk, fun g hg => (h.2.1 g hg).step hk, h.2.2⟩
theorem Rk.Ix.step {r : Rk} (h : r.Ix H X) (hk : Kept H X H' Y) : r.Ix H' Y := ⟨h.1.step hk, h.2⟩
theorem Seg.Ix.in {s : Seg} (h : s.Ix H X) : s.In H := ⟨h.1.1, h.2⟩
theorem Stp.Ix.in {s : Stp} (h : s.Ix H X) : s.In H := ⟨h.1.1, fun g hg => (h.2.1 g hg).in, h.2.2⟩
theorem Dvn.Ix.in {d : Dvn} (h : d.Ix H X) : d.In H := ⟨h.1.1, fun g hg => (h.2.1 g hg).in, h.2.2⟩
theorem Rk.Ix.in {r : Rk} (h : r.Ix H X) : r.In H := ⟨h.1.1, h.2⟩
end
theorem wC {α : Type} (f : α → Value) (l : List α) : l.flatMap (one f) = l.map f := by
 induction l with
 | nil => rfl
 | cons a l ih => rw [dG, ih]; rfl
end Go.Ds
namespace Go.Ds
open Go.Proofs
theorem a8q (m : Nat) (n s : Int) (h0 : 0 ≤ n) (h1 : n < m) (h2 : -127 ≤ s) (h3 : s ≤ 127) : kL m [⟨n, s⟩] = 0 := by
 rw [kL, if_neg (by simp)]
 refine jP _ _ fun j hj => ?_
 have hj0 : j = 0 := by simpa using hj
 subst hj0
 have e : gN ([⟨n, s⟩] : List Drw) 0 = ⟨n, s⟩ := rfl
 unfold jS
 rw [e, if_neg (by simp only; omega), if_neg (by simp only; omega), if_neg (by simp)]
theorem b9s (m : Nat) (n s t : Int) (h0 : 0 ≤ n) (h1 : n < m) (h2 : -127 ≤ s) (h3 : s ≤ 127) (h4 : -127 ≤ t) (h5 : t ≤ 127) (hne : s ≠ t) : kL m [⟨n, s⟩, ⟨n, t⟩] = 0 := by
 rw [kL, if_neg (by simp)]
 refine jP _ _ fun j hj => ?_
 have hj0 : j = 0 ∨ j = 1 := by
  have : j < 2 := by simpa using hj
  omega
 rcases hj0 with rfl | rfl
 ·have e : gN ([⟨n, s⟩, ⟨n, t⟩] : List Drw) 0 = ⟨n, s⟩ := rfl
  unfold jS
  rw [e, if_neg (by simp only; omega), if_neg (by simp only; omega), if_neg (by simp)]
 ·have e : gN ([⟨n, s⟩, ⟨n, t⟩] : List Drw) 1 = ⟨n, t⟩ := rfl
  unfold jS
  rw [e, if_neg (by simp only; omega), if_neg (by simp only; omega), if_neg (by simp [eH hne])]
theorem a5h (lo hi a b : Int) (m : Nat) (dv : Value) (ds : List Drw) (h1 : lo ≤ a) (h2 : a ≤ b) (h3 : b ≤ hi) (hd : kL m ds = 0) : kO (kE lo hi m [⟨a, b, dv, ds⟩]) 1 = 0 := by
 refine jP _ _ fun j hj => ?_
 have hj0 : j = 0 := by omega
 subst hj0
 have e : gN ([⟨a, b, dv, ds⟩] : List Seg) 0 = ⟨a, b, dv, ds⟩ := rfl
 unfold kE
 rw [e, if_neg (by simp only; omega), if_neg (by simp only; omega)]
 exact hd
theorem b7P (lo hi c : Int) (m : Nat) (dv dv' : Value) (ds ds' : List Drw) (h1 : lo < c) (h2 : c ≤ hi) (hd : kL m ds = 0) (hd' : kL m ds' = 0) : kO (kE lo hi m [⟨lo, c - 1, dv, ds⟩, ⟨c, hi, dv', ds'⟩]) 2 = 0 := by
 refine jP _ _ fun j hj => ?_
 have e0 : gN ([⟨lo, c - 1, dv, ds⟩, ⟨c, hi, dv', ds'⟩] : List Seg) 0 = ⟨lo, c - 1, dv, ds⟩ := rfl
 have e1 : gN ([⟨lo, c - 1, dv, ds⟩, ⟨c, hi, dv', ds'⟩] : List Seg) 1 = ⟨c, hi, dv', ds'⟩ := rfl
 have hj0 : j = 0 ∨ j = 1 := by omega
 rcases hj0 with rfl | rfl
 ·unfold kE
  rw [e0, if_neg (by simp only; omega), if_neg (by simp only; omega)]
  exact hd
 ·unfold kE
  rw [e1, show (1 : Nat) - 1 = 0 from rfl, e0, if_neg (by simp only; omega), if_neg (by simp only; omega)]
  exact hd'
def nm (c : UInt8) (i : Nat) : ByteArray := ⟨#[c, UInt8.ofNat (48 + i)]⟩
theorem a3N {c : UInt8} {i j : Nat} (hi : i < 10) (hj : j < 10) (h : nm c i = nm c j) : i = j := by
 unfold nm at h
 have h2 : (#[c, UInt8.ofNat (48 + i)] : Array UInt8) = #[c, UInt8.ofNat (48 + j)] := congrArg ByteArray.data h
 have h3 : UInt8.ofNat (48 + i) = UInt8.ofNat (48 + j) := by simpa using h2
 have h4 := congrArg UInt8.toNat h3
 simp only [UInt8.toNat_ofNat'] at h4
 omega
theorem zY {c : UInt8} (hc : c = 82 ∨ c = 68 ∨ c = 83 ∨ c = 67) {i : Nat} (hi : i < 10) : kA (nm c i) = true := by
 have h : i = 0 ∨ i = 1 ∨ i = 2 ∨ i = 3 ∨ i = 4 ∨ i = 5 ∨ i = 6 ∨ i = 7 ∨ i = 8 ∨ i = 9 := by omega
 rcases hc with rfl | rfl | rfl | rfl <;> rcases h with rfl | rfl | rfl | rfl | rfl | rfl | rfl | rfl | rfl | rfl <;> decide
structure StpOk (m : Nat) (lo hi : Int) (i : Nat) (s : Stp) : Prop where
 name : s.name = nm 83 i
 feet : (s.num, s.den) ∈ kD
 pos : 0 < s.segs.length
 len : s.segs.length ≤ 2
 segs : kO (kE lo hi m s.segs) s.segs.length = 0
theorem b3x {p : Int × Int} (h : p ∈ kD) : lZ p.1 p.2 = 0 := by
 have : kD.all (fun p => decide (lZ p.1 p.2 = 0)) = true := by decide
 exact of_decide_eq_true (dg.1 this p h)
theorem b1S {p : Int × Int} (h : p ∈ kV) : lZ p.1 p.2 = 0 := by
 have : kV.all (fun p => decide (lZ p.1 p.2 = 0)) = true := by decide
 exact of_decide_eq_true (dg.1 this p h)
theorem StpOk.stopE {rs : List Rk} {lo hi : Int} {i : Nat} {s : Stp} (h : StpOk rs.length lo hi i s) (hi10 : i < 10) (hp : qM rs lo hi = 0) : stopE rs lo hi s = 0 := by
 unfold Go.Ds.stopE
 rw [if_neg (by rw [hp]; simp), if_neg (by rw [h.name, zY (by simp) hi10]; simp), if_neg (by rw [b3x h.feet]; simp), if_neg (by have := h.pos; omega), if_neg (by have := h.len; omega)]
 exact h.segs
structure RkOk (i : Nat) (r : Rk) : Prop where
 name : r.name = nm 82 i
 tone : r.tone ∈ rO
 feet : (r.num, r.den) ∈ kV
 first : -128 ≤ r.first ∧ r.first < 128
 pos : 0 < r.wind.length
 len : r.wind.length ≤ 25
 wind : ∀ x ∈ r.wind, 0 ≤ x ∧ x < 256
theorem b3D {s : ByteArray} (h : s ∈ rO) : kA s = true := by
 have : rO.all (fun s => kA s) = true := by decide
 exact dg.1 this s h
theorem RkOk.rankE {i : Nat} {r : Rk} (h : RkOk i r) (hi : i < 10) : rankE r = 0 := by
 have hf := h.first
 have hp := h.pos
 have hl := h.len
 have hw : xR r.wind = 0 := by
  unfold xR
  rw [if_neg]
  intro hh
  rw [fZ] at hh
  obtain ⟨x, hx, hp⟩ := hh
  have := h.wind x hx
  simp only [dQ, decide_eq_true_eq] at hp
  omega
 unfold Go.Ds.rankE
 rw [if_neg (by rw [h.name, zY (by simp) hi, b3D h.tone]; simp), if_neg (by rw [b1S h.feet]; simp), if_neg (by omega), if_neg (by omega), if_neg (by omega), hw]
theorem a1k {lo hi : Int} (h0 : 0 ≤ lo) (h1 : lo ≤ hi) (h2 : hi ≤ 127) : pI lo hi = 0 := by
 unfold pI
 rw [if_neg (by omega), if_neg (by omega)]
theorem b9b {rs : List Rk} {lo hi : Int} (hl : rs.length ≤ 3) (hr : ∀ j, j < rs.length → RkOk j (gN rs j)) (h0 : 0 ≤ lo) (h1 : lo ≤ hi) (h2 : hi ≤ 127) : qM rs lo hi = 0 := by
 have e := jP (fun j => Go.Ds.rankE (gN rs j)) rs.length fun j hj => (hr j hj).rankE (by omega)
 unfold qM
 rw [if_neg (by omega), if_neg (by rw [e]; simp)]
 exact a1k h0 h1 h2
structure DvOk (m i : Nat) (d : Dvn) : Prop where
 name : d.name = nm 68 i
 lo : 36 ≤ d.lo
 le : d.lo ≤ d.hi
 hi : d.hi ≤ 60
 wide : d.hi ≤ d.lo + 8
 len : d.stops.length ≤ 3
 stops : ∀ k, k < d.stops.length → StpOk m d.lo d.hi k (gN d.stops k)
structure CpOk (n i : Nat) (c : Cpl) : Prop where
 name : c.name = nm 67 i
 src : 0 ≤ c.src ∧ c.src < n
 dst : 0 ≤ c.dst ∧ c.dst < n
 shift : -24 ≤ c.shift ∧ c.shift ≤ 24
 ne : ¬ (c.src = c.dst ∧ c.shift = 0)
def b4x : ByteArray := ⟨#[79, 114, 103, 97, 110]⟩
structure OrgOk (o : Org) : Prop where
 name : o.name = b4x
 rpos : 0 < o.ranks.length
 rlen : o.ranks.length ≤ 3
 ranks : ∀ j, j < o.ranks.length → RkOk j (gN o.ranks j)
 dpos : 0 < o.dvs.length
 dlen : o.dvs.length ≤ 3
 dvs : ∀ j, j < o.dvs.length → DvOk o.ranks.length j (gN o.dvs j)
 clen : o.cpls.length ≤ 3
 cpls : ∀ j, j < o.cpls.length → CpOk o.dvs.length j (gN o.cpls j)
theorem b0A : kA b4x = true := by decide
theorem DvOk.divE {rs : List Rk} {i : Nat} {d : Dvn} (h : DvOk rs.length i d) (hl : rs.length ≤ 3) (hr : ∀ j, j < rs.length → RkOk j (gN rs j)) : divE rs d = 0 := by
 have h1 := h.lo
 have h2 := h.le
 have h3 := h.hi
 have h4 := h.len
 unfold Go.Ds.divE
 rw [if_neg (by rw [a1k (by omega) h2 (by omega)]; simp), if_neg (by omega)]
 refine jP _ _ fun j hj => ?_
 have hs := h.stops j hj
 unfold nI
 rw [if_neg (by rw [hs.stopE (by omega) (b9b hl hr (by omega) h2 (by omega))]; simp), if_neg]
 rintro ⟨q, hq, e⟩
 rw [hs.name, (h.stops q (by omega)).name] at e
 have := a3N (by omega) (by omega) e
 omega
theorem OrgOk.organE {o : Org} (h : OrgOk o) : organE o = 0 := by
 have h1 := h.rpos
 have h2 := h.rlen
 have h3 := h.dpos
 have h4 := h.dlen
 have h5 := h.clen
 have e1 : kO (mO o.ranks) o.ranks.length = 0 := jP _ _ fun j hj => by
  unfold mO
  rw [if_neg (by rw [(h.ranks j hj).rankE (by omega)]; simp), if_neg]
  rintro ⟨q, hq, e⟩
  rw [(h.ranks j hj).name, (h.ranks q (by omega)).name] at e
  have := a3N (by omega) (by omega) e
  omega
 have e2 : kO (rS o.ranks o.dvs) o.dvs.length = 0 := jP _ _ fun j hj => by
  unfold rS
  rw [if_neg (by rw [(h.dvs j hj).name, zY (by simp) (by omega)]; simp), if_neg]
  ·exact (h.dvs j hj).divE h2 h.ranks
  rintro ⟨q, hq, e⟩
  rw [(h.dvs j hj).name, (h.dvs q (by omega)).name] at e
  have := a3N (by omega) (by omega) e
  omega
 have e3 : rI (kps o.dvs) o.cpls = 0 := by
  have hk : (kps o.dvs).length = o.dvs.length := by simp [kps]
  unfold rI
  rw [if_neg (by omega), if_neg]
  ·refine jP _ _ fun j hj => ?_
   have hc := h.cpls j hj
   have c1 := hc.src
   have c2 := hc.dst
   have c3 := hc.shift
   unfold lN
   simp only
   rw [if_neg (by rw [hc.name, zY (by simp) (by omega)]; simp), if_neg, if_neg (by rw [hk]; omega), if_neg (by omega), if_neg hc.ne]
   rintro ⟨q, hq, e⟩
   rw [hc.name, (h.cpls q (by omega)).name] at e
   have := a3N (by omega) (by omega) e
   omega
  ·rintro ⟨k, hk, hne⟩
   unfold kps at hk
   obtain ⟨d, hd, rfl⟩ := dx.1 hk
   obtain ⟨j, hj, rfl⟩ := dI.1 hd
   have hd := h.dvs j hj
   rw [jJ o.dvs j hj] at hd
   have h1 := hd.lo
   have h2 := hd.le
   have h3 := hd.hi
   exact hne (a1k (by omega) h2 (by omega))
 unfold Go.Ds.organE
 rw [if_neg (by rw [h.name, b0A]; simp), if_neg (by omega), if_neg (by rw [e1]; simp), if_neg (by omega), if_neg (by omega), if_neg (by rw [e2]; simp)]
 exact e3
def jK (x : Int × Int) : List Value := [I x.1, I x.2]
def pr (l : List (Int × Int)) : List Value := l.flatMap jK
theorem jT (x : Int × Int) : (jK x).length = 2 := rfl
theorem gT (l : List (Int × Int)) : (pr l).length = l.length * 2 := iK jT l
def le2 (x y : Int × Int) : Bool := decide (x.1 < y.1) || (decide (x.1 = y.1) && decide (x.2 ≤ y.2))
theorem nD (x y : Int × Int) : le2 x y = true ↔ x.1 < y.1 ∨ (x.1 = y.1 ∧ x.2 ≤ y.2) := by
 unfold le2
 simp only [dQ, cT, decide_eq_true_eq]
def tQ (es : List (Int × Int)) : List (Int × Int) := es.mergeSort le2
theorem nY (es : List (Int × Int)) : (tQ es).Perm es := List.mergeSort_perm _ _
theorem nO (es : List (Int × Int)) : (tQ es).length = es.length := (nY es).length_eq
theorem a1u (es : List (Int × Int)) : (tQ es).Pairwise fun a b => le2 a b = true := by
 unfold tQ
 refine List.pairwise_mergeSort ?_ ?_ _
 ·intro a b c h1 h2
  rw [nD] at *
  omega
 ·intro a b
  rw [dQ, nD, nD]
  omega
def cf2 (x y : Int × Int) : Int := if x.1 < y.1 then -1 else if y.1 < x.1 then 1 else if x.2 < y.2 then -1 else if y.2 < x.2 then 1 else 0
def wN {α : Type} [Inhabited α] [DecidableEq α] (es : List α) (m : Nat) : List α := ((List.range m).filter fun i => decide (i = 0 ∨ gN es i ≠ gN es (i - 1))).map fun i => gN es i
def dd {α : Type} [Inhabited α] [DecidableEq α] (es : List α) : List α := wN es es.length
section
variable {α : Type} [Inhabited α] [DecidableEq α]
theorem qB (es : List α) (m : Nat) : wN es (m + 1) = wN es m ++ (if m = 0 ∨ gN es m ≠ gN es (m - 1) then [gN es m] else []) := by
 unfold wN
 rw [eZ, eP, dT]
 congr 1
 by_cases h : m = 0 ∨ gN es m ≠ gN es (m - 1)
 ·rw [if_pos h]
  simp only [List.filter_cons, List.filter_nil, decide_eq_true h, if_true, dO, fN]
 ·rw [if_neg h]
  simp only [List.filter_cons, List.filter_nil, decide_eq_false h, dH, if_false, fN]
theorem b8G (es : List α) (m : Nat) : (wN es m).length ≤ m := by
 unfold wN
 rw [dZ]
 refine dq (dW _ _) ?_
 simp
theorem lE (es : List α) (m : Nat) (h : m < es.length) : es.take (m + 1) = es.take m ++ [gN es m] := by
 rw [jJ es m h, List.take_succ_eq_append_getElem h]
theorem qV (es : List α) : ∀ m, m ≤ es.length → (∀ j, 0 < j → j < m → gN es j ≠ gN es (j - 1)) → wN es m = es.take m
 | 0, _, _ => by simp [wN]
 | m + 1, hm, h => by
   have ih := qV es m (by omega) fun j h1 h2 => h j h1 (by omega)
   rw [qB, ih, lE es m (by omega), if_pos]
   by_cases h0 : m = 0
   ·exact .inl h0
   ·exact .inr (h m (by omega) (by omega))
end
theorem a0i {v : Value} {n lo k b : Nat} (h : jV (lX v n lo k) = some b) : jV v = some b := by
 unfold lX at h
 split at h <;> exact h
theorem jI (a b : List (Int × Int)) : pr (a ++ b) = pr a ++ pr b := dY
structure Reg where
 stops : List Nat
 cpl : Nat
 off : Nat
 deriving Inhabited, DecidableEq
def u64 (n : Nat) : Value := .int .u64 n
def Reg.cells (r : Reg) (sv : Value) : List Value := [sv, u64 r.cpl, u64 r.off]
def Reg.Ok (r : Reg) : Prop := r.stops.length < 1000000000 ∧ (∀ x ∈ r.stops, x < 18446744073709551616) ∧ r.cpl < 18446744073709551616 ∧ r.off < 18446744073709551616
def Reg.In (H : Heap) (r : Reg) (sv : Value) : Prop := Sl 1 (one u64) H sv r.stops ∧ r.Ok
theorem Reg.In.ae {P : Program} {H H0 : Heap} {os : List Ob} {r : Reg} {sv : Value} (h : r.In H0 sv) (hS : St P H0 H os) : r.In H sv := ⟨hS.sl h.1, h.2⟩
abbrev Ct := Int × Int
abbrev tR (n : Int) : Int := IntKind.wrap .i64 n
def pX (o : Org) (c : Ct) : Bool := decide (0 ≤ c.1) && decide (c.1 < o.dvs.length) && decide ((gN o.dvs c.1.toNat).lo ≤ c.2) && decide (c.2 ≤ (gN o.dvs c.1.toNat).hi)
def a1g (o : Org) (c : Ct) : Int := if c.1 < 0 ∨ o.dvs.length ≤ c.1 then 10 else if c.2 < (gN o.dvs c.1.toNat).lo ∨ (gN o.dvs c.1.toNat).hi < c.2 then 23 else 0
theorem vL (o : Org) (c : Ct) : a1g o c = 0 ↔ pX o c = true := by
 unfold a1g pX
 by_cases h1 : c.1 < 0 ∨ o.dvs.length ≤ c.1
 ·rw [if_pos h1]
  simp
  omega
 ·rw [if_neg h1]
  by_cases h2 : c.2 < (gN o.dvs c.1.toNat).lo ∨ (gN o.dvs c.1.toNat).hi < c.2
  ·rw [if_pos h2]
   simp
   omega
  ·rw [if_neg h2]
   simp
   omega
def to1 (x : Cpl) (c : Ct) : Ct := (x.dst, tR (c.2 + x.shift))
def zK (cp : Nat) (thr : Bool) (c : Ct) (x : Cpl) (i : Nat) : Bool := cp.testBit i && decide (x.src = c.1) && (!thr || x.thr)
def step1 (o : Org) (cp : Nat) (thr : Bool) (c : Ct) (q : List Ct) (i : Nat) : List Ct :=
 if zK cp thr c (gN o.cpls i) i && pX o (to1 (gN o.cpls i) c) && !decide (to1 (gN o.cpls i) c ∈ q) then q ++ [to1 (gN o.cpls i) c] else q
def stepN (o : Org) (cp : Nat) (thr : Bool) (c : Ct) (q : List Ct) (n : Nat) : List Ct := (List.range n).foldl (step1 o cp thr c) q
def stepF (o : Org) (cp : Nat) (thr : Bool) (c : Ct) (q : List Ct) : List Ct := stepN o cp thr c q o.cpls.length
theorem mK (o : Org) (cp : Nat) (thr : Bool) (c : Ct) (q : List Ct) (n : Nat) : stepN o cp thr c q (n + 1) = step1 o cp thr c (stepN o cp thr c q n) n := by
 unfold stepN
 rw [eZ, gC]
 rfl
def Que (o : Org) (q : List Ct) : Prop := q.Nodup ∧ ∀ c ∈ q, pX o c = true
theorem Que.nil (o : Org) : Que o [] := ⟨.nil, by simp⟩
theorem Que.step1 {o : Org} {q : List Ct} (h : Que o q) (cp : Nat) (thr : Bool) (c : Ct) (i : Nat) : Que o (step1 o cp thr c q i) := by
 unfold Go.Ds.step1
 split
 ·rename_i hh
  simp only [cT, du, decide_eq_false_iff_not] at hh
  refine ⟨?_, ?_⟩
  ·rw [List.nodup_append]
   exact ⟨h.1, by simp, fun a ha b hb e => hh.2 (by simp at hb; rw [← hb, ← e]; exact ha)⟩
  ·intro x hx
   rcases dE.1 hx with hx | hx
   ·exact h.2 x hx
   ·simp at hx
    rw [hx]
    exact hh.1.2
 ·exact h
theorem Que.stepN {o : Org} {q : List Ct} (h : Que o q) (cp : Nat) (thr : Bool) (c : Ct) : ∀ n, Que o (stepN o cp thr c q n)
 | 0 => h
 | n + 1 => by rw [mK]; exact (h.stepN cp thr c n).step1 cp thr c n
theorem Que.stepF {o : Org} {q : List Ct} (h : Que o q) (cp : Nat) (thr : Bool) (c : Ct) : Que o (stepF o cp thr c q) := h.stepN cp thr c _
theorem a5D : ∀ (N : Nat) (l : List Nat), l.Nodup → (∀ i ∈ l, i < N) → l.length ≤ N
 | 0, l, hn, h => by
   cases l with
   | nil => simp
   | cons a l => exact absurd (h a (by simp)) (dz _)
 | N + 1, l, hn, h => by
   have h1 : (l.erase N).length ≤ N := by
    refine a5D N _ (hn.erase N) fun i hi => ?_
    have h2 := (List.Nodup.mem_erase_iff hn).1 hi
    have := h i h2.2
    omega
   rw [List.length_erase] at h1
   split at h1 <;> omega
theorem tD {f : Nat → Int} {n : Nat} (h : kO f n = 0) : ∀ j, j < n → f j = 0 := by
 intro j hj
 unfold kO at h
 cases hf : (List.range n).find? (fun j => decide (f j ≠ 0)) with
 | some i =>
   rw [hf] at h
   have := List.find?_some hf
   simp only [decide_eq_true_eq] at this
   exact absurd h this
 | none =>
   rw [fP] at hf
   have := hf j (dm.2 hj)
   simpa using this
structure Org.Fine (o : Org) : Prop where
 dpos : 0 < o.dvs.length
 dlen : o.dvs.length ≤ 8
 rlen : o.ranks.length ≤ 60
 keys : ∀ j, j < o.dvs.length → 0 ≤ (gN o.dvs j).lo ∧ (gN o.dvs j).lo ≤ (gN o.dvs j).hi ∧ (gN o.dvs j).hi ≤ 127
 stops : ∀ j, j < o.dvs.length → (gN o.dvs j).stops.length ≤ 60
 clen : o.cpls.length ≤ 40
 draws : ∀ j, j < o.dvs.length → ∀ s ∈ (gN o.dvs j).stops, ∀ g ∈ s.segs, g.draws.length ≤ 8
theorem Org.bE {o : Org} (h : organE o = 0) : o.Fine := by
 unfold organE at h
 split at h
 ·omega
 split at h
 ·omega
 rename_i _ h2
 split at h
 ·rename_i hh; exact absurd h hh
 split at h
 ·omega
 rename_i h4
 split at h
 ·omega
 rename_i h5
 split at h
 ·rename_i hh; exact absurd h hh
 rename_i h6
 have h6 := di.1 h6
 have hd : ∀ j, j < o.dvs.length → (0 ≤ (gN o.dvs j).lo ∧ (gN o.dvs j).lo ≤ (gN o.dvs j).hi ∧ (gN o.dvs j).hi ≤ 127) ∧ (gN o.dvs j).stops.length ≤ 60 ∧ ∀ s ∈ (gN o.dvs j).stops, ∀ g ∈ s.segs, g.draws.length ≤ 8 := by
  intro j hj
  have e := tD h6 j hj
  unfold rS at e
  split at e
  ·omega
  split at e
  ·omega
  unfold divE at e
  split at e
  ·rename_i hh; exact absurd e hh
  rename_i hc
  have hc := di.1 hc
  split at e
  ·omega
  unfold pI at hc
  split at hc
  ·omega
  split at hc
  ·omega
  refine ⟨by omega, by omega, fun s hs g hg => ?_⟩
  obtain ⟨k, hk, rfl⟩ := dI.1 hs
  obtain ⟨i, hi, rfl⟩ := dI.1 hg
  have e2 := tD e k hk
  unfold nI at e2
  rw [jJ _ k hk] at e2
  split at e2
  ·rename_i hh; exact absurd e2 hh
  rename_i e3
  have e3 := di.1 e3
  unfold stopE at e3
  split at e3
  ·rename_i hh; exact absurd e3 hh
  split at e3
  ·omega
  split at e3
  ·rename_i hh; exact absurd e3 hh
  split at e3
  ·omega
  split at e3
  ·omega
  have e4 := tD e3 i hi
  unfold kE at e4
  rw [jJ _ i hi] at e4
  split at e4
  ·omega
  split at e4
  ·omega
  unfold kL at e4
  split at e4
  ·omega
  omega
 refine ⟨by omega, by omega, by omega, fun j hj => (hd j hj).1, fun j hj => (hd j hj).2.1, ?_, fun j hj => (hd j hj).2.2⟩
 unfold rI at h
 split at h <;> omega
theorem rW (o : Org) (c : Ct) : pX o c = true ↔ 0 ≤ c.1 ∧ c.1 < o.dvs.length ∧ (gN o.dvs c.1.toNat).lo ≤ c.2 ∧ c.2 ≤ (gN o.dvs c.1.toNat).hi := by
 unfold pX
 simp only [cT, decide_eq_true_eq, and_assoc]
theorem a0y {o : Org} (ho : o.Fine) {c : Ct} (h : pX o c = true) : 0 ≤ c.1 ∧ c.1 < 8 ∧ 0 ≤ c.2 ∧ c.2 ≤ 127 := by
 have h := (rW o c).1 h
 have hk := ho.keys c.1.toNat (by omega)
 have := ho.dlen
 omega
theorem Que.len {o : Org} {q : List Ct} (h : Que o q) (ho : o.Fine) : q.length ≤ 1024 := by
 have h1 := a5D 1024 (q.map fun c => c.1.toNat * 128 + c.2.toNat) ?_ ?_
 ·simpa using h1
 ·unfold List.Nodup
  rw [List.pairwise_map]
  refine List.Pairwise.imp_of_mem (fun {a b} ha hb hne e => hne ?_) h.1
  have h1 := a0y ho (h.2 a ha)
  have h2 := a0y ho (h.2 b hb)
  apply gn <;> omega
 ·intro i hi
  obtain ⟨c, hc, rfl⟩ := dx.1 hi
  have h1 := a0y ho (h.2 c hc)
  omega
def bfs (o : Org) (cp : Nat) : Nat → Nat → List Ct → List Ct
 | 0, _, q => q
 | n + 1, i, q => if i < q.length then bfs o cp n (i + 1) (stepF o cp true (gN q i) q) else q
def mZ (o : Org) (cp : Nat) (l : List Ct) : List Ct := l.foldl (fun q c => stepF o cp false c q) []
def nB (o : Org) (r : Reg) (l : List Ct) : List Ct := dd (tQ (l.filter (fun c => !r.off.testBit c.1.toNat) ++ bfs o r.cpl 1100 0 (mZ o r.cpl l)))
def nV (rs : List Rk) (d : Drw) (key : Int) : Ct := if d.rank < 0 ∨ rs.length ≤ d.rank then (0, 0) else (d.rank, tR (tR (key + d.shift) - (gN rs d.rank.toNat).first))
def xZ (rs : List Rk) (d : Drw) (key : Int) : Bool := !decide (d.rank < 0 ∨ rs.length ≤ d.rank) && decide (0 ≤ (nV rs d key).2) && decide ((nV rs d key).2 < (gN rs d.rank.toNat).wind.length)
def a6O (s : Stp) (key : Int) (j : Nat) : Bool := decide ((gN s.segs j).lo ≤ key) && decide (key ≤ (gN s.segs j).hi)
def a6Q (s : Stp) (key : Int) : List Drw := if pY (a6O s key) s.segs.length < 0 then [] else (gN s.segs (pY (a6O s key) s.segs.length).toNat).draws
def qW (rs : List Rk) (s : Stp) (key : Int) : List Ct := dd (tQ (((a6Q s key).filter fun d => xZ rs d key).map fun d => nV rs d key))
def oE (o : Org) (r : Reg) (c : Ct) : List Ct := (List.range (gN o.dvs c.1.toNat).stops.length).flatMap fun i => if (gN r.stops c.1.toNat).testBit i then qW o.ranks (gN (gN o.dvs c.1.toNat).stops i) c.2 else []
def a8A (o : Org) (r : Reg) (l : List Ct) : List Ct := dd (tQ (l.flatMap (oE o r)))
def lO (o : Org) (r : Reg) (l : List Ct) : List Ct := a8A o r (nB o r l)
end Go.Ds
namespace Go.Ds
open Go.Proofs Go.Proofs.Tryz
variable {H : Heap}
theorem a6a (a b : Nat) (h : a < 18446744073709551616) : ((a : Nat) : Int).fdiv (2 ^ min b (IntKind.bits .u64)) = ((a >>> b : Nat) : Int) := by
 have e : IntKind.bits .u64 = 64 := rfl
 rw [e]
 have h1 : ((a : Nat) : Int).fdiv (2 ^ min b 64) = ((a / 2 ^ min b 64 : Nat) : Int) := by
  rw [Int.fdiv_eq_ediv_of_nonneg _ (by exact Int.le_of_lt (Int.pow_pos (by decide)))]
  simp
 rw [h1, ff]
 by_cases hb : b ≤ 64
 ·rw [fR hb]
 ·rw [Nat.min_eq_right (by omega)]
  have h2 : a / 2 ^ 64 = 0 := Nat.div_eq_of_lt (by simpa using h)
  have h3 : a / 2 ^ b = 0 := Nat.div_eq_of_lt (dB (by simpa using h) (fX (by decide) (show 64 ≤ b by omega)))
  rw [h2, h3]
theorem a9r (n : Nat) (h : n < 18446744073709551616) : IntKind.wrap .u64 ((BitVec.ofInt (IntKind.bits .u64) (n : Int) &&& BitVec.ofInt (IntKind.bits .u64) 1).toNat : Int) = ((n % 2 : Nat) : Int) := by
 have e : (BitVec.ofInt (IntKind.bits .u64) (n : Int) &&& BitVec.ofInt (IntKind.bits .u64) 1).toNat = n % 2 := by
  show (BitVec.ofInt 64 (n : Int) &&& BitVec.ofInt 64 1).toNat = n % 2
  rw [BitVec.toNat_and]
  have h1 : (BitVec.ofInt 64 (n : Int)).toNat = n := by
   rw [fY, BitVec.toNat_ofNat]
   exact gG (by simpa using h)
  have h2 : (BitVec.ofInt 64 1).toNat = 1 := rfl
  rw [h1, h2, Nat.and_one_is_mod]
 rw [e]
 have : n % 2 < 2 := eG _ (by decide)
 have hh : n % 2 = 0 ∨ n % 2 = 1 := by omega
 rcases hh with h | h <;> rw [h] <;> rfl
theorem tb (a i : Nat) : a.testBit i = decide (a >>> i % 2 = 1) := by
 rw [Nat.testBit_eq_decide_div_mod_eq, ff]
theorem a3F {a : Nat} (b : Nat) (h : a < 18446744073709551616) : a >>> b < 18446744073709551616 := by
 rw [ff]
 exact Nat.lt_of_le_of_lt (Nat.div_le_self _ _) h
theorem a0n (o : Org) (ho : o.In H) (c : Ct) : Fn prog 66 [.agg #[.string o.name, o.rv, o.dv, o.cv], .agg #[I c.1, I c.2]] H fun r H' => r = I (a1g o c) ∧ St prog H H' [] := by
 have hl := ho.2.2.2.2.2.2.1
 refine .aM func66 rfl (by kernel_rfl) (m := 36) rfl fun l hn g0 g1 => ?_
 simp (disch := omega) only [↓RA, RB, simprocAttr, g0]
 refine (sR H).eNew 4 [(.string o.name), o.rv, o.dv, o.cv] rfl rfl (by simp [OC, ((sR H).sl ho.1).cells.2.1, ((sR H).sl ho.2.2.1).cells.2.1, ((sR H).sl ho.2.2.2.2.1).cells.2.1]) oD fun A1 H1 hS1 => ?_
 simp only [RT] at hS1
 simp (disch := omega) only [↓RA, RB, simprocAttr, g1]
 refine hS1.eNew 2 [I c.1, I c.2] rfl rfl rfl uK fun A2 H2 hS2 => ?_
 simp only [RT] at hS2
 simp (disch := omega) only [↓RA, RZ, simprocAttr, hn, hS2.ld 1 rfl]
 refine gW (fun h1 => ?_) (fun h1 => ?_)
 ·simp (disch := omega) only [↓RA, RZ, simprocAttr, hn, b2z, h1]
  exact ⟨by rw [a1g, if_pos (by omega)], hS2.forget⟩
 simp (disch := omega) only [↓RA, RZ, simprocAttr, hn, hS2.ld 1 rfl, hS2.ld 0 rfl, (hS2.sl ho.2.2.1).len, h1]
 refine gM (fun h2 => ?_) (fun h2 => ?_)
 ·simp (disch := omega) only [↓RA, RZ, simprocAttr, hn, b2z, h1, h2]
  exact ⟨by rw [a1g, if_pos (by omega)], hS2.forget⟩
 obtain ⟨j, hj⟩ : ∃ j : Nat, c.1 = j := ⟨c.1.toNat, by omega⟩
 have hc : a1g o c = if c.2 < (gN o.dvs j).lo ∨ (gN o.dvs j).hi < c.2 then 23 else 0 := by
  rw [a1g, if_neg (by omega), hj]
  rfl
 rw [hj] at h1 h2
 simp (disch := omega) only [↓RA, RZ, simprocAttr, hn, hS2.ld 0 rfl, h1, h2, hj]
 simp (disch := omega) only [↓RA, RZ, simprocAttr, hn, hS2.ld 1 rfl, (hS2.sl ho.2.2.1).idx, (hS2.sl ho.2.2.1).bF, (hS2.sl ho.2.2.1).cG 2, Dvn.cells, h1, h2, hj]
 refine hS2.eNew 2 [I 0, I 0] rfl rfl rfl uB fun A3 H3 hS3 => ?_
 simp only [RT] at hS3
 simp (disch := omega) only [↓RA, RZ, simprocAttr, hn, h1, h2, hj]
 refine hS3.aa 2 rfl [I (gN o.dvs j).lo, I (gN o.dvs j).hi] rfl rfl uB (by simp) fun H4 hS4 => ?_
 simp only [RT] at hS4
 simp (disch := omega) only [↓RA, RZ, simprocAttr, hn, hS4.ld 1 rfl, hS4.ld 2 rfl, h1, h2, hj]
 refine gW (fun h3 => ?_) (fun h3 => ?_)
 ·simp (disch := omega) only [↓RA, RZ, simprocAttr, hn, b2z, h1, h2, hj, h3]
  exact ⟨by rw [hc, if_pos (by omega)], hS4.forget⟩
 simp (disch := omega) only [↓RA, RZ, simprocAttr, hn, hS4.ld 1 rfl, hS4.ld 2 rfl, h1, h2, hj, h3]
 refine gM (fun h4 => ?_) (fun h4 => ?_)
 ·simp (disch := omega) only [↓RA, RZ, simprocAttr, hn, b2z, h1, h2, hj, h3, h4]
  exact ⟨by rw [hc, if_pos (by omega)], hS4.forget⟩
 simp (disch := omega) only [↓RA, RZ, simprocAttr, hn, b2z, h1, h2, hj, h3, h4]
 exact ⟨by rw [hc, if_neg (by omega)], hS4.forget⟩
def lJ (o : Org) (r : Reg) : Int := if organE o ≠ 0 then organE o else if r.stops.length ≠ o.dvs.length then 5 else if ∃ j, j < o.dvs.length ∧ gN r.stops j >>> (gN o.dvs j).stops.length ≠ 0 then 3 else if r.cpl >>> o.cpls.length ≠ 0 ∨ r.off >>> o.dvs.length ≠ 0 then 3 else 0
theorem a8m (o : Org) (ho : o.In H) (r : Reg) (sv : Value) (hr : r.In H sv) : Fn prog 13 [.agg #[.string o.name, o.rv, o.dv, o.cv], .agg #[sv, .int .u64 r.cpl, .int .u64 r.off]] H fun v H' => v = I (lJ o r) ∧ St prog H H' [] := by
 have hl := ho.2.2.2.2.2.2.1
 have hlc := ho.2.2.2.2.2.2.2
 obtain ⟨hr1, hr2, hr3, hr4, hr5⟩ := hr
 refine .aM func13 rfl (by kernel_rfl) (m := 55) rfl fun l hn g0 g1 => ?_
 simp (disch := omega) only [↓RA, RB, simprocAttr, g0]
 refine (sR H).eNew 4 [(.string o.name), o.rv, o.dv, o.cv] rfl rfl (by simp [OC, ((sR H).sl ho.1).cells.2.1, ((sR H).sl ho.2.2.1).cells.2.1, ((sR H).sl ho.2.2.2.2.1).cells.2.1]) oD fun A1 H1 hS1 => ?_
 simp only [RT] at hS1
 simp (disch := omega) only [↓RA, RB, simprocAttr, g1]
 refine hS1.eNew 3 [sv, (.int .u64 r.cpl), (.int .u64 r.off)] rfl rfl (by simp [OC, (hS1.sl hr1).cells.2.1]) vZ fun A2 H2 hS2 => ?_
 simp only [RT] at hS2
 simp (disch := omega) only [↓RA, RZ, simprocAttr, hn, hS2.aj 0 rfl]
 refine hS2.cF (a0C o (ho.ae hS2)) fun H3 hS3 => ?_
 simp (disch := omega) only [↓RA, RB, simprocAttr, hn]
 refine gM (fun h1 => ?_) (fun h1 => ?_)
 ·simp (disch := omega) only [↓RA, RZ, simprocAttr, hn, b0s, h1]
  exact ⟨by rw [lJ, if_pos h1], hS3.forget⟩
 simp (disch := omega) only [↓RA, RZ, simprocAttr, hn, hS3.ld 1 rfl, (hS3.sl hr1).len, hS3.ld 0 rfl, (hS3.sl ho.2.2.1).len, h1]
 refine gM (fun h2 => ?_) (fun h2 => ?_)
 ·simp (disch := omega) only [↓RA, RZ, simprocAttr, hn, b0s, h1, h2]
  exact ⟨by rw [lJ, if_neg h1, if_pos (by omega)], hS3.forget⟩
 simp (disch := omega) only [↓RA, RZ, simprocAttr, hn, hS3.ld 0 rfl, (hS3.sl ho.2.2.1).len, h1, h2]
 have hE : lJ o r = if ∃ j, j < o.dvs.length ∧ gN r.stops j >>> (gN o.dvs j).stops.length ≠ 0 then 3 else if r.cpl >>> o.cpls.length ≠ 0 ∨ r.off >>> o.dvs.length ≠ 0 then 3 else 0 := by rw [lJ, if_neg h1, if_neg (by omega)]
 refine Wp.al (fun n l H' => l.length = 55 ∧ get l 2 = (ptr A1 0 4) ∧ get l 3 = (ptr A2 0 3) ∧ get l 21 = o.dv ∧ get l 22 = I o.dvs.length ∧ ∃ (j : Nat), (n + j = o.dvs.length ∧ ∀ q, q < j → gN r.stops q >>> (gN o.dvs q).stops.length = 0) ∧ get l 23 = I j ∧ St prog H H' [⟨ptr A1 0 4, 0, [(.string o.name), o.rv, o.dv, o.cv]⟩, ⟨ptr A2 0 3, 0, [sv, (.int .u64 r.cpl), (.int .u64 r.off)]⟩]) o.dvs.length ?_ ?_
 ·simp (disch := omega) only [RB, RC, simprocAttr, hn]
  exact ⟨0, ⟨by omega, fun q hq => absurd hq (dz _)⟩, rfl, hS3⟩
 rintro n l H4 ⟨hn, g2, g3, g21, g22, j, ⟨hj,hz⟩, g23, hS4⟩
 have e1 := a6a r.cpl o.cpls.length hr4
 have e2 := a6a r.off o.dvs.length hr5
 simp (disch := omega) only [↓RA, RB, simprocAttr, hn, g22, g23]
 refine gM (fun q1 => ?_) (fun q1 => ?_)
 ·have hst := (ho.2.2.2.1 _ (gS (xs := o.dvs) (j := j) (by omega))).2.2
  have e3 := a6a (gN r.stops j) (gN o.dvs j).stops.length (hr3 _ (gS (by omega)))
  simp (disch := omega) only [↓RA, RZ, simprocAttr, hn, g21, g23, (hS4.sl ho.2.2.1).idx, (hS4.sl ho.2.2.1).aj, Dvn.cells, q1]
  refine hS4.eNew 5 [(.string ⟨#[]⟩), (.bool false), I 0, I 0, (.slice none 0 0)] rfl rfl rfl tS fun A3 H5 hS5 => ?_
  simp only [RT] at hS5
  simp (disch := omega) only [↓RA, RZ, simprocAttr, hn, q1]
  refine hS5.aa 2 rfl [(.string (gN o.dvs j).name), (.bool (gN o.dvs j).pedal), I (gN o.dvs j).lo, I (gN o.dvs j).hi, (gN o.dvs j).sv] rfl (by simp [OC, (hS5.sl (ho.2.2.2.1 (gN o.dvs j) (gS (by omega))).1).cells.2.1]) tS (by simp) fun H6 hS6 => ?_
  simp only [RT] at hS6
  simp (disch := omega) only [↓RA, RZ, simprocAttr, q1]
  refine Wp.drw jM (by kernel_rfl) ?_
  simp (disch := omega) only [↓RA, RZ, simprocAttr, hn, g3, hS6.ld 1 rfl, (hS6.sl hr1).idx, (hS6.sl hr1).ld, one, u64, hS6.ld 2 rfl, (hS6.sl (ho.2.2.2.1 (gN o.dvs j) (gS (by omega))).1).len, e3]
  refine gM (fun q2 => ?_) (fun q2 => ?_)
  ·simp (disch := omega) only [↓RA, RZ, simprocAttr, hn, b0s, q2]
   exact ⟨by rw [hE, if_pos ⟨j, by omega, by omega⟩], hS6.forget⟩
  simp (disch := omega) only [↓RA, RZ, simprocAttr, hn, g2, g3, g21, g22, g23, q2]
  exact ⟨n - 1, by omega, j + 1, ⟨by omega, fun q hq => by rcases de.1 hq with e | e; (· exact hz q e); (· rw [e]; omega)⟩, by simp, hS6.sub (by simp)⟩
 simp (disch := omega) only [↓RA, RZ, simprocAttr, hn, g2, g3, hS4.ld 1 rfl, hS4.ld 0 rfl, (hS4.sl ho.2.2.2.2.1).len, q1, e1]
 have hno : ¬ ∃ j, j < o.dvs.length ∧ gN r.stops j >>> (gN o.dvs j).stops.length ≠ 0 := by
  rintro ⟨q, hq, hne⟩
  exact hne (hz q (by omega))
 rw [if_neg hno] at hE
 clear hno
 refine gW (fun q3 => ?_) (fun q3 => ?_)
 ·simp (disch := omega) only [↓RA, RZ, simprocAttr, hn, b0s, q1, q3]
  exact ⟨by rw [hE, if_pos (by omega)], hS4.forget⟩
 simp (disch := omega) only [↓RA, RZ, simprocAttr, hn, g2, g3, hS4.ld 1 rfl, hS4.ld 0 rfl, (hS4.sl ho.2.2.1).len, q1, e2, q3]
 refine gM (fun q4 => ?_) (fun q4 => ?_)
 ·simp (disch := omega) only [↓RA, RZ, simprocAttr, hn, b0s, q1, q3, q4]
  exact ⟨by rw [hE, if_pos (by omega)], hS4.forget⟩
 simp (disch := omega) only [↓RA, RZ, simprocAttr, hn, b0s, q1, q3, q4]
 exact ⟨by rw [hE, if_neg (by omega)], hS4.forget⟩
end Go.Ds
namespace Go.Ds
open Go.Proofs
variable {H : Heap}
theorem wZ (n : Nat) (h : n < 18446744073709551616) : (BitVec.ofInt (IntKind.bits .u64) (n : Int)).toNat = n := by
 show (BitVec.ofInt 64 (n : Int)).toNat = n
 rw [fY, BitVec.toNat_ofNat]
 exact gG (by simpa using h)
end Go.Ds
namespace Go.Ds
open Go.Proofs Go.Proofs.Tryz
variable {H : Heap}
set_option maxRecDepth 10000
theorem RdAt.sub_self {v : Value} {size n : Nat} {cs : List Value} (h : RdAt H v (size + 1) cs) (hn : cs.length = n * (size + 1)) : lX v (size + 1) 0 n = v := by
 rcases h with ⟨rfl, _⟩ | ⟨A, i, e, row, ty, rw, lo, ver, m, _, _, _, _, _, h6, rfl⟩
 ·rfl
 ·have : m = n := eV (fm size) (h6.symm.trans hn)
  subst this
  simp [lX]
theorem wP {v : Value} {xs : List (Int × Int)} {rest : List Value} (h : RdAt H v 2 (pr xs ++ rest)) : RdAt H (lX v 2 0 xs.length) 2 (pr xs) := by
 by_cases h0 : pr xs ++ rest = []
 ·have hx : xs.length = 0 := by
   have := congrArg List.length h0
   rw [dh, gT, eN] at this
   omega
  have e := RdAt.sub_self (size := 1) (n := 0) h (by rw [h0]; rfl)
  obtain rfl := fu.1 hx
  show RdAt H (lX v 2 0 0) 2 []
  rw [show lX v 2 0 0 = v from e]
  rwa [h0] at h
 ·have h5 := RdAt.sub h 0 xs.length (by rw [dh, gT]; omega) h0
  rw [Nat.zero_mul, List.drop_zero, show xs.length * 2 = (pr xs).length from (gT xs).symm, List.take_left' rfl] at h5
  exact h5
theorem a8R {H0 : Heap} {v : Value} {xs : List (Int × Int)} {rest : List Value} (h : St prog H0 H [⟨v, 2, pr xs ++ rest⟩]) : Slx 2 jK H (fun B => H0.length ≤ B) (lX v 2 0 xs.length) xs := by
 refine ⟨⟨wP (h.rd 0 rfl), jT, by decide⟩, fun b hb => ?_⟩
 rcases h.new _ (dV ..) b (a0i hb) with h | h
 ·exact h
 ·exact h.elim
theorem b9d : a9k prog 60 = some (1 + 1) := by kernel_rfl
theorem c0y : a9k prog 45 = some (1 + 1) := by kernel_rfl
theorem a4a {B : Base} {v : Value} {es : List (Int × Int)} (hS : St prog B H [⟨v, 2, pr es⟩]) (hl : es.length < 100000000000) :
 Fn prog 114 [v] H fun r H' => ∃ rest : List Value, r = lX v 2 0 (dd es).length ∧ St prog B H' [⟨v, 2, pr (dd es) ++ rest⟩] := by
 refine .aS func114 rfl (by kernel_rfl) (m := 61) rfl fun l hn g0 => ?_
 simp (disch := omega) only [↓RA, RZ, simprocAttr, hn, g0, (hS.ay 0 rfl (fun _ => rfl)).len]
 refine gM (fun h => ?_) (fun h => ?_)
 ·have hd := qV es es.length (cZ _) fun j h1 h2 => by omega
  rw [ee] at hd
  simp (disch := omega) only [↓RA, RZ, simprocAttr, hn, g0, b3Z, h]
  exact ⟨[], by unfold dd; rw [hd]; exact (RdAt.sub_self (size := 1) (hS.rd 0 rfl) (gT es)).symm, by unfold dd; rw [hd, dj]; exact hS⟩
 simp (disch := omega) only [↓RA, RZ, simprocAttr, h]
 refine Wp.al (fun n l H' => l.length = 61 ∧ get l 0 = v ∧ ∃ (k : Nat), (0 < k ∧ n + k = es.length ∧ ∀ j, 0 < j → j < k → gN es j ≠ gN es (j - 1)) ∧ get l 3 = I k ∧ St prog B H' [⟨v, 2, pr es⟩]) (es.length - 1) ?_ ?_
 ·simp (disch := omega) only [RB, RC, simprocAttr, hn, g0]
  exact ⟨1, ⟨by omega, by omega, fun j h1 h2 => by omega⟩, rfl, hS⟩
 rintro n l H1 ⟨hn, g0, k, ⟨hk0,hk,hdis⟩, g3, hS1⟩
 simp (disch := omega) only [↓RA, RZ, simprocAttr, hn, g0, g3, (hS1.ay 0 rfl (fun _ => rfl)).len]
 refine gM (fun h2 => ?_) (fun h2 => ?_)
 ·have hkl : k < es.length := by omega
  have hpre : (k : Int) - 1 = ((k - 1 : Nat) : Int) := by omega
  simp (disch := omega) only [↓RA, RC, simprocAttr, h2]
  refine Wp.drw jM (by kernel_rfl) ?_
  simp (disch := omega) only [↓RA, RZ, simprocAttr, hn, g0, g3, (hS1.ay 0 rfl (fun _ => rfl)).idx, (hS1.ay 0 rfl (fun _ => rfl)).aj, jK, hpre]
  refine gM (fun h3 => ?_) (fun h3 => ?_)
  ·have h3 : gN es k = gN es (k - 1) := gn h3.1 h3.2
   have hlen : (pr es).length = es.length * (1 + 1) := gT es
   have hpos : 0 < es.length := by omega
   have hdk := qV es k (by omega) hdis
   have hdk1 : wN es (k + 1) = es.take k := by rw [qB, hdk, if_neg (by rintro (h4 | h4); omega; exact h4 h3), dj]
   have hrow : St prog B H1 [⟨v, 2, pr (wN es (k + 1) ++ es.drop k)⟩] := by rw [hdk1, List.take_append_drop]; exact hS1
   have hdl : (wN es (k + 1)).length = k := by rw [hdk1, gK]; omega
   simp (disch := omega) only [↓RA, RZ, simprocAttr, hn, g0, g3, (hS1.ay 0 rfl (fun _ => rfl)).aQ, h3]
   refine Wp.al (fun n l H' => l.length = 61 ∧ get l 0 = v ∧ ∃ k2 : Nat, (0 < k2 ∧ n + k + k2 = es.length ∧ (wN es (k + k2)).length < k + k2) ∧ get l 3 = I (wN es (k + k2)).length ∧ get l 4 = lX v 2 k (es.length - k) ∧ get l 5 = I k2 ∧ St prog B H' [⟨v, 2, pr (wN es (k + k2) ++ es.drop (wN es (k + k2)).length)⟩]) (es.length - k - 1) ?_ ?_
   ·simp (disch := omega) only [RB, RC, simprocAttr, hn, g0, g3]
    refine ⟨1, ⟨by omega, by omega, by omega⟩, by rw [hdl], by congr 1; omega, rfl, ?_⟩
    rw [hdl]
    exact hrow
   clear hrow hdk hdk1 hdl hdis
   rintro n l H9 ⟨hn, g0, k2, ⟨hk20, hk2, hlt⟩, g3, g4, g5, hS9⟩
   have hsucc := qB es (k + k2)
   generalize hD : wN es (k + k2) = D at g3 hlt hS9 hsucc
   have hrl : (D ++ es.drop D.length).length = es.length := by rw [dh, fi]; omega
   have hv : Sl 2 jK H9 v (D ++ es.drop D.length) := hS9.ay 0 rfl jT
   have hat : ∀ j, D.length ≤ j → gN (D ++ es.drop D.length) j = gN es j := fun j hj => by
    unfold gN
    rw [cV, dU hj, dp, cV]
    congr 2; omega
   have hsub : Sl 2 jK H9 (lX v 2 k ((D ++ es.drop D.length).length - k)) ((D ++ es.drop D.length).drop k) := hv.cA k (by omega) (by omega)
   rw [hrl] at hsub
   have hsl : ((D ++ es.drop D.length).drop k).length = es.length - k := by rw [fi, hrl]
   have hsat : ∀ j, D.length ≤ k + j → gN ((D ++ es.drop D.length).drop k) j = gN es (k + j) := fun j hj => by
    rw [← hat (k + j) hj]
    unfold gN
    rw [cV, dp, cV]
   have hbd : ((es.length - k : Nat) : Int) = (es.length : Int) - k := by omega
   simp (disch := omega) only [↓RA, RZ, simprocAttr, hn, g4, g5, hsub.len, hsl, hbd]
   refine gM (fun h4 => ?_) (fun h4 => ?_)
   ·have hj : k + k2 < es.length := by omega
    have hpre2 : (k2 : Int) - 1 = ((k2 - 1 : Nat) : Int) := by omega
    have e1 := hsat k2 (by omega)
    have e2 := hsat (k2 - 1) (by omega)
    rw [show k + (k2 - 1) = k + k2 - 1 from by omega] at e2
    simp (disch := omega) only [↓RA, RC, simprocAttr, h4]
    refine Wp.drw jM (by kernel_rfl) ?_
    simp (disch := omega) only [↓RA, RZ, simprocAttr, hn, g4, g5, hsub.idx, hsub.aj, jK, hpre2, e1, e2]
    refine gM (fun h5 => ?_) (fun h5 => ?_)
    ·have hne : gN es (k + k2) ≠ gN es (k + k2 - 1) := fun e => h5 (by rw [e]; exact ⟨rfl, rfl⟩)
     rw [if_pos (.inr hne)] at hsucc
     simp (disch := omega) only [↓RA, RZ, simprocAttr, hn, g0, g3, g4, g5, hsub.idx, hsub.aj, jK, e1, h5]
     simp (disch := omega) only [↓RA, RZ, simprocAttr, hn, (hS9.ay 0 rfl (fun _ => rfl)).idx, h5]
     refine hS9.br 0 rfl [I (gN es (k + k2)).1, I (gN es (k + k2)).2] rfl rfl uK (by simp) (by rw [gT, hrl]; simp; omega) fun H2 hS2 => ?_
     simp only [RT] at hS2
     simp (disch := omega) only [↓RA, RZ, simprocAttr, hn, g0, g3, g4, g5, h5]
     refine ⟨n - 1, by omega, k2 + 1, ?_⟩
     rw [show k + (k2 + 1) = k + k2 + 1 from by omega, hsucc]
     refine ⟨⟨by omega, by omega, by simp; omega⟩, by simp, by simp, ?_⟩
     have e3 : pr (D ++ [gN es (k + k2)] ++ es.drop (D ++ [gN es (k + k2)]).length) = ((pr (D ++ es.drop D.length)).set (D.length * 2) (I (gN es (k + k2)).1)).set (D.length * 2 + 1) (I (gN es (k + k2)).2) := by
      have hx : es.drop D.length = gN es D.length :: es.drop (D.length + 1) := by
       rw [jJ es _ (by omega)]
       exact fc (by omega)
      rw [hx, dh, List.length_singleton, jI, jI, jI]
      have e4 : pr (gN es D.length :: es.drop (D.length + 1)) = I (gN es D.length).1 :: I (gN es D.length).2 :: pr (es.drop (D.length + 1)) := rfl
      have e5 : pr [gN es (k + k2)] = [I (gN es (k + k2)).1, I (gN es (k + k2)).2] := rfl
      have e6 : (pr D).length = D.length * 2 := gT D
      rw [e4, e5, fg _ _ (by omega), fg _ _ (by omega), e6, Nat.sub_self, fK]
      simp
     rw [e3]
     exact hS2
    have heq : gN es (k + k2) = gN es (k + k2 - 1) := by
     have h6 := di.1 h5
     exact gn h6.1 h6.2
    rw [if_neg (by rintro (h6 | h6); omega; exact h6 heq), dj] at hsucc
    simp (disch := omega) only [↓RA, RZ, simprocAttr, hn, g0, g3, g4, g5, h5]
    refine ⟨n - 1, by omega, k2 + 1, ?_⟩
    rw [show k + (k2 + 1) = k + k2 + 1 from by omega, hsucc]
    exact ⟨⟨by omega, by omega, by omega⟩, rfl, by simp, hS9⟩
   have hke : k + k2 = es.length := by omega
   rw [hke] at hD
   have hcl : (pr (D ++ es.drop D.length)).length = es.length * (1 + 1) := by rw [gT, hrl]
   have hDn : D.length ≤ es.length := by omega
   simp (disch := omega) only [↓RA, RZ, simprocAttr, hn, g0, g3, (hS9.ay 0 rfl (fun _ => rfl)).aQ, h4]
   rw [show (((D ++ es.drop D.length).length : Int) - D.length).toNat = es.length - D.length from by rw [hrl]; omega]
   refine hS9.bK (size := 1) 0 rfl D.length (es.length - D.length) (by rw [hcl]; omega) (by
    intro e
    have h2 : (pr (D ++ es.drop D.length)).length = 0 := by rw [e]; rfl
    rw [gT, hrl] at h2; omega) b9d fun z H3 hz hSc => ?_
   simp only [RT] at hSc
   have e3 : iG (pr (D ++ es.drop D.length)) (D.length * 2) z = pr D ++ z := by
    rw [jI, show D.length * 2 = (pr D).length from (gT D).symm, lS z (pr D) (pr (es.drop D.length)) (by rw [gT, fi]; omega)]
    rw [List.drop_of_length_le (by rw [gT, fi]; omega), dj]
   rw [show D.length * (1 + 1) = D.length * 2 from rfl, e3] at hSc
   have hw : RdAt H3 v (1 + 1) (pr D ++ z) := hSc.rd 0 rfl
   have hwl : (pr D ++ z).length = es.length * (1 + 1) := by rw [dh, gT, hz]; omega
   simp (disch := omega) only [↓RA, RZ, simprocAttr, hn, g0, g3, hw.aR hwl, b3Z, h4]
   exact ⟨z, by unfold dd; rw [hD], by unfold dd; rw [hD]; exact hSc⟩
  have hne : gN es k ≠ gN es (k - 1) := fun e => h3 (by rw [e]; exact ⟨rfl, rfl⟩)
  simp (disch := omega) only [↓RA, RZ, simprocAttr, hn, g0, g3, h3]
  refine ⟨n - 1, by omega, k + 1, ⟨by omega, by omega, fun j h4 h5 => ?_⟩, by simp, hS1⟩
  by_cases e : j = k
  ·rw [e]; exact hne
  ·exact hdis j h4 (by omega)
 have hke : k = es.length := by omega
 have hd := qV es es.length (cZ _) (hke ▸ hdis)
 rw [ee] at hd
 simp (disch := omega) only [↓RA, RZ, simprocAttr, hn, g0, b3Z, h2]
 exact ⟨[], by unfold dd; rw [hd]; exact (RdAt.sub_self (size := 1) (hS.rd 0 rfl) (gT es)).symm, by unfold dd; rw [hd, dj]; exact hS1⟩
theorem a5X {B : Base} {v : Value} {es : List (Int × Int)} (hS : St prog B H [⟨v, 2, pr es⟩]) (hl : es.length < 100000000000) :
 Fn prog 114 [v] H fun r H' => ∃ rest : List Value, (∀ b, jV r = some b → jV v = some b) ∧ (∀ H2, RdAt H2 v 2 (pr (dd es) ++ rest) → RdAt H2 r 2 (pr (dd es))) ∧ St prog B H' [⟨v, 2, pr (dd es) ++ rest⟩] :=
 (a4a hS hl).mono fun _ _ ⟨rest, e, h⟩ => ⟨rest, fun _ h => a0i (e ▸ h), fun _ h => e ▸ wP h, h⟩
theorem vM {B : Base} {v : Value} {es : List (Int × Int)} (hS : St prog B H [⟨v, 2, pr es⟩]) (hl : es.length < 100000000000) :
 Fn prog 72 [v] H fun r H' => ∃ rest : List Value, r = lX v 2 0 (dd es).length ∧ St prog B H' [⟨v, 2, pr (dd es) ++ rest⟩] := by
 refine .aS func72 rfl (by kernel_rfl) (m := 61) rfl fun l hn g0 => ?_
 simp (disch := omega) only [↓RA, RZ, simprocAttr, hn, g0, (hS.ay 0 rfl (fun _ => rfl)).len]
 refine gM (fun h => ?_) (fun h => ?_)
 ·have hd := qV es es.length (cZ _) fun j h1 h2 => by omega
  rw [ee] at hd
  simp (disch := omega) only [↓RA, RZ, simprocAttr, hn, g0, b9W, h]
  exact ⟨[], by unfold dd; rw [hd]; exact (RdAt.sub_self (size := 1) (hS.rd 0 rfl) (gT es)).symm, by unfold dd; rw [hd, dj]; exact hS⟩
 simp (disch := omega) only [↓RA, RZ, simprocAttr, h]
 refine Wp.al (fun n l H' => l.length = 61 ∧ get l 0 = v ∧ ∃ (k : Nat), (0 < k ∧ n + k = es.length ∧ ∀ j, 0 < j → j < k → gN es j ≠ gN es (j - 1)) ∧ get l 3 = I k ∧ St prog B H' [⟨v, 2, pr es⟩]) (es.length - 1) ?_ ?_
 ·simp (disch := omega) only [RB, RC, simprocAttr, hn, g0]
  exact ⟨1, ⟨by omega, by omega, fun j h1 h2 => by omega⟩, rfl, hS⟩
 rintro n l H1 ⟨hn, g0, k, ⟨hk0,hk,hdis⟩, g3, hS1⟩
 simp (disch := omega) only [↓RA, RZ, simprocAttr, hn, g0, g3, (hS1.ay 0 rfl (fun _ => rfl)).len]
 refine gM (fun h2 => ?_) (fun h2 => ?_)
 ·have hkl : k < es.length := by omega
  have hpre : (k : Int) - 1 = ((k - 1 : Nat) : Int) := by omega
  simp (disch := omega) only [↓RA, RC, simprocAttr, h2]
  refine Wp.drw jM (by kernel_rfl) ?_
  simp (disch := omega) only [↓RA, RZ, simprocAttr, hn, g0, g3, (hS1.ay 0 rfl (fun _ => rfl)).idx, (hS1.ay 0 rfl (fun _ => rfl)).aj, jK, hpre]
  refine gM (fun h3 => ?_) (fun h3 => ?_)
  ·have h3 : gN es k = gN es (k - 1) := gn h3.1 h3.2
   have hlen : (pr es).length = es.length * (1 + 1) := gT es
   have hpos : 0 < es.length := by omega
   have hdk := qV es k (by omega) hdis
   have hdk1 : wN es (k + 1) = es.take k := by rw [qB, hdk, if_neg (by rintro (h4 | h4); omega; exact h4 h3), dj]
   have hrow : St prog B H1 [⟨v, 2, pr (wN es (k + 1) ++ es.drop k)⟩] := by rw [hdk1, List.take_append_drop]; exact hS1
   have hdl : (wN es (k + 1)).length = k := by rw [hdk1, gK]; omega
   simp (disch := omega) only [↓RA, RZ, simprocAttr, hn, g0, g3, (hS1.ay 0 rfl (fun _ => rfl)).aQ, h3]
   refine Wp.al (fun n l H' => l.length = 61 ∧ get l 0 = v ∧ ∃ k2 : Nat, (0 < k2 ∧ n + k + k2 = es.length ∧ (wN es (k + k2)).length < k + k2) ∧ get l 3 = I (wN es (k + k2)).length ∧ get l 4 = lX v 2 k (es.length - k) ∧ get l 5 = I k2 ∧ St prog B H' [⟨v, 2, pr (wN es (k + k2) ++ es.drop (wN es (k + k2)).length)⟩]) (es.length - k - 1) ?_ ?_
   ·simp (disch := omega) only [RB, RC, simprocAttr, hn, g0, g3]
    refine ⟨1, ⟨by omega, by omega, by omega⟩, by rw [hdl], by congr 1; omega, rfl, ?_⟩
    rw [hdl]
    exact hrow
   clear hrow hdk hdk1 hdl hdis
   rintro n l H9 ⟨hn, g0, k2, ⟨hk20, hk2, hlt⟩, g3, g4, g5, hS9⟩
   have hsucc := qB es (k + k2)
   generalize hD : wN es (k + k2) = D at g3 hlt hS9 hsucc
   have hrl : (D ++ es.drop D.length).length = es.length := by rw [dh, fi]; omega
   have hv : Sl 2 jK H9 v (D ++ es.drop D.length) := hS9.ay 0 rfl jT
   have hat : ∀ j, D.length ≤ j → gN (D ++ es.drop D.length) j = gN es j := fun j hj => by
    unfold gN
    rw [cV, dU hj, dp, cV]
    congr 2; omega
   have hsub : Sl 2 jK H9 (lX v 2 k ((D ++ es.drop D.length).length - k)) ((D ++ es.drop D.length).drop k) := hv.cA k (by omega) (by omega)
   rw [hrl] at hsub
   have hsl : ((D ++ es.drop D.length).drop k).length = es.length - k := by rw [fi, hrl]
   have hsat : ∀ j, D.length ≤ k + j → gN ((D ++ es.drop D.length).drop k) j = gN es (k + j) := fun j hj => by
    rw [← hat (k + j) hj]
    unfold gN
    rw [cV, dp, cV]
   have hbd : ((es.length - k : Nat) : Int) = (es.length : Int) - k := by omega
   simp (disch := omega) only [↓RA, RZ, simprocAttr, hn, g4, g5, hsub.len, hsl, hbd]
   refine gM (fun h4 => ?_) (fun h4 => ?_)
   ·have hj : k + k2 < es.length := by omega
    have hpre2 : (k2 : Int) - 1 = ((k2 - 1 : Nat) : Int) := by omega
    have e1 := hsat k2 (by omega)
    have e2 := hsat (k2 - 1) (by omega)
    rw [show k + (k2 - 1) = k + k2 - 1 from by omega] at e2
    simp (disch := omega) only [↓RA, RC, simprocAttr, h4]
    refine Wp.drw jM (by kernel_rfl) ?_
    simp (disch := omega) only [↓RA, RZ, simprocAttr, hn, g4, g5, hsub.idx, hsub.aj, jK, hpre2, e1, e2]
    refine gM (fun h5 => ?_) (fun h5 => ?_)
    ·have hne : gN es (k + k2) ≠ gN es (k + k2 - 1) := fun e => h5 (by rw [e]; exact ⟨rfl, rfl⟩)
     rw [if_pos (.inr hne)] at hsucc
     simp (disch := omega) only [↓RA, RZ, simprocAttr, hn, g0, g3, g4, g5, hsub.idx, hsub.aj, jK, e1, h5]
     simp (disch := omega) only [↓RA, RZ, simprocAttr, hn, (hS9.ay 0 rfl (fun _ => rfl)).idx, h5]
     refine hS9.br 0 rfl [I (gN es (k + k2)).1, I (gN es (k + k2)).2] rfl rfl rT (by simp) (by rw [gT, hrl]; simp; omega) fun H2 hS2 => ?_
     simp only [RT] at hS2
     simp (disch := omega) only [↓RA, RZ, simprocAttr, hn, g0, g3, g4, g5, h5]
     refine ⟨n - 1, by omega, k2 + 1, ?_⟩
     rw [show k + (k2 + 1) = k + k2 + 1 from by omega, hsucc]
     refine ⟨⟨by omega, by omega, by simp; omega⟩, by simp, by simp, ?_⟩
     have e3 : pr (D ++ [gN es (k + k2)] ++ es.drop (D ++ [gN es (k + k2)]).length) = ((pr (D ++ es.drop D.length)).set (D.length * 2) (I (gN es (k + k2)).1)).set (D.length * 2 + 1) (I (gN es (k + k2)).2) := by
      have hx : es.drop D.length = gN es D.length :: es.drop (D.length + 1) := by
       rw [jJ es _ (by omega)]
       exact fc (by omega)
      rw [hx, dh, List.length_singleton, jI, jI, jI]
      have e4 : pr (gN es D.length :: es.drop (D.length + 1)) = I (gN es D.length).1 :: I (gN es D.length).2 :: pr (es.drop (D.length + 1)) := rfl
      have e5 : pr [gN es (k + k2)] = [I (gN es (k + k2)).1, I (gN es (k + k2)).2] := rfl
      have e6 : (pr D).length = D.length * 2 := gT D
      rw [e4, e5, fg _ _ (by omega), fg _ _ (by omega), e6, Nat.sub_self, fK]
      simp
     rw [e3]
     exact hS2
    have heq : gN es (k + k2) = gN es (k + k2 - 1) := by
     have h6 := di.1 h5
     exact gn h6.1 h6.2
    rw [if_neg (by rintro (h6 | h6); omega; exact h6 heq), dj] at hsucc
    simp (disch := omega) only [↓RA, RZ, simprocAttr, hn, g0, g3, g4, g5, h5]
    refine ⟨n - 1, by omega, k2 + 1, ?_⟩
    rw [show k + (k2 + 1) = k + k2 + 1 from by omega, hsucc]
    exact ⟨⟨by omega, by omega, by omega⟩, rfl, by simp, hS9⟩
   have hke : k + k2 = es.length := by omega
   rw [hke] at hD
   have hcl : (pr (D ++ es.drop D.length)).length = es.length * (1 + 1) := by rw [gT, hrl]
   have hDn : D.length ≤ es.length := by omega
   simp (disch := omega) only [↓RA, RZ, simprocAttr, hn, g0, g3, (hS9.ay 0 rfl (fun _ => rfl)).aQ, h4]
   rw [show (((D ++ es.drop D.length).length : Int) - D.length).toNat = es.length - D.length from by rw [hrl]; omega]
   refine hS9.bK (size := 1) 0 rfl D.length (es.length - D.length) (by rw [hcl]; omega) (by
    intro e
    have h2 : (pr (D ++ es.drop D.length)).length = 0 := by rw [e]; rfl
    rw [gT, hrl] at h2; omega) c0y fun z H3 hz hSc => ?_
   simp only [RT] at hSc
   have e3 : iG (pr (D ++ es.drop D.length)) (D.length * 2) z = pr D ++ z := by
    rw [jI, show D.length * 2 = (pr D).length from (gT D).symm, lS z (pr D) (pr (es.drop D.length)) (by rw [gT, fi]; omega)]
    rw [List.drop_of_length_le (by rw [gT, fi]; omega), dj]
   rw [show D.length * (1 + 1) = D.length * 2 from rfl, e3] at hSc
   have hw : RdAt H3 v (1 + 1) (pr D ++ z) := hSc.rd 0 rfl
   have hwl : (pr D ++ z).length = es.length * (1 + 1) := by rw [dh, gT, hz]; omega
   simp (disch := omega) only [↓RA, RZ, simprocAttr, hn, g0, g3, hw.aR hwl, b9W, h4]
   exact ⟨z, by unfold dd; rw [hD], by unfold dd; rw [hD]; exact hSc⟩
  have hne : gN es k ≠ gN es (k - 1) := fun e => h3 (by rw [e]; exact ⟨rfl, rfl⟩)
  simp (disch := omega) only [↓RA, RZ, simprocAttr, hn, g0, g3, h3]
  refine ⟨n - 1, by omega, k + 1, ⟨by omega, by omega, fun j h4 h5 => ?_⟩, by simp, hS1⟩
  by_cases e : j = k
  ·rw [e]; exact hne
  ·exact hdis j h4 (by omega)
 have hke : k = es.length := by omega
 have hd := qV es es.length (cZ _) (hke ▸ hdis)
 rw [ee] at hd
 simp (disch := omega) only [↓RA, RZ, simprocAttr, hn, g0, b9W, h2]
 exact ⟨[], by unfold dd; rw [hd]; exact (RdAt.sub_self (size := 1) (hS.rd 0 rfl) (gT es)).symm, by unfold dd; rw [hd, dj]; exact hS1⟩
theorem a4A {B : Base} {v : Value} {es : List (Int × Int)} (hS : St prog B H [⟨v, 2, pr es⟩]) (hl : es.length < 100000000000) :
 Fn prog 72 [v] H fun r H' => ∃ rest : List Value, (∀ b, jV r = some b → jV v = some b) ∧ (∀ H2, RdAt H2 v 2 (pr (dd es) ++ rest) → RdAt H2 r 2 (pr (dd es))) ∧ St prog B H' [⟨v, 2, pr (dd es) ++ rest⟩] :=
 (vM hS hl).mono fun _ _ ⟨rest, e, h⟩ => ⟨rest, fun _ h => a0i (e ▸ h), fun _ h => e ▸ wP h, h⟩
end Go.Ds
namespace Go.Ds
open Go.Proofs Go.Proofs.Tryz
variable {H : Heap}
theorem a4y (a : Int) : Fn prog 117 [I a] H fun r H' => r = .bool false ∧ St prog H H' [] := by
 refine .aS func117 rfl (by kernel_rfl) (m := 6) rfl fun l hn g0 => ?_
 simp (disch := omega) only [↓RA, RZ, simprocAttr, hn, g0, c1M]
 exact .refl _ _
def rE (a b : Int) : Int := if a < b then -1 else if b < a then 1 else 0
theorem tO (a b : Int) : Fn prog 63 [I a, I b] H fun r H' => r = I (rE a b) ∧ St prog H H' [] := by
 refine .aM func63 rfl (by kernel_rfl) (m := 20) rfl fun l hn g0 g1 => ?_
 simp (disch := omega) only [↓RA, RZ, simprocAttr, hn, g0]
 refine (sR H).cF (a4y _) fun H1 hS1 => ?_
 simp (disch := omega) only [↓RA, RZ, simprocAttr, hn, g1]
 refine hS1.cF (a4y _) fun H2 hS2 => ?_
 simp (disch := omega) only [↓RA, RB, simprocAttr, hn, g0, g1]
 refine gM (fun h => ?_) (fun h => ?_)
 ·simp (disch := omega) only [↓RA, RZ, simprocAttr, hn, b8Q, h]
  exact ⟨by simp [rE, h], hS2⟩
 simp (disch := omega) only [↓RA, RZ, simprocAttr, hn, g0, g1, h]
 refine gM (fun h2 => ?_) (fun h2 => ?_)
 ·simp (disch := omega) only [↓RA, RZ, simprocAttr, hn, b8Q, h, h2]
  exact ⟨by simp [rE, h, h2], hS2⟩
 simp (disch := omega) only [↓RA, RZ, simprocAttr, hn, b8Q, h, h2]
 exact ⟨by simp [rE, h, h2], hS2⟩
def orI : List Int → Int
 | [] => 0
 | a :: l => if a = 0 then orI l else a
theorem a0h (xs : List Int) : ∀ i, i ≤ xs.length → (∀ j, j < i → gN xs j = 0) → orI xs = orI (xs.drop i)
 | 0, _, _ => rfl
 | i + 1, hi, h => by
   rw [a0h xs i (by omega) (fun j hj => h j (by omega)), vK xs i (by omega), orI, if_pos (h i (by omega))]
theorem b3S (v : Value) (xs : List Int) (hv : Sl 1 (one I) H v xs) (hl : xs.length < 1000000) : Fn prog 141 [v] H fun r H' => r = I (orI xs) ∧ St prog H H' [] := by
 refine .aS func141 rfl (by kernel_rfl) (m := 18) rfl fun l hn g0 => ?_
 simp (disch := omega) only [↓RA, RZ, simprocAttr, hn, g0, ((sR H).sl hv).len]
 refine Wp.al (fun n l H' => l.length = 18 ∧ get l 3 = I 0 ∧ get l 6 = v ∧ get l 7 = I xs.length ∧ ∃ (i : Nat), (n + i = xs.length ∧ ∀ j, j < i → gN xs j = 0) ∧ get l 8 = I i ∧ St prog H H' []) xs.length ?_ ?_
 ·simp (disch := omega) only [RB, RC, simprocAttr, hn]
  exact ⟨0, ⟨by omega, by simp⟩, rfl, (sR H)⟩
 rintro n l H1 ⟨hn, g3, g6, g7, i, ⟨hi,h0⟩, g8, hS1⟩
 simp (disch := omega) only [↓RA, RB, simprocAttr, hn, g7, g8]
 refine gM (fun h => ?_) (fun h => ?_)
 ·simp (disch := omega) only [↓RA, RZ, simprocAttr, hn, g3, g6, g8, (hS1.sl hv).idx, (hS1.sl hv).ld, one, h]
  refine gM (fun h2 => ?_) (fun h2 => ?_)
  ·simp (disch := omega) only [↓RA, RZ, simprocAttr, hn, b7B, h, h2]
   refine ⟨?_, hS1⟩
   rw [a0h xs i (by omega) h0, vK xs i (by omega), orI, if_neg h2]
  simp (disch := omega) only [↓RA, RZ, simprocAttr, hn, g3, g6, g7, g8, h, h2]
  exact ⟨n - 1, by omega, i + 1, ⟨by omega, fun j hj => by by_cases e : j = i; (· subst e; exact di.1 h2); exact h0 j (by omega)⟩, by simp, hS1⟩
 simp (disch := omega) only [↓RA, RZ, simprocAttr, hn, g3, b7B, h]
 refine ⟨?_, hS1⟩
 rw [a0h xs i (by omega) h0, List.drop_eq_nil_of_le (by omega), orI]
theorem a6D (x y : Int × Int) : orI [rE x.1 y.1, rE x.2 y.2] = cf2 x y := by
 unfold cf2 rE orI orI orI
 split
 ·simp
 ·split
  ·simp
  ·simp
   intro h
   exact h.symm
theorem b5y (x y : Int × Int) : Fn prog 113 [.agg #[I x.1, I x.2], .agg #[I y.1, I y.2]] H fun r H' => r = I (cf2 x y) ∧ St prog H H' [] := by
 refine .aM func113 rfl (by kernel_rfl) (m := 17) rfl fun l hn g0 g1 => ?_
 simp (disch := omega) only [↓RA, RB, simprocAttr, g0]
 refine (sR H).eNew 2 [I x.1, I x.2] rfl rfl rfl uK fun A1 H1 hS1 => ?_
 simp only [RT] at hS1
 simp (disch := omega) only [↓RA, RB, simprocAttr, g1]
 refine hS1.eNew 2 [I y.1, I y.2] rfl rfl rfl uK fun A2 H2 hS2 => ?_
 simp only [RT] at hS2
 simp (disch := omega) only [↓RA, RB, simprocAttr]
 refine Wp.aU jM [(6, 0), (8, 0)] (by kernel_rfl) (by kernel_rfl) ?_
 simp (disch := omega) only [↓RA, RZ, simprocAttr, hn, hS2.ld 0 rfl, hS2.ld 1 rfl]
 refine hS2.cF (tO x.1 y.1) fun H3 hS3 => ?_
 simp (disch := omega) only [↓RA, RZ, simprocAttr, hn, hS3.ld 0 rfl, hS3.ld 1 rfl]
 refine hS3.cF (tO x.2 y.2) fun H4 hS4 => ?_
 simp (disch := omega) only [↓RA, RB, simprocAttr, hn]
 refine hS4.ai [I (rE x.1 y.1), I (rE x.2 y.2)] a3l a7R rfl rfl (by simp [Value.cells]) rfl rfl (by decide) (by decide) fun w1 H5 hS5 => ?_
 simp only [RT] at hS5
 simp (disch := omega) only [↓RA, RZ, simprocAttr, hn]
 refine hS5.cF (b3S w1 [rE x.1 y.1, rE x.2 y.2] (hS5.ay 2 rfl (wF _)) (by simp)) fun H6 hS6 => ?_
 simp (disch := omega) only [↓RA, RZ, simprocAttr, hn, hS2.ld 0 rfl, hS2.ld 1 rfl, c1K]
 exact ⟨by rw [a6D], hS6.forget⟩
theorem a3a (x y : Int × Int) : Fn prog 103 [.agg #[I x.1, I x.2], .agg #[I y.1, I y.2]] H fun r H' => r = I (cf2 x y) ∧ St prog H H' [] := by
 refine .aM func103 rfl (by kernel_rfl) (m := 17) rfl fun l hn g0 g1 => ?_
 simp (disch := omega) only [↓RA, RB, simprocAttr, g0]
 refine (sR H).eNew 2 [I x.1, I x.2] rfl rfl rfl rT fun A1 H1 hS1 => ?_
 simp only [RT] at hS1
 simp (disch := omega) only [↓RA, RB, simprocAttr, g1]
 refine hS1.eNew 2 [I y.1, I y.2] rfl rfl rfl rT fun A2 H2 hS2 => ?_
 simp only [RT] at hS2
 simp (disch := omega) only [↓RA, RB, simprocAttr]
 refine Wp.aU jM [(6, 0), (8, 0)] (by kernel_rfl) (by kernel_rfl) ?_
 simp (disch := omega) only [↓RA, RZ, simprocAttr, hn, hS2.ld 0 rfl, hS2.ld 1 rfl]
 refine hS2.cF (tO x.1 y.1) fun H3 hS3 => ?_
 simp (disch := omega) only [↓RA, RZ, simprocAttr, hn, hS3.ld 0 rfl, hS3.ld 1 rfl]
 refine hS3.cF (tO x.2 y.2) fun H4 hS4 => ?_
 simp (disch := omega) only [↓RA, RB, simprocAttr, hn]
 refine hS4.ai [I (rE x.1 y.1), I (rE x.2 y.2)] a3l a7R rfl rfl (by simp [Value.cells]) rfl rfl (by decide) (by decide) fun w1 H5 hS5 => ?_
 simp only [RT] at hS5
 simp (disch := omega) only [↓RA, RZ, simprocAttr, hn]
 refine hS5.cF (b3S w1 [rE x.1 y.1, rE x.2 y.2] (hS5.ay 2 rfl (wF _)) (by simp)) fun H6 hS6 => ?_
 simp (disch := omega) only [↓RA, RZ, simprocAttr, hn, hS2.ld 0 rfl, hS2.ld 1 rfl, c0V]
 exact ⟨by rw [a6D], hS6.forget⟩
theorem b6m (x y : Int × Int) : Fn prog 213 [.agg #[I x.1, I x.2], .agg #[I y.1, I y.2]] H fun r H' => r = I (cf2 x y) ∧ St prog H H' [] := by
 refine .aM func213 rfl (by kernel_rfl) (m := 17) rfl fun l hn g0 g1 => ?_
 simp (disch := omega) only [↓RA, RB, simprocAttr, g0]
 refine (sR H).eNew 2 [I x.1, I x.2] rfl rfl rfl rT fun A1 H1 hS1 => ?_
 simp only [RT] at hS1
 simp (disch := omega) only [↓RA, RB, simprocAttr, g1]
 refine hS1.eNew 2 [I y.1, I y.2] rfl rfl rfl rT fun A2 H2 hS2 => ?_
 simp only [RT] at hS2
 simp (disch := omega) only [↓RA, RB, simprocAttr]
 refine Wp.aU jM [(6, 0), (8, 0)] (by kernel_rfl) (by kernel_rfl) ?_
 simp (disch := omega) only [↓RA, RZ, simprocAttr, hn, hS2.ld 0 rfl, hS2.ld 1 rfl]
 refine hS2.cF (tO x.1 y.1) fun H3 hS3 => ?_
 simp (disch := omega) only [↓RA, RZ, simprocAttr, hn, hS3.ld 0 rfl, hS3.ld 1 rfl]
 refine hS3.cF (tO x.2 y.2) fun H4 hS4 => ?_
 simp (disch := omega) only [↓RA, RB, simprocAttr, hn]
 refine hS4.ai [I (rE x.1 y.1), I (rE x.2 y.2)] a3l a7R rfl rfl (by simp [Value.cells]) rfl rfl (by decide) (by decide) fun w1 H5 hS5 => ?_
 simp only [RT] at hS5
 simp (disch := omega) only [↓RA, RZ, simprocAttr, hn]
 refine hS5.cF (b3S w1 [rE x.1 y.1, rE x.2 y.2] (hS5.ay 2 rfl (wF _)) (by simp)) fun H6 hS6 => ?_
 simp (disch := omega) only [↓RA, RZ, simprocAttr, hn, hS2.ld 0 rfl, hS2.ld 1 rfl, c0l]
 exact ⟨by rw [a6D], hS6.forget⟩
end Go.Ds
namespace Go.Ds
open Go.Proofs
open Go.Shelf Go.RowKit Go.Lib Go.Sort
theorem lt2 (x y : Int × Int) : ltOf cf2 x y = decide (x.1 < y.1 ∨ (x.1 = y.1 ∧ x.2 < y.2)) := by
 unfold ltOf cf2
 congr 1
 apply propext
 split
 ·omega
 ·split
  ·omega
  ·split
   ·omega
   ·split <;> omega
theorem c2w : SWO (ltOf cf2) where
 irrefl x := by rw [lt2]; simp
 trans x y z h1 h2 := by rw [lt2] at *; simp at *; omega
 ntrans x y z h1 h2 := by rw [lt2] at *; simp at *; omega
theorem c0C (x y : Int × Int) (h1 : ltOf cf2 x y = false) (h2 : ltOf cf2 y x = false) : x = y := by
 rw [lt2] at *
 simp at h1 h2
 apply gn <;> omega
theorem b4l : (fun x y => !(ltOf cf2) y x) = le2 := by
 funext x y
 rw [lt2]
 by_cases h : le2 x y = true
 ·rw [h]
  rw [nD] at h
  rw [du, decide_eq_false_iff_not]
  omega
 ·rw [ew] at h
  rw [h]
  rw [← ew, nD] at h
  rw [Bool.not_eq_false', decide_eq_true_eq]
  omega
def a3M (P : Program) (K kc : FuncId) (sm : Int × Int → Prop) : Prop := ∀ (jV off cap : Nat) (d : Array (Int × Int)) (w : World), (∀ x ∈ d.toList, sm x) → HoldsK jK 2 w jV off d → jV < w.heap.size → d.size < 4611686018427387904 →
    Calls P K #[.slice (some ⟨jV, off, none⟩) d.size cap, .func (.func kc) #[] #[]] w fun e w' => e = .returned (.tuple #[]) ∧ ∃ n os, w' = sortWorldK jK 2 w jV off n (d.toList.mergeSort le2).toArray os
def a1l (P : Program) (K : FuncId) : Prop := ∀ (p : Option Addr) (cap : Nat) (fv : Value) (w : World), Calls P K #[.slice p 0 cap, fv] w fun e w' => e = .returned (.tuple #[]) ∧ w' = w
theorem b3H {P : Program} {kc : FuncId} {α : Type} [Inhabited α] (val : α → Int × Int) (cf : α → α → Int) (hf : ∀ x y, Fn P kc [.agg #[I (val x).1, I (val x).2], .agg #[I (val y).1, I (val y).2]] .nil fun r H' => r = I (cf x y) ∧ St P (.nil : Heap) H' []) (jV off size : Nat) (w : World) : CmpLays P kc #[] (fun x => jK (val x)) 2 cf jV off size w := by
 intro m os dk hdk x y
 generalize sortWorldK (fun x => jK (val x)) 2 w jV off m dk os = W
 obtain ⟨_, v, H1, h1, hr, _⟩ := hf x y
 have ha : All2 (V (fun _ _ => none)) [.agg #[I (val x).1, I (val x).2], .agg #[I (val y).1, I (val y).2]] (#[.agg #[I (val x).1, I (val x).2], .agg #[I (val y).1, I (val y).2]] : Array Value).toList := ⟨.of_flat rfl, .of_flat rfl, trivial⟩
 have hc := CallOk.calls (f := kc) h1 (HRel.none W) ha
 have hargs : (#[.agg (jK (val x)).toArray, .agg (jK (val y)).toArray] ++ #[] : Array Value) = #[.agg #[I (val x).1, I (val x).2], .agg #[I (val y).1, I (val y).2]] := rfl
 rw [hargs]
 refine hc.mono ?_
 rintro e w' ⟨ρ', v', rfl, hp, hv⟩
 subst hr
 have hfr : ∀ b, b < W.heap.size → w'.heap[b]? = W.heap[b]? := fun b hb => (hp.frame b hb (by rintro ⟨A, e, p, jV, hq, _⟩; cases hq)).1
 refine ⟨by rw [hv.ab rfl], w'.drawn - W.drawn, w'.heap.extract W.heap.size w'.heap.size, ?_⟩
 have h1 := hp.os
 have h2 := hp.tape
 have h3 := hp.output
 have h4 := hp.size
 clear hp hv
 obtain ⟨wh, wt, wd, wo, wu⟩ := W
 obtain ⟨ah, at', ad, ao, au⟩ := w'
 simp only at h1 h2 h3 h4 hfr
 simp only [grow, World.drewN, World.mk.injEq]
 refine ⟨?_, h2.1, by omega, h1, h3⟩
 apply Array.ext_getElem?
 intro i
 rw [Array.getElem?_append]
 split
 ·exact hfr i (by assumption)
 ·rw [Array.getElem?_extract]
  split
  ·congr 1; omega
  ·rw [Array.getElem?_eq_none (by omega)]
theorem a4m {P : Program} {kc : FuncId} (hf : ∀ x y, Fn P kc [.agg #[I x.1, I x.2], .agg #[I y.1, I y.2]] .nil fun r H' => r = I (cf2 x y) ∧ St P (.nil : Heap) H' []) (jV off size : Nat) (w : World) : CmpLays P kc #[] jK 2 cf2 jV off size w := b3H (fun x => x) cf2 hf jV off size w
section
variable {P : Program} {H : Heap} {ρ ρ' : Rho} {H' : Heap} {w w1 w2 : World}
theorem Post.cI (h : Post P ρ H w ρ' H' w1) (hsz : w1.heap.size ≤ w2.heap.size) (hb : ∀ b, b < w1.heap.size → w2.heap[b]? = w1.heap[b]?) (h1 : w2.os = w1.os) (h2 : w2.tape = w1.tape ∧ w1.drawn ≤ w2.drawn) (h3 : w2.output = w1.output) : Post P ρ H w ρ' H' w2 where
 le := h.le
 rel := h.rel.other hsz fun A e p hp => hb _ (h.rel.dom _ _ _ hp).2
 len := h.len
 size := dq h.size hsz
 os := h1.trans h.os
 tape := ⟨h2.1.trans h.tape.1, dq h.tape.2 h2.2⟩
 output := h3.trans h.output
 frame b hlt hw := by
  obtain ⟨e, hw'⟩ := h.frame b hlt hw
  exact ⟨(hb b (dB hlt h.size)).trans e, hw'⟩
 loops b r hr := by
  obtain ⟨r', hr'⟩ := h.loops b r hr
  exact ⟨r', by rw [hb b (lF hr')]; exact hr'⟩
 img := h.img
theorem b7R : ∀ (l : List (Int × Int)) (j : Nat), j < l.length * 2 → (jK (l.toArray[j / 2]!))[j % 2]! = (pr l).getD j undef := by
 intro l
 induction l with
 | nil => intro j hj; simp at hj
 | cons x l ih =>
   intro j hj
   have e : pr (x :: l) = I x.1 :: I x.2 :: pr l := rfl
   rw [e]
   match j with
   | 0 => rfl
   | 1 => rfl
   | j + 2 =>
     have h1 : (j + 2) / 2 = j / 2 + 1 := by omega
     have h2 : (j + 2) % 2 = j % 2 := by omega
     have := ih j (by simp at hj; omega)
     rw [h1, h2]
     simp only [List.getD_cons_succ]
     rw [← this]
     congr 2
     simp only [List.getElem!_toArray]
     simp
end
theorem V.func0 {ρ : Rho} {k : FuncId} {v' : Value} (h : V ρ (.func (.func k) #[] #[]) v') : v' = .func (.func k) #[] #[] := by
 cases h with
 | v1 h => cases h with
   | c1 h => cases h with
     | c0 h => cases h with
       | flat h => rfl
     | fn ha hb =>
       rename_i a' b'
       have e1 : a' = #[] := by
        obtain ⟨l⟩ := a'
        cases l with
        | nil => rfl
        | cons => exact ha.elim
       have e2 : b' = #[] := by
        obtain ⟨l⟩ := b'
        cases l with
        | nil => rfl
        | cons => exact hb.elim
       rw [e1, e2]
theorem a7g (es : List (Int × Int)) : jL (pr es) = true := by
 unfold jL
 rw [dg]
 intro c hc
 obtain ⟨x, _, hx⟩ := fz.1 hc
 simp only [jK, dK, dN, or_false] at hx
 rcases hx with rfl | rfl <;> rfl
set_option maxRecDepth 10000 in
theorem b6L {P : Program} {K kc : FuncId} {sm : Int × Int → Prop} (hso : a3M P K kc sm) {H : Heap} {A i lo ver n : Nat} {ty : TypeId} {pre : List Value} {es : List (Int × Int)} (hg : hK H A = some (.cells (pre ++ pr es) ty true lo ver)) (hlo : lo ≤ i + (pr es).length) (hpre : pre.length = i)
 (hn : (pr es).length = n * 2) (hty : gP P ty = some 2) (hl : es.length < 100000000000) (h0 : es ≠ []) (hsm : ∀ x ∈ es, sm x) :
 CallOk P K [.slice (some ⟨A, i, some (i + (pr es).length)⟩) n 2, .func (.func kc) #[] #[]] H (.tuple #[]) (hset H A (.cells (iG (pre ++ pr es) i (pr (tQ es))) ty true (pre ++ pr es).length ver)) := by
 intro k ρ w args' hr ha
 obtain ⟨l⟩ := args'
 match l, ha with
 | [x, f], ⟨hx, hf, _⟩ =>
   obtain rfl := V.func0 hf
   have hlen : (pre ++ pr es).length = i + (pr es).length := by rw [dh, hpre]
   obtain ⟨p, c', a, hp, h0', hin, hnc, hac, hpk, rfl⟩ := hx.aw
   rw [gT] at hn
   have hne : 0 < es.length := fG.2 h0
   have hnn : n = es.length := by omega
   subst hnn
   have ha' : a = ⟨p.b, p.at i, none⟩ := by
    rcases hac with h | h
    ·exact h.1
    ·omega
   subst ha'
   have hp2 : ρ A (pre ++ pr es).length = some p := by rw [hlen]; exact hp
   obtain ⟨_, _, hfit, cur, ty', fr, hw, hsz, hfr, hcell⟩ := (hr.cells _ _ _ _ _ _ hg).2 _ _ hp2
   obtain ⟨rfl, hd0, _⟩ := hfr rfl
   let d : Array (Int × Int) := es.toArray
   have hds : d.size = es.length := by simp [d]
   have hfl := fun j hj => b7R es j (by simpa using hj)
   have hH : Go.Sort.HoldsK jK 2 w p.b (p.at i) d := by
    intro j hj
    rw [Go.Sort.size_flatK, hds] at hj
    constructor
    ·have hc : (pre ++ pr es)[i + j]? = some ((pr es).getD j undef) := by
      rw [dU (by omega), hpre, fK, cV, db (by rw [gT]; omega)]
      rfl
     obtain ⟨c2, hc2, hrel⟩ := hcell (by rw [hlen]; exact hlo) (i + j) _ (by rw [hlen, gT]; omega) (by omega) hc
     have hsc : iE ((pr es).getD j undef) = true := by
      have := a7g es
      unfold jL at this
      rw [dg] at this
      apply this
      rw [cV, db (by rw [gT]; omega)]
      exact gf _
     have := hrel.az hsc
     subst this
     have hat : p.at (i + j) = p.at i + j := by unfold Place.at; omega
     rw [hat] at hc2
     simp only [World.cell?, hw]
     rw [Go.Sort.get_flatK _ _ _ _ (by rw [hds]; exact hj), hfl j hj]
     exact hc2
    ·simp only [World.frozen?, hw]
     simp
   have hcon := hso p.b (p.at i) c' d w (by simpa [d] using hsm) hH (hr.dom _ _ _ hp).2 (by rw [hds]; omega)
   rw [hds] at hcon
   obtain ⟨w1, hrun, hpost⟩ := sB hr hg hp2 h0' (.aF (a7g (tQ es))) (by rw [hlen, gT, gT, (nY es).length_eq]; omega) (by rw [hlen]; exact hlo)
   have hcsz : p.at i + (pr (tQ es)).length ≤ cur.size := by
    rw [gT, (nY es).length_eq, hsz]
    unfold Place.at
    rw [hlen, gT] at hfit
    omega
   have hst := run_storeCells_at (P := P) p.b (p.at i) ty' (pr (tQ es)) 0 cur w hw (by simpa using hcsz) (All2.aF (ρ := ρ) (a7g (tQ es))).aT
   rw [hst] at hrun
   injection hrun with _ hw1
   subst hw1
   refine callsIn_wide.2 (hcon.mono ?_)
   rintro e w' ⟨rfl, m, os, rfl⟩
   refine ⟨ρ, _, rfl, ?_, .tuple trivial⟩
   have hsl : (tQ es).length = es.length := (nY es).length_eq
   have hml : ((d.toList.mergeSort le2)).length = es.length := by simp [d]
   have hfs : ∀ j, j < es.length * 2 → (Go.Sort.flatK jK 2 (d.toList.mergeSort le2).toArray)[j]! = (pr (tQ es)).getD j undef := fun j hj => by
    rw [Go.Sort.get_flatK _ _ _ _ (by simpa [d] using hj)]
    exact b7R (d.toList.mergeSort le2) j (by rw [hml]; exact hj)
   have hFs : (Go.Sort.flatK jK 2 (d.toList.mergeSort le2).toArray).size = es.length * 2 := by simp [d]
   unfold sortWorldK Go.Sort.putRowK
   generalize Go.Sort.flatK jK 2 (d.toList.mergeSort le2).toArray = F at hfs hFs ⊢
   have hlt := lF hw
   have hh : ∀ b, b < w.heap.size → (Go.Sort.grow (Go.Sort.putRow id (Go.Sort.ahead w m) p.b (p.at i) F) os).heap[b]? = (Go.Sort.putRow id (Go.Sort.ahead w m) p.b (p.at i) F).heap[b]? := fun b hb => by
    have : b < (Go.Sort.putRow id (Go.Sort.ahead w m) p.b (p.at i) F).heap.size := by simpa [Go.Sort.putRow, Go.Sort.mapBlock, Go.Sort.ahead] using hb
    unfold Go.Sort.grow
    exact eT this
   refine hpost.cI ?_ ?_ rfl ⟨rfl, Nat.le_add_right _ _⟩ rfl
   ·simp [Go.Sort.grow, Go.Sort.putRow, Go.Sort.mapBlock, Go.Sort.ahead]
   ·intro b hbs
    rw [setRow_size] at hbs
    rw [hh b hbs]
    by_cases e : b = p.b
    ·subst e
     rw [setRow_heap w p.b cur _ ty' (0, 0) hw]
     have e2 : (Go.Sort.putRow id (Go.Sort.ahead w m) p.b (p.at i) F).heap[p.b]? = some (.cells (Go.Sort.putCells id (p.at i) F cur) ty' (0, 0)) := by
      simp [Go.Sort.putRow, Go.Sort.mapBlock, Go.Sort.ahead, fT, hw, Go.Sort.onCells]
     rw [e2]
     congr 2
     apply Array.ext_getElem?
     intro j
     have hseg := a4e cur.toList (pr (tQ es)) (p.at i) j (by simpa using hcsz)
     have e3 : ((List.take (p.at i + 0) cur.toList ++ pr (tQ es) ++ List.drop (p.at i + 0 + (pr (tQ es)).length) cur.toList).toArray)[j]? = (List.take (p.at i) cur.toList ++ pr (tQ es) ++ List.drop (p.at i + (pr (tQ es)).length) cur.toList)[j]? := by simp
     rw [e3, hseg]
     simp only [Go.Sort.putCells, Array.getElem?_mapIdx, fS]
     rw [gT, hsl] at hcsz ⊢
     by_cases h1 : p.at i ≤ j ∧ j < p.at i + es.length * 2
     ·rw [if_pos h1]
      have hjc : j < cur.size := by omega
      rw [fb hjc]
      simp only [dy]
      rw [if_pos (by rw [hFs]; exact h1), hfs _ (by omega), cV, db (by rw [gT, hsl]; omega)]
      rfl
     ·rw [if_neg h1]
      cases hc : cur[j]? with
      | none => simp
      | some c =>
        simp only [dy]
        rw [if_neg (by rw [hFs]; exact h1)]
    ·rw [setRow_other _ _ _ _ e]
     simp [Go.Sort.putRow, Go.Sort.mapBlock, Go.Sort.ahead, fT, eH e]
theorem a1j {P : Program} {K kc : FuncId} {sm : Int × Int → Prop} (hso : a3M P K kc sm) (hno : a1l P K) (hent0 : pQ P K) {H : Heap} {H0 : Base} {os : List Ob} (hS : St P H0 H os) (i : Nat) {v : Value} {es : List (Int × Int)} (ho : os[i]? = some ⟨v, 2, pr es⟩) (hl : es.length < 100000000000) (hsm : ∀ x ∈ es, sm x) {Q : Value → Heap → Prop}
 (h : ∀ H1, St P H0 H1 (os.set i ⟨v, 2, pr (tQ es)⟩) → Q (.tuple #[]) H1) : uM P K [v, .func (.func kc) #[] #[]] H Q := by
 have hent : pQ P K := hent0
 by_cases h0 : es = []
 ·subst h0
  refine ⟨.tuple #[], H, hent, ?_, h H ?_⟩
  ·intro k ρ w args' hr ha
   obtain ⟨l⟩ := args'
   match l, ha with
   | [x, f], ⟨hx, hf, _⟩ =>
     obtain rfl := V.func0 hf
     have hown := hS.own _ (dA ho)
     unfold OwnAt at hown
     rw [if_neg (by simp)] at hown
     have hx0 : ∃ p cap, x = .slice p 0 cap := by
      rcases hown with ⟨h2, _⟩ | ⟨A, j, ty, lo', ver, pre, m, h2, h3, h4, h5, h6, h7⟩
      ·simp only at h2
       subst h2
       rcases hx.ax with ⟨_, _, _, rfl⟩ | ⟨A, j, e, p, c', a, hh, _⟩
       ·exact ⟨_, _, rfl⟩
       ·cases hh
      ·simp only at h5 h6
       subst h6
       have hm : m = 0 := by have : (pr []).length = 0 := rfl; omega
       subst hm
       obtain ⟨p, c', a, _, _, _, _, _, _, rfl⟩ := hx.aw
       exact ⟨_, _, rfl⟩
     obtain ⟨p, cap, rfl⟩ := hx0
     refine callsIn_wide.2 ((hno p cap _ w).mono ?_)
     rintro e w' ⟨rfl, rfl⟩
     exact ⟨ρ, _, rfl, .refl hr, .tuple trivial⟩
  ·obtain ⟨hi, hoi⟩ := dc.1 ho
   have e : tQ [] = [] := List.Perm.eq_nil (nY [])
   rw [e, ← hoi, List.set_getElem_self]
   exact hS
 ·have hown := hS.own _ (dA ho)
  unfold OwnAt at hown
  rw [if_neg (by simp)] at hown
  have hne : 0 < es.length := fG.2 h0
  rcases hown with ⟨_, h3⟩ | ⟨A, j, ty, lo', ver, pre, m, h2, h3, h4, h5, h6, h7⟩
  ·simp only at h3
   have := congrArg List.length h3
   rw [gT, eN] at this
   omega
  ·simp only at h2 h3 h5 h6
   have hsl : (pr (tQ es)).length = (pr es).length := by rw [gT, gT, (nY es).length_eq]
   have hcall := b6L hso h2 h3 h4 h5 h7 hl h0 hsm
   rw [← h6] at hcall
   refine ⟨_, _, hent, hcall, h _ (hS.put i ho ?_ ?_ ?_ ?_)⟩
   ·unfold OwnAt
    rw [if_neg (by simp)]
    refine .inr ⟨A, j, ty, (pre ++ pr es).length, ver, pre, m, ?_, ?_, h4, ?_, ?_, h7⟩
    ·rw [hP _ (iR h2)]
     have := lS (pr (tQ es)) pre (pr es) (by rw [hsl]; exact cZ _)
     rw [h4] at this
     rw [this, hsl, List.drop_length, dj]
    ·simp only [dh, h4, hsl]; exact cZ _
    ·simp only [hsl]; exact h5
    ·simp only [hsl]; exact h6
   ·rw [iS]; exact cZ _
   ·intro B' hB hne'
    refine pE fun hh => hne' ?_
    simp [jV, h6, hh]
   ·intro B' hB
    exact .inl hB
end Go.Ds
namespace Go.Proofs
open Go.Shelf
def Tryz.bq : Go.Shelf.Ren := ⟨fun | 6 => 70 | 15 => 124 | 14 => 123 | 28 => 167 | 29 => 168 | 20 => 159 | 21 => 160 | 22 => 161 | 23 => 162 | 24 => 163 | 25 => 164 | 26 => 165 | 27 => 166 | 46 => 214 | 47 => 215 | 48 => 216 | 49 => 217 | 50 => 218 | 57 => 245 | n => n, fun | 22 => 45 | 24 => 74 | 25 => 161 | 3 => 3 | 39 => 143 | 0 => 0 | 53 => 257 | 55 => 28 | 4 => 4 | 46 => 251 | 45 => 250 | 50 => 197 | 5 => 5 | 9 => 9 | 66 => 300 | 70 => 304 | 76 => 334 | 77 => 335 | n => n, fun | n => n⟩
theorem Tryz.bM : Go.Proofs.SlLaysF0.n6 Tryz.prog Tryz.bq := {
 mixed := by kernel_rfl
 f6 := ⟨Tryz.f70.name, by decide, Tryz.func70.trans (congrArg some (by kernel_rfl))⟩
 f14 := ⟨Tryz.f123.name, by decide, Tryz.func123.trans (congrArg some (by kernel_rfl))⟩
 f15 := Tryz.func124.trans (congrArg some (by kernel_rfl))
 f20 := ⟨Tryz.f159.name, by decide, Tryz.func159.trans (congrArg some (by kernel_rfl))⟩
 f21 := ⟨Tryz.f160.name, by decide, Tryz.func160.trans (congrArg some (by kernel_rfl))⟩
 f22 := ⟨Tryz.f161.name, by decide, Tryz.func161.trans (congrArg some (by kernel_rfl))⟩
 f23 := ⟨Tryz.f162.name, by decide, Tryz.func162.trans (congrArg some (by kernel_rfl))⟩
 f24 := ⟨Tryz.f163.name, by decide, Tryz.func163.trans (congrArg some (by kernel_rfl))⟩
 f25 := ⟨Tryz.f164.name, by decide, Tryz.func164.trans (congrArg some (by kernel_rfl))⟩
 f26 := ⟨Tryz.f165.name, by decide, Tryz.func165.trans (congrArg some (by kernel_rfl))⟩
 f27 := ⟨Tryz.f166.name, by decide, Tryz.func166.trans (congrArg some (by kernel_rfl))⟩
 f28 := Tryz.func167.trans (congrArg some (by kernel_rfl))
 f29 := Tryz.func168.trans (congrArg some (by kernel_rfl))
 f46 := ⟨Tryz.f214.name, by decide, Tryz.func214.trans (congrArg some (by kernel_rfl))⟩
 f47 := Tryz.func215.trans (congrArg some (by kernel_rfl))
 f48 := Tryz.func216.trans (congrArg some (by kernel_rfl))
 f49 := ⟨Tryz.f217.name, by decide, Tryz.func217.trans (congrArg some (by kernel_rfl))⟩
 f50 := ⟨Tryz.f218.name, by decide, Tryz.func218.trans (congrArg some (by kernel_rfl))⟩
 f57 := ⟨Tryz.f245.name, by decide, Tryz.func245.trans (congrArg some (by kernel_rfl))⟩
 t0 := Tryz.underlying0
 a0 := Tryz.isAgg0
 z0 := Tryz.sizeOf0
 v0 := Tryz.zeroValue0
 t3 := Tryz.underlying3
 a3 := Tryz.isAgg3
 z3 := Tryz.sizeOf3
 v3 := Tryz.zeroValue3
 t4 := Tryz.underlying4
 a4 := Tryz.isAgg4
 z4 := Tryz.sizeOf4
 v4 := Tryz.zeroValue4
 t5 := Tryz.underlying5
 a5 := Tryz.isAgg5
 z5 := Tryz.sizeOf5
 v5 := Tryz.zeroValue5
 t9 := Tryz.underlying9
 a9 := Tryz.isAgg9
 z9 := Tryz.sizeOf9
 v9 := Tryz.zeroValue9
 t22 := Tryz.underlying45
 a22 := Tryz.isAgg45
 z22 := Tryz.sizeOf45
 v22 := Tryz.zeroValue45
 t25 := Tryz.underlying161
 a25 := Tryz.isAgg161
 z25 := Tryz.sizeOf161
 v25 := Tryz.zeroValue161
 t39 := Tryz.underlying143
 a39 := Tryz.isAgg143
 z39 := Tryz.sizeOf143
 v39 := Tryz.zeroValue143
 t45 := Tryz.underlying250
 a45 := Tryz.isAgg250
 z45 := Tryz.sizeOf250
 v45 := Tryz.zeroValue250
 t46 := Tryz.underlying251
 a46 := Tryz.isAgg251
 z46 := Tryz.sizeOf251
 v46 := Tryz.zeroValue251
 t50 := Tryz.underlying197
 a50 := Tryz.isAgg197
 z50 := Tryz.sizeOf197
 v50 := Tryz.zeroValue197
 t53 := Tryz.underlying257
 a53 := Tryz.isAgg257
 z53 := Tryz.sizeOf257
 v53 := Tryz.zeroValue257
 t55 := Tryz.underlying28
 a55 := Tryz.isAgg28
 z55 := Tryz.sizeOf28
 v55 := Tryz.zeroValue28
 t66 := Tryz.underlying300
 a66 := Tryz.isAgg300
 z66 := Tryz.sizeOf300
 v66 := Tryz.zeroValue300
 t70 := Tryz.underlying304
 a70 := Tryz.isAgg304
 z70 := Tryz.sizeOf304
 v70 := Tryz.zeroValue304
 t76 := Tryz.underlying334
 a76 := Tryz.isAgg334
 z76 := Tryz.sizeOf334
 v76 := Tryz.zeroValue334
 t77 := Tryz.underlying335
 a77 := Tryz.isAgg335
 z77 := Tryz.sizeOf335
 v77 := Tryz.zeroValue335 }
def Tryz.bk : Go.Shelf.Ren := ⟨fun | 6 => 112 | 15 => 124 | 14 => 148 | 28 => 167 | 29 => 168 | 20 => 194 | 21 => 195 | 22 => 196 | 23 => 197 | 24 => 198 | 25 => 199 | 26 => 200 | 27 => 201 | 46 => 232 | 47 => 215 | 48 => 216 | 49 => 233 | 50 => 234 | 57 => 250 | n => n, fun | 22 => 60 | 24 => 67 | 25 => 210 | 3 => 3 | 39 => 143 | 0 => 0 | 53 => 257 | 55 => 28 | 4 => 4 | 46 => 251 | 45 => 250 | 50 => 197 | 5 => 5 | 9 => 9 | 66 => 300 | 70 => 304 | 76 => 334 | 77 => 335 | n => n, fun | n => n⟩
theorem Tryz.bz : Go.Proofs.SlLaysF0.n6 Tryz.prog Tryz.bk := {
 mixed := by kernel_rfl
 f6 := ⟨Tryz.f112.name, by decide, Tryz.func112.trans (congrArg some (by kernel_rfl))⟩
 f14 := ⟨Tryz.f148.name, by decide, Tryz.func148.trans (congrArg some (by kernel_rfl))⟩
 f15 := Tryz.func124.trans (congrArg some (by kernel_rfl))
 f20 := ⟨Tryz.f194.name, by decide, Tryz.func194.trans (congrArg some (by kernel_rfl))⟩
 f21 := ⟨Tryz.f195.name, by decide, Tryz.func195.trans (congrArg some (by kernel_rfl))⟩
 f22 := ⟨Tryz.f196.name, by decide, Tryz.func196.trans (congrArg some (by kernel_rfl))⟩
 f23 := ⟨Tryz.f197.name, by decide, Tryz.func197.trans (congrArg some (by kernel_rfl))⟩
 f24 := ⟨Tryz.f198.name, by decide, Tryz.func198.trans (congrArg some (by kernel_rfl))⟩
 f25 := ⟨Tryz.f199.name, by decide, Tryz.func199.trans (congrArg some (by kernel_rfl))⟩
 f26 := ⟨Tryz.f200.name, by decide, Tryz.func200.trans (congrArg some (by kernel_rfl))⟩
 f27 := ⟨Tryz.f201.name, by decide, Tryz.func201.trans (congrArg some (by kernel_rfl))⟩
 f28 := Tryz.func167.trans (congrArg some (by kernel_rfl))
 f29 := Tryz.func168.trans (congrArg some (by kernel_rfl))
 f46 := ⟨Tryz.f232.name, by decide, Tryz.func232.trans (congrArg some (by kernel_rfl))⟩
 f47 := Tryz.func215.trans (congrArg some (by kernel_rfl))
 f48 := Tryz.func216.trans (congrArg some (by kernel_rfl))
 f49 := ⟨Tryz.f233.name, by decide, Tryz.func233.trans (congrArg some (by kernel_rfl))⟩
 f50 := ⟨Tryz.f234.name, by decide, Tryz.func234.trans (congrArg some (by kernel_rfl))⟩
 f57 := ⟨Tryz.f250.name, by decide, Tryz.func250.trans (congrArg some (by kernel_rfl))⟩
 t0 := Tryz.underlying0
 a0 := Tryz.isAgg0
 z0 := Tryz.sizeOf0
 v0 := Tryz.zeroValue0
 t3 := Tryz.underlying3
 a3 := Tryz.isAgg3
 z3 := Tryz.sizeOf3
 v3 := Tryz.zeroValue3
 t4 := Tryz.underlying4
 a4 := Tryz.isAgg4
 z4 := Tryz.sizeOf4
 v4 := Tryz.zeroValue4
 t5 := Tryz.underlying5
 a5 := Tryz.isAgg5
 z5 := Tryz.sizeOf5
 v5 := Tryz.zeroValue5
 t9 := Tryz.underlying9
 a9 := Tryz.isAgg9
 z9 := Tryz.sizeOf9
 v9 := Tryz.zeroValue9
 t22 := Tryz.underlying60
 a22 := Tryz.isAgg60
 z22 := Tryz.sizeOf60
 v22 := Tryz.zeroValue60
 t25 := Tryz.underlying210
 a25 := Tryz.isAgg210
 z25 := Tryz.sizeOf210
 v25 := Tryz.zeroValue210
 t39 := Tryz.underlying143
 a39 := Tryz.isAgg143
 z39 := Tryz.sizeOf143
 v39 := Tryz.zeroValue143
 t45 := Tryz.underlying250
 a45 := Tryz.isAgg250
 z45 := Tryz.sizeOf250
 v45 := Tryz.zeroValue250
 t46 := Tryz.underlying251
 a46 := Tryz.isAgg251
 z46 := Tryz.sizeOf251
 v46 := Tryz.zeroValue251
 t50 := Tryz.underlying197
 a50 := Tryz.isAgg197
 z50 := Tryz.sizeOf197
 v50 := Tryz.zeroValue197
 t53 := Tryz.underlying257
 a53 := Tryz.isAgg257
 z53 := Tryz.sizeOf257
 v53 := Tryz.zeroValue257
 t55 := Tryz.underlying28
 a55 := Tryz.isAgg28
 z55 := Tryz.sizeOf28
 v55 := Tryz.zeroValue28
 t66 := Tryz.underlying300
 a66 := Tryz.isAgg300
 z66 := Tryz.sizeOf300
 v66 := Tryz.zeroValue300
 t70 := Tryz.underlying304
 a70 := Tryz.isAgg304
 z70 := Tryz.sizeOf304
 v70 := Tryz.zeroValue304
 t76 := Tryz.underlying334
 a76 := Tryz.isAgg334
 z76 := Tryz.sizeOf334
 v76 := Tryz.zeroValue334
 t77 := Tryz.underlying335
 a77 := Tryz.isAgg335
 z77 := Tryz.sizeOf335
 v77 := Tryz.zeroValue335 }
end Go.Proofs
namespace Go.Ds
open Go.Proofs Go.Proofs.Tryz Go.Shelf Go.RowKit Go.Lib Go.Sort
theorem a4r (x : Int × Int) : ∀ v ∈ jK x, v.oneCell' = true := by
 intro v hv
 simp [jK] at hv
 rcases hv with rfl | rfl <;> rfl
theorem c0x (kc : FuncId) (eg : ∀ args w, (callFunc kc args).run prog w = .ok (.enter kc args) w) (hf : ∀ x y, Fn prog kc [.agg #[I x.1, I x.2], .agg #[I y.1, I y.2]] .nil fun r H' => r = I (cf2 x y) ∧ St prog (.nil : Heap) H' []) : a3M prog 70 kc (fun _ => True) :=
 fun jV off cap d w _ hH hblk hsz => by
  have h := AnyQ.slices_SortFunc_total Tryz.bM 2 Tryz.isAgg74 Tryz.sizeOf74 jK (fun _ => rfl) a4r cf2 c2w kc #[] jV off cap d w eg (a4m hf jV off d.size w) hH hblk hsz c0C
  rw [b4l] at h
  exact h
theorem c2t (kc : FuncId) (eg : ∀ args w, (callFunc kc args).run prog w = .ok (.enter kc args) w) (hf : ∀ x y, Fn prog kc [.agg #[I x.1, I x.2], .agg #[I y.1, I y.2]] .nil fun r H' => r = I (cf2 x y) ∧ St prog (.nil : Heap) H' []) : a3M prog 112 kc (fun _ => True) :=
 fun jV off cap d w _ hH hblk hsz => by
  have h := AnyQ.slices_SortFunc_total Tryz.bz 2 Tryz.isAgg67 Tryz.sizeOf67 jK (fun _ => rfl) a4r cf2 c2w kc #[] jV off cap d w eg (a4m hf jV off d.size w) hH hblk hsz c0C
  rw [b4l] at h
  exact h
theorem c1B : a1l prog 70 := fun p cap fv w => AnyF.slices_SortFunc_none { Tryz.bM with } p cap fv w
theorem c0W : a1l prog 112 := fun p cap fv w => AnyF.slices_SortFunc_none { Tryz.bz with } p cap fv w
def a7c (K kc : FuncId) : Prop := ∀ {H : Heap} {B : Base} {os : List Ob} (hS : St prog B H os) (i : Nat) {v : Value} {es : List (Int × Int)} (ho : os[i]? = some ⟨v, 2, pr es⟩) (hl : es.length < 100000000000) {Q : Value → Heap → Prop}
    (h : ∀ H1, St prog B H1 (os.set i ⟨v, 2, pr (tQ es)⟩) → Q (.tuple #[]) H1), uM prog K [v, .func (.func kc) #[] #[]] H Q
theorem c2g : pQ prog 70 := ⟨Tryz.f70, func70, by kernel_rfl, by kernel_rfl⟩
theorem c1N : pQ prog 112 := ⟨Tryz.f112, func112, by kernel_rfl, by kernel_rfl⟩
theorem c1A : a7c 70 213 := fun hS i _ _ ho hl _ h => a1j (c0x 213 (enters_of func213 (by kernel_rfl) rfl) fun x y => b6m x y) c1B c2g hS i ho hl (fun _ _ => trivial) h
theorem c0v : a7c 70 103 := fun hS i _ _ ho hl _ h => a1j (c0x 103 (enters_of func103 (by kernel_rfl) rfl) fun x y => a3a x y) c1B c2g hS i ho hl (fun _ _ => trivial) h
theorem c1j : a7c 112 113 := fun hS i _ _ ho hl _ h => a1j (c2t 113 (enters_of func113 (by kernel_rfl) rfl) fun x y => b5y x y) c0W c1N hS i ho hl (fun _ _ => trivial) h
end Go.Ds
namespace Go.Ds
open Go.Proofs Go.Proofs.Tryz
variable {H : Heap}
set_option maxRecDepth 10000
theorem a3G {p : Nat → Bool} {n j : Nat} (h : pY p n = (j : Int)) : j < n := by
 unfold pY at h
 split at h
 ·rename_i q hq
  have := dm.1 (gg hq)
  omega
 ·omega
theorem b5n (g : Seg) (hg : g.In H) (key : Int) (A : Nat) (hA : Var H A 1 [I key]) : Fn prog 212 [.agg #[I g.lo, I g.hi, g.dv], ptr A 0 1] H fun r H' => r = .bool (decide (g.lo ≤ key) && decide (key ≤ g.hi)) ∧ St prog H H' [] := by
 refine .aM func212 rfl (by kernel_rfl) (m := 14) rfl fun l hn g0 g1 => ?_
 simp (disch := omega) only [↓RA, RB, simprocAttr, g0]
 refine (sR H).eNew 3 [I g.lo, I g.hi, g.dv] rfl rfl (by simp [OC, ((sR H).sl hg.1).cells.2.1]) a1c fun A1 H1 hS1 => ?_
 simp only [RT] at hS1
 simp (disch := omega) only [↓RA, RZ, simprocAttr, hn, g1, hS1.ld 0 rfl, (hS1.va hA).ld]
 refine jO (fun h1 => ?_) (fun h1 => ?_)
 ·simp (disch := omega) only [↓RA, RZ, simprocAttr, hn, g1, (hS1.va hA).ld, hS1.ld 0 rfl, b7A, h1]
  first | exact hS1.forget | exact ⟨by simp [h1], hS1.forget⟩
 simp (disch := omega) only [↓RA, RZ, simprocAttr, hn, b7A, h1]
 first | exact hS1.forget | exact ⟨by simp [], hS1.forget⟩
theorem b5I (v : Value) (xs : List Seg) (hv : Sl 3 Seg.cells H v xs) (hl : xs.length < 1000000000) (k : FuncId) (caps : List Value) (p : Nat → Bool)
 (hf : ∀ j H1, j < xs.length → St prog H H1 [] → Fn prog k (.agg #[I (gN xs j).lo, I (gN xs j).hi, (gN xs j).dv] :: caps) H1 fun r H2 => r = .bool (p j) ∧ St prog H1 H2 []) :
 Fn prog 211 [v, .func (.func k) #[] caps.toArray] H fun r H' => r = I (pY p xs.length) ∧ St prog H H' [] := by
 refine .aM func211 rfl (by kernel_rfl) (m := 19) rfl fun l hn g0 g1 => ?_
 simp (disch := omega) only [↓RA, RZ, simprocAttr, hn, g0, ((sR H).sl hv).len]
 refine Wp.al (fun n l H' => l.length = 19 ∧ get l 0 = v ∧ get l 1 = .func (.func k) #[] caps.toArray ∧ get l 7 = I xs.length ∧ ∃ (j : Nat), (n + j = xs.length ∧ ∀ q, q < j → p q = false) ∧ get l 8 = I j ∧ St prog H H' []) xs.length ?_ ?_
 ·simp (disch := omega) only [RB, RC, simprocAttr, hn, g0, g1]
  exact ⟨0, ⟨by omega, fun q hq => absurd hq (dz _)⟩, rfl, (sR H)⟩
 rintro n l H1 ⟨hn, g0, g1, g7, j, ⟨hi,h0⟩, g8, hS1⟩
 simp (disch := omega) only [↓RA, RB, simprocAttr, hn, g7, g8]
 refine gM (fun h => ?_) (fun h => ?_)
 ·simp (disch := omega) only [↓RA, RZ, simprocAttr, hn, g0, g1, g8, (hS1.sl hv).idx, (hS1.sl hv).aj, Seg.cells, h]
  refine hS1.cF (hf j _ (by omega) hS1) fun H2 hS2 => ?_
  simp (disch := omega) only [↓RA, RZ, simprocAttr, hn, h]
  refine jE (fun hp => ?_) (fun hp => ?_)
  ·simp (disch := omega) only [↓RA, RZ, simprocAttr, hn, b7G, h, hp]
   exact ⟨by rw [a0c p xs.length j (by omega) hp h0], hS2⟩
  simp (disch := omega) only [↓RA, RZ, simprocAttr, hn, g0, g1, g7, g8, h, hp]
  exact ⟨n - 1, by omega, j + 1, ⟨by omega, fun q hq => by rcases de.1 hq with e | e; (· exact h0 q e); (· rw [e]; exact hp)⟩, by simp, hS2⟩
 simp (disch := omega) only [↓RA, RZ, simprocAttr, hn, b7G, h]
 exact ⟨by rw [a0a p xs.length fun q hq => h0 q (by omega)], hS1⟩
theorem a6S {H0 : Heap} {os0 : List Ob} (hS0 : St prog H0 H os0) (s : Stp) (hs0 : s.In H0) (key : Int) : Fn prog 153 [.agg #[.string s.name, I s.num, I s.den, s.gv], I key] H fun r H' => ∃ g : Seg, r = .agg #[I g.lo, I g.hi, g.dv] ∧ g.In H0 ∧ g.draws = a6Q s key ∧ St prog H H' [] := by
 have hs := hs0.ae hS0
 have hl := hs.2.2
 refine .aM func153 rfl (by kernel_rfl) (m := 18) rfl fun l hn g0 g1 => ?_
 simp (disch := omega) only [↓RA, RB, simprocAttr, g0]
 refine (sR H).eNew 4 [(.string s.name), I s.num, I s.den, s.gv] rfl rfl (by simp [OC, ((sR H).sl hs.1).cells.2.1]) nH fun A1 H1 hS1 => ?_
 simp only [RT] at hS1
 simp (disch := omega) only [↓RA, RB, simprocAttr, g1]
 refine hS1.eNew 1 [I key] rfl rfl rfl tS3 fun A2 H2 hS2 => ?_
 simp only [RT] at hS2
 simp (disch := omega) only [↓RA, RZ, simprocAttr]
 refine hS2.eNew 3 [I 0, I 0, (.slice none 0 0)] rfl rfl rfl a1c fun A3 H3 hS3 => ?_
 simp only [RT] at hS3
 simp (disch := omega) only [↓RA, RZ, simprocAttr, hn, hS3.ld 0 rfl]
 have hA := hS3.var 1 rfl
 have hSc := hS3
 refine hS3.cF (b5I s.gv s.segs (hS3.sl hs.1) hs.2.2 212 [ptr A2 0 1] (a6O s key) (fun j H1 hj hS' => b5n _ ((hs.2.1 _ (gS hj)).ae (hSc.trans hS')) key A2 (hA.ae hS'.ae))) fun H4 hS4 => ?_
 simp (disch := omega) only [↓RA, RB, simprocAttr, hn]
 refine gM (fun h => ?_) (fun h => ?_)
 ·simp (disch := omega) only [↓RA, RZ, simprocAttr, hn, b8v, h]
  refine hS4.aa 2 rfl [I 0, I 0, (.slice none 0 0)] rfl rfl a1c (by simp) fun H5 hS5 => ?_
  simp only [RT] at hS5
  simp (disch := omega) only [↓RA, RZ, simprocAttr, hn, b8e, hS5.aj 2 rfl, h]
  exact ⟨⟨0, 0, .slice none 0 0, []⟩, rfl, ⟨⟨.inl ⟨rfl, rfl⟩, fun _ => rfl, by decide⟩, by simp⟩, by rw [a6Q, if_pos h], hS5.forget⟩
 obtain ⟨j, hj⟩ : ∃ j : Nat, pY (a6O s key) s.segs.length = j := ⟨(pY (a6O s key) s.segs.length).toNat, by omega⟩
 have hjl : j < s.segs.length := a3G hj
 simp (disch := omega) only [↓RA, RZ, simprocAttr, hn, hS4.ld 0 rfl, (hS4.sl hs.1).idx, (hS4.sl hs.1).aj, Seg.cells, hj]
 refine hS4.aa 2 rfl [I (gN s.segs j).lo, I (gN s.segs j).hi, (gN s.segs j).dv] rfl (by simp [OC, (hS4.sl (hs.2.1 (gN s.segs j) (gS (by omega))).1).cells.2.1]) a1c (by simp) fun H6 hS6 => ?_
 simp only [RT] at hS6
 simp (disch := omega) only [↓RA, RZ, simprocAttr, hn, b8e, hS6.aj 2 rfl, hj]
 exact ⟨gN s.segs j, rfl, hs0.2.1 _ (gS hjl), by rw [a6Q, if_neg h, hj]; rfl, hS6.forget⟩
theorem b6f (rv : Value) (rks : List Rk) (hr : Sl 6 Rk.cells H rv rks) (hrk : ∀ r ∈ rks, r.In H) (hl : rks.length < 1000000000) (d : Drw) (key : Int) :
 Fn prog 154 [rv, .agg #[I d.rank, I d.shift], I key] H fun r H' => r = .tuple #[.agg #[I (nV rks d key).1, I (nV rks d key).2], .bool (xZ rks d key)] ∧ St prog H H' [] := by
 refine .bD func154 rfl (by kernel_rfl) (m := 48) rfl fun l hn g0 g1 g2 => ?_
 simp (disch := omega) only [↓RA, RB, simprocAttr, g1]
 refine (sR H).eNew 2 [I d.rank, I d.shift] rfl rfl rfl yP fun A1 H1 hS1 => ?_
 simp only [RT] at hS1
 simp (disch := omega) only [↓RA, RZ, simprocAttr]
 refine hS1.eNew 2 [I 0, I 0] rfl rfl rfl rT fun A2 H2 hS2 => ?_
 simp only [RT] at hS2
 simp (disch := omega) only [↓RA, RZ, simprocAttr, hn, hS2.ld 0 rfl]
 refine gW (fun h1 => ?_) (fun h1 => ?_)
 ·simp (disch := omega) only [↓RA, RZ, simprocAttr, hn, b8h, h1]
  refine hS2.aa 1 rfl [I 0, I 0] rfl rfl rT (by simp) fun H3 hS3 => ?_
  simp only [RT] at hS3
  simp (disch := omega) only [↓RA, RZ, simprocAttr, hn, a8M, hS3.aj 1 rfl, h1]
  exact ⟨by rw [nV, xZ, if_pos (by omega), decide_eq_true (by omega)]; rfl, hS3.forget⟩
 simp (disch := omega) only [↓RA, RZ, simprocAttr, hn, g0, hS2.ld 0 rfl, (hS2.sl hr).len, h1]
 refine gM (fun h2 => ?_) (fun h2 => ?_)
 ·simp (disch := omega) only [↓RA, RZ, simprocAttr, hn, b8h, h1, h2]
  refine hS2.aa 1 rfl [I 0, I 0] rfl rfl rT (by simp) fun H4 hS4 => ?_
  simp only [RT] at hS4
  simp (disch := omega) only [↓RA, RZ, simprocAttr, hn, a8M, hS4.aj 1 rfl, h1, h2]
  exact ⟨by rw [nV, xZ, if_pos (by omega), decide_eq_true (by omega)]; rfl, hS4.forget⟩
 obtain ⟨j, hj⟩ : ∃ j : Nat, d.rank = j := ⟨d.rank.toNat, by omega⟩
 have hjl : j < rks.length := by omega
 have hp : nV rks d key = ((j : Int), tR (tR (key + d.shift) - (gN rks j).first)) := by rw [nV, if_neg (by omega), hj]; rfl
 have hh : xZ rks d key = (decide (0 ≤ tR (tR (key + d.shift) - (gN rks j).first)) && decide (tR (tR (key + d.shift) - (gN rks j).first) < (gN rks j).wind.length)) := by
  rw [xZ, hp, decide_eq_false (by omega), hj]
  rfl
 rw [hp, hh]
 have hw := (hrk _ (gS hjl)).2
 simp (disch := omega) only [↓RA, simprocAttr, hj]
 refine Wp.drw jM (by kernel_rfl) ?_
 simp (disch := omega) only [↓RA, RZ, simprocAttr, hn, g2]
 simp (disch := omega) only [↓RA, RZ, simprocAttr, hn, g0, hS2.ld 0 rfl, (hS2.sl hr).idx, (hS2.sl hr).bF, (hS2.sl hr).ld, Rk.cells, hj]
 refine Wp.aU jM [(10, 18), (13, 18), (14, 18)] (by kernel_rfl) (by kernel_rfl) ?_
 simp (disch := omega) only [↓RA, RZ, simprocAttr, hn, hS2.ld 0 rfl, a0A, hj]
 refine jO (fun h3 => ?_) (fun h3 => ?_)
 ·skip
  simp (disch := omega) only [↓RA, RZ, simprocAttr, hn, g0, hS2.ld 0 rfl, (hS2.sl hr).idx, (hS2.sl hr).bF, (hS2.sl hr).ld, Rk.cells, (hS2.sl (hrk (gN rks j) (gS (by omega))).1).len, hj, h3]
  refine hS2.aa 1 rfl [I j, _] rfl rfl rT (by simp) fun H5 hS5 => ?_
  simp only [RT] at hS5
  simp (disch := omega) only [↓RA, RZ, simprocAttr, hn, hS5.ld 0 rfl, Rk.cells, (hS5.sl hr).ld, (hS5.sl (hrk (gN rks j) (gS (by omega))).1).len, a8M, hS5.aj 1 rfl, hj, h3]
  exact hS5.forget
 simp (disch := omega) only [↓RA, RZ, simprocAttr, hn, h3]
 refine hS2.aa 1 rfl [I j, _] rfl rfl rT (by simp) fun H6 hS6 => ?_
 simp only [RT] at hS6
 simp (disch := omega) only [↓RA, RZ, simprocAttr, hn, a8M, hS6.aj 1 rfl, h3]
 first | exact hS6.forget | exact ⟨by rw [ft], hS6.forget⟩
theorem b0E {B : Base} {v : Value} {es : List (Int × Int)} (hS : St prog B H [⟨v, 2, pr es⟩]) (hl : es.length < 1000000) :
 Fn prog 155 [v] H fun r H' => ∃ rest : List Value, (∀ b, jV r = some b → jV v = some b) ∧ (∀ H2, RdAt H2 v 2 (pr (dd (tQ es)) ++ rest) → RdAt H2 r 2 (pr (dd (tQ es)))) ∧ St prog B H' [⟨v, 2, pr (dd (tQ es)) ++ rest⟩] := by
 refine .aS func155 rfl (by kernel_rfl) (m := 7) rfl fun l hn g0 => ?_
 simp (disch := omega) only [↓RA, RZ, simprocAttr, hn, g0]
 refine c1A hS 0 rfl (gD hl (by decide)) fun H1 hS1 => ?_
 simp only [fO] at hS1
 simp (disch := omega) only [↓RA, RZ, simprocAttr, hn, g0]
 refine gV (a4A hS1 (by rw [nO]; exact gD hl (by decide))) ?_
 rintro r H2 ⟨rest, hb, hrd, hS2⟩
 have hrc := (hrd H2 (hS2.rd 0 rfl)).cells
 simp (disch := omega) only [↓RA, RB, simprocAttr, hn, c1u]
 exact ⟨rest, hb, hrd, hS2⟩
theorem b3e {a b : Int} {v : Value} {α : Type} {n : Nat} {cel : α → List Value} {xs : List α} (h : Sl n cel H v xs) : uZ prog 189 (.agg #[I a, I b, v]) 2 = some v := by
 rcases h.rd with ⟨rfl, _⟩ | ⟨A, i, e, row, ty, rw, lo, ver, n, _, _, _, _, _, _, rfl⟩ <;> kernel_rfl
theorem b4s (rv : Value) (rks : List Rk) (hr : Sl 6 Rk.cells H rv rks) (hrk : ∀ r ∈ rks, r.In H) (hl : rks.length < 1000000000) (s : Stp) (hs : s.In H) (hs2 : ∀ g ∈ s.segs, g.draws.length ≤ 8) (key : Int) :
 Fn prog 118 [rv, .agg #[.string s.name, I s.num, I s.den, s.gv], I key] H fun r H' => Slx 2 jK H' (fun B => H.length ≤ B) r (qW rks s key) ∧ St prog H H' [] := by
 refine .bD func118 rfl (by kernel_rfl) (m := 36) rfl fun l hn g0 g1 g2 => ?_
 simp (disch := omega) only [↓RA, RB, simprocAttr, g1]
 refine (sR H).eNew 4 [(.string s.name), I s.num, I s.den, s.gv] rfl rfl (by simp [OC, ((sR H).sl hs.1).cells.2.1]) nH fun A1 H1 hS1 => ?_
 simp only [RT] at hS1
 simp (disch := omega) only [↓RA, RZ, simprocAttr, hn, g2, hS1.aj 0 rfl]
 refine gV (a6S hS1 s hs key) ?_
 rintro r H2 ⟨g, rfl, hgi, hgd, hT1⟩
 have hS2 := hS1.trans hT1
 simp only [RT] at hS2
 have hgl := hgi.2
 have hg8 : g.draws.length ≤ 8 := by
  rw [hgd]
  unfold a6Q
  split
  ·simp
  ·rename_i h
   exact hs2 _ (gS (a3G (p := a6O s key) (n := s.segs.length) (by omega)))
 simp (disch := omega) only [↓RA, RZ, simprocAttr, hn, b3e (hS2.sl hgi.1), (hS2.sl hgi.1).len]
 have hS3 := hS2.nil 1
 simp only [RT] at hS3
 refine Wp.al (fun n l H' => l.length = 36 ∧ get l 0 = rv ∧ get l 2 = I key ∧ get l 6 = (.slice none 0 0) ∧ get l 15 = g.dv ∧ get l 16 = I g.draws.length ∧ ∃ (i : Nat) (ov : Value), (n + i = g.draws.length) ∧ get l 17 = I i ∧ get l 7 = ov ∧ St prog H H' [⟨ptr A1 0 4, 0, [(.string s.name), I s.num, I s.den, s.gv]⟩, ⟨ov, 2, pr (((g.draws.take i).filter fun d => xZ rks d key).map fun d => nV rks d key)⟩]) g.draws.length ?_ ?_
 ·simp (disch := omega) only [RB, RC, simprocAttr, hn, g0, g2]
  exact ⟨0, _, by omega, rfl, rfl, hS3⟩
 rintro n l H3 ⟨hn, g0, g2, g6, g15, g16, i, ov, hi, g17, g7, hS4⟩
 simp (disch := omega) only [↓RA, RB, simprocAttr, hn, g16, g17]
 refine gM (fun q1 => ?_) (fun q1 => ?_)
 ·simp (disch := omega) only [↓RA, RZ, simprocAttr, hn, g15, g17, (hS4.sl hgi.1).idx, (hS4.sl hgi.1).aj, Drw.cells, q1]
  refine hS4.eNew 2 [I 0, I 0] rfl rfl rfl yP fun A2 H4 hS5 => ?_
  simp only [RT] at hS5
  simp (disch := omega) only [↓RA, RZ, simprocAttr, hn, q1]
  refine hS5.aa 2 rfl [I (gN g.draws i).rank, I (gN g.draws i).shift] rfl rfl yP (by simp) fun H5 hS6 => ?_
  simp only [RT] at hS6
  simp (disch := omega) only [↓RA, RZ, simprocAttr, hn, g0, g2, hS6.aj 2 rfl, q1]
  refine hS6.cF (b6f rv rks (hS6.sl hr) (fun r hr' => (hrk r hr').ae hS6) hl (gN g.draws i) key) fun H6 hS7 => ?_
  have htk := lE g.draws i (by omega)
  have hfl : ((g.draws.take i).filter fun d => xZ rks d key).length ≤ i := by
   refine dq (dW _ _) ?_
   simp
   omega
  simp (disch := omega) only [↓RA, RZ, simprocAttr, hn, q1]
  refine hS7.eNew 2 [I 0, I 0] rfl rfl rfl rT fun A3 H7 hS8 => ?_
  simp only [RT] at hS8
  simp (disch := omega) only [↓RA, RZ, simprocAttr, hn, q1]
  refine hS8.aa 3 rfl [I (nV rks (gN g.draws i) key).1, I (nV rks (gN g.draws i) key).2] rfl rfl rT (by simp) fun H8 hS9 => ?_
  simp only [RT] at hS9
  simp (disch := omega) only [↓RA, RZ, simprocAttr, hn, q1]
  refine jE (fun q2 => ?_) (fun q2 => ?_)
  ·skip
   simp (disch := omega) only [↓RA, RZ, simprocAttr, hn, g7, hS9.aj 3 rfl, q1, q2]
   refine hS9.ai [I (nV rks (gN g.draws i) key).1, I (nV rks (gN g.draws i) key).2] a9J b9x rfl rfl (by simp [Value.cells]) rfl rfl (by decide) (by decide) fun w1 H9 hS10 => ?_
   simp only [RT] at hS10
   simp (disch := omega) only [↓RA, RZ, simprocAttr, hn, q1, q2]
   refine hS10.ar 1 rfl (hS10.rd 4 rfl) a9J (by rw [gT]; simp; omega) fun w2 H10 hS11 => ?_
   simp only [RT] at hS11
   simp (disch := omega) only [↓RA, RZ, simprocAttr, hn, g0, g2, g6, g15, g16, g17, q1, q2]
   refine ⟨n - 1, by omega, i + 1, w2, by omega, by simp, rfl, ?_⟩
   rw [htk, eP, dT, jI]
   have e : ([gN g.draws i].filter fun d => xZ rks d key) = [gN g.draws i] := by simp [q2]
   rw [e]
   exact hS11.pick [0, 1] (by decide) rfl
  simp (disch := omega) only [↓RA, RZ, simprocAttr, hn, g0, g2, g6, g15, g16, g17, g7, q1, q2]
  refine ⟨n - 1, by omega, i + 1, ov, by omega, by simp, rfl, ?_⟩
  rw [htk, eP, dT, jI]
  have e : ([gN g.draws i].filter fun d => xZ rks d key) = [] := by simp [q2]
  rw [e]
  simp only [pr, fN, fA, dj]
  exact hS9.pick [0, 1] (by decide) rfl
 simp (disch := omega) only [↓RA, RZ, simprocAttr, hn, g7, q1]
 have hii : i = g.draws.length := by omega
 subst hii
 have hfl : ((g.draws.filter fun d => xZ rks d key).map fun d => nV rks d key).length ≤ 8 := by
  rw [dZ]
  exact dq (dW _ _) hg8
 rw [ee] at hS4
 have hM1 := hS4.pick (os' := [⟨ov, 2, _⟩]) [1] (by decide) rfl
 have hR1 := hS4.pick (os' := [⟨ov, 2, _⟩, ⟨ptr A1 0 4, 0, _⟩]) [1, 0] (by decide) rfl
 refine gV (b0E (es := (g.draws.filter fun d => xZ rks d key).map fun d => nV rks d key) hM1.aL (by omega)) ?_
 rintro r H11 ⟨rest, hb, hrd, hT3⟩
 have hS12 := hR1.frame hT3
 simp only [RT] at hS12
 have hrr := hrd _ (hS12.rd 0 rfl)
 have hrc := hrr.cells
 simp (disch := omega) only [↓RA, RZ, simprocAttr, hn, c0L, q1]
 refine ⟨⟨⟨?_, jT, by decide⟩, fun b h => ?_⟩, hS12.forget⟩
 ·unfold qW
  rw [← hgd]
  exact hrr
 ·rcases hS12.new _ (dV ..) b (hb b h) with h | h
  ·exact h
  ·exact h.elim
end Go.Ds
namespace Go.Ds
open Go.Proofs Go.Proofs.Tryz
variable {H : Heap}
set_option maxRecDepth 10000
set_option maxHeartbeats 1000000
abbrev KC (kvs : List (Ct × Bool)) : List Value := kcs (fun p : Int × Int => .agg #[I p.1, I p.2]) Value.bool kvs
def uH (kvs : List (Ct × Bool)) (c : Ct) : Bool := (a0G kvs c).getD false
theorem b0B {B : Base} (o : Org) (r : Reg) (sv : Value) (c : Ct) (AO AR AS AQ M : Nat) (qv : Value) (q : List Ct) (kvs : List (Ct × Bool))
 (hS : St prog B H [⟨.map (some M), 0, KC kvs⟩, ⟨ptr AQ 0 1, 0, [qv]⟩, ⟨qv, 2, pr q⟩])
 (hO : ∀ {H1 : Heap} {os : List Ob}, St prog B H1 os → Var H1 AO 4 [.string o.name, o.rv, o.dv, o.cv] ∧ o.In H1 ∧ Var H1 AR 3 [sv, .int .u64 r.cpl, .int .u64 r.off] ∧ Var H1 AS 1 [.map (some M)])
 (hk : ∀ t, uH kvs t = true ↔ t ∈ q) (hq : Que o q) (ho : o.Fine) (hr : r.Ok) :
 Fn prog 111 [.agg #[I c.1, I c.2], .bool true, ptr AO 0 4, ptr AR 0 3, ptr AS 0 1, ptr AQ 0 1] H fun rr H' => ∃ kvs' qv', rr = .tuple #[] ∧ (∀ t, uH kvs' t = true ↔ t ∈ stepF o r.cpl true c q) ∧
  St prog B H' [⟨.map (some M), 0, KC kvs'⟩, ⟨ptr AQ 0 1, 0, [qv']⟩, ⟨qv', 2, pr (stepF o r.cpl true c q)⟩] := by
 have hcl := ho.clen
 refine .cM func111 rfl (by kernel_rfl) (m := 65) rfl fun l hn g0 g1 g2 g3 g4 g5 => ?_
 simp (disch := omega) only [↓RA, RB, simprocAttr, g0]
 refine hS.eNew 2 [I c.1, I c.2] rfl rfl rfl uK fun A1 H1 hS1 => ?_
 simp only [RT] at hS1
 simp (disch := omega) only [↓RA, RZ, simprocAttr, hn, g2, ((hO hS1).1).ld, ((hO hS1).2.1.2.2.2.2.1).len]
 refine Wp.al (fun n l H' => l.length = 65 ∧ get l 1 = (.bool true) ∧ get l 2 = (ptr AO 0 4) ∧ get l 3 = (ptr AR 0 3) ∧ get l 4 = (ptr AS 0 1) ∧ get l 5 = (ptr AQ 0 1) ∧ get l 6 = (ptr A1 0 2) ∧ get l 12 = o.cv ∧ get l 13 = I o.cpls.length ∧ ∃ (i : Nat) (kvs' : List (Ct × Bool)) (qv' : Value), (n + i = o.cpls.length ∧ ∀ t, uH kvs' t = true ↔ t ∈ stepN o r.cpl true c q i) ∧ get l 14 = I i ∧ St prog B H' [⟨.map (some M), 0, KC kvs'⟩, ⟨ptr AQ 0 1, 0, [qv']⟩, ⟨qv', 2, pr (stepN o r.cpl true c q i)⟩, ⟨ptr A1 0 2, 0, [I c.1, I c.2]⟩]) o.cpls.length ?_ ?_
 ·simp (disch := omega) only [RB, RC, simprocAttr, hn, g1, g2, g3, g4, g5]
  exact ⟨0, kvs, qv, ⟨by omega, hk⟩, rfl, hS1⟩
 rintro n l H2 ⟨hn, g1, g2, g3, g4, g5, g6, g12, g13, i, kvs', qv', ⟨hi,hk'⟩, g14, hS2⟩
 simp (disch := omega) only [↓RA, RB, simprocAttr, hn, g13, g14]
 refine gM (fun q1 => ?_) (fun q1 => ?_)
 ·have hql : (stepN o r.cpl true c q i).length ≤ 1024 := (hq.stepN r.cpl true c i).len ho
  have e1 := a6a r.cpl i hr.2.2.1
  have e2 := a9r (r.cpl >>> i) (a3F i hr.2.2.1)
  have e3 := tb r.cpl i
  have hskip : zK r.cpl true c (gN o.cpls i) i = false → stepN o r.cpl true c q (i + 1) = stepN o r.cpl true c q i := fun h => by
   rw [mK, step1, if_neg (by rw [h]; simp)]
  have hkeep : pX o ((gN o.cpls i).dst, tR (c.2 + (gN o.cpls i).shift)) = false ∨ ((gN o.cpls i).dst, tR (c.2 + (gN o.cpls i).shift)) ∈ stepN o r.cpl true c q i → stepN o r.cpl true c q (i + 1) = stepN o r.cpl true c q i := fun h => by
   rw [mK, step1, if_neg]
   simp only [to1, cT, du]
   rintro ⟨⟨_, h2⟩, h3⟩
   rcases h with h | h
   ·rw [h] at h2; cases h2
   ·exact absurd h (of_decide_eq_false h3)
  simp (disch := omega) only [↓RA, RZ, simprocAttr, hn, g12, g14, ((hO hS2).2.1.2.2.2.2.1).idx, ((hO hS2).2.1.2.2.2.2.1).aj, Cpl.cells, q1]
  refine hS2.eNew 5 [(.string ⟨#[]⟩), I 0, I 0, I 0, (.bool false)] rfl rfl rfl tW fun A2 H3 hS3 => ?_
  simp only [RT] at hS3
  simp (disch := omega) only [↓RA, RZ, simprocAttr, hn, q1]
  refine hS3.aa 4 rfl [(.string (gN o.cpls i).name), I (gN o.cpls i).src, I (gN o.cpls i).dst, I (gN o.cpls i).shift, (.bool (gN o.cpls i).thr)] rfl rfl tW (by simp) fun H4 hS4 => ?_
  simp only [RT] at hS4
  simp (disch := omega) only [↓RA, RZ, simprocAttr, hn, g3, ((hO hS4).2.2.1).ld, q1, e1, e2]
  refine gW (fun b1 => ?_) (fun b1 => ?_)
  ·have hs := hskip (by unfold zK; rw [e3, decide_eq_false (by omega)]; rfl)
   simp (disch := omega) only [↓RA, RZ, simprocAttr, hn, g1, g2, g3, g4, g5, g6, g12, g13, g14, q1, b1]
   exact ⟨n - 1, by omega, i + 1, kvs', qv', ⟨by omega, by rw [hs]; exact hk'⟩, by simp, by rw [hs]; exact hS4.pick [0, 1, 2, 3] (by decide) rfl⟩
  have hb : r.cpl.testBit i = true := by rw [e3]; exact decide_eq_true (by omega)
  simp (disch := omega) only [↓RA, RZ, simprocAttr, hn, g6, hS4.ld 4 rfl, hS4.ld 3 rfl, q1, b1]
  refine gW (fun b2 => ?_) (fun b2 => ?_)
  ·have hs := hskip (by unfold zK; rw [decide_eq_false b2]; simp)
   simp (disch := omega) only [↓RA, RZ, simprocAttr, hn, g1, g2, g3, g4, g5, g6, g12, g13, g14, q1, b1, b2]
   exact ⟨n - 1, by omega, i + 1, kvs', qv', ⟨by omega, by rw [hs]; exact hk'⟩, by simp, by rw [hs]; exact hS4.pick [0, 1, 2, 3] (by decide) rfl⟩
  have hsrc := di.1 b2
  simp (disch := omega) only [↓RA, RZ, simprocAttr, hn, g1, hS4.ld 4 rfl, q1, b1, b2]
  refine jE (fun b4 => ?_) (fun b4 => ?_)
  ·have hs := hskip (by unfold zK; simp only [Bool.not_true, Bool.false_or, fh]; exact .inr (by simpa using b4))
   simp (disch := omega) only [↓RA, RZ, simprocAttr, hn, g1, g2, g3, g4, g5, g6, g12, g13, g14, q1, b1, b2, b4]
   exact ⟨n - 1, by omega, i + 1, kvs', qv', ⟨by omega, by rw [hs]; exact hk'⟩, by simp, by rw [hs]; exact hS4.pick [0, 1, 2, 3] (by decide) rfl⟩
  have hgo : zK r.cpl true c (gN o.cpls i) i = true := by
   unfold zK
   rw [hb, decide_eq_true hsrc]
   simpa using b4
  simp (disch := omega) only [↓RA, RZ, simprocAttr, hn, g6, hS4.ld 4 rfl, hS4.ld 3 rfl, q1, b1, b2, b4]
  simp (disch := omega) only [↓RA, RZ, simprocAttr, wT]
  refine hS4.eNew 2 [I 0, I 0] rfl rfl rfl uK fun A3 H5 hS5 => ?_
  simp only [RT] at hS5
  simp (disch := omega) only [↓RA, RZ, simprocAttr, hn, q1, b1, b2, b4]
  refine hS5.aa 5 rfl [I (gN o.cpls i).dst, I (tR (c.2 + (gN o.cpls i).shift))] rfl rfl uK (by simp) fun H6 hS6 => ?_
  simp only [RT] at hS6
  simp (disch := omega) only [↓RA, RZ, simprocAttr, hn, g2, ((hO hS6).1).aj, hS6.aj 5 rfl, q1, b1, b2, b4]
  refine hS6.cF (a0n o (hO hS6).2.1 ((gN o.cpls i).dst, tR (c.2 + (gN o.cpls i).shift))) fun H7 hS7 => ?_
  simp (disch := omega) only [↓RA, RZ, simprocAttr, hn, q1, b1, b2, b4]
  refine jO (fun b5 => ?_) (fun b5 => ?_)
  ·have hok := (vL o _).1 b5
   simp (disch := omega) only [↓RA, RZ, simprocAttr, hn, g4, ((hO hS7).2.2.2).ld, hS7.aj 5 rfl, q1, b1, b2, b4, b5]
   refine hS7.bL (k := ((gN o.cpls i).dst, tR (c.2 + (gN o.cpls i).shift))) 0 rfl a5J (fun _ => rfl) ?_
   simp (disch := omega) only [↓RA, RZ, simprocAttr, hn, q1, b1, b2, b4, b5]
   refine jE (fun b6 => ?_) (fun b6 => ?_)
   ·have hnot : ((gN o.cpls i).dst, tR (c.2 + (gN o.cpls i).shift)) ∉ stepN o r.cpl true c q i := fun h => by
     have h := (hk' _).2 h
     unfold uH at h
     first | (rw [du] at b6; exact Bool.false_ne_true (b6.symm.trans h)) | exact b6 h
    have hs : stepN o r.cpl true c q (i + 1) = stepN o r.cpl true c q i ++ [((gN o.cpls i).dst, tR (c.2 + (gN o.cpls i).shift))] := by
     rw [mK]
     unfold step1
     rw [if_pos (by simp only [to1, hgo, hok]; simp [hnot])]
     rfl
    simp (disch := omega) only [↓RA, RZ, simprocAttr, hn, g4, ((hO hS7).2.2.2).ld, hS7.aj 5 rfl, q1, b1, b2, b4, b5, b6]
    refine hS7.cb (k := ((gN o.cpls i).dst, tR (c.2 + (gN o.cpls i).shift))) 0 rfl a5J fun H8 hS8 => ?_
    simp only [RT] at hS8
    simp (disch := omega) only [↓RA, RZ, simprocAttr, hn, g5, hS8.ld 1 rfl, hS8.aj 5 rfl, q1, b1, b2, b4, b5, b6]
    refine hS8.ai [I (gN o.cpls i).dst, I (tR (c.2 + (gN o.cpls i).shift))] a1K b4E rfl rfl (by simp [Value.cells]) rfl rfl (by decide) (by decide) fun w1 H9 hS9 => ?_
    simp only [RT] at hS9
    simp (disch := omega) only [↓RA, RZ, simprocAttr, hn, q1, b1, b2, b4, b5, b6]
    refine hS9.ar 2 rfl (hS9.rd 6 rfl) a1K (by rw [gT]; simp; omega) fun w2 H10 hS10 => ?_
    simp only [RT] at hS10
    simp (disch := omega) only [↓RA, RZ, simprocAttr, hn, g5, q1, b1, b2, b4, b5, b6]
    refine hS10.aa 1 rfl [w2] (by rw [(hS10.rd 2 rfl).cells.1]) (by simp [(hS10.rd 2 rfl).cells.2.1]) b7l (by simp) fun H11 hS11 => ?_
    simp only [RT] at hS11
    simp (disch := omega) only [↓RA, RZ, simprocAttr, hn, g1, g2, g3, g4, g5, g6, g12, g13, g14, q1, b1, b2, b4, b5, b6]
    refine ⟨n - 1, by omega, i + 1, a4b kvs' ((gN o.cpls i).dst, tR (c.2 + (gN o.cpls i).shift)) true, w2, ⟨by omega, fun t => ?_⟩, by simp, ?_⟩
    ·rw [hs, dE, dC, ← hk' t]
     unfold uH
     rw [a0f]
     by_cases e : t = ((gN o.cpls i).dst, tR (c.2 + (gN o.cpls i).shift))
     ·simp [e]
     ·simp [e]
    ·rw [hs, jI]
     exact hS11.pick [0, 1, 2, 3] (by decide) rfl
   have hin : ((gN o.cpls i).dst, tR (c.2 + (gN o.cpls i).shift)) ∈ stepN o r.cpl true c q i := (hk' _).1 (by
    unfold uH
    simpa using b6)
   have hs := hkeep (.inr hin)
   simp (disch := omega) only [↓RA, RZ, simprocAttr, hn, g1, g2, g3, g4, g5, g6, g12, g13, g14, q1, b1, b2, b4, b5, b6]
   exact ⟨n - 1, by omega, i + 1, kvs', qv', ⟨by omega, by rw [hs]; exact hk'⟩, by simp, by rw [hs]; exact hS7.pick [0, 1, 2, 3] (by decide) rfl⟩
  have hs := hkeep (.inl (by rw [← ew]; exact fun h => b5 ((vL o _).2 h)))
  simp (disch := omega) only [↓RA, RZ, simprocAttr, hn, g1, g2, g3, g4, g5, g6, g12, g13, g14, q1, b1, b2, b4, b5]
  exact ⟨n - 1, by omega, i + 1, kvs', qv', ⟨by omega, by rw [hs]; exact hk'⟩, by simp, by rw [hs]; exact hS7.pick [0, 1, 2, 3] (by decide) rfl⟩
 simp (disch := omega) only [↓RA, RZ, simprocAttr, b8g, q1]
 have hii : i = o.cpls.length := by omega
 subst hii
 exact ⟨kvs', qv', hk', hS2.pick [0, 1, 2] (by decide) rfl⟩
theorem b0H {B : Base} (o : Org) (r : Reg) (sv : Value) (c : Ct) (AO AR AS AQ M : Nat) (qv : Value) (q : List Ct) (kvs : List (Ct × Bool))
 (hS : St prog B H [⟨.map (some M), 0, KC kvs⟩, ⟨ptr AQ 0 1, 0, [qv]⟩, ⟨qv, 2, pr q⟩])
 (hO : ∀ {H1 : Heap} {os : List Ob}, St prog B H1 os → Var H1 AO 4 [.string o.name, o.rv, o.dv, o.cv] ∧ o.In H1 ∧ Var H1 AR 3 [sv, .int .u64 r.cpl, .int .u64 r.off] ∧ Var H1 AS 1 [.map (some M)])
 (hk : ∀ t, uH kvs t = true ↔ t ∈ q) (hq : Que o q) (ho : o.Fine) (hr : r.Ok) :
 Fn prog 111 [.agg #[I c.1, I c.2], .bool false, ptr AO 0 4, ptr AR 0 3, ptr AS 0 1, ptr AQ 0 1] H fun rr H' => ∃ kvs' qv', rr = .tuple #[] ∧ (∀ t, uH kvs' t = true ↔ t ∈ stepF o r.cpl false c q) ∧
  St prog B H' [⟨.map (some M), 0, KC kvs'⟩, ⟨ptr AQ 0 1, 0, [qv']⟩, ⟨qv', 2, pr (stepF o r.cpl false c q)⟩] := by
 have hcl := ho.clen
 refine .cM func111 rfl (by kernel_rfl) (m := 65) rfl fun l hn g0 g1 g2 g3 g4 g5 => ?_
 simp (disch := omega) only [↓RA, RB, simprocAttr, g0]
 refine hS.eNew 2 [I c.1, I c.2] rfl rfl rfl uK fun A1 H1 hS1 => ?_
 simp only [RT] at hS1
 simp (disch := omega) only [↓RA, RZ, simprocAttr, hn, g2, ((hO hS1).1).ld, ((hO hS1).2.1.2.2.2.2.1).len]
 refine Wp.al (fun n l H' => l.length = 65 ∧ get l 1 = (.bool false) ∧ get l 2 = (ptr AO 0 4) ∧ get l 3 = (ptr AR 0 3) ∧ get l 4 = (ptr AS 0 1) ∧ get l 5 = (ptr AQ 0 1) ∧ get l 6 = (ptr A1 0 2) ∧ get l 12 = o.cv ∧ get l 13 = I o.cpls.length ∧ ∃ (i : Nat) (kvs' : List (Ct × Bool)) (qv' : Value), (n + i = o.cpls.length ∧ ∀ t, uH kvs' t = true ↔ t ∈ stepN o r.cpl false c q i) ∧ get l 14 = I i ∧ St prog B H' [⟨.map (some M), 0, KC kvs'⟩, ⟨ptr AQ 0 1, 0, [qv']⟩, ⟨qv', 2, pr (stepN o r.cpl false c q i)⟩, ⟨ptr A1 0 2, 0, [I c.1, I c.2]⟩]) o.cpls.length ?_ ?_
 ·simp (disch := omega) only [RB, RC, simprocAttr, hn, g1, g2, g3, g4, g5]
  exact ⟨0, kvs, qv, ⟨by omega, hk⟩, rfl, hS1⟩
 rintro n l H2 ⟨hn, g1, g2, g3, g4, g5, g6, g12, g13, i, kvs', qv', ⟨hi,hk'⟩, g14, hS2⟩
 simp (disch := omega) only [↓RA, RB, simprocAttr, hn, g13, g14]
 refine gM (fun q1 => ?_) (fun q1 => ?_)
 ·have hql : (stepN o r.cpl false c q i).length ≤ 1024 := (hq.stepN r.cpl false c i).len ho
  have e1 := a6a r.cpl i hr.2.2.1
  have e2 := a9r (r.cpl >>> i) (a3F i hr.2.2.1)
  have e3 := tb r.cpl i
  have hskip : zK r.cpl false c (gN o.cpls i) i = false → stepN o r.cpl false c q (i + 1) = stepN o r.cpl false c q i := fun h => by
   rw [mK, step1, if_neg (by rw [h]; simp)]
  have hkeep : pX o ((gN o.cpls i).dst, tR (c.2 + (gN o.cpls i).shift)) = false ∨ ((gN o.cpls i).dst, tR (c.2 + (gN o.cpls i).shift)) ∈ stepN o r.cpl false c q i → stepN o r.cpl false c q (i + 1) = stepN o r.cpl false c q i := fun h => by
   rw [mK, step1, if_neg]
   simp only [to1, cT, du]
   rintro ⟨⟨_, h2⟩, h3⟩
   rcases h with h | h
   ·rw [h] at h2; cases h2
   ·exact absurd h (of_decide_eq_false h3)
  simp (disch := omega) only [↓RA, RZ, simprocAttr, hn, g12, g14, ((hO hS2).2.1.2.2.2.2.1).idx, ((hO hS2).2.1.2.2.2.2.1).aj, Cpl.cells, q1]
  refine hS2.eNew 5 [(.string ⟨#[]⟩), I 0, I 0, I 0, (.bool false)] rfl rfl rfl tW fun A2 H3 hS3 => ?_
  simp only [RT] at hS3
  simp (disch := omega) only [↓RA, RZ, simprocAttr, hn, q1]
  refine hS3.aa 4 rfl [(.string (gN o.cpls i).name), I (gN o.cpls i).src, I (gN o.cpls i).dst, I (gN o.cpls i).shift, (.bool (gN o.cpls i).thr)] rfl rfl tW (by simp) fun H4 hS4 => ?_
  simp only [RT] at hS4
  simp (disch := omega) only [↓RA, RZ, simprocAttr, hn, g3, ((hO hS4).2.2.1).ld, q1, e1, e2]
  refine gW (fun b1 => ?_) (fun b1 => ?_)
  ·have hs := hskip (by unfold zK; rw [e3, decide_eq_false (by omega)]; rfl)
   simp (disch := omega) only [↓RA, RZ, simprocAttr, hn, g1, g2, g3, g4, g5, g6, g12, g13, g14, q1, b1]
   exact ⟨n - 1, by omega, i + 1, kvs', qv', ⟨by omega, by rw [hs]; exact hk'⟩, by simp, by rw [hs]; exact hS4.pick [0, 1, 2, 3] (by decide) rfl⟩
  have hb : r.cpl.testBit i = true := by rw [e3]; exact decide_eq_true (by omega)
  simp (disch := omega) only [↓RA, RZ, simprocAttr, hn, g6, hS4.ld 4 rfl, hS4.ld 3 rfl, q1, b1]
  refine gW (fun b2 => ?_) (fun b2 => ?_)
  ·have hs := hskip (by unfold zK; rw [decide_eq_false b2]; simp)
   simp (disch := omega) only [↓RA, RZ, simprocAttr, hn, g1, g2, g3, g4, g5, g6, g12, g13, g14, q1, b1, b2]
   exact ⟨n - 1, by omega, i + 1, kvs', qv', ⟨by omega, by rw [hs]; exact hk'⟩, by simp, by rw [hs]; exact hS4.pick [0, 1, 2, 3] (by decide) rfl⟩
  have hsrc := di.1 b2
  have hgo : zK r.cpl false c (gN o.cpls i) i = true := by
   unfold zK
   rw [hb, decide_eq_true hsrc]
   rfl
  simp (disch := omega) only [↓RA, RZ, simprocAttr, hn, g1, g6, hS4.ld 4 rfl, hS4.ld 3 rfl, q1, b1, b2]
  simp (disch := omega) only [↓RA, RZ, simprocAttr, wT]
  refine hS4.eNew 2 [I 0, I 0] rfl rfl rfl uK fun A3 H5 hS5 => ?_
  simp only [RT] at hS5
  simp (disch := omega) only [↓RA, RZ, simprocAttr, hn, q1, b1, b2]
  refine hS5.aa 5 rfl [I (gN o.cpls i).dst, I (tR (c.2 + (gN o.cpls i).shift))] rfl rfl uK (by simp) fun H6 hS6 => ?_
  simp only [RT] at hS6
  simp (disch := omega) only [↓RA, RZ, simprocAttr, hn, g2, ((hO hS6).1).aj, hS6.aj 5 rfl, q1, b1, b2]
  refine hS6.cF (a0n o (hO hS6).2.1 ((gN o.cpls i).dst, tR (c.2 + (gN o.cpls i).shift))) fun H7 hS7 => ?_
  simp (disch := omega) only [↓RA, RZ, simprocAttr, hn, q1, b1, b2]
  refine jO (fun b5 => ?_) (fun b5 => ?_)
  ·have hok := (vL o _).1 b5
   simp (disch := omega) only [↓RA, RZ, simprocAttr, hn, g4, ((hO hS7).2.2.2).ld, hS7.aj 5 rfl, q1, b1, b2, b5]
   refine hS7.bL (k := ((gN o.cpls i).dst, tR (c.2 + (gN o.cpls i).shift))) 0 rfl a5J (fun _ => rfl) ?_
   simp (disch := omega) only [↓RA, RZ, simprocAttr, hn, q1, b1, b2, b5]
   refine jE (fun b6 => ?_) (fun b6 => ?_)
   ·have hnot : ((gN o.cpls i).dst, tR (c.2 + (gN o.cpls i).shift)) ∉ stepN o r.cpl false c q i := fun h => by
     have h := (hk' _).2 h
     unfold uH at h
     first | (rw [du] at b6; exact Bool.false_ne_true (b6.symm.trans h)) | exact b6 h
    have hs : stepN o r.cpl false c q (i + 1) = stepN o r.cpl false c q i ++ [((gN o.cpls i).dst, tR (c.2 + (gN o.cpls i).shift))] := by
     rw [mK]
     unfold step1
     rw [if_pos (by simp only [to1, hgo, hok]; simp [hnot])]
     rfl
    simp (disch := omega) only [↓RA, RZ, simprocAttr, hn, g4, ((hO hS7).2.2.2).ld, hS7.aj 5 rfl, q1, b1, b2, b5, b6]
    refine hS7.cb (k := ((gN o.cpls i).dst, tR (c.2 + (gN o.cpls i).shift))) 0 rfl a5J fun H8 hS8 => ?_
    simp only [RT] at hS8
    simp (disch := omega) only [↓RA, RZ, simprocAttr, hn, g5, hS8.ld 1 rfl, hS8.aj 5 rfl, q1, b1, b2, b5, b6]
    refine hS8.ai [I (gN o.cpls i).dst, I (tR (c.2 + (gN o.cpls i).shift))] a1K b4E rfl rfl (by simp [Value.cells]) rfl rfl (by decide) (by decide) fun w1 H9 hS9 => ?_
    simp only [RT] at hS9
    simp (disch := omega) only [↓RA, RZ, simprocAttr, hn, q1, b1, b2, b5, b6]
    refine hS9.ar 2 rfl (hS9.rd 6 rfl) a1K (by rw [gT]; simp; omega) fun w2 H10 hS10 => ?_
    simp only [RT] at hS10
    simp (disch := omega) only [↓RA, RZ, simprocAttr, hn, g5, q1, b1, b2, b5, b6]
    refine hS10.aa 1 rfl [w2] (by rw [(hS10.rd 2 rfl).cells.1]) (by simp [(hS10.rd 2 rfl).cells.2.1]) b7l (by simp) fun H11 hS11 => ?_
    simp only [RT] at hS11
    simp (disch := omega) only [↓RA, RZ, simprocAttr, hn, g1, g2, g3, g4, g5, g6, g12, g13, g14, q1, b1, b2, b5, b6]
    refine ⟨n - 1, by omega, i + 1, a4b kvs' ((gN o.cpls i).dst, tR (c.2 + (gN o.cpls i).shift)) true, w2, ⟨by omega, fun t => ?_⟩, by simp, ?_⟩
    ·rw [hs, dE, dC, ← hk' t]
     unfold uH
     rw [a0f]
     by_cases e : t = ((gN o.cpls i).dst, tR (c.2 + (gN o.cpls i).shift))
     ·simp [e]
     ·simp [e]
    ·rw [hs, jI]
     exact hS11.pick [0, 1, 2, 3] (by decide) rfl
   have hin : ((gN o.cpls i).dst, tR (c.2 + (gN o.cpls i).shift)) ∈ stepN o r.cpl false c q i := (hk' _).1 (by
    unfold uH
    simpa using b6)
   have hs := hkeep (.inr hin)
   simp (disch := omega) only [↓RA, RZ, simprocAttr, hn, g1, g2, g3, g4, g5, g6, g12, g13, g14, q1, b1, b2, b5, b6]
   exact ⟨n - 1, by omega, i + 1, kvs', qv', ⟨by omega, by rw [hs]; exact hk'⟩, by simp, by rw [hs]; exact hS7.pick [0, 1, 2, 3] (by decide) rfl⟩
  have hs := hkeep (.inl (by rw [← ew]; exact fun h => b5 ((vL o _).2 h)))
  simp (disch := omega) only [↓RA, RZ, simprocAttr, hn, g1, g2, g3, g4, g5, g6, g12, g13, g14, q1, b1, b2, b5]
  exact ⟨n - 1, by omega, i + 1, kvs', qv', ⟨by omega, by rw [hs]; exact hk'⟩, by simp, by rw [hs]; exact hS7.pick [0, 1, 2, 3] (by decide) rfl⟩
 simp (disch := omega) only [↓RA, RZ, simprocAttr, b8g, q1]
 have hii : i = o.cpls.length := by omega
 subst hii
 exact ⟨kvs', qv', hk', hS2.pick [0, 1, 2] (by decide) rfl⟩
theorem a6f (o : Org) (cp : Nat) (l : List Ct) (i : Nat) (h : i < l.length) : mZ o cp (l.take (i + 1)) = stepF o cp false (gN l i) (mZ o cp (l.take i)) := by
 unfold mZ
 rw [lE l i h, gC]
 rfl
theorem pK (o : Org) (cp : Nat) (l : List Ct) : Que o (mZ o cp l) := by
 unfold mZ
 have : ∀ (l : List Ct) (q : List Ct), Que o q → Que o (l.foldl (fun q c => stepF o cp false c q) q) := by
  intro l
  induction l with
  | nil => intro q h; exact h
  | cons c l ih => intro q h; exact ih _ (h.stepF cp false c)
 exact this l [] (Que.nil o)
theorem a7y : iJ (.map none) = true := rfl
theorem zB (o : Org) (ho : o.In H) (hf : o.Fine) (r : Reg) (sv : Value) (hr : r.In H sv) (fv : Value) (first : List Ct) (hfi : Sl 2 jK H fv first) (hfl : first.length ≤ 1024) (hfo : ∀ c ∈ first, pX o c = true) :
 Fn prog 60 [.agg #[.string o.name, o.rv, o.dv, o.cv], .agg #[sv, .int .u64 r.cpl, .int .u64 r.off], fv] H fun rr H' => Slx 2 jK H' (fun B => H.length ≤ B) rr (nB o r first) ∧ St prog H H' [] := by
 refine .bD func60 rfl (by kernel_rfl) (m := 56) rfl fun l hn g0 g1 g2 => ?_
 simp (disch := omega) only [↓RA, RB, simprocAttr, g0]
 refine (sR H).eNew 4 [(.string o.name), o.rv, o.dv, o.cv] rfl rfl (by simp [OC, ((sR H).sl ho.1).cells.2.1, ((sR H).sl ho.2.2.1).cells.2.1, ((sR H).sl ho.2.2.2.2.1).cells.2.1]) oD fun A1 H1 hS1 => ?_
 simp only [RT] at hS1
 simp (disch := omega) only [↓RA, RB, simprocAttr, g1]
 refine hS1.eNew 3 [sv, (.int .u64 r.cpl), (.int .u64 r.off)] rfl rfl (by simp [OC, (hS1.sl hr.1).cells.2.1]) vZ fun A2 H2 hS2 => ?_
 simp only [RT] at hS2
 simp (disch := omega) only [↓RA, RB, simprocAttr]
 refine hS2.bR a5J fun M1 H3 hS3 => ?_
 simp only [RT] at hS3
 simp (disch := omega) only [↓RA, RZ, simprocAttr, a7y]
 refine hS3.eNew 1 [(.map none)] rfl rfl rfl b3E fun A3 H4 hS4 => ?_
 simp only [RT] at hS4
 simp (disch := omega) only [↓RA, RB, simprocAttr, hn]
 refine hS4.aa 3 rfl [(.map (some M1))] rfl rfl b3E (by simp) fun H5 hS5 => ?_
 simp only [RT] at hS5
 simp (disch := omega) only [↓RA, RZ, simprocAttr]
 refine hS5.eNew 1 [(.slice none 0 0)] rfl rfl rfl b7l fun A4 H6 hS6 => ?_
 simp only [RT] at hS6
 simp (disch := omega) only [↓RA, RZ, simprocAttr, hn, g2, (hS6.sl hfi).len]
 have hS7 := hS6.nil 1
 simp only [RT] at hS7
 have hS8 := hS7.nil 1
 simp only [RT] at hS8
 refine Wp.al (fun n l H' => l.length = 56 ∧ get l 4 = (ptr A2 0 3) ∧ get l 6 = (.slice none 0 0) ∧ get l 8 = (ptr A4 0 1) ∧ get l 10 = (.func (.func 111) #[] #[(ptr A1 0 4), (ptr A2 0 3), (ptr A3 0 1), (ptr A4 0 1)]) ∧ get l 16 = fv ∧ get l 17 = I first.length ∧ ∃ (i : Nat) (kvs : List (Ct × Bool)) (qv ov : Value), (n + i = first.length ∧ ∀ t, uH kvs t = true ↔ t ∈ mZ o r.cpl (first.take i)) ∧ get l 18 = I i ∧ get l 9 = ov ∧ St prog H H' [⟨ptr A1 0 4, 0, [(.string o.name), o.rv, o.dv, o.cv]⟩, ⟨ptr A2 0 3, 0, [sv, (.int .u64 r.cpl), (.int .u64 r.off)]⟩, ⟨.map (some M1), 0, KC kvs⟩, ⟨ptr A3 0 1, 0, [(.map (some M1))]⟩, ⟨ptr A4 0 1, 0, [qv]⟩, ⟨qv, 2, pr (mZ o r.cpl (first.take i))⟩, ⟨ov, 2, pr ((first.take i).filter fun c => !r.off.testBit c.1.toNat)⟩]) first.length ?_ ?_
 ·simp (disch := omega) only [RB, RC, simprocAttr, hn]
  refine ⟨0, [], .slice none 0 0, .slice none 0 0, ⟨by omega, fun t => ?_⟩, rfl, rfl, hS8⟩
  simp [uH, a0G, mZ]
 rintro n l H7 ⟨hn, g4, g6, g8, pS, g16, g17, i, kvs, qv, ov, ⟨hi,hk⟩, g18, g9, hS9⟩
 simp (disch := omega) only [↓RA, RB, simprocAttr, hn, g17, g18]
 refine gM (fun q1 => ?_) (fun q1 => ?_)
 ·have hci := (rW o _).1 (hfo _ (gS (xs := first) (j := i) (by omega)))
  have hqu := pK o r.cpl (first.take i)
  have hqs := a6f o r.cpl first i (by omega)
  have hql := (pK o r.cpl (first.take (i + 1))).len hf
  simp (disch := omega) only [↓RA, RZ, simprocAttr, hn, g16, g18, (hS9.sl hfi).idx, (hS9.sl hfi).aj, jK, q1]
  refine hS9.eNew 2 [I 0, I 0] rfl rfl rfl uK fun A5 H8 hS10 => ?_
  simp only [RT] at hS10
  simp (disch := omega) only [↓RA, RZ, simprocAttr, hn, q1]
  refine hS10.aa 7 rfl [I (gN first i).1, I (gN first i).2] rfl rfl uK (by simp) fun H9 hS11 => ?_
  simp only [RT] at hS11
  simp (disch := omega) only [↓RA, RZ, simprocAttr, hn, pS, hS11.aj 7 rfl, q1]
  have hM1 := hS11.pick (os' := [⟨.map (some M1), 0, _⟩, ⟨ptr A4 0 1, 0, _⟩, ⟨qv, 2, _⟩]) [2, 4, 5] (by decide) rfl
  have hR1 := hS11.pick (os' := [⟨.map (some M1), 0, _⟩, ⟨ptr A4 0 1, 0, _⟩, ⟨qv, 2, _⟩, ⟨ptr A1 0 4, 0, _⟩, ⟨ptr A2 0 3, 0, _⟩, ⟨ptr A3 0 1, 0, _⟩, ⟨ov, 2, _⟩, ⟨ptr A5 0 2, 0, _⟩]) [2, 4, 5, 0, 1, 3, 6, 7] (by decide) rfl
  refine gV (b0H o r sv (gN first i) A1 A2 A3 A4 M1 qv (mZ o r.cpl (first.take i)) kvs hM1.aL (fun h => ⟨(hR1.frame h.forget).var 0 rfl, ho.ae (hR1.frame h.forget), (hR1.frame h.forget).var 1 rfl, (hR1.frame h.forget).var 2 rfl⟩) hk hqu hf hr.2) ?_
  rintro r H10 ⟨kvs', qv', rfl, hk', hT1⟩
  have hS12 := hR1.frame hT1
  simp only [RT] at hS12
  have e1 := a6a r.off (gN first i).1.toNat hr.2.2.2.2
  have e2 := a9r (r.off >>> (gN first i).1.toNat) (a3F _ hr.2.2.2.2)
  have e3 := tb r.off (gN first i).1.toNat
  have htk := lE first i (by omega)
  have hfl : (pr ((first.take i).filter fun c => !r.off.testBit c.1.toNat)).length ≤ i * 2 := by
   rw [gT]
   refine dw 2 ?_
   refine dq (dW _ _) ?_
   simp
   omega
  rw [← hqs] at hk'
  simp (disch := omega) only [↓RA, RZ, simprocAttr, hn, g4, hS12.ld 4 rfl, hS12.ld 7 rfl, q1, e1, e2]
  refine gM (fun q2 => ?_) (fun q2 => ?_)
  ·have hx : ([gN first i].filter fun c => !r.off.testBit c.1.toNat) = [gN first i] := by simp [e3, decide_eq_false (show ¬ r.off >>> (gN first i).1.toNat % 2 = 1 by omega)]
   simp (disch := omega) only [↓RA, RZ, simprocAttr, hn, g9, hS12.aj 7 rfl, q1, q2]
   refine hS12.ai [I (gN first i).1, I (gN first i).2] a1K b4E rfl rfl (by simp [Value.cells]) rfl rfl (by decide) (by decide) fun w1 H11 hS13 => ?_
   simp only [RT] at hS13
   simp (disch := omega) only [↓RA, RZ, simprocAttr, hn, q1, q2]
   refine hS13.ar 6 rfl (hS13.rd 8 rfl) a1K (by first | (simp; done) | (simp; omega)) fun w2 H12 hS14 => ?_
   simp only [RT] at hS14
   simp (disch := omega) only [↓RA, RZ, simprocAttr, hn, g4, g6, g8, pS, g16, g17, g18, q1, q2]
   refine ⟨n - 1, by omega, i + 1, kvs', qv', w2, ⟨by omega, hk'⟩, by simp, rfl, ?_⟩
   rw [hqs, htk, eP, hx, jI]
   exact hS14.pick [3, 4, 0, 5, 1, 2, 6] (by decide) rfl
  have hx : ([gN first i].filter fun c => !r.off.testBit c.1.toNat) = [] := by simp [e3, decide_eq_true (show r.off >>> (gN first i).1.toNat % 2 = 1 by omega)]
  simp (disch := omega) only [↓RA, RZ, simprocAttr, hn, g4, g6, g8, pS, g16, g17, g18, g9, q1, q2]
  refine ⟨n - 1, by omega, i + 1, kvs', qv', ov, ⟨by omega, hk'⟩, by simp, rfl, ?_⟩
  rw [hqs, htk, eP, hx, dj]
  exact hS12.pick [3, 4, 0, 5, 1, 2, 6] (by decide) rfl
 simp (disch := omega) only [↓RA, RZ, simprocAttr, q1]
 have hii : i = first.length := by omega
 subst hii
 rw [ee] at hk
 rw [ee] at hS9
 have hqu := pK o r.cpl first
 have hoL : (pr (first.filter fun c => !r.off.testBit c.1.toNat)).length ≤ 2048 := by
  rw [gT]
  exact dw 2 (dq (dW _ _) hfl)
 refine Wp.al (fun n l H' => l.length = 56 ∧ get l 6 = (.slice none 0 0) ∧ get l 8 = (ptr A4 0 1) ∧ get l 9 = ov ∧ get l 10 = (.func (.func 111) #[] #[(ptr A1 0 4), (ptr A2 0 3), (ptr A3 0 1), (ptr A4 0 1)]) ∧ ∃ (j : Nat) (kvs : List (Ct × Bool)) (qv : Value) (q : List Ct), (n + j = 1100 ∧ bfs o r.cpl n j q = bfs o r.cpl 1100 0 (mZ o r.cpl first) ∧ Que o q ∧ ∀ t, uH kvs t = true ↔ t ∈ q) ∧ get l 13 = I j ∧ St prog H H' [⟨ptr A1 0 4, 0, [(.string o.name), o.rv, o.dv, o.cv]⟩, ⟨ptr A2 0 3, 0, [sv, (.int .u64 r.cpl), (.int .u64 r.off)]⟩, ⟨.map (some M1), 0, KC kvs⟩, ⟨ptr A3 0 1, 0, [(.map (some M1))]⟩, ⟨ptr A4 0 1, 0, [qv]⟩, ⟨qv, 2, pr q⟩, ⟨ov, 2, pr (first.filter fun c => !r.off.testBit c.1.toNat)⟩]) 1100 ?_ ?_
 ·simp (disch := omega) only [RB, RC, simprocAttr, hn, g6, g8, pS, g9]
  exact ⟨0, kvs, qv, _, ⟨rfl, rfl, hqu, hk⟩, rfl, hS9⟩
 rintro n l H13 ⟨hn, g6, g8, g9, pS, j, kvs, qv, q, ⟨hj,hbf,hqq,hkk⟩, g13, hS15⟩
 have hql := hqq.len hf
 simp (disch := omega) only [↓RA, RZ, simprocAttr, hn, g8, g13, hS15.ld 4 rfl, (hS15.ay 5 rfl (fun _ => rfl)).len]
 refine gM (fun q3 => ?_) (fun q3 => ?_)
 ·have hjl : j < q.length := by omega
  simp (disch := omega) only [↓RA, RZ, simprocAttr, hn, g8, pS, g13, hS15.ld 4 rfl, (hS15.ay 5 rfl (fun _ => rfl)).idx, (hS15.ay 5 rfl (fun _ => rfl)).aj, jK, q3]
  have hM2 := hS15.pick (os' := [⟨.map (some M1), 0, _⟩, ⟨ptr A4 0 1, 0, _⟩, ⟨qv, 2, _⟩]) [2, 4, 5] (by decide) rfl
  have hR2 := hS15.pick (os' := [⟨.map (some M1), 0, _⟩, ⟨ptr A4 0 1, 0, _⟩, ⟨qv, 2, _⟩, ⟨ptr A1 0 4, 0, _⟩, ⟨ptr A2 0 3, 0, _⟩, ⟨ptr A3 0 1, 0, _⟩, ⟨ov, 2, _⟩]) [2, 4, 5, 0, 1, 3, 6] (by decide) rfl
  refine gV (b0B o r sv (gN q j) A1 A2 A3 A4 M1 qv q kvs hM2.aL (fun h => ⟨(hR2.frame h.forget).var 0 rfl, ho.ae (hR2.frame h.forget), (hR2.frame h.forget).var 1 rfl, (hR2.frame h.forget).var 2 rfl⟩) hkk hqq hf hr.2) ?_
  rintro r H14 ⟨kvs', qv', rfl, hk', hT2⟩
  have hS16 := hR2.frame hT2
  simp only [RT] at hS16
  simp (disch := omega) only [↓RA, RZ, simprocAttr, hn, g6, g8, g9, pS, g13, q3]
  obtain ⟨n', rfl⟩ : ∃ n', n = n' + 1 := ⟨n - 1, by omega⟩
  rw [bfs, if_pos hjl] at hbf
  exact ⟨n', by omega, j + 1, kvs', qv', _, ⟨by omega, hbf, hqq.stepF _ _ _, hk'⟩, by simp, hS16.pick [3, 4, 0, 5, 1, 2, 6] (by decide) rfl⟩
 have hbq : bfs o r.cpl 1100 0 (mZ o r.cpl first) = q := by
  rw [← hbf]
  cases n with
  | zero => rfl
  | succ n => rw [bfs, if_neg (by omega)]
 have hqp : (pr q).length ≤ 2048 := by rw [gT]; omega
 simp (disch := omega) only [↓RA, RZ, simprocAttr, hn, g8, g9, hS15.ld 4 rfl, q3]
 refine hS15.ar 6 rfl (hS15.rd 5 rfl) a1K (by first | (simp; done) | (simp; omega)) fun w3 H15 hS17 => ?_
 simp only [RT] at hS17
 simp (disch := omega) only [↓RA, RZ, simprocAttr, hn, q3]
 rw [← jI, ← hbq] at hS17
 have hLL : ((first.filter fun c => !r.off.testBit c.1.toNat) ++ bfs o r.cpl 1100 0 (mZ o r.cpl first)).length < 1000000 := by
  have h1 := dW (fun c : Ct => !r.off.testBit c.1.toNat) first
  rw [dh, hbq]
  omega
 refine c1j hS17 6 rfl (gD hLL (by decide)) fun HS hSS => ?_
 simp only [List.set_cons_succ, fO] at hSS
 simp (disch := omega) only [↓RA, RZ, simprocAttr, hn, q3]
 have hM3 := hSS.pick (os' := [⟨w3, 2, _⟩]) [6] (by decide) rfl
 have hR3 := hSS.pick (os' := [⟨w3, 2, _⟩, ⟨ptr A1 0 4, 0, _⟩, ⟨ptr A2 0 3, 0, _⟩, ⟨.map (some M1), 0, _⟩, ⟨ptr A3 0 1, 0, _⟩, ⟨ptr A4 0 1, 0, _⟩, ⟨qv, 2, _⟩]) [6, 0, 1, 2, 3, 4, 5] (by decide) rfl
 refine gV (a5X hM3.aL (by rw [nO]; exact gD hLL (by decide))) ?_
 rintro r H16 ⟨rest, hb, hrd, hT3⟩
 have hS18 := hR3.frame hT3
 simp only [RT] at hS18
 have hrr := hrd _ (hS18.rd 0 rfl)
 have hrc := hrr.cells
 simp (disch := omega) only [↓RA, RZ, simprocAttr, hn, c2H, q3]
 refine ⟨⟨⟨hrr, jT, by decide⟩, fun b h => ?_⟩, hS18.forget⟩
 rcases hS18.new _ (dV ..) b (hb b h) with h | h
 ·exact h
 ·exact h.elim
theorem b4t {α : Type} [Inhabited α] [DecidableEq α] (l : List α) : (dd l).length ≤ l.length := b8G l l.length
theorem a2E (rs : List Rk) (s : Stp) (key : Int) (h : ∀ g ∈ s.segs, g.draws.length ≤ 8) : (qW rs s key).length ≤ 8 := by
 unfold qW
 refine dq (b4t _) ?_
 rw [nO, dZ]
 refine dq (dW _ _) ?_
 unfold a6Q
 split
 ·simp
 ·exact h _ (gS (a3G (p := a6O s key) (n := s.segs.length) (by omega)))
def mV (o : Org) (rg : Reg) (c : Ct) (k : Nat) : List Ct := (List.range k).flatMap fun i => if (gN rg.stops c.1.toNat).testBit i then qW o.ranks (gN (gN o.dvs c.1.toNat).stops i) c.2 else []
theorem yT (o : Org) (rg : Reg) (c : Ct) (k : Nat) : mV o rg c (k + 1) = mV o rg c k ++ (if (gN rg.stops c.1.toNat).testBit k then qW o.ranks (gN (gN o.dvs c.1.toNat).stops k) c.2 else []) := by
 unfold mV
 rw [eZ, dY, dG, fA, dj]
theorem xQ {o : Org} (hf : o.Fine) (rg : Reg) {c : Ct} (hc : pX o c = true) : ∀ k, k ≤ (gN o.dvs c.1.toNat).stops.length → (mV o rg c k).length ≤ k * 8
 | 0, _ => by simp [mV]
 | k + 1, hk => by
   have h := xQ hf rg hc k (by omega)
   have hc := (rW o c).1 hc
   rw [yT, dh]
   split
   ·have := a2E o.ranks (gN (gN o.dvs c.1.toNat).stops k) c.2 (hf.draws c.1.toNat (by omega) _ (gS (by omega)))
    omega
   ·simp
    omega
theorem b1d {o : Org} (hf : o.Fine) (rg : Reg) {c : Ct} (hc : pX o c = true) : (oE o rg c).length ≤ 480 := by
 have h := xQ hf rg hc _ (cZ _)
 have h1 := (rW o c).1 hc
 have := hf.stops c.1.toNat (by omega)
 have e : oE o rg c = mV o rg c (gN o.dvs c.1.toNat).stops.length := rfl
 rw [e]
 omega
theorem tN {o : Org} (hf : o.Fine) (rg : Reg) : ∀ (l : List Ct), (∀ c ∈ l, pX o c = true) → (l.flatMap (oE o rg)).length ≤ l.length * 480
 | [], _ => by simp
 | c :: l, h => by
   rw [dG, dh, ec]
   have h1 := tN hf rg l fun x hx => h x (by simp [hx])
   have h2 := b1d hf rg (h c (by simp))
   omega
theorem b0u (o : Org) (ho : o.In H) (hf : o.Fine) (rg : Reg) (sv : Value) (hr : rg.In H sv) (hrl : rg.stops.length = o.dvs.length) (fv : Value) (cs : List Ct) (hfi : Sl 2 jK H fv cs) (hfl : cs.length ≤ 2048) (hfo : ∀ c ∈ cs, pX o c = true) :
 Fn prog 65 [.agg #[.string o.name, o.rv, o.dv, o.cv], .agg #[sv, .int .u64 rg.cpl, .int .u64 rg.off], fv] H fun rr H' => ∃ (gv : Value) (rest : List Value), rr = lX gv 2 0 (a8A o rg cs).length ∧ St prog H H' [⟨gv, 2, pr (a8A o rg cs) ++ rest⟩] := by
 refine .bD func65 rfl (by kernel_rfl) (m := 55) rfl fun l hn g0 g1 g2 => ?_
 simp (disch := omega) only [↓RA, RB, simprocAttr, g0]
 refine (sR H).eNew 4 [(.string o.name), o.rv, o.dv, o.cv] rfl rfl (by simp [OC, ((sR H).sl ho.1).cells.2.1, ((sR H).sl ho.2.2.1).cells.2.1, ((sR H).sl ho.2.2.2.2.1).cells.2.1]) oD fun A1 H1 hS1 => ?_
 simp only [RT] at hS1
 simp (disch := omega) only [↓RA, RB, simprocAttr, g1]
 refine hS1.eNew 3 [sv, (.int .u64 rg.cpl), (.int .u64 rg.off)] rfl rfl (by simp [OC, (hS1.sl hr.1).cells.2.1]) vZ fun A2 H2 hS2 => ?_
 simp only [RT] at hS2
 simp (disch := omega) only [↓RA, RZ, simprocAttr, hn, g2, (hS2.sl hfi).len]
 have hS3 := hS2.nil 1
 simp only [RT] at hS3
 refine Wp.al (fun n l H' => l.length = 55 ∧ get l 3 = (ptr A1 0 4) ∧ get l 4 = (ptr A2 0 3) ∧ get l 6 = (.slice none 0 0) ∧ get l 12 = fv ∧ get l 13 = I cs.length ∧ ∃ (i : Nat) (ov : Value), (n + i = cs.length) ∧ get l 14 = I i ∧ get l 7 = ov ∧ St prog H H' [⟨ptr A1 0 4, 0, [(.string o.name), o.rv, o.dv, o.cv]⟩, ⟨ptr A2 0 3, 0, [sv, (.int .u64 rg.cpl), (.int .u64 rg.off)]⟩, ⟨ov, 2, pr ((cs.take i).flatMap (oE o rg))⟩]) cs.length ?_ ?_
 ·simp (disch := omega) only [RB, RC, simprocAttr, hn]
  exact ⟨0, .slice none 0 0, by omega, rfl, rfl, hS3⟩
 rintro n l H3 ⟨hn, g3, g4, g6, g12, g13, i, ov, hi, g14, g7, hS4⟩
 simp (disch := omega) only [↓RA, RB, simprocAttr, hn, g13, g14]
 refine gM (fun q1 => ?_) (fun q1 => ?_)
 ·have hci := (rW o _).1 (hfo _ (gS (xs := cs) (j := i) (by omega)))
  obtain ⟨a, ha⟩ : ∃ a : Nat, (gN cs i).1 = a := ⟨(gN cs i).1.toNat, by omega⟩
  have ha1 : a < o.dvs.length := by omega
  have hst := (ho.2.2.2.1 _ (gS ha1)).2.2
  have hs60 := hf.stops a ha1
  simp (disch := omega) only [↓RA, RZ, simprocAttr, hn, g12, g14, (hS4.sl hfi).idx, (hS4.sl hfi).aj, jK, q1]
  refine hS4.eNew 2 [I 0, I 0] rfl rfl rfl uK fun A3 H4 hS5 => ?_
  simp only [RT] at hS5
  simp (disch := omega) only [↓RA, RZ, simprocAttr, hn, q1]
  refine hS5.aa 3 rfl [I (gN cs i).1, I (gN cs i).2] rfl rfl uK (by simp) fun H5 hS6 => ?_
  simp only [RT] at hS6
  simp (disch := omega) only [↓RA, RZ, simprocAttr, hn, g3, q1]
  simp only [ha] at hS6
  simp (disch := omega) only [↓RA, RZ, simprocAttr, hn, hS6.ld 0 rfl, hS6.ld 3 rfl, (hS6.sl ho.2.2.1).idx, (hS6.sl ho.2.2.1).bF, (hS6.sl ho.2.2.1).ld, Dvn.cells, (hS6.sl (ho.2.2.2.1 (gN o.dvs a) (gS (by omega))).1).len, q1, ha]
  have hta : (gN cs i).1.toNat = a := by omega
  have htk := lE cs i (by omega)
  have hsx := hr.2.2.1 _ (gS (xs := rg.stops) (j := a) (by omega))
  have hacc : (pr ((cs.take i).flatMap (oE o rg))).length ≤ 2048 * 960 := by
   rw [gT]
   have := tN hf rg (cs.take i) fun c hc => hfo c (List.mem_of_mem_take hc)
   rw [gK] at this
   omega
  refine Wp.al (fun n l H' => l.length = 55 ∧ get l 3 = (ptr A1 0 4) ∧ get l 4 = (ptr A2 0 3) ∧ get l 6 = (.slice none 0 0) ∧ get l 9 = (ptr A3 0 2) ∧ get l 12 = fv ∧ get l 13 = I cs.length ∧ get l 14 = I i ∧ get l 24 = (gN o.dvs a).sv ∧ get l 25 = I (gN o.dvs a).stops.length ∧ ∃ (k : Nat) (ow : Value), (n + k = (gN o.dvs a).stops.length) ∧ get l 26 = I k ∧ get l 7 = ow ∧ St prog H H' [⟨ptr A1 0 4, 0, [(.string o.name), o.rv, o.dv, o.cv]⟩, ⟨ptr A2 0 3, 0, [sv, (.int .u64 rg.cpl), (.int .u64 rg.off)]⟩, ⟨ow, 2, pr ((cs.take i).flatMap (oE o rg) ++ mV o rg (gN cs i) k)⟩, ⟨ptr A3 0 2, 0, [I a, I (gN cs i).2]⟩]) (gN o.dvs a).stops.length ?_ ?_
  ·simp (disch := omega) only [RB, RC, simprocAttr, hn, g3, g4, g6, g12, g13, g14, g7]
   refine ⟨0, ov, by omega, rfl, rfl, ?_⟩
   rw [show mV o rg (gN cs i) 0 = [] from rfl, dj]
   exact hS6
  rintro n l H6 ⟨hn, g3, g4, g6, g9, g12, g13, g14, g24, g25, k, ow, hj, g26, g7, hS7⟩
  simp (disch := omega) only [↓RA, RB, simprocAttr, hn, g25, g26]
  refine gM (fun q2 => ?_) (fun q2 => ?_)
  ·have e1 := a6a (gN rg.stops a) k hsx
   have e2 := a9r (gN rg.stops a >>> k) (a3F k hsx)
   have e3 := tb (gN rg.stops a) k
   have hsu := yT o rg (gN cs i) k
   rw [hta] at hsu
   have hKl := xQ hf rg (hfo _ (gS (xs := cs) (j := i) (by omega))) k (by rw [hta]; omega)
   have hKp : (pr (mV o rg (gN cs i) k)).length ≤ 2000 := by rw [gT]; omega
   simp (disch := omega) only [↓RA, RZ, simprocAttr, hn, g24, g26, (hS7.sl (ho.2.2.2.1 (gN o.dvs a) (gS (by omega))).1).idx, (hS7.sl (ho.2.2.2.1 (gN o.dvs a) (gS (by omega))).1).aj, Stp.cells, q2]
   refine hS7.eNew 4 [(.string ⟨#[]⟩), I 0, I 0, (.slice none 0 0)] rfl rfl rfl nH fun A4 H7 hS8 => ?_
   simp only [RT] at hS8
   simp (disch := omega) only [↓RA, RZ, simprocAttr, hn, q2]
   refine hS8.aa 4 rfl [(.string (gN (gN o.dvs a).stops k).name), I (gN (gN o.dvs a).stops k).num, I (gN (gN o.dvs a).stops k).den, (gN (gN o.dvs a).stops k).gv] rfl (by simp [OC, (hS8.sl ((ho.2.2.2.1 (gN o.dvs a) (gS (by omega))).2.1 (gN (gN o.dvs a).stops k) (gS (by omega))).1).cells.2.1]) nH (by simp) fun H8 hS9 => ?_
   simp only [RT] at hS9
   simp (disch := omega) only [↓RA, RZ, simprocAttr, hn, g4, g9, hS9.ld 1 rfl, hS9.ld 3 rfl, (hS9.sl hr.1).idx, (hS9.sl hr.1).ld, one, u64, q2, e1, e2]
   refine gM (fun q3 => ?_) (fun q3 => ?_)
   ·have hsu : mV o rg (gN cs i) (k + 1) = mV o rg (gN cs i) k ++ qW o.ranks (gN (gN o.dvs a).stops k) (gN cs i).2 := by rw [hsu, e3, if_pos (decide_eq_true (by omega))]
    have hpp : (pr (qW o.ranks (gN (gN o.dvs a).stops k) (gN cs i).2)).length ≤ 16 := by
     rw [gT]
     exact dw 2 (a2E _ _ _ (hf.draws a ha1 _ (gS (by omega))))
    simp (disch := omega) only [↓RA, RZ, simprocAttr, hn, g3, g9, g7, hS9.ld 0 rfl, hS9.aj 4 rfl, hS9.ld 3 rfl, q2, q3]
    refine gV (b4s o.rv o.ranks (hS9.sl ho.1) (fun q hq => (ho.2.1 q hq).ae hS9) ho.2.2.2.2.2.1 (gN (gN o.dvs a).stops k) (((ho.2.2.2.1 _ (gS ha1)).2.1 _ (gS (by omega))).ae hS9) (hf.draws a ha1 _ (gS (by omega))) (gN cs i).2) ?_
    rintro r H9 ⟨hx, hT1⟩
    have hS10 := hS9.trans hT1
    simp only [RT] at hS10
    simp (disch := omega) only [↓RA, RZ, simprocAttr, hn, q2, q3]
    refine hS10.ar 2 rfl hx.1.rd a9J (by have h := hpp; unfold pr at h; rw [jI, dh]; omega) fun w1 H10 hS11 => ?_
    simp only [RT] at hS11
    simp (disch := omega) only [↓RA, RZ, simprocAttr, hn, g3, g4, g6, g9, g12, g13, g14, g24, g25, g26, q2, q3]
    refine ⟨n - 1, by omega, k + 1, w1, by omega, by simp, rfl, ?_⟩
    rw [hsu, ← eh, jI]
    exact hS11.pick [0, 1, 2, 3] (by decide) rfl
   have hsu : mV o rg (gN cs i) (k + 1) = mV o rg (gN cs i) k := by rw [hsu, e3, if_neg (by rw [decide_eq_true_iff]; omega), dj]
   simp (disch := omega) only [↓RA, RZ, simprocAttr, hn, g3, g4, g6, g9, g12, g13, g14, g24, g25, g26, g7, q2, q3]
   refine ⟨n - 1, by omega, k + 1, ow, by omega, by simp, rfl, ?_⟩
   rw [hsu]
   exact hS9.pick [0, 1, 2, 3] (by decide) rfl
  simp (disch := omega) only [↓RA, RZ, simprocAttr, hn, g3, g4, g6, g12, g13, g14, g7, q2]
  refine ⟨cs.length - (i + 1), by omega, i + 1, ow, by omega, by simp, rfl, ?_⟩
  have hkk : k = (gN o.dvs a).stops.length := by omega
  rw [htk, dY, dG, fA, dj]
  have e : oE o rg (gN cs i) = mV o rg (gN cs i) k := by rw [hkk, ← hta]; rfl
  rw [e]
  exact hS7.pick [0, 1, 2] (by decide) rfl
 simp (disch := omega) only [↓RA, RZ, simprocAttr, hn, g7, q1]
 have hii : i = cs.length := by omega
 subst hii
 rw [ee] at hS4
 have hLL : (cs.flatMap (oE o rg)).length < 1000000 := by
  have := tN hf rg cs hfo
  omega
 refine c0v hS4 2 rfl (gD hLL (by decide)) fun HS hSS => ?_
 simp only [List.set_cons_succ, fO] at hSS
 simp (disch := omega) only [↓RA, RZ, simprocAttr, hn, g7, q1]
 have hM1 := hSS.pick (os' := [⟨ov, 2, _⟩]) [2] (by decide) rfl
 have hR1 := hSS.pick (os' := [⟨ov, 2, _⟩, ⟨ptr A1 0 4, 0, _⟩, ⟨ptr A2 0 3, 0, _⟩]) [2, 0, 1] (by decide) rfl
 refine gV (vM hM1.aL (by rw [nO]; exact gD hLL (by decide))) ?_
 rintro r H11 ⟨rest, rfl, hT2⟩
 have hS12 := hR1.frame hT2
 simp only [RT] at hS12
 obtain ⟨rc, hrcE⟩ : ∃ w, w = lX ov 2 0 (dd (tQ (cs.flatMap (oE o rg)))).length := ⟨_, rfl⟩
 have hrr : RdAt H11 rc 2 (pr (dd (tQ (cs.flatMap (oE o rg))))) := hrcE ▸ wP (hS12.rd 0 rfl)
 have hrc := hrr.cells
 rw [← hrcE]
 simp (disch := omega) only [↓RA, RZ, simprocAttr, hn, c3B, q1]
 exact ⟨ov, rest, hrcE, hS12.pick [0] (by decide) rfl⟩
end Go.Ds
namespace Go.Ds
open Go.Proofs Go.Proofs.Tryz
variable {H : Heap}
set_option maxRecDepth 10000
theorem Sl.bl {α : Type} {n : Nat} {cel : α → List Value} {v : Value} {xs : List α} (h : Sl n cel H v xs) : iW v = true := by
 rcases h.rd with ⟨rfl, _⟩ | ⟨A, i, e, row, ty, rw, lo, ver, n, _, _, _, _, _, _, rfl⟩ <;> rfl
theorem b8M {α : Type} [Inhabited α] [DecidableEq α] {l : List α} {x : α} (h : x ∈ dd l) : x ∈ l := by
 unfold dd wN at h
 obtain ⟨i, hi, rfl⟩ := dx.1 h
 exact gS (dm.1 (fD.1 hi).1)
theorem b5f {l : List (Int × Int)} {x : Int × Int} : x ∈ tQ l ↔ x ∈ l := (nY l).mem_iff
theorem Que.bfs {o : Org} (cp : Nat) : ∀ (n i : Nat) {q : List Ct}, Que o q → Que o (bfs o cp n i q)
 | 0, _, _, h => h
 | n + 1, i, q, h => by
   rw [Go.Ds.bfs]
   split
   ·exact Que.bfs cp n (i + 1) (h.stepF cp true _)
   ·exact h
theorem uO {o : Org} {rg : Reg} {l : List Ct} (hl : ∀ c ∈ l, pX o c = true) : ∀ c ∈ nB o rg l, pX o c = true := by
 intro c hc
 unfold nB at hc
 have hc := b5f.1 (b8M hc)
 rcases dE.1 hc with h | h
 ·exact hl c (fD.1 h).1
 ·exact ((pK o rg.cpl l).bfs rg.cpl 1100 0).2 c h
theorem a1o {o : Org} (hf : o.Fine) {rg : Reg} {l : List Ct} (hl : l.length ≤ 1024) : (nB o rg l).length ≤ 2048 := by
 unfold nB
 refine dq (b4t _) ?_
 rw [nO, dh]
 have h1 := dW (fun c : Ct => !rg.off.testBit c.1.toNat) l
 have h2 := ((pK o rg.cpl l).bfs rg.cpl 1100 0).len hf
 omega
theorem a3A (o : Org) (ho : o.In H) (hf : o.Fine) (rg : Reg) (sv : Value) (hr : rg.In H sv) (hrl : rg.stops.length = o.dvs.length) (fv : Value) (cs : List Ct) (hfi : Sl 2 jK H fv cs) (hfl : cs.length ≤ 1024) (hfo : ∀ c ∈ cs, pX o c = true) :
 Fn prog 52 [.agg #[.string o.name, o.rv, o.dv, o.cv], .agg #[sv, .int .u64 rg.cpl, .int .u64 rg.off], fv] H fun rr H' => ∃ (gv : Value) (rest : List Value), rr = lX gv 2 0 (lO o rg cs).length ∧ St prog H H' [⟨gv, 2, pr (lO o rg cs) ++ rest⟩] := by
 refine .bD func52 rfl (by kernel_rfl) (m := 14) rfl fun l hn g0 g1 g2 => ?_
 simp (disch := omega) only [↓RA, RB, simprocAttr, g0]
 refine (sR H).eNew 4 [(.string o.name), o.rv, o.dv, o.cv] rfl rfl (by simp [OC, ((sR H).sl ho.1).cells.2.1, ((sR H).sl ho.2.2.1).cells.2.1, ((sR H).sl ho.2.2.2.2.1).cells.2.1]) oD fun A1 H1 hS1 => ?_
 simp only [RT] at hS1
 simp (disch := omega) only [↓RA, RB, simprocAttr, g1]
 refine hS1.eNew 3 [sv, (.int .u64 rg.cpl), (.int .u64 rg.off)] rfl rfl (by simp [OC, (hS1.sl hr.1).cells.2.1]) vZ fun A2 H2 hS2 => ?_
 simp only [RT] at hS2
 simp (disch := omega) only [↓RA, RB, simprocAttr]
 refine Wp.aU jM [(0, 6), (1, 6)] (by kernel_rfl) (by kernel_rfl) ?_
 simp (disch := omega) only [↓RA, RZ, simprocAttr, hn, g2, hS2.aj 0 rfl, hS2.aj 1 rfl]
 refine gV (zB o (ho.ae hS2) hf rg sv (hr.ae hS2) fv cs (hS2.sl hfi) hfl hfo) ?_
 rintro r H3 ⟨hx, hT1⟩
 have hS3 := hS2.trans hT1
 simp only [RT] at hS3
 simp (disch := omega) only [↓RA, RZ, simprocAttr, hn]
 refine gV (b0u o (ho.ae hS3) hf rg sv (hr.ae hS3) hrl r (nB o rg cs) hx.1 (a1o hf hfl) (uO hfo)) ?_
 rintro r H4 ⟨gv, rest, he2, hT2⟩
 have hS4 := hS3.trans hT2
 simp only [RT] at hS4
 have hx2 : Slx 2 jK H4 (fun B => H.length ≤ B) r (lO o rg cs) := he2 ▸ a8R (hS4.pick [2] (by decide) rfl)
 simp (disch := omega) only [↓RA, RZ, simprocAttr, hn, hS3.aj 0 rfl, hS3.aj 1 rfl, c3t]
 exact ⟨gv, rest, he2, hS4.pick [2] (by decide) rfl⟩
theorem sA (o : Org) (ho : o.In H) (hf : o.Fine) (rg : Reg) (sv : Value) (hr : rg.In H sv) (hrl : rg.stops.length = o.dvs.length) (fv : Value) (cs : List Ct) (hfi : Sl 2 jK H fv cs) (hfl : cs.length ≤ 1024) (hfo : ∀ c ∈ cs, pX o c = true) :
 Fn prog 52 [.agg #[.string o.name, o.rv, o.dv, o.cv], .agg #[sv, .int .u64 rg.cpl, .int .u64 rg.off], fv] H fun rr H' => Slx 2 jK H' (fun B => H.length ≤ B) rr (lO o rg cs) ∧ St prog H H' [] :=
 (a3A o ho hf rg sv hr hrl fv cs hfi hfl hfo).mono fun _ _ ⟨_, _, e, h⟩ => ⟨e ▸ a8R h, h.forget⟩
def rgc (p : Value × Reg) : List Value := [p.1, .int .u64 p.2.cpl, .int .u64 p.2.off]
def mR (o : Org) (l : List (Value × Reg)) : Int := if organE o ≠ 0 then organE o else kO (fun j => lJ o (gN l j).2) l.length
theorem b0V (o : Org) (ho : o.In H) (lv : Value) (xs : List (Value × Reg)) (hl : Sl 3 rgc H lv xs) (hle : xs.length < 1000000000) (hr : ∀ p ∈ xs, p.2.In H p.1) :
 Fn prog 100 [.agg #[.string o.name, o.rv, o.dv, o.cv], lv] H fun r H' => r = I (mR o xs) ∧ St prog H H' [] := by
 refine .aM func100 rfl (by kernel_rfl) (m := 27) rfl fun l hn g0 g1 => ?_
 simp (disch := omega) only [↓RA, RB, simprocAttr, g0]
 refine (sR H).eNew 4 [(.string o.name), o.rv, o.dv, o.cv] rfl rfl (by simp [OC, ((sR H).sl ho.1).cells.2.1, ((sR H).sl ho.2.2.1).cells.2.1, ((sR H).sl ho.2.2.2.2.1).cells.2.1]) oD fun A1 H1 hS1 => ?_
 simp only [RT] at hS1
 simp (disch := omega) only [↓RA, RZ, simprocAttr, hn, hS1.aj 0 rfl]
 refine hS1.cF (a0C o (ho.ae hS1)) fun H2 hS2 => ?_
 simp (disch := omega) only [↓RA, RB, simprocAttr, hn]
 refine gM (fun h1 => ?_) (fun h1 => ?_)
 ·simp (disch := omega) only [↓RA, RZ, simprocAttr, hn, b3o, h1]
  exact ⟨by rw [mR, if_pos h1], hS2.forget⟩
 have hE : mR o xs = kO (fun j => lJ o (gN xs j).2) xs.length := by rw [mR, if_neg h1]
 simp (disch := omega) only [↓RA, RZ, simprocAttr, hn, g1, (hS2.sl hl).len, h1]
 refine Wp.al (fun n l H' => l.length = 27 ∧ get l 2 = (ptr A1 0 4) ∧ get l 14 = lv ∧ get l 15 = I xs.length ∧ ∃ (j : Nat), (n + j = xs.length ∧ ∀ q, q < j → lJ o (gN xs q).2 = 0) ∧ get l 16 = I j ∧ St prog H H' [⟨ptr A1 0 4, 0, [(.string o.name), o.rv, o.dv, o.cv]⟩]) xs.length ?_ ?_
 ·simp (disch := omega) only [RB, RC, simprocAttr, hn]
  exact ⟨0, ⟨by omega, fun q hq => absurd hq (dz _)⟩, rfl, hS2⟩
 rintro n l H3 ⟨hn, g2, g14, g15, j, ⟨hj,hz⟩, g16, hS3⟩
 simp (disch := omega) only [↓RA, RB, simprocAttr, hn, g15, g16]
 refine gM (fun q1 => ?_) (fun q1 => ?_)
 ·simp (disch := omega) only [↓RA, RZ, simprocAttr, hn, g14, g16, (hS3.sl hl).idx, (hS3.sl hl).aj, rgc, q1]
  refine hS3.eNew 3 [(.slice none 0 0), (.int .u64 0), (.int .u64 0)] rfl rfl rfl vZ fun A2 H4 hS4 => ?_
  simp only [RT] at hS4
  simp (disch := omega) only [↓RA, RZ, simprocAttr, hn, q1]
  refine hS4.aa 1 rfl [(gN xs j).1, (.int .u64 (gN xs j).2.cpl), (.int .u64 (gN xs j).2.off)] rfl (by simp [OC, (hS4.sl (hr (gN xs j) (gS (by omega))).1).cells.2.1]) vZ (by simp) fun H5 hS5 => ?_
  simp only [RT] at hS5
  simp (disch := omega) only [↓RA, RZ, simprocAttr, hn, g2, hS5.aj 0 rfl, hS5.aj 1 rfl, q1]
  refine hS5.cF (a8m o (ho.ae hS5) (gN xs j).2 (gN xs j).1 ((hr _ (gS (by omega))).ae hS5)) fun H6 hS6 => ?_
  simp (disch := omega) only [↓RA, RZ, simprocAttr, hn, q1]
  refine gM (fun q2 => ?_) (fun q2 => ?_)
  ·simp (disch := omega) only [↓RA, RZ, simprocAttr, hn, b3o, q1, q2]
   exact ⟨by rw [hE, lL (fun j => lJ o (gN xs j).2) xs.length j (by omega) q2 hz], hS6.forget⟩
  simp (disch := omega) only [↓RA, RZ, simprocAttr, hn, g2, g14, g15, g16, q1, q2]
  exact ⟨n - 1, by omega, j + 1, ⟨by omega, fun q hq => by rcases de.1 hq with e | e; (· exact hz q e); (· rw [e]; exact di.1 q2)⟩, by simp, hS6.pick [0] (by decide) rfl⟩
 simp (disch := omega) only [↓RA, RZ, simprocAttr, hn, b3o, q1]
 exact ⟨by rw [hE, jP (fun j => lJ o (gN xs j).2) xs.length fun q hq => hz q (by omega)], hS3.forget⟩
theorem a5r (o : Org) (sv : Value) (rg : Reg) : mR o [(sv, rg)] = lJ o rg := by
 unfold mR
 split
 ·rename_i h
  unfold lJ
  rw [if_pos h]
 ·by_cases h : lJ o rg = 0
  ·rw [h]
   exact jP _ _ fun j hj => by
    have : j = 0 := by simpa using hj
    rw [this]
    exact h
  ·exact lL (fun j => lJ o (gN [(sv, rg)] j).2) 1 0 (by decide) h fun j hj => absurd hj (dz _)
theorem qJ {o : Org} {rg : Reg} (h : lJ o rg = 0) : organE o = 0 ∧ rg.stops.length = o.dvs.length := by
 unfold lJ at h
 split at h
 ·rename_i hh; exact absurd h hh
 rename_i h1
 split at h
 ·omega
 exact ⟨di.1 h1, by omega⟩
end Go.Ds
namespace Go.Ds
open Go.Proofs
structure Ctl where
 kind : Int
 dv : Int
 ix : Int
 deriving Inhabited, DecidableEq
def Ctl.cells (c : Ctl) : List Value := [I c.kind, I c.dv, I c.ix]
def nT (n : Nat) : List Nat := (List.range 64).filter fun i => n.testBit i
end Go.Ds
namespace Go.Ds
open Go.Proofs
variable {H : Heap}
set_option maxRecDepth 10000
set_option maxHeartbeats 1000000
theorem Wp.bN {P : Program} {c c' : Code} {l l' : List Value} {Q : mL} (hc : c' = c) (hl : l' = l) (h : SW P c l H Q) : Wp P c' l' H Q := by
 subst hc hl; exact h.wp
theorem Wp.cD {P : Program} {c : Code} {l : List Value} {Q : mL} (h : ∀ l', l' = l → Wp P c l' H Q) : Wp P c l H Q := h l rfl
theorem Wp.ch {P : Program} {t : Tmp} {ps : Array Tmp} {assign body : Code} {l : List Value} {Q : mL} {k : FuncId} {captured : List Value} (hg : get l t = .func (.func k) #[] captured.toArray)
 (h : ∀ r : Loop, r.state = .ready → r.pending = none → r.tmps = l.toArray → r.params = ps → r.assign = assign → r.body = body →
   FnS P k ([.func (.yield H.length) #[] #[]] ++ captured) (H.cons (.loop r)) (b3R P l H.length Q)) : Wp P (.rangeFunc (.tmp t) ps assign body) l H Q :=
 Wp.range (first := []) rfl hg (h (a9l l ps assign body) rfl rfl rfl rfl rfl rfl)
theorem Lp.left {P : Program} {B : Base} {L : Nat} {r : Loop} {ls rest : List Ob} (h : Lp P B L r H (ls ++ rest)) : Lp P B L r H ls := h.sub (List.sublist_append_left _ _)
theorem OwnAt.var {P : Program} {A n : Nat} {cs : List Value} (h : OwnAt P H ⟨ptr A 0 n, 0, cs⟩) : Var H A n cs := by
 unfold OwnAt at h
 rw [if_pos rfl] at h
 rcases h with ⟨A', ty, lo, ver, h1, h2, h3⟩ | ⟨A', es, ck, ver, _, _, h3, _⟩
 ·simp only [ptr, Value.pointer.injEq, dr, Addr.mk.injEq] at h3
  obtain ⟨rfl, _, hn⟩ := h3
  exact ⟨hn, ty, true, lo, ver, h1, h2⟩
 ·cases h3
theorem a5K {n i : Nat} (h : i < n) : ∃ t, List.range n = List.range i ++ i :: t := by
 refine ⟨(List.range n).drop (i + 1), ?_⟩
 have h1 : (List.range n).take i = List.range i := by rw [List.take_range, fR (by omega)]
 have h2 := fc (l := List.range n) (i := i) (by simpa using h)
 rw [List.getElem_range] at h2
 rw [← h1, ← h2, List.take_append_drop]
def b3a (x n : Nat) : List Nat := (List.range n).filter fun i => x.testBit i
theorem a4W (x n : Nat) : (b3a x n).length ≤ n := by
 unfold b3a
 refine dq (dW _ _) ?_
 simp
structure Pv where
 v : Value
 l : List Ct
 deriving Inhabited
def Pv.cells (p : Pv) : List Value := [p.v]
def Pv.Ix (H : Heap) (X : Nat → Prop) (p : Pv) : Prop := Slx 2 jK H X p.v p.l
theorem Pv.Ix.step {H' : Heap} {X Y : Nat → Prop} {p : Pv} (h : p.Ix H X) (hk : Kept H X H' Y) : p.Ix H' Y := Slx.step h hk
theorem Kept.and {H' : Heap} {X Y : Nat → Prop} (Q : Nat → Prop) (h : Kept H X H' Y) : Kept H (fun B => Q B ∧ X B) H' (fun B => Q B ∧ Y B) :=
 fun B hX hB => ⟨(h B hX.2 hB).1, hX.1, (h B hX.2 hB).2⟩
theorem Fn.tr {P : Program} {k : FuncId} {args : List Value} {R : Value → Heap → Prop} (h : Fn P k args H R) : Fn P k args H fun v H' => True ∧ R v H' := by
 simpa using h
theorem c2i (i : Nat) (hi : i < 64) : IntKind.wrap .u64 (1 * 2 ^ min i (IntKind.bits .u64)) = ((2 ^ i : Nat) : Int) := by
 have e : IntKind.bits .u64 = 64 := rfl
 rw [e, fR (by omega), Int.one_mul]
 have h1 : ((2 ^ i : Nat) : Int) = 2 ^ i := by simp
 rw [← h1]
 have h2 : 2 ^ i ≤ 2 ^ 63 := fX (by decide) (by omega)
 have h5 : ((2 ^ i : Nat) : Int) ≤ ((2 ^ 63 : Nat) : Int) := Int.ofNat_le.2 h2
 exact pD _ (Int.natCast_nonneg _) (Int.lt_of_le_of_lt h5 (by decide))
end Go.Ds
namespace Go.Ds
open Go.Proofs Go.Proofs.Tryz
variable {H : Heap}
set_option maxRecDepth 10000
set_option maxHeartbeats 1000000
theorem uR {α : Type} [Inhabited α] {xs ys : List α} (hl : xs.length = ys.length) (h : ∀ j, j < xs.length → gN xs j = gN ys j) : xs = ys := by
 apply List.ext_getElem hl
 intro j h1 h2
 have := h j h1
 rwa [jJ xs j h1, jJ ys j h2] at this
theorem b2M (v w : Value) (xs ys : List Ct) (hv : Sl 2 jK H v xs) (hw : Sl 2 jK H w ys) (hl : xs.length < 1000000000) (hl2 : ys.length < 1000000000) :
 Fn prog 27 [v, w] H fun r H' => r = .bool (decide (xs = ys)) ∧ St prog H H' [] := by
 refine .aM func27 rfl (by kernel_rfl) (m := 26) rfl fun l hn g0 g1 => ?_
 simp (disch := omega) only [↓RA, RZ, simprocAttr, hn, g0, g1, ((sR H).sl hv).len, ((sR H).sl hw).len]
 refine gM (fun h1 => ?_) (fun h1 => ?_)
 ·simp (disch := omega) only [↓RA, RZ, simprocAttr, hn, b9f, h1]
  exact ⟨by rw [decide_eq_false]; intro e; rw [e] at h1; exact h1 rfl, (sR H)⟩
 simp (disch := omega) only [↓RA, RZ, simprocAttr, hn, g0, ((sR H).sl hv).len, h1]
 refine Wp.al (fun n l H' => l.length = 26 ∧ get l 0 = v ∧ get l 1 = w ∧ get l 12 = I xs.length ∧ ∃ (j : Nat), (n + j = xs.length ∧ ∀ q, q < j → gN xs q = gN ys q) ∧ get l 13 = I j ∧ St prog H H' []) xs.length ?_ ?_
 ·simp (disch := omega) only [RB, RC, simprocAttr, hn, g0, g1]
  exact ⟨0, ⟨by omega, fun q hq => absurd hq (dz _)⟩, rfl, (sR H)⟩
 rintro n l H1 ⟨hn, g0, g1, g12, j, ⟨hj,hz⟩, g13, hS1⟩
 simp (disch := omega) only [↓RA, RB, simprocAttr, hn, g12, g13]
 refine gM (fun q1 => ?_) (fun q1 => ?_)
 ·simp (disch := omega) only [↓RA, RZ, simprocAttr, hn, g13, q1]
  refine Wp.drw jM (by kernel_rfl) ?_
  simp (disch := omega) only [↓RA, RZ, simprocAttr, hn, g0, g1, (hS1.sl hv).idx, (hS1.sl hv).aj, jK, (hS1.sl hw).idx, (hS1.sl hw).aj]
  refine gM (fun q2 => ?_) (fun q2 => ?_)
  ·simp (disch := omega) only [↓RA, RZ, simprocAttr, hn, b9f, q2]
   refine ⟨?_, hS1⟩
   rw [decide_eq_false]
   intro e
   rw [e] at q2
   exact q2 ⟨rfl, rfl⟩
  have q3 := di.1 q2
  simp (disch := omega) only [↓RA, RZ, simprocAttr, hn, g0, g1, g12, g13, q2]
  exact ⟨n - 1, by omega, j + 1, ⟨by omega, fun q hq => by rcases de.1 hq with e | e; (· exact hz q e); (· rw [e]; exact gn q3.1 q3.2)⟩, by simp, hS1⟩
 simp (disch := omega) only [↓RA, RZ, simprocAttr, hn, b9f, q1]
 exact ⟨by rw [decide_eq_true]; exact uR (by omega) fun q hq => hz q (by omega), hS1⟩
def Pv.In (H : Heap) (p : Pv) : Prop := Sl 2 jK H p.v p.l
end Go.Ds
namespace Go.Ds
open Go.Proofs
variable {H : Heap}
set_option maxRecDepth 10000
set_option maxHeartbeats 1000000
end Go.Ds
