/-
  A part of the proof of SoundErrors.
-/
import Derived.Test.YtmhekfhdnednjaaGreatDoorVJ
import Derived.Test.YtmhekfhdnednjaaGreatDoorVD
import Derived.Test.YtmhekfhdnednjaaGreatDoorVE
import Derived.Test.YtmhekfhdnednjaaGreatDoorVB
set_option linter.unusedVariables false
set_option linter.unusedSimpArgs false
set_option linter.defProp false
set_option linter.unusedSectionVars false
namespace Go.Ds
open Go.Proofs Go.ChangeShapes Go.WideShapes Go.RowKit Go.Deep
set_option maxRecDepth 10000
section
variable {H0 : Type} {enc : TypeId × Value → H0} {w : World} {base n : Nat} {spare : Nat → Bool} {kW : Bool} {x : DataW H0 × List MemPlace}
end
section
variable {H0 : Type} {enc : TypeId × Value → H0} {w : World} {base : Nat} {kW : Bool}
end
end Go.Ds
namespace Go.Ds
open Go.Proofs Go.Proofs.Tryz
variable {H : Heap}
set_option maxRecDepth 10000
set_option maxHeartbeats 1000000
abbrev Nt := Nat × Nat
def ntc (x : Nt) : List Value := [.int .u64 x.1, .int .u64 x.2]
def Nt.Ok (x : Nt) : Prop := x.1 < 18446744073709551616 ∧ x.2 < 18446744073709551616
def sU (x : Nt) (n : Int) : Nt := if n < 64 then (x.1 ||| 2 ^ n.toNat, x.2) else (x.1, x.2 ||| 2 ^ (n - 64).toNat)
theorem a5u (i : Nat) (h : i < 64) : 2 ^ i < 18446744073709551616 := by
 have : 2 ^ i ≤ 2 ^ 63 := fM (by decide) (by omega)
 have e : 2 ^ 63 = 9223372036854775808 := rfl
 omega
theorem b5L {a b : Nat} (ha : a < 18446744073709551616) (hb : b < 18446744073709551616) : a ||| b < 18446744073709551616 := Nat.or_lt_two_pow (n := 64) ha hb
theorem orB (a b : Nat) (ha : a < 18446744073709551616) (hb : b < 18446744073709551616) : IntKind.wrap .u64 ((BitVec.ofInt (IntKind.bits .u64) (a : Int) ||| BitVec.ofInt (IntKind.bits .u64) (b : Int)).toNat : Int) = ((a ||| b : Nat) : Int) := by
 have e : (BitVec.ofInt (IntKind.bits .u64) (a : Int) ||| BitVec.ofInt (IntKind.bits .u64) (b : Int)).toNat = a ||| b := by
  rw [BitVec.toNat_or, uH a ha, uH b hb]
 rw [e]
 have := b5L ha hb
 exact pJ _ (by omega) (by omega)
theorem orN (n i : Nat) (hn : n < 18446744073709551616) (hi : i < 64) : IntKind.wrap .u64 ((BitVec.ofInt (IntKind.bits .u64) (n : Int) ||| BitVec.ofInt (IntKind.bits .u64) (IntKind.wrap .u64 (1 * 2 ^ min i (IntKind.bits .u64)))).toNat : Int) = ((n ||| 2 ^ i : Nat) : Int) := by
 rw [c4G i hi]
 exact orB n (2 ^ i) hn (a5u i hi)
theorem b9a {x : Nt} (hx : Nt.Ok x) {z : Int} (h0 : 0 ≤ z) (h1 : z < 128) : Nt.Ok (sU x z) := by
 unfold sU
 split
 ·exact ⟨b5L hx.1 (a5u _ (by omega)), hx.2⟩
 ·exact ⟨hx.1, b5L hx.2 (a5u _ (by omega))⟩
theorem a8n (x : Nt) (hx : Nt.Ok x) (z : Int) (h0 : 0 ≤ z) (h1 : z < 128) : Fn prog 95 [.agg #[.int .u64 x.1, .int .u64 x.2], I z] H fun r H' => r = .agg #[.int .u64 (sU x z).1, .int .u64 (sU x z).2] ∧ St prog H H' [] := by
 obtain ⟨m, rfl⟩ := gQ h0
 refine .aM func95 rfl (by kernel_rfl) (m := 21) rfl fun l hn g0 g1 => ?_
 simp (disch := omega) only [↓RA, RB, simprocAttr, g0]
 refine (sR H).eNew 2 [(.int .u64 x.1), (.int .u64 x.2)] rfl rfl rfl nQ fun A1 H1 hS1 => ?_
 simp only [RT] at hS1
 simp (disch := omega) only [↓RA, RZ, simprocAttr]
 refine hS1.eNew 2 [(.int .u64 0), (.int .u64 0)] rfl rfl rfl nQ fun A2 H2 hS2 => ?_
 simp only [RT] at hS2
 simp (disch := omega) only [↓RA, RB, simprocAttr, hn, g1]
 refine iA (fun q1 => ?_) (fun q1 => ?_)
 ·have e1 := orN x.1 m hx.1 (by omega)
  have e2 : sU x (m : Int) = (x.1 ||| 2 ^ m, x.2) := by unfold sU; rw [if_pos q1]; rfl
  simp (disch := omega) only [↓RA, RC, simprocAttr, q1]
  refine Wp.drw jV (by kernel_rfl) ?_
  simp (disch := omega) only [↓RA, RZ, simprocAttr, hn, g1, hS2.ld 0 rfl, e1]
  refine hS2.ab 0 rfl [(.int .u64 (x.1 ||| 2 ^ m : Nat))] rfl rfl b9c (by simp) fun H3 hS3 => ?_
  simp only [RT] at hS3
  simp (disch := omega) only [↓RA, RZ, simprocAttr, hn, hS3.ai 0 rfl]
  refine hS3.ab 1 rfl [(.int .u64 (x.1 ||| 2 ^ m : Nat)), (.int .u64 x.2)] rfl rfl nQ (by simp) fun H4 hS4 => ?_
  simp only [RT] at hS4
  simp (disch := omega) only [↓RA, RZ, simprocAttr, hn, c4F, hS4.ai 1 rfl]
  rw [e2]
  exact ⟨rfl, hS4.forget⟩
 have e1 := orN x.2 (m - 64) hx.2 (by omega)
 have e3 : (m : Int) - 64 = ((m - 64 : Nat) : Int) := by omega
 have e2 : sU x (m : Int) = (x.1, x.2 ||| 2 ^ (m - 64)) := by unfold sU; rw [if_neg q1, e3]; rfl
 simp (disch := omega) only [↓RA, RC, simprocAttr, q1]
 refine Wp.drw jV (by kernel_rfl) ?_
 simp (disch := omega) only [↓RA, RZ, simprocAttr, hn, g1, hS2.ld 0 rfl, e1, e3]
 refine hS2.ab 0 rfl [(.int .u64 (x.2 ||| 2 ^ (m - 64) : Nat))] rfl rfl b9c (by simp) fun H5 hS5 => ?_
 simp only [RT] at hS5
 simp (disch := omega) only [↓RA, RZ, simprocAttr, hn, hS5.ai 0 rfl]
 refine hS5.ab 1 rfl [(.int .u64 x.1), (.int .u64 (x.2 ||| 2 ^ (m - 64) : Nat))] rfl rfl nQ (by simp) fun H6 hS6 => ?_
 simp only [RT] at hS6
 simp (disch := omega) only [↓RA, RZ, simprocAttr, hn, c4F, hS6.ai 1 rfl]
 rw [e2]
 exact ⟨rfl, hS6.forget⟩
def jF (xs : List Int) : Nt := xs.foldl sU (0, 0)
def isN (z : Int) : Prop := 0 ≤ z ∧ z < 128
theorem uW : ∀ (xs : List Int) (x : Nt), (∀ z ∈ xs, isN z) → Nt.Ok x → Nt.Ok (xs.foldl sU x)
 | [], _, _, h => h
 | z :: xs, x, hz, h => by
   rw [fA]
   exact uW xs _ (fun y hy => hz y (eT _ hy)) (b9a h (hz z (eH ..)).1 (hz z (eH ..)).2)
theorem a7r (xs : List Int) {j : Nat} (hj : j < xs.length) : jF (xs.take (j + 1)) = sU (jF (xs.take j)) (iB xs j) := by
 unfold jF
 rw [List.take_add_one, dx hj, Option.toList_some, gY, ← kF _ j hj]
 rfl
theorem b3n (z : Int) (h : isN z) : Fn prog 94 [I z] H fun r H' => r = .bool true ∧ St prog H H' [] := by
 have h0 := h.1
 have h1 := h.2
 refine .aW func94 rfl (by kernel_rfl) (m := 9) rfl fun l hn g0 => ?_
 simp (disch := omega) only [↓RA, RZ, simprocAttr, hn, g0]
 refine jP (fun q1 => ?_) (fun q1 => ?_)
 rotate_left
 ·exfalso; first | omega | (simp at q1; omega)
 simp (disch := omega) only [↓RA, RZ, simprocAttr, hn, g0, c5F, q1]
 simpa using ⟨(by omega : z ≤ 127), (sR H)⟩
theorem wL (xs : List Int) (hz : ∀ z ∈ xs, isN z) (v : Value) (hv : Sl 1 (one I) H v xs) (hl : xs.length < 1000000000) :
 Fn prog 45 [v] H fun r H' => r = .tuple #[.agg #[.int .u64 (jF xs).1, .int .u64 (jF xs).2], I 0] ∧ St prog H H' [] := by
 refine .aW func45 rfl (by kernel_rfl) (m := 22) rfl fun l hn g0 => ?_
 simp (disch := omega) only [↓RA, RZ, simprocAttr]
 refine (sR H).eNew 2 [(.int .u64 0), (.int .u64 0)] rfl rfl rfl nQ fun A1 H1 hS1 => ?_
 simp only [RT] at hS1
 simp (disch := omega) only [↓RA, RZ, simprocAttr]
 refine hS1.eNew 2 [(.int .u64 0), (.int .u64 0)] rfl rfl rfl nQ fun A2 H2 hS2 => ?_
 simp only [RT] at hS2
 simp (disch := omega) only [↓RA, RZ, simprocAttr, hn, g0, (hS2.sl hv).len]
 refine Wp.al (fun n l H' => l.length = 22 ∧ get l 2 = (ptr A1 0 2) ∧ get l 4 = (ptr A2 0 2) ∧ get l 7 = v ∧ get l 8 = I xs.length ∧ ∃ (j : Nat), (n + j = xs.length) ∧ get l 9 = I j ∧ St prog H H' [⟨ptr A1 0 2, 0, [(.int .u64 0), (.int .u64 0)]⟩, ⟨ptr A2 0 2, 0, [.int .u64 (jF (xs.take j)).1, .int .u64 (jF (xs.take j)).2]⟩]) xs.length ?_ ?_
 ·simp (disch := omega) only [RB, RC, simprocAttr, hn]
  exact ⟨0, by omega, rfl, hS2⟩
 rintro n l H3 ⟨hn, g2, g4, g7, g8, j, hj, g9, hS3⟩
 simp (disch := omega) only [↓RA, RB, simprocAttr, hn, g8, g9]
 refine iA (fun q1 => ?_) (fun q1 => ?_)
 ·have hx := hz _ (iD (xs := xs) (j := j) (by omega))
  have hok : Nt.Ok (jF (xs.take j)) := uW _ _ (fun z h => hz z (gB h)) ⟨by decide, by decide⟩
  simp (disch := omega) only [↓RA, RZ, simprocAttr, hn, g7, g9, (hS3.sl hv).idx, (hS3.sl hv).ld, one, q1]
  refine hS3.cF (b3n (iB xs j) hx) fun H4 hS4 => ?_
  simp (disch := omega) only [↓RA, RZ, simprocAttr, hn, g4, hS4.ai 1 rfl, q1]
  refine hS4.cF (a8n (jF (xs.take j)) hok (iB xs j) hx.1 hx.2) fun H5 hS5 => ?_
  simp (disch := omega) only [↓RA, RZ, simprocAttr, hn, g4, q1]
  refine hS5.ab 1 rfl [(.int .u64 (sU (jF (xs.take j)) (iB xs j)).1), (.int .u64 (sU (jF (xs.take j)) (iB xs j)).2)] rfl rfl nQ (by simp) fun H6 hS6 => ?_
  simp only [RT] at hS6
  simp (disch := omega) only [↓RA, RZ, simprocAttr, hn, g2, g4, g7, g8, g9, q1]
  refine ⟨n - 1, by omega, j + 1, by omega, by simp, ?_⟩
  rw [a7r xs (by omega)]
  exact hS6.pick [0, 1] (by decide) rfl
 have hjj : j = xs.length := by omega
 simp (disch := omega) only [↓RA, RZ, simprocAttr, hn, g2, g4, hS3.ai 1 rfl, q1]
 refine hS3.ab 0 rfl [(.int .u64 (jF (xs.take j)).1), (.int .u64 (jF (xs.take j)).2)] rfl rfl nQ (by simp) fun H7 hS7 => ?_
 simp only [RT] at hS7
 simp (disch := omega) only [↓RA, RZ, simprocAttr, hn, g2, c6G, hS7.ai 0 rfl, q1]
 rw [hjj, eJ]
 exact ⟨rfl, hS7.forget⟩
end Go.Ds
namespace Go.Ds
open Go.Proofs
variable {H : Heap}
set_option maxRecDepth 10000
set_option maxHeartbeats 1000000
theorem St.perm {P : Program} {H0 : Base} {os os' : List Ob} (h : St P H0 H os) (hp : os.Perm os') : St P H0 H os' where
 len := h.len
 old := h.old
 own o ho := h.own o (hp.mem_iff.2 ho)
 new o ho := h.new o (hp.mem_iff.2 ho)
 sep := (List.Perm.pairwise_iff (fun {_ _} hxy B hB hB2 => hxy B hB2 hB) hp).1 h.sep
theorem Lp.swap {P : Program} {B : Base} {L : Nat} {r : Loop} {xs ys zs : List Ob} (h : Lp P B L r H ((xs ++ ys) ++ zs)) : Lp P B L r H ((xs ++ zs) ++ ys) := by
 have hp : ((xs ++ ys) ++ zs).Perm ((xs ++ zs) ++ ys) := by
  rw [eR, eR]
  exact (List.perm_append_comm).append_left xs
 exact ⟨h.st.perm hp, h.get, h.lo, fun o ho => h.ne o (hp.mem_iff.2 ho)⟩
end Go.Ds
namespace Go.Ds
open Go.Proofs Go.Proofs.Tryz
variable {H : Heap}
set_option maxRecDepth 10000
set_option maxHeartbeats 1000000
def ctz (x : Nat) : Nat := ((List.range 64).find? fun i => x.testBit i).getD 64
theorem a1r {x : Nat} (h0 : x ≠ 0) (h1 : x < 18446744073709551616) : ctz x < 64 ∧ x.testBit (ctz x) = true ∧ ∀ j, j < ctz x → x.testBit j = false := by
 have hx : ∃ i, i < 64 ∧ x.testBit i = true := by
  refine fT fun hn => h0 ?_
  refine Nat.eq_of_testBit_eq fun i => ?_
  rw [Nat.zero_testBit]
  by_cases hi : i < 64
  ·by_cases hb : x.testBit i = true
   ·exact absurd ⟨i, hi, hb⟩ hn
   ·simpa using hb
  ·exact Nat.testBit_lt_two_pow (dQ (show x < 2 ^ 64 by simpa using h1) (fM (by decide) (by omega)))
 unfold ctz
 cases hf : (List.range 64).find? fun i => x.testBit i with
 | none =>
   obtain ⟨i, hi, hb⟩ := hx
   have := gn.1 hf i (dH.2 hi)
   exact absurd hb (by simpa using this)
 | some i =>
   obtain ⟨hb, ys, bs, he, hn⟩ := List.find?_eq_some_iff_append.1 hf
   have hi : i < 64 := dH.1 (he ▸ (by simp : i ∈ ys ++ i :: bs))
   refine ⟨hi, hb, fun j hj0 => ?_⟩
   have hj : j < i := hj0
   have hl : ys.length = i := by
    have h2 : (List.range 64)[ys.length]? = some i := by rw [he]; simp
    have h3 : ys.length < 64 := by
     have := congrArg List.length he
     simp at this
     omega
    rw [gK h3] at h2
    exact db h2
   have hm : j ∈ ys := by
    have h2 : (List.range 64)[j]? = some j := gK (by omega)
    rw [he, eE (by simpa using (hl ▸ hj))] at h2
    exact dT h2
   simpa using hn j hm
theorem a3K {x : Nat} (h0 : x ≠ 0) (h1 : x < 18446744073709551616) : ∃ m, x = 2 ^ ctz x * (2 * m + 1) := by
 obtain ⟨c1, c2, c3⟩ := a1r h0 h1
 generalize ctz x = k at c1 c2 c3
 have hd : x % 2 ^ k = 0 := by
  refine Nat.eq_of_testBit_eq fun i => ?_
  rw [Nat.testBit_mod_two_pow, Nat.zero_testBit]
  by_cases hi : i < k
  ·rw [c3 i hi, Bool.and_false]
  ·rw [decide_eq_false hi, fy]
 have h2 : x / 2 ^ k % 2 = 1 := by
  rw [← eU]
  have := c2
  rw [tb] at this
  exact of_decide_eq_true this
 refine ⟨x / 2 ^ k / 2, ?_⟩
 have h3 := Nat.div_add_mod x (2 ^ k)
 have h4 := Nat.div_add_mod (x / 2 ^ k) 2
 rw [hd, gR] at h3
 rw [← h3]
 congr 1
 rw [h3]
 omega
theorem b7T {x : Nat} (h0 : x ≠ 0) (h1 : x < 18446744073709551616) : x &&& (18446744073709551616 - x) = 2 ^ ctz x := by
 obtain ⟨m, hm⟩ := a3K h0 h1
 obtain ⟨c1, _, _⟩ := a1r h0 h1
 generalize ctz x = k at hm c1
 have e64 : (18446744073709551616 : Nat) = 2 ^ k * (2 * 2 ^ (63 - k)) := by
  have : 2 ^ k * (2 * 2 ^ (63 - k)) = 2 ^ 64 := by rw [← Nat.pow_succ', ← Nat.pow_add]; congr 1; omega
  rw [this]
 have hml : m < 2 ^ (63 - k) := by
  rw [e64, hm] at h1
  have := Nat.lt_of_mul_lt_mul_left h1
  omega
 have e2 : 18446744073709551616 - x = 2 ^ k * (2 * (2 ^ (63 - k) - (m + 1)) + 1) := by
  rw [e64, hm, ← Nat.mul_sub]
  congr 1
  omega
 rw [e2, hm]
 refine Nat.eq_of_testBit_eq fun i => ?_
 rw [Nat.testBit_and, gg]
 have hs : ∀ y : Nat, (2 ^ k * y).testBit i = (decide (k ≤ i) && y.testBit (i - k)) := fun y => by rw [Nat.mul_comm, Nat.testBit_mul_two_pow]
 rw [hs, hs]
 by_cases hi : k ≤ i
 ·rw [decide_eq_true hi, gM, gM]
  by_cases he : i = k
  ·subst he
   rw [Nat.sub_self, Nat.testBit_zero, Nat.testBit_zero]
   simp
  ·obtain ⟨j, hj⟩ : ∃ j, i - k = j + 1 := ⟨i - k - 1, by omega⟩
   rw [hj, Nat.testBit_succ, Nat.testBit_succ, show (2 * m + 1) / 2 = m by omega, show (2 * (2 ^ (63 - k) - (m + 1)) + 1) / 2 = 2 ^ (63 - k) - (m + 1) by omega, Nat.testBit_two_pow_sub_succ hml, decide_eq_false (by omega : ¬ k = i)]
   cases m.testBit j <;> simp
 ·rw [decide_eq_false hi, fy, decide_eq_false (by omega)]
  rfl
theorem c4a : ((List.range 64).all fun k => decide (2 ^ k * 285870213051353865 % 18446744073709551616 / 288230376151711744 < 64) && decide (t64.getD (2 ^ k * 285870213051353865 % 18446744073709551616 / 288230376151711744) 99 = k)) = true := by kernel_rfl
theorem b6E {P : Program} {t : TypeId} {n : Nat} {elem : TypeId} {size : Nat} (ha : P.underlying t = some (.array n elem)) (hs : iE P elem = some size) (A i : Nat) (k : IntKind) (j : Int) (h0 : 0 ≤ j) (h1 : j < n) :
 wC (iS P t) P t (.pointer (some ⟨A, i, none⟩)) (.int k j) = some (.pointer (some ⟨A, i + j.toNat * size, none⟩)) := by
 have hn : iS P t = none := by simp [iS, iJ, ha]
 rw [hn]
 simp only [wC, a2x, ha, hs, dc]
 rw [if_pos (by simp [h0, h1])]
theorem c2D (k : IntKind) (j : Int) (h0 : 0 ≤ j) (h1 : j < 64) : wC (iS prog 320) prog 320 (.pointer (some ⟨0, 0, none⟩)) (.int k j) = some (.pointer (some ⟨0, 0 + j.toNat * 1, none⟩)) :=
 b6E (n := 64) (elem := 5) (size := 1) (by kernel_rfl) (by kernel_rfl) 0 0 k j h0 h1
theorem b2q (g : Nat) (l : List Value) (K : Value → Prop) : jI (.global g) l K = K (.pointer (some ⟨g, 0, none⟩)) := by simp [jI, iO, ev]
theorem gld (hG : Glob gH H) (j : Nat) (hj : j < 64) (s : Option Nat) : pE (some false) s H (.pointer (some ⟨0, j, none⟩)) = some (.int .u8 (t64.getD j 0 : Nat)) := by
 have h0 : iQ H 0 = some (.cells (t64.map fun (n : Nat) => Value.int .u8 (.ofNat n)) 5 false 0 1) := by
  rw [hG.same 0 (by decide)]
  rfl
 simp only [pE, jA, h0]
 have hl : (t64.map fun (n : Nat) => Value.int .u8 (.ofNat n)).length = 64 := by rw [ed]; rfl
 rw [if_pos (by rw [hl]; simp; omega)]
 simp only [dc]
 rw [dX (by omega), dL, gR, eN, dx (show j < t64.length from hj)]
 rw [dO, dj, dx (show j < t64.length from hj)]
 rfl
theorem a9A (m : Int) : IntKind.wrap .u64 m = m % 18446744073709551616 := by
 show (if (false && decide (m % 18446744073709551616 ≥ 9223372036854775808)) = true then m % 18446744073709551616 - 18446744073709551616 else m % 18446744073709551616) = _
 simp
theorem c3a (hG : Glob gH H) (x : Nat) (h0 : x ≠ 0) (h1 : x < 18446744073709551616) : Fn prog 189 [.int .u64 x] H fun r H' => r = I (ctz x) ∧ St prog H H' [] := by
 obtain ⟨c1, _, _⟩ := a1r h0 h1
 have hd := dy.1 c4a (ctz x) (dH.2 c1)
 rw [de, decide_eq_true_eq, decide_eq_true_eq] at hd
 have eA : IntKind.wrap .u64 (0 - (x : Int)) = ((18446744073709551616 - x : Nat) : Int) := by
  rw [a9A]
  omega
 have eB : IntKind.wrap .u64 ((BitVec.ofInt (IntKind.bits .u64) (x : Int) &&& BitVec.ofInt (IntKind.bits .u64) ((18446744073709551616 - x : Nat) : Int)).toNat : Int) = ((2 ^ ctz x : Nat) : Int) := by
  rw [gI, uH x h1, uH _ (by omega), b7T h0 h1]
  exact pJ _ (by omega) (by have := a5u (ctz x) c1; omega)
 have eC : IntKind.wrap .u64 (((2 ^ ctz x : Nat) : Int) * 285870213051353865) = ((2 ^ ctz x * 285870213051353865 % 18446744073709551616 : Nat) : Int) := by
  rw [a9A]
  rfl
 have eD : ((2 ^ ctz x * 285870213051353865 % 18446744073709551616 : Nat) : Int).fdiv (2 ^ min 58 (IntKind.bits .u64)) = ((2 ^ ctz x * 285870213051353865 % 18446744073709551616 / 288230376151711744 : Nat) : Int) := by
  rw [show (2 : Int) ^ min 58 (IntKind.bits .u64) = ((288230376151711744 : Nat) : Int) from rfl]
  exact gA _ (by omega)
 have hd1 := hd.1
 have hd2 := hd.2
 generalize 2 ^ ctz x * 285870213051353865 % 18446744073709551616 / 288230376151711744 = i at eD hd1 hd2
 refine .aW func189 rfl (by kernel_rfl) (m := 14) rfl fun l hn g0 => ?_
 have iQ := gld hG i hd1 (some 1)
 rw [show t64.getD i 0 = ctz x from by rw [← hd2, dj, dj, dx (show i < t64.length from hd1)]; rfl] at iQ
 have hidx := c2D .u64 (i : Int) (by omega) (by omega)
 rw [gS, Nat.mul_one, fY] at hidx
 simp (disch := omega) only [↓RA, RB, simprocAttr, hn, g0]
 refine iA (fun q => ?_) (fun q => ?_)
 ·exfalso; omega
 simp (disch := omega) only [↓RA, RZ, simprocAttr, hn, g0, c3b, eA, eB, eC, eD, b2q, iQ, hidx, q]
 first | exact (sR H) | exact ⟨rfl, (sR H)⟩
theorem a4z {x : Nat} (h0 : x ≠ 0) (h1 : x < 18446744073709551616) (j : Nat) : (x &&& (x - 1)).testBit j = (x.testBit j && !decide (j = ctz x)) := by
 obtain ⟨m, hm⟩ := a3K h0 h1
 generalize ctz x = k at hm
 have hp : 0 < 2 ^ k := Nat.two_pow_pos k
 have e1 : x = 2 ^ (k + 1) * m + 2 ^ k := by rw [hm, Nat.pow_succ, Nat.mul_add, Nat.mul_one, Nat.mul_assoc]
 have e2 : x - 1 = 2 ^ (k + 1) * m + (2 ^ k - 1) := by omega
 have hl : 2 ^ k < 2 ^ (k + 1) := Nat.pow_lt_pow_right (by decide) (by omega)
 rw [Nat.testBit_and, e2]
 rw [e1, Nat.testBit_two_pow_mul_add m hl, Nat.testBit_two_pow_mul_add m (by omega : 2 ^ k - 1 < 2 ^ (k + 1))]
 by_cases hj : j < k + 1
 ·rw [if_pos hj, if_pos hj, gg, Nat.testBit_two_pow_sub_one]
  by_cases he : j = k
  ·simp [he]
  ·simp [show ¬ k = j by omega]
 ·rw [if_neg hj, if_neg hj, show decide (j = k) = false from decide_eq_false (by omega)]
  simp
theorem b3L {x : Nat} (h0 : x ≠ 0) (h1 : x < 18446744073709551616) : pI x = ctz x :: pI (x &&& (x - 1)) := by
 obtain ⟨c1, c2, c3⟩ := a1r h0 h1
 have hb := a4z h0 h1
 generalize ctz x = k at c1 c2 c3 hb
 obtain ⟨t, ht⟩ := a6g c1
 have hnd : (List.range 64).Nodup := List.nodup_range
 unfold pI
 rw [ht, fb, fb, List.filter_cons_of_pos (by simpa using c2), List.filter_cons_of_neg (by rw [hb]; simp)]
 rw [ht] at hnd
 have e1 : (List.range k).filter (fun i => x.testBit i) = [] := List.filter_eq_nil_iff.2 fun i hi => by simpa using c3 i (dH.1 hi)
 have e2 : (List.range k).filter (fun i => (x &&& (x - 1)).testBit i) = [] := List.filter_eq_nil_iff.2 fun i hi => by rw [hb, c3 i (dH.1 hi)]; simp
 rw [e1, e2, fj, fj]
 congr 1
 refine List.filter_congr fun i hi => ?_
 have hne : i ≠ k := fun e => by
  subst e
  exact (List.nodup_cons.1 (List.nodup_append.1 hnd).2.1).1 hi
 rw [hb, decide_eq_false hne]
 simp
theorem b0n : pI 0 = [] := List.filter_eq_nil_iff.2 fun i _ => by simp
def pQ (x : Nt) : List Int := (pI x.1).map (fun (i : Nat) => (i : Int)) ++ (pI x.2).map fun (i : Nat) => 64 + (i : Int)
def a7t (x : Nt) (i : Nat) : Nat := if i = 0 then x.1 else x.2
def a4H (x : Nt) (i : Nat) : List Int := (pI (a7t x i)).map fun (j : Nat) => 64 * (i : Int) + (j : Int)
def a5C (x : Nt) (i : Nat) : List Int := (List.range i).flatMap (a4H x)
theorem zG (x : Nt) (i : Nat) : a5C x (i + 1) = a5C x i ++ a4H x i := by
 unfold a5C
 rw [eO, dM, dR, fQ, dG]
theorem a7D (x : Nt) : a5C x 2 = pQ x := by
 rw [zG, zG]
 unfold pQ a5C a4H a7t
 simp
theorem b9g {x : Nt} (hx : Nt.Ok x) (i : Nat) : a7t x i < 18446744073709551616 := by
 unfold a7t
 split
 ·exact hx.1
 ·exact hx.2
theorem c5d (a b : Int) : oQ prog 277 (.agg #[.int .u64 a, .int .u64 b]) (I 0) = some (.int .u64 a) := by kernel_rfl
theorem c5i (a b : Int) : oQ prog 277 (.agg #[.int .u64 a, .int .u64 b]) (I 1) = some (.int .u64 b) := by kernel_rfl
theorem c6C (x : Nt) (i : Nat) (h : i < 2) : a1y (nR prog 277) prog 277 (.agg #[.int .u64 x.1, .int .u64 x.2]) (I i) = some (.int .u64 (a7t x i)) := by
 rw [← a7n]
 rcases (by omega : i = 0 ∨ i = 1) with rfl | rfl
 ·exact c5d _ _
 ·exact c5i _ _
theorem c1i (x : Nt) (hx : Nt.Ok x) (A : Nat) (f : Value) (J : List Int → Heap → Prop) (h0 : J [] H) (hg : ∀ d H1, J d H1 → Var H1 A 2 [.int .u64 x.1, .int .u64 x.2] ∧ Glob gH H1)
 (hst : ∀ d H1 H2, J d H1 → St prog H1 H2 [] → J d H2)
 (hf : ∀ d c e H1, pQ x = d ++ c :: e → J d H1 → rK prog f [I c] H1 fun v H2 => v = .bool true ∧ J (d ++ [c]) H2) :
 FnS prog 188 [f, ptr A 0 2] H fun _ H' => J (pQ x) H' := by
 have hV0 := (hg _ _ h0).1
 refine FnS.aY func188 rfl (by kernel_rfl) fun l hl => ?_
 have hn : l.length = 29 := by rw [hl]; rfl
 have g0 : get l 0 = f := by rw [hl]; rfl
 have g1 : get l 1 = (ptr A 0 2) := by rw [hl]; rfl
 clear hl
 simp (disch := omega) only [↓RA, RZ, simprocAttr, hn, g1, hV0.ld, b3C]
 refine Wp.al (fun n l H' => l.length = 29 ∧ get l 0 = f ∧ get l 1 = ptr A 0 2 ∧ get l 9 = .agg #[.int .u64 x.1, .int .u64 x.2] ∧ ∃ i : Nat, n + i = 2 ∧ get l 10 = I i ∧ J (a5C x i) H') 2 ?_ ?_
 ·simp (disch := omega) only [RB, RC, simprocAttr, hn, g0, g1]
  exact ⟨0, rfl, rfl, h0⟩
 rintro n l H9 ⟨hn, g0, g1, g9, i, hi, mB, hJ⟩
 simp (disch := omega) only [↓RA, RB, simprocAttr, hn, mB]
 refine iA (fun q1 => ?_) (fun q1 => ?_)
 ·have hix := c6C x i (by omega)
  have hwl := b9g hx i
  simp (disch := omega) only [↓RA, RZ, simprocAttr, hn, g9, mB, q1, hix]
  refine Wp.al (fun n2 l H' => l.length = 29 ∧ get l 0 = f ∧ get l 1 = ptr A 0 2 ∧ get l 9 = .agg #[.int .u64 x.1, .int .u64 x.2] ∧ get l 10 = I i ∧ get l 3 = I i ∧ ∃ (y : Nat) (d : List Nat), (n2 = (pI y).length ∧ y < 18446744073709551616 ∧ pI (a7t x i) = d ++ pI y) ∧ get l 4 = .int .u64 y ∧ J (a5C x i ++ d.map fun (j : Nat) => 64 * (i : Int) + (j : Int)) H') (pI (a7t x i)).length ?_ ?_
  ·simp (disch := omega) only [RB, RC, simprocAttr, hn, g0, g1, g9, mB]
   exact ⟨a7t x i, [], ⟨rfl, hwl, rfl⟩, rfl, by rw [gm, dG]; exact hJ⟩
  rintro n2 l H8 ⟨hn, g0, g1, g9, mB, g3, y, d, ⟨hn2, hy, hbd⟩, g4, hJ2⟩
  simp (disch := omega) only [↓RA, RB, simprocAttr, hn, g4]
  refine iA (fun q2 => ?_) (fun q2 => ?_)
  ·have hy0 : y ≠ 0 := by omega
   have hc := a1r hy0 hy
   have hlow := b3L hy0 hy
   have hGl := (hg _ _ hJ2).2
   have eY1 : IntKind.wrap .u64 ((y : Int) - 1) = ((y - 1 : Nat) : Int) := by
    rw [a9A]
    omega
   have eY2 : IntKind.wrap .u64 ((BitVec.ofInt (IntKind.bits .u64) (y : Int) &&& BitVec.ofInt (IntKind.bits .u64) ((y - 1 : Nat) : Int)).toNat : Int) = ((y &&& (y - 1) : Nat) : Int) := by
    rw [gI, uH y hy, uH _ (by omega)]
    have := Nat.and_le_left (n := y) (m := y - 1)
    exact pJ _ (by omega) (by omega)
   have hyl : y &&& (y - 1) < 18446744073709551616 := Nat.lt_of_le_of_lt Nat.and_le_left hy
   have hmem : pQ x = (a5C x i ++ d.map fun (j : Nat) => 64 * (i : Int) + (j : Int)) ++ (64 * (i : Int) + (ctz y : Int)) :: ((pI (y &&& (y - 1))).map (fun (j : Nat) => 64 * (i : Int) + (j : Int)) ++ ((List.range 2).drop (i + 1)).flatMap (a4H x)) := by
    rw [← a7D]
    unfold a5C
    have e : List.range 2 = List.range i ++ i :: (List.range 2).drop (i + 1) := by
     rcases (by omega : i = 0 ∨ i = 1) with rfl | rfl <;> rfl
    rw [congrArg (List.flatMap (a4H x)) e, dM, dR]
    rw [show a4H x i = (d ++ pI y).map (fun (j : Nat) => 64 * (i : Int) + (j : Int)) from by unfold a4H; rw [hbd]]
    rw [hlow, dZ, eu]
    simp only [eR, ic]
   have hc1 := hc.1
   simp (disch := omega) only [↓RA, RZ, simprocAttr, hn, g0, g3, g4, q2]
   refine (sR H8).cF (c3a ((sR H8).gl hGl) y hy0 hy) fun H1 hS1 => ?_
   simp (disch := omega) only [↓RA, RZ, simprocAttr, hn, q2]
   refine b0x (hf _ _ _ _ hmem (hst _ _ _ hJ2 hS1)) ?_
   rintro r H10 ⟨rfl, hJ3⟩
   simp (disch := omega) only [↓RA, RZ, simprocAttr, hn, g0, g1, g9, mB, g3, g4, q2, eY1, eY2]
   refine ⟨(pI (y &&& (y - 1))).length, by rw [hn2, hlow]; simp, y &&& (y - 1), d ++ [ctz y], ⟨rfl, hyl, by rw [hbd, hlow]; simp⟩, rfl, ?_⟩
   rw [dZ, eu, gm, ← eR]
   exact hJ3
  simp (disch := omega) only [↓RA, RZ, simprocAttr, hn, g0, g1, g9, mB, q2]
  have hy0 : y = 0 := by omega
  subst hy0
  refine ⟨n - 1, by omega, i + 1, by omega, by simp, ?_⟩
  rw [zG]
  have : a4H x i = d.map fun (j : Nat) => 64 * (i : Int) + (j : Int) := by
   unfold a4H
   rw [hbd, b0n, dG]
  rw [this]
  exact hJ2
 simp (disch := omega) only [↓RA, RZ, simprocAttr, c4b, q1]
 have e : i = 2 := by omega
 subst e
 rw [← a7D]
 exact hJ
theorem a2W (x : Nt) : (pQ x).length ≤ 128 := by
 unfold pQ
 rw [dw, ed, ed]
 have h1 := a8p x.1 64
 have h2 := a8p x.2 64
 unfold b5R at h1 h2
 unfold pI
 omega
theorem b1W (hG : Glob gH H) (x : Nt) (hx : Nt.Ok x) (A : Nat) (hA : Var H A 2 [.int .u64 x.1, .int .u64 x.2]) :
 Fn prog 187 [.slice none 0 0, .func (.func 188) #[] #[ptr A 0 2]] H fun r H' => St prog H H' [⟨r, 1, (pQ x).flatMap (one I)⟩] := by
 refine .aM func187 rfl (by kernel_rfl) (m := 13) rfl fun l hn g0 g1 => ?_
 simp (disch := omega) only [↓RA, RB, simprocAttr, g0]
 refine (sR H).eNew 1 [(.slice none 0 0)] rfl rfl rfl b7m fun A1 H1 hS1 => ?_
 simp only [RT] at hS1
 simp (disch := omega) only [↓RA, RB, simprocAttr, g1]
 have hS2 := hS1.nil 0
 simp only [RT] at hS2
 refine Wp.cN fun lrg1 hlrg1 => ?_
 have hnrg1 : lrg1.length = 13 := by rw [hlrg1]; simp (disch := omega) only [RB, simprocAttr, hn]
 have g2rg1 : get lrg1 2 = (ptr A1 0 1) := by rw [hlrg1]; simp (disch := omega) only [RB, simprocAttr, hn]
 have g4rg1 : get lrg1 4 = (.slice none 0 0) := by rw [hlrg1]; simp (disch := omega) only [RB, simprocAttr, hn]
 have gfrg1 : get lrg1 6 = .func (.func 188) #[] [(ptr A 0 2)].toArray := by rw [hlrg1]; simp (disch := omega) only [RB, simprocAttr, hn]
 clear hlrg1
 refine Wp.cw gfrg1 fun rg1 hstrg1 hpdrg1 htmrg1 hpsrg1 hasrg1 hbdrg1 => ?_
 have hreqrg1 : ({ rg1 with state := .ready, pending := none } : Loop) = rg1 := by
  cases rg1
  simp only at hstrg1 hpdrg1
  subst hstrg1 hpdrg1
  rfl
 have hLprg1 := Lp.enter hS2 rg1
 generalize H1.cons (.loop rg1) = Hcrg1 at hLprg1 ⊢
 generalize H1.length = Lrg1 at hLprg1 ⊢
 refine (c1i x hx A (.func (.yield Lrg1) #[] #[]) (fun d H1 => ∃ ow, Lp prog H Lrg1 rg1 H1 [⟨ptr A1 0 1, 0, [ow]⟩, ⟨ow, 1, d.flatMap (one I)⟩]) ⟨.slice none 0 0, hLprg1⟩ ?_ ?_ ?_).mono ?_
 ·rintro d H1 ⟨ow, h⟩
  exact ⟨hA.ae h.st.ae, h.st.gl hG⟩
 ·rintro d H1 H2 ⟨ow, h⟩ hS
  exact ⟨ow, by simpa using h.ext hS⟩
 ·rintro d c e H20 hm ⟨ow, hLpj⟩
  have hml := a2W x
  have hdl : d.length < 128 := by
   rw [hm, dw, dz] at hml
   omega
  refine a0G hLpj.get (by rw [hpsrg1]; rfl) hstrg1 ?_
  refine Wp.bS (l := put lrg1 (some 7) (I c)) hasrg1 (by rw [hpsrg1, htmrg1]; first | exact (mY ..).symm | rfl | simp [put, mY]) ?_
  simp (disch := omega) only [↓RA, RZ, simprocAttr, hnrg1]
  refine ⟨rg1, hLpj.get, hstrg1, ?_⟩
  have hYBs1 := hLpj.set (fun h => h) { rg1 with state := .busy }
  have hKBs1 : ∀ B, B ≠ Lrg1 → iQ (hset H20 Lrg1 (.loop { rg1 with state := .busy })) B = iQ H20 B := fun B h => iZ _ (fc h)
  have hNBs1 : (hset H20 Lrg1 (.loop { rg1 with state := .busy })).length = H20.length := jL ..
  generalize hset H20 Lrg1 (.loop { rg1 with state := .busy }) = HBs1 at hYBs1 hKBs1 hNBs1 ⊢
  refine Wp.bS hbdrg1 rfl ?_
  have hZBs1 := hYBs1.st
  obtain ⟨Bs1, hBBs1, hS3⟩ := hZBs1.aB (os := [⟨ptr A1 0 1, 0, _⟩, ⟨ow, 1, _⟩])
  simp (disch := omega) only [↓RA, RZ, simprocAttr, hnrg1, g2rg1, hS3.ld 0 rfl]
  refine hS3.ag [I c] a1A a6c rfl rfl (by simp [Value.cells]) rfl rfl (by decide) (by decide) fun w1 H2 hS4 => ?_
  simp only [RT] at hS4
  simp (disch := omega) only [↓RA, RZ, simprocAttr, hnrg1]
  refine hS4.ar 1 rfl (hS4.rd 2 rfl) a1A (by rw [yY, ed]; simp; omega) fun w2 H3 hS5 => ?_
  simp only [RT] at hS5
  simp (disch := omega) only [↓RA, RB, simprocAttr, hnrg1, g2rg1]
  refine hS5.ab 0 rfl [w2] (by rw [(hS5.rd 1 rfl).cells.1]) (by simp [(hS5.rd 1 rfl).cells.2.1]) b7m (by simp) fun H4 hS6 => ?_
  simp only [RT] at hS6
  simp (disch := omega) only [↓RA, simprocAttr]
  have hS7 := hS6.pick (os' := [⟨ptr A1 0 1, 0, _⟩, ⟨w2, 1, _⟩]) [0, 1] (by decide) rfl
  have hWBs1 := (hYBs1.body (hBBs1 ▸ hS7)).set (fun h => h) rg1
  rw [← hreqrg1] at hWBs1
  refine ⟨_, (hYBs1.body (hBBs1 ▸ hS7)).get, rfl, w2, ?_⟩
  rw [dM]
  exact hreqrg1 ▸ hWBs1
 ·rintro _ H21 ⟨ow, hLp2⟩
  refine ⟨_, hLp2.get, (by rw [hstrg1]; exact fun h => by cases h), fun _ => ?_, fun c hc => by rw [hpdrg1] at hc; cases hc⟩
  have hAAf1 := (hLp2.set (fun h => h) { rg1 with state := .exhausted }).st
  have hKAf1 : ∀ B, B ≠ Lrg1 → iQ (hset H21 Lrg1 (.loop { rg1 with state := .exhausted })) B = iQ H21 B := fun B h => iZ _ (fc h)
  generalize hset H21 Lrg1 (.loop { rg1 with state := .exhausted }) = HAf1 at hAAf1 hKAf1 ⊢
  simp (disch := omega) only [↓RA, RZ, simprocAttr, hnrg1, g2rg1, hAAf1.ld 0 rfl, c3q]
  exact hAAf1.pick [1] (by decide) rfl
theorem b0e (hG : Glob gH H) (x : Nt) (hx : Nt.Ok x) (A : Nat) (hA : Var H A 2 [.int .u64 x.1, .int .u64 x.2]) :
 Fn prog 139 [.func (.func 188) #[] #[ptr A 0 2]] H fun r H' => St prog H H' [⟨r, 1, (pQ x).flatMap (one I)⟩] := by
 refine .aW func139 rfl (by kernel_rfl) (m := 5) rfl fun l hn g0 => ?_
 simp (disch := omega) only [↓RA, RZ, simprocAttr, hn, g0]
 refine iF ((b1W ((sR H).gl hG) x hx A (hA.ae (sR H).ae)).tr) ?_
 rintro r H1 ⟨-, hT1⟩
 have hS1 := (sR H).trans hT1
 simp only [RT] at hS1
 simp (disch := omega) only [↓RA, RB, simprocAttr, hn, c4o]
 exact hS1
theorem b9J (x : Nt) : Fn prog 140 [.agg #[.int .u64 x.1, .int .u64 x.2]] H fun r H' => ∃ A, r = .func (.func 188) #[] #[ptr A 0 2] ∧ St prog H H' [⟨ptr A 0 2, 0, [.int .u64 x.1, .int .u64 x.2]⟩] := by
 refine .aW func140 rfl (by kernel_rfl) (m := 4) rfl fun l hn g0 => ?_
 simp (disch := omega) only [↓RA, RB, simprocAttr, g0]
 refine (sR H).eNew 2 [(.int .u64 x.1), (.int .u64 x.2)] rfl rfl rfl nQ fun A1 H1 hS1 => ?_
 simp only [RT] at hS1
 simp (disch := omega) only [↓RA, RZ, simprocAttr, hn, c5e]
 exact ⟨A1, rfl, hS1⟩
theorem a9L (hG : Glob gH H) (x : Nt) (hx : Nt.Ok x) :
 Fn prog 101 [.agg #[.int .u64 x.1, .int .u64 x.2]] H fun r H' => St prog H H' [⟨r, 1, (pQ x).flatMap (one I)⟩] := by
 refine .aW func101 rfl (by kernel_rfl) (m := 6) rfl fun l hn g0 => ?_
 simp (disch := omega) only [↓RA, RB, simprocAttr, g0]
 refine (sR H).eNew 2 [(.int .u64 x.1), (.int .u64 x.2)] rfl rfl rfl nQ fun A1 H1 hS1 => ?_
 simp only [RT] at hS1
 simp (disch := omega) only [↓RA, RZ, simprocAttr, hn, hS1.ai 0 rfl]
 refine iF (b9J x) ?_
 rintro r H2 ⟨A2, rfl, hT1⟩
 have hS2 := hS1.trans hT1
 simp only [RT] at hS2
 simp (disch := omega) only [↓RA, RZ, simprocAttr, hn]
 refine iF ((b0e (hS2.gl hG) x hx A2 (hS2.var 1 rfl)).tr) ?_
 rintro r H3 ⟨-, hT2⟩
 have hS3 := hS2.trans hT2
 simp only [RT] at hS3
 simp (disch := omega) only [↓RA, RB, simprocAttr, hn, c5m]
 exact hS3.pick [2] (by decide) rfl
def a6f (a b : Nat) : Nat := (BitVec.ofNat 64 a &&& ~~~ BitVec.ofNat 64 b).toNat
theorem b7V (a b : Nat) : a6f a b < 18446744073709551616 := (BitVec.ofNat 64 a &&& ~~~ BitVec.ofNat 64 b).isLt
theorem c0O (a b : Nat) : IntKind.wrap .u64 ((BitVec.ofInt (IntKind.bits .u64) (a : Int) &&& ~~~ BitVec.ofInt (IntKind.bits .u64) (b : Int)).toNat : Int) = ((a6f a b : Nat) : Int) := by
 have e : (BitVec.ofInt (IntKind.bits .u64) (a : Int) &&& ~~~ BitVec.ofInt (IntKind.bits .u64) (b : Int)).toNat = a6f a b := by
  unfold a6f
  rw [fZ, fZ]
  rfl
 rw [e]
 have := b7V a b
 exact pJ _ (by omega) (by omega)
theorem a6s (a b j : Nat) (ha : a < 18446744073709551616) (hj : j < 64) : (a6f a b).testBit j = (a.testBit j && !b.testBit j) := by
 unfold a6f
 have h1 : (BitVec.ofNat 64 a &&& ~~~ BitVec.ofNat 64 b).toNat.testBit j = (BitVec.ofNat 64 a &&& ~~~ BitVec.ofNat 64 b).getLsbD j := rfl
 rw [h1, BitVec.getLsbD_and, BitVec.getLsbD_not, BitVec.getLsbD_ofNat, BitVec.getLsbD_ofNat]
 simp [hj]
def woF (x y : Nt) : Nt := (a6f x.1 y.1, a6f x.2 y.2)
theorem c2f (x y : Nt) : Fn prog 99 [.agg #[.int .u64 x.1, .int .u64 x.2], .agg #[.int .u64 y.1, .int .u64 y.2]] H fun r H' => r = .agg #[.int .u64 (woF x y).1, .int .u64 (woF x y).2] ∧ St prog H H' [] := by
 have e1 := c0O x.1 y.1
 have e2 := c0O x.2 y.2
 refine .aM func99 rfl (by kernel_rfl) (m := 16) rfl fun l hn g0 g1 => ?_
 simp (disch := omega) only [↓RA, RB, simprocAttr, g0]
 refine (sR H).eNew 2 [(.int .u64 x.1), (.int .u64 x.2)] rfl rfl rfl nQ fun A1 H1 hS1 => ?_
 simp only [RT] at hS1
 simp (disch := omega) only [↓RA, RB, simprocAttr, g1]
 refine hS1.eNew 2 [(.int .u64 y.1), (.int .u64 y.2)] rfl rfl rfl nQ fun A2 H2 hS2 => ?_
 simp only [RT] at hS2
 simp (disch := omega) only [↓RA, RZ, simprocAttr]
 refine hS2.eNew 2 [(.int .u64 0), (.int .u64 0)] rfl rfl rfl nQ fun A3 H3 hS3 => ?_
 simp only [RT] at hS3
 simp (disch := omega) only [↓RA, RZ, simprocAttr, hn, hS3.ld 0 rfl, hS3.ld 1 rfl, b5s, e1, e2]
 refine hS3.ab 2 rfl [_, _] rfl rfl nQ (by simp) fun H4 hS4 => ?_
 simp only [RT] at hS4
 simp (disch := omega) only [↓RA, RZ, simprocAttr, hn, c6E, hS4.ai 2 rfl]
 exact ⟨rfl, hS4.forget⟩
theorem a9a (x y : Nt) : Fn prog 50 [.agg #[.int .u64 x.1, .int .u64 x.2], .agg #[.int .u64 y.1, .int .u64 y.2]] H fun r H' => r = .bool (decide (woF x y = (0, 0))) ∧ St prog H H' [] := by
 refine .aM func50 rfl (by kernel_rfl) (m := 10) rfl fun l hn g0 g1 => ?_
 simp (disch := omega) only [↓RA, RB, simprocAttr, g0]
 refine (sR H).eNew 2 [(.int .u64 x.1), (.int .u64 x.2)] rfl rfl rfl nQ fun A1 H1 hS1 => ?_
 simp only [RT] at hS1
 simp (disch := omega) only [↓RA, RB, simprocAttr, g1]
 refine hS1.eNew 2 [(.int .u64 y.1), (.int .u64 y.2)] rfl rfl rfl nQ fun A2 H2 hS2 => ?_
 simp only [RT] at hS2
 simp (disch := omega) only [↓RA, RZ, simprocAttr, hn, hS2.ai 0 rfl, hS2.ai 1 rfl]
 refine hS2.cF (c2f x y) fun H3 hS3 => ?_
 simp (disch := omega) only [↓RA, RZ, simprocAttr, hn, c0n, c6z]
 refine ⟨?_, hS3.forget⟩
 congr 1
 rw [decide_eq_decide]
 constructor
 ·rintro ⟨h1, h2⟩
  exact gz (by simpa using h1) (by simpa using h2)
 ·intro h
  rw [h]
  exact ⟨rfl, rfl⟩
def zP (lo hi : Int) : Nt := jF ((List.range (hi - lo + 1).toNat).map fun (k : Nat) => lo + (k : Int))
theorem b3t (lo hi : Int) (h0 : 0 ≤ lo) (h1 : lo ≤ hi) (h2 : hi ≤ 127) : Fn prog 49 [.agg #[I lo, I hi]] H fun r H' => r = .tuple #[.agg #[.int .u64 (zP lo hi).1, .int .u64 (zP lo hi).2], I 0] ∧ St prog H H' [] := by
 have hce : qS lo hi = 0 := by
  unfold qS
  rw [if_neg (by omega), if_neg (by omega)]
 refine .aW func49 rfl (by kernel_rfl) (m := 25) rfl fun l hn g0 => ?_
 simp (disch := omega) only [↓RA, RB, simprocAttr, g0]
 refine (sR H).eNew 2 [I lo, I hi] rfl rfl rfl sA fun A1 H1 hS1 => ?_
 simp only [RT] at hS1
 simp (disch := omega) only [↓RA, RZ, simprocAttr]
 refine hS1.eNew 2 [(.int .u64 0), (.int .u64 0)] rfl rfl rfl nQ fun A2 H2 hS2 => ?_
 simp only [RT] at hS2
 simp (disch := omega) only [↓RA, RZ, simprocAttr]
 refine hS2.eNew 2 [(.int .u64 0), (.int .u64 0)] rfl rfl rfl nQ fun A3 H3 hS3 => ?_
 simp only [RT] at hS3
 simp (disch := omega) only [↓RA, RZ, simprocAttr, hn, hS3.ai 0 rfl]
 refine hS3.cF (a1h lo hi) fun H4 hS4 => ?_
 rw [hce]
 simp (disch := omega) only [↓RA, RZ, simprocAttr, hn, hS4.ld 0 rfl]
 refine Wp.al (fun n l H' => l.length = 25 ∧ get l 1 = (ptr A1 0 2) ∧ get l 2 = (ptr A2 0 2) ∧ get l 3 = I 0 ∧ get l 4 = (ptr A3 0 2) ∧ ∃ (j : Nat), (n + j = (hi - lo + 1).toNat) ∧ get l 6 = I (lo + (j : Int)) ∧ St prog H H' [⟨ptr A1 0 2, 0, [I lo, I hi]⟩, ⟨ptr A2 0 2, 0, [(.int .u64 0), (.int .u64 0)]⟩, ⟨ptr A3 0 2, 0, [.int .u64 (jF ((List.range j).map fun (k : Nat) => lo + (k : Int))).1, .int .u64 (jF ((List.range j).map fun (k : Nat) => lo + (k : Int))).2]⟩]) (hi - lo + 1).toNat ?_ ?_
 ·simp (disch := omega) only [RB, RC, simprocAttr, hn]
  exact ⟨0, by omega, by simp, hS4⟩
 rintro n l H5 ⟨hn, g1, g2, g3, g4, j, hj, g6, hS5⟩
 simp (disch := omega) only [↓RA, RZ, simprocAttr, hn, g1, g6, hS5.ld 0 rfl]
 refine iA (fun q1 => ?_) (fun q1 => ?_)
 ·have hok : Nt.Ok (jF ((List.range j).map fun (k : Nat) => lo + (k : Int))) := uW _ _ (fun z h => by
   obtain ⟨k, hk, rfl⟩ := dK.1 h
   have := dH.1 hk
   exact ⟨by omega, by omega⟩) ⟨by decide, by decide⟩
  have hsu : jF ((List.range (j + 1)).map fun (k : Nat) => lo + (k : Int)) = sU (jF ((List.range j).map fun (k : Nat) => lo + (k : Int))) (lo + (j : Int)) := by
   unfold jF
   rw [eO, dZ, gY]
   rfl
  simp (disch := omega) only [↓RA, RZ, simprocAttr, hn, g4, g6, hS5.ai 2 rfl, q1]
  refine hS5.cF (a8n (jF ((List.range j).map fun (k : Nat) => lo + (k : Int))) hok (lo + (j : Int)) (by omega) (by omega)) fun H6 hS6 => ?_
  simp (disch := omega) only [↓RA, RZ, simprocAttr, hn, g4, q1]
  refine hS6.ab 2 rfl [(.int .u64 (sU (jF ((List.range j).map fun (k : Nat) => lo + (k : Int))) (lo + (j : Int))).1), (.int .u64 (sU (jF ((List.range j).map fun (k : Nat) => lo + (k : Int))) (lo + (j : Int))).2)] rfl rfl nQ (by simp) fun H7 hS7 => ?_
  simp only [RT] at hS7
  simp (disch := omega) only [↓RA, RZ, simprocAttr, hn, g1, g2, g3, g4, g6, q1]
  refine ⟨n - 1, by omega, j + 1, by omega, by congr 1; omega, ?_⟩
  rw [hsu]
  exact hS7.pick [0, 1, 2] (by decide) rfl
 have hjj : j = (hi - lo + 1).toNat := by omega
 simp (disch := omega) only [↓RA, RZ, simprocAttr, hn, g2, g4, hS5.ai 2 rfl, q1]
 refine hS5.ab 1 rfl [(.int .u64 (jF ((List.range j).map fun (k : Nat) => lo + (k : Int))).1), (.int .u64 (jF ((List.range j).map fun (k : Nat) => lo + (k : Int))).2)] rfl rfl nQ (by simp) fun H8 hS8 => ?_
 simp only [RT] at hS8
 simp (disch := omega) only [↓RA, RZ, simprocAttr, hn, g2, c6h, hS8.ai 1 rfl, q1]
 rw [hjj]
 exact ⟨rfl, hS8.forget⟩
structure Ks (H : Heap) (kv : Value) (ks : List Nt) : Prop where
 sl : Sl 2 ntc H kv ks
 len : ks.length < 1000000000
 ok : ∀ x ∈ ks, Nt.Ok x
theorem Ks.ae {P : Program} {H' : Heap} {kv : Value} {ks : List Nt} {os : List Ob} (h : Ks H kv ks) (hS : St P H H' os) : Ks H' kv ks := ⟨hS.sl h.sl, h.len, h.ok⟩
def qQ (o : Org) (ks : List Nt) : Int := if organE o ≠ 0 then organE o else if ks.length ≠ o.dvs.length then 5 else if ∃ j, j < o.dvs.length ∧ woF (iB ks j) (zP (iB o.dvs j).lo (iB o.dvs j).hi) ≠ (0, 0) then 23 else 0
theorem a6H (o : Org) (ho : o.In H) (kv : Value) (ks : List Nt) (hk : Ks H kv ks) : Fn prog 14 [.agg #[.string o.name, o.rv, o.dv, o.cv], kv] H fun r H' => r = I (qQ o ks) ∧ St prog H H' [] := by
 have hkl := hk.len
 have hdl := ho.2.2.2.2.2.2.1
 refine .aM func14 rfl (by kernel_rfl) (m := 43) rfl fun l hn g0 g1 => ?_
 simp (disch := omega) only [↓RA, RB, simprocAttr, g0]
 refine (sR H).eNew 4 [(.string o.name), o.rv, o.dv, o.cv] rfl rfl (by simp [OC, ((sR H).sl ho.1).cells.2.1, ((sR H).sl ho.2.2.1).cells.2.1, ((sR H).sl ho.2.2.2.2.1).cells.2.1]) mD fun A1 H1 hS1 => ?_
 simp only [RT] at hS1
 simp (disch := omega) only [↓RA, RZ, simprocAttr, hn, hS1.ai 0 rfl]
 refine hS1.cF (yL o (ho.ae hS1)) fun H2 hS2 => ?_
 simp (disch := omega) only [↓RA, RB, simprocAttr, hn]
 refine iA (fun h1 => ?_) (fun h1 => ?_)
 ·simp (disch := omega) only [↓RA, RZ, simprocAttr, hn, b7Q, h1]
  exact ⟨by unfold qQ; rw [if_pos h1], hS2.forget⟩
 have hz : organE o = 0 := dD.1 h1
 have hf := Org.bm hz
 simp (disch := omega) only [↓RA, RZ, simprocAttr, hn, g1, (hS2.sl hk.sl).len, hS2.ld 0 rfl, (hS2.sl ho.2.2.1).len, h1]
 refine iA (fun h2 => ?_) (fun h2 => ?_)
 ·simp (disch := omega) only [↓RA, RZ, simprocAttr, hn, b7Q, h1, h2]
  exact ⟨by unfold qQ; rw [if_neg h1, if_pos (by omega)], hS2.forget⟩
 have hlen : ks.length = o.dvs.length := by omega
 simp (disch := omega) only [↓RA, RZ, simprocAttr, hn, hS2.ld 0 rfl, (hS2.sl ho.2.2.1).len, h1, h2]
 refine Wp.al (fun n l H' => l.length = 43 ∧ get l 1 = kv ∧ get l 22 = o.dv ∧ get l 23 = I o.dvs.length ∧ ∃ (j : Nat), (n + j = o.dvs.length ∧ ∀ q, q < j → woF (iB ks q) (zP (iB o.dvs q).lo (iB o.dvs q).hi) = (0, 0)) ∧ get l 24 = I j ∧ St prog H H' [⟨ptr A1 0 4, 0, [(.string o.name), o.rv, o.dv, o.cv]⟩]) o.dvs.length ?_ ?_
 ·simp (disch := omega) only [RB, RC, simprocAttr, hn, g1]
  exact ⟨0, ⟨by omega, fun q hq => absurd hq (dS _)⟩, rfl, hS2⟩
 rintro n l H3 ⟨hn, g1, g22, g23, j, ⟨hj,hq⟩, g24, hS3⟩
 simp (disch := omega) only [↓RA, RB, simprocAttr, hn, g23, g24]
 refine iA (fun h3 => ?_) (fun h3 => ?_)
 ·have hky := hf.keys j (by omega)
  simp (disch := omega) only [↓RA, RZ, simprocAttr, hn, g22, g24, (hS3.sl ho.2.2.1).idx, (hS3.sl ho.2.2.1).ai, Dvn.cells, h3]
  refine hS3.eNew 5 [(.string ⟨#[]⟩), (.bool false), I 0, I 0, (.slice none 0 0)] rfl rfl rfl rP fun A2 H4 hS4 => ?_
  simp only [RT] at hS4
  simp (disch := omega) only [↓RA, RZ, simprocAttr, hn, h3]
  refine hS4.ab 1 rfl [(.string (iB o.dvs j).name), (.bool (iB o.dvs j).pedal), I (iB o.dvs j).lo, I (iB o.dvs j).hi, (iB o.dvs j).sv] rfl (by simp [OC, (hS4.sl (ho.2.2.2.1 (iB o.dvs j) (iD (by omega))).1).cells.2.1]) rP (by simp) fun H5 hS5 => ?_
  simp only [RT] at hS5
  simp (disch := omega) only [↓RA, RZ, simprocAttr, hn, hS5.ai 1 rfl, h3]
  refine hS5.cF (b3t (iB o.dvs j).lo (iB o.dvs j).hi hky.1 hky.2.1 hky.2.2) fun H6 hS6 => ?_
  simp (disch := omega) only [↓RA, RZ, simprocAttr, hn, h3]
  refine hS6.eNew 2 [(.int .u64 0), (.int .u64 0)] rfl rfl rfl nQ fun A3 H7 hS7 => ?_
  simp only [RT] at hS7
  simp (disch := omega) only [↓RA, RZ, simprocAttr, hn, h3]
  refine hS7.ab 2 rfl [(.int .u64 (zP (iB o.dvs j).lo (iB o.dvs j).hi).1), (.int .u64 (zP (iB o.dvs j).lo (iB o.dvs j).hi).2)] rfl rfl nQ (by simp) fun H8 hS8 => ?_
  simp only [RT] at hS8
  simp (disch := omega) only [↓RA, RZ, simprocAttr, hn, h3]
  refine Wp.drw jV (by kernel_rfl) ?_
  simp (disch := omega) only [↓RA, RZ, simprocAttr, hn, g1, (hS8.sl hk.sl).idx, (hS8.sl hk.sl).ai, ntc, hS8.ai 2 rfl]
  refine hS8.cF (a9a (iB ks j) (zP (iB o.dvs j).lo (iB o.dvs j).hi)) fun H9 hS9 => ?_
  simp (disch := omega) only [↓RA, RB, simprocAttr, hn]
  refine jM (fun h4 => ?_) (fun h4 => ?_)
  ·have h5 : ¬ woF (iB ks j) (zP (iB o.dvs j).lo (iB o.dvs j).hi) = (0, 0) := by simpa using h4
   simp (disch := omega) only [↓RA, RB, simprocAttr, hn, b7Q, h4]
   exact ⟨by unfold qQ; rw [if_neg h1, if_neg (by omega), if_pos ⟨j, by omega, h5⟩], hS9.forget⟩
  have h5 : woF (iB ks j) (zP (iB o.dvs j).lo (iB o.dvs j).hi) = (0, 0) := by simpa using h4
  simp (disch := omega) only [↓RA, RZ, simprocAttr, hn, g1, g22, g23, g24, h4]
  exact ⟨n - 1, by omega, j + 1, ⟨by omega, fun q hq' => by rcases dB.1 hq' with e | e; (· exact hq q e); (· rw [e]; exact h5)⟩, by simp, hS9.pick [0] (by decide) rfl⟩
 simp (disch := omega) only [↓RA, RZ, simprocAttr, hn, b7Q, h3]
 refine ⟨?_, hS3.forget⟩
 unfold qQ
 rw [if_neg h1, if_neg (by omega), if_neg]
 rintro ⟨q, hq1, hq2⟩
 exact hq2 (hq q (by omega))
def plD (ks : List Nt) (i : Nat) : List Ct := (pQ (iB ks i)).map fun z => ((i : Int), z)
def kI (ks : List Nt) : List Ct := (List.range ks.length).flatMap (plD ks)
theorem c1W (ks : List Nt) (i : Nat) : (plD ks i).length ≤ 128 := by
 unfold plD
 rw [ed]
 exact a2W _
theorem b6e (ks : List Nt) : ∀ i, ((List.range i).flatMap (plD ks)).length ≤ i * 128
 | 0 => by simp
 | i + 1 => by
   have := b6e ks i
   have := c1W ks i
   rw [eO, dM, dw, dR, fQ, dG]
   omega
theorem uT (hG : Glob gH H) (kv : Value) (ks : List Nt) (hk : Ks H kv ks) (h8 : ks.length ≤ 8) : Fn prog 53 [kv] H fun r H' => St prog H H' [⟨r, 2, pr (kI ks)⟩] := by
 refine .aW func53 rfl (by kernel_rfl) (m := 31) rfl fun l hn g0 => ?_
 simp (disch := omega) only [↓RA, RZ, simprocAttr, hn, g0, ((sR H).sl hk.sl).len]
 have hS1 := (sR H).nil 1
 simp only [RT] at hS1
 refine Wp.al (fun n l H' => l.length = 31 ∧ get l 2 = (.slice none 0 0) ∧ get l 8 = kv ∧ get l 9 = I ks.length ∧ ∃ (i : Nat) (ov : Value), (n + i = ks.length) ∧ get l 10 = I i ∧ get l 3 = ov ∧ St prog H H' [⟨ov, 2, pr ((List.range i).flatMap (plD ks))⟩]) ks.length ?_ ?_
 ·simp (disch := omega) only [RB, RC, simprocAttr, hn]
  exact ⟨0, .slice none 0 0, by omega, rfl, rfl, hS1⟩
 rintro n l H1 ⟨hn, g2, g8, g9, i, ov, hi, mB, g3, hS2⟩
 simp (disch := omega) only [↓RA, RB, simprocAttr, hn, g9, mB]
 refine iA (fun q1 => ?_) (fun q1 => ?_)
 ·have hmo := hk.ok _ (iD (xs := ks) (j := i) (by omega))
  have hml := a2W (iB ks i)
  have hpl := b6e ks i
  simp (disch := omega) only [↓RA, RZ, simprocAttr, hn, g8, mB, (hS2.sl hk.sl).idx, (hS2.sl hk.sl).ai, ntc, q1]
  refine hS2.eNew 2 [(.int .u64 0), (.int .u64 0)] rfl rfl rfl nQ fun A1 H2 hS3 => ?_
  simp only [RT] at hS3
  simp (disch := omega) only [↓RA, RZ, simprocAttr, hn, q1]
  refine hS3.ab 1 rfl [(.int .u64 (iB ks i).1), (.int .u64 (iB ks i).2)] rfl rfl nQ (by simp) fun H3 hS4 => ?_
  simp only [RT] at hS4
  simp (disch := omega) only [↓RA, RZ, simprocAttr, hn, hS4.ai 1 rfl, q1]
  refine iF ((a9L (hS4.gl hG) (iB ks i) hmo).tr) ?_
  rintro r H4 ⟨-, hT1⟩
  have hS5 := hS4.trans hT1
  simp only [RT] at hS5
  obtain ⟨mw, rfl⟩ : ∃ w, w = r := ⟨r, rfl⟩
  simp (disch := omega) only [↓RA, RZ, simprocAttr, hn, (hS5.aw 2 rfl (fun _ => rfl)).len, q1]
  refine Wp.al (fun n l H' => l.length = 31 ∧ get l 2 = (.slice none 0 0) ∧ get l 4 = I i ∧ get l 8 = kv ∧ get l 9 = I ks.length ∧ get l 10 = I i ∧ get l 16 = mw ∧ get l 17 = I (pQ (iB ks i)).length ∧ ∃ (j : Nat) (ow : Value), (n + j = (pQ (iB ks i)).length) ∧ get l 18 = I j ∧ get l 3 = ow ∧ St prog H H' [⟨ow, 2, pr ((List.range i).flatMap (plD ks) ++ ((pQ (iB ks i)).take j).map fun z => ((i : Int), z))⟩, ⟨ptr A1 0 2, 0, [(.int .u64 (iB ks i).1), (.int .u64 (iB ks i).2)]⟩, ⟨mw, 1, (pQ (iB ks i)).flatMap (one I)⟩]) (pQ (iB ks i)).length ?_ ?_
  ·simp (disch := omega) only [RB, RC, simprocAttr, hn, g2, g8, g9, mB, g3]
   refine ⟨0, ov, by omega, rfl, rfl, ?_⟩
   rw [List.take_zero, gm, dG]
   exact hS5
  rintro n l H5 ⟨hn, g2, g4, g8, g9, mB, g16, g17, j, ow, hj, g18, g3, hS6⟩
  simp (disch := omega) only [↓RA, RB, simprocAttr, hn, g17, g18]
  refine iA (fun q2 => ?_) (fun q2 => ?_)
  ·have hroom : (pr ((List.range i).flatMap (plD ks) ++ ((pQ (iB ks i)).take j).map fun z => ((i : Int), z))).length ≤ 4000 := by
    rw [iK, dw, ed, gj]
    omega
   simp (disch := omega) only [↓RA, RZ, simprocAttr, hn, g4, g16, g18, g3, (hS6.aw 2 rfl (fun _ => rfl)).idx, (hS6.aw 2 rfl (fun _ => rfl)).ld, one, yS, q2]
   refine hS6.ag [I i, I (iB (pQ (iB ks i)) j)] a1c a8N rfl rfl (by simp [Value.cells]) rfl rfl (by decide) (by decide) fun w1 H6 hS7 => ?_
   simp only [RT] at hS7
   simp (disch := omega) only [↓RA, RZ, simprocAttr, hn, q2]
   refine hS7.ar 0 rfl (hS7.rd 3 rfl) a1c (by have h := hroom; simp only [dz, dC]; omega) fun w2 H7 hS8 => ?_
   simp only [RT] at hS8
   simp (disch := omega) only [↓RA, RZ, simprocAttr, hn, g2, g4, g8, g9, mB, g16, g17, g18, q2]
   refine ⟨n - 1, by omega, j + 1, w2, by omega, by simp, rfl, ?_⟩
   rw [List.take_add_one, dx (by omega), Option.toList_some, dZ, ← eR, kG]
   rw [show (pQ (iB ks i))[j] = iB (pQ (iB ks i)) j from (kF _ _ (by omega)).symm]
   exact hS8.pick [0, 1, 2] (by decide) rfl
  simp (disch := omega) only [↓RA, RZ, simprocAttr, hn, g2, g8, g9, mB, g3, q2]
  have hjj : j = (pQ (iB ks i)).length := by omega
  refine ⟨ks.length - (i + 1), by omega, i + 1, ow, by omega, by simp, rfl, ?_⟩
  rw [eO, dM, dR, fQ, dG]
  rw [show plD ks i = ((pQ (iB ks i)).take j).map (fun z => ((i : Int), z)) from by rw [hjj, eJ]; rfl]
  exact hS6.pick [0] (by decide) rfl
 have hii : i = ks.length := by omega
 simp (disch := omega) only [↓RA, RZ, simprocAttr, hn, g3, c5W, q1]
 have hfin := hS2
 rw [hii] at hfin
 exact hfin
end Go.Ds
namespace Go.Ds
open Go.Proofs Go.Proofs.Tryz Go.ChangeShapes Go.WideShapes Go.RowKit Go.Deep
set_option maxRecDepth 10000
structure RgI (H : Heap) (r : Reg) (sv : Value) : Prop where
 sl : Sl 1 (one u64) H sv r.stops
 len : r.stops.length < 9223372036854775808
 ok : ∀ x ∈ r.stops, x < 18446744073709551616
 cpl : r.cpl < 18446744073709551616
 off : r.off < 18446744073709551616
structure KsI (H : Heap) (kv : Value) (ks : List Nt) : Prop where
 sl : Sl 2 ntc H kv ks
 len : ks.length < 9223372036854775808
 ok : ∀ x ∈ ks, Nt.Ok x
theorem RgI.ext {ρ ρ' : Rho} {H H' : Heap} {r : Reg} {sv : Value} (h : RgI H r sv) (e : ExtW ρ H ρ' H') : RgI H' r sv := ⟨h.sl.ext e, h.len, h.ok, h.cpl, h.off⟩
theorem RgI.ae {P : Program} {H H0 : Heap} {os : List Ob} {r : Reg} {sv : Value} (h : RgI H0 r sv) (hS : St P H0 H os) : RgI H r sv := ⟨hS.sl h.sl, h.len, h.ok, h.cpl, h.off⟩
theorem KsI.ae {P : Program} {H H0 : Heap} {os : List Ob} {kv : Value} {ks : List Nt} (h : KsI H0 kv ks) (hS : St P H0 H os) : KsI H kv ks := ⟨hS.sl h.sl, h.len, h.ok⟩
theorem RgI.reg {H : Heap} {r : Reg} {sv : Value} (h : RgI H r sv) (hl : r.stops.length < 1000000000) : r.In H sv := ⟨h.sl, hl, h.ok, h.cpl, h.off⟩
theorem KsI.ks {H : Heap} {kv : Value} {ks : List Nt} (h : KsI H kv ks) (hl : ks.length < 1000000000) : Ks H kv ks := ⟨h.sl, hl, h.ok⟩
theorem Pln.In.ext {ρ ρ' : Rho} {H H' : Heap} {p : Pln} (h : p.In H) (e : ExtW ρ H ρ' H') : p.In H' := ⟨h.1.ext e, h.2.1.ext e, fun b hb => ⟨(h.2.2.1 b hb).1.ext e, (h.2.2.1 b hb).2⟩, h.2.2.2.1.ext e, h.2.2.2.2⟩
section
variable {H0 : Type} {enc : TypeId × Value → H0} {w : World} {base n : Nat} {spare : Nat → Bool} {kW : Bool} {x : DataW H0 × List MemPlace}
theorem b8I {cs : List Value} (h : DataW.trod enc prog w base spare kW n 28 cs = some x) : ∃ m : Nat, cs = one u64 m ∧ m < 18446744073709551616 := by
 obtain ⟨m, hv, _, hw⟩ := DataW.trod_int underlying28 h
 have hm : 0 ≤ m ∧ m ≤ 18446744073709551615 := by simpa [Lit.wf, IntKind.min, IntKind.max, IntKind.signed, IntKind.bits] using hw
 refine ⟨m.toNat, ?_, by omega⟩
 rw [hv]
 show _ = [Value.int .u64 ((m.toNat : Nat) : Int)]
 rw [fg hm.1]
theorem u64_in {v : Value} (h : DataW.trod enc prog w base spare kW n 28 [v] = some x) : ∃ m : Nat, v = .int .u64 m ∧ m < 18446744073709551616 := by
 obtain ⟨m, hv, hm⟩ := b8I h
 exact ⟨m, by simpa [one, u64] using hv, hm⟩
end
section
variable {H0 : Type} {enc : TypeId × Value → H0} {w : World} {base fuel : Nat} {kW : Bool} {x : DataW H0 × List MemPlace} {ρ : Rho} {H : Heap}
end
end Go.Ds
namespace Go.Ds
open Go.Proofs Go.Proofs.Tryz Go.ChangeShapes Go.WideShapes Go.RowKit Go.Deep
set_option maxRecDepth 10000
variable {H0 : Type} {enc : TypeId × Value → H0} {w : World} {base : Nat} {kW : Bool}
theorem b8E {v0 : Value} {d0 : DataW H0} {p0 : List MemPlace} {c0 : Nat} (h0 : DataW.Trod enc prog w base (fun _ => true) kW 52 v0 d0 p0) (hval : Value.okWide prog w .any c0 52 v0) :
 ∃ a b : Nat, a < 256 ∧ b < 256 ∧ v0 = .agg #[.int .u8 a, .int .u8 b] := by
 obtain ⟨cs, rfl, hsz⟩ := okWide_struct underlying52 hval
 rw [show prog.cellsOf 52 = 2 by kernel_rfl] at hsz
 obtain ⟨fuel, hf⟩ := h0
 obtain ⟨l⟩ := cs
 have hl : l.length = 2 := hsz
 match l, hl with
 | [x, y], _ =>
   obtain ⟨_, m, hf⟩ := zE (cs := [x, y]) underlying52 hf
   obtain ⟨_, h0⟩ := hf 0 ⟨_, 5, 0, _, _, _, _⟩ rfl
   obtain ⟨_, h1⟩ := hf 1 ⟨_, 5, 1, _, _, _, _⟩ rfl
   simp only [ce5] at h0 h1
   obtain ⟨a, rfl, ha⟩ := oM h0
   obtain ⟨b, rfl, hb⟩ := oM h1
   exact ⟨a, b, ha, hb, rfl⟩
end Go.Ds
namespace Go.Ds
open Go.Proofs
set_option maxRecDepth 10000
def ltP (x y : Int × Int) : Prop := x.1 < y.1 ∨ (x.1 = y.1 ∧ x.2 < y.2)
theorem b9L {x : Int × Int} : ¬ ltP x x := by unfold ltP; omega
theorem a4c {x y z : Int × Int} (h : ltP x y) (k : ltP y z) : ltP x z := by unfold ltP at *; omega
theorem b4r {es : List (Int × Int)} (h : es.Pairwise fun a b => le2 a b = true) {i j : Nat} (hij : i < j) (hj : j < es.length) : le2 (iB es i) (iB es j) = true := by
 rw [kF _ _ (by omega), kF _ _ hj]
 exact eF.1 h i j (by omega) hj hij
theorem a9e {es : List (Int × Int)} (h : es.Pairwise fun a b => le2 a b = true) : ∀ m, m ≤ es.length → (xP es m).Pairwise ltP ∧ ∀ x, x ∈ xP es m ↔ ∃ j, j < m ∧ iB es j = x
 | 0, _ => ⟨by simp [xP], fun x => by simp [xP]⟩
 | m + 1, hm => by
   obtain ⟨h1, h2⟩ := a9e h m (by omega)
   rw [rN]
   by_cases hc : m = 0 ∨ iB es m ≠ iB es (m - 1)
   ·rw [if_pos hc]
    refine ⟨?_, fun x => ?_⟩
    ·rw [fL]
     refine ⟨h1, by simp, fun a ha b hb => ?_⟩
     obtain ⟨j, hj, rfl⟩ := (h2 a).1 ha
     obtain rfl := dE.1 hb
     have h3 := (oJ _ _).1 (b4r h hj (by omega))
     rcases hc with hc | hc
     ·omega
     ·by_cases he : j = m - 1
      ·subst he
       have hne : ¬ (iB es (m - 1) = iB es m) := fun e => hc e.symm
       rw [Prod.ext_iff] at hne
       unfold ltP
       omega
      ·have h4 := (oJ _ _).1 (b4r h (show j < m - 1 by omega) (by omega))
       have h5 := (oJ _ _).1 (b4r h (show m - 1 < m by omega) (by omega))
       have hne : ¬ (iB es (m - 1) = iB es m) := fun e => hc e.symm
       rw [Prod.ext_iff] at hne
       unfold ltP
       omega
    ·rw [dN, h2, dE]
     constructor
     ·rintro (⟨j, hj, e⟩ | e)
      ·exact ⟨j, by omega, e⟩
      ·exact ⟨m, by omega, e.symm⟩
     ·rintro ⟨j, hj, e⟩
      rcases dB.1 hj with e2 | e2
      ·exact .inl ⟨j, e2, e⟩
      ·subst e2
       exact .inr e.symm
   ·rw [if_neg hc, dG]
    refine ⟨h1, fun x => ?_⟩
    rw [h2]
    constructor
    ·rintro ⟨j, hj, e⟩
     exact ⟨j, by omega, e⟩
    ·rintro ⟨j, hj, e⟩
     rcases dB.1 hj with e2 | e2
     ·exact ⟨j, e2, e⟩
     ·subst e2
      have hc' : ¬ (j = 0) ∧ iB es j = iB es (j - 1) := ⟨fun e => hc (.inl e), fT fun e => hc (.inr e)⟩
      exact ⟨j - 1, by omega, by rw [← hc'.2]; exact e⟩
theorem c0Z (l : List (Int × Int)) : (dd (uV l)).Pairwise ltP := (a9e (vV l) _ (dq _)).1
theorem b1j {l : List (Int × Int)} {x : Int × Int} : x ∈ dd (uV l) ↔ x ∈ l := by
 unfold dd
 rw [(a9e (vV l) _ (dq _)).2 x, ← (oB l).mem_iff]
 constructor
 ·rintro ⟨j, hj, rfl⟩
  exact iD hj
 ·intro hx
  obtain ⟨j, hj, e⟩ := dW.1 hx
  exact ⟨j, hj, by rw [kF _ _ hj]; exact e⟩
inductive Star {α : Type} (R : α → α → Prop) : α → α → Prop
 | refl (a : α) : Star R a a
 | tail {a b c : α} : Star R a b → R b c → Star R a c
theorem a0c (o : Org) (r : Reg) (l : List Ct) : (kU o r l).Pairwise ltP := c0Z _
def IsP (o : Org) (p : Ct) : Prop := 0 ≤ p.1 ∧ p.1 < o.ranks.length ∧ 0 ≤ p.2 ∧ p.2 < (iB o.ranks p.1.toNat).wind.length
theorem b0f {rs : List Rk} {s : Stp} {key : Int} {p : Ct} (h : p ∈ qC rs s key) : 0 ≤ p.1 ∧ p.1 < rs.length ∧ 0 ≤ p.2 ∧ p.2 < (iB rs p.1.toNat).wind.length := by
 unfold qC at h
 obtain ⟨d, hd, rfl⟩ := dK.1 (b1j.1 h)
 have hh := (fB.1 hd).2
 unfold yK at hh
 rw [de, de, dF, decide_eq_true_eq, decide_eq_true_eq, decide_eq_false_iff_not] at hh
 obtain ⟨⟨h1, h2⟩, h3⟩ := hh
 have e : (oI rs d key).1 = d.rank := by unfold oI; rw [if_neg h1]
 rw [e]
 exact ⟨by omega, by omega, h2, h3⟩
theorem b0I {o : Org} {r : Reg} {c p : Ct} (h : p ∈ nW o r c) : IsP o p := by
 unfold nW at h
 obtain ⟨i, _, h⟩ := fp.1 h
 split at h
 ·exact b0f h
 ·exact absurd h eK
theorem a7M {o : Org} {r : Reg} {l : List Ct} {p : Ct} (h : p ∈ wV o r l) : IsP o p := by
 unfold wV at h
 obtain ⟨c, _, h⟩ := fp.1 (b1j.1 h)
 exact b0I h
theorem a9z {o : Org} {r : Reg} {l : List Ct} {p : Ct} (h : p ∈ kU o r l) : IsP o p := a7M h
theorem IsP.small {o : Org} {H : Heap} (hf : o.Fine) (ho : o.In H) {p : Ct} (h : IsP o p) : -1000000000 ≤ p.1 ∧ p.1 ≤ 1000000000 ∧ -1000000000 ≤ p.2 ∧ p.2 ≤ 1000000000 := by
 obtain ⟨h1, h2, h3, h4⟩ := h
 have hr := (ho.2.1 _ (iD (xs := o.ranks) (j := p.1.toNat) (by omega))).2
 have := hf.rlen
 exact ⟨by omega, by omega, by omega, by omega⟩
theorem a3I {o : Org} (hf : o.Fine) (rg : Reg) {l : List Ct} (hl : l.length ≤ 1024) (ho : ∀ c ∈ oH o rg l, qN o c = true) : (kU o rg l).length ≤ 1000000 := by
 have h1 := uX hf rg (oH o rg l) ho
 have h2 := a2s hf (rg := rg) hl
 have h3 := b5U (uV ((oH o rg l).flatMap (nW o rg)))
 rw [oW] at h3
 have : (kU o rg l).length ≤ (oH o rg l).length * 480 := dJ h3 h1
 omega
def tP (x : Nt) (z : Int) : Bool := if z < 64 then x.1.testBit z.toNat else x.2.testBit (z - 64).toNat
theorem vB {x i : Nat} : i ∈ pI x ↔ i < 64 ∧ x.testBit i = true := by
 unfold pI
 rw [fB, dH]
theorem b5H {x : Nt} {z : Int} : z ∈ pQ x ↔ isN z ∧ tP x z = true := by
 unfold pQ tP isN
 rw [dN, dK, dK]
 constructor
 ·rintro (⟨i, hi, rfl⟩ | ⟨i, hi, rfl⟩)
  ·obtain ⟨h1, h2⟩ := vB.1 hi
   exact ⟨by omega, by rw [if_pos (by omega)]; exact h2⟩
  ·obtain ⟨h1, h2⟩ := vB.1 hi
   refine ⟨by omega, ?_⟩
   rw [if_neg (by omega), show (64 + (i : Int) - 64).toNat = i by omega]
   exact h2
 ·rintro ⟨h1, h2⟩
  by_cases h : z < 64
  ·rw [if_pos h] at h2
   exact .inl ⟨z.toNat, vB.2 ⟨by omega, h2⟩, by omega⟩
  ·rw [if_neg h] at h2
   exact .inr ⟨(z - 64).toNat, vB.2 ⟨by omega, h2⟩, by omega⟩
theorem b4B (x : Nt) (n z : Int) (hn : isN n) (hz : isN z) : tP (sU x n) z = (tP x z || decide (z = n)) := by
 unfold tP sU isN at *
 by_cases h1 : n < 64
 ·rw [if_pos h1]
  by_cases h2 : z < 64
  ·rw [if_pos h2, if_pos h2, Nat.testBit_or, gg]
   congr 1
   rw [decide_eq_decide]
   omega
  ·rw [if_neg h2, if_neg h2, decide_eq_false (by omega), Bool.or_false]
 ·rw [if_neg h1]
  by_cases h2 : z < 64
  ·rw [if_pos h2, if_pos h2, decide_eq_false (by omega), Bool.or_false]
  ·rw [if_neg h2, if_neg h2, Nat.testBit_or, gg]
   congr 1
   rw [decide_eq_decide]
   omega
theorem a3T (z : Int) : tP (0, 0) z = false := by
 unfold tP
 split <;> simp
theorem a3N : ∀ (xs : List Int) (x : Nt) (z : Int), (∀ n ∈ xs, isN n) → isN z → tP (xs.foldl sU x) z = (tP x z || decide (z ∈ xs))
 | [], x, z, _, _ => by simp
 | n :: xs, x, z, h, hz => by
   rw [fA, a3N xs _ z (fun y hy => h y (eT _ hy)) hz, b4B x n z (h n (eH ..)) hz, Bool.or_assoc]
   congr 1
   rw [eh]
   simp
theorem a9y {xs : List Int} {z : Int} (h : ∀ n ∈ xs, isN n) (hz : isN z) : tP (jF xs) z = decide (z ∈ xs) := by
 unfold jF
 rw [a3N xs _ z h hz, a3T, Bool.false_or]
theorem b4t {lo hi z : Int} (h0 : 0 ≤ lo) (h2 : hi ≤ 127) (hz : isN z) : tP (zP lo hi) z = (decide (lo ≤ z) && decide (z ≤ hi)) := by
 unfold zP
 rw [a9y (fun n hn => by
  obtain ⟨k, hk, rfl⟩ := dK.1 hn
  have := dH.1 hk
  exact ⟨by omega, by omega⟩) hz, eh, de, decide_eq_true_eq, decide_eq_true_eq, decide_eq_true_eq, dK]
 constructor
 ·rintro ⟨k, hk, rfl⟩
  have := dH.1 hk
  omega
 ·rintro ⟨h3, h4⟩
  exact ⟨(z - lo).toNat, dH.2 (by omega), by omega⟩
theorem b8Z {x y : Nt} (hx : Nt.Ok x) {z : Int} (hz : isN z) : tP (woF x y) z = (tP x z && !tP y z) := by
 obtain ⟨h1, h2⟩ := hz
 unfold tP woF
 by_cases h : z < 64
 ·rw [if_pos h, if_pos h, if_pos h, a6s _ _ _ hx.1 (by omega)]
 ·rw [if_neg h, if_neg h, if_neg h, a6s _ _ _ hx.2 (by omega)]
theorem a9I {x y : Nt} (hx : Nt.Ok x) (h : woF x y = (0, 0)) {z : Int} (hz : isN z) (hh : tP x z = true) : tP y z = true := by
 have := b8Z (y := y) hx hz
 rw [h, a3T, hh] at this
 simpa using this.symm
theorem qO {o : Org} {ks : List Nt} (h : qQ o ks = 0) : organE o = 0 ∧ ks.length = o.dvs.length ∧ ∀ j, j < o.dvs.length → woF (iB ks j) (zP (iB o.dvs j).lo (iB o.dvs j).hi) = (0, 0) := by
 unfold qQ at h
 split at h
 ·rename_i hh; exact absurd h hh
 rename_i h1
 split at h
 ·omega
 rename_i h2
 split at h
 ·omega
 rename_i h3
 refine ⟨dD.1 h1, by omega, fun j hj => ?_⟩
 by_cases hh : woF (iB ks j) (zP (iB o.dvs j).lo (iB o.dvs j).hi) = (0, 0)
 ·exact hh
 ·exact absurd ⟨j, hj, hh⟩ h3
theorem zA {o : Org} {ks : List Nt} (hok : ∀ x ∈ ks, Nt.Ok x) (h : qQ o ks = 0) : ∀ c ∈ kI ks, qN o c = true := by
 obtain ⟨h1, h2, h3⟩ := qO h
 have hf := Org.bm h1
 intro c hc
 unfold kI at hc
 obtain ⟨i, hi, hc⟩ := fp.1 hc
 have hi := dH.1 hi
 unfold plD at hc
 obtain ⟨z, hz, rfl⟩ := dK.1 hc
 obtain ⟨hz1, hz2⟩ := b5H.1 hz
 have hky := hf.keys i (by omega)
 have hw := a9I (hok _ (iD hi)) (h3 i (by omega)) hz1 hz2
 rw [b4t hky.1 hky.2.2 hz1] at hw
 simp only [de, decide_eq_true_eq] at hw
 unfold qN
 simp only [de, decide_eq_true_eq, gS]
 omega
theorem zU {o : Org} {ks : List Nt} (h : qQ o ks = 0) : (kI ks).length ≤ 1024 := by
 obtain ⟨h1, h2, _⟩ := qO h
 have h8 := (Org.bm h1).dlen
 have := b6e ks ks.length
 unfold kI
 omega
structure SegsOk (m : Nat) (lo hi : Int) (gs : List Seg) : Prop where
 ord : ∀ i, i < gs.length → (iB gs i).lo ≤ (iB gs i).hi
 up : ∀ i, i < gs.length → 0 < i → (iB gs (i - 1)).hi < (iB gs i).lo
 within : ∀ i, i < gs.length → lo ≤ (iB gs i).lo ∧ (iB gs i).hi ≤ hi
 draws : ∀ i, i < gs.length → lH m (iB gs i).draws = 0
 len : gs.length ≤ 12
theorem SegsOk.lt {m : Nat} {lo hi : Int} {gs : List Seg} (h : SegsOk m lo hi gs) {i : Nat} : ∀ k, i + 1 + k < gs.length → (iB gs i).hi < (iB gs (i + 1 + k)).lo
 | 0, hk => h.up (i + 1) hk (by omega)
 | k + 1, hk => by
   have h1 := h.lt (i := i) k (by omega)
   have h2 := h.ord (i + 1 + k) (by omega)
   have h3 := h.up (i + 1 + (k + 1)) hk (by omega)
   rw [show i + 1 + (k + 1) - 1 = i + 1 + k by omega] at h3
   omega
theorem SegsOk.one {m : Nat} {lo hi : Int} {gs : List Seg} (h : SegsOk m lo hi gs) {key : Int} {i j : Nat} (hi' : i < gs.length) (hj : j < gs.length) (h1 : (iB gs i).lo ≤ key ∧ key ≤ (iB gs i).hi) (h2 : (iB gs j).lo ≤ key ∧ key ≤ (iB gs j).hi) : i = j := by
 rcases Nat.lt_trichotomy i j with e | e | e
 ·have := h.lt (i := i) (j - i - 1) (by omega)
  rw [show i + 1 + (j - i - 1) = j by omega] at this
  omega
 ·exact e
 ·have := h.lt (i := j) (i - j - 1) (by omega)
  rw [show j + 1 + (i - j - 1) = i by omega] at this
  omega
end Go.Ds
namespace Go.Ds
open Go.Proofs Go.Proofs.Tryz
variable {H : Heap}
set_option maxRecDepth 10000
set_option maxHeartbeats 1000000
def yR (o : Org) (l : List (Value × Reg)) (ks : List Nt) : Int := if oE o l ≠ 0 then oE o l else qQ o ks
theorem a4W (o : Org) (ho : o.In H) (lv : Value) (xs : List (Value × Reg)) (hl : Sl 3 rgc H lv xs) (hle : xs.length < 1000000000) (hr : ∀ p ∈ xs, p.2.In H p.1) (kv : Value) (ks : List Nt) (hk : Ks H kv ks) :
 Fn prog 51 [.agg #[.string o.name, o.rv, o.dv, o.cv], lv, kv] H fun r H' => r = I (yR o xs ks) ∧ St prog H H' [] := by
 refine .bl func51 rfl (by kernel_rfl) (m := 17) rfl fun l hn g0 g1 g2 => ?_
 simp (disch := omega) only [↓RA, RB, simprocAttr, g0]
 refine (sR H).eNew 4 [(.string o.name), o.rv, o.dv, o.cv] rfl rfl (by simp [OC, ((sR H).sl ho.1).cells.2.1, ((sR H).sl ho.2.2.1).cells.2.1, ((sR H).sl ho.2.2.2.2.1).cells.2.1]) mD fun A1 H1 hS1 => ?_
 simp only [RT] at hS1
 simp (disch := omega) only [↓RA, RZ, simprocAttr, hn, g1, hS1.ai 0 rfl]
 refine hS1.cF (a4e o (ho.ae hS1) lv xs (hS1.sl hl) hle (fun p hp => (hr p hp).ae hS1)) fun H2 hS2 => ?_
 simp (disch := omega) only [↓RA, RB, simprocAttr, hn]
 refine iA (fun h1 => ?_) (fun h1 => ?_)
 ·simp (disch := omega) only [↓RA, RZ, simprocAttr, hn, c4I, h1]
  exact ⟨by unfold yR; rw [if_pos h1], hS2.forget⟩
 simp (disch := omega) only [↓RA, RZ, simprocAttr, hn, g2, hS2.ai 0 rfl, h1]
 refine hS2.cF (a6H o (ho.ae hS2) kv ks (hk.ae hS2)) fun H3 hS3 => ?_
 simp (disch := omega) only [↓RA, RZ, simprocAttr, hn, c4I, h1]
 exact ⟨by unfold yR; rw [if_neg h1], hS3.forget⟩
def rkE (o : Org) (rg : Reg) (ks : List Nt) : Int := if mZ o rg ≠ 0 then mZ o rg else qQ o ks
theorem a1O (o : Org) (sv : Value) (rg : Reg) (ks : List Nt) : yR o [(sv, rg)] ks = rkE o rg ks := by
 unfold yR rkE
 rw [a0z]
theorem a1S {o : Org} {rg : Reg} {ks : List Nt} (h : rkE o rg ks = 0) : mZ o rg = 0 ∧ qQ o ks = 0 := by
 unfold rkE at h
 split at h
 ·rename_i hh; exact absurd h hh
 ·rename_i hh; exact ⟨dD.1 hh, h⟩
def wT (o : Org) (rg : Reg) (ks : List Nt) : List Ct := if rkE o rg ks = 0 then kU o rg (kI ks) else []
def a6P (o : Org) (rg : Reg) (ks : List Nt) : List Ct := if rkE o rg ks = 0 then oH o rg (kI ks) else []
theorem nT (hG : Glob gH H) (o : Org) (ho : o.In H) (rg : Reg) (sv : Value) (hr : rg.In H sv) (kv : Value) (ks : List Nt) (hk : Ks H kv ks) :
 Fn prog 15 [.agg #[.string o.name, o.rv, o.dv, o.cv], .agg #[sv, .int .u64 rg.cpl, .int .u64 rg.off], kv] H fun r H' => ∃ pv, r = .tuple #[pv, I (rkE o rg ks)] ∧ Slx 2 kA H' (fun B => H.length ≤ B) pv (wT o rg ks) ∧ St prog H H' [] := by
 refine .bl func15 rfl (by kernel_rfl) (m := 22) rfl fun l hn g0 g1 g2 => ?_
 simp (disch := omega) only [↓RA, RB, simprocAttr, g0]
 refine (sR H).eNew 4 [(.string o.name), o.rv, o.dv, o.cv] rfl rfl (by simp [OC, ((sR H).sl ho.1).cells.2.1, ((sR H).sl ho.2.2.1).cells.2.1, ((sR H).sl ho.2.2.2.2.1).cells.2.1]) mD fun A1 H1 hS1 => ?_
 simp only [RT] at hS1
 simp (disch := omega) only [↓RA, RB, simprocAttr, g1]
 refine hS1.eNew 3 [sv, (.int .u64 rg.cpl), (.int .u64 rg.off)] rfl rfl (by simp [OC, (hS1.sl hr.1).cells.2.1]) pG fun A2 H2 hS2 => ?_
 simp only [RT] at hS2
 simp (disch := omega) only [↓RA, RZ, simprocAttr, hn, hS2.ai 0 rfl, hS2.ai 1 rfl]
 refine hS2.ag [sv, (.int .u64 rg.cpl), (.int .u64 rg.off)] a7o a6U rfl rfl (by first | (simp []; done) | simp [Value.cells]) (by first | (simp []; done) | simp [Value.cells]) (by simp [OC, (hS2.sl hr.1).cells.2.1]) (by decide) (by decide) fun w1 H3 hS3 => ?_
 simp only [RT] at hS3
 simp (disch := omega) only [↓RA, RZ, simprocAttr, hn, g2]
 refine hS3.cF (a4W o (ho.ae hS3) w1 [(sv, rg)] (hS3.aw 2 rfl (fun _ => rfl)) (by simp) (by intro p hp; rw [dE.1 hp]; exact hr.ae hS3) kv ks (hk.ae hS3)) fun H4 hS4 => ?_
 have hsc := a1O o sv rg ks
 simp (disch := omega) only [↓RA, RB, simprocAttr, hn, hsc]
 refine iA (fun h1 => ?_) (fun h1 => ?_)
 ·simp (disch := omega) only [↓RA, RZ, simprocAttr, hn, c3g, hsc, h1]
  exact ⟨.slice none 0 0, rfl, ⟨⟨.inl ⟨rfl, by rw [wT, if_neg h1]; rfl⟩, jU, by decide⟩, fun b h => by simp [kK] at h⟩, hS4.forget⟩
 have h0 := dD.1 h1
 obtain ⟨hz1, hk0⟩ := a1S h0
 obtain ⟨hz3, hz4⟩ := nJ hz1
 have hf := Org.bm hz3
 have h8 : ks.length ≤ 8 := by
  have := hf.dlen
  have := (qO hk0).2.1
  omega
 simp (disch := omega) only [↓RA, RC, simprocAttr, hsc, h1]
 refine Wp.aQ jV [(0, 4), (1, 4)] (by kernel_rfl) (by kernel_rfl) ?_
 simp (disch := omega) only [↓RA, RZ, simprocAttr, hn, g2, hS4.ai 0 rfl, hS4.ai 1 rfl]
 refine iF ((uT (hS4.gl hG) kv ks (hk.ae hS4) h8).tr) ?_
 rintro r H5 ⟨-, hT2⟩
 have hS5 := hS4.trans hT2
 simp only [RT] at hS5
 obtain ⟨pv, rfl⟩ : ∃ w, w = r := ⟨r, rfl⟩
 simp (disch := omega) only [↓RA, RZ, simprocAttr, hn]
 have hSd := hS5
 refine iF (uA o (ho.ae hS5) hf rg sv (hr.ae hS5) hz4 pv (kI ks) (hS5.aw 3 rfl jU) (zU hk0) (zA hk.ok hk0)) ?_
 rintro r H6 ⟨hx, hT3⟩
 have hS6 := hS5.trans hT3
 simp only [RT] at hS6
 obtain ⟨qv, rfl⟩ : ∃ w, w = r := ⟨r, rfl⟩
 simp (disch := omega) only [↓RA, RZ, simprocAttr, hn, hS5.ai 0 rfl, hS5.ai 1 rfl, c3g, hx.1.aZ]
 rw [h0]
 refine ⟨qv, rfl, ⟨?_, fun b h => ?_⟩, hS6.forget⟩
 ·rw [wT, if_pos h0]
  exact hx.1
 ·have := hx.2 b h
  have : H.length ≤ _ := hSd.len
  omega
theorem sJ (hG : Glob gH H) (o : Org) (ho : o.In H) (rg : Reg) (sv : Value) (hr : rg.In H sv) (kv : Value) (ks : List Nt) (hk : Ks H kv ks) :
 Fn prog 21 [.agg #[.string o.name, o.rv, o.dv, o.cv], .agg #[sv, .int .u64 rg.cpl, .int .u64 rg.off], kv] H fun r H' => ∃ pv, r = .tuple #[pv, I (rkE o rg ks)] ∧ Slx 2 kA H' (fun B => H.length ≤ B) pv (a6P o rg ks) ∧ St prog H H' [] := by
 refine .bl func21 rfl (by kernel_rfl) (m := 22) rfl fun l hn g0 g1 g2 => ?_
 simp (disch := omega) only [↓RA, RB, simprocAttr, g0]
 refine (sR H).eNew 4 [(.string o.name), o.rv, o.dv, o.cv] rfl rfl (by simp [OC, ((sR H).sl ho.1).cells.2.1, ((sR H).sl ho.2.2.1).cells.2.1, ((sR H).sl ho.2.2.2.2.1).cells.2.1]) mD fun A1 H1 hS1 => ?_
 simp only [RT] at hS1
 simp (disch := omega) only [↓RA, RB, simprocAttr, g1]
 refine hS1.eNew 3 [sv, (.int .u64 rg.cpl), (.int .u64 rg.off)] rfl rfl (by simp [OC, (hS1.sl hr.1).cells.2.1]) pG fun A2 H2 hS2 => ?_
 simp only [RT] at hS2
 simp (disch := omega) only [↓RA, RZ, simprocAttr, hn, hS2.ai 0 rfl, hS2.ai 1 rfl]
 refine hS2.ag [sv, (.int .u64 rg.cpl), (.int .u64 rg.off)] a7o a6U rfl rfl (by first | (simp []; done) | simp [Value.cells]) (by first | (simp []; done) | simp [Value.cells]) (by simp [OC, (hS2.sl hr.1).cells.2.1]) (by decide) (by decide) fun w1 H3 hS3 => ?_
 simp only [RT] at hS3
 simp (disch := omega) only [↓RA, RZ, simprocAttr, hn, g2]
 refine hS3.cF (a4W o (ho.ae hS3) w1 [(sv, rg)] (hS3.aw 2 rfl (fun _ => rfl)) (by simp) (by intro p hp; rw [dE.1 hp]; exact hr.ae hS3) kv ks (hk.ae hS3)) fun H4 hS4 => ?_
 have hsc := a1O o sv rg ks
 simp (disch := omega) only [↓RA, RB, simprocAttr, hn, hsc]
 refine iA (fun h1 => ?_) (fun h1 => ?_)
 ·simp (disch := omega) only [↓RA, RZ, simprocAttr, hn, c4J, hsc, h1]
  exact ⟨.slice none 0 0, rfl, ⟨⟨.inl ⟨rfl, by rw [a6P, if_neg h1]; rfl⟩, jU, by decide⟩, fun b h => by simp [kK] at h⟩, hS4.forget⟩
 have h0 := dD.1 h1
 obtain ⟨hz1, hk0⟩ := a1S h0
 obtain ⟨hz3, hz4⟩ := nJ hz1
 have hf := Org.bm hz3
 have h8 : ks.length ≤ 8 := by
  have := hf.dlen
  have := (qO hk0).2.1
  omega
 simp (disch := omega) only [↓RA, RC, simprocAttr, hsc, h1]
 refine Wp.aQ jV [(0, 4), (1, 4)] (by kernel_rfl) (by kernel_rfl) ?_
 simp (disch := omega) only [↓RA, RZ, simprocAttr, hn, g2, hS4.ai 0 rfl, hS4.ai 1 rfl]
 refine iF ((uT (hS4.gl hG) kv ks (hk.ae hS4) h8).tr) ?_
 rintro r H5 ⟨-, hT2⟩
 have hS5 := hS4.trans hT2
 simp only [RT] at hS5
 obtain ⟨pv, rfl⟩ : ∃ w, w = r := ⟨r, rfl⟩
 simp (disch := omega) only [↓RA, RZ, simprocAttr, hn]
 have hSd := hS5
 refine iF (a0S o (ho.ae hS5) hf rg sv (hr.ae hS5) pv (kI ks) (hS5.aw 3 rfl jU) (zU hk0) (zA hk.ok hk0)) ?_
 rintro r H6 ⟨hx, hT3⟩
 have hS6 := hS5.trans hT3
 simp only [RT] at hS6
 obtain ⟨qv, rfl⟩ : ∃ w, w = r := ⟨r, rfl⟩
 simp (disch := omega) only [↓RA, RZ, simprocAttr, hn, hS5.ai 0 rfl, hS5.ai 1 rfl, c4J, hx.1.aZ]
 rw [h0]
 refine ⟨qv, rfl, ⟨?_, fun b h => ?_⟩, hS6.forget⟩
 ·rw [a6P, if_pos h0]
  exact hx.1
 ·have := hx.2 b h
  have : H.length ≤ _ := hSd.len
  omega
end Go.Ds
namespace Go.Ds
open Go.Proofs
variable {H : Heap}
set_option maxRecDepth 10000
set_option maxHeartbeats 1000000
end Go.Ds
namespace Go.Ds
open Go.Proofs Go.Proofs.Tryz
variable {H : Heap}
set_option maxRecDepth 10000
set_option maxHeartbeats 1000000
def a2f (lo : Int) (w m : Nat) : List Int := ((List.range m).filter fun j => w.testBit j).map fun (j : Nat) => lo + (j : Int)
def vC (lo hi : Int) : Nat := min 16 (hi - lo + 1).toNat
def a0V (o : Org) (b : Nat → Nat) (i : Nat) : Nt := jF (a2f (iB o.dvs i).lo (b (i % 3)) (vC (iB o.dvs i).lo (iB o.dvs i).hi))
def rL (o : Org) (b : Nat → Nat) : List Nt := (List.range o.dvs.length).map (a0V o b)
theorem c2o (a b : Nat) (h : a < 65536) : ((a : Nat) : Int).fdiv (2 ^ min b (IntKind.bits .u16)) = ((a >>> b : Nat) : Int) := by
 have e : IntKind.bits .u16 = 16 := rfl
 rw [e]
 have h1 : ((a : Nat) : Int).fdiv (2 ^ min b 16) = ((a / 2 ^ min b 16 : Nat) : Int) := by
  rw [gA _ (by exact Int.le_of_lt (Int.pow_pos (by decide)))]
  simp
 rw [h1, eU]
 by_cases hb : b ≤ 16
 ·rw [fW hb]
 ·rw [Nat.min_eq_right (by omega)]
  have h2 : a / 2 ^ 16 = 0 := ij (by simpa using h)
  have h3 : a / 2 ^ b = 0 := ij (dQ (by simpa using h) (fM (by decide) (show 16 ≤ b by omega)))
  rw [h2, h3]
theorem b9W (n : Nat) (h : n < 65536) : IntKind.wrap .u16 ((BitVec.ofInt (IntKind.bits .u16) (n : Int) &&& BitVec.ofInt (IntKind.bits .u16) 1).toNat : Int) = ((n % 2 : Nat) : Int) := by
 have e : (BitVec.ofInt (IntKind.bits .u16) (n : Int) &&& BitVec.ofInt (IntKind.bits .u16) 1).toNat = n % 2 := by
  show (BitVec.ofInt 16 (n : Int) &&& BitVec.ofInt 16 1).toNat = n % 2
  rw [gI]
  have h1 : (BitVec.ofInt 16 (n : Int)).toNat = n := by
   rw [fZ, BitVec.toNat_ofNat]
   exact gC (by simpa using h)
  have h2 : (BitVec.ofInt 16 1).toNat = 1 := rfl
  rw [h1, h2, Nat.and_one_is_mod]
 rw [e]
 have : n % 2 < 2 := eI _ (by decide)
 have hh : n % 2 = 0 ∨ n % 2 = 1 := by omega
 rcases hh with h | h <;> rw [h] <;> rfl
theorem b5d {a : Nat} (b : Nat) (h : a < 65536) : a >>> b < 65536 := by
 rw [eU]
 exact Nat.lt_of_le_of_lt (Nat.div_le_self _ _) h
theorem b3h (lo : Int) (w m : Nat) : a2f lo w (m + 1) = a2f lo w m ++ (if w.testBit m then [lo + (m : Int)] else []) := by
 unfold a2f
 rw [eO, fb, dZ]
 congr 1
 cases h : w.testBit m <;> simp [h]
theorem b4V (lo : Int) (w m : Nat) : (a2f lo w m).length ≤ m := by
 unfold a2f
 rw [ed]
 exact dJ (ey _ _) (by simp)
theorem b8N (lo hi : Int) : vC lo hi ≤ 16 := Nat.min_le_left _ _
theorem a1W {o : Org} (hf : o.Fine) (w : Nat) {i : Nat} (hi : i < o.dvs.length) : ∀ z ∈ a2f (iB o.dvs i).lo w (vC (iB o.dvs i).lo (iB o.dvs i).hi), isN z ∧ (iB o.dvs i).lo ≤ z ∧ z ≤ (iB o.dvs i).hi := by
 intro z hz
 have hk := hf.keys i hi
 unfold a2f vC at hz
 obtain ⟨j, hj, rfl⟩ := dK.1 hz
 have hj := dH.1 (fB.1 hj).1
 exact ⟨⟨by omega, by omega⟩, by omega, by omega⟩
theorem a8X (o : Org) (ho : o.In H) (hf : o.Fine) (b : Nat → Nat) (hb : ∀ i, b i < 65536) :
 Fn prog 18 [.agg #[.string o.name, o.rv, o.dv, o.cv], .agg #[.int .u16 (b 0), .int .u16 (b 1), .int .u16 (b 2)]] H fun r H' =>
  St prog H H' [⟨r, 2, (rL o b).flatMap ntc⟩] := by
 have hd8 := hf.dlen
 refine .aM func18 rfl (by kernel_rfl) (m := 66) rfl fun l hn g0 g1 => ?_
 simp (disch := omega) only [↓RA, RB, simprocAttr, g0]
 refine (sR H).eNew 4 [(.string o.name), o.rv, o.dv, o.cv] rfl rfl (by simp [OC, ((sR H).sl ho.1).cells.2.1, ((sR H).sl ho.2.2.1).cells.2.1, ((sR H).sl ho.2.2.2.2.1).cells.2.1]) mD fun A1 H1 hS1 => ?_
 simp only [RT] at hS1
 simp (disch := omega) only [↓RA, RB, simprocAttr, g1]
 refine hS1.eNew 3 [(.int .u16 (b 0)), (.int .u16 (b 1)), (.int .u16 (b 2))] rfl rfl rfl c4s fun A2 H2 hS2 => ?_
 simp only [RT] at hS2
 simp (disch := omega) only [↓RA, RB, simprocAttr]
 have hS3 := hS2.nil 1
 simp only [RT] at hS3
 refine Wp.al (fun n l H' => l.length = 66 ∧ get l 2 = (ptr A1 0 4) ∧ get l 3 = (ptr A2 0 3) ∧ get l 4 = (.slice none 0 0) ∧ ∃ (i : Nat) (kv : Value), (n + i = o.dvs.length) ∧ get l 6 = I i ∧ get l 5 = kv ∧ St prog H H' [⟨ptr A1 0 4, 0, [(.string o.name), o.rv, o.dv, o.cv]⟩, ⟨ptr A2 0 3, 0, [(.int .u16 (b 0)), (.int .u16 (b 1)), (.int .u16 (b 2))]⟩, ⟨kv, 2, ((List.range i).map (a0V o b)).flatMap ntc⟩]) o.dvs.length ?_ ?_
 ·simp (disch := omega) only [RB, RC, simprocAttr, hn]
  exact ⟨0, .slice none 0 0, by omega, rfl, rfl, hS3⟩
 rintro n l H3 ⟨hn, g2, g3, g4, i, kv, hi, g6, g5, hS4⟩
 simp (disch := omega) only [↓RA, RZ, simprocAttr, hn, g2, g6, hS4.ld 0 rfl, (hS4.sl ho.2.2.1).len]
 refine iA (fun q => ?_) (fun q => ?_)
 ·have hk := hf.keys i (by omega)
  simp (disch := omega) only [↓RA, RZ, simprocAttr, hn, g2, g6, hS4.ld 0 rfl, (hS4.sl ho.2.2.1).idx, (hS4.sl ho.2.2.1).bz, (hS4.sl ho.2.2.1).cO 2, Dvn.cells, q]
  refine hS4.eNew 2 [I 0, I 0] rfl rfl rfl sA fun A3 H4 hS5 => ?_
  simp only [RT] at hS5
  simp (disch := omega) only [↓RA, RZ, simprocAttr, hn, q]
  refine hS5.ab 3 rfl [I (iB o.dvs i).lo, I (iB o.dvs i).hi] rfl rfl sA (by simp) fun H5 hS6 => ?_
  simp only [RT] at hS6
  simp (disch := omega) only [↓RA, RZ, simprocAttr, hn, hS6.ld 3 rfl, q]
  have hS7 := hS6.nil 0
  simp only [RT] at hS7
  refine Wp.al (fun n l H' => l.length = 66 ∧ get l 2 = (ptr A1 0 4) ∧ get l 3 = (ptr A2 0 3) ∧ get l 4 = (.slice none 0 0) ∧ get l 5 = kv ∧ get l 6 = I i ∧ get l 8 = (ptr A3 0 2) ∧ ∃ (m : Nat) (lv : Value), (n + m = vC (iB o.dvs i).lo (iB o.dvs i).hi) ∧ get l 9 = I ((iB o.dvs i).lo + m) ∧ get l 7 = lv ∧ St prog H H' [⟨ptr A1 0 4, 0, [(.string o.name), o.rv, o.dv, o.cv]⟩, ⟨ptr A2 0 3, 0, [(.int .u16 (b 0)), (.int .u16 (b 1)), (.int .u16 (b 2))]⟩, ⟨kv, 2, ((List.range i).map (a0V o b)).flatMap ntc⟩, ⟨ptr A3 0 2, 0, [I (iB o.dvs i).lo, I (iB o.dvs i).hi]⟩, ⟨lv, 1, (a2f (iB o.dvs i).lo (b (i % 3)) m).flatMap (one I)⟩]) (vC (iB o.dvs i).lo (iB o.dvs i).hi) ?_ ?_
  ·simp (disch := omega) only [RB, RC, simprocAttr, hn, g2, g3, g4, g6, g5]
   exact ⟨0, .slice none 0 0, by omega, by simp, rfl, hS7⟩
  rintro n l H6 ⟨hn, g2, g3, g4, g5, g6, g8, m, lv, hm, g9, g7, hS8⟩
  simp (disch := omega) only [↓RA, RZ, simprocAttr, hn, g8, g9, hS8.ld 3 rfl]
  have hM := b8N (iB o.dvs i).lo (iB o.dvs i).hi
  have hi3 : (i : Int).tmod 3 = ((i % 3 : Nat) : Int) := (dU i 3).symm
  have hw : ([Value.int .u16 (b 0), .int .u16 (b 1), .int .u16 (b 2)] : List Value)[i % 3]? = some (.int .u16 (b (i % 3))) := by
   have : i % 3 = 0 ∨ i % 3 = 1 ∨ i % 3 = 2 := by omega
   rcases this with e | e | e <;> rw [e] <;> rfl
  have hsub : (iB o.dvs i).lo + (m : Int) - (iB o.dvs i).lo = (m : Int) := by omega
  have e1 := c2o (b (i % 3)) m (hb _)
  have e2 := b9W (b (i % 3) >>> m) (b5d m (hb _))
  have e3 := tb (b (i % 3)) m
  have hsu := b3h (iB o.dvs i).lo (b (i % 3)) m
  have hpl := b4V (iB o.dvs i).lo (b (i % 3)) m
  refine jP (fun q1 => ?_) (fun q1 => ?_)
  ·simp (disch := omega) only [↓RA, RZ, simprocAttr, hn, g8, g9, hS8.ld 3 rfl, q1]
   refine iA (fun q2 => ?_) (fun q2 => ?_)
   ·skip
    simp (disch := omega) only [↓RA, RC, simprocAttr, q1, q2]
    refine Wp.drw jV (by kernel_rfl) ?_
    simp (disch := omega) only [↓RA, RZ, simprocAttr, hn, g3, g6, g8, g9, hS8.ld 1 rfl, hw, hS8.ld 3 rfl, hi3, hsub, e1, e2]
    refine iA (fun q3 => ?_) (fun q3 => ?_)
    ·rw [e3, decide_eq_true (by omega), if_pos rfl] at hsu
     simp (disch := omega) only [↓RA, RZ, simprocAttr, hn, g9, g7, q3]
     refine hS8.ag [I ((iB o.dvs i).lo + m)] a1A a6c rfl rfl (by simp [Value.cells]) rfl rfl (by decide) (by decide) fun w1 H7 hS9 => ?_
     simp only [RT] at hS9
     simp (disch := omega) only [↓RA, RZ, simprocAttr, hn, q3]
     refine hS9.ar 4 rfl (hS9.rd 5 rfl) a1A (by rw [iG (n := 1) (cel := one I) (fun _ => rfl)]; simp; omega) fun w2 H8 hS10 => ?_
     simp only [RT] at hS10
     simp (disch := omega) only [↓RA, RZ, simprocAttr, hn, g2, g3, g4, g5, g6, g8, g9, q3]
     refine ⟨n - 1, by unfold vC at hm; omega, m + 1, w2, by unfold vC at hm ⊢; omega, by simp; omega, rfl, ?_⟩
     rw [hsu, dM]
     exact hS10.pick [0, 1, 2, 3, 4] (by decide) rfl
    rw [e3, decide_eq_false (by omega), if_neg (by simp), dG] at hsu
    simp (disch := omega) only [↓RA, RZ, simprocAttr, hn, g2, g3, g4, g5, g6, g8, g9, g7, q3]
    refine ⟨n - 1, by unfold vC at hm; omega, m + 1, lv, by unfold vC at hm ⊢; omega, by simp; omega, rfl, ?_⟩
    rw [hsu]
    exact hS8.pick [0, 1, 2, 3, 4] (by decide) rfl
   have hmM : m = vC (iB o.dvs i).lo (iB o.dvs i).hi := by unfold vC at hm hM ⊢; omega
   have hz := a1W hf (b (i % 3)) (show i < o.dvs.length by omega)
   subst hmM
   simp (disch := omega) only [↓RA, RZ, simprocAttr, hn, g7, q1, q2]
   refine hS8.cF (wL (a2f (iB o.dvs i).lo (b (i % 3)) (vC (iB o.dvs i).lo (iB o.dvs i).hi)) (fun z h => (hz z h).1) lv (hS8.aw 4 rfl (lP _)) (by omega)) fun H9 hS11 => ?_
   simp (disch := omega) only [↓RA, RZ, simprocAttr, hn, q1, q2]
   refine hS11.eNew 2 [(.int .u64 0), (.int .u64 0)] rfl rfl rfl nQ fun A4 H10 hS12 => ?_
   simp only [RT] at hS12
   simp (disch := omega) only [↓RA, RZ, simprocAttr, hn, q1, q2]
   refine hS12.ab 5 rfl [(.int .u64 (a0V o b i).1), (.int .u64 (a0V o b i).2)] rfl rfl nQ (by simp) fun H11 hS13 => ?_
   simp only [RT] at hS13
   simp (disch := omega) only [↓RA, RZ, simprocAttr, hn, g5, hS13.ai 5 rfl, q1, q2]
   refine hS13.ag [(.int .u64 (a0V o b i).1), (.int .u64 (a0V o b i).2)] b5r c1u rfl rfl (by simp [Value.cells]) rfl rfl (by decide) (by decide) fun w3 H12 hS14 => ?_
   simp only [RT] at hS14
   simp (disch := omega) only [↓RA, RZ, simprocAttr, hn, q1, q2]
   refine hS14.ar 2 rfl (hS14.rd 6 rfl) b5r (by rw [iG (n := 2) (cel := ntc) (fun _ => rfl)]; simp; omega) fun w4 H13 hS15 => ?_
   simp only [RT] at hS15
   simp (disch := omega) only [↓RA, RZ, simprocAttr, hn, g2, g3, g4, g6, q1, q2]
   refine ⟨o.dvs.length - (i + 1), by omega, i + 1, w4, by omega, by simp, rfl, ?_⟩
   rw [eO, dZ, dM]
   exact hS15.pick [0, 1, 2] (by decide) rfl
  have hmM : m = vC (iB o.dvs i).lo (iB o.dvs i).hi := by unfold vC at hm hM ⊢; omega
  have hz := a1W hf (b (i % 3)) (show i < o.dvs.length by omega)
  subst hmM
  simp (disch := omega) only [↓RA, RZ, simprocAttr, hn, g7, q1]
  refine hS8.cF (wL (a2f (iB o.dvs i).lo (b (i % 3)) (vC (iB o.dvs i).lo (iB o.dvs i).hi)) (fun z h => (hz z h).1) lv (hS8.aw 4 rfl (lP _)) (by omega)) fun H14 hS16 => ?_
  simp (disch := omega) only [↓RA, RZ, simprocAttr, hn, q1]
  refine hS16.eNew 2 [(.int .u64 0), (.int .u64 0)] rfl rfl rfl nQ fun A5 H15 hS17 => ?_
  simp only [RT] at hS17
  simp (disch := omega) only [↓RA, RZ, simprocAttr, hn, q1]
  refine hS17.ab 5 rfl [(.int .u64 (a0V o b i).1), (.int .u64 (a0V o b i).2)] rfl rfl nQ (by simp) fun H16 hS18 => ?_
  simp only [RT] at hS18
  simp (disch := omega) only [↓RA, RZ, simprocAttr, hn, g5, hS18.ai 5 rfl, q1]
  refine hS18.ag [(.int .u64 (a0V o b i).1), (.int .u64 (a0V o b i).2)] b5r c1u rfl rfl (by simp [Value.cells]) rfl rfl (by decide) (by decide) fun w5 H17 hS19 => ?_
  simp only [RT] at hS19
  simp (disch := omega) only [↓RA, RZ, simprocAttr, hn, q1]
  refine hS19.ar 2 rfl (hS19.rd 6 rfl) b5r (by rw [iG (n := 2) (cel := ntc) (fun _ => rfl)]; simp; omega) fun w6 H18 hS20 => ?_
  simp only [RT] at hS20
  simp (disch := omega) only [↓RA, RZ, simprocAttr, hn, g2, g3, g4, g6, q1]
  refine ⟨o.dvs.length - (i + 1), by omega, i + 1, w6, by omega, by simp, rfl, ?_⟩
  rw [eO, dZ, dM]
  exact hS20.pick [0, 1, 2] (by decide) rfl
 simp (disch := omega) only [↓RA, RZ, simprocAttr, hn, g5, c6w, q]
 have hii : i = o.dvs.length := by omega
 subst hii
 exact hS4.pick [2] (by decide) rfl
theorem a4S (o : Org) (b : Nat → Nat) : (rL o b).length = o.dvs.length := by simp [rL]
theorem b8e {o : Org} (hf : o.Fine) (b : Nat → Nat) {i : Nat} (hi : i < o.dvs.length) : Nt.Ok (a0V o b i) := uW _ _ (fun z h => (a1W hf (b (i % 3)) hi z h).1) ⟨by decide, by decide⟩
theorem a6m {o : Org} (hf : o.Fine) (b : Nat → Nat) : ∀ x ∈ rL o b, Nt.Ok x := by
 intro x hx
 obtain ⟨i, hi, rfl⟩ := dK.1 hx
 exact b8e hf b (dH.1 hi)
end Go.Ds
namespace Go.Ds
open Go.Proofs
set_option maxRecDepth 10000
theorem Star.mono {α : Type} {R R' : α → α → Prop} (h : ∀ a b, R a b → R' a b) {a b : α} (hs : Star R a b) : Star R' a b := by
 induction hs with
 | refl => exact .refl _
 | tail _ h2 ih => exact .tail ih (h _ _ h2)
end Go.Ds
namespace Go.Ds
open Go.Proofs Go.Shelf Go.RowKit Go.Lib Go.Sort
def sm (x : Int × Int) : Prop := -1000000000 ≤ x.1 ∧ x.1 ≤ 1000000000 ∧ -1000000000 ≤ x.2 ∧ x.2 ≤ 1000000000
abbrev Sm := {x : Int × Int // sm x}
instance : Inhabited Sm := ⟨⟨(0, 0), by unfold sm; decide⟩⟩
section
variable {H : Heap}
end
end Go.Ds
namespace Go.Ds
open Go.Proofs
variable {H : Heap}
set_option maxRecDepth 10000
set_option maxHeartbeats 1000000
end Go.Ds
namespace Go.Ds
open Go.Proofs Go.Shelf Go.RowKit Go.Lib Go.Sort
section
variable {H : Heap}
end
end Go.Ds
namespace Go.Ds
open Go.Proofs
variable {H : Heap}
set_option maxRecDepth 10000
set_option maxHeartbeats 1000000
end Go.Ds
namespace Go.Ds
open Go.Proofs Go.Proofs.Tryz
variable {H : Heap}
set_option maxRecDepth 10000
set_option maxHeartbeats 1000000
theorem b7b {x y : Int × Int} : cf2 x y < 0 ↔ ltP x y := by
 unfold cf2 ltP
 split
 ·omega
 ·split
  ·omega
  ·split
   ·omega
   ·split <;> omega
theorem b6z {x y : Int × Int} : cf2 x y = 0 ↔ x = y := by
 unfold cf2
 constructor
 ·intro h
  split at h
  ·omega
  ·split at h
   ·omega
   ·split at h
    ·omega
    ·split at h
     ·omega
     ·exact gz (by omega) (by omega)
 ·rintro rfl
  rw [if_neg (by omega), if_neg (by omega), if_neg (by omega), if_neg (by omega)]
theorem a5t {xs : List Ct} (hs : xs.Pairwise ltP) {i j : Nat} (h : i < j) (hj : j < xs.length) : ltP (iB xs i) (iB xs j) := by
 rw [kF _ _ (by omega), kF _ _ hj]
 exact eF.1 hs i j (by omega) hj h
theorem c2H (v : Value) (xs : List Ct) (hv : Sl 2 kA H v xs) (hl : xs.length < 1000000000) (hs : xs.Pairwise ltP) (t : Ct) :
 Fn prog 102 [v, .agg #[I t.1, I t.2], .func (.func 103) #[] #[]] H fun r H' => ∃ k : Nat, r = .tuple #[I k, .bool (decide (t ∈ xs))] ∧ St prog H H' [] := by
 refine .bl func102 rfl (by kernel_rfl) (m := 49) rfl fun l hn g0 g1 g2 => ?_
 simp (disch := omega) only [↓RA, RB, simprocAttr, g1]
 refine (sR H).eNew 2 [I t.1, I t.2] rfl rfl rfl rO fun A1 H1 hS1 => ?_
 simp only [RT] at hS1
 simp (disch := omega) only [↓RA, RZ, simprocAttr, hn, g0, (hS1.sl hv).len]
 refine Wp.al (fun n l H' => l.length = 49 ∧ get l 0 = v ∧ get l 2 = (.func (.func 103) #[] #[]) ∧ get l 4 = (ptr A1 0 2) ∧ get l 6 = I 0 ∧ get l 7 = (.bool false) ∧ get l 8 = I xs.length ∧ ∃ (i : Nat) (j : Nat), (n + i = j ∧ j ≤ xs.length ∧ (∀ q, q < i → ltP (iB xs q) t) ∧ ∀ q, j ≤ q → q < xs.length → ¬ ltP (iB xs q) t) ∧ get l 9 = I i ∧ get l 10 = I j ∧ St prog H H' [⟨ptr A1 0 2, 0, [I t.1, I t.2]⟩]) xs.length ?_ ?_
 ·simp (disch := omega) only [RB, RC, simprocAttr, hn, g0, g2]
  exact ⟨0, xs.length, ⟨by omega, by omega, fun q hq => absurd hq (dS _), fun q h1 h2 => absurd h2 (by omega)⟩, rfl, rfl, hS1⟩
 rintro n l H2 ⟨hn, g0, g2, g4, g6, g7, g8, i, j, ⟨h1,h2,h3,h4⟩, g9, mB, hS2⟩
 simp (disch := omega) only [↓RA, RB, simprocAttr, hn, g9, mB]
 refine iA (fun q1 => ?_) (fun q1 => ?_)
 ·obtain ⟨m, hm⟩ : ∃ m : Nat, (i + j) / 2 = m := ⟨_, rfl⟩
  have e1 : ((i : Int) + j).fdiv (2 ^ min 1 (IntKind.bits .u64)) = ((m : Nat) : Int) := by
   have h := a7w (i + j) 1 (by omega)
   rw [eU] at h
   rw [← hm]
   exact h
  simp (disch := omega) only [↓RA, RZ, simprocAttr, hn, g9, mB, q1, e1]
  refine Wp.drw jV (by kernel_rfl) ?_
  simp (disch := omega) only [↓RA, RZ, simprocAttr, hn, g0, g2]
  simp (disch := omega) only [↓RA, RZ, simprocAttr, hn, g4, (hS2.sl hv).idx, (hS2.sl hv).ai, kA, hS2.ai 0 rfl]
  refine hS2.cF (a4T (iB xs m) t) fun H3 hS3 => ?_
  simp (disch := omega) only [↓RA, RB, simprocAttr, hn]
  refine iA (fun q2 => ?_) (fun q2 => ?_)
  ·have hlt := b7b.1 q2
   simp (disch := omega) only [↓RA, RZ, simprocAttr, hn, g0, g2, g4, g6, g7, g8, mB, q2]
   refine ⟨j - (m + 1), by omega, m + 1, j, ⟨by omega, h2, fun q hq => ?_, h4⟩, by simp, rfl, hS3⟩
   by_cases e : q = m
   ·rw [e]; exact hlt
   ·exact a4c (a5t hs (show q < m by omega) (by omega)) hlt
  have hnl : ¬ ltP (iB xs m) t := fun h => q2 (b7b.2 h)
  simp (disch := omega) only [↓RA, RZ, simprocAttr, hn, g0, g2, g4, g6, g7, g8, g9, q2]
  refine ⟨m - i, by omega, i, m, ⟨by omega, by omega, h3, fun q hq hql h => ?_⟩, rfl, by simp, hS3⟩
  by_cases e : q = m
  ·rw [e] at h; exact hnl h
  ·exact hnl (a4c (a5t hs (show m < q by omega) hql) h)
 have hij : i = j := by omega
 have hno : ∀ q, q < xs.length → q ≠ i → iB xs q ≠ t := fun q hq hne e => by
  by_cases hqi : q < i
  ·have := h3 q hqi
   rw [e] at this
   exact b9L this
  ·have h5 := h4 i (by omega) (by omega)
   have h6 := a5t hs (show i < q by omega) hq
   rw [e] at h6
   exact h5 h6
 simp (disch := omega) only [↓RA, RC, simprocAttr, q1]
 refine Wp.drw jV (by kernel_rfl) ?_
 simp (disch := omega) only [↓RA, RZ, simprocAttr, hn, g8, g9]
 refine jP (fun q3 => ?_) (fun q3 => ?_)
 ·simp (disch := omega) only [↓RA, RZ, simprocAttr, hn, g0, g2, g4, g9, (hS2.sl hv).idx, (hS2.sl hv).ai, kA, hS2.ai 0 rfl, q3]
  refine hS2.cF (a4T (iB xs i) t) fun H4 hS4 => ?_
  simp (disch := omega) only [↓RA, RZ, simprocAttr, hn, c0r, q3]
  have he : decide (cf2 (iB xs i) t = 0) = decide (t ∈ xs) := by
   rw [decide_eq_decide, b6z]
   constructor
   ·intro e
    rw [← e]
    exact iD (by omega)
   ·intro hm
    obtain ⟨q, hq, e⟩ := dW.1 hm
    rw [← kF _ _ hq] at e
    by_cases hqi : q = i
    ·rw [hqi] at e; exact e
    ·exact absurd e (hno q hq hqi)
  exact ⟨i, by rw [← he], hS4.forget⟩
 have hf : decide (t ∈ xs) = false := by
  rw [decide_eq_false_iff_not]
  intro hm
  obtain ⟨q, hq, e⟩ := dW.1 hm
  rw [← kF _ _ hq] at e
  exact hno q hq (by omega) e
 simp (disch := omega) only [↓RA, RZ, simprocAttr, hn, c0r, q3]
 exact ⟨i, by rw [hf], hS2.forget⟩
def a0A (xs ys : List Ct) : List Ct := xs.filter fun c => !decide (c ∈ ys)
theorem b7n (xs ys : List Ct) : (a0A xs ys).length ≤ xs.length := ey _ _
theorem a9m (xs ys : List Ct) (i : Nat) (h : i < xs.length) : a0A (xs.take (i + 1)) ys = a0A (xs.take i) ys ++ (if iB xs i ∈ ys then [] else [iB xs i]) := by
 unfold a0A
 rw [mF xs i h, fb]
 congr 1
 by_cases e : iB xs i ∈ ys <;> simp [e]
theorem a0J (v w : Value) (xs ys : List Ct) (hv : Sl 2 kA H v xs) (hw : Sl 2 kA H w ys) (hl : xs.length < 100000000) (hl2 : ys.length < 100000000) (hs : ys.Pairwise ltP) :
 Fn prog 54 [v, w] H fun r H' => St prog H H' [⟨r, 2, pr (a0A xs ys)⟩] := by
 refine .aM func54 rfl (by kernel_rfl) (m := 30) rfl fun l hn g0 g1 => ?_
 simp (disch := omega) only [↓RA, RZ, simprocAttr, hn, g0, ((sR H).sl hv).len]
 have hS1 := (sR H).nil 1
 simp only [RT] at hS1
 refine Wp.al (fun n l H' => l.length = 30 ∧ get l 1 = w ∧ get l 4 = (.slice none 0 0) ∧ get l 10 = v ∧ get l 11 = I xs.length ∧ ∃ (i : Nat) (ov : Value), (n + i = xs.length) ∧ get l 12 = I i ∧ get l 5 = ov ∧ St prog H H' [⟨ov, 2, pr (a0A (xs.take i) ys)⟩]) xs.length ?_ ?_
 ·simp (disch := omega) only [RB, RC, simprocAttr, hn, g1]
  exact ⟨0, .slice none 0 0, by omega, rfl, rfl, hS1⟩
 rintro n l H1 ⟨hn, g1, g4, mB, g11, i, ov, hi, g12, g5, hS2⟩
 simp (disch := omega) only [↓RA, RB, simprocAttr, hn, g11, g12]
 refine iA (fun q1 => ?_) (fun q1 => ?_)
 ·have hsu := a9m xs ys i (by omega)
  have hle := b7n (xs.take i) ys
  have htl := List.length_take_le i xs
  simp (disch := omega) only [↓RA, RZ, simprocAttr, hn, mB, g12, (hS2.sl hv).idx, (hS2.sl hv).ai, kA, q1]
  refine hS2.eNew 2 [I 0, I 0] rfl rfl rfl rO fun A1 H2 hS3 => ?_
  simp only [RT] at hS3
  simp (disch := omega) only [↓RA, RZ, simprocAttr, hn, q1]
  refine hS3.ab 1 rfl [I (iB xs i).1, I (iB xs i).2] rfl rfl rO (by simp) fun H3 hS4 => ?_
  simp only [RT] at hS4
  simp (disch := omega) only [↓RA, RZ, simprocAttr, hn, g1, hS4.ai 1 rfl, q1]
  refine iF (c2H w ys (hS4.sl hw) (by omega) hs (iB xs i)) ?_
  rintro r H4 ⟨k, rfl, hT1⟩
  have hS5 := hS4.trans hT1
  simp only [RT] at hS5
  simp (disch := omega) only [↓RA, RZ, simprocAttr, hn, q1]
  refine jM (fun q2 => ?_) (fun q2 => ?_)
  ·have hni : ¬ iB xs i ∈ ys := by simpa using q2
   rw [if_neg hni] at hsu
   simp (disch := omega) only [↓RA, RZ, simprocAttr, hn, g5, hS5.ai 1 rfl, q1, q2]
   refine hS5.ag [I (iB xs i).1, I (iB xs i).2] b3y c1G rfl rfl (by simp [Value.cells]) rfl rfl (by decide) (by decide) fun w1 H5 hS6 => ?_
   simp only [RT] at hS6
   simp (disch := omega) only [↓RA, RZ, simprocAttr, hn, q1, q2]
   refine hS6.ar 0 rfl (hS6.rd 2 rfl) b3y (by rw [iK]; simp only [dz, dC]; omega) fun w2 H6 hS7 => ?_
   simp only [RT] at hS7
   simp (disch := omega) only [↓RA, RZ, simprocAttr, hn, g1, g4, mB, g11, g12, q1, q2]
   refine ⟨n - 1, by omega, i + 1, w2, by omega, by simp, rfl, ?_⟩
   rw [hsu, kG]
   exact hS7.pick [0] (by decide) rfl
  have hni : iB xs i ∈ ys := by simpa using q2
  rw [if_pos hni, dG] at hsu
  simp (disch := omega) only [↓RA, RZ, simprocAttr, hn, g1, g4, mB, g11, g12, g5, q1, q2]
  refine ⟨n - 1, by omega, i + 1, ov, by omega, by simp, rfl, ?_⟩
  rw [hsu]
  exact hS5.pick [0] (by decide) rfl
 simp (disch := omega) only [↓RA, RZ, simprocAttr, hn, g5, c6c, q1]
 have hii : i = xs.length := by omega
 rw [hii, eJ] at hS2
 exact hS2
theorem b1R {o : Org} {l : List (Value × Reg)} {ks : List Nt} (h : yR o l ks = 0) : organE o = 0 ∧ (∀ p ∈ l, mZ o p.2 = 0) ∧ qQ o ks = 0 := by
 unfold yR at h
 split at h
 ·rename_i hh; exact absurd h hh
 rename_i h1
 have h1 := dD.1 h1
 unfold oE at h1
 split at h1
 ·rename_i hh; exact absurd h1 hh
 rename_i h2
 refine ⟨dD.1 h2, fun p hp => ?_, h⟩
 obtain ⟨j, hj, rfl⟩ := dW.1 hp
 have := rW h1 j hj
 rw [kF _ _ hj] at this
 exact this
def a7f (o : Org) (e : Int) (rg sg : Reg) (ks : List Nt) : List Ct := if e = 0 then a0A (kU o rg (kI ks)) (kU o sg (kI ks)) else []
theorem b1h (hG : Glob gH H) (o : Org) (ho : o.In H) (rg : Reg) (sv : Value) (hr : rg.In H sv) (sg : Reg) (tv : Value) (hs : sg.In H tv) (kv : Value) (ks : List Nt) (hk : Ks H kv ks) :
 Fn prog 16 [.agg #[.string o.name, o.rv, o.dv, o.cv], .agg #[sv, .int .u64 rg.cpl, .int .u64 rg.off], .agg #[tv, .int .u64 sg.cpl, .int .u64 sg.off], kv] H fun r H' =>
  ∃ gv cv, r = .tuple #[gv, cv, I (yR o [(sv, rg), (tv, sg)] ks)] ∧ Slx 2 kA H' (fun B => H.length ≤ B) gv (a7f o (yR o [(sv, rg), (tv, sg)] ks) rg sg ks) ∧ Slx 2 kA H' (fun B => H.length ≤ B) cv (a7f o (yR o [(sv, rg), (tv, sg)] ks) sg rg ks) ∧ St prog H H' [] := by
 have hnil : ∀ {H' : Heap}, Slx 2 kA H' (fun B => H.length ≤ B) (.slice none 0 0) ([] : List Ct) := fun {H'} => ⟨⟨.inl ⟨rfl, rfl⟩, jU, by decide⟩, fun b h => by simp [kK] at h⟩
 refine .cI func16 rfl (by kernel_rfl) (m := 39) rfl fun l hn g0 g1 g2 g3 => ?_
 simp (disch := omega) only [↓RA, RB, simprocAttr, g0]
 refine (sR H).eNew 4 [(.string o.name), o.rv, o.dv, o.cv] rfl rfl (by simp [OC, ((sR H).sl ho.1).cells.2.1, ((sR H).sl ho.2.2.1).cells.2.1, ((sR H).sl ho.2.2.2.2.1).cells.2.1]) mD fun A1 H1 hS1 => ?_
 simp only [RT] at hS1
 simp (disch := omega) only [↓RA, RB, simprocAttr, g1]
 refine hS1.eNew 3 [sv, (.int .u64 rg.cpl), (.int .u64 rg.off)] rfl rfl (by simp [OC, (hS1.sl hr.1).cells.2.1]) pG fun A2 H2 hS2 => ?_
 simp only [RT] at hS2
 simp (disch := omega) only [↓RA, RB, simprocAttr, g2]
 refine hS2.eNew 3 [tv, (.int .u64 sg.cpl), (.int .u64 sg.off)] rfl rfl (by simp [OC, (hS2.sl hs.1).cells.2.1]) pG fun A3 H3 hS3 => ?_
 simp only [RT] at hS3
 simp (disch := omega) only [↓RA, RZ, simprocAttr, hn, hS3.ai 0 rfl, hS3.ai 1 rfl, hS3.ai 2 rfl]
 refine hS3.ag [sv, (.int .u64 rg.cpl), (.int .u64 rg.off), tv, (.int .u64 sg.cpl), (.int .u64 sg.off)] a7o a6U rfl rfl (by first | (simp []; done) | simp [Value.cells]) (by first | (simp []; done) | simp [Value.cells]) (by simp [OC, (hS3.sl hr.1).cells.2.1, (hS3.sl hs.1).cells.2.1]) (by decide) (by decide) fun w1 H4 hS4 => ?_
 simp only [RT] at hS4
 simp (disch := omega) only [↓RA, RZ, simprocAttr, hn, g3]
 refine hS4.cF (a4W o (ho.ae hS4) w1 [(sv, rg), (tv, sg)] (hS4.aw 3 rfl (fun _ => rfl)) (by simp) (by intro p hp; simp only [eo, eK, or_false] at hp; rcases hp with rfl | rfl; (· exact hr.ae hS4); (· exact hs.ae hS4)) kv ks (hk.ae hS4)) fun H5 hS5 => ?_
 simp (disch := omega) only [↓RA, RB, simprocAttr, hn]
 refine iA (fun h1 => ?_) (fun h1 => ?_)
 ·have hd : ∀ a b, a7f o (yR o [(sv, rg), (tv, sg)] ks) a b ks = [] := fun a b => by unfold a7f; rw [if_neg h1]
  simp (disch := omega) only [↓RA, RZ, simprocAttr, hn, c3c, h1]
  rw [hd, hd]
  exact ⟨.slice none 0 0, .slice none 0 0, rfl, hnil, hnil, hS5.forget⟩
 have h0 := dD.1 h1
 obtain ⟨hz1, hz2, hz3⟩ := b1R h0
 have hzr := hz2 (sv, rg) (by simp)
 have hzs := hz2 (tv, sg) (by simp)
 have hrl := (nJ hzr).2
 have hsl := (nJ hzs).2
 have hf := Org.bm hz1
 have hplc := zA hk.ok hz3
 have hpll := zU hz3
 have h8 : ks.length ≤ 8 := by
  have := hf.dlen
  have := (qO hz3).2.1
  omega
 have hd : ∀ a b, a7f o (yR o [(sv, rg), (tv, sg)] ks) a b ks = a0A (kU o a (kI ks)) (kU o b (kI ks)) := fun a b => by unfold a7f; rw [if_pos h0]
 rw [hd, hd, h0]
 simp (disch := omega) only [↓RA, RC, simprocAttr]
 refine Wp.aQ jV [(0, 4), (1, 4), (5, 0), (5, 4), (5, 9), (6, 0), (6, 4), (6, 9)] (by kernel_rfl) (by kernel_rfl) ?_
 simp (disch := omega) only [↓RA, RZ, simprocAttr, hn, g3, hS5.ai 0 rfl, hS5.ai 1 rfl]
 refine iF ((uT (hS5.gl hG) kv ks (hk.ae hS5) h8).tr) ?_
 rintro r H6 ⟨-, hT2⟩
 have hS6 := hS5.trans hT2
 simp only [RT] at hS6
 obtain ⟨pv, rfl⟩ : ∃ w, w = r := ⟨r, rfl⟩
 simp (disch := omega) only [↓RA, RZ, simprocAttr, hn]
 have hS1 := hS6
 refine iF (uA o (ho.ae hS6) hf rg sv (hr.ae hS6) hrl pv (kI ks) (hS6.aw 4 rfl jU) hpll hplc) ?_
 rintro r H7 ⟨hx, hT3⟩
 have hS7 := hS6.trans hT3
 simp only [RT] at hS7
 obtain ⟨av, rfl⟩ : ∃ w, w = r := ⟨r, rfl⟩
 have hx2 := hx.step (hS1.aI (H' := H7))
 obtain ⟨X, hBX, hS8⟩ := hS7.aB (os := [⟨ptr A1 0 4, 0, _⟩, ⟨ptr A2 0 3, 0, _⟩, ⟨ptr A3 0 3, 0, _⟩, ⟨w1, 3, _⟩, ⟨pv, 2, _⟩])
 simp (disch := omega) only [↓RA, RZ, simprocAttr, hn, g3, hS8.ai 0 rfl, hS8.ai 2 rfl]
 refine iF ((uT ((hS7.aj hBX hS8).gl hG) kv ks (hk.ae (hS7.aj hBX hS8)) h8).tr) ?_
 rintro r H8 ⟨-, hT4⟩
 have hS9 := hS8.trans hT4
 simp only [RT] at hS9
 obtain ⟨pw, rfl⟩ : ∃ w, w = r := ⟨r, rfl⟩
 simp (disch := omega) only [↓RA, RZ, simprocAttr, hn]
 have hS2 := hS9
 refine iF (uA o (ho.ae (hS7.aj hBX hS9)) hf sg tv (hs.ae (hS7.aj hBX hS9)) hsl pw (kI ks) (hS9.aw 5 rfl jU) hpll hplc) ?_
 rintro r H9 ⟨hy, hT5⟩
 have hS10 := hS9.trans hT5
 simp only [RT] at hS10
 obtain ⟨bv, rfl⟩ : ∃ w, w = r := ⟨r, rfl⟩
 have hx3 := hx2.step (hS10.kept hBX)
 have hy2 := hy.step (hS2.aI (H' := H9))
 obtain ⟨Y, hBY, hS11⟩ := hS10.aB (os := [⟨ptr A1 0 4, 0, _⟩, ⟨ptr A2 0 3, 0, _⟩, ⟨ptr A3 0 3, 0, _⟩, ⟨w1, 3, _⟩, ⟨pv, 2, _⟩, ⟨pw, 2, _⟩])
 have hla := a3I hf rg hpll (wS hplc)
 have hlb := a3I hf sg hpll (wS hplc)
 have hsa := a0c o rg (kI ks)
 have hsb := a0c o sg (kI ks)
 have hx4 := hx3.step (hS11.kept hBY)
 have hy3 := hy2.step (hS11.kept hBY)
 simp (disch := omega) only [↓RA, RZ, simprocAttr, hn, hS6.ai 0 rfl, hS6.ai 1 rfl, hS5.ai 0 rfl, hS9.ai 0 rfl, hS5.ai 2 rfl, hS6.ai 2 rfl, hS9.ai 2 rfl]
 refine iF ((a0J av bv (kU o rg (kI ks)) (kU o sg (kI ks)) hx4.1 hy3.1 (by omega) (by omega) hsb).tr) ?_
 rintro r H10 ⟨-, hT6⟩
 have hS12 := hS11.trans hT6
 simp only [RT] at hS12
 obtain ⟨gv, rfl⟩ : ∃ w, w = r := ⟨r, rfl⟩
 have hx5 := hx3.step (hS12.kept hBY)
 have hy4 := hy2.step (hS12.kept hBY)
 simp (disch := omega) only [↓RA, RZ, simprocAttr, hn]
 refine iF ((a0J bv av (kU o sg (kI ks)) (kU o rg (kI ks)) hy4.1 hx5.1 (by omega) (by omega) hsa).tr) ?_
 rintro r H11 ⟨-, hT7⟩
 have hS13 := hS12.trans hT7
 simp only [RT] at hS13
 obtain ⟨cv, rfl⟩ : ∃ w, w = r := ⟨r, rfl⟩
 have hnt1 := (hS13.aw (cel := kA) 6 rfl jU).aZ
 have hnt2 := (hS13.aw (cel := kA) 7 rfl jU).aZ
 simp (disch := omega) only [↓RA, RZ, simprocAttr, hn, c3c, hnt1, hnt2]
 exact ⟨gv, cv, rfl, (hS7.aj hBX (hS10.aj hBY hS13)).bQ 6 rfl jU, (hS7.aj hBX (hS10.aj hBY hS13)).bQ 7 rfl jU, (hS7.aj hBX (hS10.aj hBY hS13)).forget⟩
end Go.Ds
namespace Go.Ds
open Go.Proofs
variable {H : Heap}
set_option maxRecDepth 10000
set_option maxHeartbeats 1000000
end Go.Ds
namespace Go.Ds
open Go.Proofs Go.Proofs.Tryz
variable {H : Heap}
set_option maxRecDepth 10000
set_option maxHeartbeats 1000000
def a9j (o : Org) (rg : Reg) (c : Ct) : List Ct := if xA o rg c = 0 then wV o rg [c] else []
theorem b3P (o : Org) (ho : o.In H) (rg : Reg) (sv : Value) (hr : rg.In H sv) (c : Ct) :
 Fn prog 24 [.agg #[.string o.name, o.rv, o.dv, o.cv], .agg #[sv, .int .u64 rg.cpl, .int .u64 rg.off], .agg #[I c.1, I c.2]] H fun r H' => ∃ pv, r = .tuple #[pv, I (xA o rg c)] ∧ Slx 2 kA H' (fun B => H.length ≤ B) pv (a9j o rg c) ∧ St prog H H' [] := by
 refine .bl func24 rfl (by kernel_rfl) (m := 21) rfl fun l hn g0 g1 g2 => ?_
 simp (disch := omega) only [↓RA, RB, simprocAttr, g0]
 refine (sR H).eNew 4 [(.string o.name), o.rv, o.dv, o.cv] rfl rfl (by simp [OC, ((sR H).sl ho.1).cells.2.1, ((sR H).sl ho.2.2.1).cells.2.1, ((sR H).sl ho.2.2.2.2.1).cells.2.1]) mD fun A1 H1 hS1 => ?_
 simp only [RT] at hS1
 simp (disch := omega) only [↓RA, RB, simprocAttr, g1]
 refine hS1.eNew 3 [sv, (.int .u64 rg.cpl), (.int .u64 rg.off)] rfl rfl (by simp [OC, (hS1.sl hr.1).cells.2.1]) pG fun A2 H2 hS2 => ?_
 simp only [RT] at hS2
 simp (disch := omega) only [↓RA, RB, simprocAttr, g2]
 refine hS2.eNew 2 [I c.1, I c.2] rfl rfl rfl rC fun A3 H3 hS3 => ?_
 simp only [RT] at hS3
 simp (disch := omega) only [↓RA, RZ, simprocAttr, hn, hS3.ai 0 rfl, hS3.ai 1 rfl, hS3.ai 2 rfl]
 refine hS3.cF (b5I o (ho.ae hS3) rg sv (hr.ae hS3) c) fun H4 hS4 => ?_
 simp (disch := omega) only [↓RA, RB, simprocAttr, hn]
 refine iA (fun h1 => ?_) (fun h1 => ?_)
 ·simp (disch := omega) only [↓RA, RZ, simprocAttr, hn, c5p, h1]
  exact ⟨.slice none 0 0, rfl, ⟨⟨.inl ⟨rfl, by rw [a9j, if_neg h1]; rfl⟩, jU, by decide⟩, fun b h => by simp [kK] at h⟩, hS4.forget⟩
 have h0 := dD.1 h1
 obtain ⟨hz1, hz2⟩ := a3D h0
 obtain ⟨hz3, hz4⟩ := nJ hz1
 have hf := Org.bm hz3
 simp (disch := omega) only [↓RA, RZ, simprocAttr, hn, hS4.ai 0 rfl, hS4.ai 1 rfl, hS4.ai 2 rfl, h1]
 refine hS4.ag [I c.1, I c.2] a1c a8N rfl rfl (by simp [Value.cells]) rfl rfl (by decide) (by decide) fun w1 H5 hS5 => ?_
 simp only [RT] at hS5
 simp (disch := omega) only [↓RA, RZ, simprocAttr, hn, h1]
 have hSd := hS5
 refine iF (b4G o (ho.ae hS5) hf rg sv (hr.ae hS5) hz4 w1 [c] (hS5.aw 3 rfl jU) (by simp) (fun x hx => by rw [dE.1 hx]; exact hz2)) ?_
 rintro r H6 ⟨hx, hT2⟩
 have hS6 := hS5.trans hT2
 simp only [RT] at hS6
 obtain ⟨qv, rfl⟩ : ∃ w, w = r := ⟨r, rfl⟩
 simp (disch := omega) only [↓RA, RZ, simprocAttr, hn, c5p, h1, hx.1.aZ]
 rw [h0]
 refine ⟨qv, rfl, ⟨?_, fun b h => ?_⟩, hS6.forget⟩
 ·rw [a9j, if_pos h0]
  exact hx.1
 ·have := hx.2 b h
  have : H.length ≤ _ := hSd.len
  omega
end Go.Ds
namespace Go.Ds
open Go.Proofs
variable {H : Heap}
set_option maxRecDepth 10000
set_option maxHeartbeats 1000000
end Go.Ds
namespace Go.Ds
open Go.Proofs Go.Proofs.Tryz
variable {H : Heap}
set_option maxRecDepth 100000
set_option maxHeartbeats 1000000
def b0R (r : Rs) (n : Int) : Bool := match r with
 | .ok (.tuple vs) _ => (match vs.toList with
   | [.int .u64 a, .int .u64 b] => decide (a = 0) && decide (b = n)
   | _ => false)
 | .th (.tuple vs) _ => (match vs.toList with
   | [.int .u64 a, .int .u64 b] => decide (a = 0) && decide (b = n)
   | _ => false)
 | _ => false
theorem c2e : (tC prog [186, 229, 230] .e fun T => [(25 : Int)].all fun n => b0R (mU T (exF prog T 4000) [] (kR 186) [.int .u64 1, .int .u64 n] gH) n) = true := by kernel_rfl
theorem b5Q {T : LT} (hT : TOk prog T) {k : FuncId} {args : List Value} {n : Int} (h : b0R (mU T (exF prog T 4000) [] (kR k) args gH) n = true) : Fn prog k args gH fun r _ => r = .tuple #[.int .u64 0, .int .u64 n] := by
 have hv : ∀ (vs : Array Value), (match vs.toList with
  | [.int .u64 a, .int .u64 b] => decide (a = 0) && decide (b = n)
  | _ => false) = true → Value.tuple vs = .tuple #[.int .u64 0, .int .u64 n] := by
  intro vs h
  split at h
  ·rename_i a b e
   rw [de, decide_eq_true_eq, decide_eq_true_eq] at h
   obtain ⟨rfl, rfl⟩ := h
   congr 1
   exact gN e
  ·cases h
 unfold b0R at h
 split at h
 ·rename_i vs H1 e
  rw [← hv vs h]
  exact lY hT (.inl e)
 ·rename_i vs H1 e
  rw [← hv vs h]
  exact lY hT (.inr e)
 ·cases h
theorem b4s (hG : Glob gH H) : Fn prog 186 [.int .u64 1, .int .u64 25] H fun r H' => r = .tuple #[.int .u64 0, .int .u64 25] ∧ St prog H H' [] := by
 obtain ⟨T, hT, h⟩ := qP (ps := [(25 : Int)]) (f := fun T n => b0R (mU T (exF prog T 4000) [] (kR 186) [.int .u64 1, .int .u64 n] gH) n) c2e
 exact rY (by simp [flat, jC, iY]) rfl (b5Q hT (h 25 (by simp))) hG
theorem qV (c z : Value) : ∀ (m x n : Nat), x + m ≤ n → iX (List.replicate x c ++ List.replicate (n - x) z) x (List.replicate m c) = List.replicate (x + m) c ++ List.replicate (n - (x + m)) z := by
 intro m x n h
 have e : List.replicate (n - x) z = List.replicate m z ++ List.replicate (n - (x + m)) z := by
  rw [List.replicate_append_replicate]; congr 1; omega
 have := mV (List.replicate m c) (List.replicate x c) (List.replicate (n - x) z) (by simp; omega)
 rw [eW] at this
 rw [this, List.replicate_append_replicate]
 congr 1
 simp
 omega
theorem b0D {H : Heap} {v : Value} {cs : List Value} (h : RdAt H v 1 cs) (h0 : cs ≠ []) : mK v 1 0 cs.length = v := by
 rcases h with ⟨rfl, rfl⟩ | ⟨A, i, e, row, ty, rw, lo', ver, n, h1, h2, h3, h4, h5, h6, rfl⟩
 ·exact (h0 rfl).elim
 ·simp [mK, h6]
theorem St.cz {P : Program} {H0 : Base} {os : List Ob} (hS : St P H0 H os) (i : Nat) {v : Value} {cs : List Value} (ho : os[i]? = some ⟨v, 1, cs⟩) {x : Value} {ys : List Value} (hx : RdAt H x 1 ys) (h0 : 0 < cs.length) (hy : 0 < ys.length) {t : TypeId} (ht : iS P t = some 1) {K : Value → Heap → Prop}
 (h : ∀ H1, St P H0 H1 (os.set i ⟨v, 1, iX cs 0 (ys.take (min ys.length cs.length))⟩) → K (.int .i64 ((min ys.length cs.length : Nat) : Int)) H1) : a4r P H t v x K := by
 have e := b0D (hS.rd (size := 0) i ho) (by intro e; simp [e] at h0)
 have := hS.bM i ho hx 0 cs.length (by omega) h0 hy ht h
 rwa [e] at this
theorem b6c (hG : Glob gH H) {c : Int} (v : Value) (hv : Sl 1 (one I) H v [c]) : Fn prog 138 [v, I 25] H fun r H' => St prog H H' [⟨r, 1, List.replicate 25 (I c)⟩] := by
 have h1 : (([c] : List Int).length : Int) = 1 := rfl
 refine .aM func138 rfl (by kernel_rfl) (m := 48) rfl fun l hn g0 g1 => ?_
 simp (disch := omega) only [↓RA, RZ, simprocAttr, hn, g0, g1, ((sR H).sl hv).len]
 refine (sR H).cF (b4s ((sR H).gl hG)) fun H1 hS1 => ?_
 simp (disch := omega) only [↓RA, RZ, simprocAttr, hn]
 refine hS1.cq 25 c6b (by omega) fun w H2 hS2 => ?_
 simp only [RT] at hS2
 simp (disch := omega) only [↓RA, RB, simprocAttr, hn, g0]
 refine hS2.cz 0 rfl (hS2.sl hv).rd (by simp) (by simp [one]) c1R fun H3 hS3 => ?_
 have e1 : min ([c].flatMap (one I)).length (List.replicate 25 (Value.int .i64 0)).length = 1 := by simp [one]
 rw [e1] at hS3 ⊢
 have e2 := qV (I c) (.int .i64 0) 1 0 25 (by omega)
 simp only [List.replicate_zero, fj, Nat.sub_zero, fY] at e2
 have hS4 : St prog H H3 [⟨w, 1, List.replicate 1 (I c) ++ List.replicate (25 - 1) (.int .i64 0)⟩] := by
  rw [← e2]
  exact hS3
 simp (disch := omega) only [↓RA, RB, simprocAttr, hn]
 have e3 : ∀ x : Nat, List.replicate x (I c) ++ List.replicate (25 - x) (.int .i64 0) = (List.replicate x (c : Int) ++ List.replicate (25 - x) 0).flatMap (one I) := fun x => by
  rw [yY, dZ, List.map_replicate, List.map_replicate]
 refine Wp.al (fun n l H' => l.length = 48 ∧ get l 4 = (.slice none 0 0) ∧ ∃ (x : Nat), (n + x = 25 ∧ 1 ≤ x) ∧ get l 8 = I x ∧ get l 7 = w ∧ St prog H H' [⟨w, 1, (List.replicate x (c : Int) ++ List.replicate (25 - x) 0).flatMap (one I)⟩]) 24 ?_ ?_
 ·simp (disch := omega) only [RB, RC, simprocAttr, hn]
  rw [e3] at hS4
  exact ⟨1, ⟨by omega, by omega⟩, rfl, hS4⟩
 rintro n l H2 ⟨hn, g4, x, ⟨hx,hx1⟩, g8, g7, hS2⟩
 have hln : (List.replicate x (c : Int) ++ List.replicate (25 - x) 0).length = 25 := by simp; omega
 simp (disch := omega) only [↓RA, RZ, simprocAttr, hn, g8, g7, (hS2.aw 0 rfl (fun _ => rfl)).len, hln]
 refine iA (fun q1 => ?_) (fun q1 => ?_)
 ·simp (disch := omega) only [↓RA, RC, simprocAttr, q1]
  refine Wp.drw jV (by kernel_rfl) ?_
  simp (disch := omega) only [↓RA, RZ, simprocAttr, hn, g8, g7, (hS2.aw 0 rfl (fun _ => rfl)).aV, (hS2.aw 0 rfl (fun _ => rfl)).aR, hln]
  have hxt : ((25 : Int) - (x : Int)).toNat = 25 - x := by omega
  rw [hxt]
  have hlc : ((List.replicate x (c : Int) ++ List.replicate (25 - x) 0).flatMap (one I)).length = 25 := by rw [yY, ed, hln]
  have hrd := hS2.rd 0 rfl
  have hsub := hrd.sub 0 x (by rw [hlc]; omega) (by intro e; rw [e] at hlc; simp at hlc)
  have e5 : (((List.replicate x (c : Int) ++ List.replicate (25 - x) 0).flatMap (one I)).drop (0 * (0 + 1))).take (x * (0 + 1)) = List.replicate x (I c) := by
   rw [← e3]
   simp []
  rw [e5] at hsub
  refine hS2.bM 0 rfl hsub x (25 - x) (by rw [hlc]; omega) (by omega) (by simp; omega) c1R fun H4 hS5 => ?_
  have e6 : (List.replicate x (I c)).take (min (List.replicate x (I c)).length (25 - x)) = List.replicate (min x (25 - x)) (I c) := by simp
  rw [e6] at hS5
  have e7 : min (List.replicate x (I c)).length (25 - x) = min x (25 - x) := by simp
  rw [e7]
  have e8 := qV (I c) (.int .i64 0) (min x (25 - x)) x 25 (by omega)
  have hS6 : St prog H H4 [⟨w, 1, (List.replicate (x + min x (25 - x)) (c : Int) ++ List.replicate (25 - (x + min x (25 - x))) 0).flatMap (one I)⟩] := by
   rw [← e3, ← e8, e3]
   exact hS5
  simp (disch := omega) only [↓RA, RZ, simprocAttr, hn, g4, g7]
  exact ⟨25 - (x + min x (25 - x)), by omega, x + min x (25 - x), ⟨by omega, by omega⟩, by simp, hS6⟩
 simp (disch := omega) only [↓RA, RZ, simprocAttr, hn, g7, c3y, q1]
 have e : x = 25 := by omega
 subst e
 have hfin : ((List.replicate 25 (c : Int) ++ List.replicate (25 - 25) 0).flatMap (one I)) = List.replicate 25 (I c) := by rw [← e3]; rfl
 have h9 := hS2
 rw [hfin] at h9
 exact h9
end Go.Ds
namespace Go.Ds
open Go.Proofs
variable {H : Heap}
set_option maxRecDepth 10000
set_option maxHeartbeats 1000000
section
variable (w1 w2 w3 w4 w5 w6 w7 : Value)
def a9R (x : Int × Int) : List (Int × Int) → List (Int × Int)
 | [] => [x]
 | y :: l => if le2 x y then x :: y :: l else y :: a9R x l
def a9N : List (Int × Int) → List (Int × Int)
 | [] => []
 | x :: l => a9R x (a9N l)
theorem zI (x : Int × Int) : ∀ l, (a9R x l).Perm (x :: l)
 | [] => .refl _
 | y :: l => by
   unfold a9R
   split
   ·exact .refl _
   ·exact ((zI x l).cons y).trans (.swap ..)
theorem a3y : ∀ l, (a9N l).Perm l
 | [] => .refl _
 | x :: l => (zI x _).trans ((a3y l).cons x)
theorem b3E (x y : Int × Int) : le2 x y = false → le2 y x = true := by
 intro h
 rw [← ek] at h
 rw [oJ] at h ⊢
 omega
theorem a0I (x : Int × Int) : ∀ l : List (Int × Int), l.Pairwise (fun a b => le2 a b = true) → (a9R x l).Pairwise fun a b => le2 a b = true
 | [], _ => by simp [a9R]
 | y :: l, h => by
   have h1 := List.pairwise_cons.1 h
   unfold a9R
   split
   ·rename_i hxy
    refine List.pairwise_cons.2 ⟨fun z hz => ?_, h⟩
    rcases eo.1 hz with rfl | hz
    ·exact hxy
    ·have h2 := h1.1 z hz
     rw [oJ] at *
     omega
   ·rename_i hxy
    refine List.pairwise_cons.2 ⟨fun z hz => ?_, a0I x l h1.2⟩
    rcases eo.1 ((zI x l).mem_iff.1 hz) with rfl | hz
    ·exact b3E _ _ (by simpa using hxy)
    ·exact h1.1 z hz
theorem a0T : ∀ l : List (Int × Int), (a9N l).Pairwise fun a b => le2 a b = true
 | [] => .nil
 | x :: l => a0I x _ (a0T l)
theorem b4R : uV = a9N := by
 funext l
 refine List.Perm.eq_of_pairwise (le := fun a b => le2 a b = true) (fun a b _ _ h1 h2 => ?_) (vV l) (a0T l) ((oB l).trans (a3y l).symm)
 rw [oJ] at h1 h2
 exact gz (by omega) (by omega)
def c2y (s : List Ct → List Ct) (o : Org) (r : Reg) (l : List Ct) : List Ct := dd (s (l.filter (fun c => !r.off.testBit c.1.toNat) ++ bfs o r.cpl 1100 0 (oC o r.cpl l)))
def c2t (s : List Ct → List Ct) (rs : List Rk) (p : Stp) (key : Int) : List Ct := dd (s (((a9k p key).filter fun d => yK rs d key).map fun d => oI rs d key))
def c2z (s : List Ct → List Ct) (o : Org) (r : Reg) (c : Ct) : List Ct := (List.range (iB o.dvs c.1.toNat).stops.length).flatMap fun i => if (iB r.stops c.1.toNat).testBit i then c2t s o.ranks (iB (iB o.dvs c.1.toNat).stops i) c.2 else []
end
end Go.Ds
namespace Go.Ds
open Go.Proofs Go.Proofs.Tryz
variable {H : Heap}
set_option maxRecDepth 10000
set_option maxHeartbeats 1000000
theorem a3W (hG : Glob gH H) (s : ByteArray) : Fn prog 93 [.string s] H fun r H' => ∃ wv, r = .agg #[.string s, .string ⟨#[102, 108, 117, 116, 101]⟩, I 8, I 1, I 36, wv] ∧ St prog H H' [⟨wv, 1, List.replicate 25 (I 1)⟩] := by
 refine .aW func93 rfl (by kernel_rfl) (m := 8) rfl fun l hn g0 => ?_
 simp (disch := omega) only [↓RA, RZ, simprocAttr]
 refine (sR H).eNew 6 [(.string ⟨#[]⟩), (.string ⟨#[]⟩), I 0, I 0, I 0, (.slice none 0 0)] rfl rfl rfl tI fun A1 H1 hS1 => ?_
 simp only [RT] at hS1
 simp (disch := omega) only [↓RA, RB, simprocAttr, g0, rR]
 refine hS1.ag [I 1] a1A a6c rfl rfl (by simp [Value.cells]) rfl rfl (by decide) (by decide) fun w1 H2 hS2 => ?_
 simp only [RT] at hS2
 simp (disch := omega) only [↓RA, RZ, simprocAttr, hn]
 refine iF ((b6c (hS2.gl hG) w1 (hS2.aw 1 rfl (fun _ => rfl))).tr) ?_
 rintro r H3 ⟨-, hT1⟩
 have hS3 := hS2.trans hT1
 simp only [RT] at hS3
 obtain ⟨wv, rfl⟩ : ∃ w, w = r := ⟨r, rfl⟩
 simp (disch := omega) only [↓RA, RB, simprocAttr, hn, a2n (hS3.rd 2 rfl).cells]
 refine hS3.ab 0 rfl [(.string s), (.string ⟨#[102, 108, 117, 116, 101]⟩), I 8, I 1, I 36, wv] rfl (by simp [OC, (hS3.rd 2 rfl).cells.2.1]) tI (by simp) fun H4 hS4 => ?_
 simp only [RT] at hS4
 simp (disch := omega) only [↓RA, RZ, simprocAttr, hn, c5D, hS4.ai 0 rfl]
 exact ⟨wv, rfl, hS4.pick [2] (by decide) rfl⟩
theorem a4j (n feet shift : Int) : Fn prog 92 [I n, I feet, I shift] H fun r H' => ∃ dv gv, St prog H H' [⟨dv, 2, [I n, I shift]⟩, ⟨gv, 3, [I 36, I 48, dv]⟩, ⟨r, 4, [.string ⟨#[97]⟩, I feet, I 1, gv]⟩] := by
 refine .bl func92 rfl (by kernel_rfl) (m := 17) rfl fun l hn g0 g1 g2 => ?_
 simp (disch := omega) only [↓RA, RB, simprocAttr, hn, g0, g1, g2, rR, pY]
 refine (sR H).ag [I n, I shift] a4w a3E rfl rfl (by simp [Value.cells]) rfl rfl (by decide) (by decide) fun w1 H1 hS1 => ?_
 simp only [RT] at hS1
 simp (disch := omega) only [↓RA, RB, simprocAttr, hn, lJ (hS1.rd 0 rfl).cells]
 refine hS1.ag [I 36, I 48, w1] pO vO rfl rfl (by first | (simp []; done) | simp [Value.cells]) (by first | (simp []; done) | simp [Value.cells]) (by simp [OC, (hS1.rd 0 rfl).cells.2.1]) (by decide) (by decide) fun w2 H2 hS2 => ?_
 simp only [RT] at hS2
 simp (disch := omega) only [↓RA, RB, simprocAttr, hn, a6J (hS2.rd 1 rfl).cells]
 refine hS2.ag [(.string ⟨#[97]⟩), I feet, I 1, w2] a1L b5A rfl rfl (by first | (simp []; done) | simp [Value.cells]) (by first | (simp []; done) | simp [Value.cells]) (by simp [OC, (hS2.rd 1 rfl).cells.2.1]) (by decide) (by decide) fun w3 H3 hS3 => ?_
 simp only [RT] at hS3
 simp (disch := omega) only [↓RA, RB, simprocAttr, hn, c5U]
 exact ⟨w1, w2, hS3⟩
def exE (w1 w2 : Value) (d1 g1 s1 d2 g2 s2 : Value) (w3 w4 w5 : Value) : Org := ⟨⟨#[101]⟩, w3, [⟨⟨#[114]⟩, ⟨#[102, 108, 117, 116, 101]⟩, 8, 1, 36, w1, List.replicate 25 1⟩, ⟨⟨#[115]⟩, ⟨#[102, 108, 117, 116, 101]⟩, 8, 1, 36, w2, List.replicate 25 1⟩], w4,
 [⟨⟨#[111, 110, 101]⟩, false, 36, 48, s1, [⟨⟨#[97]⟩, 8, 1, g1, [⟨36, 48, d1, [⟨0, 0⟩]⟩]⟩]⟩, ⟨⟨#[116, 119, 111]⟩, false, 36, 48, s2, [⟨⟨#[97]⟩, 4, 1, g2, [⟨36, 48, d2, [⟨1, 12⟩]⟩]⟩]⟩], w5, [⟨⟨#[99]⟩, 0, 1, 0, false⟩]⟩
theorem a8e (hG : Glob gH H) : Fn prog 44 [] H fun r H' => ∃ w1 w2 d1 g1 s1 d2 g2 s2 w3 w4 w5, r = .agg #[.string (exE w1 w2 d1 g1 s1 d2 g2 s2 w3 w4 w5).name, w3, w4, w5] ∧ (exE w1 w2 d1 g1 s1 d2 g2 s2 w3 w4 w5).In H' ∧ St prog H H' [] := by
 refine .cV func44 rfl (by kernel_rfl) (m := 19) rfl fun l hn => ?_
 simp (disch := omega) only [↓RA, RZ, simprocAttr]
 refine (sR H).eNew 4 [(.string ⟨#[]⟩), (.slice none 0 0), (.slice none 0 0), (.slice none 0 0)] rfl rfl rfl mD fun A1 H1 hS1 => ?_
 simp only [RT] at hS1
 simp (disch := omega) only [↓RA, RZ, simprocAttr, a0a]
 refine hS1.eNew 2 [I 0, I 0] rfl rfl rfl sA fun A2 H2 hS2 => ?_
 simp only [RT] at hS2
 simp (disch := omega) only [↓RA, RB, simprocAttr, hn]
 refine hS2.ab 1 rfl [I 36, I 48] rfl rfl sA (by simp) fun H3 hS3 => ?_
 simp only [RT] at hS3
 simp (disch := omega) only [↓RA, RB, simprocAttr]
 refine Wp.cu jV [0, 1, 4, 5, 8, 9, 2, 3, 6, 7, 10, 11, 12, 13, 14, 15] [0, 1, 6, 7, 2, 3, 8, 9, 4, 5, 10, 11, 12, 13, 14, 15] ⟨true, [40], []⟩ [(7, 0), (7, 1), (7, 2), (7, 4), (7, 6), (9, 0), (9, 1), (9, 2), (9, 4), (9, 6)] (by kernel_rfl) (by kernel_rfl) (by kernel_rfl) ?_
 simp (disch := omega) only [↓RA, RZ, simprocAttr]
 refine iF (a3W (hS3.gl hG) _) ?_
 rintro r H4 ⟨wv1, rfl, hT1⟩
 have hS4 := hS3.trans hT1
 simp only [RT] at hS4
 simp (disch := omega) only [↓RA, RZ, simprocAttr]
 refine iF (a3W (hS4.gl hG) _) ?_
 rintro r H5 ⟨wv2, rfl, hT2⟩
 have hS5 := hS4.trans hT2
 simp only [RT] at hS5
 simp (disch := omega) only [↓RA, RZ, simprocAttr, hn]
 refine iF (a4j 0 8 0) ?_
 rintro r H6 ⟨d1, g1, hT3⟩
 have hS6 := hS5.trans hT3
 simp only [RT] at hS6
 obtain ⟨s1, rfl⟩ : ∃ w, w = r := ⟨r, rfl⟩
 simp (disch := omega) only [↓RA, RZ, simprocAttr, hn]
 refine iF (a4j 1 4 12) ?_
 rintro r H7 ⟨d2, g2, hT4⟩
 have hS7 := hS6.trans hT4
 simp only [RT] at hS7
 obtain ⟨s2, rfl⟩ : ∃ w, w = r := ⟨r, rfl⟩
 simp (disch := omega) only [↓RA, RB, simprocAttr, hn]
 refine hS7.ag [(.string ⟨#[114]⟩), (.string ⟨#[102, 108, 117, 116, 101]⟩), I 8, I 1, I 36, wv1, (.string ⟨#[115]⟩), (.string ⟨#[102, 108, 117, 116, 101]⟩), I 8, I 1, I 36, wv2] a8Z c1j rfl rfl (by first | (simp []; done) | simp [Value.cells]) (by first | (simp []; done) | simp [Value.cells]) (by simp [OC, (hS7.rd 2 rfl).cells.2.1, (hS7.rd 3 rfl).cells.2.1]) (by decide) (by decide) fun w1 H8 hS8 => ?_
 simp only [RT] at hS8
 simp (disch := omega) only [↓RA, RZ, simprocAttr, hn, hS8.ai 1 rfl, a0F (hS8.rd 6 rfl).cells, a0F (hS8.rd 9 rfl).cells]
 refine hS8.ag [(.string ⟨#[111, 110, 101]⟩), (.bool false), I 36, I 48, s1, (.string ⟨#[116, 119, 111]⟩), (.bool false), I 36, I 48, s2] a9W c1p rfl rfl (by first | (simp []; done) | simp [Value.cells]) (by first | (simp []; done) | simp [Value.cells]) (by simp [OC, (hS8.rd 6 rfl).cells.2.1, (hS8.rd 9 rfl).cells.2.1]) (by decide) (by decide) fun w2 H9 hS9 => ?_
 simp only [RT] at hS9
 simp (disch := omega) only [↓RA, RB, simprocAttr, hn, a6k]
 refine hS9.ag [(.string ⟨#[99]⟩), I 0, I 1, I 0, (.bool false)] a0q b3p rfl rfl (by simp [Value.cells]) rfl rfl (by decide) (by decide) fun w3 H10 hS10 => ?_
 simp only [RT] at hS10
 simp (disch := omega) only [↓RA, RB, simprocAttr, hn, a5F (hS10.rd 10 rfl).cells (hS10.rd 11 rfl).cells (hS10.rd 12 rfl).cells]
 refine hS10.ab 0 rfl [(.string ⟨#[101]⟩), w1, w2, w3] rfl (by simp [OC, (hS10.rd 10 rfl).cells.2.1, (hS10.rd 11 rfl).cells.2.1, (hS10.rd 12 rfl).cells.2.1]) mD (by simp) fun H11 hS11 => ?_
 simp only [RT] at hS11
 simp (disch := omega) only [↓RA, RZ, simprocAttr, hn, hS3.ai 1 rfl, hS4.ai 1 rfl, hS5.ai 1 rfl, hS6.ai 1 rfl, hS7.ai 1 rfl, c5E, hS11.ai 0 rfl]
 have h1 : Sl 1 (one I) H11 wv1 (List.replicate 25 1) := hS11.aw 2 rfl (fun _ => rfl)
 have h2 : Sl 1 (one I) H11 wv2 (List.replicate 25 1) := hS11.aw 3 rfl (fun _ => rfl)
 have h3 : Sl 2 Drw.cells H11 d1 [⟨0, 0⟩] := hS11.aw 4 rfl (fun _ => rfl)
 have h4 : Sl 3 Seg.cells H11 g1 [⟨36, 48, d1, [⟨0, 0⟩]⟩] := hS11.aw 5 rfl (fun _ => rfl)
 have h5 : Sl 4 Stp.cells H11 s1 [⟨⟨#[97]⟩, 8, 1, g1, [⟨36, 48, d1, [⟨0, 0⟩]⟩]⟩] := hS11.aw 6 rfl (fun _ => rfl)
 have h6 : Sl 2 Drw.cells H11 d2 [⟨1, 12⟩] := hS11.aw 7 rfl (fun _ => rfl)
 have h7 : Sl 3 Seg.cells H11 g2 [⟨36, 48, d2, [⟨1, 12⟩]⟩] := hS11.aw 8 rfl (fun _ => rfl)
 have h8 : Sl 4 Stp.cells H11 s2 [⟨⟨#[97]⟩, 4, 1, g2, [⟨36, 48, d2, [⟨1, 12⟩]⟩]⟩] := hS11.aw 9 rfl (fun _ => rfl)
 have h9 : Sl 6 Rk.cells H11 w1 (exE wv1 wv2 d1 g1 s1 d2 g2 s2 w1 w2 w3).ranks := hS11.aw 10 rfl (fun _ => rfl)
 have h10 : Sl 5 Dvn.cells H11 w2 (exE wv1 wv2 d1 g1 s1 d2 g2 s2 w1 w2 w3).dvs := hS11.aw 11 rfl (fun _ => rfl)
 have h11 : Sl 5 Cpl.cells H11 w3 (exE wv1 wv2 d1 g1 s1 d2 g2 s2 w1 w2 w3).cpls := hS11.aw 12 rfl (fun _ => rfl)
 refine ⟨wv1, wv2, d1, g1, s1, d2, g2, s2, w1, w2, w3, rfl, ⟨h9, ?_, h10, ?_, h11, by simp [exE], by simp [exE], by simp [exE]⟩, hS11.forget⟩
 ·intro r hr
  simp only [exE, eo, eK, or_false] at hr
  rcases hr with rfl | rfl
  ·exact ⟨h1, by simp⟩
  ·exact ⟨h2, by simp⟩
 ·intro d hd
  simp only [exE, eo, eK, or_false] at hd
  rcases hd with rfl | rfl
  ·exact ⟨h5, fun s hs => by rw [dE.1 hs]; exact ⟨h4, fun g hg => by rw [dE.1 hg]; exact ⟨h3, by simp⟩, by simp⟩, by simp⟩
  ·exact ⟨h8, fun s hs => by rw [dE.1 hs]; exact ⟨h7, fun g hg => by rw [dE.1 hg]; exact ⟨h6, by simp⟩, by simp⟩, by simp⟩
section
variable (w1 w2 d1 g1 s1 d2 g2 s2 w3 w4 w5 : Value)
theorem b7M (off : Nat) (h : off < 2) : mZ (exE w1 w2 d1 g1 s1 d2 g2 s2 w3 w4 w5) ⟨[1, 1], 1, off⟩ = 0 := by
 rcases (by omega : off = 0 ∨ off = 1) with rfl | rfl
 ·kernel_rfl
 ·kernel_rfl
theorem b7u : qQ (exE w1 w2 d1 g1 s1 d2 g2 s2 w3 w4 w5) [jF [40], (0, 0)] = 0 := by kernel_rfl
theorem b8u : oH (exE w1 w2 d1 g1 s1 d2 g2 s2 w3 w4 w5) ⟨[1, 1], 1, 0⟩ (kI [jF [40], (0, 0)]) = [(0, 40), (1, 40)] := by
 unfold oH
 rw [b4R]
 kernel_rfl
end
theorem b9F (v : Value) (k : FuncId) : Fn prog 128 [v, I 0, I 1, .func (.func k) #[] #[]] H fun r H' => r = .tuple #[] ∧ St prog H H' [] := by
 refine .cI func128 rfl (by kernel_rfl) (m := 53) rfl fun l hn g0 g1 g2 g3 => ?_
 simp (disch := omega) only [↓RA, RB, simprocAttr, hn, g1]
 refine Wp.al (fun n l H' => l.length = 53 ∧ get l 8 = I 1 ∧ get l 2 = I 1 ∧ St prog H H' []) 1 ?_ ?_
 ·simp (disch := omega) only [RB, RC, simprocAttr, hn, g2]
  exact (sR H)
 rintro n l H9 ⟨hn, g8, g2, hS9⟩
 simp (disch := omega) only [↓RA, RZ, simprocAttr, hn, g8, g2, c0e]
 first | exact hS9 | exact ⟨rfl, hS9⟩
theorem b0A (v : Value) (k : FuncId) : Fn prog 74 [v, I 1, .func (.func k) #[] #[]] H fun r H' => r = .tuple #[] ∧ St prog H H' [] := by
 refine .bl func74 rfl (by kernel_rfl) (m := 63) rfl fun l hn g0 g1 g2 => ?_
 simp (disch := omega) only [↓RA, RB, simprocAttr, hn]
 refine Wp.al (fun n l H' => l.length = 63 ∧ get l 0 = v ∧ get l 1 = I 1 ∧ get l 2 = .func (.func k) #[] #[] ∧ get l 6 = I 20 ∧ get l 7 = I 0 ∧ get l 8 = I 20 ∧ St prog H H' []) 1 ?_ ?_
 ·simp (disch := omega) only [RB, RC, simprocAttr, hn, g0, g1, g2]
  exact (sR H)
 rintro n l H9 ⟨hn, g0, g1, g2, g6, g7, g8, hS9⟩
 simp (disch := omega) only [↓RA, RZ, simprocAttr, hn, g0, g1, g2, g7, g8]
 refine (sR H9).cF (b9F v k) fun H1 hS1 => ?_
 simp (disch := omega) only [↓RA, simprocAttr]
 have hS8 := hS9.trans hS1
 refine Wp.al (fun n l H' => l.length = 63 ∧ get l 1 = I 1 ∧ get l 6 = I 20 ∧ St prog H H' []) 1 ?_ ?_
 ·simp (disch := omega) only [RB, RC, simprocAttr, hn, g1, g6]
  exact hS8
 rintro n l H7 ⟨hn, g1, g6, hS7⟩
 simp (disch := omega) only [↓RA, RZ, simprocAttr, hn, g1, g6, c3e]
 first | exact hS7 | exact ⟨rfl, hS7⟩
def kC (x : Ct × Int) : List Value := [I x.1.1, I x.1.2, I x.2]
theorem a7H (v : Value) (x : Ct × Int) (hv : Sl 3 kC H v [x]) (k : FuncId) : Fn prog 29 [v, .func (.func k) #[] #[]] H fun r H' => r = .tuple #[] ∧ St prog H H' [] := by
 have h1 : (([x] : List (Ct × Int)).length : Int) = 1 := rfl
 refine .aM func29 rfl (by kernel_rfl) (m := 9) rfl fun l hn g0 g1 => ?_
 simp (disch := omega) only [↓RA, RZ, simprocAttr, hn, g0, g1, ((sR H).sl hv).len]
 refine (sR H).cF (b0A v k) fun H1 hS1 => ?_
 simp (disch := omega) only [↓RA, RZ, simprocAttr, c5n]
 first | exact hS1 | exact ⟨rfl, hS1⟩
theorem b3i (hG : Glob gH H) : Fn prog 61 [.agg #[I 8, I 1], .agg #[I 8, I 1]] H fun r H' => r = .tuple #[I 0, I 0] ∧ St prog H H' [] := by
 have h := a1T hG (a := (8, 1)) (b := (8, 1)) (by simp [kY]) (by simp [lO])
 rw [show shF (8, 1) (8, 1) = 0 from by kernel_rfl] at h
 exact h.mono fun _ _ h => ⟨h.1.1, h.2⟩
def a8g (o : Org) (p : Ct) : Ct × Int := (p, (iB o.ranks p.1.toNat).first + p.2 + 0)
theorem a8C (hG : Glob gH H) (o : Org) (ho : o.In H) (rg : Reg) (sv : Value) (hr : rg.In H sv) (kv : Value) (ks : List Nt) (hk : Ks H kv ks) (h0 : rkE o rg ks = 0) (i m : Nat) (hsp : wT o rg ks = [((i : Int), (m : Int))]) (hi : i < o.ranks.length) (hm : m < 1000)
 (hf : (iB o.ranks i).num = 8 ∧ (iB o.ranks i).den = 1 ∧ -1000 ≤ (iB o.ranks i).first ∧ (iB o.ranks i).first ≤ 1000) :
 Fn prog 22 [.agg #[.string o.name, o.rv, o.dv, o.cv], .agg #[sv, .int .u64 rg.cpl, .int .u64 rg.off], kv] H fun r H' => ∃ hv, r = .tuple #[hv, I 0] ∧ St prog H H' [⟨hv, 3, kC (a8g o ((i : Int), (m : Int)))⟩] := by
 obtain ⟨f1, f2, f3, f4⟩ := hf
 refine .bl func22 rfl (by kernel_rfl) (m := 61) rfl fun l hn g0 g1 g2 => ?_
 simp (disch := omega) only [↓RA, RB, simprocAttr, g0]
 refine (sR H).eNew 4 [(.string o.name), o.rv, o.dv, o.cv] rfl rfl (by simp [OC, ((sR H).sl ho.1).cells.2.1, ((sR H).sl ho.2.2.1).cells.2.1, ((sR H).sl ho.2.2.2.2.1).cells.2.1]) mD fun A1 H1 hS1 => ?_
 simp only [RT] at hS1
 simp (disch := omega) only [↓RA, RB, simprocAttr, g1]
 refine hS1.eNew 3 [sv, (.int .u64 rg.cpl), (.int .u64 rg.off)] rfl rfl (by simp [OC, (hS1.sl hr.1).cells.2.1]) pG fun A2 H2 hS2 => ?_
 simp only [RT] at hS2
 simp (disch := omega) only [↓RA, RZ, simprocAttr, hn, g2, hS2.ai 0 rfl, hS2.ai 1 rfl]
 refine iF (nT (hS2.gl hG) o (ho.ae hS2) rg sv (hr.ae hS2) kv ks (hk.ae hS2)) ?_
 rintro r H3 ⟨pv, rfl, hx, hT1⟩
 have hS3 := hS2.trans hT1
 simp only [RT] at hS3
 rw [h0]
 rw [hsp] at hx
 have hl1 : (([((i : Int), (m : Int))] : List Ct).length : Int) = 1 := rfl
 have hS0 := hS3
 have ho2 := ho.ae hS0
 have hG2 := hS0.gl hG
 simp (disch := omega) only [↓RA, RZ, simprocAttr, hn, ((sR H3).sl hx.1).len]
 have hS4 := (sR H3).nil 2
 simp only [RT] at hS4
 refine Wp.al (fun n l H' => l.length = 61 ∧ get l 3 = (ptr A1 0 4) ∧ get l 6 = (.slice none 0 0) ∧ get l 7 = I 0 ∧ get l 26 = pv ∧ ∃ (j : Nat) (ov : Value), (n + j = 1) ∧ get l 28 = I j ∧ get l 10 = ov ∧ get l 27 = I 1 ∧ St prog H3 H' [⟨ov, 3, ([a8g o ((i : Int), (m : Int))].take j).flatMap kC⟩]) 1 ?_ ?_
 ·simp (disch := omega) only [RB, RC, simprocAttr, hn]
  exact ⟨0, .slice none 0 0, by omega, rfl, rfl, hS4⟩
 rintro n l H4 ⟨hn, g3, g6, g7, g26, j, ov, hj, g28, mB, g27, hS5⟩
 simp (disch := omega) only [↓RA, RB, simprocAttr, hn, g28, g27]
 refine iA (fun q1 => ?_) (fun q1 => ?_)
 ·have hj0 : j = 0 := by omega
  have hn0 : iB ([((i : Int), (m : Int))] : List Ct) j = ((i : Int), (m : Int)) := by rw [hj0]; rfl
  simp (disch := omega) only [↓RA, RZ, simprocAttr, hn, g26, g28, (hS5.sl hx.1).idx, (hS5.sl hx.1).ai, kA, q1, hn0]
  refine hS5.eNew 2 [I 0, I 0] rfl rfl rfl rO fun A3 H5 hS6 => ?_
  simp only [RT] at hS6
  simp (disch := omega) only [↓RA, RZ, simprocAttr, hn, q1]
  refine hS6.ab 1 rfl [I i, I m] rfl rfl rO (by simp) fun H6 hS7 => ?_
  simp only [RT] at hS7
  simp (disch := omega) only [↓RA, RZ, simprocAttr, hn, g3, ((hS0.var 0 rfl).ae hS7.ae).ld, hS7.ld 1 rfl, (hS7.sl ho2.1).idx, (hS7.sl ho2.1).ai, Rk.cells, q1]
  refine hS7.eNew 6 [(.string ⟨#[]⟩), (.string ⟨#[]⟩), I 0, I 0, I 0, (.slice none 0 0)] rfl rfl rfl tI fun A4 H7 hS8 => ?_
  simp only [RT] at hS8
  simp (disch := omega) only [↓RA, RZ, simprocAttr, hn, q1]
  refine hS8.ab 2 rfl [(.string (iB o.ranks i).name), (.string (iB o.ranks i).tone), I (iB o.ranks i).num, I (iB o.ranks i).den, I (iB o.ranks i).first, (iB o.ranks i).wv] rfl (by simp [OC, (hS8.sl (ho2.2.1 (iB o.ranks i) (iD (by omega))).1).cells.2.1]) tI (by simp) fun H8 hS9 => ?_
  simp only [RT] at hS9
  simp (disch := omega) only [↓RA, RZ, simprocAttr, hn, hS9.ai 2 rfl, rR, q1]
  rw [f1, f2]
  refine hS9.cF (b3i (hS9.gl hG2)) fun H9 hS10 => ?_
  simp (disch := omega) only [↓RA, RZ, simprocAttr, hn, mB, hS10.ai 1 rfl, hS10.ld 2 rfl, hS10.ld 1 rfl, a2z, q1]
  refine hS10.ag [I i, I m, _] b6Y c2x rfl rfl (by simp [Value.cells]) rfl rfl (by decide) (by decide) fun w1 H10 hS11 => ?_
  simp only [RT] at hS11
  simp (disch := omega) only [↓RA, RZ, simprocAttr, hn, q1]
  refine hS11.ar 0 rfl (hS11.rd 3 rfl) b6Y (by rw [hj0]; simp) fun w2 H11 hS12 => ?_
  simp only [RT] at hS12
  simp (disch := omega) only [↓RA, RZ, simprocAttr, hn, g3, g6, g7, g26, g28, g27, q1]
  refine ⟨0, by omega, 1, w2, by omega, by rw [hj0]; rfl, rfl, ?_⟩
  have h9 := hS12.pick (os' := [⟨w2, 3, _⟩]) [0] (by decide) rfl
  rw [hj0] at h9
  exact h9
 have hj1 : j = 1 := by omega
 simp (disch := omega) only [↓RA, RZ, simprocAttr, hn, mB, q1]
 have hnt := (hS5.aw (cel := kC) (xs := [a8g o ((i : Int), (m : Int))].take j) 0 rfl (fun _ => rfl)).aZ
 refine hS5.cF (a7H ov (a8g o ((i : Int), (m : Int))) (by have h := hS5.aw (cel := kC) (xs := [a8g o ((i : Int), (m : Int))].take j) 0 rfl (fun _ => rfl); rw [hj1] at h; exact h) 62) fun H12 hS13 => ?_
 simp (disch := omega) only [↓RA, RZ, simprocAttr, hn, mB, c0U, q1, hnt]
 refine ⟨ov, rfl, ?_⟩
 have hfin := hS13
 rw [hj1] at hfin
 exact hS0.forget.trans hfin
theorem b0q (v w : Value) (xs ys : List Ct) (hv : Sl 2 kA H v xs) (hw : Sl 2 kA H w ys) (hl : xs.length < 1000000000) (hl2 : ys.length < 1000000000) :
 Fn prog 46 [v, w] H fun r H' => r = .bool (decide (xs = ys)) ∧ St prog H H' [] := by
 refine .aM func46 rfl (by kernel_rfl) (m := 26) rfl fun l hn g0 g1 => ?_
 simp (disch := omega) only [↓RA, RZ, simprocAttr, hn, g0, g1, ((sR H).sl hv).len, ((sR H).sl hw).len]
 refine iA (fun h1 => ?_) (fun h1 => ?_)
 ·simp (disch := omega) only [↓RA, RZ, simprocAttr, hn, c1q, h1]
  exact ⟨by rw [decide_eq_false]; intro e; rw [e] at h1; exact h1 rfl, (sR H)⟩
 simp (disch := omega) only [↓RA, RZ, simprocAttr, hn, g0, ((sR H).sl hv).len, h1]
 refine Wp.al (fun n l H' => l.length = 26 ∧ get l 0 = v ∧ get l 1 = w ∧ get l 12 = I xs.length ∧ ∃ (j : Nat), (n + j = xs.length ∧ ∀ q, q < j → iB xs q = iB ys q) ∧ get l 13 = I j ∧ St prog H H' []) xs.length ?_ ?_
 ·simp (disch := omega) only [RB, RC, simprocAttr, hn, g0, g1]
  exact ⟨0, ⟨by omega, fun q hq => absurd hq (dS _)⟩, rfl, (sR H)⟩
 rintro n l H1 ⟨hn, g0, g1, g12, j, ⟨hj,hz⟩, g13, hS1⟩
 simp (disch := omega) only [↓RA, RB, simprocAttr, hn, g12, g13]
 refine iA (fun q1 => ?_) (fun q1 => ?_)
 ·simp (disch := omega) only [↓RA, RZ, simprocAttr, hn, g13, q1]
  refine Wp.drw jV (by kernel_rfl) ?_
  simp (disch := omega) only [↓RA, RZ, simprocAttr, hn, g0, g1, (hS1.sl hv).idx, (hS1.sl hv).ai, kA, (hS1.sl hw).idx, (hS1.sl hw).ai]
  refine iA (fun q2 => ?_) (fun q2 => ?_)
  ·simp (disch := omega) only [↓RA, RZ, simprocAttr, hn, c1q, q2]
   refine ⟨?_, hS1⟩
   rw [decide_eq_false]
   intro e
   rw [e] at q2
   exact q2 ⟨rfl, rfl⟩
  have q3 := dD.1 q2
  simp (disch := omega) only [↓RA, RZ, simprocAttr, hn, g0, g1, g12, g13, q2]
  exact ⟨n - 1, by omega, j + 1, ⟨by omega, fun q hq => by rcases dB.1 hq with e | e; (· exact hz q e); (· rw [e]; exact gz q3.1 q3.2)⟩, by simp, hS1⟩
 simp (disch := omega) only [↓RA, RZ, simprocAttr, hn, c1q, q1]
 exact ⟨by rw [decide_eq_true]; exact wP (by omega) fun q hq => hz q (by omega), hS1⟩
theorem b4k (a b c : Int) : iL prog (part 74 #[I a, I b, I c] 0) = some (.agg #[I a, I b]) := by kernel_rfl
theorem c0q (a b c : Int) : iL prog (part 3 #[I a, I b, I c] 2) = some (I c) := by kernel_rfl
theorem c4c (x y : Ct × Int) : iL prog (Op.equalIn (9999 + 1) 82 (.agg [I x.1.1, I x.1.2, I x.2].toArray) (.agg [I y.1.1, I y.1.2, I y.2].toArray)) = some (decide (x = y)) := by
 have h52 : iL prog (Op.equalIn (9997 + 2) 74 (.agg [I x.1.1, I x.1.2].toArray) (.agg [I y.1.1, I y.1.2].toArray)) = some ((List.range [I x.1.1, I x.1.2].length).all fun j => eqC ([I x.1.1, I x.1.2].getD j undef) ([I y.1.1, I y.1.2].getD j undef)) :=
  xR 9997 (by kernel_rfl) (by kernel_rfl) (by kernel_rfl) rfl (by kernel_rfl)
 rw [a5U (fs := tH prog 82) (by kernel_rfl) (by kernel_rfl) (fun f => if f.offset = 0 then decide (x.1 = y.1) else decide (x.2 = y.2))]
 ·congr 1
  have hfl : (tH prog 82).map (·.offset) = [0, 2] := by kernel_rfl
  have e : (tH prog 82).all (fun f => if f.offset = 0 then decide (x.1 = y.1) else decide (x.2 = y.2)) = ((tH prog 82).map (·.offset)).all fun n => if n = 0 then decide (x.1 = y.1) else decide (x.2 = y.2) := by
   rw [List.all_map]
   rfl
  rw [e, hfl, eh]
  simp [Prod.ext_iff]
 ·intro f hf
  have hfs : (tH prog 82).map (fun f => (f.name != "_", f.type, f.offset)) = [(true, 74, 0), (true, 3, 2)] := by kernel_rfl
  have hm : (f.name != "_", f.type, f.offset) ∈ [(true, 74, 0), (true, 3, 2)] := by
   rw [← hfs]
   exact fP hf
  simp only [eo, eK, or_false, gq] at hm
  rcases hm with ⟨h1, h2, h3⟩ | ⟨h1, h2, h3⟩
  ·refine ⟨by simpa using h1, ?_⟩
   rw [h2, h3, if_pos rfl, iI, b4k, dc, iI, b4k, dc]
   refine h52.trans ?_
   congr 1
   show ((x.1.1 == y.1.1) && ((x.1.2 == y.1.2) && true)) = _
   rw [eh]
   first | done | simp [Prod.ext_iff]
  ·refine ⟨by simpa using h1, ?_⟩
   rw [h2, h3, if_neg (by decide), iI, c0q, dc, iI, c0q, dc]
   exact eq1 (P := prog) (t := 3) 9998 (by kernel_rfl)
theorem c5q (x y : Ct × Int) (t2 : TypeId) (cx cy : Bool) : lB prog .neq 82 t2 cx cy (.agg #[I x.1.1, I x.1.2, I x.2]) (.agg #[I y.1.1, I y.1.2, I y.2]) = some (.bool (decide (¬ x = y))) := by
 have h := a5Y (t2 := t2) (cx := cx) (cy := cy) (decide (x = y)) (by kernel_rfl) (by rfl) (by rfl) (c4c x y)
 rw [h]
 simp
theorem a9p (v w : Value) (xs ys : List (Ct × Int)) (hv : Sl 3 kC H v xs) (hw : Sl 3 kC H w ys) (hl : xs.length < 1000000000) (hl2 : ys.length < 1000000000) :
 Fn prog 31 [v, w] H fun r H' => r = .bool (decide (xs = ys)) ∧ St prog H H' [] := by
 refine .aM func31 rfl (by kernel_rfl) (m := 26) rfl fun l hn g0 g1 => ?_
 simp (disch := omega) only [↓RA, RZ, simprocAttr, hn, g0, g1, ((sR H).sl hv).len, ((sR H).sl hw).len]
 refine iA (fun h1 => ?_) (fun h1 => ?_)
 ·simp (disch := omega) only [↓RA, RZ, simprocAttr, hn, c2w, h1]
  exact ⟨by rw [decide_eq_false]; intro e; rw [e] at h1; exact h1 rfl, (sR H)⟩
 simp (disch := omega) only [↓RA, RZ, simprocAttr, hn, g0, ((sR H).sl hv).len, h1]
 refine Wp.al (fun n l H' => l.length = 26 ∧ get l 0 = v ∧ get l 1 = w ∧ get l 12 = I xs.length ∧ ∃ (j : Nat), (n + j = xs.length ∧ ∀ q, q < j → iB xs q = iB ys q) ∧ get l 13 = I j ∧ St prog H H' []) xs.length ?_ ?_
 ·simp (disch := omega) only [RB, RC, simprocAttr, hn, g0, g1]
  exact ⟨0, ⟨by omega, fun q hq => absurd hq (dS _)⟩, rfl, (sR H)⟩
 rintro n l H1 ⟨hn, g0, g1, g12, j, ⟨hj,hz⟩, g13, hS1⟩
 simp (disch := omega) only [↓RA, RB, simprocAttr, hn, g12, g13]
 refine iA (fun q1 => ?_) (fun q1 => ?_)
 ·have hne := fun t2 cx cy => c5q (iB xs j) (iB ys j) t2 cx cy
  simp (disch := omega) only [↓RA, RZ, simprocAttr, hn, g13, q1]
  refine Wp.drw jV (by kernel_rfl) ?_
  simp (disch := omega) only [↓RA, RZ, simprocAttr, hn, g0, g1, (hS1.sl hv).idx, (hS1.sl hv).ai, kC, (hS1.sl hw).idx, (hS1.sl hw).ai, hne]
  refine iA (fun q2 => ?_) (fun q2 => ?_)
  ·simp (disch := omega) only [↓RA, RZ, simprocAttr, hn, c2w, q2]
   refine ⟨?_, hS1⟩
   rw [decide_eq_false]
   intro e
   rw [e] at q2
   exact q2 rfl
  have q3 := dD.1 q2
  simp (disch := omega) only [↓RA, RZ, simprocAttr, hn, g0, g1, g12, g13, q2]
  exact ⟨n - 1, by omega, j + 1, ⟨by omega, fun q hq => by rcases dB.1 hq with e | e; (· exact hz q e); (· rw [e]; exact q3)⟩, by simp, hS1⟩
 simp (disch := omega) only [↓RA, RZ, simprocAttr, hn, c2w, q1]
 exact ⟨by rw [decide_eq_true]; exact wP (by omega) fun q hq => hz q (by omega), hS1⟩
theorem a3M (o : Org) (r : Reg) (l : List Ct) : kU o r l = dd (a9N ((c2y a9N o r l).flatMap (c2z a9N o r))) := by
 rw [← b4R]
 rfl
section
variable (w1 w2 d1 g1 s1 d2 g2 s2 w3 w4 w5 : Value)
theorem a2e (off : Nat) (h : off < 2) : rkE (exE w1 w2 d1 g1 s1 d2 g2 s2 w3 w4 w5) ⟨[1, 1], 1, off⟩ [jF [40], (0, 0)] = 0 := by
 unfold rkE
 rw [b7M _ _ _ _ _ _ _ _ _ _ _ off h, if_neg (by decide), b7u]
theorem b5j : a6P (exE w1 w2 d1 g1 s1 d2 g2 s2 w3 w4 w5) ⟨[1, 1], 1, 0⟩ [jF [40], (0, 0)] = [(0, 40), (1, 40)] := by
 unfold a6P
 rw [a2e _ _ _ _ _ _ _ _ _ _ _ 0 (by decide), if_pos rfl, b8u]
theorem b7c : wT (exE w1 w2 d1 g1 s1 d2 g2 s2 w3 w4 w5) ⟨[1, 1], 1, 0⟩ [jF [40], (0, 0)] = [(0, 4), (1, 16)] := by
 unfold wT
 rw [a2e _ _ _ _ _ _ _ _ _ _ _ 0 (by decide), if_pos rfl, a3M]
 kernel_rfl
theorem b5l : wT (exE w1 w2 d1 g1 s1 d2 g2 s2 w3 w4 w5) ⟨[1, 1], 1, 1⟩ [jF [40], (0, 0)] = [(1, 16)] := by
 unfold wT
 rw [a2e _ _ _ _ _ _ _ _ _ _ _ 1 (by decide), if_pos rfl, a3M]
 kernel_rfl
end
theorem a5K (hG : Glob gH H) : Fn prog 44 [] H fun r H' => ∃ o : Org, r = .agg #[.string o.name, o.rv, o.dv, o.cv] ∧ (∃ w1 w2 d1 g1 s1 d2 g2 s2 w3 w4 w5, o = exE w1 w2 d1 g1 s1 d2 g2 s2 w3 w4 w5) ∧ o.In H' ∧ St prog H H' [] := by
 obtain ⟨h1, v, H1, h2, w1, w2, d1, g1, s1, d2, g2, s2, w3, w4, w5, h3, h4, h5⟩ := a8e hG
 exact ⟨h1, v, H1, h2, _, h3, ⟨w1, w2, d1, g1, s1, d2, g2, s2, w3, w4, w5, rfl⟩, h4, h5⟩
theorem a1H (hG : Glob gH H) : Fn prog 10 [] H fun r H' => r = .bool true ∧ St prog H H' [] := by
 refine .cV func10 rfl (by kernel_rfl) (m := 80) rfl fun l hn => ?_
 simp (disch := omega) only [↓RA, RZ, simprocAttr]
 refine iF (a5K ((sR H).gl hG)) ?_
 rintro r H1 ⟨o, rfl, ⟨v1, v2, v3, v4, v5, v6, v7, v8, v9, v10, v11, hoe⟩, ho, hT1⟩
 have hS1 := (sR H).trans hT1
 simp only [RT] at hS1
 have q1 : rkE o ⟨[1, 1], 1, 0⟩ [jF [40], (0, 0)] = 0 := by subst hoe; exact a2e _ _ _ _ _ _ _ _ _ _ _ 0 (by decide)
 have q2 : rkE o ⟨[1, 1], 1, 1⟩ [jF [40], (0, 0)] = 0 := by subst hoe; exact a2e _ _ _ _ _ _ _ _ _ _ _ 1 (by decide)
 have q3 : a6P o ⟨[1, 1], 1, 0⟩ [jF [40], (0, 0)] = [(0, 40), (1, 40)] := by subst hoe; exact b5j _ _ _ _ _ _ _ _ _ _ _
 have q4 : wT o ⟨[1, 1], 1, 0⟩ [jF [40], (0, 0)] = [(0, 4), (1, 16)] := by subst hoe; exact b7c _ _ _ _ _ _ _ _ _ _ _
 have q5 : wT o ⟨[1, 1], 1, 1⟩ [jF [40], (0, 0)] = [(1, 16)] := by subst hoe; exact b5l _ _ _ _ _ _ _ _ _ _ _
 have q6 : o.ranks.length = 2 ∧ (iB o.ranks 1).num = 8 ∧ (iB o.ranks 1).den = 1 ∧ (iB o.ranks 1).first = 36 := by subst hoe; exact ⟨rfl, rfl, rfl, rfl⟩
 clear hoe
 have hG1 : ∀ z ∈ [(40 : Int)], isN z := fun z hz => by rw [dE.1 hz]; exact ⟨by decide, by decide⟩
 have hS0 := hS1
 have hG2 := hS0.gl hG
 simp (disch := omega) only [↓RA, RZ, simprocAttr]
 refine (sR H1).eNew 4 [(.string ⟨#[]⟩), (.slice none 0 0), (.slice none 0 0), (.slice none 0 0)] rfl rfl rfl mD fun A1 H2 hS2 => ?_
 simp only [RT] at hS2
 simp (disch := omega) only [↓RA, RB, simprocAttr, hn]
 refine hS2.ab 0 rfl [(.string o.name), o.rv, o.dv, o.cv] rfl (by simp [OC, (hS2.sl ho.1).cells.2.1, (hS2.sl ho.2.2.1).cells.2.1, (hS2.sl ho.2.2.2.2.1).cells.2.1]) mD (by simp) fun H3 hS3 => ?_
 simp only [RT] at hS3
 simp (disch := omega) only [↓RA, RB, simprocAttr]
 refine hS3.ag [I 40] a1A a6c rfl rfl (by simp [Value.cells]) rfl rfl (by decide) (by decide) fun w1 H4 hS4 => ?_
 simp only [RT] at hS4
 simp (disch := omega) only [↓RA, RZ, simprocAttr, hn]
 refine hS4.cF (wL [40] hG1 w1 (hS4.aw 1 rfl (fun _ => rfl)) (by simp)) fun H5 hS5 => ?_
 have hKo : ∀ x ∈ ([jF [40], (0, 0)] : List Nt), Nt.Ok x := by
  intro x hx
  simp only [eo, eK, or_false] at hx
  rcases hx with rfl | rfl <;> exact ⟨by decide, by decide⟩
 have hRo : (⟨[1, 1], 1, 0⟩ : Reg).Ok := ⟨by decide, by decide, by decide, by decide⟩
 have hRo1 : (⟨[1, 1], 1, 1⟩ : Reg).Ok := ⟨by decide, by decide, by decide, by decide⟩
 simp (disch := omega) only [↓RA, RZ, simprocAttr, hn]
 refine hS5.eNew 2 [(.int .u64 0), (.int .u64 0)] rfl rfl rfl nQ fun A2 H6 hS6 => ?_
 simp only [RT] at hS6
 simp (disch := omega) only [↓RA, RB, simprocAttr, hn]
 refine hS6.ab 2 rfl [(.int .u64 (jF [40]).1), (.int .u64 (jF [40]).2)] rfl rfl nQ (by simp) fun H7 hS7 => ?_
 simp only [RT] at hS7
 simp (disch := omega) only [↓RA, RZ, simprocAttr, hn, hS7.ai 2 rfl, c0n]
 refine hS7.ag [(.int .u64 (jF [40]).1), (.int .u64 (jF [40]).2), (.int .u64 0), (.int .u64 0)] b5r c1u rfl rfl (by simp [Value.cells]) rfl rfl (by decide) (by decide) fun w2 H8 hS8 => ?_
 simp only [RT] at hS8
 simp (disch := omega) only [↓RA, RB, simprocAttr, hn]
 refine hS8.ag [(.int .u64 1), (.int .u64 1)] c2v c3H rfl rfl (by simp [Value.cells]) rfl rfl (by decide) (by decide) fun w3 H9 hS9 => ?_
 simp only [RT] at hS9
 simp (disch := omega) only [↓RA, RZ, simprocAttr, hn, b6I (hS9.rd 4 rfl).cells]
 refine hS9.eNew 3 [(.slice none 0 0), (.int .u64 0), (.int .u64 0)] rfl rfl rfl pG fun A3 H10 hS10 => ?_
 simp only [RT] at hS10
 simp (disch := omega) only [↓RA, RB, simprocAttr, hn]
 refine hS10.ab 5 rfl [w3, (.int .u64 1), (.int .u64 0)] rfl (by simp [OC, (hS10.rd 4 rfl).cells.2.1]) pG (by simp) fun H11 hS11 => ?_
 simp only [RT] at hS11
 simp (disch := omega) only [↓RA, RZ, simprocAttr, hn, hS11.ai 0 rfl, hS11.ai 5 rfl]
 have hS2 := hS11
 refine iF (sJ (hS11.gl hG2) o (ho.ae hS11) ⟨[1, 1], 1, 0⟩ w3 ⟨hS11.aw 4 rfl (fun _ => rfl), hRo⟩ w2 [jF [40], (0, 0)] ⟨hS11.aw 3 rfl (fun _ => rfl), by simp, hKo⟩) ?_
 rintro r H12 ⟨cv, rfl, hcx, hT3⟩
 have hS12 := hS11.trans hT3
 simp only [RT] at hS12
 rw [q3] at hcx
 rw [q1]
 have hcx2 := hcx.step (hS2.aI (H' := H12))
 obtain ⟨X, hBX, hS13⟩ := hS12.aB (os := [⟨ptr A1 0 4, 0, _⟩, ⟨w1, 1, _⟩, ⟨ptr A2 0 2, 0, _⟩, ⟨w2, 2, _⟩, ⟨w3, 1, _⟩, ⟨ptr A3 0 3, 0, _⟩])
 simp (disch := omega) only [↓RA, RZ, simprocAttr, hn, hS13.ai 0 rfl, hS13.ai 5 rfl]
 have hS3 := hS13
 refine iF (nT ((hS12.aj hBX hS13).gl hG2) o (ho.ae (hS12.aj hBX hS13)) ⟨[1, 1], 1, 0⟩ w3 ⟨hS13.aw 4 rfl (fun _ => rfl), hRo⟩ w2 [jF [40], (0, 0)] ⟨hS13.aw 3 rfl (fun _ => rfl), by simp, hKo⟩) ?_
 rintro r H13 ⟨pv, rfl, hpx, hT4⟩
 have hS14 := hS13.trans hT4
 simp only [RT] at hS14
 rw [q4] at hpx
 rw [q1]
 have hcx3 := hcx2.step (hS14.kept hBX)
 have hpx2 := hpx.step (hS3.aI (H' := H13))
 obtain ⟨Y, hBY, hS15⟩ := hS14.aB (os := [⟨ptr A1 0 4, 0, _⟩, ⟨w1, 1, _⟩, ⟨ptr A2 0 2, 0, _⟩, ⟨w2, 2, _⟩, ⟨w3, 1, _⟩, ⟨ptr A3 0 3, 0, _⟩])
 simp (disch := omega) only [↓RA, RZ, simprocAttr, hn]
 refine hS15.ab 5 rfl [(.int .u64 1)] rfl rfl b9c (by simp) fun H14 hS16 => ?_
 simp only [RT] at hS16
 simp (disch := omega) only [↓RA, RZ, simprocAttr, hn, hS16.ai 0 rfl, hS16.ai 5 rfl]
 refine iF (a8C ((hS12.aj hBX (hS14.aj hBY hS16)).gl hG2) o (ho.ae (hS12.aj hBX (hS14.aj hBY hS16))) ⟨[1, 1], 1, 1⟩ w3 ⟨hS16.aw 4 rfl (fun _ => rfl), hRo1⟩ w2 [jF [40], (0, 0)] ⟨hS16.aw 3 rfl (fun _ => rfl), by simp, hKo⟩ q2 1 16 q5 (by rw [q6.1]; decide) (by decide) ⟨q6.2.1, q6.2.2.1, by rw [q6.2.2.2]; decide, by rw [q6.2.2.2]; decide⟩) ?_
 rintro r H15 ⟨dv, rfl, hT5⟩
 have hS17 := hS16.trans hT5
 simp only [RT] at hS17
 have hcx4 := hcx3.step (hS17.kept hBY)
 have hpx4 := hpx2.step (hS17.kept hBY)
 simp (disch := omega) only [↓RA, RZ, simprocAttr, hn, yS]
 refine hS17.ag [I 0, I 40, I 1, I 40] a1c a8N rfl rfl (by simp [Value.cells]) rfl rfl (by decide) (by decide) fun w4 H16 hS18 => ?_
 simp only [RT] at hS18
 simp (disch := omega) only [↓RA, RZ, simprocAttr, hn]
 refine hS18.cF (b0q cv w4 [(0, 40), (1, 40)] [(0, 40), (1, 40)] (hcx3.step (hS18.kept hBY)).1 (hS18.aw 7 rfl jU) (by simp) (by simp)) fun H17 hS19 => ?_
 rw [decide_eq_true rfl]
 simp (disch := omega) only [↓RA, RZ, simprocAttr, hn, a2T]
 refine hS19.ag [I 0, I 4, I 1, I 16] b3y c1G rfl rfl (by simp [Value.cells]) rfl rfl (by decide) (by decide) fun w5 H18 hS20 => ?_
 simp only [RT] at hS20
 simp (disch := omega) only [↓RA, RZ, simprocAttr, hn]
 refine hS20.cF (b4A pv w5 [(0, 4), (1, 16)] [(0, 4), (1, 16)] (hpx2.step (hS20.kept hBY)).1 (hS20.aw 8 rfl jU) (by simp) (by simp)) fun H19 hS21 => ?_
 rw [decide_eq_true rfl]
 simp (disch := omega) only [↓RA, RZ, simprocAttr, hn, a2T, a2z]
 refine hS21.ag [I 1, I 16, I 52] b6Y c2x rfl rfl (by simp [Value.cells]) rfl rfl (by decide) (by decide) fun w6 H20 hS22 => ?_
 simp only [RT] at hS22
 simp (disch := omega) only [↓RA, RZ, simprocAttr, hn]
 have hhe : [a8g o (1, 16)] = [((1, 16), (52 : Int))] := by
  unfold a8g
  rw [show ((1, 16) : Ct).1.toNat = 1 from rfl, q6.2.2.2]
  rfl
 refine hS22.cF (a9p dv w6 [a8g o (1, 16)] [((1, 16), 52)] (hS22.aw 6 rfl (fun _ => rfl)) (hS22.aw 9 rfl (fun _ => rfl)) (by simp) (by simp)) fun H21 hS23 => ?_
 rw [decide_eq_true hhe]
 simp (disch := omega) only [↓RA, RZ, simprocAttr, hn, c5O]
 exact hS0.forget.trans (hS12.aj hBX (hS14.aj hBY hS23)).forget
def swp {α : Type} [Inhabited α] (xs : List α) (i j : Nat) : List α := (xs.set i (iB xs j)).set j (iB xs i)
theorem oZ {α : Type} [Inhabited α] (xs : List α) (i j : Nat) : (swp xs i j).length = xs.length := by unfold swp; rw [ee, ee]
def swR {α : Type} [Inhabited α] (xs : List α) (a b : Nat) : Nat → List α
 | 0 => xs
 | n + 1 => swp (swR xs a b n) (a + n) (b + n)
theorem oA {α : Type} [Inhabited α] (xs : List α) (a b : Nat) : ∀ n, (swR xs a b n).length = xs.length
 | 0 => rfl
 | n + 1 => by rw [swR, oZ, oA xs a b n]
theorem qY (xs : List ((Int × Int) × Int)) (i : Nat) (y : (Int × Int) × Int) (hi : i < xs.length) :
 (((xs.flatMap kC).set (i * (2 + 1)) (I y.1.1)).set (i * (2 + 1) + 1) (I y.1.2)).set (i * (2 + 1) + 1 + 1) (I y.2) = (xs.set i y).flatMap kC := by
 rw [← lZ ((((_ : List Value).set (i * (2 + 1)) _).set (i * (2 + 1) + 1) _).set (i * (2 + 1) + 1 + 1) _) (i * (2 + 1) + 1 + 1 + 1), ← jD, ← jD, ← jD]
 exact qB (n := 3) (cel := kC) (fun _ => rfl) xs i 0 [_, _, _] y hi (by simp) rfl
theorem b0F {B : Base} {v : Value} {xs : List ((Int × Int) × Int)} (hS : St prog B H [⟨v, 3, xs.flatMap kC⟩]) (hl : xs.length < 100000) (a b m : Nat) (ha : a + m ≤ xs.length) (hb : b + m ≤ xs.length) (k : FuncId) (caps : List Value) :
 Fn prog 226 [v, I a, I b, I m, .func (.func k) #[] caps.toArray] H fun r H' => r = .tuple #[] ∧ St prog B H' [⟨v, 3, (swR xs a b m).flatMap kC⟩] := by
 refine .cP func226 rfl (by kernel_rfl) (m := 38) rfl fun l hn g0 g1 g2 g3 g4 => ?_
 simp (disch := omega) only [↓RA, RB, simprocAttr]
 refine Wp.al (fun n l H' => l.length = 38 ∧ get l 1 = I a ∧ get l 2 = I b ∧ get l 3 = I m ∧ ∃ (i : Nat), (n + i = m) ∧ get l 10 = I i ∧ get l 0 = v ∧ St prog B H' [⟨v, 3, (swR xs a b i).flatMap kC⟩]) m ?_ ?_
 ·simp (disch := omega) only [RB, RC, simprocAttr, hn, g0, g1, g2, g3]
  exact ⟨0, by omega, rfl, hS⟩
 rintro n l H1 ⟨hn, g1, g2, g3, i, hi, mB, g0, hS1⟩
 have hlr := oA xs a b i
 have hlc : ((swR xs a b i).flatMap kC).length = (swR xs a b i).length * 3 := iG (n := 3) (cel := kC) (fun _ => rfl) _
 simp (disch := omega) only [↓RA, RB, simprocAttr, hn, g3, mB]
 refine iA (fun q => ?_) (fun q => ?_)
 ·have e1 := qY (swR xs a b i) (a + i) (iB (swR xs a b i) (b + i)) (by omega)
  have e2 := qY ((swR xs a b i).set (a + i) (iB (swR xs a b i) (b + i))) (b + i) (iB (swR xs a b i) (a + i)) (by rw [ee]; omega)
  have hls : ((swR xs a b i).set (a + i) (iB (swR xs a b i) (b + i))).length = xs.length := by rw [ee]; exact hlr
  have hlc2 : (((swR xs a b i).set (a + i) (iB (swR xs a b i) (b + i))).flatMap kC).length = ((swR xs a b i).set (a + i) (iB (swR xs a b i) (b + i))).length * 3 := iG (n := 3) (cel := kC) (fun _ => rfl) _
  have j1 : (a : Int) + (i : Int) = ((a + i : Nat) : Int) := (Int.natCast_add a i).symm
  have j2 : (b : Int) + (i : Int) = ((b + i : Nat) : Int) := (Int.natCast_add b i).symm
  simp (disch := omega) only [↓RA, RC, simprocAttr, q]
  refine Wp.drw jV (by kernel_rfl) ?_
  simp (disch := omega) only [↓RA, RZ, simprocAttr, hn, g1, g2, mB, g0, (hS1.aw 0 rfl (fun _ => rfl)).idx, (hS1.aw 0 rfl (fun _ => rfl)).ai, kC, j1, j2]
  refine hS1.aA 0 rfl [_, _, _] rfl rfl a2l (by simp) (by rw [hlc]; simp only [dz, dC]; omega) fun H2 hS2 => ?_
  simp only [RT] at hS2
  simp (disch := omega) only [↓RA, RZ, simprocAttr, hn]
  rw [e1] at hS2
  simp (disch := omega) only [↓RA, RZ, simprocAttr, hn, (hS2.aw 0 rfl (fun _ => rfl)).idx]
  refine hS2.aA 0 rfl [_, _, _] rfl rfl a2l (by simp) (by rw [hlc2]; simp only [dz, dC]; omega) fun H3 hS3 => ?_
  simp only [RT] at hS3
  simp (disch := omega) only [↓RA, RZ, simprocAttr, hn, g1, g2, g3, mB, g0]
  rw [e2] at hS3
  exact ⟨n - 1, by omega, i + 1, by omega, by simp, hS3⟩
 simp (disch := omega) only [↓RA, RZ, simprocAttr, c5l, q]
 have e : i = m := by omega
 rw [← e]
 exact hS1
def wF {α : Type} [Inhabited α] : Nat → List α → Nat → Nat → Nat → List α
 | 0, xs, _, _, _ => xs
 | n + 1, xs, m, i, j => if i = j then swR xs (m - i) m i else if j < i then wF n (swR xs (m - i) m j) m (i - j) j else wF n (swR xs (m - i) (m + j - i) i) m i (j - i)
theorem b3T {α : Type} [Inhabited α] {n : Nat} (h : 0 < n) (xs : List α) (m i j : Nat) : wF n xs m i j = if i = j then swR xs (m - i) m i else if j < i then wF (n - 1) (swR xs (m - i) m j) m (i - j) j else wF (n - 1) (swR xs (m - i) (m + j - i) i) m i (j - i) := by
 cases n with
 | zero => omega
 | succ n => rfl
theorem c2U {B : Base} {v : Value} {xs : List ((Int × Int) × Int)} (hS : St prog B H [⟨v, 3, xs.flatMap kC⟩]) (hl : xs.length < 100000) (a m b : Nat) (ha : a < m) (hm : m < b) (hb : b ≤ xs.length) (k : FuncId) (caps : List Value) :
 Fn prog 178 [v, I a, I m, I b, .func (.func k) #[] caps.toArray] H fun r H' => r = .tuple #[] ∧ St prog B H' [⟨v, 3, (wF (b - a) xs m (m - a) (b - m)).flatMap kC⟩] := by
 have j1 : (m : Int) - (a : Int) = ((m - a : Nat) : Int) := by omega
 have j2 : (b : Int) - (m : Int) = ((b - m : Nat) : Int) := by omega
 refine .cP func178 rfl (by kernel_rfl) (m := 58) rfl fun l hn g0 g1 g2 g3 g4 => ?_
 simp (disch := omega) only [↓RA, RB, simprocAttr, hn, g1, g2, g3, j1, j2]
 refine Wp.al (fun n l H' => l.length = 58 ∧ get l 2 = I m ∧ get l 4 = .func (.func k) #[] caps.toArray ∧ ∃ (ys : List ((Int × Int) × Int)) (i : Nat) (j : Nat), (0 < i ∧ 0 < j ∧ i ≤ m ∧ m + j ≤ xs.length ∧ i + j ≤ n ∧ ys.length = xs.length ∧ wF n ys m i j = wF (b - a) xs m (m - a) (b - m)) ∧ get l 10 = I i ∧ get l 11 = I j ∧ get l 0 = v ∧ St prog B H' [⟨v, 3, ys.flatMap kC⟩]) (b - a) ?_ ?_
 ·simp (disch := omega) only [RB, RC, simprocAttr, hn, g0, g2, g4]
  exact ⟨xs, m - a, b - m, ⟨by omega, by omega, by omega, by omega, by omega, rfl, rfl⟩, rfl, rfl, hS⟩
 rintro n l H1 ⟨hn, g2, g4, ys, i, j, ⟨c1,c2,c3,c4,c5,c6,c7⟩, mB, g11, g0, hS1⟩
 rw [b3T (by omega)] at c7
 have j3 : (m : Int) - (i : Int) = ((m - i : Nat) : Int) := by omega
 simp (disch := omega) only [↓RA, RB, simprocAttr, hn, mB, g11]
 refine iA (fun q => ?_) (fun q => ?_)
 ·rw [if_neg (by omega)] at c7
  simp (disch := omega) only [↓RA, RZ, simprocAttr, hn, mB, g11, q]
  refine iA (fun q2 => ?_) (fun q2 => ?_)
  ·rw [if_pos (by omega)] at c7
   have j4 : (i : Int) - (j : Int) = ((i - j : Nat) : Int) := by omega
   simp (disch := omega) only [↓RA, RZ, simprocAttr, hn, g2, g4, mB, g11, g0, q, q2, j3]
   have hM1 := hS1.pick (os' := [⟨v, 3, _⟩]) [0] (by decide) rfl
   have hR1 := hS1.pick (os' := [⟨v, 3, _⟩]) [0] (by decide) rfl
   refine iF (b0F hM1.aF (by omega) (m - i) m j (by omega) (by omega) k caps) ?_
   rintro r H2 ⟨rfl, hT1⟩
   have hS2 := hR1.frame hT1
   simp only [RT] at hS2
   simp (disch := omega) only [↓RA, RZ, simprocAttr, hn, g2, g4, mB, g11, g0, q, q2, j4]
   exact ⟨n - 1, by omega, swR ys (m - i) m j, i - j, j, ⟨by omega, by omega, by omega, by omega, by omega, by rw [oA]; exact c6, c7⟩, rfl, rfl, hS2⟩
  rw [if_neg (by omega)] at c7
  have j4 : (j : Int) - (i : Int) = ((j - i : Nat) : Int) := by omega
  have j5 : (m : Int) + (j : Int) - (i : Int) = ((m + j - i : Nat) : Int) := by omega
  simp (disch := omega) only [↓RA, RZ, simprocAttr, hn, g2, g4, mB, g11, g0, q, q2, j3, j5]
  have hM2 := hS1.pick (os' := [⟨v, 3, _⟩]) [0] (by decide) rfl
  have hR2 := hS1.pick (os' := [⟨v, 3, _⟩]) [0] (by decide) rfl
  refine iF (b0F hM2.aF (by omega) (m - i) (m + j - i) i (by omega) (by omega) k caps) ?_
  rintro r H3 ⟨rfl, hT2⟩
  have hS3 := hR2.frame hT2
  simp only [RT] at hS3
  simp (disch := omega) only [↓RA, RZ, simprocAttr, hn, g2, g4, mB, g11, g0, q, q2, j4]
  exact ⟨n - 1, by omega, swR ys (m - i) (m + j - i) i, i, j - i, ⟨by omega, by omega, by omega, by omega, by omega, by rw [oA]; exact c6, c7⟩, rfl, rfl, hS3⟩
 rw [if_pos (by omega)] at c7
 simp (disch := omega) only [↓RA, RZ, simprocAttr, hn, g2, g4, mB, g0, q, j3]
 have hM3 := hS1.pick (os' := [⟨v, 3, _⟩]) [0] (by decide) rfl
 have hR3 := hS1.pick (os' := [⟨v, 3, _⟩]) [0] (by decide) rfl
 refine iF (b0F hM3.aF (by omega) (m - i) m i (by omega) (by omega) k caps) ?_
 rintro r H4 ⟨rfl, hT3⟩
 have hS4 := hR3.frame hT3
 simp only [RT] at hS4
 simp (disch := omega) only [↓RA, RZ, simprocAttr, c4y, q]
 rw [← c7]
 exact hS4
abbrev Hr := (Int × Int) × Int
theorem xB {α : Type} [Inhabited α] {xs : List α} {i j : Nat} (hi : i < xs.length) (hj : j < xs.length) {x : α} (h : x ∈ swp xs i j) : x ∈ xs := by
 unfold swp at h
 rcases fU h with h | rfl
 ·rcases fU h with h | rfl
  ·exact h
  ·exact iD hj
 ·exact iD hi
def a0t {α : Type} [Inhabited α] (lt : α → α → Bool) (a : Nat) : Nat → List α → List α
 | 0, xs => xs
 | j + 1, xs => if a < j + 1 ∧ lt (iB xs (j + 1)) (iB xs j) = true then a0t lt a j (swp xs (j + 1) j) else xs
def a0X {α : Type} [Inhabited α] (lt : α → α → Bool) (a : Nat) : Nat → Nat → List α → List α
 | 0, _, xs => xs
 | n + 1, i, xs => a0X lt a n (i + 1) (a0t lt a i xs)
theorem a1s {α : Type} [Inhabited α] (lt : α → α → Bool) (a : Nat) : ∀ (j : Nat) (xs : List α), (a0t lt a j xs).length = xs.length
 | 0, _ => rfl
 | j + 1, xs => by
   rw [a0t]
   split
   ·rw [a1s lt a j, oZ]
   ·rfl
theorem a6G {α : Type} [Inhabited α] (lt : α → α → Bool) (a : Nat) : ∀ (j : Nat) (xs : List α), j < xs.length → ∀ x ∈ a0t lt a j xs, x ∈ xs
 | 0, _, _, _, h => h
 | j + 1, xs, hj, x, h => by
   rw [a0t] at h
   split at h
   ·exact xB (by omega) (by omega) (a6G lt a j _ (by rw [oZ]; omega) x h)
   ·exact h
theorem b2M {α : Type} [Inhabited α] (lt : α → α → Bool) (a j : Nat) (h : 0 < j) (xs : List α) : a0t lt a j xs = if a < j ∧ lt (iB xs j) (iB xs (j - 1)) = true then a0t lt a (j - 1) (swp xs j (j - 1)) else xs := by
 cases j with
 | zero => omega
 | succ j => rfl
theorem a4b {α : Type} [Inhabited α] (lt : α → α → Bool) (a n i : Nat) (h : 0 < n) (xs : List α) : a0X lt a n i xs = a0X lt a (n - 1) (i + 1) (a0t lt a i xs) := by
 cases n with
 | zero => omega
 | succ n => rfl
structure CmpK (B : Base) (k : FuncId) (caps : List Value) (Q : Hr → Prop) (lt : Hr → Hr → Bool) : Prop where
 ok : ∃ cf : Hr → Hr → Int, (∀ x y, Q x → Q y → (cf x y < 0 ↔ lt x y = true)) ∧ ∀ x y, Q x → Q y → ∀ {H1 : Heap} {os : List Ob}, St prog B H1 os → Fn prog k (.agg #[I x.1.1, I x.1.2, I x.2] :: .agg #[I y.1.1, I y.1.2, I y.2] :: caps) H1 fun r H2 => r = I (cf x y) ∧ St prog H1 H2 []
theorem b6k {B : Base} {v : Value} {xs : List Hr} (hS : St prog B H [⟨v, 3, xs.flatMap kC⟩]) (hl : xs.length < 100000) (a b : Nat) (hab : a ≤ b) (hb : b ≤ xs.length) (k : FuncId) (caps : List Value) {Q : Hr → Prop} {lt : Hr → Hr → Bool} (hk : CmpK B k caps Q lt) (hQ : ∀ x ∈ xs, Q x) :
 Fn prog 128 [v, I a, I b, .func (.func k) #[] caps.toArray] H fun r H' => r = .tuple #[] ∧ St prog B H' [⟨v, 3, (a0X lt a (b - (a + 1)) (a + 1) xs).flatMap kC⟩] := by
 obtain ⟨cf, hcl, hcf⟩ := hk.ok
 refine .cI func128 rfl (by kernel_rfl) (m := 53) rfl fun l hn g0 g1 g2 g3 => ?_
 simp (disch := omega) only [↓RA, RB, simprocAttr, hn, g1]
 refine Wp.al (fun n l H' => l.length = 53 ∧ get l 1 = I a ∧ get l 2 = I b ∧ get l 3 = .func (.func k) #[] caps.toArray ∧ ∃ (ys : List Hr) (i : Nat), (n = b - i ∧ a + 1 ≤ i ∧ ys.length = xs.length ∧ (∀ x ∈ ys, Q x) ∧ a0X lt a n i ys = a0X lt a (b - (a + 1)) (a + 1) xs) ∧ get l 8 = I i ∧ get l 0 = v ∧ St prog B H' [⟨v, 3, ys.flatMap kC⟩]) (b - (a + 1)) ?_ ?_
 ·simp (disch := omega) only [RB, RC, simprocAttr, hn, g0, g1, g2, g3]
  exact ⟨xs, a + 1, ⟨rfl, by omega, rfl, hQ, rfl⟩, by simp, hS⟩
 rintro n l H1 ⟨hn, g1, g2, g3, ys, i, ⟨c1,c2,c3,c4,c5⟩, g8, g0, hS1⟩
 simp (disch := omega) only [↓RA, RB, simprocAttr, hn, g2, g8]
 refine iA (fun q => ?_) (fun q => ?_)
 ·obtain ⟨n0, hn0⟩ : ∃ n0, n0 = n := ⟨_, rfl⟩
  rw [← hn0] at c1 c5
  simp (disch := omega) only [↓RA, RZ, simprocAttr, hn, g8, q]
  refine Wp.al (fun n l H' => l.length = 53 ∧ get l 1 = I a ∧ get l 2 = I b ∧ get l 3 = .func (.func k) #[] caps.toArray ∧ get l 8 = I i ∧ ∃ (zs : List Hr) (j : Nat), (n = j ∧ j ≤ i ∧ zs.length = xs.length ∧ (∀ x ∈ zs, Q x) ∧ a0t lt a j zs = a0t lt a i ys) ∧ get l 9 = I j ∧ get l 0 = v ∧ St prog B H' [⟨v, 3, zs.flatMap kC⟩]) i ?_ ?_
  ·simp (disch := omega) only [RB, RC, simprocAttr, hn, g1, g2, g3, g8, g0]
   exact ⟨ys, i, ⟨rfl, dq _, c3, c4, rfl⟩, rfl, hS1⟩
  rintro n l H2 ⟨hn, g1, g2, g3, g8, zs, j, ⟨d1,d2,d3,d4,d5⟩, g9, g0, hS2⟩
  simp (disch := omega) only [↓RA, simprocAttr]
  refine Wp.drw jV (by kernel_rfl) ?_
  simp (disch := omega) only [↓RA, RZ, simprocAttr, hn, g1, g9]
  refine jP (fun q1 => ?_) (fun q1 => ?_)
  ·have hj0 : 0 < j := by omega
   have hjl : j < zs.length := by omega
   have hjl2 : j - 1 < zs.length := by omega
   have j1 : (j : Int) - 1 = ((j - 1 : Nat) : Int) := by omega
   have hst := b2M lt a j hj0 zs
   simp (disch := omega) only [↓RA, RZ, simprocAttr, hn, g3, g9, g0, (hS2.aw 0 rfl (fun _ => rfl)).idx, (hS2.aw 0 rfl (fun _ => rfl)).ai, kC, q1, j1]
   refine hS2.cF (hcf (iB zs j) (iB zs (j - 1)) (d4 _ (iD hjl)) (d4 _ (iD hjl2)) hS2) fun H3 hS3 => ?_
   have hlt := hcl (iB zs j) (iB zs (j - 1)) (d4 _ (iD hjl)) (d4 _ (iD hjl2))
   simp (disch := omega) only [↓RA, RZ, simprocAttr, hn, q1]
   refine iA (fun q2 => ?_) (fun q2 => ?_)
   ·rw [if_pos ⟨by omega, hlt.1 q2⟩] at hst
    have e1 := qY zs j (iB zs (j - 1)) hjl
    have e2 := qY (zs.set j (iB zs (j - 1))) (j - 1) (iB zs j) (by rw [ee]; omega)
    have hls : (zs.set j (iB zs (j - 1))).length = xs.length := by rw [ee]; exact d3
    have hlc : (zs.flatMap kC).length = zs.length * 3 := iG (n := 3) (cel := kC) (fun _ => rfl) _
    have hlc2 : ((zs.set j (iB zs (j - 1))).flatMap kC).length = (zs.set j (iB zs (j - 1))).length * 3 := iG (n := 3) (cel := kC) (fun _ => rfl) _
    simp (disch := omega) only [↓RA, RC, simprocAttr, q1, q2]
    refine Wp.drw jV (by kernel_rfl) ?_
    simp (disch := omega) only [↓RA, RZ, simprocAttr, hn, g9, g0, (hS3.aw 0 rfl (fun _ => rfl)).idx, (hS3.aw 0 rfl (fun _ => rfl)).ai, kC, j1]
    refine hS3.aA 0 rfl [_, _, _] rfl rfl a2l (by simp) (by rw [hlc]; simp only [dz, dC]; omega) fun H4 hS4 => ?_
    simp only [RT] at hS4
    simp (disch := omega) only [↓RA, RZ, simprocAttr, hn]
    rw [e1] at hS4
    simp (disch := omega) only [↓RA, RZ, simprocAttr, hn, (hS4.aw 0 rfl (fun _ => rfl)).idx]
    refine hS4.aA 0 rfl [I (iB zs j).1.1, I (iB zs j).1.2, I (iB zs j).2] rfl rfl a2l (by simp) (by rw [hlc2]; simp only [dz, dC]; omega) fun H5 hS5 => ?_
    simp only [RT] at hS5
    simp (disch := omega) only [↓RA, RZ, simprocAttr, hn, g1, g2, g3, g8, g9, g0, j1]
    rw [e2] at hS5
    exact ⟨j - 1, by omega, swp zs j (j - 1), j - 1, ⟨rfl, by omega, by rw [oZ]; exact d3, fun x hx => d4 x (xB hjl hjl2 hx), by rw [← d5, hst]⟩, rfl, hS5⟩
   rw [if_neg (fun h => q2 (hlt.2 h.2))] at hst
   simp (disch := omega) only [↓RA, RZ, simprocAttr, hn, g1, g2, g3, g8, g0, q1, q2]
   exact ⟨n0 - 1, by omega, zs, i + 1, ⟨by omega, by omega, d3, d4, by rw [← c5, a4b _ _ n0 _ (by omega), ← d5, hst]⟩, by simp, hS3⟩
  have hst : a0t lt a j zs = zs := by
   cases j with
   | zero => rfl
   | succ j => rw [a0t, if_neg (fun h => by omega)]
  simp (disch := omega) only [↓RA, RZ, simprocAttr, hn, g1, g2, g3, g8, g0, q1]
  exact ⟨n0 - 1, by omega, zs, i + 1, ⟨by omega, by omega, d3, d4, by rw [← c5, a4b _ _ n0 _ (by omega), ← d5, hst]⟩, by simp, hS2⟩
 simp (disch := omega) only [↓RA, RZ, simprocAttr, c0e, q]
 have e : n = 0 := by omega
 rw [e] at c5
 rw [← c5]
 exact hS1
end Go.Ds
namespace Go.Ds
open Go
section
variable {P : Program} {H : Heap}
theorem SWr.mono : ∀ (c : Code) {l : List Value} {H : Heap} {M Q : mW}, (∀ e l H, M e l H → Q e l H) → SWr P c l H M → SWr P c l H Q := by
 intro c
 induction c with
 | skip => intro l H M Q hm h; exact hm _ _ _ h
 | label t => intro l H M Q hm h; exact hm _ _ _ h
 | exit id => intro l H M Q hm h; exact hm _ _ _ h
 | ret => intro l H M Q hm h; exact hm _ _ _ h
 | seq a b iha ihb =>
   intro l H M Q hm h
   refine iha ?_ h
   intro e l1 H1 h1
   cases e with
   | normal => exact ihb hm h1
   | exit i => exact hm _ _ _ h1
   | ret => exact hm _ _ _ h1
 | block id b ih =>
   intro l H M Q hm h
   exact ih (fun e l1 H1 h1 => hm _ _ _ h1) h
 | cond c x y ihx ihy =>
   intro l H M Q hm h
   cases c with
   | tmp t => exact wJ h (ihx hm) (ihy hm)
   | _ => exact Wp.mono h hm
 | region id ops d =>
   intro l H M Q hm h
   cases d with
   | true => exact Wp.mono h hm
   | false => exact zV (fun l H h => hm _ _ _ h) _ _ _ h
 | _ => intro l H M Q hm h; exact Wp.mono h hm
def b6p (I : List Value → Heap → Prop) (Q : mW) : mW := fun e l1 H1 => match e with | .normal => I l1 H1 | e => Q e l1 H1
theorem iT (I : List Value → Heap → Prop) (Q : mW) (l : List Value) : b6p I Q .normal l H = I l H := rfl
theorem sS {v : Value} {x y : Code} {l : List Value} {Q : mW} (I : List Value → Heap → Prop) (hm : ∀ l H, I l H → Q .normal l H) (h : pB v (SW P x l H (b6p I Q)) (SW P y l H (b6p I Q))) : pB v (SW P x l H Q) (SW P y l H Q) := by
 have hc : ∀ e l H, b6p I Q e l H → Q e l H := fun e l H h => by
  cases e with
  | normal => exact hm _ _ h
  | exit i => exact h
  | ret => exact h
 exact wJ h (SWr.mono x hc) (SWr.mono y hc)
end
end Go.Ds
namespace Go.Ds
open Go.Proofs Go.Proofs.Tryz
variable {H : Heap}
set_option maxRecDepth 10000
set_option maxHeartbeats 2000000
theorem a1g (i j : Nat) (h : i + j < 1000000) : IntKind.i64.wrap (((i : Int) + (j : Int)).fdiv (2 ^ min 1 IntKind.u64.bits)) = (((i + j) / 2 : Nat) : Int) := by
 have e : (2 : Int) ^ min 1 IntKind.u64.bits = ((2 : Nat) : Int) := rfl
 rw [e, show (i : Int) + (j : Int) = ((i + j : Nat) : Int) from (Int.natCast_add i j).symm, ← Int.ofNat_fdiv]
 exact a7F _ (by omega) (by omega)
theorem a4Z {P : Program} {a b : Code} {l : List Value} {Q : mW} (I : List Value → Heap → Prop) (hm : ∀ l H, I l H → SW P b l H Q) (h : SW P a l H (b6p I Q)) : SW P (.seq a b) l H Q :=
 SWr.mono a (fun e l H h => by
  cases e with
  | normal => exact hm _ _ h
  | exit i => exact h
  | ret => exact h) h
theorem a1f {α : Type} [Inhabited α] {xs : List α} {a b : Nat} : ∀ (n : Nat), a + n ≤ xs.length → b + n ≤ xs.length → ∀ x ∈ swR xs a b n, x ∈ xs
 | 0, _, _, _, h => h
 | n + 1, h1, h2, x, h => a1f n (by omega) (by omega) x (xB (by rw [oA]; omega) (by rw [oA]; omega) h)
theorem tV {α : Type} [Inhabited α] : ∀ (n : Nat) (xs : List α) (m i j : Nat), (wF n xs m i j).length = xs.length
 | 0, _, _, _, _ => rfl
 | n + 1, xs, m, i, j => by
   rw [wF]
   split
   ·rw [oA]
   ·split
    ·rw [tV n, oA]
    ·rw [tV n, oA]
theorem yP {α : Type} [Inhabited α] : ∀ (n : Nat) (xs : List α) (m i j : Nat), i ≤ m → m + j ≤ xs.length → ∀ x ∈ wF n xs m i j, x ∈ xs
 | 0, _, _, _, _, _, _, _, h => h
 | n + 1, xs, m, i, j, h1, h2, x, h => by
   rw [wF] at h
   split at h
   ·exact a1f i (by omega) (by omega) x h
   ·split at h
    ·exact a1f j (by omega) (by omega) x (yP n _ m (i - j) j (by omega) (by rw [oA]; exact h2) x h)
    ·exact a1f i (by omega) (by omega) x (yP n _ m i (j - i) h1 (by rw [oA]; omega) x h)
def bsF (f : Nat → Bool) : Nat → Nat → Nat → Nat
 | 0, i, _ => i
 | n + 1, i, j => if i < j then (if f ((i + j) / 2) = true then bsF f n ((i + j) / 2 + 1) j else bsF f n i ((i + j) / 2)) else i
theorem a5v (f : Nat → Bool) (n i j : Nat) (h : ¬ i < j) : bsF f n i j = i := by
 cases n with
 | zero => rfl
 | succ n => rw [bsF, if_neg h]
theorem a1P (f : Nat → Bool) (n i j : Nat) (hn : 0 < n) (h : i < j) : bsF f n i j = if f ((i + j) / 2) = true then bsF f (n - 1) ((i + j) / 2 + 1) j else bsF f (n - 1) i ((i + j) / 2) := by
 cases n with
 | zero => omega
 | succ n => rw [bsF, if_pos h]; rfl
theorem a2t (f : Nat → Bool) : ∀ (n i j : Nat), i ≤ j → i ≤ bsF f n i j ∧ bsF f n i j ≤ j
 | 0, i, j, h => ⟨dq _, h⟩
 | n + 1, i, j, h => by
   rw [bsF]
   split
   ·split
    ·have := a2t f n ((i + j) / 2 + 1) j (by omega); omega
    ·have := a2t f n i ((i + j) / 2) (by omega); omega
   ·exact ⟨dq _, h⟩
def upR {α : Type} [Inhabited α] : Nat → Nat → List α → List α
 | 0, _, xs => xs
 | n + 1, k, xs => upR n (k + 1) (swp xs k (k + 1))
def dnR {α : Type} [Inhabited α] : Nat → Nat → List α → List α
 | 0, _, xs => xs
 | n + 1, k, xs => dnR n (k - 1) (swp xs k (k - 1))
def qK {α : Type} [Inhabited α] (lt : α → α → Bool) : Nat → List α → Nat → Nat → Nat → List α
 | 0, xs, _, _, _ => xs
 | f + 1, xs, a, m, b =>
   if m - a = 1 then upR (bsF (fun h => lt (iB xs h) (iB xs a)) (b - m) m b - 1 - a) a xs
   else if b - m = 1 then dnR (m - bsF (fun h => !lt (iB xs m) (iB xs h)) (m - a) a m) m xs
   else
    let s0 := if (a + b) / 2 < m then (a + b) / 2 + m - b else a
    let r0 := if (a + b) / 2 < m then (a + b) / 2 else m
    let st := bsF (fun c => !lt (iB xs ((a + b) / 2 + m - 1 - c)) (iB xs c)) (r0 - s0) s0 r0
    let en := (a + b) / 2 + m - st
    let ys := if st < m ∧ m < en then wF (en - st) xs m (m - st) (en - m) else xs
    let zs := if a < st ∧ st < (a + b) / 2 then qK lt f ys a st ((a + b) / 2) else ys
    if (a + b) / 2 < en ∧ en < b then qK lt f zs ((a + b) / 2) en b else zs
theorem b1z {α : Type} [Inhabited α] : ∀ (n k : Nat) (xs : List α), (upR n k xs).length = xs.length
 | 0, _, _ => rfl
 | n + 1, k, xs => by rw [upR, b1z n, oZ]
theorem b0K {α : Type} [Inhabited α] : ∀ (n k : Nat) (xs : List α), (dnR n k xs).length = xs.length
 | 0, _, _ => rfl
 | n + 1, k, xs => by rw [dnR, b0K n, oZ]
theorem b0S {α : Type} [Inhabited α] : ∀ (n k : Nat) (xs : List α), (n = 0 ∨ k + n < xs.length) → ∀ x ∈ upR n k xs, x ∈ xs
 | 0, _, _, _, _, h => h
 | n + 1, k, xs, hk, x, h => xB (by omega) (by omega) (b0S n (k + 1) _ (by rw [oZ]; omega) x h)
theorem b1y {α : Type} [Inhabited α] : ∀ (n k : Nat) (xs : List α), n ≤ k → k < xs.length → ∀ x ∈ dnR n k xs, x ∈ xs
 | 0, _, _, _, _, _, h => h
 | n + 1, k, xs, h1, h2, x, h => xB (by omega) (by omega) (b1y n (k - 1) _ (by omega) (by rw [oZ]; omega) x h)
theorem tK {α : Type} [Inhabited α] (lt : α → α → Bool) : ∀ (f : Nat) (xs : List α) (a m b : Nat), (qK lt f xs a m b).length = xs.length
 | 0, _, _, _, _ => rfl
 | f + 1, xs, a, m, b => by
   rw [qK]
   split
   ·rw [b1z]
   ·split
    ·rw [b0K]
    ·dsimp only
     repeat (first | rfl | rw [tK lt f] | rw [tV] | split)
theorem uJ {α : Type} [Inhabited α] (lt : α → α → Bool) : ∀ (f : Nat) (xs : List α) (a m b : Nat), a < m → m < b → b ≤ xs.length → ∀ x ∈ qK lt f xs a m b, x ∈ xs
 | 0, _, _, _, _, _, _, _, _, h => h
 | f + 1, xs, a, m, b, h1, h2, h3, x, h => by
   rw [qK] at h
   split at h
   ·have := a2t (fun h => lt (iB xs h) (iB xs a)) (b - m) m b (by omega)
    exact b0S _ _ _ (by omega) x h
   ·split at h
    ·have := a2t (fun h => !lt (iB xs m) (iB xs h)) (m - a) a m (by omega)
     exact b1y _ _ _ (by omega) (by omega) x h
    ·dsimp only at h
     obtain ⟨s0, hs0⟩ : ∃ s0, s0 = (if (a + b) / 2 < m then (a + b) / 2 + m - b else a) := ⟨_, rfl⟩
     obtain ⟨r0, hr0⟩ : ∃ r0, r0 = (if (a + b) / 2 < m then (a + b) / 2 else m) := ⟨_, rfl⟩
     have hb : s0 ≤ r0 ∧ a ≤ s0 ∧ r0 ≤ (a + b) / 2 ∧ r0 ≤ m ∧ (a + b) / 2 + m ≤ b + s0 := by rw [hs0, hr0]; split <;> omega
     rw [← hs0, ← hr0] at h
     obtain ⟨b1, b2, b3, b4, b5⟩ := hb
     obtain ⟨st, hst⟩ : ∃ st, st = bsF (fun c => !lt (iB xs ((a + b) / 2 + m - 1 - c)) (iB xs c)) (r0 - s0) s0 r0 := ⟨_, rfl⟩
     have hin : s0 ≤ st ∧ st ≤ r0 := by rw [hst]; exact a2t _ _ _ _ b1
     rw [← hst] at h
     obtain ⟨ys, hys⟩ : ∃ ys, ys = (if st < m ∧ m < (a + b) / 2 + m - st then wF ((a + b) / 2 + m - st - st) xs m (m - st) ((a + b) / 2 + m - st - m) else xs) := ⟨_, rfl⟩
     rw [← hys] at h
     have hyl : ys.length = xs.length := by
      rw [hys]
      split
      ·rw [tV]
      ·rfl
     have hym : ∀ x ∈ ys, x ∈ xs := by
      rw [hys]
      split
      ·exact fun x hx => yP _ _ _ _ _ (by omega) (by omega) x hx
      ·exact fun _ h => h
     obtain ⟨zs, hzs⟩ : ∃ zs, zs = (if a < st ∧ st < (a + b) / 2 then qK lt f ys a st ((a + b) / 2) else ys) := ⟨_, rfl⟩
     rw [← hzs] at h
     have hzl : zs.length = xs.length := by
      rw [hzs]
      split
      ·rw [tK]; exact hyl
      ·exact hyl
     have hzm : ∀ x ∈ zs, x ∈ xs := by
      rw [hzs]
      split
      ·rename_i hq
       exact fun x hx => hym x (uJ lt f ys _ _ _ hq.1 hq.2 (by omega) x hx)
      ·exact hym
     split at h
     ·rename_i hq
      exact hzm x (uJ lt f zs _ _ _ hq.1 hq.2 (by omega) x h)
     ·exact hzm x h
theorem b1f {B : Base} {v : Value} (k : FuncId) (caps : List Value) {Q : Hr → Prop} {lt : Hr → Hr → Bool} (hk : CmpK B k caps Q lt) : ∀ (f : Nat) {H : Heap} (xs : List Hr) (a m b : Nat), b - a ≤ f → St prog B H [⟨v, 3, xs.flatMap kC⟩] → xs.length < 100000 → a < m → m < b → b ≤ xs.length → (∀ x ∈ xs, Q x) →
 Fn prog 129 [v, I a, I m, I b, .func (.func k) #[] caps.toArray] H fun r H' => r = .tuple #[] ∧ St prog B H' [⟨v, 3, (qK lt f xs a m b).flatMap kC⟩] := by
 obtain ⟨cf, hcl, hcf⟩ := hk.ok
 intro f
 induction f with
 | zero => intro H xs a m b h; omega
 | succ f ih =>
 intro H xs a m b hf hS hl ham hmb hb hQ
 have j1 : (m : Int) - (a : Int) = ((m - a : Nat) : Int) := by omega
 have j2 : (b : Int) - (m : Int) = ((b - m : Nat) : Int) := by omega
 refine .cP func129 rfl (by kernel_rfl) (m := 220) rfl fun l hn g0 g1 g2 g3 g4 => ?_
 simp (disch := omega) only [↓RA, RB, simprocAttr, hn, g1, g2, j1]
 refine iA (fun q => ?_) (fun q => ?_)
 ·have hsy : qK lt (f + 1) xs a m b = upR (bsF (fun h => lt (iB xs h) (iB xs a)) (b - m) m b - 1 - a) a xs := by rw [qK, if_pos (by omega)]
  simp (disch := omega) only [↓RA, RZ, simprocAttr, hn, g2, g3, q]
  refine Wp.al (fun n l H' => l.length = 220 ∧ get l 0 = v ∧ get l 1 = I a ∧ get l 2 = I m ∧ get l 3 = I b ∧ get l 4 = .func (.func k) #[] caps.toArray ∧ ∃ (i : Nat) (j : Nat), (j - i ≤ n ∧ m ≤ i ∧ i ≤ j ∧ j ≤ b ∧ bsF (fun h => lt (iB xs h) (iB xs a)) n i j = bsF (fun h => lt (iB xs h) (iB xs a)) (b - m) m b) ∧ get l 10 = I i ∧ get l 11 = I j ∧ St prog B H' [⟨v, 3, xs.flatMap kC⟩]) (b - m) ?_ ?_
  ·simp (disch := omega) only [RB, RC, simprocAttr, hn, g0, g1, g2, g3, g4]
   exact ⟨m, b, ⟨by omega, by omega, by omega, by omega, rfl⟩, rfl, rfl, hS⟩
  rintro n l H1 ⟨hn, g0, g1, g2, g3, g4, i, j, ⟨c1,c2,c3,c4,c5⟩, mB, g11, hS1⟩
  simp (disch := omega) only [↓RA, RB, simprocAttr, hn, mB, g11]
  refine iA (fun q1 => ?_) (fun q1 => ?_)
  ·have hh := a1g i j (by omega)
   have hb2 : (i + j) / 2 < j := by omega
   have hb3 : i ≤ (i + j) / 2 := by omega
   have hlt := hcl (iB xs ((i + j) / 2)) (iB xs a) (hQ _ (iD (by omega))) (hQ _ (iD (by omega)))
   have hst := a1P (fun h => lt (iB xs h) (iB xs a)) n i j (by omega) (by omega)
   simp (disch := omega) only [↓RA, RZ, simprocAttr, hn, mB, g11, q1, hh]
   refine Wp.drw jV (by kernel_rfl) ?_
   simp (disch := omega) only [↓RA, RZ, simprocAttr, hn, g0, g4]
   simp (disch := omega) only [↓RA, RZ, simprocAttr, hn, g0, g1, (hS1.aw 0 rfl (fun _ => rfl)).idx, (hS1.aw 0 rfl (fun _ => rfl)).ai, kC]
   refine hS1.cF (hcf (iB xs ((i + j) / 2)) (iB xs a) (hQ _ (iD (by omega))) (hQ _ (iD (by omega))) hS1) fun H2 hS2 => ?_
   simp (disch := omega) only [↓RA, RB, simprocAttr, hn]
   refine iA (fun q3 => ?_) (fun q3 => ?_)
   ·rw [if_pos (hlt.1 q3)] at hst
    simp (disch := omega) only [↓RA, RZ, simprocAttr, hn, g0, g1, g2, g3, g4, g11, q3]
    exact ⟨n - 1, by omega, (i + j) / 2 + 1, j, ⟨by omega, by omega, by omega, by omega, by rw [← c5, hst]⟩, by simp, rfl, hS2⟩
   rw [if_neg (fun h => q3 (hlt.2 h))] at hst
   simp (disch := omega) only [↓RA, RZ, simprocAttr, hn, g0, g1, g2, g3, g4, mB, q3]
   exact ⟨n - 1, by omega, i, (i + j) / 2, ⟨by omega, by omega, by omega, by omega, by rw [← c5, hst]⟩, rfl, rfl, hS2⟩
  rw [a5v _ _ _ _ (by omega)] at c5
  rw [← c5] at hsy
  have j3 : (i : Int) - 1 = ((i - 1 : Nat) : Int) := by omega
  simp (disch := omega) only [↓RA, RZ, simprocAttr, hn, g1, q1]
  refine Wp.al (fun n l H' => l.length = 220 ∧ get l 1 = I a ∧ get l 2 = I m ∧ get l 3 = I b ∧ get l 4 = .func (.func k) #[] caps.toArray ∧ get l 10 = I i ∧ ∃ (ys : List Hr) (p : Nat), (n = i - 1 - p ∧ a ≤ p ∧ ys.length = xs.length ∧ upR n p ys = upR (i - 1 - a) a xs) ∧ get l 13 = I p ∧ get l 0 = v ∧ St prog B H' [⟨v, 3, ys.flatMap kC⟩]) (i - 1 - a) ?_ ?_
  ·simp (disch := omega) only [RB, RC, simprocAttr, hn, g0, g1, g2, g3, g4, mB]
   exact ⟨xs, a, ⟨rfl, by omega, rfl, rfl⟩, rfl, hS1⟩
  rintro n l H3 ⟨hn, g1, g2, g3, g4, mB, ys, p, ⟨d1,d2,d3,d4⟩, g13, g0, hS3⟩
  simp (disch := omega) only [↓RA, RB, simprocAttr, hn, mB, g13, j3]
  refine iA (fun q4 => ?_) (fun q4 => ?_)
  ·have j4 : (p : Int) + 1 = ((p + 1 : Nat) : Int) := rfl
   have hup : upR n p ys = upR (n - 1) (p + 1) (swp ys p (p + 1)) := by
    obtain ⟨n', rfl⟩ : ∃ n', n = n' + 1 := ⟨n - 1, by omega⟩
    rfl
   have e1 := qY ys p (iB ys (p + 1)) (by omega)
   have e2 := qY (ys.set p (iB ys (p + 1))) (p + 1) (iB ys p) (by rw [ee]; omega)
   have hls : (ys.set p (iB ys (p + 1))).length = xs.length := by rw [ee]; omega
   have hlc : (ys.flatMap kC).length = ys.length * 3 := iG (n := 3) (cel := kC) (fun _ => rfl) _
   have hlc2 : ((ys.set p (iB ys (p + 1))).flatMap kC).length = (ys.set p (iB ys (p + 1))).length * 3 := iG (n := 3) (cel := kC) (fun _ => rfl) _
   simp (disch := omega) only [↓RA, RC, simprocAttr, q4]
   refine Wp.drw jV (by kernel_rfl) ?_
   simp (disch := omega) only [↓RA, RZ, simprocAttr, hn, g13, g0, (hS3.aw 0 rfl (fun _ => rfl)).idx, (hS3.aw 0 rfl (fun _ => rfl)).ai, kC, j4]
   refine hS3.aA 0 rfl [_, _, _] rfl rfl a2l (by simp) (by rw [hlc]; simp only [dz, dC]; omega) fun H4 hS4 => ?_
   simp only [RT] at hS4
   simp (disch := omega) only [↓RA, RZ, simprocAttr, hn]
   rw [e1] at hS4
   simp (disch := omega) only [↓RA, RZ, simprocAttr, hn, (hS4.aw 0 rfl (fun _ => rfl)).idx]
   refine hS4.aA 0 rfl [I (iB ys p).1.1, I (iB ys p).1.2, I (iB ys p).2] rfl rfl a2l (by simp) (by rw [hlc2]; simp only [dz, dC]; omega) fun H5 hS5 => ?_
   simp only [RT] at hS5
   simp (disch := omega) only [↓RA, RZ, simprocAttr, hn, g1, g2, g3, g4, mB, g13, g0, j4]
   rw [e2] at hS5
   exact ⟨n - 1, by omega, swp ys p (p + 1), p + 1, ⟨by omega, by omega, by rw [oZ]; exact d3, by rw [← d4, hup]⟩, rfl, hS5⟩
  simp (disch := omega) only [↓RA, RZ, simprocAttr, a6w, q4]
  have e : n = 0 := by omega
  rw [e] at d4
  rw [hsy, ← d4]
  exact hS3
 simp (disch := omega) only [↓RA, RZ, simprocAttr, hn, g2, g3, j2, q]
 refine iA (fun q2 => ?_) (fun q2 => ?_)
 ·have hsy : qK lt (f + 1) xs a m b = dnR (m - bsF (fun h => !lt (iB xs m) (iB xs h)) (m - a) a m) m xs := by rw [qK, if_neg (by omega), if_pos (by omega)]
  simp (disch := omega) only [↓RA, RZ, simprocAttr, hn, g1, g2, q, q2]
  refine Wp.al (fun n l H' => l.length = 220 ∧ get l 0 = v ∧ get l 1 = I a ∧ get l 2 = I m ∧ get l 3 = I b ∧ get l 4 = .func (.func k) #[] caps.toArray ∧ ∃ (i : Nat) (j : Nat), (j - i ≤ n ∧ a ≤ i ∧ i ≤ j ∧ j ≤ m ∧ bsF (fun h => !lt (iB xs m) (iB xs h)) n i j = bsF (fun h => !lt (iB xs m) (iB xs h)) (m - a) a m) ∧ get l 14 = I i ∧ get l 15 = I j ∧ St prog B H' [⟨v, 3, xs.flatMap kC⟩]) (m - a) ?_ ?_
  ·simp (disch := omega) only [RB, RC, simprocAttr, hn, g0, g1, g2, g3, g4]
   exact ⟨a, m, ⟨by omega, by omega, by omega, by omega, rfl⟩, rfl, rfl, hS⟩
  rintro n l H6 ⟨hn, g0, g1, g2, g3, g4, i, j, ⟨c1,c2,c3,c4,c5⟩, g14, g15, hS6⟩
  simp (disch := omega) only [↓RA, RB, simprocAttr, hn, g14, g15]
  refine iA (fun q1 => ?_) (fun q1 => ?_)
  ·have hh := a1g i j (by omega)
   have hb2 : (i + j) / 2 < j := by omega
   have hb3 : i ≤ (i + j) / 2 := by omega
   have hlt := hcl (iB xs m) (iB xs ((i + j) / 2)) (hQ _ (iD (by omega))) (hQ _ (iD (by omega)))
   have hst := a1P (fun h => !lt (iB xs m) (iB xs h)) n i j (by omega) (by omega)
   simp (disch := omega) only [↓RA, RZ, simprocAttr, hn, g14, g15, q1, hh]
   refine Wp.drw jV (by kernel_rfl) ?_
   simp (disch := omega) only [↓RA, RZ, simprocAttr, hn, g0, g2, g4]
   simp (disch := omega) only [↓RA, RZ, simprocAttr, hn, g0, (hS6.aw 0 rfl (fun _ => rfl)).idx, (hS6.aw 0 rfl (fun _ => rfl)).ai, kC]
   refine hS6.cF (hcf (iB xs m) (iB xs ((i + j) / 2)) (hQ _ (iD (by omega))) (hQ _ (iD (by omega))) hS6) fun H7 hS7 => ?_
   simp (disch := omega) only [↓RA, RB, simprocAttr, hn]
   refine jM (fun q3 => ?_) (fun q3 => ?_)
   ·rw [if_pos (by rw [dF, ← ek]; exact fun h => absurd (hlt.2 h) (by simpa using q3))] at hst
    simp (disch := omega) only [↓RA, RZ, simprocAttr, hn, g0, g1, g2, g3, g4, g15, q3]
    exact ⟨n - 1, by omega, (i + j) / 2 + 1, j, ⟨by omega, by omega, by omega, by omega, by rw [← c5, hst]⟩, by simp, rfl, hS7⟩
   rw [if_neg (by rw [dF, ← ek, dD]; exact hlt.1 (by simpa using q3))] at hst
   simp (disch := omega) only [↓RA, RZ, simprocAttr, hn, g0, g1, g2, g3, g4, g14, q3]
   exact ⟨n - 1, by omega, i, (i + j) / 2, ⟨by omega, by omega, by omega, by omega, by rw [← c5, hst]⟩, rfl, rfl, hS7⟩
  rw [a5v _ _ _ _ (by omega)] at c5
  rw [← c5] at hsy
  simp (disch := omega) only [↓RA, RZ, simprocAttr, hn, g2, q1]
  refine Wp.al (fun n l H' => l.length = 220 ∧ get l 1 = I a ∧ get l 2 = I m ∧ get l 3 = I b ∧ get l 4 = .func (.func k) #[] caps.toArray ∧ get l 14 = I i ∧ ∃ (ys : List Hr) (p : Nat), (n = p - i ∧ p ≤ m ∧ i ≤ p ∧ ys.length = xs.length ∧ dnR n p ys = dnR (m - i) m xs) ∧ get l 17 = I p ∧ get l 0 = v ∧ St prog B H' [⟨v, 3, ys.flatMap kC⟩]) (m - i) ?_ ?_
  ·simp (disch := omega) only [RB, RC, simprocAttr, hn, g0, g1, g2, g3, g4, g14]
   exact ⟨xs, m, ⟨rfl, by omega, by omega, rfl, rfl⟩, rfl, hS6⟩
  rintro n l H8 ⟨hn, g1, g2, g3, g4, g14, ys, p, ⟨d1,d2,d5,d3,d4⟩, g17, g0, hS8⟩
  simp (disch := omega) only [↓RA, RB, simprocAttr, hn, g14, g17]
  refine iA (fun q4 => ?_) (fun q4 => ?_)
  ·have j4 : (p : Int) - 1 = ((p - 1 : Nat) : Int) := by omega
   have hup : dnR n p ys = dnR (n - 1) (p - 1) (swp ys p (p - 1)) := by
    obtain ⟨n', rfl⟩ : ∃ n', n = n' + 1 := ⟨n - 1, by omega⟩
    rfl
   have e1 := qY ys p (iB ys (p - 1)) (by omega)
   have e2 := qY (ys.set p (iB ys (p - 1))) (p - 1) (iB ys p) (by rw [ee]; omega)
   have hls : (ys.set p (iB ys (p - 1))).length = xs.length := by rw [ee]; omega
   have hlc : (ys.flatMap kC).length = ys.length * 3 := iG (n := 3) (cel := kC) (fun _ => rfl) _
   have hlc2 : ((ys.set p (iB ys (p - 1))).flatMap kC).length = (ys.set p (iB ys (p - 1))).length * 3 := iG (n := 3) (cel := kC) (fun _ => rfl) _
   simp (disch := omega) only [↓RA, RC, simprocAttr, q4]
   refine Wp.drw jV (by kernel_rfl) ?_
   simp (disch := omega) only [↓RA, RZ, simprocAttr, hn, g17, g0, (hS8.aw 0 rfl (fun _ => rfl)).idx, (hS8.aw 0 rfl (fun _ => rfl)).ai, kC, j4]
   refine hS8.aA 0 rfl [_, _, _] rfl rfl a2l (by simp) (by rw [hlc]; simp only [dz, dC]; omega) fun H9 hS9 => ?_
   simp only [RT] at hS9
   simp (disch := omega) only [↓RA, RZ, simprocAttr, hn]
   rw [e1] at hS9
   simp (disch := omega) only [↓RA, RZ, simprocAttr, hn, (hS9.aw 0 rfl (fun _ => rfl)).idx]
   refine hS9.aA 0 rfl [I (iB ys p).1.1, I (iB ys p).1.2, I (iB ys p).2] rfl rfl a2l (by simp) (by rw [hlc2]; simp only [dz, dC]; omega) fun H10 hS10 => ?_
   simp only [RT] at hS10
   simp (disch := omega) only [↓RA, RZ, simprocAttr, hn, g1, g2, g3, g4, g14, g17, g0, j4]
   rw [e2] at hS10
   exact ⟨n - 1, by omega, swp ys p (p - 1), p - 1, ⟨by omega, by omega, by omega, by rw [oZ]; exact d3, by rw [← d4, hup]⟩, rfl, hS10⟩
  simp (disch := omega) only [↓RA, RZ, simprocAttr, a6w, q4]
  have e : n = 0 := by omega
  rw [e] at d4
  rw [hsy, ← d4]
  exact hS8
 have hh := a1g a b (by omega)
 obtain ⟨mid, hmid⟩ : ∃ mid, mid = (a + b) / 2 := ⟨_, rfl⟩
 rw [← hmid] at hh
 have jn : (mid : Int) + (m : Int) = ((mid + m : Nat) : Int) := rfl
 simp (disch := omega) only [↓RA, RZ, simprocAttr, hn, g1, g2, g3, q, q2, hh, jn]
 refine sS (fun l H' => l.length = 220 ∧ get l 0 = v ∧ get l 1 = I a ∧ get l 2 = I m ∧ get l 3 = I b ∧ get l 4 = .func (.func k) #[] caps.toArray ∧ get l 18 = I mid ∧ get l 19 = I (mid + m : Nat) ∧ ∃ (s0 : Nat) (r0 : Nat), (s0 = (if mid < m then mid + m - b else a) ∧ r0 = (if mid < m then mid else m)) ∧ get l 20 = I s0 ∧ get l 21 = I r0 ∧ St prog B H' [⟨v, 3, xs.flatMap kC⟩]) ?_ ?_
 ·rintro l H11 ⟨hn, g0, g1, g2, g3, g4, g18, g19, s0, r0, hz, g20, g21, hS11⟩
  obtain ⟨z1, z2⟩ := hz
  have y1 : s0 ≤ r0 ∧ a ≤ s0 ∧ r0 ≤ mid ∧ r0 ≤ m ∧ mid + m ≤ b + s0 := by rw [z1, z2]; split <;> omega
  obtain ⟨y1, y2, y3, y4, y5⟩ := y1
  have jp : ((mid + m : Nat) : Int) - 1 = ((mid + m - 1 : Nat) : Int) := by omega
  simp (disch := omega) only [↓RA, RB, simprocAttr, hn, g19, jp]
  refine Wp.al (fun n l H' => l.length = 220 ∧ get l 0 = v ∧ get l 1 = I a ∧ get l 2 = I m ∧ get l 3 = I b ∧ get l 4 = .func (.func k) #[] caps.toArray ∧ get l 18 = I mid ∧ get l 19 = I (mid + m : Nat) ∧ get l 22 = I (mid + m - 1 : Nat) ∧ ∃ (i : Nat) (j : Nat), (j - i ≤ n ∧ s0 ≤ i ∧ i ≤ j ∧ j ≤ r0 ∧ bsF (fun c => !lt (iB xs (mid + m - 1 - c)) (iB xs c)) n i j = bsF (fun c => !lt (iB xs (mid + m - 1 - c)) (iB xs c)) (r0 - s0) s0 r0) ∧ get l 20 = I i ∧ get l 21 = I j ∧ St prog B H' [⟨v, 3, xs.flatMap kC⟩]) (r0 - s0) ?_ ?_
  ·simp (disch := omega) only [RB, RC, simprocAttr, hn, g0, g1, g2, g3, g4, g18, g19, g20, g21]
   exact ⟨s0, r0, ⟨by omega, by omega, by omega, by omega, rfl⟩, rfl, rfl, hS11⟩
  rintro n l H12 ⟨hn, g0, g1, g2, g3, g4, g18, g19, g22, i, j, ⟨c1,c2,c3,c4,c5⟩, g20, g21, hS12⟩
  simp (disch := omega) only [↓RA, RB, simprocAttr, hn, g20, g21]
  refine iA (fun q6 => ?_) (fun q6 => ?_)
  ·have hh2 := a1g i j (by omega)
   have hb2 : (i + j) / 2 < j := by omega
   have hb3 : i ≤ (i + j) / 2 := by omega
   have jc : ((mid + m - 1 : Nat) : Int) - (((i + j) / 2 : Nat) : Int) = ((mid + m - 1 - (i + j) / 2 : Nat) : Int) := by omega
   have hlt := hcl (iB xs (mid + m - 1 - (i + j) / 2)) (iB xs ((i + j) / 2)) (hQ _ (iD (by omega))) (hQ _ (iD (by omega)))
   have hst := a1P (fun c => !lt (iB xs (mid + m - 1 - c)) (iB xs c)) n i j (by omega) (by omega)
   simp (disch := omega) only [↓RA, RZ, simprocAttr, hn, g20, g21, q6, hh2]
   refine Wp.drw jV (by kernel_rfl) ?_
   simp (disch := omega) only [↓RA, RZ, simprocAttr, hn, g0, g4, g22, jc]
   simp (disch := omega) only [↓RA, RZ, simprocAttr, hn, g0, (hS12.aw 0 rfl (fun _ => rfl)).idx, (hS12.aw 0 rfl (fun _ => rfl)).ai, kC]
   refine hS12.cF (hcf (iB xs (mid + m - 1 - (i + j) / 2)) (iB xs ((i + j) / 2)) (hQ _ (iD (by omega))) (hQ _ (iD (by omega))) hS12) fun H13 hS13 => ?_
   simp (disch := omega) only [↓RA, RB, simprocAttr, hn]
   refine jM (fun q3 => ?_) (fun q3 => ?_)
   ·rw [if_pos (by rw [dF, ← ek]; exact fun h => absurd (hlt.2 h) (by simpa using q3))] at hst
    simp (disch := omega) only [↓RA, RZ, simprocAttr, hn, g0, g1, g2, g3, g4, g18, g19, g22, g21, q3]
    exact ⟨n - 1, by omega, (i + j) / 2 + 1, j, ⟨by omega, by omega, by omega, by omega, by rw [← c5, hst]⟩, by simp, rfl, hS13⟩
   rw [if_neg (by rw [dF, ← ek, dD]; exact hlt.1 (by simpa using q3))] at hst
   simp (disch := omega) only [↓RA, RZ, simprocAttr, hn, g0, g1, g2, g3, g4, g18, g19, g22, g20, q3]
   exact ⟨n - 1, by omega, i, (i + j) / 2, ⟨by omega, by omega, by omega, by omega, by rw [← c5, hst]⟩, rfl, rfl, hS13⟩
  rw [a5v _ _ _ _ (by omega)] at c5
  obtain ⟨en, hen⟩ : ∃ en, en = mid + m - i := ⟨_, rfl⟩
  have je : ((mid + m : Nat) : Int) - (i : Int) = (en : Int) := by omega
  simp only [b1x, a3S, a0e, vX]
  show SW prog (Code.seq _ _) _ _ _
  refine a4Z (fun l H' => l.length = 220 ∧ get l 0 = v ∧ get l 1 = I a ∧ get l 2 = I m ∧ get l 3 = I b ∧ get l 4 = .func (.func k) #[] caps.toArray ∧ get l 18 = I mid ∧ get l 20 = I i ∧ get l 24 = I en ∧ St prog B H' [⟨v, 3, xs.flatMap kC⟩]) ?_ ?_
  ·rintro l H14 ⟨hn, g0, g1, g2, g3, g4, g18, g20, g24, hS14⟩
   show SW prog (Code.seq _ _) _ _ _
   refine a4Z (fun l H' => l.length = 220 ∧ get l 1 = I a ∧ get l 3 = I b ∧ get l 4 = .func (.func k) #[] caps.toArray ∧ get l 18 = I mid ∧ get l 20 = I i ∧ get l 24 = I en ∧ ∃ (ys : List Hr), (ys = (if i < m ∧ m < en then wF (en - i) xs m (m - i) (en - m) else xs)) ∧ get l 0 = v ∧ St prog B H' [⟨v, 3, ys.flatMap kC⟩]) ?_ ?_
   ·rintro l H15 ⟨hn, g1, g3, g4, g18, g20, g24, ys, hys, g0, hS15⟩
    have hyl : ys.length = xs.length := by
     rw [hys]
     split
     ·rw [tV]
     ·rfl
    have hyQ : ∀ x ∈ ys, Q x := by
     rw [hys]
     split
     ·exact fun x hx => hQ x (yP _ _ _ _ _ (by omega) (by omega) x hx)
     ·exact hQ
    have hyQ2 := hyQ
    show SW prog (Code.seq _ _) _ _ _
    refine a4Z (fun l H' => l.length = 220 ∧ get l 3 = I b ∧ get l 4 = .func (.func k) #[] caps.toArray ∧ get l 18 = I mid ∧ get l 24 = I en ∧ ∃ (zs : List Hr), (zs = (if a < i ∧ i < mid then qK lt f ys a i mid else ys)) ∧ get l 0 = v ∧ St prog B H' [⟨v, 3, zs.flatMap kC⟩]) ?_ ?_
    ·rintro l H16 ⟨hn, g3, g4, g18, g24, zs, hzs, g0, hS16⟩
     have hsy : qK lt (f + 1) xs a m b = (if mid < en ∧ en < b then qK lt f zs mid en b else zs) := by
      rw [qK, if_neg (by omega), if_neg (by omega)]
      dsimp only
      rw [← hmid, ← z1, ← z2, ← c5, ← hen, ← hys, ← hzs]
     have hzl : zs.length = xs.length := by
      rw [hzs]
      split
      ·rw [tK]; exact hyl
      ·exact hyl
     have hzQ : ∀ x ∈ zs, Q x := by
      rw [hzs]
      split
      ·rename_i hq
       exact fun x hx => hyQ x (uJ lt f ys _ _ _ hq.1 hq.2 (by omega) x hx)
      ·exact hyQ
     simp (disch := omega) only [↓RA, RZ, simprocAttr, hn, g18, g24]
     refine jP (fun u1 => ?_) (fun u1 => ?_)
     ·simp (disch := omega) only [↓RA, RZ, simprocAttr, hn, g3, g24, u1]
      refine iA (fun u2 => ?_) (fun u2 => ?_)
      ·simp (disch := omega) only [↓RA, RZ, simprocAttr, hn, g3, g4, g18, g24, g0, u1, u2]
       refine iF (ih zs mid en b (by omega) hS16 (by omega) (by omega) (by omega) (by omega) hzQ) ?_
       rintro r H90 ⟨rfl, hS90⟩
       simp (disch := omega) only [↓RA, RZ, simprocAttr, a6w, u1, u2]
       rw [hsy, if_pos ⟨by omega, by omega⟩]
       exact hS90
      simp (disch := omega) only [↓RA, RZ, simprocAttr, a6w, u1, u2]
      rw [hsy, if_neg (by omega)]
      exact hS16
     simp (disch := omega) only [↓RA, RZ, simprocAttr, hn, a6w, u1]
     rw [hsy, if_neg (by omega)]
     exact hS16
    simp (disch := omega) only [↓RA, RZ, simprocAttr, hn, g1, g20]
    refine jP (fun v1 => ?_) (fun v1 => ?_)
    ·simp (disch := omega) only [↓RA, RZ, simprocAttr, hn, g18, g20, v1]
     refine iA (fun v2 => ?_) (fun v2 => ?_)
     ·simp (disch := omega) only [↓RA, RZ, simprocAttr, hn, g1, g4, g18, g20, g0, iT, v1, v2]
      refine iF (ih ys a i mid (by omega) hS15 (by omega) (by omega) (by omega) (by omega) hyQ) ?_
      rintro r H91 ⟨rfl, hS91⟩
      simp (disch := omega) only [↓RA, RZ, simprocAttr, hn, g3, g4, g18, g24, g0, v1, v2]
      exact ⟨_, by rw [if_pos ⟨by omega, by omega⟩], hS91⟩
     simp (disch := omega) only [↓RA, RZ, simprocAttr, hn, g3, g4, g18, g24, g0, iT, v1, v2]
     exact ⟨ys, by rw [if_neg (by omega)], hS15⟩
    simp (disch := omega) only [↓RA, RZ, simprocAttr, hn, g3, g4, g18, g24, g0, iT, v1]
    exact ⟨ys, by rw [if_neg (by omega)], hS15⟩
   simp (disch := omega) only [↓RA, RZ, simprocAttr, hn, g2, g20]
   refine jP (fun w1 => ?_) (fun w1 => ?_)
   ·simp (disch := omega) only [↓RA, RZ, simprocAttr, hn, g2, g24, w1]
    refine iA (fun w2 => ?_) (fun w2 => ?_)
    ·simp (disch := omega) only [↓RA, RZ, simprocAttr, hn, g0, g2, g4, g20, g24, iT, w1, w2]
     have hM1 := hS14.pick (os' := [⟨v, 3, _⟩]) [0] (by decide) rfl
     have hR1 := hS14.pick (os' := [⟨v, 3, _⟩]) [0] (by decide) rfl
     refine iF (c2U hM1.aF (by omega) i m en (by omega) (by omega) (by omega) k caps) ?_
     rintro r H17 ⟨rfl, hT4⟩
     have hS17 := hR1.frame hT4
     simp only [RT] at hS17
     simp (disch := omega) only [↓RA, RZ, simprocAttr, hn, g0, g1, g3, g4, g18, g20, g24, w1, w2]
     exact ⟨_, by rw [if_pos ⟨by omega, by omega⟩], hS17⟩
    simp (disch := omega) only [↓RA, RZ, simprocAttr, hn, g0, g1, g3, g4, g18, g20, g24, iT, w1, w2]
    exact ⟨xs, by rw [if_neg (by omega)], hS14⟩
   simp (disch := omega) only [↓RA, RZ, simprocAttr, hn, g0, g1, g3, g4, g18, g20, g24, iT, w1]
   exact ⟨xs, by rw [if_neg (by omega)], hS14⟩
  simp (disch := omega) only [↓RA, RZ, simprocAttr, hn, g0, g1, g2, g3, g4, g18, g19, g20, q6, iT, je]
  exact hS12
 refine iA (fun q5 => ?_) (fun q5 => ?_)
 ·have jb : ((mid + m : Nat) : Int) - (b : Int) = ((mid + m - b : Nat) : Int) := by omega
  simp (disch := omega) only [↓RA, RZ, simprocAttr, hn, g0, g1, g2, g3, g4, q, q2, iT, q5, jb]
  exact ⟨mid + m - b, mid, ⟨by rw [if_pos (by omega)], by rw [if_pos (by omega)]⟩, rfl, rfl, hS⟩
 simp (disch := omega) only [↓RA, RZ, simprocAttr, hn, g0, g1, g2, g3, g4, q, q2, iT, q5]
 exact ⟨a, m, ⟨by rw [if_neg (by omega)], by rw [if_neg (by omega)]⟩, rfl, rfl, hS⟩
theorem a8l {α : Type} [Inhabited α] (lt : α → α → Bool) (a : Nat) : ∀ (n i : Nat) (xs : List α), (a0X lt a n i xs).length = xs.length
 | 0, _, _ => rfl
 | n + 1, i, xs => by rw [a0X, a8l lt a n, a1s]
theorem a7E {α : Type} [Inhabited α] (lt : α → α → Bool) (a : Nat) : ∀ (n i : Nat) (xs : List α), (n = 0 ∨ i + n ≤ xs.length) → ∀ x ∈ a0X lt a n i xs, x ∈ xs
 | 0, _, _, _, _, h => h
 | n + 1, i, xs, hi, x, h => a6G lt a i xs (by omega) x (a7E lt a n (i + 1) _ (by rw [a1s]; omega) x h)
def a5s {α : Type} [Inhabited α] (lt : α → α → Bool) (a b : Nat) (xs : List α) : List α := a0X lt a (b - (a + 1)) (a + 1) xs
theorem a6Q {α : Type} [Inhabited α] (lt : α → α → Bool) (a b : Nat) (xs : List α) : (a5s lt a b xs).length = xs.length := a8l ..
theorem a6j {α : Type} [Inhabited α] (lt : α → α → Bool) (a b : Nat) (xs : List α) (hb : b ≤ xs.length) : ∀ x ∈ a5s lt a b xs, x ∈ xs := a7E lt a _ _ xs (by omega)
def a1B {α : Type} [Inhabited α] (lt : α → α → Bool) (N : Nat) : Nat → Nat → List α → List α
 | 0, a, xs => a5s lt a N xs
 | n + 1, a, xs => if a + 20 ≤ N then a1B lt N n (a + 20) (a5s lt a (a + 20) xs) else a5s lt a N xs
def a3b {α : Type} [Inhabited α] (lt : α → α → Bool) (N s : Nat) : Nat → Nat → List α → List α
 | 0, a, xs => if a + s < N then qK lt (N - a) xs a (a + s) N else xs
 | n + 1, a, xs => if a + 2 * s ≤ N then a3b lt N s n (a + 2 * s) (qK lt (2 * s) xs a (a + s) (a + 2 * s)) else if a + s < N then qK lt (N - a) xs a (a + s) N else xs
def vG {α : Type} [Inhabited α] (lt : α → α → Bool) (N : Nat) : Nat → Nat → List α → List α
 | 0, _, xs => xs
 | n + 1, s, xs => if s < N then vG lt N n (s * 2) (a3b lt N s N 0 xs) else xs
def a7X {α : Type} [Inhabited α] (lt : α → α → Bool) (xs : List α) : List α := vG lt xs.length xs.length 20 (a1B lt xs.length xs.length 0 xs)
theorem b6F {α : Type} [Inhabited α] (lt : α → α → Bool) (N s n a : Nat) (xs : List α) (h : ¬ a + 2 * s ≤ N) : a3b lt N s n a xs = if a + s < N then qK lt (N - a) xs a (a + s) N else xs := by
 cases n with
 | zero => rfl
 | succ n => rw [a3b, if_neg h]
theorem b3u {α : Type} [Inhabited α] (lt : α → α → Bool) (N s n a : Nat) (xs : List α) (hn : 0 < n) (h : a + 2 * s ≤ N) : a3b lt N s n a xs = a3b lt N s (n - 1) (a + 2 * s) (qK lt (2 * s) xs a (a + s) (a + 2 * s)) := by
 cases n with
 | zero => omega
 | succ n => rw [a3b, if_pos h]; rfl
theorem b6f {α : Type} [Inhabited α] (lt : α → α → Bool) (N n a : Nat) (xs : List α) (h : ¬ a + 20 ≤ N) : a1B lt N n a xs = a5s lt a N xs := by
 cases n with
 | zero => rfl
 | succ n => rw [a1B, if_neg h]
theorem b2L {α : Type} [Inhabited α] (lt : α → α → Bool) (N n a : Nat) (xs : List α) (hn : 0 < n) (h : a + 20 ≤ N) : a1B lt N n a xs = a1B lt N (n - 1) (a + 20) (a5s lt a (a + 20) xs) := by
 cases n with
 | zero => omega
 | succ n => rw [a1B, if_pos h]; rfl
theorem b2P {α : Type} [Inhabited α] (lt : α → α → Bool) (N n s : Nat) (xs : List α) (h : ¬ s < N) : vG lt N n s xs = xs := by
 cases n with
 | zero => rfl
 | succ n => rw [vG, if_neg h]
theorem a2k {α : Type} [Inhabited α] (lt : α → α → Bool) (N n s : Nat) (xs : List α) (hn : 0 < n) (h : s < N) : vG lt N n s xs = vG lt N (n - 1) (s * 2) (a3b lt N s N 0 xs) := by
 cases n with
 | zero => omega
 | succ n => rw [vG, if_pos h]; rfl
theorem b2i {B : Base} {v : Value} {xs : List Hr} (hS : St prog B H [⟨v, 3, xs.flatMap kC⟩]) (hl : xs.length < 30000) (k : FuncId) (caps : List Value) {Q : Hr → Prop} {lt : Hr → Hr → Bool} (hk : CmpK B k caps Q lt) (hQ : ∀ x ∈ xs, Q x) :
 Fn prog 74 [v, I xs.length, .func (.func k) #[] caps.toArray] H fun r H' => r = .tuple #[] ∧ St prog B H' [⟨v, 3, (a7X lt xs).flatMap kC⟩] := by
 obtain ⟨N, hN⟩ : ∃ N, N = xs.length := ⟨_, rfl⟩
 rw [← hN] at hl ⊢
 refine .bl func74 rfl (by kernel_rfl) (m := 63) rfl fun l hn g0 g1 g2 => ?_
 simp (disch := omega) only [↓RA, RB, simprocAttr, hn]
 refine Wp.al (fun n l H' => l.length = 63 ∧ get l 1 = I N ∧ get l 2 = .func (.func k) #[] caps.toArray ∧ get l 6 = I 20 ∧ ∃ (ys : List Hr) (a : Nat) (b : Nat), (b = a + 20 ∧ a ≤ N ∧ N ≤ n + a ∧ ys.length = N ∧ (∀ x ∈ ys, Q x) ∧ a1B lt N n a ys = a1B lt N N 0 xs) ∧ get l 7 = I a ∧ get l 8 = I b ∧ get l 0 = v ∧ St prog B H' [⟨v, 3, ys.flatMap kC⟩]) N ?_ ?_
 ·simp (disch := omega) only [RB, RC, simprocAttr, hn, g0, g1, g2]
  exact ⟨xs, 0, 20, ⟨rfl, by omega, by omega, hN.symm, hQ, rfl⟩, rfl, rfl, hS⟩
 rintro n l H1 ⟨hn, g1, g2, g6, ys, a, b, ⟨c1,c2,c3,c4,c5,c6⟩, g7, g8, g0, hS1⟩
 simp (disch := omega) only [↓RA, RB, simprocAttr, hn, g1, g8]
 refine iA (fun q1 => ?_) (fun q1 => ?_)
 ·simp (disch := omega) only [↓RA, RZ, simprocAttr, hn, g2, g7, g8, g0, q1]
  refine iF (b6k hS1 (by omega) a b (by omega) (by omega) k caps hk c5) ?_
  rintro r H90 ⟨rfl, hS90⟩
  have e1 : a0X lt a (b - (a + 1)) (a + 1) ys = a5s lt a (a + 20) ys := by rw [c1]; rfl
  rw [e1] at hS90
  have j1 : (b : Int) + 20 = ((b + 20 : Nat) : Int) := rfl
  simp (disch := omega) only [↓RA, RZ, simprocAttr, hn, g1, g2, g6, g8, g0, q1, j1]
  exact ⟨n - 1, by omega, a5s lt a (a + 20) ys, b, b + 20, ⟨by omega, by omega, by omega, by rw [a6Q]; exact c4, fun x hx => c5 x (a6j lt _ _ _ (by omega) x hx), by rw [← c6, b2L _ _ n _ _ (by omega) (by omega), c1]⟩, rfl, rfl, hS90⟩
 rw [b6f _ _ _ _ _ (by omega)] at c6
 simp (disch := omega) only [↓RA, RZ, simprocAttr, hn, g1, g2, g7, g0, q1]
 refine iF (b6k hS1 (by omega) a N c2 (by omega) k caps hk c5) ?_
 rintro r H91 ⟨rfl, hS91⟩
 have e2 : a0X lt a (N - (a + 1)) (a + 1) ys = a1B lt N N 0 xs := c6
 rw [e2] at hS91
 obtain ⟨ws, hws⟩ : ∃ ws, ws = a1B lt N N 0 xs := ⟨_, rfl⟩
 rw [← hws] at hS91 c6
 have hwl : ws.length = N := by rw [← c6, a6Q]; exact c4
 have hwQ : ∀ x ∈ ws, Q x := by rw [← c6]; exact fun x hx => c5 x (a6j lt _ _ _ (by omega) x hx)
 have hfin : a7X lt xs = vG lt N N 20 ws := by unfold a7X; rw [← hN, ← hws]
 simp (disch := omega) only [↓RA, RC, simprocAttr, q1]
 refine Wp.al (fun n l H' => l.length = 63 ∧ get l 1 = I N ∧ get l 2 = .func (.func k) #[] caps.toArray ∧ ∃ (us : List Hr) (s : Nat), (20 ≤ s ∧ s ≤ 60000 ∧ N ≤ n + s ∧ us.length = N ∧ (∀ x ∈ us, Q x) ∧ vG lt N n s us = vG lt N N 20 ws) ∧ get l 6 = I s ∧ get l 0 = v ∧ St prog B H' [⟨v, 3, us.flatMap kC⟩]) N ?_ ?_
 ·simp (disch := omega) only [RB, RC, simprocAttr, hn, g1, g2, g6, g0]
  exact ⟨ws, 20, ⟨by omega, by omega, by omega, hwl, hwQ, rfl⟩, rfl, hS91⟩
 rintro n l H2 ⟨hn, g1, g2, us, s, ⟨d1,d2,d3,d4,d5,d6⟩, g6, g0, hS2⟩
 simp (disch := omega) only [↓RA, RB, simprocAttr, hn, g1, g6]
 refine iA (fun q2 => ?_) (fun q2 => ?_)
 ·obtain ⟨n0, hn0⟩ : ∃ n0, n0 = n := ⟨_, rfl⟩
  rw [← hn0] at d3 d6
  have j2 : (2 : Int) * (s : Int) = ((2 * s : Nat) : Int) := rfl
  simp (disch := omega) only [↓RA, RZ, simprocAttr, hn, g6, q2, j2]
  refine Wp.al (fun n l H' => l.length = 63 ∧ get l 1 = I N ∧ get l 2 = .func (.func k) #[] caps.toArray ∧ get l 6 = I s ∧ ∃ (zs : List Hr) (p : Nat) (o : Nat), (o = p + 2 * s ∧ p ≤ N ∧ N ≤ n + p ∧ zs.length = N ∧ (∀ x ∈ zs, Q x) ∧ a3b lt N s n p zs = a3b lt N s N 0 us) ∧ get l 7 = I p ∧ get l 8 = I o ∧ get l 0 = v ∧ St prog B H' [⟨v, 3, zs.flatMap kC⟩]) N ?_ ?_
  ·simp (disch := omega) only [RB, RC, simprocAttr, hn, g1, g2, g6, g0]
   exact ⟨us, 0, 2 * s, ⟨by omega, by omega, by omega, d4, d5, rfl⟩, rfl, rfl, hS2⟩
  rintro n l H3 ⟨hn, g1, g2, g6, zs, p, o, ⟨f1,f2,f3,f4,f5,f6⟩, g7, g8, g0, hS3⟩
  have j3 : (p : Int) + (s : Int) = ((p + s : Nat) : Int) := rfl
  simp (disch := omega) only [↓RA, RB, simprocAttr, hn, g1, g8]
  refine iA (fun q3 => ?_) (fun q3 => ?_)
  ·have j4 : (o : Int) + ((2 * s : Nat) : Int) = ((o + 2 * s : Nat) : Int) := rfl
   simp (disch := omega) only [↓RA, RZ, simprocAttr, hn, g2, g6, g7, g8, g0, j3, q3]
   refine iF (b1f k caps hk (2 * s) zs p (p + s) o (by omega) hS3 (by omega) (by omega) (by omega) (by omega) f5) ?_
   rintro r H92 ⟨rfl, hS92⟩
   simp (disch := omega) only [↓RA, RZ, simprocAttr, hn, g1, g2, g6, g8, g0, j2, q3, j4]
   exact ⟨n - 1, by omega, qK lt (2 * s) zs p (p + s) o, o, o + 2 * s, ⟨rfl, by omega, by omega, by rw [tK]; exact f4, fun x hx => f5 x (uJ lt _ _ _ _ _ (by omega) (by omega) (by omega) x hx), by rw [← f6, b3u _ _ _ n _ _ (by omega) (by omega), f1]⟩, rfl, rfl, hS92⟩
  rw [b6F _ _ _ _ _ _ (by omega)] at f6
  have j5 : (s : Int) * 2 = ((s * 2 : Nat) : Int) := rfl
  simp (disch := omega) only [↓RA, RZ, simprocAttr, hn, g1, g6, g7, j3, q3]
  refine iA (fun q4 => ?_) (fun q4 => ?_)
  ·rw [if_pos (by omega)] at f6
   simp (disch := omega) only [↓RA, RZ, simprocAttr, hn, g1, g2, g7, g0, q3, q4]
   refine iF (b1f k caps hk (N - p) zs p (p + s) N (by omega) hS3 (by omega) (by omega) (by omega) (by omega) f5) ?_
   rintro r H93 ⟨rfl, hS93⟩
   simp (disch := omega) only [↓RA, RZ, simprocAttr, hn, g1, g2, g6, g0, q3, j5, q4]
   exact ⟨n0 - 1, by omega, qK lt (N - p) zs p (p + s) N, s * 2, ⟨by omega, by omega, by omega, by rw [tK]; exact f4, fun x hx => f5 x (uJ lt _ _ _ _ _ (by omega) (by omega) (by omega) x hx), by rw [← d6, a2k _ _ n0 _ _ (by omega) (by omega), ← f6]⟩, rfl, hS93⟩
  rw [if_neg (by omega)] at f6
  simp (disch := omega) only [↓RA, RZ, simprocAttr, hn, g1, g2, g6, g0, q3, j5, q4]
  exact ⟨n0 - 1, by omega, zs, s * 2, ⟨by omega, by omega, by omega, f4, f5, by rw [← d6, a2k _ _ n0 _ _ (by omega) (by omega), ← f6]⟩, rfl, hS3⟩
 rw [b2P _ _ _ _ _ (by omega)] at d6
 simp (disch := omega) only [↓RA, RZ, simprocAttr, c3e, q2]
 rw [hfin, ← d6]
 exact hS2
theorem a8z {B : Base} {v : Value} {xs : List Hr} (hS : St prog B H [⟨v, 3, xs.flatMap kC⟩]) (hl : xs.length < 30000) (k : FuncId) (caps : List Value) {Q : Hr → Prop} {lt : Hr → Hr → Bool} (hk : CmpK B k caps Q lt) (hQ : ∀ x ∈ xs, Q x) :
 Fn prog 29 [v, .func (.func k) #[] caps.toArray] H fun r H' => r = .tuple #[] ∧ St prog B H' [⟨v, 3, (a7X lt xs).flatMap kC⟩] := by
 refine .aM func29 rfl (by kernel_rfl) (m := 9) rfl fun l hn g0 g1 => ?_
 simp (disch := omega) only [↓RA, RZ, simprocAttr, hn, g0, g1, (hS.aw 0 rfl (fun _ => rfl)).len]
 refine iF (b2i hS hl k caps hk hQ) ?_
 rintro r H90 ⟨rfl, hS90⟩
 simp (disch := omega) only [↓RA, RZ, simprocAttr, c5n]
 exact hS90
end Go.Ds
namespace Go.Ds
open Go.Proofs Go.Proofs.Tryz
variable {H : Heap}
set_option maxRecDepth 10000
set_option maxHeartbeats 1000000
def ltN : Hr → Hr → Bool := fun x y => decide (x.2 < y.2)
def b4h (o : Org) (p : Ct) : Hr := (p, (iB o.ranks p.1.toNat).first + p.2 + shF ((iB o.ranks p.1.toNat).num, (iB o.ranks p.1.toNat).den) (8, 1))
def c4O (o : Org) : Prop := ∀ r ∈ o.ranks, (r.num, r.den) ∈ lO ∧ -1000 ≤ r.first ∧ r.first ≤ 1000
theorem b7D (x y : Hr) : Fn prog 62 [.agg #[I x.1.1, I x.1.2, I x.2], .agg #[I y.1.1, I y.1.2, I y.2]] H fun r H' => r = I (qG x.2 y.2) ∧ St prog H H' [] := by
 refine .aM func62 rfl (by kernel_rfl) (m := 10) rfl fun l hn g0 g1 => ?_
 simp (disch := omega) only [↓RA, RB, simprocAttr, g0]
 refine (sR H).eNew 3 [I x.1.1, I x.1.2, I x.2] rfl rfl rfl a2l fun A1 H1 hS1 => ?_
 simp only [RT] at hS1
 simp (disch := omega) only [↓RA, RB, simprocAttr, g1]
 refine hS1.eNew 3 [I y.1.1, I y.1.2, I y.2] rfl rfl rfl a2l fun A2 H2 hS2 => ?_
 simp only [RT] at hS2
 simp (disch := omega) only [↓RA, RZ, simprocAttr, hn, hS2.ld 0 rfl, hS2.ld 1 rfl]
 refine hS2.cF (sI x.2 y.2) fun H3 hS3 => ?_
 simp (disch := omega) only [↓RA, RZ, simprocAttr, hn, c5A]
 first | exact hS3.forget | exact ⟨rfl, hS3.forget⟩
theorem c4T {B : Base} : CmpK B 62 [] (fun _ => True) ltN := by
 refine ⟨fun x y => qG x.2 y.2, fun x y _ _ => ?_, fun x y _ _ {H1 os} _ => b7D x y⟩
 show (qG x.2 y.2 < 0 ↔ decide (x.2 < y.2) = true)
 unfold qG
 rw [decide_eq_true_eq]
 split
 ·exact ⟨fun _ => by assumption, fun _ => by decide⟩
 ·split <;> constructor <;> intro h <;> omega
theorem b3e (hG : Glob gH H) (o : Org) (ho : o.In H) (hrk : c4O o) (rg : Reg) (sv : Value) (hr : rg.In H sv) (kv : Value) (ks : List Nt) (hk : Ks H kv ks) (h0 : rkE o rg ks = 0) (ps : List Ct) (hsp : wT o rg ks = ps) (hll : ps.length < 30000) (hlp : ∀ p ∈ ps, 0 ≤ p.1 ∧ p.1 < o.ranks.length ∧ 0 ≤ p.2 ∧ p.2 < 1000) :
 Fn prog 22 [.agg #[.string o.name, o.rv, o.dv, o.cv], .agg #[sv, .int .u64 rg.cpl, .int .u64 rg.off], kv] H fun r H' => ∃ hv, r = .tuple #[hv, I 0] ∧ St prog H H' [⟨hv, 3, (a7X ltN (ps.map (b4h o))).flatMap kC⟩] := by
 refine .bl func22 rfl (by kernel_rfl) (m := 61) rfl fun l hn g0 g1 g2 => ?_
 simp (disch := omega) only [↓RA, RB, simprocAttr, g0]
 refine (sR H).eNew 4 [(.string o.name), o.rv, o.dv, o.cv] rfl rfl (by simp [OC, ((sR H).sl ho.1).cells.2.1, ((sR H).sl ho.2.2.1).cells.2.1, ((sR H).sl ho.2.2.2.2.1).cells.2.1]) mD fun A1 H1 hS1 => ?_
 simp only [RT] at hS1
 simp (disch := omega) only [↓RA, RB, simprocAttr, g1]
 refine hS1.eNew 3 [sv, (.int .u64 rg.cpl), (.int .u64 rg.off)] rfl rfl (by simp [OC, (hS1.sl hr.1).cells.2.1]) pG fun A2 H2 hS2 => ?_
 simp only [RT] at hS2
 simp (disch := omega) only [↓RA, RZ, simprocAttr, hn, g2, hS2.ai 0 rfl, hS2.ai 1 rfl]
 refine iF (nT (hS2.gl hG) o (ho.ae hS2) rg sv (hr.ae hS2) kv ks (hk.ae hS2)) ?_
 rintro r H3 ⟨pv, rfl, hx, hT1⟩
 have hS3 := hS2.trans hT1
 simp only [RT] at hS3
 rw [h0]
 rw [hsp] at hx
 have hS0 := hS3
 have ho2 := ho.ae hS0
 have hG2 := hS0.gl hG
 simp (disch := omega) only [↓RA, RZ, simprocAttr, hn, ((sR H3).sl hx.1).len]
 have hS4 := (sR H3).nil 2
 simp only [RT] at hS4
 refine Wp.al (fun n l H' => l.length = 61 ∧ get l 3 = (ptr A1 0 4) ∧ get l 6 = (.slice none 0 0) ∧ get l 7 = I 0 ∧ get l 26 = pv ∧ get l 27 = I ps.length ∧ ∃ (j : Nat) (ov : Value), (n + j = ps.length) ∧ get l 28 = I j ∧ get l 10 = ov ∧ St prog H3 H' [⟨ov, 3, ((ps.take j).map (b4h o)).flatMap kC⟩]) ps.length ?_ ?_
 ·simp (disch := omega) only [RB, RC, simprocAttr, hn]
  exact ⟨0, .slice none 0 0, by omega, rfl, rfl, hS4⟩
 rintro n l H4 ⟨hn, g3, g6, g7, g26, g27, j, ov, hj, g28, mB, hS5⟩
 simp (disch := omega) only [↓RA, RB, simprocAttr, hn, g27, g28]
 refine iA (fun q1 => ?_) (fun q1 => ?_)
 ·have hpj := hlp _ (iD (xs := ps) (j := j) (by omega))
  obtain ⟨e, he⟩ : ∃ e : Nat, (iB ps j).1 = e := ⟨(iB ps j).1.toNat, by have := hpj.1; omega⟩
  obtain ⟨m, hm⟩ : ∃ m : Nat, (iB ps j).2 = m := ⟨(iB ps j).2.toNat, by have := hpj.2.2.1; omega⟩
  have hel : e < o.ranks.length := by have := hpj.2.1; omega
  have hml : m < 1000 := by have := hpj.2.2.2; omega
  have hre := hrk _ (iD hel)
  have hlt : (((ps.take j).map (b4h o)).flatMap kC).length = j * 3 := by rw [iG (n := 3) (cel := kC) (fun _ => rfl), ed, gj]; omega
  simp (disch := omega) only [↓RA, RZ, simprocAttr, hn, g26, g28, (hS5.sl hx.1).idx, (hS5.sl hx.1).ai, kA, q1, he, hm]
  refine hS5.eNew 2 [I 0, I 0] rfl rfl rfl rO fun A3 H5 hS6 => ?_
  simp only [RT] at hS6
  simp (disch := omega) only [↓RA, RZ, simprocAttr, hn, q1]
  refine hS6.ab 1 rfl [I e, I m] rfl rfl rO (by simp) fun H6 hS7 => ?_
  simp only [RT] at hS7
  simp (disch := omega) only [↓RA, RZ, simprocAttr, hn, g3, ((hS0.var 0 rfl).ae hS7.ae).ld, hS7.ld 1 rfl, (hS7.sl ho2.1).idx, (hS7.sl ho2.1).ai, Rk.cells, q1]
  refine hS7.eNew 6 [(.string ⟨#[]⟩), (.string ⟨#[]⟩), I 0, I 0, I 0, (.slice none 0 0)] rfl rfl rfl tI fun A4 H7 hS8 => ?_
  simp only [RT] at hS8
  simp (disch := omega) only [↓RA, RZ, simprocAttr, hn, q1]
  refine hS8.ab 2 rfl [(.string (iB o.ranks e).name), (.string (iB o.ranks e).tone), I (iB o.ranks e).num, I (iB o.ranks e).den, I (iB o.ranks e).first, (iB o.ranks e).wv] rfl (by simp [OC, (hS8.sl (ho2.2.1 (iB o.ranks e) (iD (by omega))).1).cells.2.1]) tI (by simp) fun H8 hS9 => ?_
  simp only [RT] at hS9
  simp (disch := omega) only [↓RA, RZ, simprocAttr, hn, hS9.ai 2 rfl, rR, q1]
  refine iF (b0j (hS9.gl hG2) (a := ((iB o.ranks e).num, (iB o.ranks e).den)) hre.1) ?_
  rintro r H9 ⟨⟨rfl, hn1, hn2⟩, hT2⟩
  have hS10 := hS9.trans hT2
  simp only [RT] at hS10
  simp (disch := omega) only [↓RA, RZ, simprocAttr, hn, mB, hS10.ai 1 rfl, hS10.ld 2 rfl, hS10.ld 1 rfl, a2z, q1]
  refine hS10.ag [I e, I m, _] b6Y c2x rfl rfl (by simp [Value.cells]) rfl rfl (by decide) (by decide) fun w1 H10 hS11 => ?_
  simp only [RT] at hS11
  simp (disch := omega) only [↓RA, RZ, simprocAttr, hn, q1]
  refine hS11.ar 0 rfl (hS11.rd 3 rfl) b6Y (by rw [hlt]; simp; omega) fun w2 H11 hS12 => ?_
  simp only [RT] at hS12
  simp (disch := omega) only [↓RA, RZ, simprocAttr, hn, g3, g6, g7, g26, g27, g28, q1]
  have hpe : iB ps j = ((e : Int), (m : Int)) := gz he hm
  have hap : ((ps.take j).map (b4h o)).flatMap kC ++ [I e, I m, I ((iB o.ranks e).first + m + shF ((iB o.ranks e).num, (iB o.ranks e).den) (8, 1))] = ((ps.take (j + 1)).map (b4h o)).flatMap kC := by
   rw [vI ps j (by omega), dZ, dM, hpe]
   rfl
  rw [hap] at hS12
  exact ⟨n - 1, by omega, j + 1, w2, by omega, by simp, rfl, hS12.pick [0] (by decide) rfl⟩
 have hj1 : j = ps.length := by omega
 simp (disch := omega) only [↓RA, RZ, simprocAttr, hn, mB, q1]
 rw [hj1, eJ] at hS5
 have hnt := (hS5.aw (cel := kC) 0 rfl (fun _ => rfl)).aZ
 refine iF (a8z hS5 (by rw [ed]; exact hll) 62 [] c4T (fun _ _ => trivial)) ?_
 rintro r H90 ⟨rfl, hS90⟩
 simp (disch := omega) only [↓RA, RZ, simprocAttr, hn, mB, c0U, q1, hnt]
 exact ⟨ov, rfl, hS0.forget.trans hS90⟩
theorem a9S (hG : Glob gH H) (o : Org) (ho : o.In H) (rg : Reg) (sv : Value) (hr : rg.In H sv) (kv : Value) (ks : List Nt) (hk : Ks H kv ks) (h0 : rkE o rg ks ≠ 0) :
 Fn prog 22 [.agg #[.string o.name, o.rv, o.dv, o.cv], .agg #[sv, .int .u64 rg.cpl, .int .u64 rg.off], kv] H fun r H' => r = .tuple #[.slice none 0 0, I (rkE o rg ks)] ∧ St prog H H' [] := by
 refine .bl func22 rfl (by kernel_rfl) (m := 61) rfl fun l hn g0 g1 g2 => ?_
 simp (disch := omega) only [↓RA, RB, simprocAttr, g0]
 refine (sR H).eNew 4 [(.string o.name), o.rv, o.dv, o.cv] rfl rfl (by simp [OC, ((sR H).sl ho.1).cells.2.1, ((sR H).sl ho.2.2.1).cells.2.1, ((sR H).sl ho.2.2.2.2.1).cells.2.1]) mD fun A1 H1 hS1 => ?_
 simp only [RT] at hS1
 simp (disch := omega) only [↓RA, RB, simprocAttr, g1]
 refine hS1.eNew 3 [sv, (.int .u64 rg.cpl), (.int .u64 rg.off)] rfl rfl (by simp [OC, (hS1.sl hr.1).cells.2.1]) pG fun A2 H2 hS2 => ?_
 simp only [RT] at hS2
 simp (disch := omega) only [↓RA, RZ, simprocAttr, hn, g2, hS2.ai 0 rfl, hS2.ai 1 rfl]
 refine iF (nT (hS2.gl hG) o (ho.ae hS2) rg sv (hr.ae hS2) kv ks (hk.ae hS2)) ?_
 rintro r H3 ⟨pv, rfl, hx, hT1⟩
 have hS3 := hS2.trans hT1
 simp only [RT] at hS3
 simp (disch := omega) only [↓RA, RB, simprocAttr, hn]
 refine iA (fun hh => ?_) (fun hh => ?_)
 ·simp (disch := omega) only [↓RA, RZ, simprocAttr, hn, c0U, hh]
  exact hS3.forget
 exact absurd h0 hh
end Go.Ds
namespace Go.Ds
open Go.Proofs Go.Proofs.Tryz
variable {H : Heap}
set_option maxRecDepth 10000
set_option maxHeartbeats 2000000
theorem a2K {P : Program} (t t2 : TypeId) (cx cy : Bool) (u x y : UInt8) : lB P .add t t2 cx cy (.string ⟨#[u]⟩) (.string ⟨#[x, y]⟩) = some (.string ⟨#[u, x, y]⟩) := by
 rw [a0N _ _ _ _ _ _ (by show 1 + 2 < 9223372036854775808; decide)]
 rfl
theorem a1J {P : Program} {H : Heap} {s t : TypeId} {v : Value} {n n2 : Int} (h : RdAt H v 1 [.int .u8 n, .int .u8 n2]) (hs : kT P s = true) (ht : nR P t = true) (hbt : kT P t = false) (h0 : 0 ≤ n) (h1 : n < 256) (h2 : 0 ≤ n2) (h3 : n2 < 256) (K : Value → Heap → Prop) :
 qZ P s t H v K = K (.string ⟨#[UInt8.ofNat n.toNat, UInt8.ofNat n2.toNat]⟩) H := by
 obtain ⟨m, rfl⟩ : ∃ m : Nat, n = Int.ofNat m := ⟨n.toNat, by simp [fg h0]⟩
 obtain ⟨m2, rfl⟩ : ∃ m : Nat, n2 = Int.ofNat m := ⟨n2.toNat, by simp [fg h2]⟩
 have hm : m < 256 := by have : (m : Int) < 256 := h1; omega
 have hm2 : m2 < 256 := by have : (m2 : Int) < 256 := h3; omega
 rcases h with ⟨_, h⟩ | ⟨A, i, e, row, ty, rw, lo, ver, k, g1, g2, g3, g4, g5, g6, rfl⟩
 ·cases h
 have hk : k = 2 := by simp at g6; omega
 subst hk
 have hc : jA H A i e 2 = some [.int .u8 (Int.ofNat m), .int .u8 (Int.ofNat m2)] := by
  simp only [jA, g1]
  rw [if_pos (by simp at g4 ⊢; omega)]
  exact congrArg some g5
 have hb : mC [.int .u8 (Int.ofNat m), .int .u8 (Int.ofNat m2)] = some ⟨#[UInt8.ofNat m, UInt8.ofNat m2]⟩ := by simp [mC, a0i, xS, hm, hm2]
 have hd : opD P ⟨none, .convert s t (.const (.slice (some ⟨A, i, some e⟩) 2 1)), t, "", #[], none⟩ [] H = some (.string ⟨#[UInt8.ofNat m, UInt8.ofNat m2]⟩, H) := by
  have hf : flat (.slice (some ⟨A, i, some e⟩) 2 1) = false := rfl
  simp only [opD, ev, hf, hs, ht, hc, hb, fy, dV, if_false, Bool.and_self, if_true, dc, dO]
 unfold qZ
 rw [hd]
 apply propext
 constructor
 ·rintro ⟨v, H1, h2, h3⟩
  injection (db h2) with e1 e2
  subst e1 e2
  exact h3
 ·intro h3
  exact ⟨_, _, rfl, h3⟩
def c5c : List ByteArray := [⟨#[]⟩, ⟨#[55]⟩, ⟨#[97, 32, 98]⟩, ⟨#[70, 105, 110, 101]⟩]
def b7H : List ByteArray := [⟨#[]⟩, ⟨#[82, 48]⟩, ⟨#[82, 57]⟩]
def c3E : List ByteArray := [⟨#[]⟩, ⟨#[68, 48]⟩, ⟨#[68, 49]⟩, ⟨#[83, 111, 108, 111]⟩]
def b8Y : List ByteArray := [⟨#[]⟩, ⟨#[83, 49]⟩, ⟨#[84]⟩, ⟨#[83, 50]⟩]
def b1L : List ByteArray := [⟨#[]⟩, ⟨#[67, 48]⟩, ⟨#[68, 48]⟩]
def c4Q : List (Int × Int) := [(-1, 40), (50, 40), (0, 128), (0, 127)]
def nbn (H0 : Heap) (vs : List Value) : Nat → Prop := fun B => nb vs B ∧ H0.length ≤ B
structure ChgI (o : Org) (H0 H : Heap) (X : Nat → Prop) (rv : Value) (rks : List Rk) (dvs : List Dvn) (cv : Value) (cps : List Cpl) (d : Dvn) : Prop where
 rs : Slx 6 Rk.cells H X rv rks
 ri : ∀ G, o.In G → ∀ r ∈ rks, r.In G
 rl : rks.length < 1000000000
 di : ∀ G, o.In G → ∀ e ∈ dvs, e.In G
 dl : dvs.length ≤ 20
 cs : Slx 5 Cpl.cells H X cv cps
 cl : cps.length < 1000000000
 ss : Slx 4 Stp.cells H X d.sv d.stops
 si : ∀ G, o.In G → ∀ s ∈ d.stops, s.In G
 sl : d.stops.length < 1000000000
 rp : ∀ r ∈ rks, ∃ q ∈ o.ranks, r.num = q.num ∧ r.den = q.den ∧ r.first = q.first
structure OrgN (H0 H : Heap) (o o' : Org) : Prop where
 rs : Slx 6 Rk.cells H (fun B => H0.length ≤ B) o'.rv o'.ranks
 ri : ∀ G, o.In G → ∀ r ∈ o'.ranks, r.In G
 rl : o'.ranks.length < 1000000000
 ds : Slx 5 Dvn.cells H (fun B => H0.length ≤ B) o'.dv o'.dvs
 di : ∀ e ∈ o'.dvs, (∀ G, o.In G → e.In G) ∨ (Slx 4 Stp.cells H (fun B => H0.length ≤ B) e.sv e.stops ∧ (∀ G, o.In G → ∀ s ∈ e.stops, s.In G) ∧ e.stops.length < 1000000000)
 dl : o'.dvs.length ≤ 20
 cs : Slx 5 Cpl.cells H (fun B => H0.length ≤ B) o'.cv o'.cpls
 cl : o'.cpls.length < 1000000000
 rp : ∀ r ∈ o'.ranks, ∃ q ∈ o.ranks, r.num = q.num ∧ r.den = q.den ∧ r.first = q.first
theorem OrgN.cY {P : Program} {Hb H1 H2 H3 : Heap} {B : Base} {os os3 : List Ob} {o o' : Org} (h : OrgN H1 H2 o o') (ho : o.In Hb) (hp : St P Hb H1 os) (h2 : St P Hb H2 os) (hB : B = ⟨H2, pN os⟩) (hE : St P B H3 os3) : o'.In H3 := by
 have hU := h2.aj hB hE
 have hK := hE.kept hB
 refine ⟨((h.rs.step hp.aI).step hK).1, fun r hr => (h.ri Hb ho r hr).ae hU, ((h.ds.step hp.aI).step hK).1, fun e he => ?_, ((h.cs.step hp.aI).step hK).1, h.rl, by have := h.dl; omega, h.cl⟩
 rcases h.di e he with g | ⟨g1, g2, g3⟩
 ·exact (g Hb ho).ae hU
 ·exact ⟨((g1.step hp.aI).step hK).1, fun s hs => (g2 Hb ho s hs).ae hU, g3⟩
theorem a5P {H0 : Heap} {A1 A3 A4 : Nat} {c1 c3 c4 : List Value} {dv wr wc ws : Value} {dvs : List Dvn} {rks : List Rk} {cps : List Cpl} {sts : List Stp}
 (hS : St prog H0 H [⟨ptr A1 0 4, 0, c1⟩, ⟨ptr A3 0 4, 0, c3⟩, ⟨dv, 5, dvs.flatMap Dvn.cells⟩, ⟨ptr A4 0 5, 0, c4⟩, ⟨wr, 6, rks.flatMap Rk.cells⟩, ⟨wc, 5, cps.flatMap Cpl.cells⟩, ⟨ws, 4, sts.flatMap Stp.cells⟩]) :
 Slx 6 Rk.cells H (nbn H0 [ptr A1 0 4, ptr A3 0 4, dv, ptr A4 0 5]) wr rks ∧ Slx 5 Cpl.cells H (nbn H0 [ptr A1 0 4, ptr A3 0 4, dv, ptr A4 0 5]) wc cps ∧ Slx 4 Stp.cells H (nbn H0 [ptr A1 0 4, ptr A3 0 4, dv, ptr A4 0 5]) ws sts ∧
  St prog H0 H [⟨ptr A1 0 4, 0, c1⟩, ⟨ptr A3 0 4, 0, c3⟩, ⟨dv, 5, dvs.flatMap Dvn.cells⟩, ⟨ptr A4 0 5, 0, c4⟩] :=
 ⟨⟨(hS.cg (os' := [⟨ptr A1 0 4, 0, c1⟩, ⟨ptr A3 0 4, 0, c3⟩, ⟨dv, 5, dvs.flatMap Dvn.cells⟩, ⟨ptr A4 0 5, 0, c4⟩]) 4 rfl (fun _ => rfl) [0, 1, 2, 3] (by decide) rfl).1, fun B hb => ⟨(hS.cg (os' := [⟨ptr A1 0 4, 0, c1⟩, ⟨ptr A3 0 4, 0, c3⟩, ⟨dv, 5, dvs.flatMap Dvn.cells⟩, ⟨ptr A4 0 5, 0, c4⟩]) 4 rfl (fun _ => rfl) [0, 1, 2, 3] (by decide) rfl).2 B hb, (hS.bQ 4 rfl (fun _ => rfl)).2 B hb⟩⟩,
  ⟨(hS.cg (os' := [⟨ptr A1 0 4, 0, c1⟩, ⟨ptr A3 0 4, 0, c3⟩, ⟨dv, 5, dvs.flatMap Dvn.cells⟩, ⟨ptr A4 0 5, 0, c4⟩]) 5 rfl (fun _ => rfl) [0, 1, 2, 3] (by decide) rfl).1, fun B hb => ⟨(hS.cg (os' := [⟨ptr A1 0 4, 0, c1⟩, ⟨ptr A3 0 4, 0, c3⟩, ⟨dv, 5, dvs.flatMap Dvn.cells⟩, ⟨ptr A4 0 5, 0, c4⟩]) 5 rfl (fun _ => rfl) [0, 1, 2, 3] (by decide) rfl).2 B hb, (hS.bQ 5 rfl (fun _ => rfl)).2 B hb⟩⟩,
  ⟨(hS.cg (os' := [⟨ptr A1 0 4, 0, c1⟩, ⟨ptr A3 0 4, 0, c3⟩, ⟨dv, 5, dvs.flatMap Dvn.cells⟩, ⟨ptr A4 0 5, 0, c4⟩]) 6 rfl (fun _ => rfl) [0, 1, 2, 3] (by decide) rfl).1, fun B hb => ⟨(hS.cg (os' := [⟨ptr A1 0 4, 0, c1⟩, ⟨ptr A3 0 4, 0, c3⟩, ⟨dv, 5, dvs.flatMap Dvn.cells⟩, ⟨ptr A4 0 5, 0, c4⟩]) 6 rfl (fun _ => rfl) [0, 1, 2, 3] (by decide) rfl).2 B hb, (hS.bQ 6 rfl (fun _ => rfl)).2 B hb⟩⟩,
  hS.pick [0, 1, 2, 3] (by decide) rfl⟩
theorem mA {o : Org} {H0 : Heap} {A1 A3 A4 : Nat} {c3 : List Value} {nm nd : ByteArray} {pd : Bool} {lo hi : Int} {dv wr wc ws : Value} {dvs : List Dvn} {rks : List Rk} {cps : List Cpl} {sts : List Stp}
 (hS : St prog H0 H [⟨ptr A1 0 4, 0, [.string nm, wr, dv, wc]⟩, ⟨ptr A3 0 4, 0, c3⟩, ⟨dv, 5, dvs.flatMap Dvn.cells⟩, ⟨ptr A4 0 5, 0, [.string nd, .bool pd, I lo, I hi, ws]⟩, ⟨wr, 6, rks.flatMap Rk.cells⟩, ⟨wc, 5, cps.flatMap Cpl.cells⟩, ⟨ws, 4, sts.flatMap Stp.cells⟩])
 (ri : ∀ G, o.In G → ∀ r ∈ rks, r.In G) (rl : rks.length < 1000000000) (di : ∀ G, o.In G → ∀ e ∈ dvs, e.In G) (dl : dvs.length ≤ 20) (cl : cps.length < 1000000000) (si : ∀ G, o.In G → ∀ s ∈ sts, s.In G) (sl : sts.length < 1000000000) (rp : ∀ r ∈ rks, ∃ q ∈ o.ranks, r.num = q.num ∧ r.den = q.den ∧ r.first = q.first) :
 ∃ nm rv rks dv dvs cv cps d, ChgI o H0 H (nbn H0 [ptr A1 0 4, ptr A3 0 4, dv, ptr A4 0 5]) rv rks dvs cv cps d ∧
   St prog H0 H [⟨ptr A1 0 4, 0, [.string nm, rv, dv, cv]⟩, ⟨ptr A3 0 4, 0, c3⟩, ⟨dv, 5, dvs.flatMap Dvn.cells⟩, ⟨ptr A4 0 5, 0, [.string d.name, .bool d.pedal, I d.lo, I d.hi, d.sv]⟩] := by
 obtain ⟨a, b, c, e⟩ := a5P hS
 exact ⟨nm, wr, rks, dv, dvs, wc, cps, ⟨nd, pd, lo, hi, ws, sts⟩, ⟨a, ri, rl, di, dl, b, cl, c, si, sl, rp⟩, e⟩
theorem a1C {α : Type} {l : List α} {i : Nat} {x : α} {p : α → Prop} (h : ∀ y ∈ l, p y) (hx : p x) : ∀ y ∈ l.set i x, p y := fun y hy => by
 rcases fU hy with hy | rfl
 ·exact h y hy
 ·exact hx
theorem b0T {o : Org} {H0 H1 H2 : Heap} {B : Base} {A1 A3 A4 : Nat} {dv rv cv : Value} {c1 c3 c4 d1 d3 d4 : List Value} {nm : ByteArray} {rks : List Rk} {dvs ys : List Dvn} {cps : List Cpl} {d : Dvn}
 (hC : ChgI o H0 H1 (nbn H0 [ptr A1 0 4, ptr A3 0 4, dv, ptr A4 0 5]) rv rks dvs cv cps d)
 (hS : St prog H0 H1 [⟨ptr A1 0 4, 0, c1⟩, ⟨ptr A3 0 4, 0, c3⟩, ⟨dv, 5, dvs.flatMap Dvn.cells⟩, ⟨ptr A4 0 5, 0, c4⟩])
 (hB : B = ⟨H1, pN [⟨ptr A1 0 4, 0, c1⟩, ⟨ptr A3 0 4, 0, c3⟩, ⟨dv, 5, dvs.flatMap Dvn.cells⟩, ⟨ptr A4 0 5, 0, c4⟩]⟩)
 (hE : St prog B H2 [⟨ptr A1 0 4, 0, d1⟩, ⟨ptr A3 0 4, 0, d3⟩, ⟨dv, 5, ys.flatMap Dvn.cells⟩, ⟨ptr A4 0 5, 0, d4⟩])
 (hy : ∀ y ∈ ys, y ∈ dvs ∨ y = d) (hyl : ys.length ≤ 20) :
 OrgN H0 H2 o ⟨nm, rv, rks, dv, ys, cv, cps⟩ ∧ St prog H0 H2 [] := by
 have hK : Kept H1 (nbn H0 [ptr A1 0 4, ptr A3 0 4, dv, ptr A4 0 5]) H2 (fun B => H0.length ≤ B) := fun B hX hl => ⟨(hE.kept hB B hX.1 hl).1, hX.2⟩
 have hU := hS.aj hB hE
 refine ⟨⟨hC.rs.step hK, hC.ri, hC.rl, hU.bQ 2 rfl (fun _ => rfl), fun y hy' => ?_, hyl, hC.cs.step hK, hC.cl, hC.rp⟩, hU.forget⟩
 rcases hy y hy' with h | rfl
 ·exact Or.inl fun G hG => hC.di G hG y h
 ·exact Or.inr ⟨hC.ss.step hK, hC.si, hC.sl⟩
theorem a8E (o : Org) (ho : o.In H) (hr0 : 0 < o.ranks.length) (hr : o.ranks.length ≤ 60) (hd0 : 0 < o.dvs.length) (hd : o.dvs.length ≤ 8) (hs : ∀ j, j < o.dvs.length → (iB o.dvs j).stops.length ≤ 60) (hc : o.cpls.length ≤ 40) (ka aa : Nat) (hka : ka < 256) (haa : aa < 256) :
 Fn prog 19 [.agg #[.string o.name, o.rv, o.dv, o.cv], .agg #[.int .u8 ka, .int .u8 aa]] H fun r H' => ∃ o' : Org, r = .agg #[.string o'.name, o'.rv, o'.dv, o'.cv] ∧ OrgN H H' o o' ∧ St prog H H' [] := by
 have hlr : (o.ranks.flatMap Rk.cells).length = o.ranks.length * 6 := iG (n := 6) (fun _ => rfl) _
 have hld : (o.dvs.flatMap Dvn.cells).length = o.dvs.length * 5 := iG (n := 5) (fun _ => rfl) _
 have hlc : (o.cpls.flatMap Cpl.cells).length = o.cpls.length * 5 := iG (n := 5) (fun _ => rfl) _
 refine .aM func19 rfl (by kernel_rfl) (m := 275) rfl fun l hn g0 g1 => ?_
 simp (disch := omega) only [↓RA, RB, simprocAttr, g0]
 refine (sR H).eNew 4 [(.string o.name), o.rv, o.dv, o.cv] rfl rfl (by simp [OC, ((sR H).sl ho.1).cells.2.1, ((sR H).sl ho.2.2.1).cells.2.1, ((sR H).sl ho.2.2.2.2.1).cells.2.1]) mD fun A1 H1 hS1 => ?_
 simp only [RT] at hS1
 simp (disch := omega) only [↓RA, RB, simprocAttr, g1]
 refine hS1.eNew 2 [(.int .u8 ka), (.int .u8 aa)] rfl rfl rfl c1n fun A2 H2 hS2 => ?_
 simp only [RT] at hS2
 simp (disch := omega) only [↓RA, RZ, simprocAttr]
 refine hS2.eNew 4 [(.string ⟨#[]⟩), (.slice none 0 0), (.slice none 0 0), (.slice none 0 0)] rfl rfl rfl mD fun A3 H3 hS3 => ?_
 simp only [RT] at hS3
 simp (disch := omega) only [↓RA, simprocAttr]
 refine hS3.bb a8Z fun w1 H4 hS4 => ?_
 simp only [RT] at hS4
 simp (disch := omega) only [↓RA, RZ, simprocAttr, hn, hS4.ld 0 rfl]
 refine hS4.ar 3 rfl (hS4.sl ho.1).rd a8Z (by simp only [dC]; omega) fun w2 H5 hS5 => ?_
 simp only [RT] at hS5
 simp (disch := omega) only [↓RA, RZ, simprocAttr, hn]
 refine hS5.ab 0 rfl [w2] (by rw [(hS5.rd 3 rfl).cells.1]) (by simp [(hS5.rd 3 rfl).cells.2.1]) b6m (by simp) fun H6 hS6 => ?_
 simp only [RT] at hS6
 simp (disch := omega) only [↓RA, simprocAttr]
 refine hS6.bb a9W fun w3 H7 hS7 => ?_
 simp only [RT] at hS7
 simp (disch := omega) only [↓RA, RZ, simprocAttr, hn]
 simp (disch := omega) only [↓RA, RZ, simprocAttr, hn, hS7.ld 0 rfl]
 refine hS7.ar 4 rfl (hS7.sl ho.2.2.1).rd a9W (by simp only [dC]; omega) fun w4 H8 hS8 => ?_
 simp only [RT] at hS8
 simp (disch := omega) only [↓RA, RZ, simprocAttr, hn]
 refine hS8.ab 0 rfl [w4] (by rw [(hS8.rd 4 rfl).cells.1]) (by simp [(hS8.rd 4 rfl).cells.2.1]) b5c (by simp) fun H9 hS9 => ?_
 simp only [RT] at hS9
 simp (disch := omega) only [↓RA, simprocAttr]
 refine hS9.bb a0q fun w5 H10 hS10 => ?_
 simp only [RT] at hS10
 simp (disch := omega) only [↓RA, RZ, simprocAttr, hn]
 simp (disch := omega) only [↓RA, RZ, simprocAttr, hn, hS10.ld 0 rfl]
 refine hS10.ar 5 rfl (hS10.sl ho.2.2.2.2.1).rd a0q (by simp only [dC]; omega) fun w6 H11 hS11 => ?_
 simp only [RT] at hS11
 simp (disch := omega) only [↓RA, RZ, simprocAttr, hn]
 obtain ⟨i, hi⟩ : ∃ i, i = aa % o.ranks.length := ⟨_, rfl⟩
 obtain ⟨k, hk⟩ : ∃ k, k = aa % o.dvs.length := ⟨_, rfl⟩
 have hil : i < o.ranks.length := by rw [hi]; exact eI _ hr0
 have hkl : k < o.dvs.length := by rw [hk]; exact eI _ hd0
 have e1 : (aa : Int).tmod (o.ranks.length : Int) = (i : Int) := by rw [hi]; exact (dU _ _).symm
 have e2 : (aa : Int).tmod (o.dvs.length : Int) = (k : Int) := by rw [hk]; exact (dU _ _).symm
 have e3 : (ka : Int).tmod 16 = ((ka % 16 : Nat) : Int) := (dU _ _).symm
 have hsk := hs k hkl
 have hls : ((iB o.dvs k).stops.flatMap Stp.cells).length = (iB o.dvs k).stops.length * 4 := iG (n := 4) (fun _ => rfl) _
 refine hS11.ab 0 rfl [w6] (by rw [(hS11.rd 5 rfl).cells.1]) (by simp [(hS11.rd 5 rfl).cells.2.1]) a8y (by simp) fun H12 hS12 => ?_
 simp only [RT] at hS12
 simp (disch := omega) only [↓RA, RB, simprocAttr]
 refine Wp.drw jV (by kernel_rfl) ?_
 simp (disch := omega) only [↓RA, RZ, simprocAttr, hn, hS12.ld 1 rfl, hS12.ld 0 rfl, (hS12.aw 3 rfl (fun _ => rfl)).len, (hS12.aw 4 rfl (fun _ => rfl)).len, e1, e2]
 simp (disch := omega) only [↓RA, RZ, simprocAttr, hn, (hS12.aw 4 rfl (fun _ => rfl)).idx, (hS12.aw 4 rfl (fun _ => rfl)).ai, Dvn.cells]
 refine hS12.eNew 5 [(.string ⟨#[]⟩), (.bool false), I 0, I 0, (.slice none 0 0)] rfl rfl rfl rP fun A4 H13 hS13 => ?_
 simp only [RT] at hS13
 simp (disch := omega) only [↓RA, RB, simprocAttr, hn]
 refine hS13.ab 6 rfl [(.string (iB o.dvs k).name), (.bool (iB o.dvs k).pedal), I (iB o.dvs k).lo, I (iB o.dvs k).hi, (iB o.dvs k).sv] rfl (by simp [OC, (hS13.sl (ho.2.2.2.1 (iB o.dvs k) (iD (by omega))).1).cells.2.1]) rP (by simp) fun H14 hS14 => ?_
 simp only [RT] at hS14
 simp (disch := omega) only [↓RA, simprocAttr]
 refine hS14.bb a1L fun w7 H15 hS15 => ?_
 simp only [RT] at hS15
 simp (disch := omega) only [↓RA, RZ, simprocAttr, hn, hS15.ld 6 rfl]
 refine hS15.ar 7 rfl (hS15.sl (ho.2.2.2.1 (iB o.dvs k) (iD (by omega))).1).rd a1L (by simp only [dC]; omega) fun w8 H16 hS16 => ?_
 simp only [RT] at hS16
 simp (disch := omega) only [↓RA, RZ, simprocAttr, hn]
 refine hS16.ab 6 rfl [w8] (by rw [(hS16.rd 7 rfl).cells.1]) (by simp [(hS16.rd 7 rfl).cells.2.1]) b1q (by simp) fun H17 hS17 => ?_
 simp only [RT] at hS17
 simp (disch := omega) only [↓RA, RZ, simprocAttr, hn, hS17.ld 1 rfl, e3]
 have f4 : (aa : Int).tmod 4 = ((aa % 4 : Nat) : Int) := (dU _ _).symm
 have f3 : (aa : Int).tmod 3 = ((aa % 3 : Nat) : Int) := (dU _ _).symm
 have f2 : (aa : Int).tmod 2 = ((aa % 2 : Nat) : Int) := (dU _ _).symm
 have f5 : (aa : Int).tmod 5 = ((aa % 5 : Nat) : Int) := (dU _ _).symm
 have x4 : aa % 4 < 4 := eI _ (by decide)
 have x3 : aa % 3 < 3 := eI _ (by decide)
 have x2 : aa % 2 < 2 := eI _ (by decide)
 have hci : Sl 5 Cpl.cells H o.cv o.cpls := ho.2.2.2.2.1
 have hdi := ho.2.2.2.1
 have hdk := hdi _ (iD hkl)
 have GP : ∀ r ∈ o.ranks, ∃ q ∈ o.ranks, r.num = q.num ∧ r.den = q.den ∧ r.first = q.first := fun r h => ⟨r, h, rfl, rfl, rfl⟩
 have GR : ∀ G, o.In G → ∀ r ∈ o.ranks, r.In G := fun _ hG => hG.2.1
 have GD : ∀ G, o.In G → ∀ e ∈ o.dvs, e.In G := fun _ hG => hG.2.2.2.1
 have GS : ∀ G, o.In G → ∀ s ∈ (iB o.dvs k).stops, s.In G := fun G hG => (GD G hG _ (iD hkl)).2.1
 have hS18 : St prog H H17 [⟨ptr A1 0 4, 0, _⟩, ⟨ptr A2 0 2, 0, _⟩, ⟨ptr A3 0 4, 0, _⟩, ⟨w2, 6, o.ranks.flatMap Rk.cells⟩, ⟨w4, 5, _⟩, ⟨w6, 5, _⟩, ⟨ptr A4 0 5, 0, _⟩, ⟨w8, 4, _⟩] := hS17
 have hS19 : St prog H H17 [⟨ptr A1 0 4, 0, _⟩, ⟨ptr A2 0 2, 0, _⟩, ⟨ptr A3 0 4, 0, _⟩, ⟨w2, 6, _⟩, ⟨w4, 5, o.dvs.flatMap Dvn.cells⟩, ⟨w6, 5, _⟩, ⟨ptr A4 0 5, 0, _⟩, ⟨w8, 4, _⟩] := hS18
 have hS20 : St prog H H17 [⟨ptr A1 0 4, 0, _⟩, ⟨ptr A2 0 2, 0, _⟩, ⟨ptr A3 0 4, 0, _⟩, ⟨w2, 6, _⟩, ⟨w4, 5, _⟩, ⟨w6, 5, o.cpls.flatMap Cpl.cells⟩, ⟨ptr A4 0 5, 0, _⟩, ⟨w8, 4, _⟩] := hS19
 have hS21 : St prog H H17 [⟨ptr A1 0 4, 0, _⟩, ⟨ptr A2 0 2, 0, _⟩, ⟨ptr A3 0 4, 0, _⟩, ⟨w2, 6, _⟩, ⟨w4, 5, _⟩, ⟨w6, 5, _⟩, ⟨ptr A4 0 5, 0, _⟩, ⟨w8, 4, (iB o.dvs k).stops.flatMap Stp.cells⟩] := hS20
 refine sS (fun l H' => l.length = 275 ∧ get l 2 = (ptr A1 0 4) ∧ get l 4 = (ptr A3 0 4) ∧ get l 6 = I k ∧ get l 7 = (ptr A4 0 5) ∧ ∃ (nm : ByteArray) (rv : Value) (rks : List Rk) (dv : Value) (dvs : List Dvn) (cv : Value) (cps : List Cpl) (d : Dvn), (ChgI o H H' (nbn H [ptr A1 0 4, ptr A3 0 4, dv, ptr A4 0 5]) rv rks dvs cv cps d) ∧ St prog H H' [⟨ptr A1 0 4, 0, [.string nm, rv, dv, cv]⟩, ⟨ptr A3 0 4, 0, [(.string ⟨#[]⟩), (.slice none 0 0), (.slice none 0 0), (.slice none 0 0)]⟩, ⟨dv, 5, dvs.flatMap Dvn.cells⟩, ⟨ptr A4 0 5, 0, [.string d.name, .bool d.pedal, I d.lo, I d.hi, d.sv]⟩]) ?_ ?_
 ·rintro l H18 ⟨hn, g2, g4, g6, g7, nm, rv, rks, dv, dvs, cv, cps, d, hC, hS22⟩
  have hdl9 := hC.dl
  obtain ⟨BX, hBBX, hS23⟩ := hS22.aB (os := [⟨ptr A1 0 4, 0, _⟩, ⟨ptr A3 0 4, 0, _⟩, ⟨dv, 5, _⟩, ⟨ptr A4 0 5, 0, _⟩])
  simp (disch := omega) only [↓RA, RZ, simprocAttr, hn, g2, g6, hS23.ld 0 rfl, (hS23.aw 2 rfl (fun _ => rfl)).len]
  refine iA (fun hkd => ?_) (fun hkd => ?_)
  ·have hkd2 : k < dvs.length := by omega
   simp (disch := omega) only [↓RA, RZ, simprocAttr, hn, g2, g6, g7, hS23.ld 0 rfl, hS23.ai 3 rfl, (hS23.aw 2 rfl (fun _ => rfl)).idx, hkd]
   refine hS23.aA 2 rfl [(.string d.name), (.bool d.pedal), I d.lo, I d.hi, d.sv] rfl (by simp [OC, (hC.ss.1.cells).2.1]) rP (by simp) (by rw [iG (n := 5) (cel := Dvn.cells) (fun _ => rfl)]; simp only [dz, dC]; omega) fun H19 hS24 => ?_
   simp only [RT] at hS24
   simp (disch := omega) only [↓RA, RZ, simprocAttr, hn, g2, g4, hS24.ai 0 rfl, hkd]
   refine hS24.ab 1 rfl [(.string nm), rv, dv, cv] rfl (by simp [OC, (hC.rs.1.cells).2.1, (hS24.rd 2 rfl).cells.2.1, (hC.cs.1.cells).2.1]) mD (by simp) fun H20 hS25 => ?_
   simp only [RT] at hS25
   simp (disch := omega) only [↓RA, RZ, simprocAttr, g4, c3t, hS25.ai 1 rfl, hkd]
   have hset : (((((dvs.flatMap Dvn.cells).set (k * 5) (.string d.name)).set (k * 5 + 1) (.bool d.pedal)).set (k * 5 + 1 + 1) (I d.lo)).set (k * 5 + 1 + 1 + 1) (I d.hi)).set (k * 5 + 1 + 1 + 1 + 1) d.sv = (dvs.set k d).flatMap Dvn.cells := by
    rw [← lZ ((((((_ : List Value).set (k * 5) _).set (k * 5 + 1) _).set (k * 5 + 1 + 1) _).set (k * 5 + 1 + 1 + 1) _).set (k * 5 + 1 + 1 + 1 + 1) _) (k * 5 + 1 + 1 + 1 + 1 + 1), ← jD, ← jD, ← jD, ← jD, ← jD]
    exact qB (n := 5) (cel := Dvn.cells) (fun _ => rfl) dvs k 0 [_, _, _, _, _] d hkd2 (by simp) rfl
   rw [hset] at hS25
   obtain ⟨h8, h9⟩ := b0T (nm := nm) hC hS22 hBBX hS25 (fun y hy => by
    rcases fU hy with h | h
    ·exact Or.inl h
    ·exact Or.inr h) (by rw [ee]; exact hC.dl)
   exact ⟨_, rfl, h8, h9⟩
  simp (disch := omega) only [↓RA, RZ, simprocAttr, hn, g2, g4, hS23.ai 0 rfl, hkd]
  refine hS23.ab 1 rfl [(.string nm), rv, dv, cv] rfl (by simp [OC, (hC.rs.1.cells).2.1, (hS23.rd 2 rfl).cells.2.1, (hC.cs.1.cells).2.1]) mD (by simp) fun H21 hS26 => ?_
  simp only [RT] at hS26
  simp (disch := omega) only [↓RA, RZ, simprocAttr, g4, c3t, hS26.ai 1 rfl, hkd]
  obtain ⟨h8, h9⟩ := b0T (nm := nm) hC hS22 hBBX hS26 (fun y hy => Or.inl hy) hC.dl
  exact ⟨_, rfl, h8, h9⟩
 have tl1 : c5c.length = 4 := rfl
 have tl3 : b7H.length = 3 := rfl
 have tl7 : c3E.length = 4 := rfl
 have tl8 : c4Q.length = 4 := rfl
 have tl9 : b8Y.length = 4 := rfl
 have tl13 : b1L.length = 3 := rfl
 have hrI := iD hil
 refine iA (fun k1 => ?_) (fun k1 => ?_)
 ·simp (disch := omega) only [↓RA, RB, simprocAttr, iT]
  refine hS21.ag [(.string ⟨#[]⟩), (.string ⟨#[55]⟩), (.string ⟨#[97, 32, 98]⟩), (.string ⟨#[70, 105, 110, 101]⟩)] a3U a3t rfl rfl (by simp [Value.cells]) rfl rfl (by decide) (by decide) fun w9 H22 hS27 => ?_
  simp only [RT] at hS27
  simp (disch := omega) only [↓RA, RZ, simprocAttr, hn, k1]
  have hS28 : St prog H H22 [⟨ptr A1 0 4, 0, _⟩, ⟨ptr A2 0 2, 0, _⟩, ⟨ptr A3 0 4, 0, _⟩, ⟨w2, 6, _⟩, ⟨w4, 5, _⟩, ⟨w6, 5, _⟩, ⟨ptr A4 0 5, 0, _⟩, ⟨w8, 4, _⟩, ⟨w9, 1, c5c.flatMap (one Value.string)⟩] := hS27
  simp (disch := omega) only [↓RA, RZ, simprocAttr, hn, hS28.ld 1 rfl, (hS28.aw 8 rfl (lP _)).idx, (hS28.aw 8 rfl (lP _)).ld, one, f4, k1]
  refine hS28.ab 0 rfl [_] rfl rfl tS9 (by simp) fun H23 hS29 => ?_
  simp only [RT] at hS29
  simp (disch := omega) only [↓RA, RZ, simprocAttr, hn, k1]
  exact mA (hS29.pick [0, 2, 4, 6, 3, 5, 7] (by decide) rfl) GR ho.2.2.2.2.2.1 GD (by omega) ho.2.2.2.2.2.2.2 GS hdk.2.2 GP
 simp (disch := omega) only [↓RA, RZ, simprocAttr, hn, k1]
 refine iA (fun k2 => ?_) (fun k2 => ?_)
 ·skip
  simp (disch := omega) only [↓RA, RZ, simprocAttr, hn, hS21.ld 0 rfl, (hS21.aw 3 rfl (fun _ => rfl)).idx, (hS21.aw 3 rfl (fun _ => rfl)).bz, iT, k2]
  refine hS21.aA 3 rfl [(.slice none 0 0)] rfl rfl b7m (by simp) (by rw [hlr]; simp only [dz, dC]; omega) fun H24 hS30 => ?_
  simp only [RT] at hS30
  simp (disch := omega) only [↓RA, RZ, simprocAttr, hn, k2]
  have hset : (o.ranks.flatMap Rk.cells).set (i * (5 + 1) + 5) (.slice none 0 0) = (o.ranks.set i { iB o.ranks i with wv := .slice none 0 0, wind := [] }).flatMap Rk.cells := by
   rw [← lZ ((_ : List Value).set (i * (5 + 1) + 5) _) (i * (5 + 1) + 5 + 1), ← jD]
   exact qB (n := 6) (cel := Rk.cells) (fun _ => rfl) o.ranks i 5 [_] _ hil (by simp) rfl
  rw [hset] at hS30
  exact mA (hS30.pick [0, 2, 4, 6, 3, 5, 7] (by decide) rfl) (fun G hG => a1C (GR G hG) ⟨⟨.inl ⟨rfl, rfl⟩, lP _, by decide⟩, (by decide : (0 : Nat) < 1000000000)⟩) (by rw [ee]; exact ho.2.2.2.2.2.1) GD (by omega) ho.2.2.2.2.2.2.2 GS hdk.2.2 (a1C GP ⟨iB o.ranks i, hrI, rfl, rfl, rfl⟩)
 simp (disch := omega) only [↓RA, RZ, simprocAttr, hn, k1, k2]
 refine iA (fun k3 => ?_) (fun k3 => ?_)
 ·skip
  simp (disch := omega) only [↓RA, RZ, simprocAttr, k3]
  refine Wp.aQ jV [(1, 4), (5, 0)] (by kernel_rfl) (by kernel_rfl) ?_
  simp (disch := omega) only [↓RA, RZ, simprocAttr, hn, hS21.ld 0 rfl, iT]
  refine hS21.ag [(.string ⟨#[]⟩), (.string ⟨#[82, 48]⟩), (.string ⟨#[82, 57]⟩)] a3U a3t rfl rfl (by simp [Value.cells]) rfl rfl (by decide) (by decide) fun w10 H25 hS31 => ?_
  simp only [RT] at hS31
  simp (disch := omega) only [↓RA, RZ, simprocAttr, hn]
  have hS32 : St prog H H25 [⟨ptr A1 0 4, 0, _⟩, ⟨ptr A2 0 2, 0, _⟩, ⟨ptr A3 0 4, 0, _⟩, ⟨w2, 6, _⟩, ⟨w4, 5, _⟩, ⟨w6, 5, _⟩, ⟨ptr A4 0 5, 0, _⟩, ⟨w8, 4, _⟩, ⟨w10, 1, b7H.flatMap (one Value.string)⟩] := hS31
  simp (disch := omega) only [↓RA, RZ, simprocAttr, hn, hS32.ld 1 rfl, (hS32.aw 8 rfl (lP _)).idx, (hS32.aw 8 rfl (lP _)).ld, one, (hS32.aw 3 rfl (fun _ => rfl)).idx, (hS32.aw 3 rfl (fun _ => rfl)).bz, f3]
  refine hS32.aA 3 rfl [_] rfl rfl tS9 (by simp) (by rw [hlr]; simp only [dz, dC]; omega) fun H26 hS33 => ?_
  simp only [RT] at hS33
  simp (disch := omega) only [↓RA, RZ, simprocAttr, hn, hS32.ld 0 rfl, hS21.ld 1 rfl]
  have hset : (o.ranks.flatMap Rk.cells).set (i * (5 + 1)) (.string (iB b7H (aa % 3))) = (o.ranks.set i { iB o.ranks i with name := iB b7H (aa % 3) }).flatMap Rk.cells := by
   rw [← lZ ((_ : List Value).set (i * (5 + 1)) _) (i * (5 + 1) + 1), ← jD]
   exact qB (n := 6) (cel := Rk.cells) (fun _ => rfl) o.ranks i 0 [_] _ hil (by simp) rfl
  rw [hset] at hS33
  exact mA (hS33.pick [0, 2, 4, 6, 3, 5, 7] (by decide) rfl) (fun G hG => a1C (GR G hG) (show Rk.In G _ from GR G hG (iB o.ranks i) hrI)) (by rw [ee]; exact ho.2.2.2.2.2.1) GD (by omega) ho.2.2.2.2.2.2.2 GS hdk.2.2 (a1C GP ⟨iB o.ranks i, hrI, rfl, rfl, rfl⟩)
 simp (disch := omega) only [↓RA, RZ, simprocAttr, hn, k1, k2, k3]
 refine iA (fun k4 => ?_) (fun k4 => ?_)
 ·simp (disch := omega) only [↓RA, RZ, simprocAttr, k4]
  refine Wp.al (fun n l H' => l.length = 275 ∧ get l 2 = (ptr A1 0 4) ∧ get l 3 = (ptr A2 0 2) ∧ get l 4 = (ptr A3 0 4) ∧ get l 6 = I k ∧ get l 7 = (ptr A4 0 5) ∧ ∃ (wr : Value) (rks : List Rk), (n + rks.length = 100 ∧ 0 < rks.length ∧ rks.length ≤ 61 ∧ (∀ G, o.In G → ∀ r ∈ rks, r.In G) ∧ (∀ r ∈ rks, ∃ q ∈ o.ranks, r.num = q.num ∧ r.den = q.den ∧ r.first = q.first)) ∧ St prog H H' [⟨ptr A1 0 4, 0, [.string o.name, wr, w4, w6]⟩, ⟨ptr A2 0 2, 0, [(.int .u8 ka), (.int .u8 aa)]⟩, ⟨ptr A3 0 4, 0, [(.string ⟨#[]⟩), (.slice none 0 0), (.slice none 0 0), (.slice none 0 0)]⟩, ⟨wr, 6, rks.flatMap Rk.cells⟩, ⟨w4, 5, o.dvs.flatMap Dvn.cells⟩, ⟨w6, 5, o.cpls.flatMap Cpl.cells⟩, ⟨ptr A4 0 5, 0, [(.string (iB o.dvs k).name), (.bool (iB o.dvs k).pedal), I (iB o.dvs k).lo, I (iB o.dvs k).hi, w8]⟩, ⟨w8, 4, (iB o.dvs k).stops.flatMap Stp.cells⟩]) (100 - o.ranks.length) ?_ ?_
  ·simp (disch := omega) only [RB, RC, simprocAttr, hn]
   exact ⟨_, o.ranks, ⟨by omega, hr0, by omega, GR, GP⟩, hS21⟩
  rintro n l H27 ⟨hn, g2, g3, g4, g6, g7, wr, rks, hj, hS34⟩
  obtain ⟨j1, j2, j3, J4, J5⟩ := hj
  have j4 := J4 H ho
  have hlk : (rks.flatMap Rk.cells).length = rks.length * 6 := iG (n := 6) (fun _ => rfl) _
  simp (disch := omega) only [↓RA, RZ, simprocAttr, hn, g2, g3, hS34.ld 0 rfl, (hS34.aw 3 rfl (fun _ => rfl)).len, hS34.ld 1 rfl, f2]
  refine iA (fun q => ?_) (fun q => ?_)
  ·have q1 : (rks.length : Int).tdiv 10 = ((rks.length / 10 : Nat) : Int) := (Int.ofNat_tdiv _ _).symm
   have q2 : (rks.length : Int).tmod 10 = ((rks.length % 10 : Nat) : Int) := (dU _ _).symm
   simp (disch := omega) only [↓RA, RZ, simprocAttr, hn, g2, hS34.ld 0 rfl, (hS34.aw 3 rfl (fun _ => rfl)).idx, (hS34.aw 3 rfl (fun _ => rfl)).ai, Rk.cells, q]
   refine hS34.eNew 6 [(.string ⟨#[]⟩), (.string ⟨#[]⟩), I 0, I 0, I 0, (.slice none 0 0)] rfl rfl rfl tI fun A5 H28 hS35 => ?_
   simp only [RT] at hS35
   simp (disch := omega) only [↓RA, RZ, simprocAttr, hn, q]
   refine hS35.ab 8 rfl [(.string (iB rks 0).name), (.string (iB rks 0).tone), I (iB rks 0).num, I (iB rks 0).den, I (iB rks 0).first, (iB rks 0).wv] rfl (by simp [OC, (hS35.sl (j4 (iB rks 0) (iD (by omega))).1).cells.2.1]) tI (by simp) fun H29 hS36 => ?_
   simp only [RT] at hS36
   simp (disch := omega) only [↓RA, RZ, simprocAttr, hn, g2, hS36.ld 0 rfl, (hS36.aw 3 rfl (fun _ => rfl)).len, q, q1, q2]
   refine hS36.ag [_, _] a2J a1E rfl rfl (by simp [Value.cells]) rfl rfl (by decide) (by decide) fun w11 H30 hS37 => ?_
   simp only [RT] at hS37
   simp (disch := omega) only [↓RA, RZ, simprocAttr, hn, a1J (hS37.rd 9 rfl) kV.1 kV.2.1 kV.2.2, q, a2K]
   refine hS37.ab 8 rfl [_] rfl rfl tS9 (by simp) fun H31 hS38 => ?_
   simp only [RT] at hS38
   simp (disch := omega) only [↓RA, RZ, simprocAttr, hn, g2, q]
   simp (disch := omega) only [↓RA, RZ, simprocAttr, hn, hS38.ld 0 rfl, hS38.ai 8 rfl, q]
   refine hS38.ag [(.string ⟨#[88, UInt8.ofNat (48 + ((rks.length / 10 : Nat) : Int)).toNat, UInt8.ofNat (48 + ((rks.length % 10 : Nat) : Int)).toNat]⟩), (.string (iB rks 0).tone), I (iB rks 0).num, I (iB rks 0).den, I (iB rks 0).first, (iB rks 0).wv] a8Z c1j rfl rfl (by first | (simp []; done) | simp [Value.cells]) (by first | (simp []; done) | simp [Value.cells]) (by simp [OC, (hS38.sl (j4 (iB rks 0) (iD (by omega))).1).cells.2.1]) (by decide) (by decide) fun w12 H32 hS39 => ?_
   simp only [RT] at hS39
   simp (disch := omega) only [↓RA, RZ, simprocAttr, hn, q]
   refine hS39.ar 3 rfl (hS39.rd 10 rfl) a8Z (by rw [hlk]; simp only [dz, dC]; omega) fun w13 H33 hS40 => ?_
   simp only [RT] at hS40
   simp (disch := omega) only [↓RA, RZ, simprocAttr, hn, g2, q]
   refine hS40.ab 0 rfl [w13] (by rw [(hS40.rd 3 rfl).cells.1]) (by simp [(hS40.rd 3 rfl).cells.2.1]) b6m (by simp) fun H34 hS41 => ?_
   simp only [RT] at hS41
   simp (disch := omega) only [↓RA, RZ, simprocAttr, hn, g2, g3, g4, g6, g7, q]
   have happ : rks.flatMap Rk.cells ++ [.string ⟨#[88, UInt8.ofNat (48 + ((rks.length / 10 : Nat) : Int)).toNat, UInt8.ofNat (48 + ((rks.length % 10 : Nat) : Int)).toNat]⟩, .string (iB rks 0).tone, I (iB rks 0).num, I (iB rks 0).den, I (iB rks 0).first, (iB rks 0).wv] = (rks ++ [{ iB rks 0 with name := ⟨#[88, UInt8.ofNat (48 + ((rks.length / 10 : Nat) : Int)).toNat, UInt8.ofNat (48 + ((rks.length % 10 : Nat) : Int)).toNat]⟩ }]).flatMap Rk.cells := by rw [dM]; rfl
   rw [happ] at hS41
   exact ⟨n - 1, by omega, w13, rks ++ [_], ⟨by rw [dw]; simp only [dz, dC]; omega, by rw [dw]; omega, by rw [dw]; simp only [dz, dC]; omega, fun G hG r hr => by
    rcases dN.1 hr with h | h
    ·exact J4 G hG r h
    ·rw [dE.1 h]
     exact (show Rk.In G _ from J4 G hG (iB rks 0) (iD j2)), fun r hr => by
    rcases dN.1 hr with h | h
    ·exact J5 r h
    ·rw [dE.1 h]
     exact J5 (iB rks 0) (iD j2)⟩, hS41.pick [0, 1, 2, 3, 4, 5, 6, 7] (by decide) rfl⟩
  simp (disch := omega) only [↓RA, RZ, simprocAttr, hn, g2, g4, g6, g7, iT, q]
  exact mA (hS34.pick [0, 2, 4, 6, 3, 5, 7] (by decide) rfl) J4 (by omega) GD (by omega) ho.2.2.2.2.2.2.2 GS hdk.2.2 J5
 simp (disch := omega) only [↓RA, RZ, simprocAttr, hn, k1, k2, k3, k4]
 refine iA (fun k5 => ?_) (fun k5 => ?_)
 ·simp (disch := omega) only [↓RA, RZ, simprocAttr, hn, iT, k5]
  refine hS21.ab 0 rfl [(.slice none 0 0)] rfl rfl b5c (by simp) fun H35 hS42 => ?_
  simp only [RT] at hS42
  simp (disch := omega) only [↓RA, RZ, simprocAttr, hn, k5]
  have hN := hS42.nil 4
  exact mA (hN.pick [0, 2, 8, 6, 3, 5, 7] (by decide) rfl) GR ho.2.2.2.2.2.1 (dvs := []) (fun _ _ e he => by cases he) (eS _) ho.2.2.2.2.2.2.2 GS hdk.2.2 GP
 simp (disch := omega) only [↓RA, RZ, simprocAttr, hn, k1, k2, k3, k4, k5]
 refine iA (fun k6 => ?_) (fun k6 => ?_)
 ·simp (disch := omega) only [↓RA, RZ, simprocAttr, k6]
  refine Wp.al (fun n l H' => l.length = 275 ∧ get l 2 = (ptr A1 0 4) ∧ get l 3 = (ptr A2 0 2) ∧ get l 4 = (ptr A3 0 4) ∧ get l 6 = I k ∧ get l 7 = (ptr A4 0 5) ∧ ∃ (wd : Value) (ds : List Dvn), (n + ds.length = 100 ∧ ds.length ≤ 9 ∧ (∀ G, o.In G → ∀ e ∈ ds, e.In G)) ∧ St prog H H' [⟨ptr A1 0 4, 0, [.string o.name, w2, wd, w6]⟩, ⟨ptr A2 0 2, 0, [(.int .u8 ka), (.int .u8 aa)]⟩, ⟨ptr A3 0 4, 0, [(.string ⟨#[]⟩), (.slice none 0 0), (.slice none 0 0), (.slice none 0 0)]⟩, ⟨w2, 6, o.ranks.flatMap Rk.cells⟩, ⟨wd, 5, ds.flatMap Dvn.cells⟩, ⟨w6, 5, o.cpls.flatMap Cpl.cells⟩, ⟨ptr A4 0 5, 0, [(.string (iB o.dvs k).name), (.bool (iB o.dvs k).pedal), I (iB o.dvs k).lo, I (iB o.dvs k).hi, w8]⟩, ⟨w8, 4, (iB o.dvs k).stops.flatMap Stp.cells⟩]) (100 - o.dvs.length) ?_ ?_
  ·simp (disch := omega) only [RB, RC, simprocAttr, hn]
   exact ⟨_, o.dvs, ⟨by omega, by omega, GD⟩, hS21⟩
  rintro n l H36 ⟨hn, g2, g3, g4, g6, g7, wd, ds, hj, hS43⟩
  obtain ⟨j1, j3, J4⟩ := hj
  have j4 := J4 H ho
  have hlk : (ds.flatMap Dvn.cells).length = ds.length * 5 := iG (n := 5) (fun _ => rfl) _
  simp (disch := omega) only [↓RA, RZ, simprocAttr, hn, g2, g3, hS43.ld 0 rfl, (hS43.aw 4 rfl (fun _ => rfl)).len, hS43.ld 1 rfl, f2]
  refine iA (fun q => ?_) (fun q => ?_)
  ·skip
   simp (disch := omega) only [↓RA, RZ, simprocAttr, hn, g2, hS43.ld 0 rfl, (hS43.aw 4 rfl (fun _ => rfl)).len, q]
   refine hS43.ag [_] a2J a1E rfl rfl (by simp [Value.cells]) rfl rfl (by decide) (by decide) fun w14 H37 hS44 => ?_
   simp only [RT] at hS44
   simp (disch := omega) only [↓RA, RZ, simprocAttr, hn, rM (hS44.rd 8 rfl) kV.1 kV.2.1 kV.2.2, qD, q]
   simp (disch := omega) only [↓RA, RZ, simprocAttr, hn, c0c, q]
   refine hS44.ag [(.string ⟨#[69, UInt8.ofNat (48 + (ds.length : Int)).toNat]⟩), (.bool false), I 0, I 0, (.slice none 0 0)] a9W c1p rfl rfl (by simp [Value.cells]) rfl rfl (by decide) (by decide) fun w15 H38 hS45 => ?_
   simp only [RT] at hS45
   simp (disch := omega) only [↓RA, RZ, simprocAttr, hn, q]
   refine hS45.ar 4 rfl (hS45.rd 9 rfl) a9W (by rw [hlk]; simp only [dz, dC]; omega) fun w16 H39 hS46 => ?_
   simp only [RT] at hS46
   simp (disch := omega) only [↓RA, RZ, simprocAttr, hn, g2, q]
   refine hS46.ab 0 rfl [w16] (by rw [(hS46.rd 4 rfl).cells.1]) (by simp [(hS46.rd 4 rfl).cells.2.1]) b5c (by simp) fun H40 hS47 => ?_
   simp only [RT] at hS47
   simp (disch := omega) only [↓RA, RZ, simprocAttr, hn, g2, g3, g4, g6, g7, q]
   have happ : ds.flatMap Dvn.cells ++ [.string ⟨#[69, UInt8.ofNat (48 + (ds.length : Int)).toNat]⟩, .bool false, I 0, I 0, .slice none 0 0] = (ds ++ [(⟨⟨#[69, UInt8.ofNat (48 + (ds.length : Int)).toNat]⟩, false, 0, 0, .slice none 0 0, []⟩ : Dvn)]).flatMap Dvn.cells := by rw [dM]; rfl
   rw [happ] at hS47
   exact ⟨n - 1, by omega, w16, ds ++ [_], ⟨by rw [dw]; simp only [dz, dC]; omega, by rw [dw]; simp only [dz, dC]; omega, fun G hG e he => by
    rcases dN.1 he with h | h
    ·exact J4 G hG e h
    ·rw [dE.1 h]
     exact ⟨⟨.inl ⟨rfl, rfl⟩, fun _ => rfl, by decide⟩, (fun s hs => by cases hs), (by decide : (0 : Nat) < 1000000000)⟩⟩, hS47.pick [0, 1, 2, 3, 4, 5, 6, 7] (by decide) rfl⟩
  simp (disch := omega) only [↓RA, RZ, simprocAttr, hn, g2, g4, g6, g7, iT, q]
  exact mA (hS43.pick [0, 2, 4, 6, 3, 5, 7] (by decide) rfl) GR ho.2.2.2.2.2.1 J4 (by omega) ho.2.2.2.2.2.2.2 GS hdk.2.2 GP
 simp (disch := omega) only [↓RA, RZ, simprocAttr, hn, k1, k2, k3, k4, k5, k6]
 refine iA (fun k7 => ?_) (fun k7 => ?_)
 ·simp (disch := omega) only [↓RA, RB, simprocAttr, iT]
  refine hS21.ag [(.string ⟨#[]⟩), (.string ⟨#[68, 48]⟩), (.string ⟨#[68, 49]⟩), (.string ⟨#[83, 111, 108, 111]⟩)] a3U a3t rfl rfl (by simp [Value.cells]) rfl rfl (by decide) (by decide) fun w17 H41 hS48 => ?_
  simp only [RT] at hS48
  simp (disch := omega) only [↓RA, RZ, simprocAttr, hn, k7]
  have hS49 : St prog H H41 [⟨ptr A1 0 4, 0, _⟩, ⟨ptr A2 0 2, 0, _⟩, ⟨ptr A3 0 4, 0, _⟩, ⟨w2, 6, _⟩, ⟨w4, 5, _⟩, ⟨w6, 5, _⟩, ⟨ptr A4 0 5, 0, _⟩, ⟨w8, 4, _⟩, ⟨w17, 1, c3E.flatMap (one Value.string)⟩] := hS48
  simp (disch := omega) only [↓RA, RZ, simprocAttr, hn, hS49.ld 1 rfl, (hS49.aw 8 rfl (lP _)).idx, (hS49.aw 8 rfl (lP _)).ld, one, f4, k7]
  refine hS49.ab 6 rfl [_] rfl rfl tS9 (by simp) fun H42 hS50 => ?_
  simp only [RT] at hS50
  simp (disch := omega) only [↓RA, RZ, simprocAttr, hn, k7]
  exact mA (hS50.pick [0, 2, 4, 6, 3, 5, 7] (by decide) rfl) GR ho.2.2.2.2.2.1 GD (by omega) ho.2.2.2.2.2.2.2 GS hdk.2.2 GP
 simp (disch := omega) only [↓RA, RZ, simprocAttr, hn, k1, k2, k3, k4, k5, k6, k7]
 refine iA (fun k8 => ?_) (fun k8 => ?_)
 ·simp (disch := omega) only [↓RA, RZ, simprocAttr, hn, a0a, iT, k8]
  refine hS21.ag [I (-1), I 40, I 50, I 40, I 0, I 128, I 0, I 127] b4j c0F rfl rfl (by simp [Value.cells]) rfl rfl (by decide) (by decide) fun w18 H43 hS51 => ?_
  simp only [RT] at hS51
  simp (disch := omega) only [↓RA, RZ, simprocAttr, hn, k8]
  have hS52 : St prog H H43 [⟨ptr A1 0 4, 0, _⟩, ⟨ptr A2 0 2, 0, _⟩, ⟨ptr A3 0 4, 0, _⟩, ⟨w2, 6, _⟩, ⟨w4, 5, _⟩, ⟨w6, 5, _⟩, ⟨ptr A4 0 5, 0, _⟩, ⟨w8, 4, _⟩, ⟨w18, 2, c4Q.flatMap kA⟩] := hS51
  simp (disch := omega) only [↓RA, RZ, simprocAttr, hn, hS52.ld 1 rfl, (hS52.aw 8 rfl jU).idx, (hS52.aw 8 rfl jU).ai, kA, f4, k8]
  refine hS52.ab 6 rfl [_, _] rfl rfl sA (by simp) fun H44 hS53 => ?_
  simp only [RT] at hS53
  simp (disch := omega) only [↓RA, RZ, simprocAttr, hn, k8]
  exact mA (hS53.pick [0, 2, 4, 6, 3, 5, 7] (by decide) rfl) GR ho.2.2.2.2.2.1 GD (by omega) ho.2.2.2.2.2.2.2 GS hdk.2.2 GP
 simp (disch := omega) only [↓RA, RZ, simprocAttr, hn, k1, k2, k3, k4, k5, k6, k7, k8]
 refine iA (fun k9 => ?_) (fun k9 => ?_)
 ·simp (disch := omega) only [↓RA, RZ, simprocAttr, hn, hS21.ld 6 rfl, (hS21.aw 7 rfl (fun _ => rfl)).len, k9]
  refine iA (fun p9 => ?_) (fun p9 => ?_)
  ·simp (disch := omega) only [↓RA, RZ, simprocAttr, hn, hS21.ld 6 rfl, (hS21.aw 7 rfl (fun _ => rfl)).idx, (hS21.aw 7 rfl (fun _ => rfl)).ai, Stp.cells, k9, p9]
   refine hS21.eNew 4 [(.string ⟨#[]⟩), I 0, I 0, (.slice none 0 0)] rfl rfl rfl mR fun A6 H45 hS54 => ?_
   simp only [RT] at hS54
   simp (disch := omega) only [↓RA, RZ, simprocAttr, hn, k9, p9]
   refine hS54.ab 8 rfl [(.string (iB (iB o.dvs k).stops 0).name), I (iB (iB o.dvs k).stops 0).num, I (iB (iB o.dvs k).stops 0).den, (iB (iB o.dvs k).stops 0).gv] rfl (by simp [OC, (hS54.sl ((ho.2.2.2.1 _ (iD hkl)).2.1 (iB (iB o.dvs k).stops 0) (iD (by omega))).1).cells.2.1]) mR (by simp) fun H46 hS55 => ?_
   simp only [RT] at hS55
   simp (disch := omega) only [↓RA, RB, simprocAttr]
   refine hS55.ag [(.string ⟨#[]⟩), (.string ⟨#[83, 49]⟩), (.string ⟨#[84]⟩), (.string ⟨#[83, 50]⟩)] a3U a3t rfl rfl (by simp [Value.cells]) rfl rfl (by decide) (by decide) fun w19 H47 hS56 => ?_
   simp only [RT] at hS56
   simp (disch := omega) only [↓RA, RZ, simprocAttr, hn, k9, p9]
   have hS57 : St prog H H47 [⟨ptr A1 0 4, 0, _⟩, ⟨ptr A2 0 2, 0, _⟩, ⟨ptr A3 0 4, 0, _⟩, ⟨w2, 6, _⟩, ⟨w4, 5, _⟩, ⟨w6, 5, _⟩, ⟨ptr A4 0 5, 0, _⟩, ⟨w8, 4, _⟩, ⟨ptr A6 0 4, 0, _⟩, ⟨w19, 1, b8Y.flatMap (one Value.string)⟩] := hS56
   simp (disch := omega) only [↓RA, RZ, simprocAttr, hn, hS57.ld 1 rfl, (hS57.aw 9 rfl (lP _)).idx, (hS57.aw 9 rfl (lP _)).ld, one, f4, k9, p9]
   refine hS57.ab 8 rfl [_] rfl rfl tS9 (by simp) fun H48 hS58 => ?_
   simp only [RT] at hS58
   simp (disch := omega) only [↓RA, RZ, simprocAttr, hn, hS58.ld 6 rfl, hS58.ai 8 rfl, (hS58.aw 7 rfl (fun _ => rfl)).idx, iT, k9, p9]
   refine hS58.aA 7 rfl [_, I (iB (iB o.dvs k).stops 0).num, I (iB (iB o.dvs k).stops 0).den, (iB (iB o.dvs k).stops 0).gv] rfl (by simp [OC, (hS58.sl ((ho.2.2.2.1 _ (iD hkl)).2.1 (iB (iB o.dvs k).stops 0) (iD (by omega))).1).cells.2.1]) mR (by simp) (by rw [hls]; simp only [dz, dC]; omega) fun H49 hS59 => ?_
   simp only [RT] at hS59
   simp (disch := omega) only [↓RA, RZ, simprocAttr, hn, k9, p9]
   have hset : (((((iB o.dvs k).stops.flatMap Stp.cells).set (0 * 4) (.string (iB b8Y (aa % 4)))).set (0 * 4 + 1) (I (iB (iB o.dvs k).stops 0).num)).set (0 * 4 + 1 + 1) (I (iB (iB o.dvs k).stops 0).den)).set (0 * 4 + 1 + 1 + 1) (iB (iB o.dvs k).stops 0).gv = ((iB o.dvs k).stops.set 0 { iB (iB o.dvs k).stops 0 with name := iB b8Y (aa % 4) }).flatMap Stp.cells := by
    rw [← lZ (((((_ : List Value).set (0 * 4) _).set (0 * 4 + 1) _).set (0 * 4 + 1 + 1) _).set (0 * 4 + 1 + 1 + 1) _) (0 * 4 + 1 + 1 + 1 + 1), ← jD, ← jD, ← jD, ← jD]
    exact qB (n := 4) (cel := Stp.cells) (fun _ => rfl) (iB o.dvs k).stops 0 0 [_, _, _, _] _ (by omega) (by simp) rfl
   rw [hset] at hS59
   exact mA (hS59.pick [0, 2, 4, 6, 3, 5, 7] (by decide) rfl) GR ho.2.2.2.2.2.1 GD (by omega) ho.2.2.2.2.2.2.2 (fun G hG => a1C (GS G hG) (show Stp.In G _ from GS G hG (iB (iB o.dvs k).stops 0) (iD (by omega)))) (by rw [ee]; exact hdk.2.2) GP
  simp (disch := omega) only [↓RA, RZ, simprocAttr, hn, iT, k9, p9]
  exact mA (hS21.pick [0, 2, 4, 6, 3, 5, 7] (by decide) rfl) GR ho.2.2.2.2.2.1 GD (by omega) ho.2.2.2.2.2.2.2 GS hdk.2.2 GP
 simp (disch := omega) only [↓RA, RZ, simprocAttr, hn, k1, k2, k3, k4, k5, k6, k7, k8, k9]
 refine iA (fun k10 => ?_) (fun k10 => ?_)
 ·simp (disch := omega) only [↓RA, RZ, simprocAttr, hn, hS21.ld 6 rfl, (hS21.aw 7 rfl (fun _ => rfl)).len, k10]
  refine iA (fun p10 => ?_) (fun p10 => ?_)
  ·simp (disch := omega) only [↓RA, RZ, simprocAttr, k10, p10]
   refine Wp.al (fun n l H' => l.length = 275 ∧ get l 2 = (ptr A1 0 4) ∧ get l 3 = (ptr A2 0 2) ∧ get l 4 = (ptr A3 0 4) ∧ get l 6 = I k ∧ get l 7 = (ptr A4 0 5) ∧ ∃ (wz : Value) (sts : List Stp), (n + sts.length = 100 ∧ 0 < sts.length ∧ sts.length ≤ 61 ∧ (∀ G, o.In G → ∀ s ∈ sts, s.In G)) ∧ St prog H H' [⟨ptr A1 0 4, 0, [(.string o.name), w2, w4, w6]⟩, ⟨ptr A2 0 2, 0, [(.int .u8 ka), (.int .u8 aa)]⟩, ⟨ptr A3 0 4, 0, [(.string ⟨#[]⟩), (.slice none 0 0), (.slice none 0 0), (.slice none 0 0)]⟩, ⟨w2, 6, o.ranks.flatMap Rk.cells⟩, ⟨w4, 5, o.dvs.flatMap Dvn.cells⟩, ⟨w6, 5, o.cpls.flatMap Cpl.cells⟩, ⟨ptr A4 0 5, 0, [.string (iB o.dvs k).name, .bool (iB o.dvs k).pedal, I (iB o.dvs k).lo, I (iB o.dvs k).hi, wz]⟩, ⟨wz, 4, sts.flatMap Stp.cells⟩]) (100 - (iB o.dvs k).stops.length) ?_ ?_
   ·simp (disch := omega) only [RB, RC, simprocAttr, hn]
    exact ⟨_, (iB o.dvs k).stops, ⟨by omega, by omega, by omega, GS⟩, hS21⟩
   rintro n l H50 ⟨hn, g2, g3, g4, g6, g7, wz, sts, hj, hS60⟩
   obtain ⟨j1, j2, j3, J4⟩ := hj
   have j4 := J4 H ho
   have hlk : (sts.flatMap Stp.cells).length = sts.length * 4 := iG (n := 4) (fun _ => rfl) _
   simp (disch := omega) only [↓RA, RZ, simprocAttr, hn, g3, g7, hS60.ld 6 rfl, (hS60.aw 7 rfl (fun _ => rfl)).len, hS60.ld 1 rfl, f2]
   refine iA (fun q => ?_) (fun q => ?_)
   ·have q1 : (sts.length : Int).tdiv 10 = ((sts.length / 10 : Nat) : Int) := (Int.ofNat_tdiv _ _).symm
    have q2 : (sts.length : Int).tmod 10 = ((sts.length % 10 : Nat) : Int) := (dU _ _).symm
    simp (disch := omega) only [↓RA, RZ, simprocAttr, hn, g7, hS60.ld 6 rfl, (hS60.aw 7 rfl (fun _ => rfl)).idx, (hS60.aw 7 rfl (fun _ => rfl)).ai, Stp.cells, q]
    refine hS60.eNew 4 [(.string ⟨#[]⟩), I 0, I 0, (.slice none 0 0)] rfl rfl rfl mR fun A7 H51 hS61 => ?_
    simp only [RT] at hS61
    simp (disch := omega) only [↓RA, RZ, simprocAttr, hn, q]
    refine hS61.ab 8 rfl [(.string (iB sts 0).name), I (iB sts 0).num, I (iB sts 0).den, (iB sts 0).gv] rfl (by simp [OC, (hS61.sl (j4 (iB sts 0) (iD (by omega))).1).cells.2.1]) mR (by simp) fun H52 hS62 => ?_
    simp only [RT] at hS62
    simp (disch := omega) only [↓RA, RZ, simprocAttr, hn, g7, hS62.ld 6 rfl, (hS62.aw 7 rfl (fun _ => rfl)).len, q, q1, q2]
    refine hS62.ag [_, _] a2J a1E rfl rfl (by simp [Value.cells]) rfl rfl (by decide) (by decide) fun w20 H53 hS63 => ?_
    simp only [RT] at hS63
    simp (disch := omega) only [↓RA, RZ, simprocAttr, hn, a1J (hS63.rd 9 rfl) kV.1 kV.2.1 kV.2.2, q, a2K]
    refine hS63.ab 8 rfl [_] rfl rfl tS9 (by simp) fun H54 hS64 => ?_
    simp only [RT] at hS64
    simp (disch := omega) only [↓RA, RZ, simprocAttr, hn, g7, q]
    simp (disch := omega) only [↓RA, RZ, simprocAttr, hn, hS64.ld 6 rfl, hS64.ai 8 rfl, q]
    refine hS64.ag [(.string ⟨#[89, UInt8.ofNat (48 + ((sts.length / 10 : Nat) : Int)).toNat, UInt8.ofNat (48 + ((sts.length % 10 : Nat) : Int)).toNat]⟩), I (iB sts 0).num, I (iB sts 0).den, (iB sts 0).gv] a1L b5A rfl rfl (by first | (simp []; done) | simp [Value.cells]) (by first | (simp []; done) | simp [Value.cells]) (by simp [OC, (hS64.sl (j4 (iB sts 0) (iD (by omega))).1).cells.2.1]) (by decide) (by decide) fun w21 H55 hS65 => ?_
    simp only [RT] at hS65
    simp (disch := omega) only [↓RA, RZ, simprocAttr, hn, q]
    refine hS65.ar 7 rfl (hS65.rd 10 rfl) a1L (by rw [hlk]; simp only [dz, dC]; omega) fun w22 H56 hS66 => ?_
    simp only [RT] at hS66
    simp (disch := omega) only [↓RA, RZ, simprocAttr, hn, g7, q]
    refine hS66.ab 6 rfl [w22] (by rw [(hS66.rd 7 rfl).cells.1]) (by simp [(hS66.rd 7 rfl).cells.2.1]) b1q (by simp) fun H57 hS67 => ?_
    simp only [RT] at hS67
    simp (disch := omega) only [↓RA, RZ, simprocAttr, hn, g2, g3, g4, g6, g7, q]
    have happ : sts.flatMap Stp.cells ++ [.string ⟨#[89, UInt8.ofNat (48 + ((sts.length / 10 : Nat) : Int)).toNat, UInt8.ofNat (48 + ((sts.length % 10 : Nat) : Int)).toNat]⟩, I (iB sts 0).num, I (iB sts 0).den, (iB sts 0).gv] = (sts ++ [{ iB sts 0 with name := ⟨#[89, UInt8.ofNat (48 + ((sts.length / 10 : Nat) : Int)).toNat, UInt8.ofNat (48 + ((sts.length % 10 : Nat) : Int)).toNat]⟩ }]).flatMap Stp.cells := by rw [dM]; rfl
    rw [happ] at hS67
    exact ⟨n - 1, by omega, w22, sts ++ [_], ⟨by rw [dw]; simp only [dz, dC]; omega, by rw [dw]; omega, by rw [dw]; simp only [dz, dC]; omega, fun G hG s hs => by
     rcases dN.1 hs with h | h
     ·exact J4 G hG s h
     ·rw [dE.1 h]
      exact (show Stp.In G _ from J4 G hG (iB sts 0) (iD j2))⟩, hS67.pick [0, 1, 2, 3, 4, 5, 6, 7] (by decide) rfl⟩
   simp (disch := omega) only [↓RA, RZ, simprocAttr, hn, g2, g4, g6, g7, iT, q]
   exact mA (hS60.pick [0, 2, 4, 6, 3, 5, 7] (by decide) rfl) GR ho.2.2.2.2.2.1 GD (by omega) ho.2.2.2.2.2.2.2 J4 (by omega) GP
  simp (disch := omega) only [↓RA, RZ, simprocAttr, hn, iT, k10, p10]
  exact mA (hS21.pick [0, 2, 4, 6, 3, 5, 7] (by decide) rfl) GR ho.2.2.2.2.2.1 GD (by omega) ho.2.2.2.2.2.2.2 GS hdk.2.2 GP
 simp (disch := omega) only [↓RA, RZ, simprocAttr, hn, k1, k2, k3, k4, k5, k6, k7, k8, k9, k10]
 refine iA (fun k11 => ?_) (fun k11 => ?_)
 ·simp (disch := omega) only [↓RA, RZ, simprocAttr, hn, hS21.ld 0 rfl, (hS21.aw 3 rfl (fun _ => rfl)).aR, iT, k11]
  refine hS21.ab 0 rfl [(mK w2 6 0 i)] (by rw [((hS21.aw 3 rfl (fun _ => rfl)).bP i (by omega) (by omega)).cells.1]) (by simp [((hS21.aw 3 rfl (fun _ => rfl)).bP i (by omega) (by omega)).cells.2.1]) b6m (by simp) fun H58 hS68 => ?_
  simp only [RT] at hS68
  simp (disch := omega) only [↓RA, RZ, simprocAttr, hn, k11]
  obtain ⟨ca, cb, cc, ce⟩ := a5P (hS68.pick [0, 2, 4, 6, 3, 5, 7] (by decide) rfl)
  exact ⟨o.name, _, o.ranks.take i, _, o.dvs, _, o.cpls, ⟨_, _, _, _, w8, (iB o.dvs k).stops⟩, ⟨⟨ca.1.bP i (by omega) (by omega), fun b hb => ca.2 b (xY hb)⟩, fun G hG r hr => GR G hG r (gB hr), (by rw [gj]; omega), GD, (by omega), cb, ho.2.2.2.2.2.2.2, cc, GS, hdk.2.2, fun r hr => GP r (gB hr)⟩, ce⟩
 simp (disch := omega) only [↓RA, RZ, simprocAttr, hn, k1, k2, k3, k4, k5, k6, k7, k8, k9, k10, k11]
 refine iA (fun k12 => ?_) (fun k12 => ?_)
 ·skip
  simp (disch := omega) only [↓RA, RZ, simprocAttr, hn, hS21.ld 0 rfl, hS21.ld 1 rfl, a6d, iT, f5, k12]
  refine hS21.ag [(.string ⟨#[67, 57]⟩), _, I 0, I 1, (.bool false)] a0q b3p rfl rfl (by simp [Value.cells]) rfl rfl (by decide) (by decide) fun w23 H59 hS69 => ?_
  simp only [RT] at hS69
  simp (disch := omega) only [↓RA, RZ, simprocAttr, hn, k12]
  refine hS69.ar 5 rfl (hS69.rd 8 rfl) a0q (by rw [hlc]; simp only [dz, dC]; omega) fun w24 H60 hS70 => ?_
  simp only [RT] at hS70
  simp (disch := omega) only [↓RA, RZ, simprocAttr, hn, k12]
  refine hS70.ab 0 rfl [w24] (by rw [(hS70.rd 5 rfl).cells.1]) (by simp [(hS70.rd 5 rfl).cells.2.1]) a8y (by simp) fun H61 hS71 => ?_
  simp only [RT] at hS71
  simp (disch := omega) only [↓RA, RZ, simprocAttr, hn, k12]
  have happ : o.cpls.flatMap Cpl.cells ++ [.string ⟨#[67, 57]⟩, I ((aa % 5 : Nat) : Int), I 0, I 1, .bool false] = (o.cpls ++ [(⟨⟨#[67, 57]⟩, ((aa % 5 : Nat) : Int), 0, 1, false⟩ : Cpl)]).flatMap Cpl.cells := by rw [dM]; rfl
  rw [happ] at hS71
  exact mA (hS71.pick [0, 2, 4, 6, 3, 5, 7] (by decide) rfl) GR ho.2.2.2.2.2.1 GD (by omega) (by rw [dw]; simp only [dz, dC]; omega) GS hdk.2.2 GP
 simp (disch := omega) only [↓RA, RZ, simprocAttr, hn, k1, k2, k3, k4, k5, k6, k7, k8, k9, k10, k11, k12]
 refine iA (fun k13 => ?_) (fun k13 => ?_)
 ·skip
  simp (disch := omega) only [↓RA, RZ, simprocAttr, k13]
  refine Wp.aQ jV [(1, 3), (1, 10), (4, 0)] (by kernel_rfl) (by kernel_rfl) ?_
  simp (disch := omega) only [↓RA, RZ, simprocAttr, hn, hS21.ld 0 rfl, iT]
  refine hS21.ag [(.string ⟨#[]⟩), (.string ⟨#[67, 48]⟩), (.string ⟨#[68, 48]⟩)] a3U a3t rfl rfl (by simp [Value.cells]) rfl rfl (by decide) (by decide) fun w25 H62 hS72 => ?_
  simp only [RT] at hS72
  simp (disch := omega) only [↓RA, RZ, simprocAttr, hn]
  have hS73 : St prog H H62 [⟨ptr A1 0 4, 0, _⟩, ⟨ptr A2 0 2, 0, _⟩, ⟨ptr A3 0 4, 0, _⟩, ⟨w2, 6, _⟩, ⟨w4, 5, _⟩, ⟨w6, 5, _⟩, ⟨ptr A4 0 5, 0, _⟩, ⟨w8, 4, _⟩, ⟨w25, 1, b1L.flatMap (one Value.string)⟩] := hS72
  simp (disch := omega) only [↓RA, RZ, simprocAttr, hn, hS73.ld 1 rfl, (hS73.aw 8 rfl (lP _)).idx, (hS73.aw 8 rfl (lP _)).ld, one, b2N, f3]
  refine hS73.ag [_, I 0, I 0, I 1, (.bool false)] a0q b3p rfl rfl (by simp [Value.cells]) rfl rfl (by decide) (by decide) fun w26 H63 hS74 => ?_
  simp only [RT] at hS74
  simp (disch := omega) only [↓RA, RZ, simprocAttr, hn]
  refine hS74.ar 5 rfl (hS74.rd 9 rfl) a0q (by rw [hlc]; simp only [dz, dC]; omega) fun w27 H64 hS75 => ?_
  simp only [RT] at hS75
  simp (disch := omega) only [↓RA, RZ, simprocAttr, hn]
  refine hS75.ab 0 rfl [w27] (by rw [(hS75.rd 5 rfl).cells.1]) (by simp [(hS75.rd 5 rfl).cells.2.1]) a8y (by simp) fun H65 hS76 => ?_
  simp only [RT] at hS76
  simp (disch := omega) only [↓RA, RZ, simprocAttr, hn, hS73.ld 0 rfl, hS74.ld 0 rfl, hS21.ld 1 rfl]
  have happ : o.cpls.flatMap Cpl.cells ++ [.string (iB b1L (aa % 3)), I 0, I 0, I 1, .bool false] = (o.cpls ++ [(⟨iB b1L (aa % 3), 0, 0, 1, false⟩ : Cpl)]).flatMap Cpl.cells := by rw [dM]; rfl
  rw [happ] at hS76
  exact mA (hS76.pick [0, 2, 4, 6, 3, 5, 7] (by decide) rfl) GR ho.2.2.2.2.2.1 GD (by omega) (by rw [dw]; simp only [dz, dC]; omega) GS hdk.2.2 GP
 simp (disch := omega) only [↓RA, RZ, simprocAttr, hn, iT, k1, k2, k3, k4, k5, k6, k7, k8, k9, k10, k11, k12, k13]
 exact mA (hS21.pick [0, 2, 4, 6, 3, 5, 7] (by decide) rfl) GR ho.2.2.2.2.2.1 GD (by omega) ho.2.2.2.2.2.2.2 GS hdk.2.2 GP
end Go.Ds
namespace Go.Ds
open Go.Proofs Go.Proofs.Tryz
variable {H : Heap}
set_option maxRecDepth 10000
theorem Org.cZ {o : Org} (h : organE o = 0) : o.ranks.length ≤ 60 ∧ ∀ j, j < o.ranks.length → (iB o.ranks j).wind.length ≤ 128 := by
 unfold organE at h
 split at h
 ·omega
 split at h
 ·omega
 rename_i _ h2
 split at h
 ·rename_i hh; exact absurd h hh
 rename_i h3
 have h3 := dD.1 h3
 refine ⟨by omega, fun j hj => ?_⟩
 have e := rW h3 j hj
 unfold nP at e
 split at e
 ·rename_i hh; exact absurd e hh
 rename_i hr
 have hr := dD.1 hr
 unfold rankE at hr
 split at hr
 ·omega
 split at hr
 ·rename_i hh; exact absurd hr hh
 split at hr
 ·omega
 split at hr
 ·omega
 split at hr
 ·omega
 ·omega
theorem b3G {o : Org} (h : organE o = 0) (rg : Reg) (l : List Ct) : (∀ p ∈ kU o rg l, 0 ≤ p.1 ∧ p.1 < o.ranks.length ∧ 0 ≤ p.2 ∧ p.2 < 1000) ∧ (kU o rg l).length < 30000 := by
 obtain ⟨h1, h2⟩ := Org.cZ h
 have hp : ∀ p ∈ kU o rg l, 0 ≤ p.1 ∧ p.1 < o.ranks.length ∧ 0 ≤ p.2 ∧ p.2 < 128 := fun p hp => by
  obtain ⟨a, b, c, d⟩ := a9z hp
  have := h2 p.1.toNat (by omega)
  exact ⟨a, b, c, by omega⟩
 refine ⟨fun p hx => by have := hp p hx; exact ⟨this.1, this.2.1, this.2.2.1, by omega⟩, ?_⟩
 have h3 := a2i 7680 ((kU o rg l).map fun c => c.1.toNat * 128 + c.2.toNat) ?_ ?_
 ·rw [ed] at h3; omega
 ·unfold List.Nodup
  rw [List.pairwise_map]
  refine List.Pairwise.imp_of_mem (fun {a b} ha hb hne e => ?_) (a0c o rg l)
  have h1 := hp a ha
  have h2 := hp b hb
  unfold ltP at hne
  omega
 ·intro i hi
  obtain ⟨c, hc, rfl⟩ := dK.1 hi
  have := hp c hc
  omega
theorem a6r (o : Org) (sv : Value) (rg : Reg) (ks : List Nt) : yR o [(sv, rg), (sv, rg)] ks = rkE o rg ks := by
 have hs : oE o [(sv, rg), (sv, rg)] = mZ o rg := by
  unfold oE
  by_cases h0 : organE o ≠ 0
  ·rw [if_pos h0]; unfold mZ; rw [if_pos h0]
  ·rw [if_neg h0]
   by_cases h : mZ o rg ≠ 0
   ·exact nD (fun j => mZ o (iB [(sv, rg), (sv, rg)] j).2) 2 0 (by decide) h fun j hj => absurd hj (dS _)
   ·have h' := dD.1 h
    rw [h']
    refine kM _ _ fun j hj => ?_
    have : j = 0 ∨ j = 1 := by simp at hj; omega
    rcases this with rfl | rfl
    ·exact h'
    ·exact h'
 unfold yR rkE
 rw [hs]
theorem b3Z (o : Org) (ho : o.In H) (rg : Reg) (sv : Value) (hr : rg.In H sv) (kv : Value) (ks : List Nt) (hk : Ks H kv ks) (c : Ct) (h0 : rkE o rg ks ≠ 0) :
 Fn prog 25 [.agg #[.string o.name, o.rv, o.dv, o.cv], .agg #[sv, .int .u64 rg.cpl, .int .u64 rg.off], kv, .agg #[I c.1, I c.2]] H fun r H' => r = .tuple #[.slice none 0 0, I (rkE o rg ks)] ∧ St prog H H' [] := by
 refine .cI func25 rfl (by kernel_rfl) (m := 42) rfl fun l hn g0 g1 g2 g3 => ?_
 simp (disch := omega) only [↓RA, RB, simprocAttr, g0]
 refine (sR H).eNew 4 [(.string o.name), o.rv, o.dv, o.cv] rfl rfl (by simp [OC, ((sR H).sl ho.1).cells.2.1, ((sR H).sl ho.2.2.1).cells.2.1, ((sR H).sl ho.2.2.2.2.1).cells.2.1]) mD fun A1 H1 hS1 => ?_
 simp only [RT] at hS1
 simp (disch := omega) only [↓RA, RB, simprocAttr, g1]
 refine hS1.eNew 3 [sv, (.int .u64 rg.cpl), (.int .u64 rg.off)] rfl rfl (by simp [OC, (hS1.sl hr.1).cells.2.1]) pG fun A2 H2 hS2 => ?_
 simp only [RT] at hS2
 simp (disch := omega) only [↓RA, RB, simprocAttr, g3]
 refine hS2.eNew 2 [I c.1, I c.2] rfl rfl rfl rC fun A3 H3 hS3 => ?_
 simp only [RT] at hS3
 simp (disch := omega) only [↓RA, RZ, simprocAttr, hn, hS3.ai 0 rfl, hS3.ai 1 rfl]
 refine hS3.ag [sv, (.int .u64 rg.cpl), (.int .u64 rg.off)] a7o a6U rfl rfl (by first | (simp []; done) | simp [Value.cells]) (by first | (simp []; done) | simp [Value.cells]) (by simp [OC, (hS3.sl hr.1).cells.2.1]) (by decide) (by decide) fun w1 H4 hS4 => ?_
 simp only [RT] at hS4
 simp (disch := omega) only [↓RA, RZ, simprocAttr, hn, g2]
 refine hS4.cF (a4W o (ho.ae hS4) w1 [(sv, rg)] (hS4.aw 3 rfl (fun _ => rfl)) (by simp) (by intro p hp; rw [dE.1 hp]; exact hr.ae hS4) kv ks (hk.ae hS4)) fun H5 hS5 => ?_
 have hsc := a1O o sv rg ks
 simp (disch := omega) only [↓RA, RB, simprocAttr, hn, hsc]
 refine iA (fun h1 => ?_) (fun h1 => ?_)
 ·simp (disch := omega) only [↓RA, RZ, simprocAttr, hn, c6y, hsc, h1]
  exact hS5.forget
 exact absurd h0 h1
end Go.Ds
