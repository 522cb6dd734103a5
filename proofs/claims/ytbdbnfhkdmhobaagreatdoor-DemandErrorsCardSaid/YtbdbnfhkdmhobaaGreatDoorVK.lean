/-
  A part of the proof of DemandErrors.
-/
import Derived.Test.YtbdbnfhkdmhobaaGreatDoorVI
import Derived.Test.YtbdbnfhkdmhobaaGreatDoorVD
set_option linter.unusedVariables false
set_option linter.unusedSimpArgs false
set_option linter.defProp false
set_option linter.unusedSectionVars false
namespace Go.Ds
open Go.Proofs Go.ChangeShapes Go.WideShapes Go.RowKit Go.Deep
set_option maxRecDepth 10000
section
variable {H0 : Type} {enc : TypeId × Value → H0} {w : World} {base n : Nat} {spare : Nat → Bool} {kO : Bool} {x : DataW H0 × List MemPlace}
end
section
variable {H0 : Type} {enc : TypeId × Value → H0} {w : World} {base : Nat} {kO : Bool}
end
end Go.Ds
namespace Go.Ds
open Go.Proofs Go.Proofs.Tryz
variable {H : Heap}
set_option maxRecDepth 10000
set_option maxHeartbeats 1000000
abbrev Nt := Nat × Nat
def ntc (x : Nt) : List Value := [.int .u64 x.1, .int .u64 x.2]
def Nt.Ok (x : Nt) : Prop := x.1 < 18446744073709551616 ∧ x.2 < 18446744073709551616
def sO (x : Nt) (n : Int) : Nt := if n < 64 then (x.1 ||| 2 ^ n.toNat, x.2) else (x.1, x.2 ||| 2 ^ (n - 64).toNat)
theorem a5b (i : Nat) (h : i < 64) : 2 ^ i < 18446744073709551616 := by
 have : 2 ^ i ≤ 2 ^ 63 := fD (by decide) (by omega)
 have e : 2 ^ 63 = 9223372036854775808 := rfl
 omega
theorem b4M {a b : Nat} (ha : a < 18446744073709551616) (hb : b < 18446744073709551616) : a ||| b < 18446744073709551616 := Nat.or_lt_two_pow (n := 64) ha hb
theorem orB (a b : Nat) (ha : a < 18446744073709551616) (hb : b < 18446744073709551616) : IntKind.wrap .u64 ((BitVec.ofInt (IntKind.bits .u64) (a : Int) ||| BitVec.ofInt (IntKind.bits .u64) (b : Int)).toNat : Int) = ((a ||| b : Nat) : Int) := by
 have e : (BitVec.ofInt (IntKind.bits .u64) (a : Int) ||| BitVec.ofInt (IntKind.bits .u64) (b : Int)).toNat = a ||| b := by
  rw [BitVec.toNat_or, a0e a ha, a0e b hb]
 rw [e]
 have := b4M ha hb
 exact pW _ (by omega) (by omega)
theorem orN (n i : Nat) (hn : n < 18446744073709551616) (hi : i < 64) : IntKind.wrap .u64 ((BitVec.ofInt (IntKind.bits .u64) (n : Int) ||| BitVec.ofInt (IntKind.bits .u64) (IntKind.wrap .u64 (1 * 2 ^ min i (IntKind.bits .u64)))).toNat : Int) = ((n ||| 2 ^ i : Nat) : Int) := by
 rw [c3R i hi]
 exact orB n (2 ^ i) hn (a5b i hi)
theorem b7F {x : Nt} (hx : Nt.Ok x) {z : Int} (h0 : 0 ≤ z) (h1 : z < 128) : Nt.Ok (sO x z) := by
 unfold sO
 split
 ·exact ⟨b4M hx.1 (a5b _ (by omega)), hx.2⟩
 ·exact ⟨hx.1, b4M hx.2 (a5b _ (by omega))⟩
theorem a6o (x : Nt) (hx : Nt.Ok x) (z : Int) (h0 : 0 ≤ z) (h1 : z < 128) : Fn prog 50 [.agg #[.int .u64 x.1, .int .u64 x.2], I z] H fun r H' => r = .agg #[.int .u64 (sO x z).1, .int .u64 (sO x z).2] ∧ St prog H H' [] := by
 obtain ⟨m, rfl⟩ := gG h0
 refine .aM func50 rfl (by kernel_rfl) (m := 21) rfl fun l hn g0 g1 => ?_
 simp (disch := omega) only [↓RA, RB, simprocAttr, g0]
 refine (sR H).eNew 2 [(.int .u64 x.1), (.int .u64 x.2)] rfl rfl rfl mT fun A1 H1 hS1 => ?_
 simp only [RT] at hS1
 simp (disch := omega) only [↓RA, RZ, simprocAttr]
 refine hS1.eNew 2 [(.int .u64 0), (.int .u64 0)] rfl rfl rfl mT fun A2 H2 hS2 => ?_
 simp only [RT] at hS2
 simp (disch := omega) only [↓RA, RB, simprocAttr, hn, g1]
 refine gY (fun q1 => ?_) (fun q1 => ?_)
 ·have e1 := orN x.1 m hx.1 (by omega)
  have e2 : sO x (m : Int) = (x.1 ||| 2 ^ m, x.2) := by unfold sO; rw [if_pos q1]; rfl
  simp (disch := omega) only [↓RA, RC, simprocAttr, q1]
  refine Wp.drw jZ (by kernel_rfl) ?_
  simp (disch := omega) only [↓RA, RZ, simprocAttr, hn, g1, hS2.ld 0 rfl, e1]
  refine hS2.ab 0 rfl [(.int .u64 (x.1 ||| 2 ^ m : Nat))] rfl rfl b9X (by simp) fun H3 hS3 => ?_
  simp only [RT] at hS3
  simp (disch := omega) only [↓RA, RZ, simprocAttr, hn, hS3.ae 0 rfl]
  refine hS3.ab 1 rfl [(.int .u64 (x.1 ||| 2 ^ m : Nat)), (.int .u64 x.2)] rfl rfl mT (by simp) fun H4 hS4 => ?_
  simp only [RT] at hS4
  simp (disch := omega) only [↓RA, RZ, simprocAttr, hn, c4l, hS4.ae 1 rfl]
  rw [e2]
  exact ⟨rfl, hS4.forget⟩
 have e1 := orN x.2 (m - 64) hx.2 (by omega)
 have e3 : (m : Int) - 64 = ((m - 64 : Nat) : Int) := by omega
 have e2 : sO x (m : Int) = (x.1, x.2 ||| 2 ^ (m - 64)) := by unfold sO; rw [if_neg q1, e3]; rfl
 simp (disch := omega) only [↓RA, RC, simprocAttr, q1]
 refine Wp.drw jZ (by kernel_rfl) ?_
 simp (disch := omega) only [↓RA, RZ, simprocAttr, hn, g1, hS2.ld 0 rfl, e1, e3]
 refine hS2.ab 0 rfl [(.int .u64 (x.2 ||| 2 ^ (m - 64) : Nat))] rfl rfl b9X (by simp) fun H5 hS5 => ?_
 simp only [RT] at hS5
 simp (disch := omega) only [↓RA, RZ, simprocAttr, hn, hS5.ae 0 rfl]
 refine hS5.ab 1 rfl [(.int .u64 x.1), (.int .u64 (x.2 ||| 2 ^ (m - 64) : Nat))] rfl rfl mT (by simp) fun H6 hS6 => ?_
 simp only [RT] at hS6
 simp (disch := omega) only [↓RA, RZ, simprocAttr, hn, c4l, hS6.ae 1 rfl]
 rw [e2]
 exact ⟨rfl, hS6.forget⟩
def jN (xs : List Int) : Nt := xs.foldl sO (0, 0)
def isN (z : Int) : Prop := 0 ≤ z ∧ z < 128
theorem rP : ∀ (xs : List Int) (x : Nt), (∀ z ∈ xs, isN z) → Nt.Ok x → Nt.Ok (xs.foldl sO x)
 | [], _, _, h => h
 | z :: xs, x, hz, h => by
   rw [eU]
   exact rP xs _ (fun y hy => hz y (eE _ hy)) (b7F h (hz z (ef ..)).1 (hz z (ef ..)).2)
theorem a6l (xs : List Int) {j : Nat} (hj : j < xs.length) : jN (xs.take (j + 1)) = sO (jN (xs.take j)) (gZ xs j) := by
 unfold jN
 rw [List.take_add_one, dg hj, Option.toList_some, fj, ← jS _ j hj]
 rfl
theorem b2y (z : Int) (h : isN z) : Fn prog 49 [I z] H fun r H' => r = .bool true ∧ St prog H H' [] := by
 have h0 := h.1
 have h1 := h.2
 refine .aR func49 rfl (by kernel_rfl) (m := 9) rfl fun l hn g0 => ?_
 simp (disch := omega) only [↓RA, RZ, simprocAttr, hn, g0]
 refine kB (fun q1 => ?_) (fun q1 => ?_)
 rotate_left
 ·exfalso; first | omega | (simp at q1; omega)
 simp (disch := omega) only [↓RA, RZ, simprocAttr, hn, g0, c5a, q1]
 simpa using ⟨(by omega : z ≤ 127), (sR H)⟩
theorem wE (xs : List Int) (hz : ∀ z ∈ xs, isN z) (v : Value) (hv : Sl 1 (one I) H v xs) (hl : xs.length < 1000000000) :
 Fn prog 29 [v] H fun r H' => r = .tuple #[.agg #[.int .u64 (jN xs).1, .int .u64 (jN xs).2], I 0] ∧ St prog H H' [] := by
 refine .aR func29 rfl (by kernel_rfl) (m := 22) rfl fun l hn g0 => ?_
 simp (disch := omega) only [↓RA, RZ, simprocAttr]
 refine (sR H).eNew 2 [(.int .u64 0), (.int .u64 0)] rfl rfl rfl mT fun A1 H1 hS1 => ?_
 simp only [RT] at hS1
 simp (disch := omega) only [↓RA, RZ, simprocAttr]
 refine hS1.eNew 2 [(.int .u64 0), (.int .u64 0)] rfl rfl rfl mT fun A2 H2 hS2 => ?_
 simp only [RT] at hS2
 simp (disch := omega) only [↓RA, RZ, simprocAttr, hn, g0, (hS2.sl hv).len]
 refine Wp.al (fun n l H' => l.length = 22 ∧ get l 2 = (ptr A1 0 2) ∧ get l 4 = (ptr A2 0 2) ∧ get l 7 = v ∧ get l 8 = I xs.length ∧ ∃ (j : Nat), (n + j = xs.length) ∧ get l 9 = I j ∧ St prog H H' [⟨ptr A1 0 2, 0, [(.int .u64 0), (.int .u64 0)]⟩, ⟨ptr A2 0 2, 0, [.int .u64 (jN (xs.take j)).1, .int .u64 (jN (xs.take j)).2]⟩]) xs.length ?_ ?_
 ·simp (disch := omega) only [RB, RC, simprocAttr, hn]
  exact ⟨0, by omega, rfl, hS2⟩
 rintro n l H3 ⟨hn, g2, g4, g7, g8, j, hj, g9, hS3⟩
 simp (disch := omega) only [↓RA, RB, simprocAttr, hn, g8, g9]
 refine gY (fun q1 => ?_) (fun q1 => ?_)
 ·have hx := hz _ (iB (xs := xs) (j := j) (by omega))
  have hok : Nt.Ok (jN (xs.take j)) := rP _ _ (fun z h => hz z (List.mem_of_mem_take h)) ⟨by decide, by decide⟩
  simp (disch := omega) only [↓RA, RZ, simprocAttr, hn, g7, g9, (hS3.sl hv).idx, (hS3.sl hv).ld, one, q1]
  refine hS3.cF (b2y (gZ xs j) hx) fun H4 hS4 => ?_
  simp (disch := omega) only [↓RA, RZ, simprocAttr, hn, g4, hS4.ae 1 rfl, q1]
  refine hS4.cF (a6o (jN (xs.take j)) hok (gZ xs j) hx.1 hx.2) fun H5 hS5 => ?_
  simp (disch := omega) only [↓RA, RZ, simprocAttr, hn, g4, q1]
  refine hS5.ab 1 rfl [(.int .u64 (sO (jN (xs.take j)) (gZ xs j)).1), (.int .u64 (sO (jN (xs.take j)) (gZ xs j)).2)] rfl rfl mT (by simp) fun H6 hS6 => ?_
  simp only [RT] at hS6
  simp (disch := omega) only [↓RA, RZ, simprocAttr, hn, g2, g4, g7, g8, g9, q1]
  refine ⟨n - 1, by omega, j + 1, by omega, by simp, ?_⟩
  rw [a6l xs (by omega)]
  exact hS6.pick [0, 1] (by decide) rfl
 have hjj : j = xs.length := by omega
 simp (disch := omega) only [↓RA, RZ, simprocAttr, hn, g2, g4, hS3.ae 1 rfl, q1]
 refine hS3.ab 0 rfl [(.int .u64 (jN (xs.take j)).1), (.int .u64 (jN (xs.take j)).2)] rfl rfl mT (by simp) fun H7 hS7 => ?_
 simp only [RT] at hS7
 simp (disch := omega) only [↓RA, RZ, simprocAttr, hn, g2, c5p, hS7.ae 0 rfl, q1]
 rw [hjj, dT]
 exact ⟨rfl, hS7.forget⟩
end Go.Ds
namespace Go.Ds
open Go.Proofs
variable {H : Heap}
set_option maxRecDepth 10000
set_option maxHeartbeats 1000000
theorem St.perm {P : Program} {H0 : Base} {os os' : List Ob} (h : St P H0 H os) (hp : os.Perm os') : St P H0 H os' where
 len := h.len
 old := h.old
 own o ho := h.own o (hp.mem_iff.2 ho)
 new o ho := h.new o (hp.mem_iff.2 ho)
 sep := (List.Perm.pairwise_iff (fun {_ _} hxy B hB hB2 => hxy B hB2 hB) hp).1 h.sep
theorem Lp.swap {P : Program} {B : Base} {L : Nat} {r : Loop} {xs ys zs : List Ob} (h : Lp P B L r H ((xs ++ ys) ++ zs)) : Lp P B L r H ((xs ++ zs) ++ ys) := by
 have hp : ((xs ++ ys) ++ zs).Perm ((xs ++ zs) ++ ys) := by
  rw [ek, ek]
  exact (List.perm_append_comm).append_left xs
 exact ⟨h.st.perm hp, h.get, h.lo, fun o ho => h.ne o (hp.mem_iff.2 ho)⟩
end Go.Ds
namespace Go.Ds
open Go.Proofs Go.Proofs.Tryz
variable {H : Heap}
set_option maxRecDepth 10000
set_option maxHeartbeats 1000000
def ctz (x : Nat) : Nat := ((List.range 64).find? fun i => x.testBit i).getD 64
theorem a2a {x : Nat} (h0 : x ≠ 0) (h1 : x < 18446744073709551616) : ctz x < 64 ∧ x.testBit (ctz x) = true ∧ ∀ j, j < ctz x → x.testBit j = false := by
 have hx : ∃ i, i < 64 ∧ x.testBit i = true := by
  refine fH fun hn => h0 ?_
  refine fN fun i => ?_
  rw [gW]
  by_cases hi : i < 64
  ·by_cases hb : x.testBit i = true
   ·exact absurd ⟨i, hi, hb⟩ hn
   ·simpa using hb
  ·exact Nat.testBit_lt_two_pow (dB (show x < 2 ^ 64 by simpa using h1) (fD (by decide) (by omega)))
 unfold ctz
 cases hf : (List.range 64).find? fun i => x.testBit i with
 | none =>
   obtain ⟨i, hi, hb⟩ := hx
   have := fZ.1 hf i (dr.2 hi)
   exact absurd hb (by simpa using this)
 | some i =>
   obtain ⟨hb, ys, bs, he, hn⟩ := List.find?_eq_some_iff_append.1 hf
   have hi : i < 64 := dr.1 (he ▸ (by simp : i ∈ ys ++ i :: bs))
   refine ⟨hi, hb, fun j hj0 => ?_⟩
   have hj : j < i := hj0
   have hl : ys.length = i := by
    have h2 : (List.range 64)[ys.length]? = some i := by rw [he]; simp
    have h3 : ys.length < 64 := by
     have := congrArg List.length he
     simp at this
     omega
    rw [gy h3] at h2
    exact cR h2
   have hm : j ∈ ys := by
    have h2 : (List.range 64)[j]? = some j := gy (by omega)
    rw [he, dY (by simpa using (hl ▸ hj))] at h2
    exact dF h2
   simpa using hn j hm
theorem a3M {x : Nat} (h0 : x ≠ 0) (h1 : x < 18446744073709551616) : ∃ m, x = 2 ^ ctz x * (2 * m + 1) := by
 obtain ⟨c1, c2, c3⟩ := a2a h0 h1
 generalize ctz x = k at c1 c2 c3
 have hd : x % 2 ^ k = 0 := by
  refine fN fun i => ?_
  rw [Nat.testBit_mod_two_pow, gW]
  by_cases hi : i < k
  ·rw [c3 i hi, Bool.and_false]
  ·rw [decide_eq_false hi, fC]
 have h2 : x / 2 ^ k % 2 = 1 := by
  rw [← eF]
  have := c2
  rw [tb] at this
  exact of_decide_eq_true this
 refine ⟨x / 2 ^ k / 2, ?_⟩
 have h3 := Nat.div_add_mod x (2 ^ k)
 have h4 := Nat.div_add_mod (x / 2 ^ k) 2
 rw [hd, gI] at h3
 rw [← h3]
 congr 1
 rw [h3]
 omega
theorem b7m {x : Nat} (h0 : x ≠ 0) (h1 : x < 18446744073709551616) : x &&& (18446744073709551616 - x) = 2 ^ ctz x := by
 obtain ⟨m, hm⟩ := a3M h0 h1
 obtain ⟨c1, _, _⟩ := a2a h0 h1
 generalize ctz x = k at hm c1
 have e64 : (18446744073709551616 : Nat) = 2 ^ k * (2 * 2 ^ (63 - k)) := by
  have : 2 ^ k * (2 * 2 ^ (63 - k)) = 2 ^ 64 := by rw [← Nat.pow_succ', ← Nat.pow_add]; congr 1; omega
  rw [this]
 have hml : m < 2 ^ (63 - k) := by
  rw [e64, hm] at h1
  have := Nat.lt_of_mul_lt_mul_left h1
  omega
 have e2 : 18446744073709551616 - x = 2 ^ k * (2 * (2 ^ (63 - k) - (m + 1)) + 1) := by
  rw [e64, hm, ← Nat.mul_sub]
  congr 1
  omega
 rw [e2, hm]
 refine fN fun i => ?_
 rw [Nat.testBit_and, fR]
 have hs : ∀ y : Nat, (2 ^ k * y).testBit i = (decide (k ≤ i) && y.testBit (i - k)) := fun y => by rw [Nat.mul_comm, Nat.testBit_mul_two_pow]
 rw [hs, hs]
 by_cases hi : k ≤ i
 ·rw [decide_eq_true hi, gB, gB]
  by_cases he : i = k
  ·subst he
   rw [Nat.sub_self, Nat.testBit_zero, Nat.testBit_zero]
   simp
  ·obtain ⟨j, hj⟩ : ∃ j, i - k = j + 1 := ⟨i - k - 1, by omega⟩
   rw [hj, Nat.testBit_succ, Nat.testBit_succ, show (2 * m + 1) / 2 = m by omega, show (2 * (2 ^ (63 - k) - (m + 1)) + 1) / 2 = 2 ^ (63 - k) - (m + 1) by omega, Nat.testBit_two_pow_sub_succ hml, decide_eq_false (by omega : ¬ k = i)]
   cases m.testBit j <;> simp
 ·rw [decide_eq_false hi, fC, decide_eq_false (by omega)]
  rfl
theorem c4r : ((List.range 64).all fun k => decide (2 ^ k * 285870213051353865 % 18446744073709551616 / 288230376151711744 < 64) && decide (t64.getD (2 ^ k * 285870213051353865 % 18446744073709551616 / 288230376151711744) 99 = k)) = true := by kernel_rfl
theorem b3O {P : Program} {t : TypeId} {n : Nat} {elem : TypeId} {size : Nat} (ha : P.underlying t = some (.array n elem)) (hs : iA P elem = some size) (A i : Nat) (k : IntKind) (j : Int) (h0 : 0 ≤ j) (h1 : j < n) :
 vW (iP P t) P t (.pointer (some ⟨A, i, none⟩)) (.int k j) = some (.pointer (some ⟨A, i + j.toNat * size, none⟩)) := by
 have hn : iP P t = none := by simp [iP, iD, ha]
 rw [hn]
 simp only [vW, a1B, ha, hs, cS]
 rw [if_pos (by simp [h0, h1])]
theorem c0o (k : IntKind) (j : Int) (h0 : 0 ≤ j) (h1 : j < 64) : vW (iP prog 273) prog 273 (.pointer (some ⟨0, 0, none⟩)) (.int k j) = some (.pointer (some ⟨0, 0 + j.toNat * 1, none⟩)) :=
 b3O (n := 64) (elem := 5) (size := 1) (by kernel_rfl) (by kernel_rfl) 0 0 k j h0 h1
theorem b2w (g : Nat) (l : List Value) (K : Value → Prop) : jD (.global g) l K = K (.pointer (some ⟨g, 0, none⟩)) := by simp [jD, iK, ev]
theorem gld (hG : Glob gH H) (j : Nat) (hj : j < 64) (s : Option Nat) : pB (some false) s H (.pointer (some ⟨0, j, none⟩)) = some (.int .u8 (t64.getD j 0 : Nat)) := by
 have h0 : iM H 0 = some (.cells (t64.map fun (n : Nat) => Value.int .u8 (.ofNat n)) 5 false 0 1) := by
  rw [hG.same 0 (by decide)]
  rfl
 simp only [pB, iZ, h0]
 have hl : (t64.map fun (n : Nat) => Value.int .u8 (.ofNat n)).length = 64 := by rw [dR]; rfl
 rw [if_pos (by rw [hl]; simp; omega)]
 simp only [cS]
 rw [dJ (by omega), dy, gI, eo, dg (show j < t64.length from hj)]
 rw [dD, cW, dg (show j < t64.length from hj)]
 rfl
theorem a9q (m : Int) : IntKind.wrap .u64 m = m % 18446744073709551616 := by
 show (if (false && decide (m % 18446744073709551616 ≥ 9223372036854775808)) = true then m % 18446744073709551616 - 18446744073709551616 else m % 18446744073709551616) = _
 simp
theorem c3Q (hG : Glob gH H) (x : Nat) (h0 : x ≠ 0) (h1 : x < 18446744073709551616) : Fn prog 155 [.int .u64 x] H fun r H' => r = I (ctz x) ∧ St prog H H' [] := by
 obtain ⟨c1, _, _⟩ := a2a h0 h1
 have hd := dh.1 c4r (ctz x) (dr.2 c1)
 rw [cT, decide_eq_true_eq, decide_eq_true_eq] at hd
 have eA : IntKind.wrap .u64 (0 - (x : Int)) = ((18446744073709551616 - x : Nat) : Int) := by
  rw [a9q]
  omega
 have eB : IntKind.wrap .u64 ((BitVec.ofInt (IntKind.bits .u64) (x : Int) &&& BitVec.ofInt (IntKind.bits .u64) ((18446744073709551616 - x : Nat) : Int)).toNat : Int) = ((2 ^ ctz x : Nat) : Int) := by
  rw [gV, a0e x h1, a0e _ (by omega), b7m h0 h1]
  exact pW _ (by omega) (by have := a5b (ctz x) c1; omega)
 have eC : IntKind.wrap .u64 (((2 ^ ctz x : Nat) : Int) * 285870213051353865) = ((2 ^ ctz x * 285870213051353865 % 18446744073709551616 : Nat) : Int) := by
  rw [a9q]
  rfl
 have eD : ((2 ^ ctz x * 285870213051353865 % 18446744073709551616 : Nat) : Int).fdiv (2 ^ min 58 (IntKind.bits .u64)) = ((2 ^ ctz x * 285870213051353865 % 18446744073709551616 / 288230376151711744 : Nat) : Int) := by
  rw [show (2 : Int) ^ min 58 (IntKind.bits .u64) = ((288230376151711744 : Nat) : Int) from rfl]
  exact gn _ (by omega)
 have hd1 := hd.1
 have hd2 := hd.2
 generalize 2 ^ ctz x * 285870213051353865 % 18446744073709551616 / 288230376151711744 = i at eD hd1 hd2
 refine .aR func155 rfl (by kernel_rfl) (m := 14) rfl fun l hn g0 => ?_
 have iM := gld hG i hd1 (some 1)
 rw [show t64.getD i 0 = ctz x from by rw [← hd2, cW, cW, dg (show i < t64.length from hd1)]; rfl] at iM
 have hidx := c0o .u64 (i : Int) (by omega) (by omega)
 rw [ez, Nat.mul_one, fL] at hidx
 simp (disch := omega) only [↓RA, RB, simprocAttr, hn, g0]
 refine gY (fun q => ?_) (fun q => ?_)
 ·exfalso; omega
 simp (disch := omega) only [↓RA, RZ, simprocAttr, hn, g0, c3s, eA, eB, eC, eD, b2w, iM, hidx, q]
 first | exact (sR H) | exact ⟨rfl, (sR H)⟩
theorem a4V {x : Nat} (h0 : x ≠ 0) (h1 : x < 18446744073709551616) (j : Nat) : (x &&& (x - 1)).testBit j = (x.testBit j && !decide (j = ctz x)) := by
 obtain ⟨m, hm⟩ := a3M h0 h1
 generalize ctz x = k at hm
 have hp : 0 < 2 ^ k := Nat.two_pow_pos k
 have e1 : x = 2 ^ (k + 1) * m + 2 ^ k := by rw [hm, Nat.pow_succ, Nat.mul_add, Nat.mul_one, Nat.mul_assoc]
 have e2 : x - 1 = 2 ^ (k + 1) * m + (2 ^ k - 1) := by omega
 have hl : 2 ^ k < 2 ^ (k + 1) := Nat.pow_lt_pow_right (by decide) (by omega)
 rw [Nat.testBit_and, e2]
 rw [e1, Nat.testBit_two_pow_mul_add m hl, Nat.testBit_two_pow_mul_add m (by omega : 2 ^ k - 1 < 2 ^ (k + 1))]
 by_cases hj : j < k + 1
 ·rw [if_pos hj, if_pos hj, fR, Nat.testBit_two_pow_sub_one]
  by_cases he : j = k
  ·simp [he]
  ·simp [show ¬ k = j by omega]
 ·rw [if_neg hj, if_neg hj, show decide (j = k) = false from decide_eq_false (by omega)]
  simp
theorem b2n {x : Nat} (h0 : x ≠ 0) (h1 : x < 18446744073709551616) : oU x = ctz x :: oU (x &&& (x - 1)) := by
 obtain ⟨c1, c2, c3⟩ := a2a h0 h1
 have hb := a4V h0 h1
 generalize ctz x = k at c1 c2 c3 hb
 obtain ⟨t, ht⟩ := a6O c1
 have hnd : (List.range 64).Nodup := List.nodup_range
 unfold oU
 rw [ht, eP, eP, List.filter_cons_of_pos (by simpa using c2), List.filter_cons_of_neg (by rw [hb]; simp)]
 rw [ht] at hnd
 have e1 : (List.range k).filter (fun i => x.testBit i) = [] := List.filter_eq_nil_iff.2 fun i hi => by simpa using c3 i (dr.1 hi)
 have e2 : (List.range k).filter (fun i => (x &&& (x - 1)).testBit i) = [] := List.filter_eq_nil_iff.2 fun i hi => by rw [hb, c3 i (dr.1 hi)]; simp
 rw [e1, e2, eV, eV]
 congr 1
 refine List.filter_congr fun i hi => ?_
 have hne : i ≠ k := fun e => by
  subst e
  exact (List.nodup_cons.1 (List.nodup_append.1 hnd).2.1).1 hi
 rw [hb, decide_eq_false hne]
 simp
theorem a9K : oU 0 = [] := List.filter_eq_nil_iff.2 fun i _ => by simp
def pI (x : Nt) : List Int := (oU x.1).map (fun (i : Nat) => (i : Int)) ++ (oU x.2).map fun (i : Nat) => 64 + (i : Int)
def a6I (x : Nt) (i : Nat) : Nat := if i = 0 then x.1 else x.2
def a4Y (x : Nt) (i : Nat) : List Int := (oU (a6I x i)).map fun (j : Nat) => 64 * (i : Int) + (j : Int)
def a5g (x : Nt) (i : Nat) : List Int := (List.range i).flatMap (a4Y x)
theorem yS (x : Nt) (i : Nat) : a5g x (i + 1) = a5g x i ++ a4Y x i := by
 unfold a5g
 rw [ed, dN, dG, fw, dq]
theorem a6m (x : Nt) : a5g x 2 = pI x := by
 rw [yS, yS]
 unfold pI a5g a4Y a6I
 simp
theorem b7T {x : Nt} (hx : Nt.Ok x) (i : Nat) : a6I x i < 18446744073709551616 := by
 unfold a6I
 split
 ·exact hx.1
 ·exact hx.2
theorem c4t (a b : Int) : oN prog 249 (.agg #[.int .u64 a, .int .u64 b]) (I 0) = some (.int .u64 a) := by kernel_rfl
theorem c2t (a b : Int) : oN prog 249 (.agg #[.int .u64 a, .int .u64 b]) (I 1) = some (.int .u64 b) := by kernel_rfl
theorem c5S (x : Nt) (i : Nat) (h : i < 2) : a1y (oA prog 249) prog 249 (.agg #[.int .u64 x.1, .int .u64 x.2]) (I i) = some (.int .u64 (a6I x i)) := by
 rw [← a6K]
 rcases (by omega : i = 0 ∨ i = 1) with rfl | rfl
 ·exact c4t _ _
 ·exact c2t _ _
theorem c1h (x : Nt) (hx : Nt.Ok x) (A : Nat) (f : Value) (J : List Int → Heap → Prop) (h0 : J [] H) (hg : ∀ d H1, J d H1 → Var H1 A 2 [.int .u64 x.1, .int .u64 x.2] ∧ Glob gH H1)
 (hst : ∀ d H1 H2, J d H1 → St prog H1 H2 [] → J d H2)
 (hf : ∀ d c e H1, pI x = d ++ c :: e → J d H1 → sY prog f [I c] H1 fun v H2 => v = .bool true ∧ J (d ++ [c]) H2) :
 FnS prog 154 [f, ptr A 0 2] H fun _ H' => J (pI x) H' := by
 have hV0 := (hg _ _ h0).1
 refine FnS.aX func154 rfl (by kernel_rfl) fun l hl => ?_
 have hn : l.length = 29 := by rw [hl]; rfl
 have g0 : get l 0 = f := by rw [hl]; rfl
 have g1 : get l 1 = (ptr A 0 2) := by rw [hl]; rfl
 clear hl
 simp (disch := omega) only [↓RA, RZ, simprocAttr, hn, g1, hV0.ld, b2H]
 refine Wp.al (fun n l H' => l.length = 29 ∧ get l 0 = f ∧ get l 1 = ptr A 0 2 ∧ get l 9 = .agg #[.int .u64 x.1, .int .u64 x.2] ∧ ∃ i : Nat, n + i = 2 ∧ get l 10 = I i ∧ J (a5g x i) H') 2 ?_ ?_
 ·simp (disch := omega) only [RB, RC, simprocAttr, hn, g0, g1]
  exact ⟨0, rfl, rfl, h0⟩
 rintro n l H9 ⟨hn, g0, g1, g9, i, hi, oW, hJ⟩
 simp (disch := omega) only [↓RA, RB, simprocAttr, hn, oW]
 refine gY (fun q1 => ?_) (fun q1 => ?_)
 ·have hix := c5S x i (by omega)
  have hwl := b7T hx i
  simp (disch := omega) only [↓RA, RZ, simprocAttr, hn, g9, oW, q1, hix]
  refine Wp.al (fun n2 l H' => l.length = 29 ∧ get l 0 = f ∧ get l 1 = ptr A 0 2 ∧ get l 9 = .agg #[.int .u64 x.1, .int .u64 x.2] ∧ get l 10 = I i ∧ get l 3 = I i ∧ ∃ (y : Nat) (d : List Nat), (n2 = (oU y).length ∧ y < 18446744073709551616 ∧ oU (a6I x i) = d ++ oU y) ∧ get l 4 = .int .u64 y ∧ J (a5g x i ++ d.map fun (j : Nat) => 64 * (i : Int) + (j : Int)) H') (oU (a6I x i)).length ?_ ?_
  ·simp (disch := omega) only [RB, RC, simprocAttr, hn, g0, g1, g9, oW]
   exact ⟨a6I x i, [], ⟨rfl, hwl, rfl⟩, rfl, by rw [fX, dq]; exact hJ⟩
  rintro n2 l H8 ⟨hn, g0, g1, g9, oW, g3, y, d, ⟨hn2, hy, hbd⟩, g4, hJ2⟩
  simp (disch := omega) only [↓RA, RB, simprocAttr, hn, g4]
  refine gY (fun q2 => ?_) (fun q2 => ?_)
  ·have hy0 : y ≠ 0 := by omega
   have hc := a2a hy0 hy
   have hlow := b2n hy0 hy
   have hGl := (hg _ _ hJ2).2
   have eY1 : IntKind.wrap .u64 ((y : Int) - 1) = ((y - 1 : Nat) : Int) := by
    rw [a9q]
    omega
   have eY2 : IntKind.wrap .u64 ((BitVec.ofInt (IntKind.bits .u64) (y : Int) &&& BitVec.ofInt (IntKind.bits .u64) ((y - 1 : Nat) : Int)).toNat : Int) = ((y &&& (y - 1) : Nat) : Int) := by
    rw [gV, a0e y hy, a0e _ (by omega)]
    have := Nat.and_le_left (n := y) (m := y - 1)
    exact pW _ (by omega) (by omega)
   have hyl : y &&& (y - 1) < 18446744073709551616 := Nat.lt_of_le_of_lt Nat.and_le_left hy
   have hmem : pI x = (a5g x i ++ d.map fun (j : Nat) => 64 * (i : Int) + (j : Int)) ++ (64 * (i : Int) + (ctz y : Int)) :: ((oU (y &&& (y - 1))).map (fun (j : Nat) => 64 * (i : Int) + (j : Int)) ++ ((List.range 2).drop (i + 1)).flatMap (a4Y x)) := by
    rw [← a6m]
    unfold a5g
    have e : List.range 2 = List.range i ++ i :: (List.range 2).drop (i + 1) := by
     rcases (by omega : i = 0 ∨ i = 1) with rfl | rfl <;> rfl
    rw [congrArg (List.flatMap (a4Y x)) e, dN, dG]
    rw [show a4Y x i = (d ++ oU y).map (fun (j : Nat) => 64 * (i : Int) + (j : Int)) from by unfold a4Y; rw [hbd]]
    rw [hlow, dL, dU]
    simp only [ek, gS]
   have hc1 := hc.1
   simp (disch := omega) only [↓RA, RZ, simprocAttr, hn, g0, g3, g4, q2]
   refine (sR H8).cF (c3Q ((sR H8).gl hGl) y hy0 hy) fun H1 hS1 => ?_
   simp (disch := omega) only [↓RA, RZ, simprocAttr, hn, q2]
   refine a8X (hf _ _ _ _ hmem (hst _ _ _ hJ2 hS1)) ?_
   rintro r H10 ⟨rfl, hJ3⟩
   simp (disch := omega) only [↓RA, RZ, simprocAttr, hn, g0, g1, g9, oW, g3, g4, q2, eY1, eY2]
   refine ⟨(oU (y &&& (y - 1))).length, by rw [hn2, hlow]; simp, y &&& (y - 1), d ++ [ctz y], ⟨rfl, hyl, by rw [hbd, hlow]; simp⟩, rfl, ?_⟩
   rw [dL, dU, fX, ← ek]
   exact hJ3
  simp (disch := omega) only [↓RA, RZ, simprocAttr, hn, g0, g1, g9, oW, q2]
  have hy0 : y = 0 := by omega
  subst hy0
  refine ⟨n - 1, by omega, i + 1, by omega, by simp, ?_⟩
  rw [yS]
  have : a4Y x i = d.map fun (j : Nat) => 64 * (i : Int) + (j : Int) := by
   unfold a4Y
   rw [hbd, a9K, dq]
  rw [this]
  exact hJ2
 simp (disch := omega) only [↓RA, RZ, simprocAttr, c2W, q1]
 have e : i = 2 := by omega
 subst e
 rw [← a6m]
 exact hJ
theorem a2x (x : Nt) : (pI x).length ≤ 128 := by
 unfold pI
 rw [dm, dR, dR]
 have h1 := a6v x.1 64
 have h2 := a6v x.2 64
 unfold b3u at h1 h2
 unfold oU
 omega
theorem b2M (hG : Glob gH H) (x : Nt) (hx : Nt.Ok x) (A : Nat) (hA : Var H A 2 [.int .u64 x.1, .int .u64 x.2]) :
 Fn prog 153 [.slice none 0 0, .func (.func 154) #[] #[ptr A 0 2]] H fun r H' => St prog H H' [⟨r, 1, (pI x).flatMap (one I)⟩] := by
 refine .aM func153 rfl (by kernel_rfl) (m := 13) rfl fun l hn g0 g1 => ?_
 simp (disch := omega) only [↓RA, RB, simprocAttr, g0]
 refine (sR H).eNew 1 [(.slice none 0 0)] rfl rfl rfl b1R fun A1 H1 hS1 => ?_
 simp only [RT] at hS1
 simp (disch := omega) only [↓RA, RB, simprocAttr, g1]
 have hS2 := hS1.nil 0
 simp only [RT] at hS2
 refine Wp.cE fun lrg1 hlrg1 => ?_
 have hnrg1 : lrg1.length = 13 := by rw [hlrg1]; simp (disch := omega) only [RB, simprocAttr, hn]
 have g2rg1 : get lrg1 2 = (ptr A1 0 1) := by rw [hlrg1]; simp (disch := omega) only [RB, simprocAttr, hn]
 have g4rg1 : get lrg1 4 = (.slice none 0 0) := by rw [hlrg1]; simp (disch := omega) only [RB, simprocAttr, hn]
 have gfrg1 : get lrg1 6 = .func (.func 154) #[] [(ptr A 0 2)].toArray := by rw [hlrg1]; simp (disch := omega) only [RB, simprocAttr, hn]
 clear hlrg1
 refine Wp.ch gfrg1 fun rg1 hstrg1 hpdrg1 htmrg1 hpsrg1 hasrg1 hbdrg1 => ?_
 have hreqrg1 : ({ rg1 with state := .ready, pending := none } : Loop) = rg1 := by
  cases rg1
  simp only at hstrg1 hpdrg1
  subst hstrg1 hpdrg1
  rfl
 have hLprg1 := Lp.enter hS2 rg1
 generalize H1.cons (.loop rg1) = Hcrg1 at hLprg1 ⊢
 generalize H1.length = Lrg1 at hLprg1 ⊢
 refine (c1h x hx A (.func (.yield Lrg1) #[] #[]) (fun d H1 => ∃ ow, Lp prog H Lrg1 rg1 H1 [⟨ptr A1 0 1, 0, [ow]⟩, ⟨ow, 1, d.flatMap (one I)⟩]) ⟨.slice none 0 0, hLprg1⟩ ?_ ?_ ?_).mono ?_
 ·rintro d H1 ⟨ow, h⟩
  exact ⟨hA.aa h.st.aa, h.st.gl hG⟩
 ·rintro d H1 H2 ⟨ow, h⟩ hS
  exact ⟨ow, by simpa using h.ext hS⟩
 ·rintro d c e H20 hm ⟨ow, hLpj⟩
  have hml := a2x x
  have hdl : d.length < 128 := by
   rw [hm, dm, eh] at hml
   omega
  refine a0q hLpj.get (by rw [hpsrg1]; rfl) hstrg1 ?_
  refine Wp.bO (l := put lrg1 (some 7) (I c)) hasrg1 (by rw [hpsrg1, htmrg1]; first | exact (mR ..).symm | rfl | simp [put, mR]) ?_
  simp (disch := omega) only [↓RA, RZ, simprocAttr, hnrg1]
  refine ⟨rg1, hLpj.get, hstrg1, ?_⟩
  have hYBs1 := hLpj.set (fun h => h) { rg1 with state := .busy }
  have hKBs1 : ∀ B, B ≠ Lrg1 → iM (hset H20 Lrg1 (.loop { rg1 with state := .busy })) B = iM H20 B := fun B h => iW _ (eQ h)
  have hNBs1 : (hset H20 Lrg1 (.loop { rg1 with state := .busy })).length = H20.length := jF ..
  generalize hset H20 Lrg1 (.loop { rg1 with state := .busy }) = HBs1 at hYBs1 hKBs1 hNBs1 ⊢
  refine Wp.bO hbdrg1 rfl ?_
  have hZBs1 := hYBs1.st
  obtain ⟨Bs1, hBBs1, hS3⟩ := hZBs1.aC (os := [⟨ptr A1 0 1, 0, _⟩, ⟨ow, 1, _⟩])
  simp (disch := omega) only [↓RA, RZ, simprocAttr, hnrg1, g2rg1, hS3.ld 0 rfl]
  refine hS3.ai [I c] uY a0G rfl rfl (by simp [Value.cells]) rfl rfl (by decide) (by decide) fun w1 H2 hS4 => ?_
  simp only [RT] at hS4
  simp (disch := omega) only [↓RA, RZ, simprocAttr, hnrg1]
  refine hS4.aq 1 rfl (hS4.rd 2 rfl) uY (by rw [nZ, dR]; simp; omega) fun w2 H3 hS5 => ?_
  simp only [RT] at hS5
  simp (disch := omega) only [↓RA, RB, simprocAttr, hnrg1, g2rg1]
  refine hS5.ab 0 rfl [w2] (by rw [(hS5.rd 1 rfl).cells.1]) (by simp [(hS5.rd 1 rfl).cells.2.1]) b1R (by simp) fun H4 hS6 => ?_
  simp only [RT] at hS6
  simp (disch := omega) only [↓RA, simprocAttr]
  have hS7 := hS6.pick (os' := [⟨ptr A1 0 1, 0, _⟩, ⟨w2, 1, _⟩]) [0, 1] (by decide) rfl
  have hWBs1 := (hYBs1.body (hBBs1 ▸ hS7)).set (fun h => h) rg1
  rw [← hreqrg1] at hWBs1
  refine ⟨_, (hYBs1.body (hBBs1 ▸ hS7)).get, rfl, w2, ?_⟩
  rw [dN]
  exact hreqrg1 ▸ hWBs1
 ·rintro _ H21 ⟨ow, hLp2⟩
  refine ⟨_, hLp2.get, (by rw [hstrg1]; exact fun h => by cases h), fun _ => ?_, fun c hc => by rw [hpdrg1] at hc; cases hc⟩
  have hAAf1 := (hLp2.set (fun h => h) { rg1 with state := .exhausted }).st
  have hKAf1 : ∀ B, B ≠ Lrg1 → iM (hset H21 Lrg1 (.loop { rg1 with state := .exhausted })) B = iM H21 B := fun B h => iW _ (eQ h)
  generalize hset H21 Lrg1 (.loop { rg1 with state := .exhausted }) = HAf1 at hAAf1 hKAf1 ⊢
  simp (disch := omega) only [↓RA, RZ, simprocAttr, hnrg1, g2rg1, hAAf1.ld 0 rfl, c2s]
  exact hAAf1.pick [1] (by decide) rfl
theorem a9z (hG : Glob gH H) (x : Nt) (hx : Nt.Ok x) (A : Nat) (hA : Var H A 2 [.int .u64 x.1, .int .u64 x.2]) :
 Fn prog 120 [.func (.func 154) #[] #[ptr A 0 2]] H fun r H' => St prog H H' [⟨r, 1, (pI x).flatMap (one I)⟩] := by
 refine .aR func120 rfl (by kernel_rfl) (m := 5) rfl fun l hn g0 => ?_
 simp (disch := omega) only [↓RA, RZ, simprocAttr, hn, g0]
 refine iC ((b2M ((sR H).gl hG) x hx A (hA.aa (sR H).aa)).tr) ?_
 rintro r H1 ⟨-, hT1⟩
 have hS1 := (sR H).trans hT1
 simp only [RT] at hS1
 simp (disch := omega) only [↓RA, RB, simprocAttr, hn, c3N]
 exact hS1
theorem b8K (x : Nt) : Fn prog 121 [.agg #[.int .u64 x.1, .int .u64 x.2]] H fun r H' => ∃ A, r = .func (.func 154) #[] #[ptr A 0 2] ∧ St prog H H' [⟨ptr A 0 2, 0, [.int .u64 x.1, .int .u64 x.2]⟩] := by
 refine .aR func121 rfl (by kernel_rfl) (m := 4) rfl fun l hn g0 => ?_
 simp (disch := omega) only [↓RA, RB, simprocAttr, g0]
 refine (sR H).eNew 2 [(.int .u64 x.1), (.int .u64 x.2)] rfl rfl rfl mT fun A1 H1 hS1 => ?_
 simp only [RT] at hS1
 simp (disch := omega) only [↓RA, RZ, simprocAttr, hn, c2p]
 exact ⟨A1, rfl, hS1⟩
theorem a8k (hG : Glob gH H) (x : Nt) (hx : Nt.Ok x) :
 Fn prog 89 [.agg #[.int .u64 x.1, .int .u64 x.2]] H fun r H' => St prog H H' [⟨r, 1, (pI x).flatMap (one I)⟩] := by
 refine .aR func89 rfl (by kernel_rfl) (m := 6) rfl fun l hn g0 => ?_
 simp (disch := omega) only [↓RA, RB, simprocAttr, g0]
 refine (sR H).eNew 2 [(.int .u64 x.1), (.int .u64 x.2)] rfl rfl rfl mT fun A1 H1 hS1 => ?_
 simp only [RT] at hS1
 simp (disch := omega) only [↓RA, RZ, simprocAttr, hn, hS1.ae 0 rfl]
 refine iC (b8K x) ?_
 rintro r H2 ⟨A2, rfl, hT1⟩
 have hS2 := hS1.trans hT1
 simp only [RT] at hS2
 simp (disch := omega) only [↓RA, RZ, simprocAttr, hn]
 refine iC ((a9z (hS2.gl hG) x hx A2 (hS2.var 1 rfl)).tr) ?_
 rintro r H3 ⟨-, hT2⟩
 have hS3 := hS2.trans hT2
 simp only [RT] at hS3
 simp (disch := omega) only [↓RA, RB, simprocAttr, hn, c4Y]
 exact hS3.pick [2] (by decide) rfl
def a6n (a b : Nat) : Nat := (BitVec.ofNat 64 a &&& ~~~ BitVec.ofNat 64 b).toNat
theorem a4k (a b : Nat) : a6n a b < 18446744073709551616 := (BitVec.ofNat 64 a &&& ~~~ BitVec.ofNat 64 b).isLt
theorem b9s (a b : Nat) : IntKind.wrap .u64 ((BitVec.ofInt (IntKind.bits .u64) (a : Int) &&& ~~~ BitVec.ofInt (IntKind.bits .u64) (b : Int)).toNat : Int) = ((a6n a b : Nat) : Int) := by
 have e : (BitVec.ofInt (IntKind.bits .u64) (a : Int) &&& ~~~ BitVec.ofInt (IntKind.bits .u64) (b : Int)).toNat = a6n a b := by
  unfold a6n
  rw [fM, fM]
  rfl
 rw [e]
 have := a4k a b
 exact pW _ (by omega) (by omega)
theorem a5t (a b j : Nat) (ha : a < 18446744073709551616) (hj : j < 64) : (a6n a b).testBit j = (a.testBit j && !b.testBit j) := by
 unfold a6n
 have h1 : (BitVec.ofNat 64 a &&& ~~~ BitVec.ofNat 64 b).toNat.testBit j = (BitVec.ofNat 64 a &&& ~~~ BitVec.ofNat 64 b).getLsbD j := rfl
 rw [h1, BitVec.getLsbD_and, BitVec.getLsbD_not, BitVec.getLsbD_ofNat, BitVec.getLsbD_ofNat]
 simp [hj]
def woF (x y : Nt) : Nt := (a6n x.1 y.1, a6n x.2 y.2)
theorem b9M (x y : Nt) : Nt.Ok (woF x y) := ⟨a4k _ _, a4k _ _⟩
theorem c0M (x y : Nt) : Fn prog 62 [.agg #[.int .u64 x.1, .int .u64 x.2], .agg #[.int .u64 y.1, .int .u64 y.2]] H fun r H' => r = .agg #[.int .u64 (woF x y).1, .int .u64 (woF x y).2] ∧ St prog H H' [] := by
 have e1 := b9s x.1 y.1
 have e2 := b9s x.2 y.2
 refine .aM func62 rfl (by kernel_rfl) (m := 16) rfl fun l hn g0 g1 => ?_
 simp (disch := omega) only [↓RA, RB, simprocAttr, g0]
 refine (sR H).eNew 2 [(.int .u64 x.1), (.int .u64 x.2)] rfl rfl rfl mT fun A1 H1 hS1 => ?_
 simp only [RT] at hS1
 simp (disch := omega) only [↓RA, RB, simprocAttr, g1]
 refine hS1.eNew 2 [(.int .u64 y.1), (.int .u64 y.2)] rfl rfl rfl mT fun A2 H2 hS2 => ?_
 simp only [RT] at hS2
 simp (disch := omega) only [↓RA, RZ, simprocAttr]
 refine hS2.eNew 2 [(.int .u64 0), (.int .u64 0)] rfl rfl rfl mT fun A3 H3 hS3 => ?_
 simp only [RT] at hS3
 simp (disch := omega) only [↓RA, RZ, simprocAttr, hn, hS3.ld 0 rfl, hS3.ld 1 rfl, b3D, e1, e2]
 refine hS3.ab 2 rfl [_, _] rfl rfl mT (by simp) fun H4 hS4 => ?_
 simp only [RT] at hS4
 simp (disch := omega) only [↓RA, RZ, simprocAttr, hn, c5H, hS4.ae 2 rfl]
 exact ⟨rfl, hS4.forget⟩
theorem a9I (x y : Nt) : Fn prog 37 [.agg #[.int .u64 x.1, .int .u64 x.2], .agg #[.int .u64 y.1, .int .u64 y.2]] H fun r H' => r = .bool (decide (woF x y = (0, 0))) ∧ St prog H H' [] := by
 refine .aM func37 rfl (by kernel_rfl) (m := 10) rfl fun l hn g0 g1 => ?_
 simp (disch := omega) only [↓RA, RB, simprocAttr, g0]
 refine (sR H).eNew 2 [(.int .u64 x.1), (.int .u64 x.2)] rfl rfl rfl mT fun A1 H1 hS1 => ?_
 simp only [RT] at hS1
 simp (disch := omega) only [↓RA, RB, simprocAttr, g1]
 refine hS1.eNew 2 [(.int .u64 y.1), (.int .u64 y.2)] rfl rfl rfl mT fun A2 H2 hS2 => ?_
 simp only [RT] at hS2
 simp (disch := omega) only [↓RA, RZ, simprocAttr, hn, hS2.ae 0 rfl, hS2.ae 1 rfl]
 refine hS2.cF (c0M x y) fun H3 hS3 => ?_
 simp (disch := omega) only [↓RA, RZ, simprocAttr, hn, b6c, c5L]
 refine ⟨?_, hS3.forget⟩
 congr 1
 rw [decide_eq_decide]
 constructor
 ·rintro ⟨h1, h2⟩
  exact gO (by simpa using h1) (by simpa using h2)
 ·intro h
  rw [h]
  exact ⟨rfl, rfl⟩
def qX (lo hi : Int) : Nt := jN ((List.range (hi - lo + 1).toNat).map fun (k : Nat) => lo + (k : Int))
theorem a3A (lo hi : Int) (h0 : 0 ≤ lo) (h1 : lo ≤ hi) (h2 : hi ≤ 127) : Fn prog 36 [.agg #[I lo, I hi]] H fun r H' => r = .tuple #[.agg #[.int .u64 (qX lo hi).1, .int .u64 (qX lo hi).2], I 0] ∧ St prog H H' [] := by
 have hce : qC lo hi = 0 := by
  unfold qC
  rw [if_neg (by omega), if_neg (by omega)]
 refine .aR func36 rfl (by kernel_rfl) (m := 25) rfl fun l hn g0 => ?_
 simp (disch := omega) only [↓RA, RB, simprocAttr, g0]
 refine (sR H).eNew 2 [I lo, I hi] rfl rfl rfl a0F fun A1 H1 hS1 => ?_
 simp only [RT] at hS1
 simp (disch := omega) only [↓RA, RZ, simprocAttr]
 refine hS1.eNew 2 [(.int .u64 0), (.int .u64 0)] rfl rfl rfl mT fun A2 H2 hS2 => ?_
 simp only [RT] at hS2
 simp (disch := omega) only [↓RA, RZ, simprocAttr]
 refine hS2.eNew 2 [(.int .u64 0), (.int .u64 0)] rfl rfl rfl mT fun A3 H3 hS3 => ?_
 simp only [RT] at hS3
 simp (disch := omega) only [↓RA, RZ, simprocAttr, hn, hS3.ae 0 rfl]
 refine hS3.cF (a0U lo hi) fun H4 hS4 => ?_
 rw [hce]
 simp (disch := omega) only [↓RA, RZ, simprocAttr, hn, hS4.ld 0 rfl]
 refine Wp.al (fun n l H' => l.length = 25 ∧ get l 1 = (ptr A1 0 2) ∧ get l 2 = (ptr A2 0 2) ∧ get l 3 = I 0 ∧ get l 4 = (ptr A3 0 2) ∧ ∃ (j : Nat), (n + j = (hi - lo + 1).toNat) ∧ get l 6 = I (lo + (j : Int)) ∧ St prog H H' [⟨ptr A1 0 2, 0, [I lo, I hi]⟩, ⟨ptr A2 0 2, 0, [(.int .u64 0), (.int .u64 0)]⟩, ⟨ptr A3 0 2, 0, [.int .u64 (jN ((List.range j).map fun (k : Nat) => lo + (k : Int))).1, .int .u64 (jN ((List.range j).map fun (k : Nat) => lo + (k : Int))).2]⟩]) (hi - lo + 1).toNat ?_ ?_
 ·simp (disch := omega) only [RB, RC, simprocAttr, hn]
  exact ⟨0, by omega, by simp, hS4⟩
 rintro n l H5 ⟨hn, g1, g2, g3, g4, j, hj, g6, hS5⟩
 simp (disch := omega) only [↓RA, RZ, simprocAttr, hn, g1, g6, hS5.ld 0 rfl]
 refine gY (fun q1 => ?_) (fun q1 => ?_)
 ·have hok : Nt.Ok (jN ((List.range j).map fun (k : Nat) => lo + (k : Int))) := rP _ _ (fun z h => by
   obtain ⟨k, hk, rfl⟩ := dx.1 h
   have := dr.1 hk
   exact ⟨by omega, by omega⟩) ⟨by decide, by decide⟩
  have hsu : jN ((List.range (j + 1)).map fun (k : Nat) => lo + (k : Int)) = sO (jN ((List.range j).map fun (k : Nat) => lo + (k : Int))) (lo + (j : Int)) := by
   unfold jN
   rw [ed, dL, fj]
   rfl
  simp (disch := omega) only [↓RA, RZ, simprocAttr, hn, g4, g6, hS5.ae 2 rfl, q1]
  refine hS5.cF (a6o (jN ((List.range j).map fun (k : Nat) => lo + (k : Int))) hok (lo + (j : Int)) (by omega) (by omega)) fun H6 hS6 => ?_
  simp (disch := omega) only [↓RA, RZ, simprocAttr, hn, g4, q1]
  refine hS6.ab 2 rfl [(.int .u64 (sO (jN ((List.range j).map fun (k : Nat) => lo + (k : Int))) (lo + (j : Int))).1), (.int .u64 (sO (jN ((List.range j).map fun (k : Nat) => lo + (k : Int))) (lo + (j : Int))).2)] rfl rfl mT (by simp) fun H7 hS7 => ?_
  simp only [RT] at hS7
  simp (disch := omega) only [↓RA, RZ, simprocAttr, hn, g1, g2, g3, g4, g6, q1]
  refine ⟨n - 1, by omega, j + 1, by omega, by congr 1; omega, ?_⟩
  rw [hsu]
  exact hS7.pick [0, 1, 2] (by decide) rfl
 have hjj : j = (hi - lo + 1).toNat := by omega
 simp (disch := omega) only [↓RA, RZ, simprocAttr, hn, g2, g4, hS5.ae 2 rfl, q1]
 refine hS5.ab 1 rfl [(.int .u64 (jN ((List.range j).map fun (k : Nat) => lo + (k : Int))).1), (.int .u64 (jN ((List.range j).map fun (k : Nat) => lo + (k : Int))).2)] rfl rfl mT (by simp) fun H8 hS8 => ?_
 simp only [RT] at hS8
 simp (disch := omega) only [↓RA, RZ, simprocAttr, hn, g2, c5O, hS8.ae 1 rfl, q1]
 rw [hjj]
 exact ⟨rfl, hS8.forget⟩
structure Ks (H : Heap) (kv : Value) (ks : List Nt) : Prop where
 sl : Sl 2 ntc H kv ks
 len : ks.length < 1000000000
 ok : ∀ x ∈ ks, Nt.Ok x
theorem Ks.aa {P : Program} {H' : Heap} {kv : Value} {ks : List Nt} {os : List Ob} (h : Ks H kv ks) (hS : St P H H' os) : Ks H' kv ks := ⟨hS.sl h.sl, h.len, h.ok⟩
def lS (o : Org) (ks : List Nt) : Int := if organE o ≠ 0 then organE o else if ks.length ≠ o.dvs.length then 5 else if ∃ j, j < o.dvs.length ∧ woF (gZ ks j) (qX (gZ o.dvs j).lo (gZ o.dvs j).hi) ≠ (0, 0) then 23 else 0
theorem a1g (o : Org) (ho : o.In H) (kv : Value) (ks : List Nt) (hk : Ks H kv ks) : Fn prog 17 [.agg #[.string o.name, o.rv, o.dv, o.cv], kv] H fun r H' => r = I (lS o ks) ∧ St prog H H' [] := by
 have hkl := hk.len
 have hdl := ho.2.2.2.2.2.2.1
 refine .aM func17 rfl (by kernel_rfl) (m := 43) rfl fun l hn g0 g1 => ?_
 simp (disch := omega) only [↓RA, RB, simprocAttr, g0]
 refine (sR H).eNew 4 [(.string o.name), o.rv, o.dv, o.cv] rfl rfl (by simp [OC, ((sR H).sl ho.1).cells.2.1, ((sR H).sl ho.2.2.1).cells.2.1, ((sR H).sl ho.2.2.2.2.1).cells.2.1]) lX fun A1 H1 hS1 => ?_
 simp only [RT] at hS1
 simp (disch := omega) only [↓RA, RZ, simprocAttr, hn, hS1.ae 0 rfl]
 refine hS1.cF (wT o (ho.aa hS1)) fun H2 hS2 => ?_
 simp (disch := omega) only [↓RA, RB, simprocAttr, hn]
 refine gY (fun h1 => ?_) (fun h1 => ?_)
 ·simp (disch := omega) only [↓RA, RZ, simprocAttr, hn, b8L, h1]
  exact ⟨by unfold lS; rw [if_pos h1], hS2.forget⟩
 have hz : organE o = 0 := dj.1 h1
 have hf := Org.aU hz
 simp (disch := omega) only [↓RA, RZ, simprocAttr, hn, g1, (hS2.sl hk.sl).len, hS2.ld 0 rfl, (hS2.sl ho.2.2.1).len, h1]
 refine gY (fun h2 => ?_) (fun h2 => ?_)
 ·simp (disch := omega) only [↓RA, RZ, simprocAttr, hn, b8L, h1, h2]
  exact ⟨by unfold lS; rw [if_neg h1, if_pos (by omega)], hS2.forget⟩
 have hlen : ks.length = o.dvs.length := by omega
 simp (disch := omega) only [↓RA, RZ, simprocAttr, hn, hS2.ld 0 rfl, (hS2.sl ho.2.2.1).len, h1, h2]
 refine Wp.al (fun n l H' => l.length = 43 ∧ get l 1 = kv ∧ get l 22 = o.dv ∧ get l 23 = I o.dvs.length ∧ ∃ (j : Nat), (n + j = o.dvs.length ∧ ∀ q, q < j → woF (gZ ks q) (qX (gZ o.dvs q).lo (gZ o.dvs q).hi) = (0, 0)) ∧ get l 24 = I j ∧ St prog H H' [⟨ptr A1 0 4, 0, [(.string o.name), o.rv, o.dv, o.cv]⟩]) o.dvs.length ?_ ?_
 ·simp (disch := omega) only [RB, RC, simprocAttr, hn, g1]
  exact ⟨0, ⟨by omega, fun q hq => absurd hq (dH _)⟩, rfl, hS2⟩
 rintro n l H3 ⟨hn, g1, g22, g23, j, ⟨hj,hq⟩, g24, hS3⟩
 simp (disch := omega) only [↓RA, RB, simprocAttr, hn, g23, g24]
 refine gY (fun h3 => ?_) (fun h3 => ?_)
 ·have hky := hf.keys j (by omega)
  simp (disch := omega) only [↓RA, RZ, simprocAttr, hn, g22, g24, (hS3.sl ho.2.2.1).idx, (hS3.sl ho.2.2.1).ae, Dvn.cells, h3]
  refine hS3.eNew 5 [(.string ⟨#[]⟩), (.bool false), I 0, I 0, (.slice none 0 0)] rfl rfl rfl xZ fun A2 H4 hS4 => ?_
  simp only [RT] at hS4
  simp (disch := omega) only [↓RA, RZ, simprocAttr, hn, h3]
  refine hS4.ab 1 rfl [(.string (gZ o.dvs j).name), (.bool (gZ o.dvs j).pedal), I (gZ o.dvs j).lo, I (gZ o.dvs j).hi, (gZ o.dvs j).sv] rfl (by simp [OC, (hS4.sl (ho.2.2.2.1 (gZ o.dvs j) (iB (by omega))).1).cells.2.1]) xZ (by simp) fun H5 hS5 => ?_
  simp only [RT] at hS5
  simp (disch := omega) only [↓RA, RZ, simprocAttr, hn, hS5.ae 1 rfl, h3]
  refine hS5.cF (a3A (gZ o.dvs j).lo (gZ o.dvs j).hi hky.1 hky.2.1 hky.2.2) fun H6 hS6 => ?_
  simp (disch := omega) only [↓RA, RZ, simprocAttr, hn, h3]
  refine hS6.eNew 2 [(.int .u64 0), (.int .u64 0)] rfl rfl rfl mT fun A3 H7 hS7 => ?_
  simp only [RT] at hS7
  simp (disch := omega) only [↓RA, RZ, simprocAttr, hn, h3]
  refine hS7.ab 2 rfl [(.int .u64 (qX (gZ o.dvs j).lo (gZ o.dvs j).hi).1), (.int .u64 (qX (gZ o.dvs j).lo (gZ o.dvs j).hi).2)] rfl rfl mT (by simp) fun H8 hS8 => ?_
  simp only [RT] at hS8
  simp (disch := omega) only [↓RA, RZ, simprocAttr, hn, h3]
  refine Wp.drw jZ (by kernel_rfl) ?_
  simp (disch := omega) only [↓RA, RZ, simprocAttr, hn, g1, (hS8.sl hk.sl).idx, (hS8.sl hk.sl).ae, ntc, hS8.ae 2 rfl]
  refine hS8.cF (a9I (gZ ks j) (qX (gZ o.dvs j).lo (gZ o.dvs j).hi)) fun H9 hS9 => ?_
  simp (disch := omega) only [↓RA, RB, simprocAttr, hn]
  refine jR (fun h4 => ?_) (fun h4 => ?_)
  ·have h5 : ¬ woF (gZ ks j) (qX (gZ o.dvs j).lo (gZ o.dvs j).hi) = (0, 0) := by simpa using h4
   simp (disch := omega) only [↓RA, RB, simprocAttr, hn, b8L, h4]
   exact ⟨by unfold lS; rw [if_neg h1, if_neg (by omega), if_pos ⟨j, by omega, h5⟩], hS9.forget⟩
  have h5 : woF (gZ ks j) (qX (gZ o.dvs j).lo (gZ o.dvs j).hi) = (0, 0) := by simpa using h4
  simp (disch := omega) only [↓RA, RZ, simprocAttr, hn, g1, g22, g23, g24, h4]
  exact ⟨n - 1, by omega, j + 1, ⟨by omega, fun q hq' => by rcases dp.1 hq' with e | e; (· exact hq q e); (· rw [e]; exact h5)⟩, by simp, hS9.pick [0] (by decide) rfl⟩
 simp (disch := omega) only [↓RA, RZ, simprocAttr, hn, b8L, h3]
 refine ⟨?_, hS3.forget⟩
 unfold lS
 rw [if_neg h1, if_neg (by omega), if_neg]
 rintro ⟨q, hq1, hq2⟩
 exact hq2 (hq q (by omega))
def plD (ks : List Nt) (i : Nat) : List Ct := (pI (gZ ks i)).map fun z => ((i : Int), z)
def jX (ks : List Nt) : List Ct := (List.range ks.length).flatMap (plD ks)
theorem c0j (ks : List Nt) (i : Nat) : (plD ks i).length ≤ 128 := by
 unfold plD
 rw [dR]
 exact a2x _
theorem a6H (ks : List Nt) : ∀ i, ((List.range i).flatMap (plD ks)).length ≤ i * 128
 | 0 => by simp
 | i + 1 => by
   have := a6H ks i
   have := c0j ks i
   rw [ed, dN, dm, dG, fw, dq]
   omega
theorem a3j (hG : Glob gH H) (kv : Value) (ks : List Nt) (hk : Ks H kv ks) (h8 : ks.length ≤ 8) : Fn prog 65 [kv] H fun r H' => St prog H H' [⟨r, 2, pr (jX ks)⟩] := by
 refine .aR func65 rfl (by kernel_rfl) (m := 31) rfl fun l hn g0 => ?_
 simp (disch := omega) only [↓RA, RZ, simprocAttr, hn, g0, ((sR H).sl hk.sl).len]
 have hS1 := (sR H).nil 1
 simp only [RT] at hS1
 refine Wp.al (fun n l H' => l.length = 31 ∧ get l 2 = (.slice none 0 0) ∧ get l 8 = kv ∧ get l 9 = I ks.length ∧ ∃ (i : Nat) (ov : Value), (n + i = ks.length) ∧ get l 10 = I i ∧ get l 3 = ov ∧ St prog H H' [⟨ov, 2, pr ((List.range i).flatMap (plD ks))⟩]) ks.length ?_ ?_
 ·simp (disch := omega) only [RB, RC, simprocAttr, hn]
  exact ⟨0, .slice none 0 0, by omega, rfl, rfl, hS1⟩
 rintro n l H1 ⟨hn, g2, g8, g9, i, ov, hi, oW, g3, hS2⟩
 simp (disch := omega) only [↓RA, RB, simprocAttr, hn, g9, oW]
 refine gY (fun q1 => ?_) (fun q1 => ?_)
 ·have hmo := hk.ok _ (iB (xs := ks) (j := i) (by omega))
  have hml := a2x (gZ ks i)
  have hpl := a6H ks i
  simp (disch := omega) only [↓RA, RZ, simprocAttr, hn, g8, oW, (hS2.sl hk.sl).idx, (hS2.sl hk.sl).ae, ntc, q1]
  refine hS2.eNew 2 [(.int .u64 0), (.int .u64 0)] rfl rfl rfl mT fun A1 H2 hS3 => ?_
  simp only [RT] at hS3
  simp (disch := omega) only [↓RA, RZ, simprocAttr, hn, q1]
  refine hS3.ab 1 rfl [(.int .u64 (gZ ks i).1), (.int .u64 (gZ ks i).2)] rfl rfl mT (by simp) fun H3 hS4 => ?_
  simp only [RT] at hS4
  simp (disch := omega) only [↓RA, RZ, simprocAttr, hn, hS4.ae 1 rfl, q1]
  refine iC ((a8k (hS4.gl hG) (gZ ks i) hmo).tr) ?_
  rintro r H4 ⟨-, hT1⟩
  have hS5 := hS4.trans hT1
  simp only [RT] at hS5
  obtain ⟨mw, rfl⟩ : ∃ w, w = r := ⟨r, rfl⟩
  simp (disch := omega) only [↓RA, RZ, simprocAttr, hn, (hS5.aw 2 rfl (fun _ => rfl)).len, q1]
  refine Wp.al (fun n l H' => l.length = 31 ∧ get l 2 = (.slice none 0 0) ∧ get l 4 = I i ∧ get l 8 = kv ∧ get l 9 = I ks.length ∧ get l 10 = I i ∧ get l 16 = mw ∧ get l 17 = I (pI (gZ ks i)).length ∧ ∃ (j : Nat) (ow : Value), (n + j = (pI (gZ ks i)).length) ∧ get l 18 = I j ∧ get l 3 = ow ∧ St prog H H' [⟨ow, 2, pr ((List.range i).flatMap (plD ks) ++ ((pI (gZ ks i)).take j).map fun z => ((i : Int), z))⟩, ⟨ptr A1 0 2, 0, [(.int .u64 (gZ ks i).1), (.int .u64 (gZ ks i).2)]⟩, ⟨mw, 1, (pI (gZ ks i)).flatMap (one I)⟩]) (pI (gZ ks i)).length ?_ ?_
  ·simp (disch := omega) only [RB, RC, simprocAttr, hn, g2, g8, g9, oW, g3]
   refine ⟨0, ov, by omega, rfl, rfl, ?_⟩
   rw [List.take_zero, fX, dq]
   exact hS5
  rintro n l H5 ⟨hn, g2, g4, g8, g9, oW, g16, g17, j, ow, hj, g18, g3, hS6⟩
  simp (disch := omega) only [↓RA, RB, simprocAttr, hn, g17, g18]
  refine gY (fun q2 => ?_) (fun q2 => ?_)
  ·have hroom : (pr ((List.range i).flatMap (plD ks) ++ ((pI (gZ ks i)).take j).map fun z => ((i : Int), z))).length ≤ 4000 := by
    rw [iE, dm, dR, fV]
    omega
   simp (disch := omega) only [↓RA, RZ, simprocAttr, hn, g4, g16, g18, g3, (hS6.aw 2 rfl (fun _ => rfl)).idx, (hS6.aw 2 rfl (fun _ => rfl)).ld, one, wW, q2]
   refine hS6.ai [I i, I (gZ (pI (gZ ks i)) j)] qO a3e rfl rfl (by simp [Value.cells]) rfl rfl (by decide) (by decide) fun w1 H6 hS7 => ?_
   simp only [RT] at hS7
   simp (disch := omega) only [↓RA, RZ, simprocAttr, hn, q2]
   refine hS7.aq 0 rfl (hS7.rd 3 rfl) qO (by have h := hroom; simp only [eh, eG]; omega) fun w2 H7 hS8 => ?_
   simp only [RT] at hS8
   simp (disch := omega) only [↓RA, RZ, simprocAttr, hn, g2, g4, g8, g9, oW, g16, g17, g18, q2]
   refine ⟨n - 1, by omega, j + 1, w2, by omega, by simp, rfl, ?_⟩
   rw [List.take_add_one, dg (by omega), Option.toList_some, dL, ← ek, jV]
   rw [show (pI (gZ ks i))[j] = gZ (pI (gZ ks i)) j from (jS _ _ (by omega)).symm]
   exact hS8.pick [0, 1, 2] (by decide) rfl
  simp (disch := omega) only [↓RA, RZ, simprocAttr, hn, g2, g8, g9, oW, g3, q2]
  have hjj : j = (pI (gZ ks i)).length := by omega
  refine ⟨ks.length - (i + 1), by omega, i + 1, ow, by omega, by simp, rfl, ?_⟩
  rw [ed, dN, dG, fw, dq]
  rw [show plD ks i = ((pI (gZ ks i)).take j).map (fun z => ((i : Int), z)) from by rw [hjj, dT]; rfl]
  exact hS6.pick [0] (by decide) rfl
 have hii : i = ks.length := by omega
 simp (disch := omega) only [↓RA, RZ, simprocAttr, hn, g3, c4G, q1]
 have hfin := hS2
 rw [hii] at hfin
 exact hfin
end Go.Ds
namespace Go.Ds
open Go.Proofs Go.Proofs.Tryz Go.ChangeShapes Go.WideShapes Go.RowKit Go.Deep
set_option maxRecDepth 10000
theorem c0t : prog.cellsOf 38 = 1 := by kernel_rfl
theorem c3a : prog.cellsOf 84 = 2 := by kernel_rfl
theorem c5d : prog.cellsOf 37 = 1 := by kernel_rfl
theorem c5e : prog.cellsOf 40 = 3 := by kernel_rfl
theorem c4M : iA prog 38 = some 1 := by kernel_rfl
theorem c5C : iA prog 84 = some 2 := by kernel_rfl
structure RgI (H : Heap) (r : Reg) (sv : Value) : Prop where
 sl : Sl 1 (one u64) H sv r.stops
 len : r.stops.length < 9223372036854775808
 ok : ∀ x ∈ r.stops, x < 18446744073709551616
 cpl : r.cpl < 18446744073709551616
 off : r.off < 18446744073709551616
structure KsI (H : Heap) (kv : Value) (ks : List Nt) : Prop where
 sl : Sl 2 ntc H kv ks
 len : ks.length < 9223372036854775808
 ok : ∀ x ∈ ks, Nt.Ok x
theorem RgI.ext {ρ ρ' : Rho} {H H' : Heap} {r : Reg} {sv : Value} (h : RgI H r sv) (e : ExtW ρ H ρ' H') : RgI H' r sv := ⟨h.sl.ext e, h.len, h.ok, h.cpl, h.off⟩
theorem RgI.aa {P : Program} {H H0 : Heap} {os : List Ob} {r : Reg} {sv : Value} (h : RgI H0 r sv) (hS : St P H0 H os) : RgI H r sv := ⟨hS.sl h.sl, h.len, h.ok, h.cpl, h.off⟩
theorem KsI.aa {P : Program} {H H0 : Heap} {os : List Ob} {kv : Value} {ks : List Nt} (h : KsI H0 kv ks) (hS : St P H0 H os) : KsI H kv ks := ⟨hS.sl h.sl, h.len, h.ok⟩
theorem RgI.reg {H : Heap} {r : Reg} {sv : Value} (h : RgI H r sv) (hl : r.stops.length < 1000000000) : r.In H sv := ⟨h.sl, hl, h.ok, h.cpl, h.off⟩
theorem KsI.ks {H : Heap} {kv : Value} {ks : List Nt} (h : KsI H kv ks) (hl : ks.length < 1000000000) : Ks H kv ks := ⟨h.sl, hl, h.ok⟩
theorem Pln.In.ext {ρ ρ' : Rho} {H H' : Heap} {p : Pln} (h : p.In H) (e : ExtW ρ H ρ' H') : p.In H' := ⟨h.1.ext e, h.2.1.ext e, fun b hb => ⟨(h.2.2.1 b hb).1.ext e, (h.2.2.1 b hb).2⟩, h.2.2.2.1.ext e, h.2.2.2.2⟩
section
variable {H0 : Type} {enc : TypeId × Value → H0} {w : World} {base n : Nat} {spare : Nat → Bool} {kO : Bool} {x : DataW H0 × List MemPlace}
theorem a9U {cs : List Value} (h : DataW.trod enc prog w base spare kO n 38 cs = some x) : ∃ m : Nat, cs = one u64 m ∧ m < 18446744073709551616 := by
 obtain ⟨m, hv, _, hw⟩ := DataW.trod_int underlying38 h
 have hm : 0 ≤ m ∧ m ≤ 18446744073709551615 := by simpa [Lit.wf, IntKind.min, IntKind.max, IntKind.signed, IntKind.bits] using hw
 refine ⟨m.toNat, ?_, by omega⟩
 rw [hv]
 show _ = [Value.int .u64 ((m.toNat : Nat) : Int)]
 rw [fF hm.1]
theorem u64_in {v : Value} (h : DataW.trod enc prog w base spare kO n 38 [v] = some x) : ∃ m : Nat, v = .int .u64 m ∧ m < 18446744073709551616 := by
 obtain ⟨m, hv, hm⟩ := a9U h
 exact ⟨m, by simpa [one, u64] using hv, hm⟩
theorem c2S {cs : List Value} (h : DataW.trod enc prog w base spare kO n 84 cs = some x) : ∃ p : Nt, cs = ntc p ∧ Nt.Ok p := by
 obtain ⟨hl, m, hf⟩ := wK underlying84 h
 rw [c3a] at hl
 match cs, hl with
 | [c0, c1], _ =>
   obtain ⟨_, h0⟩ := hf 0 ⟨_, 38, 0, _, _, _, _⟩ rfl
   obtain ⟨_, h1⟩ := hf 1 ⟨_, 38, 1, _, _, _, _⟩ rfl
   simp only [c0t] at h0 h1
   obtain ⟨a, rfl, ha⟩ := u64_in h0
   obtain ⟨b, rfl, hb⟩ := u64_in h1
   exact ⟨(a, b), rfl, ha, hb⟩
end
section
variable {H0 : Type} {enc : TypeId × Value → H0} {w : World} {base fuel : Nat} {kO : Bool} {x : DataW H0 × List MemPlace} {ρ : Rho} {H : Heap}
theorem b7p {v0 : Value} {d0 : DataW H0} {p0 : List MemPlace} {c0 : Nat} (h : InW prog ρ H w) {b0 : Nat} {cur0 : Array Value} {t0 : TypeId} {fr0 : Nat × Nat} (hb0 : w.heap[b0]? = some (.cells cur0 t0 fr0)) (h0 : DataW.Trod enc prog w base (fun _ => true) kO 40 v0 d0 p0) (hval : Value.okWide prog w .any c0 40 v0) :
 ∃ (ρ' : Rho) (H' : Heap) (sv : Value) (rg : Reg), InW prog ρ' H' w ∧ ExtW ρ H ρ' H' ∧ V ρ' (.agg #[sv, .int .u64 rg.cpl, .int .u64 rg.off]) v0 ∧ RgI H' rg sv := by
 obtain ⟨cs, rfl, hsz⟩ := okWide_struct underlying40 hval
 rw [c5e] at hsz
 obtain ⟨fuel, hf⟩ := h0
 obtain ⟨l⟩ := cs
 have hl : l.length = 3 := hsz
 match l, hl with
 | [x, y, z], _ =>
   obtain ⟨_, m, hf⟩ := wK (cs := [x, y, z]) underlying40 hf
   obtain ⟨_, h0⟩ := hf 0 ⟨_, 37, 0, _, _, _, _⟩ rfl
   obtain ⟨_, h1⟩ := hf 1 ⟨_, 38, 1, _, _, _, _⟩ rfl
   obtain ⟨_, h2⟩ := hf 2 ⟨_, 38, 2, _, _, _, _⟩ rfl
   simp only [c0t, c5d] at h0 h1 h2
   obtain ⟨ρ1, H1, v1, xs, i1, i2, i3, i4, i5, i6⟩ := wV underlying37 c0t c4M (by decide) (fun _ => rfl) (fun x c hc => by
    simp only [one, dP, dI, or_false] at hc
    rw [hc]
    rfl) (fun hh => a9U hh) h hb0 h0
   obtain ⟨a, rfl, ha⟩ := u64_in h1
   obtain ⟨b, rfl, hb⟩ := u64_in h2
   exact ⟨ρ1, H1, v1, ⟨xs, a, b⟩, i1, i2, .v1 (.agg ⟨i3, .c0 (.flat rfl), .c0 (.flat rfl), trivial⟩), i4, i6, i5, ha, hb⟩
theorem b5N {t : TypeId} (ht : prog.underlying t = some (.slice 84)) {v0 : Value} {d0 : DataW H0} {p0 : List MemPlace} {c0 : Nat} (h : InW prog ρ H w) {b0 : Nat} {cur0 : Array Value} {t0 : TypeId} {fr0 : Nat × Nat} (hb0 : w.heap[b0]? = some (.cells cur0 t0 fr0)) (h0 : DataW.Trod enc prog w base (fun _ => true) kO t v0 d0 p0) (hval : Value.okWide prog w .any c0 t v0) :
 ∃ (ρ' : Rho) (H' : Heap) (kv : Value) (ks : List Nt), InW prog ρ' H' w ∧ ExtW ρ H ρ' H' ∧ V ρ' kv v0 ∧ KsI H' kv ks := by
 obtain ⟨a, len, cap, rfl⟩ := okWide_slice ht hval
 obtain ⟨fuel, hf⟩ := h0
 obtain ⟨ρ1, H1, v1, xs, i1, i2, i3, i4, i5, i6⟩ := wV ht c3a c5C (by decide) (fun _ => rfl) (fun x c hc => by
  simp only [ntc, dP, dI, or_false] at hc
  rcases hc with rfl | rfl <;> rfl) (fun hh => c2S hh) h hb0 hf
 exact ⟨ρ1, H1, v1, xs, i1, i2, .v1 (.c1 i3), i4, i6, i5⟩
end
end Go.Ds
namespace Go.Ds
open Go.Proofs
set_option maxRecDepth 10000
def ltP (x y : Int × Int) : Prop := x.1 < y.1 ∨ (x.1 = y.1 ∧ x.2 < y.2)
theorem b8R {x : Int × Int} : ¬ ltP x x := by unfold ltP; omega
theorem a2Y {x y z : Int × Int} (h : ltP x y) (k : ltP y z) : ltP x z := by unfold ltP at *; omega
theorem b5i {es : List (Int × Int)} (h : es.Pairwise fun a b => le2 a b = true) {i j : Nat} (hij : i < j) (hj : j < es.length) : le2 (gZ es i) (gZ es j) = true := by
 rw [jS _ _ (by omega), jS _ _ hj]
 exact dZ.1 h i j (by omega) hj hij
theorem a8P {es : List (Int × Int)} (h : es.Pairwise fun a b => le2 a b = true) : ∀ m, m ≤ es.length → (xM es m).Pairwise ltP ∧ ∀ x, x ∈ xM es m ↔ ∃ j, j < m ∧ gZ es j = x
 | 0, _ => ⟨by simp [xM], fun x => by simp [xM]⟩
 | m + 1, hm => by
   obtain ⟨h1, h2⟩ := a8P h m (by omega)
   rw [rF]
   by_cases hc : m = 0 ∨ gZ es m ≠ gZ es (m - 1)
   ·rw [if_pos hc]
    refine ⟨?_, fun x => ?_⟩
    ·rw [fB]
     refine ⟨h1, by simp, fun a ha b hb => ?_⟩
     obtain ⟨j, hj, rfl⟩ := (h2 a).1 ha
     obtain rfl := dz.1 hb
     have h3 := (nX _ _).1 (b5i h hj (by omega))
     rcases hc with hc | hc
     ·omega
     ·by_cases he : j = m - 1
      ·subst he
       have hne : ¬ (gZ es (m - 1) = gZ es m) := fun e => hc e.symm
       rw [Prod.ext_iff] at hne
       unfold ltP
       omega
      ·have h4 := (nX _ _).1 (b5i h (show j < m - 1 by omega) (by omega))
       have h5 := (nX _ _).1 (b5i h (show m - 1 < m by omega) (by omega))
       have hne : ¬ (gZ es (m - 1) = gZ es m) := fun e => hc e.symm
       rw [Prod.ext_iff] at hne
       unfold ltP
       omega
    ·rw [dE, h2, dz]
     constructor
     ·rintro (⟨j, hj, e⟩ | e)
      ·exact ⟨j, by omega, e⟩
      ·exact ⟨m, by omega, e.symm⟩
     ·rintro ⟨j, hj, e⟩
      rcases dp.1 hj with e2 | e2
      ·exact .inl ⟨j, e2, e⟩
      ·subst e2
       exact .inr e.symm
   ·rw [if_neg hc, dq]
    refine ⟨h1, fun x => ?_⟩
    rw [h2]
    constructor
    ·rintro ⟨j, hj, e⟩
     exact ⟨j, by omega, e⟩
    ·rintro ⟨j, hj, e⟩
     rcases dp.1 hj with e2 | e2
     ·exact ⟨j, e2, e⟩
     ·subst e2
      have hc' : ¬ (j = 0) ∧ gZ es j = gZ es (j - 1) := ⟨fun e => hc (.inl e), fH fun e => hc (.inr e)⟩
      exact ⟨j - 1, by omega, by rw [← hc'.2]; exact e⟩
theorem c0c (l : List (Int × Int)) : (dd (uV l)).Pairwise ltP := (a8P (wD l) _ (dc _)).1
theorem a9W {l : List (Int × Int)} {x : Int × Int} : x ∈ dd (uV l) ↔ x ∈ l := by
 unfold dd
 rw [(a8P (wD l) _ (dc _)).2 x, ← (nP l).mem_iff]
 constructor
 ·rintro ⟨j, hj, rfl⟩
  exact iB hj
 ·intro hx
  obtain ⟨j, hj, e⟩ := dO.1 hx
  exact ⟨j, hj, by rw [jS _ _ hj]; exact e⟩
inductive Star {α : Type} (R : α → α → Prop) : α → α → Prop
 | refl (a : α) : Star R a a
 | tail {a b c : α} : Star R a b → R b c → Star R a c
theorem b2N (o : Org) (r : Reg) (l : List Ct) : (lU o r l).Pairwise ltP := c0c _
def IsP (o : Org) (p : Ct) : Prop := 0 ≤ p.1 ∧ p.1 < o.ranks.length ∧ 0 ≤ p.2 ∧ p.2 < (gZ o.ranks p.1.toNat).wind.length
theorem a7U {rs : List Rk} {s : Stp} {key : Int} {p : Ct} (h : p ∈ qJ rs s key) : 0 ≤ p.1 ∧ p.1 < rs.length ∧ 0 ≤ p.2 ∧ p.2 < (gZ rs p.1.toNat).wind.length := by
 unfold qJ at h
 obtain ⟨d, hd, rfl⟩ := dx.1 (a9W.1 h)
 have hh := (eW.1 hd).2
 unfold yJ at hh
 rw [cT, cT, dA, decide_eq_true_eq, decide_eq_true_eq, decide_eq_false_iff_not] at hh
 obtain ⟨⟨h1, h2⟩, h3⟩ := hh
 have e : (nV rs d key).1 = d.rank := by unfold nV; rw [if_neg h1]
 rw [e]
 exact ⟨by omega, by omega, h2, h3⟩
theorem a9n {o : Org} {r : Reg} {c p : Ct} (h : p ∈ nW o r c) : IsP o p := by
 unfold nW at h
 obtain ⟨i, _, h⟩ := fb.1 h
 split at h
 ·exact a7U h
 ·exact absurd h dI
theorem a5S {o : Org} {r : Reg} {l : List Ct} {p : Ct} (h : p ∈ yX o r l) : IsP o p := by
 unfold yX at h
 obtain ⟨c, _, h⟩ := fb.1 (a9W.1 h)
 exact a9n h
theorem vQ {o : Org} {r : Reg} {l : List Ct} {p : Ct} (h : p ∈ lU o r l) : IsP o p := a5S h
theorem b7r {o : Org} {r : Reg} {c p : Ct} (h : p ∈ ofF o r c) : IsP o p := by
 unfold ofF at h
 split at h
 ·exact vQ h
 ·exact absurd h dI
theorem IsP.small {o : Org} {H : Heap} (hf : o.Fine) (ho : o.In H) {p : Ct} (h : IsP o p) : -1000000000 ≤ p.1 ∧ p.1 ≤ 1000000000 ∧ -1000000000 ≤ p.2 ∧ p.2 ≤ 1000000000 := by
 obtain ⟨h1, h2, h3, h4⟩ := h
 have hr := (ho.2.1 _ (iB (xs := o.ranks) (j := p.1.toNat) (by omega))).2
 have := hf.rlen
 exact ⟨by omega, by omega, by omega, by omega⟩
theorem uP {o : Org} (hf : o.Fine) (rg : Reg) {l : List Ct} (hl : l.length ≤ 1024) (ho : ∀ c ∈ pA o rg l, pN o c = true) : (lU o rg l).length ≤ 1000000 := by
 have h1 := rN hf rg (pA o rg l) ho
 have h2 := wF hf (rg := rg) hl
 have h3 := b0f (uV ((pA o rg l).flatMap (nW o rg)))
 rw [nB] at h3
 have : (lU o rg l).length ≤ (pA o rg l).length * 480 := du h3 h1
 omega
def qE (x : Nt) (z : Int) : Bool := if z < 64 then x.1.testBit z.toNat else x.2.testBit (z - 64).toNat
theorem uN {x i : Nat} : i ∈ oU x ↔ i < 64 ∧ x.testBit i = true := by
 unfold oU
 rw [eW, dr]
theorem b4F {x : Nt} {z : Int} : z ∈ pI x ↔ isN z ∧ qE x z = true := by
 unfold pI qE isN
 rw [dE, dx, dx]
 constructor
 ·rintro (⟨i, hi, rfl⟩ | ⟨i, hi, rfl⟩)
  ·obtain ⟨h1, h2⟩ := uN.1 hi
   exact ⟨by omega, by rw [if_pos (by omega)]; exact h2⟩
  ·obtain ⟨h1, h2⟩ := uN.1 hi
   refine ⟨by omega, ?_⟩
   rw [if_neg (by omega), show (64 + (i : Int) - 64).toNat = i by omega]
   exact h2
 ·rintro ⟨h1, h2⟩
  by_cases h : z < 64
  ·rw [if_pos h] at h2
   exact .inl ⟨z.toNat, uN.2 ⟨by omega, h2⟩, by omega⟩
  ·rw [if_neg h] at h2
   exact .inr ⟨(z - 64).toNat, uN.2 ⟨by omega, h2⟩, by omega⟩
theorem b5L (x : Nt) (n z : Int) (hn : isN n) (hz : isN z) : qE (sO x n) z = (qE x z || decide (z = n)) := by
 unfold qE sO isN at *
 by_cases h1 : n < 64
 ·rw [if_pos h1]
  by_cases h2 : z < 64
  ·rw [if_pos h2, if_pos h2, Nat.testBit_or, fR]
   congr 1
   rw [decide_eq_decide]
   omega
  ·rw [if_neg h2, if_neg h2, decide_eq_false (by omega), Bool.or_false]
 ·rw [if_neg h1]
  by_cases h2 : z < 64
  ·rw [if_pos h2, if_pos h2, decide_eq_false (by omega), Bool.or_false]
  ·rw [if_neg h2, if_neg h2, Nat.testBit_or, fR]
   congr 1
   rw [decide_eq_decide]
   omega
theorem a3x (z : Int) : qE (0, 0) z = false := by
 unfold qE
 split <;> simp
theorem a3m : ∀ (xs : List Int) (x : Nt) (z : Int), (∀ n ∈ xs, isN n) → isN z → qE (xs.foldl sO x) z = (qE x z || decide (z ∈ xs))
 | [], x, z, _, _ => by simp
 | n :: xs, x, z, h, hz => by
   rw [eU, a3m xs _ z (fun y hy => h y (eE _ hy)) hz, b5L x n z (h n (ef ..)) hz, Bool.or_assoc]
   congr 1
   rw [ec]
   simp
theorem a2n {xs : List Int} {z : Int} (h : ∀ n ∈ xs, isN n) (hz : isN z) : qE (jN xs) z = decide (z ∈ xs) := by
 unfold jN
 rw [a3m xs _ z h hz, a3x, Bool.false_or]
theorem a7t {lo hi z : Int} (h0 : 0 ≤ lo) (h2 : hi ≤ 127) (hz : isN z) : qE (qX lo hi) z = (decide (lo ≤ z) && decide (z ≤ hi)) := by
 unfold qX
 rw [a2n (fun n hn => by
  obtain ⟨k, hk, rfl⟩ := dx.1 hn
  have := dr.1 hk
  exact ⟨by omega, by omega⟩) hz, ec, cT, decide_eq_true_eq, decide_eq_true_eq, decide_eq_true_eq, dx]
 constructor
 ·rintro ⟨k, hk, rfl⟩
  have := dr.1 hk
  omega
 ·rintro ⟨h3, h4⟩
  exact ⟨(z - lo).toNat, dr.2 (by omega), by omega⟩
theorem b0t {x y : Nt} (hx : Nt.Ok x) {z : Int} (hz : isN z) : qE (woF x y) z = (qE x z && !qE y z) := by
 obtain ⟨h1, h2⟩ := hz
 unfold qE woF
 by_cases h : z < 64
 ·rw [if_pos h, if_pos h, if_pos h, a5t _ _ _ hx.1 (by omega)]
 ·rw [if_neg h, if_neg h, if_neg h, a5t _ _ _ hx.2 (by omega)]
theorem a8W {x y : Nt} (hx : Nt.Ok x) (h : woF x y = (0, 0)) {z : Int} (hz : isN z) (hh : qE x z = true) : qE y z = true := by
 have := b0t (y := y) hx hz
 rw [h, a3x, hh] at this
 simpa using this.symm
theorem qG {o : Org} {ks : List Nt} (h : lS o ks = 0) : organE o = 0 ∧ ks.length = o.dvs.length ∧ ∀ j, j < o.dvs.length → woF (gZ ks j) (qX (gZ o.dvs j).lo (gZ o.dvs j).hi) = (0, 0) := by
 unfold lS at h
 split at h
 ·rename_i hh; exact absurd h hh
 rename_i h1
 split at h
 ·omega
 rename_i h2
 split at h
 ·omega
 rename_i h3
 refine ⟨dj.1 h1, by omega, fun j hj => ?_⟩
 by_cases hh : woF (gZ ks j) (qX (gZ o.dvs j).lo (gZ o.dvs j).hi) = (0, 0)
 ·exact hh
 ·exact absurd ⟨j, hj, hh⟩ h3
theorem uL {o : Org} {ks : List Nt} (hok : ∀ x ∈ ks, Nt.Ok x) (h : lS o ks = 0) : ∀ c ∈ jX ks, pN o c = true := by
 obtain ⟨h1, h2, h3⟩ := qG h
 have hf := Org.aU h1
 intro c hc
 unfold jX at hc
 obtain ⟨i, hi, hc⟩ := fb.1 hc
 have hi := dr.1 hi
 unfold plD at hc
 obtain ⟨z, hz, rfl⟩ := dx.1 hc
 obtain ⟨hz1, hz2⟩ := b4F.1 hz
 have hky := hf.keys i (by omega)
 have hw := a8W (hok _ (iB hi)) (h3 i (by omega)) hz1 hz2
 rw [a7t hky.1 hky.2.2 hz1] at hw
 simp only [cT, decide_eq_true_eq] at hw
 unfold pN
 simp only [cT, decide_eq_true_eq, ez]
 omega
theorem zA {o : Org} {ks : List Nt} (h : lS o ks = 0) : (jX ks).length ≤ 1024 := by
 obtain ⟨h1, h2, _⟩ := qG h
 have h8 := (Org.aU h1).dlen
 have := a6H ks ks.length
 unfold jX
 omega
structure SegsOk (m : Nat) (lo hi : Int) (gs : List Seg) : Prop where
 ord : ∀ i, i < gs.length → (gZ gs i).lo ≤ (gZ gs i).hi
 up : ∀ i, i < gs.length → 0 < i → (gZ gs (i - 1)).hi < (gZ gs i).lo
 within : ∀ i, i < gs.length → lo ≤ (gZ gs i).lo ∧ (gZ gs i).hi ≤ hi
 draws : ∀ i, i < gs.length → lA m (gZ gs i).draws = 0
 len : gs.length ≤ 12
theorem SegsOk.lt {m : Nat} {lo hi : Int} {gs : List Seg} (h : SegsOk m lo hi gs) {i : Nat} : ∀ k, i + 1 + k < gs.length → (gZ gs i).hi < (gZ gs (i + 1 + k)).lo
 | 0, hk => h.up (i + 1) hk (by omega)
 | k + 1, hk => by
   have h1 := h.lt (i := i) k (by omega)
   have h2 := h.ord (i + 1 + k) (by omega)
   have h3 := h.up (i + 1 + (k + 1)) hk (by omega)
   rw [show i + 1 + (k + 1) - 1 = i + 1 + k by omega] at h3
   omega
theorem SegsOk.one {m : Nat} {lo hi : Int} {gs : List Seg} (h : SegsOk m lo hi gs) {key : Int} {i j : Nat} (hi' : i < gs.length) (hj : j < gs.length) (h1 : (gZ gs i).lo ≤ key ∧ key ≤ (gZ gs i).hi) (h2 : (gZ gs j).lo ≤ key ∧ key ≤ (gZ gs j).hi) : i = j := by
 rcases Nat.lt_trichotomy i j with e | e | e
 ·have := h.lt (i := i) (j - i - 1) (by omega)
  rw [show i + 1 + (j - i - 1) = j by omega] at this
  omega
 ·exact e
 ·have := h.lt (i := j) (i - j - 1) (by omega)
  rw [show j + 1 + (i - j - 1) = i by omega] at this
  omega
end Go.Ds
namespace Go.Ds
open Go.Proofs Go.Proofs.Tryz
variable {H : Heap}
set_option maxRecDepth 10000
set_option maxHeartbeats 1000000
def b4T (o : Org) (l : List (Value × Reg)) (ks : List Nt) : Int := if qU o l ≠ 0 then qU o l else lS o ks
theorem b4C (o : Org) (ho : o.In H) (lv : Value) (xs : List (Value × Reg)) (hl : Sl 3 rgc H lv xs) (hle : xs.length < 1000000000) (hr : ∀ p ∈ xs, p.2.In H p.1) (kv : Value) (ks : List Nt) (hk : Ks H kv ks) :
 Fn prog 63 [.agg #[.string o.name, o.rv, o.dv, o.cv], lv, kv] H fun r H' => r = I (b4T o xs ks) ∧ St prog H H' [] := by
 refine .bk func63 rfl (by kernel_rfl) (m := 17) rfl fun l hn g0 g1 g2 => ?_
 simp (disch := omega) only [↓RA, RB, simprocAttr, g0]
 refine (sR H).eNew 4 [(.string o.name), o.rv, o.dv, o.cv] rfl rfl (by simp [OC, ((sR H).sl ho.1).cells.2.1, ((sR H).sl ho.2.2.1).cells.2.1, ((sR H).sl ho.2.2.2.2.1).cells.2.1]) lX fun A1 H1 hS1 => ?_
 simp only [RT] at hS1
 simp (disch := omega) only [↓RA, RZ, simprocAttr, hn, g1, hS1.ae 0 rfl]
 refine hS1.cF (a3E o (ho.aa hS1) lv xs (hS1.sl hl) hle (fun p hp => (hr p hp).aa hS1)) fun H2 hS2 => ?_
 simp (disch := omega) only [↓RA, RB, simprocAttr, hn]
 refine gY (fun h1 => ?_) (fun h1 => ?_)
 ·simp (disch := omega) only [↓RA, RZ, simprocAttr, hn, c3m, h1]
  exact ⟨by unfold b4T; rw [if_pos h1], hS2.forget⟩
 simp (disch := omega) only [↓RA, RZ, simprocAttr, hn, g2, hS2.ae 0 rfl, h1]
 refine hS2.cF (a1g o (ho.aa hS2) kv ks (hk.aa hS2)) fun H3 hS3 => ?_
 simp (disch := omega) only [↓RA, RZ, simprocAttr, hn, c3m, h1]
 exact ⟨by unfold b4T; rw [if_neg h1], hS3.forget⟩
def vM (o : Org) (rg : Reg) (ks : List Nt) : Int := if lR o rg ≠ 0 then lR o rg else lS o ks
theorem a7d (o : Org) (sv : Value) (rg : Reg) (ks : List Nt) : b4T o [(sv, rg)] ks = vM o rg ks := by
 unfold b4T vM
 rw [a0y]
theorem tH {o : Org} {rg : Reg} {ks : List Nt} (h : vM o rg ks = 0) : lR o rg = 0 ∧ lS o ks = 0 := by
 unfold vM at h
 split at h
 ·rename_i hh; exact absurd h hh
 ·rename_i hh; exact ⟨dj.1 hh, h⟩
def nE (o : Org) (rg : Reg) (ks : List Nt) : List Ct := if vM o rg ks = 0 then lU o rg (jX ks) else []
theorem a0v (hG : Glob gH H) (o : Org) (ho : o.In H) (rg : Reg) (sv : Value) (hr : rg.In H sv) (kv : Value) (ks : List Nt) (hk : Ks H kv ks) :
 Fn prog 38 [.agg #[.string o.name, o.rv, o.dv, o.cv], .agg #[sv, .int .u64 rg.cpl, .int .u64 rg.off], kv] H fun r H' => ∃ pv, r = .tuple #[pv, I (vM o rg ks)] ∧ Slx 2 jY H' (fun B => H.length ≤ B) pv (nE o rg ks) ∧ St prog H H' [] := by
 refine .bk func38 rfl (by kernel_rfl) (m := 22) rfl fun l hn g0 g1 g2 => ?_
 simp (disch := omega) only [↓RA, RB, simprocAttr, g0]
 refine (sR H).eNew 4 [(.string o.name), o.rv, o.dv, o.cv] rfl rfl (by simp [OC, ((sR H).sl ho.1).cells.2.1, ((sR H).sl ho.2.2.1).cells.2.1, ((sR H).sl ho.2.2.2.2.1).cells.2.1]) lX fun A1 H1 hS1 => ?_
 simp only [RT] at hS1
 simp (disch := omega) only [↓RA, RB, simprocAttr, g1]
 refine hS1.eNew 3 [sv, (.int .u64 rg.cpl), (.int .u64 rg.off)] rfl rfl (by simp [OC, (hS1.sl hr.1).cells.2.1]) qH fun A2 H2 hS2 => ?_
 simp only [RT] at hS2
 simp (disch := omega) only [↓RA, RZ, simprocAttr, hn, hS2.ae 0 rfl, hS2.ae 1 rfl]
 refine hS2.ai [sv, (.int .u64 rg.cpl), (.int .u64 rg.off)] b3I b6q rfl rfl (by first | (simp []; done) | simp [Value.cells]) (by first | (simp []; done) | simp [Value.cells]) (by simp [OC, (hS2.sl hr.1).cells.2.1]) (by decide) (by decide) fun w1 H3 hS3 => ?_
 simp only [RT] at hS3
 simp (disch := omega) only [↓RA, RZ, simprocAttr, hn, g2]
 refine hS3.cF (b4C o (ho.aa hS3) w1 [(sv, rg)] (hS3.aw 2 rfl (fun _ => rfl)) (by simp) (by intro p hp; rw [dz.1 hp]; exact hr.aa hS3) kv ks (hk.aa hS3)) fun H4 hS4 => ?_
 have hsc := a7d o sv rg ks
 simp (disch := omega) only [↓RA, RB, simprocAttr, hn, hsc]
 refine gY (fun h1 => ?_) (fun h1 => ?_)
 ·simp (disch := omega) only [↓RA, RZ, simprocAttr, hn, c3f, hsc, h1]
  exact ⟨.slice none 0 0, rfl, ⟨⟨.inl ⟨rfl, by rw [nE, if_neg h1]; rfl⟩, lE, by decide⟩, fun b h => by simp [kK] at h⟩, hS4.forget⟩
 have h0 := dj.1 h1
 obtain ⟨hz1, hk0⟩ := tH h0
 obtain ⟨hz3, hz4⟩ := lV hz1
 have hf := Org.aU hz3
 have h8 : ks.length ≤ 8 := by
  have := hf.dlen
  have := (qG hk0).2.1
  omega
 simp (disch := omega) only [↓RA, RC, simprocAttr, hsc, h1]
 refine Wp.aN jZ [(0, 4), (1, 4)] (by kernel_rfl) (by kernel_rfl) ?_
 simp (disch := omega) only [↓RA, RZ, simprocAttr, hn, g2, hS4.ae 0 rfl, hS4.ae 1 rfl]
 refine iC ((a3j (hS4.gl hG) kv ks (hk.aa hS4) h8).tr) ?_
 rintro r H5 ⟨-, hT2⟩
 have hS5 := hS4.trans hT2
 simp only [RT] at hS5
 obtain ⟨pv, rfl⟩ : ∃ w, w = r := ⟨r, rfl⟩
 simp (disch := omega) only [↓RA, RZ, simprocAttr, hn]
 have hSd := hS5
 refine iC (tF o (ho.aa hS5) hf rg sv (hr.aa hS5) hz4 pv (jX ks) (hS5.aw 3 rfl lE) (zA hk0) (uL hk.ok hk0)) ?_
 rintro r H6 ⟨hx, hT3⟩
 have hS6 := hS5.trans hT3
 simp only [RT] at hS6
 obtain ⟨qv, rfl⟩ : ∃ w, w = r := ⟨r, rfl⟩
 simp (disch := omega) only [↓RA, RZ, simprocAttr, hn, hS5.ae 0 rfl, hS5.ae 1 rfl, c3f, hx.1.bq]
 rw [h0]
 refine ⟨qv, rfl, ⟨?_, fun b h => ?_⟩, hS6.forget⟩
 ·rw [nE, if_pos h0]
  exact hx.1
 ·have := hx.2 b h
  have : H.length ≤ _ := hSd.len
  omega
end Go.Ds
namespace Go.Ds
open Go.Proofs
variable {H : Heap}
set_option maxRecDepth 10000
set_option maxHeartbeats 1000000
end Go.Ds
namespace Go.Ds
open Go.Proofs Go.Proofs.Tryz
variable {H : Heap}
set_option maxRecDepth 10000
set_option maxHeartbeats 1000000
def a2v (lo : Int) (w m : Nat) : List Int := ((List.range m).filter fun j => w.testBit j).map fun (j : Nat) => lo + (j : Int)
def uX (lo hi : Int) : Nat := min 16 (hi - lo + 1).toNat
def xU (o : Org) (b : Nat → Nat) (i : Nat) : Nt := jN (a2v (gZ o.dvs i).lo (b (i % 3)) (uX (gZ o.dvs i).lo (gZ o.dvs i).hi))
def kD (o : Org) (b : Nat → Nat) : List Nt := (List.range o.dvs.length).map (xU o b)
theorem b9T (a b : Nat) (h : a < 65536) : ((a : Nat) : Int).fdiv (2 ^ min b (IntKind.bits .u16)) = ((a >>> b : Nat) : Int) := by
 have e : IntKind.bits .u16 = 16 := rfl
 rw [e]
 have h1 : ((a : Nat) : Int).fdiv (2 ^ min b 16) = ((a / 2 ^ min b 16 : Nat) : Int) := by
  rw [gn _ (by exact Int.le_of_lt (Int.pow_pos (by decide)))]
  simp
 rw [h1, eF]
 by_cases hb : b ≤ 16
 ·rw [fJ hb]
 ·rw [Nat.min_eq_right (by omega)]
  have h2 : a / 2 ^ 16 = 0 := gU (by simpa using h)
  have h3 : a / 2 ^ b = 0 := gU (dB (by simpa using h) (fD (by decide) (show 16 ≤ b by omega)))
  rw [h2, h3]
theorem b6B (n : Nat) (h : n < 65536) : IntKind.wrap .u16 ((BitVec.ofInt (IntKind.bits .u16) (n : Int) &&& BitVec.ofInt (IntKind.bits .u16) 1).toNat : Int) = ((n % 2 : Nat) : Int) := by
 have e : (BitVec.ofInt (IntKind.bits .u16) (n : Int) &&& BitVec.ofInt (IntKind.bits .u16) 1).toNat = n % 2 := by
  show (BitVec.ofInt 16 (n : Int) &&& BitVec.ofInt 16 1).toNat = n % 2
  rw [gV]
  have h1 : (BitVec.ofInt 16 (n : Int)).toNat = n := by
   rw [fM, BitVec.toNat_ofNat]
   exact gp (by simpa using h)
  have h2 : (BitVec.ofInt 16 1).toNat = 1 := rfl
  rw [h1, h2, Nat.and_one_is_mod]
 rw [e]
 have : n % 2 < 2 := eK _ (by decide)
 have hh : n % 2 = 0 ∨ n % 2 = 1 := by omega
 rcases hh with h | h <;> rw [h] <;> rfl
theorem b5o {a : Nat} (b : Nat) (h : a < 65536) : a >>> b < 65536 := by
 rw [eF]
 exact Nat.lt_of_le_of_lt (Nat.div_le_self _ _) h
theorem b2a (lo : Int) (w m : Nat) : a2v lo w (m + 1) = a2v lo w m ++ (if w.testBit m then [lo + (m : Int)] else []) := by
 unfold a2v
 rw [ed, eP, dL]
 congr 1
 cases h : w.testBit m <;> simp [h]
theorem b3r (lo : Int) (w m : Nat) : (a2v lo w m).length ≤ m := by
 unfold a2v
 rw [dR]
 exact du (dW _ _) (by simp)
theorem b7O (lo hi : Int) : uX lo hi ≤ 16 := Nat.min_le_left _ _
theorem tW {o : Org} (hf : o.Fine) (w : Nat) {i : Nat} (hi : i < o.dvs.length) : ∀ z ∈ a2v (gZ o.dvs i).lo w (uX (gZ o.dvs i).lo (gZ o.dvs i).hi), isN z ∧ (gZ o.dvs i).lo ≤ z ∧ z ≤ (gZ o.dvs i).hi := by
 intro z hz
 have hk := hf.keys i hi
 unfold a2v uX at hz
 obtain ⟨j, hj, rfl⟩ := dx.1 hz
 have hj := dr.1 (eW.1 hj).1
 exact ⟨⟨by omega, by omega⟩, by omega, by omega⟩
theorem a7T (o : Org) (ho : o.In H) (hf : o.Fine) (b : Nat → Nat) (hb : ∀ i, b i < 65536) :
 Fn prog 10 [.agg #[.string o.name, o.rv, o.dv, o.cv], .agg #[.int .u16 (b 0), .int .u16 (b 1), .int .u16 (b 2)]] H fun r H' =>
  St prog H H' [⟨r, 2, (kD o b).flatMap ntc⟩] := by
 have hd8 := hf.dlen
 refine .aM func10 rfl (by kernel_rfl) (m := 66) rfl fun l hn g0 g1 => ?_
 simp (disch := omega) only [↓RA, RB, simprocAttr, g0]
 refine (sR H).eNew 4 [(.string o.name), o.rv, o.dv, o.cv] rfl rfl (by simp [OC, ((sR H).sl ho.1).cells.2.1, ((sR H).sl ho.2.2.1).cells.2.1, ((sR H).sl ho.2.2.2.2.1).cells.2.1]) lX fun A1 H1 hS1 => ?_
 simp only [RT] at hS1
 simp (disch := omega) only [↓RA, RB, simprocAttr, g1]
 refine hS1.eNew 3 [(.int .u16 (b 0)), (.int .u16 (b 1)), (.int .u16 (b 2))] rfl rfl rfl c3V fun A2 H2 hS2 => ?_
 simp only [RT] at hS2
 simp (disch := omega) only [↓RA, RB, simprocAttr]
 have hS3 := hS2.nil 1
 simp only [RT] at hS3
 refine Wp.al (fun n l H' => l.length = 66 ∧ get l 2 = (ptr A1 0 4) ∧ get l 3 = (ptr A2 0 3) ∧ get l 4 = (.slice none 0 0) ∧ ∃ (i : Nat) (kv : Value), (n + i = o.dvs.length) ∧ get l 6 = I i ∧ get l 5 = kv ∧ St prog H H' [⟨ptr A1 0 4, 0, [(.string o.name), o.rv, o.dv, o.cv]⟩, ⟨ptr A2 0 3, 0, [(.int .u16 (b 0)), (.int .u16 (b 1)), (.int .u16 (b 2))]⟩, ⟨kv, 2, ((List.range i).map (xU o b)).flatMap ntc⟩]) o.dvs.length ?_ ?_
 ·simp (disch := omega) only [RB, RC, simprocAttr, hn]
  exact ⟨0, .slice none 0 0, by omega, rfl, rfl, hS3⟩
 rintro n l H3 ⟨hn, g2, g3, g4, i, kv, hi, g6, g5, hS4⟩
 simp (disch := omega) only [↓RA, RZ, simprocAttr, hn, g2, g6, hS4.ld 0 rfl, (hS4.sl ho.2.2.1).len]
 refine gY (fun q => ?_) (fun q => ?_)
 ·have hk := hf.keys i (by omega)
  simp (disch := omega) only [↓RA, RZ, simprocAttr, hn, g2, g6, hS4.ld 0 rfl, (hS4.sl ho.2.2.1).idx, (hS4.sl ho.2.2.1).bh, (hS4.sl ho.2.2.1).cG 2, Dvn.cells, q]
  refine hS4.eNew 2 [I 0, I 0] rfl rfl rfl a0F fun A3 H4 hS5 => ?_
  simp only [RT] at hS5
  simp (disch := omega) only [↓RA, RZ, simprocAttr, hn, q]
  refine hS5.ab 3 rfl [I (gZ o.dvs i).lo, I (gZ o.dvs i).hi] rfl rfl a0F (by simp) fun H5 hS6 => ?_
  simp only [RT] at hS6
  simp (disch := omega) only [↓RA, RZ, simprocAttr, hn, hS6.ld 3 rfl, q]
  have hS7 := hS6.nil 0
  simp only [RT] at hS7
  refine Wp.al (fun n l H' => l.length = 66 ∧ get l 2 = (ptr A1 0 4) ∧ get l 3 = (ptr A2 0 3) ∧ get l 4 = (.slice none 0 0) ∧ get l 5 = kv ∧ get l 6 = I i ∧ get l 8 = (ptr A3 0 2) ∧ ∃ (m : Nat) (lv : Value), (n + m = uX (gZ o.dvs i).lo (gZ o.dvs i).hi) ∧ get l 9 = I ((gZ o.dvs i).lo + m) ∧ get l 7 = lv ∧ St prog H H' [⟨ptr A1 0 4, 0, [(.string o.name), o.rv, o.dv, o.cv]⟩, ⟨ptr A2 0 3, 0, [(.int .u16 (b 0)), (.int .u16 (b 1)), (.int .u16 (b 2))]⟩, ⟨kv, 2, ((List.range i).map (xU o b)).flatMap ntc⟩, ⟨ptr A3 0 2, 0, [I (gZ o.dvs i).lo, I (gZ o.dvs i).hi]⟩, ⟨lv, 1, (a2v (gZ o.dvs i).lo (b (i % 3)) m).flatMap (one I)⟩]) (uX (gZ o.dvs i).lo (gZ o.dvs i).hi) ?_ ?_
  ·simp (disch := omega) only [RB, RC, simprocAttr, hn, g2, g3, g4, g6, g5]
   exact ⟨0, .slice none 0 0, by omega, by simp, rfl, hS7⟩
  rintro n l H6 ⟨hn, g2, g3, g4, g5, g6, g8, m, lv, hm, g9, g7, hS8⟩
  simp (disch := omega) only [↓RA, RZ, simprocAttr, hn, g8, g9, hS8.ld 3 rfl]
  have hM := b7O (gZ o.dvs i).lo (gZ o.dvs i).hi
  have hi3 : (i : Int).tmod 3 = ((i % 3 : Nat) : Int) := (eu i 3).symm
  have hw : ([Value.int .u16 (b 0), .int .u16 (b 1), .int .u16 (b 2)] : List Value)[i % 3]? = some (.int .u16 (b (i % 3))) := by
   have : i % 3 = 0 ∨ i % 3 = 1 ∨ i % 3 = 2 := by omega
   rcases this with e | e | e <;> rw [e] <;> rfl
  have hsub : (gZ o.dvs i).lo + (m : Int) - (gZ o.dvs i).lo = (m : Int) := by omega
  have e1 := b9T (b (i % 3)) m (hb _)
  have e2 := b6B (b (i % 3) >>> m) (b5o m (hb _))
  have e3 := tb (b (i % 3)) m
  have hsu := b2a (gZ o.dvs i).lo (b (i % 3)) m
  have hpl := b3r (gZ o.dvs i).lo (b (i % 3)) m
  refine kB (fun q1 => ?_) (fun q1 => ?_)
  ·simp (disch := omega) only [↓RA, RZ, simprocAttr, hn, g8, g9, hS8.ld 3 rfl, q1]
   refine gY (fun q2 => ?_) (fun q2 => ?_)
   ·skip
    simp (disch := omega) only [↓RA, RC, simprocAttr, q1, q2]
    refine Wp.drw jZ (by kernel_rfl) ?_
    simp (disch := omega) only [↓RA, RZ, simprocAttr, hn, g3, g6, g8, g9, hS8.ld 1 rfl, hw, hS8.ld 3 rfl, hi3, hsub, e1, e2]
    refine gY (fun q3 => ?_) (fun q3 => ?_)
    ·rw [e3, decide_eq_true (by omega), if_pos rfl] at hsu
     simp (disch := omega) only [↓RA, RZ, simprocAttr, hn, g9, g7, q3]
     refine hS8.ai [I ((gZ o.dvs i).lo + m)] uY a0G rfl rfl (by simp [Value.cells]) rfl rfl (by decide) (by decide) fun w1 H7 hS9 => ?_
     simp only [RT] at hS9
     simp (disch := omega) only [↓RA, RZ, simprocAttr, hn, q3]
     refine hS9.aq 4 rfl (hS9.rd 5 rfl) uY (by rw [iN (n := 1) (cel := one I) (fun _ => rfl)]; simp; omega) fun w2 H8 hS10 => ?_
     simp only [RT] at hS10
     simp (disch := omega) only [↓RA, RZ, simprocAttr, hn, g2, g3, g4, g5, g6, g8, g9, q3]
     refine ⟨n - 1, by unfold uX at hm; omega, m + 1, w2, by unfold uX at hm ⊢; omega, by simp; omega, rfl, ?_⟩
     rw [hsu, dN]
     exact hS10.pick [0, 1, 2, 3, 4] (by decide) rfl
    rw [e3, decide_eq_false (by omega), if_neg (by simp), dq] at hsu
    simp (disch := omega) only [↓RA, RZ, simprocAttr, hn, g2, g3, g4, g5, g6, g8, g9, g7, q3]
    refine ⟨n - 1, by unfold uX at hm; omega, m + 1, lv, by unfold uX at hm ⊢; omega, by simp; omega, rfl, ?_⟩
    rw [hsu]
    exact hS8.pick [0, 1, 2, 3, 4] (by decide) rfl
   have hmM : m = uX (gZ o.dvs i).lo (gZ o.dvs i).hi := by unfold uX at hm hM ⊢; omega
   have hz := tW hf (b (i % 3)) (show i < o.dvs.length by omega)
   subst hmM
   simp (disch := omega) only [↓RA, RZ, simprocAttr, hn, g7, q1, q2]
   refine hS8.cF (wE (a2v (gZ o.dvs i).lo (b (i % 3)) (uX (gZ o.dvs i).lo (gZ o.dvs i).hi)) (fun z h => (hz z h).1) lv (hS8.aw 4 rfl (rW _)) (by omega)) fun H9 hS11 => ?_
   simp (disch := omega) only [↓RA, RZ, simprocAttr, hn, q1, q2]
   refine hS11.eNew 2 [(.int .u64 0), (.int .u64 0)] rfl rfl rfl mT fun A4 H10 hS12 => ?_
   simp only [RT] at hS12
   simp (disch := omega) only [↓RA, RZ, simprocAttr, hn, q1, q2]
   refine hS12.ab 5 rfl [(.int .u64 (xU o b i).1), (.int .u64 (xU o b i).2)] rfl rfl mT (by simp) fun H11 hS13 => ?_
   simp only [RT] at hS13
   simp (disch := omega) only [↓RA, RZ, simprocAttr, hn, g5, hS13.ae 5 rfl, q1, q2]
   refine hS13.ai [(.int .u64 (xU o b i).1), (.int .u64 (xU o b i).2)] a7v b5w rfl rfl (by simp [Value.cells]) rfl rfl (by decide) (by decide) fun w3 H12 hS14 => ?_
   simp only [RT] at hS14
   simp (disch := omega) only [↓RA, RZ, simprocAttr, hn, q1, q2]
   refine hS14.aq 2 rfl (hS14.rd 6 rfl) a7v (by rw [iN (n := 2) (cel := ntc) (fun _ => rfl)]; simp; omega) fun w4 H13 hS15 => ?_
   simp only [RT] at hS15
   simp (disch := omega) only [↓RA, RZ, simprocAttr, hn, g2, g3, g4, g6, q1, q2]
   refine ⟨o.dvs.length - (i + 1), by omega, i + 1, w4, by omega, by simp, rfl, ?_⟩
   rw [ed, dL, dN]
   exact hS15.pick [0, 1, 2] (by decide) rfl
  have hmM : m = uX (gZ o.dvs i).lo (gZ o.dvs i).hi := by unfold uX at hm hM ⊢; omega
  have hz := tW hf (b (i % 3)) (show i < o.dvs.length by omega)
  subst hmM
  simp (disch := omega) only [↓RA, RZ, simprocAttr, hn, g7, q1]
  refine hS8.cF (wE (a2v (gZ o.dvs i).lo (b (i % 3)) (uX (gZ o.dvs i).lo (gZ o.dvs i).hi)) (fun z h => (hz z h).1) lv (hS8.aw 4 rfl (rW _)) (by omega)) fun H14 hS16 => ?_
  simp (disch := omega) only [↓RA, RZ, simprocAttr, hn, q1]
  refine hS16.eNew 2 [(.int .u64 0), (.int .u64 0)] rfl rfl rfl mT fun A5 H15 hS17 => ?_
  simp only [RT] at hS17
  simp (disch := omega) only [↓RA, RZ, simprocAttr, hn, q1]
  refine hS17.ab 5 rfl [(.int .u64 (xU o b i).1), (.int .u64 (xU o b i).2)] rfl rfl mT (by simp) fun H16 hS18 => ?_
  simp only [RT] at hS18
  simp (disch := omega) only [↓RA, RZ, simprocAttr, hn, g5, hS18.ae 5 rfl, q1]
  refine hS18.ai [(.int .u64 (xU o b i).1), (.int .u64 (xU o b i).2)] a7v b5w rfl rfl (by simp [Value.cells]) rfl rfl (by decide) (by decide) fun w5 H17 hS19 => ?_
  simp only [RT] at hS19
  simp (disch := omega) only [↓RA, RZ, simprocAttr, hn, q1]
  refine hS19.aq 2 rfl (hS19.rd 6 rfl) a7v (by rw [iN (n := 2) (cel := ntc) (fun _ => rfl)]; simp; omega) fun w6 H18 hS20 => ?_
  simp only [RT] at hS20
  simp (disch := omega) only [↓RA, RZ, simprocAttr, hn, g2, g3, g4, g6, q1]
  refine ⟨o.dvs.length - (i + 1), by omega, i + 1, w6, by omega, by simp, rfl, ?_⟩
  rw [ed, dL, dN]
  exact hS20.pick [0, 1, 2] (by decide) rfl
 simp (disch := omega) only [↓RA, RZ, simprocAttr, hn, g5, c5i, q]
 have hii : i = o.dvs.length := by omega
 subst hii
 exact hS4.pick [2] (by decide) rfl
theorem rZ (o : Org) (b : Nat → Nat) : (kD o b).length = o.dvs.length := by simp [kD]
theorem a5d {o : Org} {b : Nat → Nat} {i : Nat} (hi : i < o.dvs.length) : gZ (kD o b) i = xU o b i := by
 rw [jS _ i (by rw [rZ]; exact hi)]
 simp [kD]
theorem b0E {o : Org} (hf : o.Fine) (b : Nat → Nat) {i : Nat} (hi : i < o.dvs.length) : Nt.Ok (xU o b i) := rP _ _ (fun z h => (tW hf (b (i % 3)) hi z h).1) ⟨by decide, by decide⟩
theorem a5T {o : Org} (hf : o.Fine) (b : Nat → Nat) : ∀ x ∈ kD o b, Nt.Ok x := by
 intro x hx
 obtain ⟨i, hi, rfl⟩ := dx.1 hx
 exact b0E hf b (dr.1 hi)
theorem a7l {x y : Nt} (hx : Nt.Ok x) (h : ∀ z, isN z → qE x z = true → qE y z = true) : woF x y = (0, 0) := by
 have k : ∀ z, isN z → qE (woF x y) z = false := fun z hz => by
  rw [b0t hx hz]
  cases e : qE x z with
  | false => rfl
  | true => rw [h z hz e]; rfl
 have big : ∀ a : Nat, a < 18446744073709551616 → ∀ j, 64 ≤ j → a.testBit j = false := fun a ha j hj =>
  Nat.testBit_lt_two_pow (dB (show a < 2 ^ 64 from ha) (fD (by decide) hj))
 obtain ⟨h1, h2⟩ := b9M x y
 apply gO
 ·apply fN
  intro j
  rw [gW]
  by_cases hj : 64 ≤ j
  ·exact big _ h1 j hj
  ·have := k (j : Int) ⟨by omega, by omega⟩
   unfold qE at this
   rw [if_pos (by omega)] at this
   exact this
 ·apply fN
  intro j
  rw [gW]
  by_cases hj : 64 ≤ j
  ·exact big _ h2 j hj
  ·have := k (64 + j : Int) ⟨by omega, by omega⟩
   unfold qE at this
   rw [if_neg (by omega), show (64 + (j : Int) - 64).toNat = j by omega] at this
   exact this
theorem a7H {o : Org} (h0 : organE o = 0) (b : Nat → Nat) : lS o (kD o b) = 0 := by
 have hf := Org.aU h0
 unfold lS
 rw [if_neg (by rw [h0]; simp), if_neg (by rw [rZ]; simp), if_neg]
 rintro ⟨j, hj, hne⟩
 apply hne
 have hk := hf.keys j hj
 rw [a5d hj]
 refine a7l (b0E hf b hj) fun z hz hh => ?_
 rw [xU, a2n (fun n hn => (tW hf (b (j % 3)) hj n hn).1) hz] at hh
 have := tW hf (b (j % 3)) hj z (of_decide_eq_true hh)
 rw [a7t hk.1 hk.2.2 hz, decide_eq_true this.2.1, decide_eq_true this.2.2]
 rfl
end Go.Ds
namespace Go.Ds
open Go.Proofs
set_option maxRecDepth 10000
theorem Star.mono {α : Type} {R R' : α → α → Prop} (h : ∀ a b, R a b → R' a b) {a b : α} (hs : Star R a b) : Star R' a b := by
 induction hs with
 | refl => exact .refl _
 | tail _ h2 ih => exact .tail ih (h _ _ h2)
end Go.Ds
namespace Go.Ds
open Go.Proofs Go.Shelf Go.RowKit Go.Lib Go.Sort
def sm (x : Int × Int) : Prop := -1000000000 ≤ x.1 ∧ x.1 ≤ 1000000000 ∧ -1000000000 ≤ x.2 ∧ x.2 ≤ 1000000000
abbrev Sm := {x : Int × Int // sm x}
instance : Inhabited Sm := ⟨⟨(0, 0), by unfold sm; decide⟩⟩
section
variable {H : Heap}
end
end Go.Ds
namespace Go.Ds
open Go.Proofs
variable {H : Heap}
set_option maxRecDepth 10000
set_option maxHeartbeats 1000000
end Go.Ds
namespace Go.Ds
open Go.Proofs Go.Shelf Go.RowKit Go.Lib Go.Sort
section
variable {H : Heap}
end
end Go.Ds
namespace Go.Ds
open Go.Proofs
variable {H : Heap}
set_option maxRecDepth 10000
set_option maxHeartbeats 1000000
end Go.Ds
namespace Go.Ds
open Go.Proofs Go.Proofs.Tryz
variable {H : Heap}
set_option maxRecDepth 10000
set_option maxHeartbeats 1000000
theorem b3m {x y : Int × Int} : cf2 x y < 0 ↔ ltP x y := by
 unfold cf2 ltP
 split
 ·omega
 ·split
  ·omega
  ·split
   ·omega
   ·split <;> omega
theorem b4V {x y : Int × Int} : cf2 x y = 0 ↔ x = y := by
 unfold cf2
 constructor
 ·intro h
  split at h
  ·omega
  ·split at h
   ·omega
   ·split at h
    ·omega
    ·split at h
     ·omega
     ·exact gO (by omega) (by omega)
 ·rintro rfl
  rw [if_neg (by omega), if_neg (by omega), if_neg (by omega), if_neg (by omega)]
theorem a4T {xs : List Ct} (hs : xs.Pairwise ltP) {i j : Nat} (h : i < j) (hj : j < xs.length) : ltP (gZ xs i) (gZ xs j) := by
 rw [jS _ _ (by omega), jS _ _ hj]
 exact dZ.1 hs i j (by omega) hj h
theorem c0N (v : Value) (xs : List Ct) (hv : Sl 2 jY H v xs) (hl : xs.length < 1000000000) (hs : xs.Pairwise ltP) (t : Ct) :
 Fn prog 90 [v, .agg #[I t.1, I t.2], .func (.func 91) #[] #[]] H fun r H' => ∃ k : Nat, r = .tuple #[I k, .bool (decide (t ∈ xs))] ∧ St prog H H' [] := by
 refine .bk func90 rfl (by kernel_rfl) (m := 49) rfl fun l hn g0 g1 g2 => ?_
 simp (disch := omega) only [↓RA, RB, simprocAttr, g1]
 refine (sR H).eNew 2 [I t.1, I t.2] rfl rfl rfl nJ fun A1 H1 hS1 => ?_
 simp only [RT] at hS1
 simp (disch := omega) only [↓RA, RZ, simprocAttr, hn, g0, (hS1.sl hv).len]
 refine Wp.al (fun n l H' => l.length = 49 ∧ get l 0 = v ∧ get l 2 = (.func (.func 91) #[] #[]) ∧ get l 4 = (ptr A1 0 2) ∧ get l 6 = I 0 ∧ get l 7 = (.bool false) ∧ get l 8 = I xs.length ∧ ∃ (i : Nat) (j : Nat), (n + i = j ∧ j ≤ xs.length ∧ (∀ q, q < i → ltP (gZ xs q) t) ∧ ∀ q, j ≤ q → q < xs.length → ¬ ltP (gZ xs q) t) ∧ get l 9 = I i ∧ get l 10 = I j ∧ St prog H H' [⟨ptr A1 0 2, 0, [I t.1, I t.2]⟩]) xs.length ?_ ?_
 ·simp (disch := omega) only [RB, RC, simprocAttr, hn, g0, g2]
  exact ⟨0, xs.length, ⟨by omega, by omega, fun q hq => absurd hq (dH _), fun q h1 h2 => absurd h2 (by omega)⟩, rfl, rfl, hS1⟩
 rintro n l H2 ⟨hn, g0, g2, g4, g6, g7, g8, i, j, ⟨h1,h2,h3,h4⟩, g9, oW, hS2⟩
 simp (disch := omega) only [↓RA, RB, simprocAttr, hn, g9, oW]
 refine gY (fun q1 => ?_) (fun q1 => ?_)
 ·obtain ⟨m, hm⟩ : ∃ m : Nat, (i + j) / 2 = m := ⟨_, rfl⟩
  have e1 : ((i : Int) + j).fdiv (2 ^ min 1 (IntKind.bits .u64)) = ((m : Nat) : Int) := by
   have h := a7h (i + j) 1 (by omega)
   rw [eF] at h
   rw [← hm]
   exact h
  simp (disch := omega) only [↓RA, RZ, simprocAttr, hn, g9, oW, q1, e1]
  refine Wp.drw jZ (by kernel_rfl) ?_
  simp (disch := omega) only [↓RA, RZ, simprocAttr, hn, g0, g2]
  simp (disch := omega) only [↓RA, RZ, simprocAttr, hn, g4, (hS2.sl hv).idx, (hS2.sl hv).ae, jY, hS2.ae 0 rfl]
  refine hS2.cF (a4O (gZ xs m) t) fun H3 hS3 => ?_
  simp (disch := omega) only [↓RA, RB, simprocAttr, hn]
  refine gY (fun q2 => ?_) (fun q2 => ?_)
  ·have hlt := b3m.1 q2
   simp (disch := omega) only [↓RA, RZ, simprocAttr, hn, g0, g2, g4, g6, g7, g8, oW, q2]
   refine ⟨j - (m + 1), by omega, m + 1, j, ⟨by omega, h2, fun q hq => ?_, h4⟩, by simp, rfl, hS3⟩
   by_cases e : q = m
   ·rw [e]; exact hlt
   ·exact a2Y (a4T hs (show q < m by omega) (by omega)) hlt
  have hnl : ¬ ltP (gZ xs m) t := fun h => q2 (b3m.2 h)
  simp (disch := omega) only [↓RA, RZ, simprocAttr, hn, g0, g2, g4, g6, g7, g8, g9, q2]
  refine ⟨m - i, by omega, i, m, ⟨by omega, by omega, h3, fun q hq hql h => ?_⟩, rfl, by simp, hS3⟩
  by_cases e : q = m
  ·rw [e] at h; exact hnl h
  ·exact hnl (a2Y (a4T hs (show m < q by omega) hql) h)
 have hij : i = j := by omega
 have hno : ∀ q, q < xs.length → q ≠ i → gZ xs q ≠ t := fun q hq hne e => by
  by_cases hqi : q < i
  ·have := h3 q hqi
   rw [e] at this
   exact b8R this
  ·have h5 := h4 i (by omega) (by omega)
   have h6 := a4T hs (show i < q by omega) hq
   rw [e] at h6
   exact h5 h6
 simp (disch := omega) only [↓RA, RC, simprocAttr, q1]
 refine Wp.drw jZ (by kernel_rfl) ?_
 simp (disch := omega) only [↓RA, RZ, simprocAttr, hn, g8, g9]
 refine kB (fun q3 => ?_) (fun q3 => ?_)
 ·simp (disch := omega) only [↓RA, RZ, simprocAttr, hn, g0, g2, g4, g9, (hS2.sl hv).idx, (hS2.sl hv).ae, jY, hS2.ae 0 rfl, q3]
  refine hS2.cF (a4O (gZ xs i) t) fun H4 hS4 => ?_
  simp (disch := omega) only [↓RA, RZ, simprocAttr, hn, c3c, q3]
  have he : decide (cf2 (gZ xs i) t = 0) = decide (t ∈ xs) := by
   rw [decide_eq_decide, b4V]
   constructor
   ·intro e
    rw [← e]
    exact iB (by omega)
   ·intro hm
    obtain ⟨q, hq, e⟩ := dO.1 hm
    rw [← jS _ _ hq] at e
    by_cases hqi : q = i
    ·rw [hqi] at e; exact e
    ·exact absurd e (hno q hq hqi)
  exact ⟨i, by rw [← he], hS4.forget⟩
 have hf : decide (t ∈ xs) = false := by
  rw [decide_eq_false_iff_not]
  intro hm
  obtain ⟨q, hq, e⟩ := dO.1 hm
  rw [← jS _ _ hq] at e
  exact hno q hq (by omega) e
 simp (disch := omega) only [↓RA, RZ, simprocAttr, hn, c3c, q3]
 exact ⟨i, by rw [hf], hS2.forget⟩
def a2r (xs ys : List Ct) : List Ct := xs.filter fun c => !decide (c ∈ ys)
theorem a5w (xs ys : List Ct) : (a2r xs ys).length ≤ xs.length := dW _ _
theorem a9D (xs ys : List Ct) (i : Nat) (h : i < xs.length) : a2r (xs.take (i + 1)) ys = a2r (xs.take i) ys ++ (if gZ xs i ∈ ys then [] else [gZ xs i]) := by
 unfold a2r
 rw [lB xs i h, eP]
 congr 1
 by_cases e : gZ xs i ∈ ys <;> simp [e]
theorem a5P (v w : Value) (xs ys : List Ct) (hv : Sl 2 jY H v xs) (hw : Sl 2 jY H w ys) (hl : xs.length < 100000000) (hl2 : ys.length < 100000000) (hs : ys.Pairwise ltP) :
 Fn prog 67 [v, w] H fun r H' => St prog H H' [⟨r, 2, pr (a2r xs ys)⟩] := by
 refine .aM func67 rfl (by kernel_rfl) (m := 30) rfl fun l hn g0 g1 => ?_
 simp (disch := omega) only [↓RA, RZ, simprocAttr, hn, g0, ((sR H).sl hv).len]
 have hS1 := (sR H).nil 1
 simp only [RT] at hS1
 refine Wp.al (fun n l H' => l.length = 30 ∧ get l 1 = w ∧ get l 4 = (.slice none 0 0) ∧ get l 10 = v ∧ get l 11 = I xs.length ∧ ∃ (i : Nat) (ov : Value), (n + i = xs.length) ∧ get l 12 = I i ∧ get l 5 = ov ∧ St prog H H' [⟨ov, 2, pr (a2r (xs.take i) ys)⟩]) xs.length ?_ ?_
 ·simp (disch := omega) only [RB, RC, simprocAttr, hn, g1]
  exact ⟨0, .slice none 0 0, by omega, rfl, rfl, hS1⟩
 rintro n l H1 ⟨hn, g1, g4, oW, g11, i, ov, hi, g12, g5, hS2⟩
 simp (disch := omega) only [↓RA, RB, simprocAttr, hn, g11, g12]
 refine gY (fun q1 => ?_) (fun q1 => ?_)
 ·have hsu := a9D xs ys i (by omega)
  have hle := a5w (xs.take i) ys
  have htl := List.length_take_le i xs
  simp (disch := omega) only [↓RA, RZ, simprocAttr, hn, oW, g12, (hS2.sl hv).idx, (hS2.sl hv).ae, jY, q1]
  refine hS2.eNew 2 [I 0, I 0] rfl rfl rfl nJ fun A1 H2 hS3 => ?_
  simp only [RT] at hS3
  simp (disch := omega) only [↓RA, RZ, simprocAttr, hn, q1]
  refine hS3.ab 1 rfl [I (gZ xs i).1, I (gZ xs i).2] rfl rfl nJ (by simp) fun H3 hS4 => ?_
  simp only [RT] at hS4
  simp (disch := omega) only [↓RA, RZ, simprocAttr, hn, g1, hS4.ae 1 rfl, q1]
  refine iC (c0N w ys (hS4.sl hw) (by omega) hs (gZ xs i)) ?_
  rintro r H4 ⟨k, rfl, hT1⟩
  have hS5 := hS4.trans hT1
  simp only [RT] at hS5
  simp (disch := omega) only [↓RA, RZ, simprocAttr, hn, q1]
  refine jR (fun q2 => ?_) (fun q2 => ?_)
  ·have hni : ¬ gZ xs i ∈ ys := by simpa using q2
   rw [if_neg hni] at hsu
   simp (disch := omega) only [↓RA, RZ, simprocAttr, hn, g5, hS5.ae 1 rfl, q1, q2]
   refine hS5.ai [I (gZ xs i).1, I (gZ xs i).2] a6h b9u rfl rfl (by simp [Value.cells]) rfl rfl (by decide) (by decide) fun w1 H5 hS6 => ?_
   simp only [RT] at hS6
   simp (disch := omega) only [↓RA, RZ, simprocAttr, hn, q1, q2]
   refine hS6.aq 0 rfl (hS6.rd 2 rfl) a6h (by rw [iE]; simp only [eh, eG]; omega) fun w2 H6 hS7 => ?_
   simp only [RT] at hS7
   simp (disch := omega) only [↓RA, RZ, simprocAttr, hn, g1, g4, oW, g11, g12, q1, q2]
   refine ⟨n - 1, by omega, i + 1, w2, by omega, by simp, rfl, ?_⟩
   rw [hsu, jV]
   exact hS7.pick [0] (by decide) rfl
  have hni : gZ xs i ∈ ys := by simpa using q2
  rw [if_pos hni, dq] at hsu
  simp (disch := omega) only [↓RA, RZ, simprocAttr, hn, g1, g4, oW, g11, g12, g5, q1, q2]
  refine ⟨n - 1, by omega, i + 1, ov, by omega, by simp, rfl, ?_⟩
  rw [hsu]
  exact hS5.pick [0] (by decide) rfl
 simp (disch := omega) only [↓RA, RZ, simprocAttr, hn, g5, c5E, q1]
 have hii : i = xs.length := by omega
 rw [hii, dT] at hS2
 exact hS2
end Go.Ds
namespace Go.Ds
open Go.Proofs
set_option maxRecDepth 10000
section
variable {o : Org} {b : Nat → Nat} {l : List Ct}
end
def a2p (o : Org) (p : Ct) : Int := gZ (gZ o.ranks p.1.toNat).wind p.2.toNat
def vN (o : Org) (l : List Ct) : Int := l.foldl (fun n p => tD (n + a2p o p)) 0
theorem a9h (o : Org) (l : List Ct) (i : Nat) (h : i < l.length) : vN o (l.take (i + 1)) = tD (vN o (l.take i) + a2p o (gZ l i)) := by
 unfold vN
 rw [lB l i h, fj]
 rfl
end Go.Ds
namespace Go.Ds
open Go.Proofs Go.Proofs.Tryz
variable {H : Heap}
set_option maxRecDepth 10000
set_option maxHeartbeats 1000000
theorem a2i (o : Org) (ho : o.In H) (v : Value) (ps : List Ct) (hv : Sl 2 jY H v ps) (hl : ps.length < 100000000) (hp : ∀ p ∈ ps, IsP o p) :
 Fn prog 39 [.agg #[.string o.name, o.rv, o.dv, o.cv], v] H fun r H' => r = I (vN o ps) ∧ St prog H H' [] := by
 refine .aM func39 rfl (by kernel_rfl) (m := 29) rfl fun l hn g0 g1 => ?_
 simp (disch := omega) only [↓RA, RB, simprocAttr, g0]
 refine (sR H).eNew 4 [(.string o.name), o.rv, o.dv, o.cv] rfl rfl (by simp [OC, ((sR H).sl ho.1).cells.2.1, ((sR H).sl ho.2.2.1).cells.2.1, ((sR H).sl ho.2.2.2.2.1).cells.2.1]) lX fun A1 H1 hS1 => ?_
 simp only [RT] at hS1
 simp (disch := omega) only [↓RA, RZ, simprocAttr, hn, g1, (hS1.sl hv).len]
 refine Wp.al (fun n l H' => l.length = 29 ∧ get l 2 = (ptr A1 0 4) ∧ get l 4 = I 0 ∧ get l 8 = v ∧ get l 9 = I ps.length ∧ ∃ (i : Nat), (n + i = ps.length) ∧ get l 10 = I i ∧ get l 5 = I (vN o (ps.take i)) ∧ St prog H H' [⟨ptr A1 0 4, 0, [(.string o.name), o.rv, o.dv, o.cv]⟩]) ps.length ?_ ?_
 ·simp (disch := omega) only [RB, RC, simprocAttr, hn]
  exact ⟨0, by omega, rfl, rfl, hS1⟩
 rintro n l H2 ⟨hn, g2, g4, g8, g9, i, hi, oW, g5, hS2⟩
 simp (disch := omega) only [↓RA, RB, simprocAttr, hn, g9, oW]
 refine gY (fun q1 => ?_) (fun q1 => ?_)
 ·have hpi := hp _ (iB (xs := ps) (j := i) (by omega))
  obtain ⟨e, he⟩ : ∃ e : Nat, (gZ ps i).1 = e := ⟨(gZ ps i).1.toNat, by have := hpi.1; omega⟩
  obtain ⟨f, hf⟩ : ∃ f : Nat, (gZ ps i).2 = f := ⟨(gZ ps i).2.toNat, by have := hpi.2.2.1; omega⟩
  have hel : e < o.ranks.length := by have := hpi.2.1; omega
  have hfl : f < (gZ o.ranks e).wind.length := by
   have := hpi.2.2.2
   rw [he, ez] at this
   omega
  have hsu := a9h o ps i (by omega)
  have hwt : a2p o (gZ ps i) = gZ (gZ o.ranks e).wind f := by unfold a2p; rw [he, hf, ez, ez]
  rw [hwt] at hsu
  simp (disch := omega) only [↓RA, RZ, simprocAttr, hn, g8, oW, (hS2.sl hv).idx, (hS2.sl hv).ae, jY, q1]
  refine hS2.eNew 2 [I 0, I 0] rfl rfl rfl nJ fun A2 H3 hS3 => ?_
  simp only [RT] at hS3
  simp (disch := omega) only [↓RA, RZ, simprocAttr, hn, q1]
  refine hS3.ab 1 rfl [I (gZ ps i).1, I (gZ ps i).2] rfl rfl nJ (by simp) fun H4 hS4 => ?_
  simp only [RT] at hS4
  simp (disch := omega) only [↓RA, RZ, simprocAttr, q1]
  refine Wp.drw jZ (by kernel_rfl) ?_
  simp (disch := omega) only [↓RA, RZ, simprocAttr, hn, g2, g5, hS4.ld 0 rfl]
  simp (disch := omega) only [↓RA, RZ, simprocAttr, hn, g2, g4, g8, g9, oW, hS4.ld 1 rfl, (hS4.sl ho.1).idx, (hS4.sl ho.1).bh, (hS4.sl ho.1).ld, Rk.cells, (hS4.sl (ho.2.1 (gZ o.ranks e) (iB (by omega))).1).idx, (hS4.sl (ho.2.1 (gZ o.ranks e) (iB (by omega))).1).ld, one, he, hf]
  refine ⟨n - 1, by omega, i + 1, by omega, by simp, ?_, hS4.pick [0] (by decide) rfl⟩
  first | (rw [hsu]; done) | (rw [hsu]; rfl) | (rw [hsu]; simp)
 simp (disch := omega) only [↓RA, RZ, simprocAttr, hn, g5, c4E, q1]
 have hii : i = ps.length := by omega
 rw [hii, dT]
 exact ⟨rfl, hS2.forget⟩
theorem b0c {o : Org} {rg : Reg} {ks : List Nt} : ∀ p ∈ nE o rg ks, IsP o p := by
 intro p hp
 unfold nE at hp
 split at hp
 ·exact vQ hp
 ·exact absurd hp dI
theorem b4N {o : Org} {rg : Reg} {ks : List Nt} (hok : ∀ x ∈ ks, Nt.Ok x) : (nE o rg ks).length ≤ 1000000 := by
 unfold nE
 split
 ·rename_i h
  obtain ⟨h1, h2⟩ := tH h
  exact uP (Org.aU (lV h1).1) rg (zA h2) (oQ (uL hok h2))
 ·simp
def tB (o : Org) (rg : Reg) (ks : List Nt) : Int := vN o (nE o rg ks)
theorem zS (hG : Glob gH H) (o : Org) (ho : o.In H) (rg : Reg) (sv : Value) (hr : rg.In H sv) (kv : Value) (ks : List Nt) (hk : Ks H kv ks) :
 Fn prog 18 [.agg #[.string o.name, o.rv, o.dv, o.cv], .agg #[sv, .int .u64 rg.cpl, .int .u64 rg.off], kv] H fun r H' => r = .tuple #[I (tB o rg ks), I (vM o rg ks)] ∧ St prog H H' [] := by
 have hle := b4N (o := o) (rg := rg) hk.ok
 refine .bk func18 rfl (by kernel_rfl) (m := 23) rfl fun l hn g0 g1 g2 => ?_
 simp (disch := omega) only [↓RA, RB, simprocAttr, g0]
 refine (sR H).eNew 4 [(.string o.name), o.rv, o.dv, o.cv] rfl rfl (by simp [OC, ((sR H).sl ho.1).cells.2.1, ((sR H).sl ho.2.2.1).cells.2.1, ((sR H).sl ho.2.2.2.2.1).cells.2.1]) lX fun A1 H1 hS1 => ?_
 simp only [RT] at hS1
 simp (disch := omega) only [↓RA, RB, simprocAttr, g1]
 refine hS1.eNew 3 [sv, (.int .u64 rg.cpl), (.int .u64 rg.off)] rfl rfl (by simp [OC, (hS1.sl hr.1).cells.2.1]) qH fun A2 H2 hS2 => ?_
 simp only [RT] at hS2
 simp (disch := omega) only [↓RA, RZ, simprocAttr, hn, g2, hS2.ae 0 rfl, hS2.ae 1 rfl]
 refine iC (a0v (hS2.gl hG) o (ho.aa hS2) rg sv (hr.aa hS2) kv ks (hk.aa hS2)) ?_
 rintro r H3 ⟨pv, rfl, hx, hT1⟩
 have hS3 := hS2.trans hT1
 simp only [RT] at hS3
 simp (disch := omega) only [↓RA, RB, simprocAttr, hn]
 refine gY (fun h1 => ?_) (fun h1 => ?_)
 ·have hs : tB o rg ks = 0 := by unfold tB nE; rw [if_neg h1]; rfl
  simp (disch := omega) only [↓RA, RZ, simprocAttr, hn, c2T, h1]
  exact ⟨by rw [hs], hS3.forget⟩
 have h0 := dj.1 h1
 simp (disch := omega) only [↓RA, RZ, simprocAttr, hn, hS3.ae 0 rfl, h1]
 refine hS3.cF (a2i o (ho.aa hS3) pv (nE o rg ks) hx.1 (by omega) b0c) fun H4 hS4 => ?_
 simp (disch := omega) only [↓RA, RZ, simprocAttr, hn, c2T, h1]
 rw [h0]
 exact ⟨rfl, hS4.forget⟩
def rE (o : Org) (rg : Reg) (c : Ct) : Int := vN o (ofF o rg c)
theorem c0h {o : Org} {rg : Reg} {c : Ct} : (ofF o rg c).length ≤ 1000000 := by
 by_cases h : uZ o rg c = 0
 ·exact b9W (Org.aU (lV (zJ h).1).1) rg c
 ·unfold ofF
  rw [if_neg h]
  simp
theorem a4r (o : Org) (ho : o.In H) (rg : Reg) (sv : Value) (hr : rg.In H sv) (c : Ct) :
 Fn prog 22 [.agg #[.string o.name, o.rv, o.dv, o.cv], .agg #[sv, .int .u64 rg.cpl, .int .u64 rg.off], .agg #[I c.1, I c.2]] H fun r H' => r = .tuple #[I (rE o rg c), I (uZ o rg c)] ∧ St prog H H' [] := by
 have hle := c0h (o := o) (rg := rg) (c := c)
 refine .bk func22 rfl (by kernel_rfl) (m := 23) rfl fun l hn g0 g1 g2 => ?_
 simp (disch := omega) only [↓RA, RB, simprocAttr, g0]
 refine (sR H).eNew 4 [(.string o.name), o.rv, o.dv, o.cv] rfl rfl (by simp [OC, ((sR H).sl ho.1).cells.2.1, ((sR H).sl ho.2.2.1).cells.2.1, ((sR H).sl ho.2.2.2.2.1).cells.2.1]) lX fun A1 H1 hS1 => ?_
 simp only [RT] at hS1
 simp (disch := omega) only [↓RA, RB, simprocAttr, g1]
 refine hS1.eNew 3 [sv, (.int .u64 rg.cpl), (.int .u64 rg.off)] rfl rfl (by simp [OC, (hS1.sl hr.1).cells.2.1]) qH fun A2 H2 hS2 => ?_
 simp only [RT] at hS2
 simp (disch := omega) only [↓RA, RB, simprocAttr, g2]
 refine hS2.eNew 2 [I c.1, I c.2] rfl rfl rfl mB fun A3 H3 hS3 => ?_
 simp only [RT] at hS3
 simp (disch := omega) only [↓RA, RZ, simprocAttr, hn, hS3.ae 0 rfl, hS3.ae 1 rfl, hS3.ae 2 rfl]
 refine iC (c2c o (ho.aa hS3) rg sv (hr.aa hS3) c) ?_
 rintro r H4 ⟨pv, rfl, hx, hT1⟩
 have hS4 := hS3.trans hT1
 simp only [RT] at hS4
 simp (disch := omega) only [↓RA, RB, simprocAttr, hn]
 refine gY (fun h1 => ?_) (fun h1 => ?_)
 ·have hs : rE o rg c = 0 := by unfold rE ofF; rw [if_neg h1]; rfl
  simp (disch := omega) only [↓RA, RZ, simprocAttr, hn, c3n, h1]
  exact ⟨by rw [hs], hS4.forget⟩
 have h0 := dj.1 h1
 simp (disch := omega) only [↓RA, RZ, simprocAttr, hn, hS4.ae 0 rfl, h1]
 refine hS4.cF (a2i o (ho.aa hS4) pv (ofF o rg c) hx.1 (by omega) (fun p hp => b7r hp)) fun H5 hS5 => ?_
 simp (disch := omega) only [↓RA, RZ, simprocAttr, hn, c3n, h1]
 rw [h0]
 exact ⟨rfl, hS5.forget⟩
end Go.Ds
namespace Go.Ds
open Go.Proofs
set_option maxRecDepth 10000
def uD (o : Org) : List Nt := o.dvs.map fun d => qX d.lo d.hi
theorem zN (o : Org) : (uD o).length = o.dvs.length := by simp [uD]
theorem b2L {o : Org} {i : Nat} (hi : i < o.dvs.length) : gZ (uD o) i = qX (gZ o.dvs i).lo (gZ o.dvs i).hi := by
 rw [jS _ i (by rw [zN]; exact hi)]
 simp [uD, jS _ i hi]
theorem b0j {lo hi : Int} (h0 : 0 ≤ lo) (h2 : hi ≤ 127) : Nt.Ok (qX lo hi) :=
 rP _ _ (fun z hz => by
  obtain ⟨k, hk, rfl⟩ := dx.1 hz
  have := dr.1 hk
  exact ⟨by omega, by omega⟩) ⟨by decide, by decide⟩
theorem b5v {o : Org} (hf : o.Fine) : ∀ x ∈ uD o, Nt.Ok x := by
 intro x hx
 obtain ⟨d, hd, rfl⟩ := dx.1 hx
 obtain ⟨j, hj, rfl⟩ := dO.1 hd
 have hk := hf.keys j hj
 rw [jS _ j hj] at hk
 exact b0j hk.1 hk.2.2
theorem b8X {o : Org} (h0 : organE o = 0) : lS o (uD o) = 0 := by
 unfold lS
 rw [if_neg (by rw [h0]; simp), if_neg (by rw [zN]; simp), if_neg]
 rintro ⟨j, hj, hne⟩
 apply hne
 have hk := (Org.aU h0).keys j hj
 rw [b2L hj]
 exact a7l (b0j hk.1 hk.2.2) fun z _ hh => hh
def mH : Nat → Nat := fun _ => 65535
def grS (f : Ct → Int) (a : Ct × Int) (c : Ct) : Ct × Int := if f c > a.2 then (c, f c) else a
def grF (f : Ct → Int) (l : List Ct) (a : Ct × Int) : Ct × Int := l.foldl (grS f) a
theorem b6Z (f : Ct → Int) (l : List Ct) (c : Ct) (a : Ct × Int) : grF f (l ++ [c]) a = grS f (grF f l a) c := by
 unfold grF
 rw [fj]
 rfl
end Go.Ds
namespace Go.Ds
open Go.Proofs Go.Proofs.Tryz
variable {H : Heap}
set_option maxRecDepth 10000
set_option maxHeartbeats 1000000
structure Kv where
 v : Value
 l : List Nt
 deriving Inhabited
def Kv.cells (k : Kv) : List Value := [k.v]
def Kv.In (H : Heap) (k : Kv) : Prop := Ks H k.v k.l
theorem Kv.In.aa {P : Program} {H' : Heap} {k : Kv} {os : List Ob} (h : k.In H) (hS : St P H H' os) : k.In H' := Ks.aa h hS
def qD (o : Org) (rg : Reg) (l : List Kv) : Int := if organE o ≠ 0 then organE o else if lR o rg ≠ 0 then lR o rg else if 200 < l.length then 4 else kW (fun j => lS o (gZ l j).l) l.length
theorem a5c (o : Org) (ho : o.In H) (rg : Reg) (sv : Value) (hr : rg.In H sv) (lv : Value) (ls : List Kv) (hl : Sl 1 Kv.cells H lv ls) (hle : ls.length < 1000000000) (hk : ∀ k ∈ ls, k.In H) :
 Fn prog 33 [.agg #[.string o.name, o.rv, o.dv, o.cv], .agg #[sv, .int .u64 rg.cpl, .int .u64 rg.off], lv] H fun r H' => r = I (qD o rg ls) ∧ St prog H H' [] := by
 have hlc := hl.cells
 refine .bk func33 rfl (by kernel_rfl) (m := 39) rfl fun l hn g0 g1 g2 => ?_
 simp (disch := omega) only [↓RA, RB, simprocAttr, g0]
 refine (sR H).eNew 4 [(.string o.name), o.rv, o.dv, o.cv] rfl rfl (by simp [OC, ((sR H).sl ho.1).cells.2.1, ((sR H).sl ho.2.2.1).cells.2.1, ((sR H).sl ho.2.2.2.2.1).cells.2.1]) lX fun A1 H1 hS1 => ?_
 simp only [RT] at hS1
 simp (disch := omega) only [↓RA, RB, simprocAttr, g1]
 refine hS1.eNew 3 [sv, (.int .u64 rg.cpl), (.int .u64 rg.off)] rfl rfl (by simp [OC, (hS1.sl hr.1).cells.2.1]) qH fun A2 H2 hS2 => ?_
 simp only [RT] at hS2
 simp (disch := omega) only [↓RA, RZ, simprocAttr, hn, hS2.ae 0 rfl]
 refine hS2.cF (wT o (ho.aa hS2)) fun H3 hS3 => ?_
 simp (disch := omega) only [↓RA, RB, simprocAttr, hn]
 refine gY (fun h1 => ?_) (fun h1 => ?_)
 ·simp (disch := omega) only [↓RA, RZ, simprocAttr, hn, b5x, h1]
  exact ⟨by rw [qD, if_pos h1], hS3.forget⟩
 simp (disch := omega) only [↓RA, RZ, simprocAttr, hn, hS3.ae 0 rfl, hS3.ae 1 rfl, h1]
 refine hS3.cF (a9L o (ho.aa hS3) rg sv (hr.aa hS3)) fun H4 hS4 => ?_
 simp (disch := omega) only [↓RA, RZ, simprocAttr, hn, h1]
 refine gY (fun h2 => ?_) (fun h2 => ?_)
 ·simp (disch := omega) only [↓RA, RZ, simprocAttr, hn, b5x, h1, h2]
  exact ⟨by rw [qD, if_neg h1, if_pos h2], hS4.forget⟩
 simp (disch := omega) only [↓RA, RZ, simprocAttr, hn, g2, (hS4.sl hl).len, h1, h2]
 refine gY (fun h3 => ?_) (fun h3 => ?_)
 ·simp (disch := omega) only [↓RA, RZ, simprocAttr, hn, b5x, h1, h2, h3]
  exact ⟨by rw [qD, if_neg h1, if_neg h2, if_pos (by omega)], hS4.forget⟩
 have hE : qD o rg ls = kW (fun j => lS o (gZ ls j).l) ls.length := by rw [qD, if_neg h1, if_neg h2, if_neg (by omega)]
 simp (disch := omega) only [↓RA, RZ, simprocAttr, hn, g2, (hS4.sl hl).len, h1, h2, h3]
 refine Wp.al (fun n l H' => l.length = 39 ∧ get l 3 = (ptr A1 0 4) ∧ get l 26 = lv ∧ get l 27 = I ls.length ∧ ∃ (j : Nat), (n + j = ls.length ∧ ∀ q, q < j → lS o (gZ ls q).l = 0) ∧ get l 28 = I j ∧ St prog H H' [⟨ptr A1 0 4, 0, [(.string o.name), o.rv, o.dv, o.cv]⟩, ⟨ptr A2 0 3, 0, [sv, (.int .u64 rg.cpl), (.int .u64 rg.off)]⟩]) ls.length ?_ ?_
 ·simp (disch := omega) only [RB, RC, simprocAttr, hn]
  exact ⟨0, ⟨by omega, fun q hq => absurd hq (dH _)⟩, rfl, hS4⟩
 rintro n l H5 ⟨hn, g3, g26, g27, j, ⟨hj,hz⟩, g28, hS5⟩
 simp (disch := omega) only [↓RA, RB, simprocAttr, hn, g27, g28]
 refine gY (fun q1 => ?_) (fun q1 => ?_)
 ·simp (disch := omega) only [↓RA, RZ, simprocAttr, hn, g3, g26, g28, (hS5.sl hl).idx, (hS5.sl hl).ld, Kv.cells, hS5.ae 0 rfl, q1]
  refine hS5.cF (a1g o (ho.aa hS5) (gZ ls j).v (gZ ls j).l ((hk _ (iB (by omega))).aa hS5)) fun H6 hS6 => ?_
  simp (disch := omega) only [↓RA, RZ, simprocAttr, hn, q1]
  refine gY (fun q2 => ?_) (fun q2 => ?_)
  ·simp (disch := omega) only [↓RA, RZ, simprocAttr, hn, b5x, q1, q2]
   exact ⟨by rw [hE, mK (fun j => lS o (gZ ls j).l) ls.length j (by omega) q2 hz], hS6.forget⟩
  simp (disch := omega) only [↓RA, RZ, simprocAttr, hn, g3, g26, g27, g28, q1, q2]
  exact ⟨n - 1, by omega, j + 1, ⟨by omega, fun q hq => by rcases dp.1 hq with e | e; (· exact hz q e); (· rw [e]; exact dj.1 q2)⟩, by simp, hS6.pick [0, 1] (by decide) rfl⟩
 simp (disch := omega) only [↓RA, RZ, simprocAttr, hn, b5x, q1]
 exact ⟨by rw [hE, kA (fun j => lS o (gZ ls j).l) ls.length fun q hq => hz q (by omega)], hS5.forget⟩
def a7M (o : Org) (rg : Reg) (ls : List Kv) : List Int := if qD o rg ls = 0 then ls.map fun k => tB o rg k.l else []
theorem a1G (hG : Glob gH H) (o : Org) (ho : o.In H) (rg : Reg) (sv : Value) (hr : rg.In H sv) (lv : Value) (ls : List Kv) (hl : Sl 1 Kv.cells H lv ls) (hle : ls.length < 1000000000) (hk : ∀ k ∈ ls, k.In H) :
 Fn prog 12 [.agg #[.string o.name, o.rv, o.dv, o.cv], .agg #[sv, .int .u64 rg.cpl, .int .u64 rg.off], lv] H fun r H' => ∃ v, r = .tuple #[v, I (qD o rg ls)] ∧ St prog H H' [⟨v, 1, (a7M o rg ls).flatMap (one I)⟩] := by
 refine .bk func12 rfl (by kernel_rfl) (m := 40) rfl fun l hn g0 g1 g2 => ?_
 simp (disch := omega) only [↓RA, RB, simprocAttr, g0]
 refine (sR H).eNew 4 [(.string o.name), o.rv, o.dv, o.cv] rfl rfl (by simp [OC, ((sR H).sl ho.1).cells.2.1, ((sR H).sl ho.2.2.1).cells.2.1, ((sR H).sl ho.2.2.2.2.1).cells.2.1]) lX fun A1 H1 hS1 => ?_
 simp only [RT] at hS1
 simp (disch := omega) only [↓RA, RB, simprocAttr, g1]
 refine hS1.eNew 3 [sv, (.int .u64 rg.cpl), (.int .u64 rg.off)] rfl rfl (by simp [OC, (hS1.sl hr.1).cells.2.1]) qH fun A2 H2 hS2 => ?_
 simp only [RT] at hS2
 simp (disch := omega) only [↓RA, RZ, simprocAttr, hn, g2, hS2.ae 0 rfl, hS2.ae 1 rfl]
 refine hS2.cF (a5c o (ho.aa hS2) rg sv (hr.aa hS2) lv ls (hS2.sl hl) hle (fun k h => (hk k h).aa hS2)) fun H3 hS3 => ?_
 simp (disch := omega) only [↓RA, RB, simprocAttr, hn]
 refine gY (fun h1 => ?_) (fun h1 => ?_)
 ·have hp : a7M o rg ls = [] := by unfold a7M; rw [if_neg h1]
  have hS4 := hS3.nil 0
  simp only [RT] at hS4
  simp (disch := omega) only [↓RA, RZ, simprocAttr, hn, c3x, h1]
  rw [hp]
  exact ⟨.slice none 0 0, rfl, hS4.pick [2] (by decide) rfl⟩
 have h0 := dj.1 h1
 have hp : a7M o rg ls = ls.map fun k => tB o rg k.l := by unfold a7M; rw [if_pos h0]
 simp (disch := omega) only [↓RA, RZ, simprocAttr, hn, g2, (hS3.sl hl).len, h1]
 have hS5 := hS3.nil 0
 simp only [RT] at hS5
 refine Wp.al (fun n l H' => l.length = 40 ∧ get l 3 = (ptr A1 0 4) ∧ get l 4 = (ptr A2 0 3) ∧ get l 6 = (.slice none 0 0) ∧ get l 7 = I 0 ∧ get l 21 = lv ∧ get l 22 = I ls.length ∧ ∃ (i : Nat) (ov : Value), (n + i = ls.length) ∧ get l 23 = I i ∧ get l 9 = ov ∧ St prog H H' [⟨ptr A1 0 4, 0, [(.string o.name), o.rv, o.dv, o.cv]⟩, ⟨ptr A2 0 3, 0, [sv, (.int .u64 rg.cpl), (.int .u64 rg.off)]⟩, ⟨ov, 1, ((ls.take i).map fun k => tB o rg k.l).flatMap (one I)⟩]) ls.length ?_ ?_
 ·simp (disch := omega) only [RB, RC, simprocAttr, hn]
  exact ⟨0, .slice none 0 0, by omega, rfl, rfl, hS5⟩
 rintro n l H4 ⟨hn, g3, g4, g6, g7, g21, g22, i, ov, hi, g23, g9, hS6⟩
 simp (disch := omega) only [↓RA, RB, simprocAttr, hn, g22, g23]
 refine gY (fun q1 => ?_) (fun q1 => ?_)
 ·simp (disch := omega) only [↓RA, RZ, simprocAttr, hn, g3, g4, g21, g23, (hS6.sl hl).idx, (hS6.sl hl).ld, Kv.cells, hS6.ae 0 rfl, hS6.ae 1 rfl, q1]
  refine hS6.cF (zS (hS6.gl hG) o (ho.aa hS6) rg sv (hr.aa hS6) (gZ ls i).v (gZ ls i).l ((hk _ (iB (by omega))).aa hS6)) fun H5 hS7 => ?_
  simp (disch := omega) only [↓RA, RZ, simprocAttr, hn, g9, q1]
  refine hS7.ai [I (tB o rg (gZ ls i).l)] uY a0G rfl rfl (by simp [Value.cells]) rfl rfl (by decide) (by decide) fun w1 H6 hS8 => ?_
  simp only [RT] at hS8
  simp (disch := omega) only [↓RA, RZ, simprocAttr, hn, q1]
  refine hS8.aq 2 rfl (hS8.rd 3 rfl) uY (by rw [nZ, dR, dR, fV]; simp; omega) fun w2 H7 hS9 => ?_
  simp only [RT] at hS9
  simp (disch := omega) only [↓RA, RZ, simprocAttr, hn, g3, g4, g6, g7, g21, g22, g23, q1]
  refine ⟨n - 1, by omega, i + 1, w2, by omega, by simp, rfl, ?_⟩
  rw [rD ls i (by omega), dL, dN]
  exact hS9.pick [0, 1, 2] (by decide) rfl
 have hnt := (hS6.aw (cel := one I) 2 rfl (fun _ => rfl)).bq
 simp (disch := omega) only [↓RA, RZ, simprocAttr, hn, g9, c3x, q1, hnt]
 have hii : i = ls.length := by omega
 rw [hp, h0]
 refine ⟨ov, rfl, ?_⟩
 have h9 := hS6.pick (os' := [⟨ov, 1, _⟩]) [2] (by decide) rfl
 rw [hii, dT] at h9
 exact h9
def b9Y (f : Nat → Int) (a : Int × Int) (i : Nat) : Int × Int := if i = 0 ∨ a.2 < f i then ((i : Int), f i) else a
def b1X (f : Nat → Int) (n : Nat) : Int × Int := (List.range n).foldl (b9Y f) (0, 0)
theorem b1r (f : Nat → Int) (n : Nat) : b1X f (n + 1) = b9Y f (b1X f n) n := by
 unfold b1X
 rw [ed, fj]
 rfl
def vB (o : Org) (rg : Reg) (ls : List Kv) : Int := if qD o rg ls ≠ 0 then qD o rg ls else if ls.length = 0 then 13 else 0
def a1S (o : Org) (rg : Reg) (ls : List Kv) : Int × Int := if vB o rg ls = 0 then b1X (fun i => tB o rg (gZ ls i).l) ls.length else (0, 0)
theorem b0e (hG : Glob gH H) (o : Org) (ho : o.In H) (rg : Reg) (sv : Value) (hr : rg.In H sv) (lv : Value) (ls : List Kv) (hl : Sl 1 Kv.cells H lv ls) (hle : ls.length < 1000000000) (hk : ∀ k ∈ ls, k.In H) :
 Fn prog 13 [.agg #[.string o.name, o.rv, o.dv, o.cv], .agg #[sv, .int .u64 rg.cpl, .int .u64 rg.off], lv] H fun r H' => r = .tuple #[I (a1S o rg ls).1, I (a1S o rg ls).2, I (vB o rg ls)] ∧ St prog H H' [] := by
 refine .bk func13 rfl (by kernel_rfl) (m := 50) rfl fun l hn g0 g1 g2 => ?_
 simp (disch := omega) only [↓RA, RB, simprocAttr, g0]
 refine (sR H).eNew 4 [(.string o.name), o.rv, o.dv, o.cv] rfl rfl (by simp [OC, ((sR H).sl ho.1).cells.2.1, ((sR H).sl ho.2.2.1).cells.2.1, ((sR H).sl ho.2.2.2.2.1).cells.2.1]) lX fun A1 H1 hS1 => ?_
 simp only [RT] at hS1
 simp (disch := omega) only [↓RA, RB, simprocAttr, g1]
 refine hS1.eNew 3 [sv, (.int .u64 rg.cpl), (.int .u64 rg.off)] rfl rfl (by simp [OC, (hS1.sl hr.1).cells.2.1]) qH fun A2 H2 hS2 => ?_
 simp only [RT] at hS2
 simp (disch := omega) only [↓RA, RZ, simprocAttr, hn, g2, hS2.ae 0 rfl, hS2.ae 1 rfl]
 refine hS2.cF (a5c o (ho.aa hS2) rg sv (hr.aa hS2) lv ls (hS2.sl hl) hle (fun k h => (hk k h).aa hS2)) fun H3 hS3 => ?_
 simp (disch := omega) only [↓RA, RB, simprocAttr, hn]
 refine gY (fun h1 => ?_) (fun h1 => ?_)
 ·have e : vB o rg ls = qD o rg ls := by unfold vB; rw [if_pos h1]
  simp (disch := omega) only [↓RA, RZ, simprocAttr, hn, c1o, h1]
  exact ⟨by rw [a1S, e, if_neg h1], hS3.forget⟩
 simp (disch := omega) only [↓RA, RZ, simprocAttr, hn, g2, (hS3.sl hl).len, h1]
 refine gY (fun h2 => ?_) (fun h2 => ?_)
 ·have e : vB o rg ls = 13 := by unfold vB; rw [if_neg h1, if_pos (by omega)]
  simp (disch := omega) only [↓RA, RZ, simprocAttr, hn, c1o, h1, h2]
  exact ⟨by rw [a1S, e, if_neg (by decide)], hS3.forget⟩
 have e : vB o rg ls = 0 := by unfold vB; rw [if_neg h1, if_neg (by omega)]
 simp (disch := omega) only [↓RA, RZ, simprocAttr, hn, g2, (hS3.sl hl).len, h1, h2]
 refine Wp.al (fun n l H' => l.length = 50 ∧ get l 3 = (ptr A1 0 4) ∧ get l 4 = (ptr A2 0 3) ∧ get l 8 = I 0 ∧ get l 24 = lv ∧ get l 25 = I ls.length ∧ ∃ (i : Nat), (n + i = ls.length) ∧ get l 26 = I i ∧ get l 6 = I (b1X (fun i => tB o rg (gZ ls i).l) i).1 ∧ get l 7 = I (b1X (fun i => tB o rg (gZ ls i).l) i).2 ∧ St prog H H' [⟨ptr A1 0 4, 0, [(.string o.name), o.rv, o.dv, o.cv]⟩, ⟨ptr A2 0 3, 0, [sv, (.int .u64 rg.cpl), (.int .u64 rg.off)]⟩]) ls.length ?_ ?_
 ·simp (disch := omega) only [RB, RC, simprocAttr, hn]
  exact ⟨0, by omega, rfl, rfl, rfl, hS3⟩
 rintro n l H4 ⟨hn, g3, g4, g8, g24, g25, i, hi, g26, g6, g7, hS4⟩
 simp (disch := omega) only [↓RA, RB, simprocAttr, hn, g25, g26]
 refine gY (fun q1 => ?_) (fun q1 => ?_)
 ·simp (disch := omega) only [↓RA, RZ, simprocAttr, hn, g3, g4, g24, g26, (hS4.sl hl).idx, (hS4.sl hl).ld, Kv.cells, hS4.ae 0 rfl, hS4.ae 1 rfl, q1]
  refine hS4.cF (zS (hS4.gl hG) o (ho.aa hS4) rg sv (hr.aa hS4) (gZ ls i).v (gZ ls i).l ((hk _ (iB (by omega))).aa hS4)) fun H5 hS5 => ?_
  have hsu := b1r (fun i => tB o rg (gZ ls i).l) i
  unfold b9Y at hsu
  dsimp only at hsu
  simp (disch := omega) only [↓RA, RZ, simprocAttr, hn, q1]
  refine iI (fun q2 => ?_) (fun q2 => ?_)
  ·simp (disch := omega) only [↓RA, RZ, simprocAttr, hn, g3, g4, g8, g24, g25, g26, q2]
   rw [if_pos (Or.inl (by omega))] at hsu
   have hi0 : i = 0 := by omega
   refine ⟨n - 1, by omega, i + 1, by omega, by rw [hi0]; rfl, by rw [hsu, hi0]; rfl, by rw [hsu], hS5.pick [0, 1] (by decide) rfl⟩
  simp (disch := omega) only [↓RA, RZ, simprocAttr, hn, g7, q1, q2]
  refine gY (fun q3 => ?_) (fun q3 => ?_)
  ·simp (disch := omega) only [↓RA, RZ, simprocAttr, hn, g3, g4, g8, g24, g25, g26, q1, q2, q3]
   rw [if_pos (Or.inr (by omega))] at hsu
   refine ⟨n - 1, by omega, i + 1, by omega, by simp, by rw [hsu], by rw [hsu], hS5.pick [0, 1] (by decide) rfl⟩
  simp (disch := omega) only [↓RA, RZ, simprocAttr, hn, g3, g4, g8, g24, g25, g26, g6, g7, q1, q2, q3]
  rw [if_neg (by omega)] at hsu
  refine ⟨n - 1, by omega, i + 1, by omega, by simp, by rw [hsu], by rw [hsu], hS5.pick [0, 1] (by decide) rfl⟩
 simp (disch := omega) only [↓RA, RZ, simprocAttr, hn, g6, g7, c1o, q1]
 have hii : i = ls.length := by omega
 rw [hii]
 exact ⟨by rw [a1S, e, if_pos rfl], hS4.forget⟩
theorem a0K (a : Addr) (m c : Nat) : kP prog .eql 149 149 false true (.slice (some a) m c) (.slice none 0 0) = some (.bool false) := by kernel_rfl
theorem tG {v : Value} {a : Addr} {m c : Nat} (h : v = .slice (some a) m c) (K : Value → Prop) : kR prog .eql 149 149 false true v (.slice none 0 0) K = oE (.bool false) K := by
 subst h
 show jM (kP prog .eql 149 149 false true (.slice (some a) m c) (.slice none 0 0)) K = _
 rw [a0K]
 rfl
theorem yY : kP prog .eql 149 149 false true (.slice none 0 0) (.slice none 0 0) = some (.bool true) := by kernel_rfl
theorem oG (K : Value → Prop) : kR prog .eql 149 149 false true (.slice none 0 0) (.slice none 0 0) K = oE (.bool true) K := by
 show jM (kP prog .eql 149 149 false true (.slice none 0 0) (.slice none 0 0)) K = _
 rw [yY]
 rfl
theorem a8Y (v : Value) (xs : List Ct) (hv : Sl 2 jY H v xs) (hl : xs.length < 100000000) : Fn prog 68 [v] H fun r H' => St prog H H' [⟨r, 2, xs.flatMap jY⟩] := by
 rcases hv.rd with ⟨rfl, h2⟩ | ⟨A, i, e, row, ty, rw', lo, ver, m, _, _, _, _, _, _, hvv⟩
 ·have hx : xs = [] := by
   have := congrArg List.length h2
   rw [show (xs.flatMap jY).length = xs.length * 2 from iN (n := 2) (cel := jY) (fun _ => rfl) xs, eG] at this
   exact eY.1 (by omega)
  subst hx
  refine .aR func68 rfl (by kernel_rfl) (m := 8) rfl fun l hn g0 => ?_
  have hbe := oG
  simp (disch := omega) only [↓RA, RB, simprocAttr, hn, g0, oG]
  have hS1 := (sR H).nil 1
  simp only [RT] at hS1
  simp (disch := omega) only [RB, simprocAttr, hn, c3P]
  exact hS1
 ·refine .aR func68 rfl (by kernel_rfl) (m := 8) rfl fun l hn g0 => ?_
  simp (disch := omega) only [↓RA, RB, simprocAttr, hn, g0, tG hvv]
  refine (sR H).bT qO fun w1 H1 hS1 => ?_
  simp only [RT] at hS1
  simp (disch := omega) only [↓RA, RZ, simprocAttr, hn, g0]
  refine hS1.aq 0 rfl (hS1.sl hv).rd qO (by rw [show (xs.flatMap jY).length = xs.length * 2 from iN (n := 2) (cel := jY) (fun _ => rfl) xs]; simp; omega) fun w2 H2 hS2 => ?_
  simp only [RT] at hS2
  simp (disch := omega) only [↓RA, RB, simprocAttr, hn, c3P]
  exact hS2
end Go.Ds
namespace Go.Ds
open Go.Proofs
variable {H : Heap}
set_option maxRecDepth 10000
set_option maxHeartbeats 1000000
end Go.Ds
namespace Go.Ds
open Go.Proofs Go.Proofs.Tryz
variable {H : Heap}
set_option maxRecDepth 10000
set_option maxHeartbeats 1000000
def wJ (o : Org) (rg : Reg) (ks : List Nt) (c : Ct) : Int := if vM o rg ks ≠ 0 then vM o rg ks else rG o c
def adF (o : Org) (rg : Reg) (ks : List Nt) (c : Ct) : List Ct := if wJ o rg ks c = 0 then a2r (lU o rg (jX ks ++ [c])) (lU o rg (jX ks)) else []
theorem b3N (hG : Glob gH H) (o : Org) (ho : o.In H) (hdv : o.dvs.length ≤ 7) (rg : Reg) (sv : Value) (hr : rg.In H sv) (kv : Value) (ks : List Nt) (hk : Ks H kv ks) (c : Ct) :
 Fn prog 40 [.agg #[.string o.name, o.rv, o.dv, o.cv], .agg #[sv, .int .u64 rg.cpl, .int .u64 rg.off], kv, .agg #[I c.1, I c.2]] H fun r H' => ∃ v, r = .tuple #[v, I (wJ o rg ks c)] ∧ Slx 2 jY H' (fun B => H.length ≤ B) v (adF o rg ks c) ∧ St prog H H' [] := by
 have hnil : ∀ {H' : Heap}, Slx 2 jY H' (fun B => H.length ≤ B) (.slice none 0 0) ([] : List Ct) := fun {H'} => ⟨⟨.inl ⟨rfl, rfl⟩, lE, by decide⟩, fun b h => by simp [kK] at h⟩
 refine .cH func40 rfl (by kernel_rfl) (m := 42) rfl fun l hn g0 g1 g2 g3 => ?_
 simp (disch := omega) only [↓RA, RB, simprocAttr, g0]
 refine (sR H).eNew 4 [(.string o.name), o.rv, o.dv, o.cv] rfl rfl (by simp [OC, ((sR H).sl ho.1).cells.2.1, ((sR H).sl ho.2.2.1).cells.2.1, ((sR H).sl ho.2.2.2.2.1).cells.2.1]) lX fun A1 H1 hS1 => ?_
 simp only [RT] at hS1
 simp (disch := omega) only [↓RA, RB, simprocAttr, g1]
 refine hS1.eNew 3 [sv, (.int .u64 rg.cpl), (.int .u64 rg.off)] rfl rfl (by simp [OC, (hS1.sl hr.1).cells.2.1]) qH fun A2 H2 hS2 => ?_
 simp only [RT] at hS2
 simp (disch := omega) only [↓RA, RB, simprocAttr, g3]
 refine hS2.eNew 2 [I c.1, I c.2] rfl rfl rfl mB fun A3 H3 hS3 => ?_
 simp only [RT] at hS3
 simp (disch := omega) only [↓RA, RZ, simprocAttr, hn, hS3.ae 0 rfl, hS3.ae 1 rfl]
 refine hS3.ai [sv, (.int .u64 rg.cpl), (.int .u64 rg.off)] b3I b6q rfl rfl (by first | (simp []; done) | simp [Value.cells]) (by first | (simp []; done) | simp [Value.cells]) (by simp [OC, (hS3.sl hr.1).cells.2.1]) (by decide) (by decide) fun w1 H4 hS4 => ?_
 simp only [RT] at hS4
 simp (disch := omega) only [↓RA, RZ, simprocAttr, hn, g2]
 refine hS4.cF (b4C o (ho.aa hS4) w1 [(sv, rg)] (hS4.aw 3 rfl (fun _ => rfl)) (by simp) (by intro p hp; rw [dz.1 hp]; exact hr.aa hS4) kv ks (hk.aa hS4)) fun H5 hS5 => ?_
 have hsc := a7d o sv rg ks
 simp (disch := omega) only [↓RA, RB, simprocAttr, hn, hsc]
 refine gY (fun h1 => ?_) (fun h1 => ?_)
 ·have hd : wJ o rg ks c = vM o rg ks := by rw [wJ, if_pos h1]
  simp (disch := omega) only [↓RA, RZ, simprocAttr, hn, c1x, hsc, h1]
  rw [hd, adF, if_neg (by rw [hd]; exact h1)]
  exact ⟨.slice none 0 0, rfl, hnil, hS5.forget⟩
 have hd : wJ o rg ks c = rG o c := by rw [wJ, if_neg h1]
 have h0 := dj.1 h1
 simp (disch := omega) only [↓RA, RZ, simprocAttr, hn, hS5.ae 0 rfl, hS5.ae 2 rfl, hsc, h1]
 refine hS5.cF (rS o (ho.aa hS5) c) fun H6 hS6 => ?_
 simp (disch := omega) only [↓RA, RZ, simprocAttr, hn, hsc, h1]
 refine gY (fun h2 => ?_) (fun h2 => ?_)
 ·simp (disch := omega) only [↓RA, RZ, simprocAttr, hn, c1x, hsc, h1, h2]
  rw [hd, adF, if_neg (by rw [hd]; exact h2)]
  exact ⟨.slice none 0 0, rfl, hnil, hS6.forget⟩
 have h3 := dj.1 h2
 have hc := (pX o c).1 h3
 obtain ⟨hz1, hz2⟩ := tH h0
 obtain ⟨hz3, hz4⟩ := lV hz1
 have hf := Org.aU hz3
 have hplc := uL hk.ok hz2
 have hkl := (qG hz2).2.1
 have hpl := a6H ks ks.length
 have hpl2 : (jX ks).length ≤ 896 := by unfold jX; omega
 have hpll := zA hz2
 have hplc2 : ∀ x ∈ jX ks ++ [c], pN o x = true := fun x hx => by
  rcases dE.1 hx with h | h
  ·exact hplc x h
  ·rw [dz.1 h]; exact hc
 have hpll2 : (jX ks ++ [c]).length ≤ 1024 := by rw [dm, gj]; omega
 rw [hd, h3, adF, if_pos (by rw [hd]; exact h3)]
 simp (disch := omega) only [↓RA, RZ, simprocAttr, hn, g2, hsc, h1]
 refine iC ((a3j (hS6.gl hG) kv ks (hk.aa hS6) (by omega)).tr) ?_
 rintro r H7 ⟨-, hT3⟩
 have hS7 := hS6.trans hT3
 simp only [RT] at hS7
 obtain ⟨pv, rfl⟩ : ∃ w, w = r := ⟨r, rfl⟩
 simp (disch := omega) only [↓RA, RZ, simprocAttr, hn, hsc, h1]
 refine Wp.aN jZ [(0, 4), (0, 7), (1, 4), (1, 7), (4, 0), (8, 0), (8, 4), (8, 7), (9, 0), (9, 4), (9, 7)] (by kernel_rfl) (by kernel_rfl) ?_
 simp (disch := omega) only [↓RA, RZ, simprocAttr, hn, hS7.ae 0 rfl, hS7.ae 1 rfl]
 refine iC ((a8Y pv (jX ks) (hS7.aw 4 rfl lE) (by omega)).tr) ?_
 rintro r H8 ⟨-, hT4⟩
 have hS8 := hS7.trans hT4
 simp only [RT] at hS8
 obtain ⟨qv, rfl⟩ : ∃ w, w = r := ⟨r, rfl⟩
 simp (disch := omega) only [↓RA, RZ, simprocAttr, hn, hS8.ae 2 rfl]
 refine hS8.ai [I c.1, I c.2] qO a3e rfl rfl (by simp [Value.cells]) rfl rfl (by decide) (by decide) fun w2 H9 hS9 => ?_
 simp only [RT] at hS9
 simp (disch := omega) only [↓RA, RZ, simprocAttr, hn]
 refine hS9.aq 5 rfl (hS9.rd 6 rfl) qO (by rw [show ((jX ks).flatMap jY).length = (jX ks).length * 2 from iE _]; simp only [eh, eG]; omega) fun w3 H10 hS10 => ?_
 simp only [RT] at hS10
 simp (disch := omega) only [↓RA, RZ, simprocAttr, hn]
 have happ : (jX ks).flatMap jY ++ [I c.1, I c.2] = pr (jX ks ++ [c]) := by rw [jV]; rfl
 rw [happ] at hS10
 have hS1 := hS10
 refine iC (tF o (ho.aa hS10) hf rg sv (hr.aa hS10) hz4 w3 (jX ks ++ [c]) (hS10.aw 5 rfl lE) hpll2 hplc2) ?_
 rintro r H11 ⟨hx, hT5⟩
 have hS11 := hS10.trans hT5
 simp only [RT] at hS11
 obtain ⟨av, rfl⟩ : ∃ w, w = r := ⟨r, rfl⟩
 have hx2 := hx.step (hS1.aZ (H' := H11))
 obtain ⟨X, hBX, hS12⟩ := hS11.aC (os := [⟨ptr A1 0 4, 0, _⟩, ⟨ptr A2 0 3, 0, _⟩, ⟨ptr A3 0 2, 0, _⟩, ⟨w1, 3, _⟩, ⟨pv, 2, _⟩, ⟨w3, 2, _⟩, ⟨w2, 2, _⟩])
 simp (disch := omega) only [↓RA, RZ, simprocAttr, hn, hS12.ae 0 rfl, hS12.ae 1 rfl]
 have hS2 := hS12
 refine iC (tF o (ho.aa (hS11.aj hBX hS12)) hf rg sv (hr.aa (hS11.aj hBX hS12)) hz4 pv (jX ks) (hS12.aw 4 rfl lE) hpll hplc) ?_
 rintro r H12 ⟨hy, hT6⟩
 have hS13 := hS12.trans hT6
 simp only [RT] at hS13
 obtain ⟨bv, rfl⟩ : ∃ w, w = r := ⟨r, rfl⟩
 have hx3 := hx2.step (hS13.kept hBX)
 have hy2 := hy.step (hS2.aZ (H' := H12))
 obtain ⟨Y, hBY, hS14⟩ := hS13.aC (os := [⟨ptr A1 0 4, 0, _⟩, ⟨ptr A2 0 3, 0, _⟩, ⟨ptr A3 0 2, 0, _⟩, ⟨w1, 3, _⟩, ⟨pv, 2, _⟩, ⟨w3, 2, _⟩, ⟨w2, 2, _⟩])
 have hla := uP hf rg hpll2 (oQ hplc2)
 have hlb := uP hf rg hpll (oQ hplc)
 have hsb := b2N o rg (jX ks)
 have hx4 := hx3.step (hS14.kept hBY)
 have hy3 := hy2.step (hS14.kept hBY)
 simp (disch := omega) only [↓RA, RZ, simprocAttr, hn]
 refine iC ((a5P av bv (lU o rg (jX ks ++ [c])) (lU o rg (jX ks)) hx4.1 hy3.1 (by omega) (by omega) hsb).tr) ?_
 rintro r H13 ⟨-, hT7⟩
 have hS15 := hS14.trans hT7
 simp only [RT] at hS15
 obtain ⟨gv, rfl⟩ : ∃ w, w = r := ⟨r, rfl⟩
 have hnt1 := (hS15.aw (cel := jY) 7 rfl lE).bq
 simp (disch := omega) only [↓RA, RZ, simprocAttr, hn, hS8.ae 0 rfl, hS10.ae 0 rfl, hS8.ae 1 rfl, hS10.ae 1 rfl, hS7.ae 2 rfl, hS7.ae 0 rfl, hS7.ae 1 rfl, c1x, hnt1]
 exact ⟨gv, rfl, (hS11.aj hBX (hS13.aj hBY hS15)).cm 7 rfl lE, (hS11.aj hBX (hS13.aj hBY hS15)).forget⟩
theorem b5F (o : Org) (rg : Reg) : qD o rg [] = lR o rg := by
 unfold qD
 split
 ·rename_i h
  unfold lR
  rw [if_pos h]
 ·split
  ·rfl
  ·rename_i h
   rw [if_neg (by simp), dj.1 h]
   exact kA _ _ fun j hj => absurd hj (dH _)
theorem c0L {H : Heap} : Sl 1 Kv.cells H (.slice none 0 0) [] := ⟨.inl ⟨rfl, rfl⟩, fun _ => rfl, by decide⟩
theorem a7e (o : Org) (ho : o.In H) (rg : Reg) (sv : Value) (hr : rg.In H sv) :
 Fn prog 33 [.agg #[.string o.name, o.rv, o.dv, o.cv], .agg #[sv, .int .u64 rg.cpl, .int .u64 rg.off], .slice none 0 0] H fun r H' => r = I (lR o rg) ∧ St prog H H' [] := by
 have h := a5c o ho rg sv hr (.slice none 0 0) [] c0L (by simp) (by simp)
 rw [b5F] at h
 exact h
def b3A (o : Org) (rg : Reg) (ks : List Nt) (c : Ct) : Int := vN o (adF o rg ks c)
theorem b6F {o : Org} {rg : Reg} {ks : List Nt} {c : Ct} : ∀ p ∈ adF o rg ks c, IsP o p := by
 intro p hp
 unfold adF at hp
 split at hp
 ·exact vQ (eW.1 hp).1
 ·exact absurd hp dI
theorem c1p {o : Org} (hdv : o.dvs.length ≤ 7) {rg : Reg} {ks : List Nt} {c : Ct} (hok : ∀ x ∈ ks, Nt.Ok x) : (adF o rg ks c).length ≤ 1000000 := by
 unfold adF
 split
 ·rename_i h
  refine du (a5w _ _) ?_
  have h1 : vM o rg ks = 0 := by
   unfold wJ at h
   split at h
   ·rename_i h2; exact absurd h h2
   ·rename_i h2; exact dj.1 h2
  have h2 : rG o c = 0 := by
   unfold wJ at h
   rw [if_neg (by rw [h1]; simp)] at h
   exact h
  obtain ⟨z1, z2⟩ := tH h1
  have hf := Org.aU (lV z1).1
  have hcc := (pX o c).1 h2
  have hwl : (jX ks ++ [c]).length ≤ 1024 := by
   have hkl := (qG z2).2.1
   have hd := hf.dlen
   have hpl := a6H ks ks.length
   rw [dm, gj]
   unfold jX
   omega
  exact uP hf rg hwl (oQ fun x hx => by
   rcases dE.1 hx with h | h
   ·exact uL hok z2 x h
   ·rw [dz.1 h]; exact hcc)
 ·simp
theorem a0r (hG : Glob gH H) (o : Org) (ho : o.In H) (hdv : o.dvs.length ≤ 7) (rg : Reg) (sv : Value) (hr : rg.In H sv) (kv : Value) (ks : List Nt) (hk : Ks H kv ks) (c : Ct) :
 Fn prog 21 [.agg #[.string o.name, o.rv, o.dv, o.cv], .agg #[sv, .int .u64 rg.cpl, .int .u64 rg.off], kv, .agg #[I c.1, I c.2]] H fun r H' => r = .tuple #[I (b3A o rg ks c), I (wJ o rg ks c)] ∧ St prog H H' [] := by
 have hle := c1p hdv (rg := rg) (c := c) hk.ok
 refine .cH func21 rfl (by kernel_rfl) (m := 26) rfl fun l hn g0 g1 g2 g3 => ?_
 simp (disch := omega) only [↓RA, RB, simprocAttr, g0]
 refine (sR H).eNew 4 [(.string o.name), o.rv, o.dv, o.cv] rfl rfl (by simp [OC, ((sR H).sl ho.1).cells.2.1, ((sR H).sl ho.2.2.1).cells.2.1, ((sR H).sl ho.2.2.2.2.1).cells.2.1]) lX fun A1 H1 hS1 => ?_
 simp only [RT] at hS1
 simp (disch := omega) only [↓RA, RB, simprocAttr, g1]
 refine hS1.eNew 3 [sv, (.int .u64 rg.cpl), (.int .u64 rg.off)] rfl rfl (by simp [OC, (hS1.sl hr.1).cells.2.1]) qH fun A2 H2 hS2 => ?_
 simp only [RT] at hS2
 simp (disch := omega) only [↓RA, RB, simprocAttr, g3]
 refine hS2.eNew 2 [I c.1, I c.2] rfl rfl rfl mB fun A3 H3 hS3 => ?_
 simp only [RT] at hS3
 simp (disch := omega) only [↓RA, RZ, simprocAttr, hn, g2, hS3.ae 0 rfl, hS3.ae 1 rfl, hS3.ae 2 rfl]
 refine iC (b3N (hS3.gl hG) o (ho.aa hS3) hdv rg sv (hr.aa hS3) kv ks (hk.aa hS3) c) ?_
 rintro r H4 ⟨av, rfl, hx, hT1⟩
 have hS4 := hS3.trans hT1
 simp only [RT] at hS4
 simp (disch := omega) only [↓RA, RB, simprocAttr, hn]
 refine gY (fun h1 => ?_) (fun h1 => ?_)
 ·have hs : b3A o rg ks c = 0 := by unfold b3A adF; rw [if_neg h1]; rfl
  simp (disch := omega) only [↓RA, RZ, simprocAttr, hn, c2J, h1]
  exact ⟨by rw [hs], hS4.forget⟩
 have h0 := dj.1 h1
 simp (disch := omega) only [↓RA, RZ, simprocAttr, hn, hS4.ae 0 rfl, h1]
 refine hS4.cF (a2i o (ho.aa hS4) av (adF o rg ks c) hx.1 (by omega) b6F) fun H5 hS5 => ?_
 simp (disch := omega) only [↓RA, RZ, simprocAttr, hn, c2J, h1]
 rw [h0]
 exact ⟨rfl, hS5.forget⟩
def grR (o : Org) (rg : Reg) : Ct × Int := if lR o rg = 0 then grF (rE o rg) (b9r o) (((0 : Int), (gZ o.dvs 0).lo), 0) else ((0, 0), 0)
theorem c2x (l : List Value) (H : Heap) : hK prog Tryz.f23 l H = (pB (jI prog 61) (iA prog 61) H (get l 4)).bind fun v => if (iU v && (iU (get l 5) && (iU (get l 6) && true))) = true then some (.tuple #[v, get l 5, get l 6]) else none := by
 show (Option.bind (Option.bind (lJ prog H 61 (get l 4)) fun v => some [v, get l 5, get l 6]) fun vs => _) = _
 rw [lF]
 cases pB _ _ H (get l 4) <;> rfl
theorem tR (o : Org) (ho : o.In H) (rg : Reg) (sv : Value) (hr : rg.In H sv) :
 Fn prog 23 [.agg #[.string o.name, o.rv, o.dv, o.cv], .agg #[sv, .int .u64 rg.cpl, .int .u64 rg.off]] H fun r H' => r = .tuple #[.agg #[I (grR o rg).1.1, I (grR o rg).1.2], I (grR o rg).2, I (lR o rg)] ∧ St prog H H' [] := by
 refine .aM func23 rfl (by kernel_rfl) (m := 64) rfl fun l hn g0 g1 => ?_
 simp (disch := omega) only [↓RA, RB, simprocAttr, g0]
 refine (sR H).eNew 4 [(.string o.name), o.rv, o.dv, o.cv] rfl rfl (by simp [OC, ((sR H).sl ho.1).cells.2.1, ((sR H).sl ho.2.2.1).cells.2.1, ((sR H).sl ho.2.2.2.2.1).cells.2.1]) lX fun A1 H1 hS1 => ?_
 simp only [RT] at hS1
 simp (disch := omega) only [↓RA, RB, simprocAttr, g1]
 refine hS1.eNew 3 [sv, (.int .u64 rg.cpl), (.int .u64 rg.off)] rfl rfl (by simp [OC, (hS1.sl hr.1).cells.2.1]) qH fun A2 H2 hS2 => ?_
 simp only [RT] at hS2
 simp (disch := omega) only [↓RA, RZ, simprocAttr]
 refine hS2.eNew 2 [I 0, I 0] rfl rfl rfl mB fun A3 H3 hS3 => ?_
 simp only [RT] at hS3
 simp (disch := omega) only [↓RA, RZ, simprocAttr, hn, hS3.ae 0 rfl, hS3.ae 1 rfl]
 refine hS3.cF (a7e o (ho.aa hS3) rg sv (hr.aa hS3)) fun H4 hS4 => ?_
 simp (disch := omega) only [↓RA, RB, simprocAttr, hn]
 refine gY (fun h1 => ?_) (fun h1 => ?_)
 ·have e : grR o rg = ((0, 0), 0) := by unfold grR; rw [if_neg h1]
  simp (disch := omega) only [↓RA, RZ, simprocAttr, hn, b9i, h1]
  refine hS4.ab 2 rfl [I 0, I 0] rfl rfl mB (by simp) fun H5 hS5 => ?_
  simp only [RT] at hS5
  simp (disch := omega) only [↓RA, RZ, simprocAttr, hn, c2x, hS5.ae 2 rfl, h1]
  exact ⟨by rw [e], hS5.forget⟩
 have h0 := dj.1 h1
 have hf := Org.aU (lV h0).1
 have hd := hf.dpos
 have hdl := hf.dlen
 have e : grR o rg = grF (rE o rg) (b9r o) (((0 : Int), (gZ o.dvs 0).lo), 0) := by unfold grR; rw [if_pos h0]
 simp (disch := omega) only [↓RA, RZ, simprocAttr, hn, hS4.ld 0 rfl, (hS4.sl ho.2.2.1).idx, (hS4.sl ho.2.2.1).bh, (hS4.sl ho.2.2.1).ld, Dvn.cells, h1]
 refine hS4.ab 2 rfl [I (gZ o.dvs 0).lo] rfl rfl tS3 (by simp) fun H6 hS6 => ?_
 simp only [RT] at hS6
 simp (disch := omega) only [↓RA, RZ, simprocAttr, hn, hS6.ld 0 rfl, (hS6.sl ho.2.2.1).len, h1]
 refine Wp.al (fun n l H' => l.length = 64 ∧ get l 2 = (ptr A1 0 4) ∧ get l 3 = (ptr A2 0 3) ∧ get l 4 = (ptr A3 0 2) ∧ get l 6 = I 0 ∧ get l 29 = o.dv ∧ get l 30 = I o.dvs.length ∧ ∃ (i : Nat), (n + i = o.dvs.length) ∧ get l 31 = I i ∧ get l 5 = I (grF (rE o rg) ((List.range i).flatMap (xW o)) (((0 : Int), (gZ o.dvs 0).lo), 0)).2 ∧ St prog H H' [⟨ptr A1 0 4, 0, [(.string o.name), o.rv, o.dv, o.cv]⟩, ⟨ptr A2 0 3, 0, [sv, (.int .u64 rg.cpl), (.int .u64 rg.off)]⟩, ⟨ptr A3 0 2, 0, [I (grF (rE o rg) ((List.range i).flatMap (xW o)) (((0 : Int), (gZ o.dvs 0).lo), 0)).1.1, I (grF (rE o rg) ((List.range i).flatMap (xW o)) (((0 : Int), (gZ o.dvs 0).lo), 0)).1.2]⟩]) o.dvs.length ?_ ?_
 ·simp (disch := omega) only [RB, RC, simprocAttr, hn]
  exact ⟨0, by omega, rfl, rfl, hS6⟩
 rintro n l H7 ⟨hn, g2, g3, g4, g6, g29, g30, i, hi, g31, g5, hS7⟩
 simp (disch := omega) only [↓RA, RB, simprocAttr, hn, g30, g31]
 refine gY (fun q1 => ?_) (fun q1 => ?_)
 ·have hki := hf.keys i (by omega)
  have hcn : (b1Y o i : Int) = (gZ o.dvs i).hi - (gZ o.dvs i).lo + 1 := by unfold b1Y; omega
  have hpre : a0J o i 0 = (List.range i).flatMap (xW o) := by unfold a0J; simp
  simp (disch := omega) only [↓RA, RZ, simprocAttr, hn, g29, g31, (hS7.sl ho.2.2.1).idx, (hS7.sl ho.2.2.1).ae, Dvn.cells, q1]
  refine hS7.eNew 5 [(.string ⟨#[]⟩), (.bool false), I 0, I 0, (.slice none 0 0)] rfl rfl rfl xZ fun A4 H8 hS8 => ?_
  simp only [RT] at hS8
  simp (disch := omega) only [↓RA, RZ, simprocAttr, hn, q1]
  refine hS8.ab 3 rfl [(.string (gZ o.dvs i).name), (.bool (gZ o.dvs i).pedal), I (gZ o.dvs i).lo, I (gZ o.dvs i).hi, (gZ o.dvs i).sv] rfl (by simp [OC, (hS8.sl (ho.2.2.2.1 (gZ o.dvs i) (iB (by omega))).1).cells.2.1]) xZ (by simp) fun H9 hS9 => ?_
  simp only [RT] at hS9
  simp (disch := omega) only [↓RA, RZ, simprocAttr, hn, hS9.ld 3 rfl, q1]
  refine Wp.al (fun n l H' => l.length = 64 ∧ get l 2 = (ptr A1 0 4) ∧ get l 3 = (ptr A2 0 3) ∧ get l 4 = (ptr A3 0 2) ∧ get l 6 = I 0 ∧ get l 8 = I i ∧ get l 9 = (ptr A4 0 5) ∧ get l 29 = o.dv ∧ get l 30 = I o.dvs.length ∧ get l 31 = I i ∧ ∃ (k : Nat), (n + k = b1Y o i) ∧ get l 10 = I ((gZ o.dvs i).lo + k) ∧ get l 5 = I (grF (rE o rg) (a0J o i k) (((0 : Int), (gZ o.dvs 0).lo), 0)).2 ∧ St prog H H' [⟨ptr A1 0 4, 0, [(.string o.name), o.rv, o.dv, o.cv]⟩, ⟨ptr A2 0 3, 0, [sv, (.int .u64 rg.cpl), (.int .u64 rg.off)]⟩, ⟨ptr A3 0 2, 0, [I (grF (rE o rg) (a0J o i k) (((0 : Int), (gZ o.dvs 0).lo), 0)).1.1, I (grF (rE o rg) (a0J o i k) (((0 : Int), (gZ o.dvs 0).lo), 0)).1.2]⟩, ⟨ptr A4 0 5, 0, [(.string (gZ o.dvs i).name), (.bool (gZ o.dvs i).pedal), I (gZ o.dvs i).lo, I (gZ o.dvs i).hi, (gZ o.dvs i).sv]⟩]) (b1Y o i) ?_ ?_
  ·simp (disch := omega) only [RB, RC, simprocAttr, hn, g2, g3, g4, g6, g29, g30, g31, g5]
   refine ⟨0, by omega, by simp, ?_⟩
   rw [hpre]
   exact ⟨rfl, hS9⟩
  rintro n l H10 ⟨hn, g2, g3, g4, g6, g8, g9, g29, g30, g31, k, hk, oW, g5, hS10⟩
  simp (disch := omega) only [↓RA, RZ, simprocAttr, hn, g9, oW, hS10.ld 3 rfl]
  refine gY (fun q2 => ?_) (fun q2 => ?_)
  ·have hsu : grF (rE o rg) (a0J o i (k + 1)) (((0 : Int), (gZ o.dvs 0).lo), 0) = grS (rE o rg) (grF (rE o rg) (a0J o i k) (((0 : Int), (gZ o.dvs 0).lo), 0)) (kAt o i k) := by rw [b2I, b6Z]
   unfold grS at hsu
   simp (disch := omega) only [↓RA, RZ, simprocAttr, hn, g8, oW, wW, q2]
   refine hS10.eNew 2 [I 0, I 0] rfl rfl rfl mB fun A5 H11 hS11 => ?_
   simp only [RT] at hS11
   simp (disch := omega) only [↓RA, RZ, simprocAttr, hn, q2]
   refine hS11.ab 4 rfl [I i, I ((gZ o.dvs i).lo + k)] rfl rfl mB (by simp) fun H12 hS12 => ?_
   simp only [RT] at hS12
   simp (disch := omega) only [↓RA, RZ, simprocAttr, hn, g2, g3, hS12.ae 0 rfl, hS12.ae 1 rfl, hS12.ae 4 rfl, q2]
   refine hS12.cF (a4r o (ho.aa hS12) rg sv (hr.aa hS12) (kAt o i k)) fun H13 hS13 => ?_
   simp (disch := omega) only [↓RA, RZ, simprocAttr, hn, g5, q2]
   refine gY (fun q3 => ?_) (fun q3 => ?_)
   ·simp (disch := omega) only [↓RA, RZ, simprocAttr, hn, g4, hS13.ae 4 rfl, q2, q3]
    refine hS13.ab 2 rfl [I i, I ((gZ o.dvs i).lo + k)] rfl rfl mB (by simp) fun H14 hS14 => ?_
    simp only [RT] at hS14
    simp (disch := omega) only [↓RA, RZ, simprocAttr, hn, g2, g3, g4, g6, g8, g9, g29, g30, g31, oW, q2, q3]
    rw [if_pos q3] at hsu
    refine ⟨n - 1, by omega, k + 1, by omega, by congr 1; omega, by rw [hsu], ?_⟩
    rw [hsu]
    exact hS14.pick [0, 1, 2, 3] (by decide) rfl
   simp (disch := omega) only [↓RA, RZ, simprocAttr, hn, g2, g3, g4, g6, g8, g9, g29, g30, g31, oW, g5, q2, q3]
   rw [if_neg q3] at hsu
   refine ⟨n - 1, by omega, k + 1, by omega, by congr 1; omega, by rw [hsu], ?_⟩
   rw [hsu]
   exact hS13.pick [0, 1, 2, 3] (by decide) rfl
  simp (disch := omega) only [↓RA, RZ, simprocAttr, hn, g2, g3, g4, g6, g29, g30, g31, g5, q2]
  have hkk : k = b1Y o i := by omega
  rw [hkk, a3G] at hS10
  refine ⟨o.dvs.length - (i + 1), by omega, i + 1, by omega, by simp, ?_, ?_⟩
  ·rw [hkk, a3G]
  ·exact hS10.pick [0, 1, 2] (by decide) rfl
 simp (disch := omega) only [↓RA, RZ, simprocAttr, hn, g4, g5, hS7.ae 2 rfl, q1]
 refine hS7.ab 2 rfl [I (grF (rE o rg) ((List.range i).flatMap (xW o)) (((0 : Int), (gZ o.dvs 0).lo), 0)).1.1, I (grF (rE o rg) ((List.range i).flatMap (xW o)) (((0 : Int), (gZ o.dvs 0).lo), 0)).1.2] rfl rfl mB (by simp) fun H15 hS15 => ?_
 simp only [RT] at hS15
 simp (disch := omega) only [↓RA, RZ, simprocAttr, hn, g4, c2x, hS15.ae 2 rfl, q1]
 have hii : i = o.dvs.length := by omega
 rw [h0]
 refine ⟨?_, hS15.forget⟩
 rw [hii, e]
 rfl
def a1f (o : Org) (rg : Reg) : Int := if lR o rg = 0 then vN o (lU o rg (jX (uD o))) else 0
theorem a9X (hG : Glob gH H) (o : Org) (ho : o.In H) (rg : Reg) (sv : Value) (hr : rg.In H sv) :
 Fn prog 24 [.agg #[.string o.name, o.rv, o.dv, o.cv], .agg #[sv, .int .u64 rg.cpl, .int .u64 rg.off]] H fun r H' => r = .tuple #[I (a1f o rg), I (lR o rg)] ∧ St prog H H' [] := by
 refine .aM func24 rfl (by kernel_rfl) (m := 42) rfl fun l hn g0 g1 => ?_
 simp (disch := omega) only [↓RA, RB, simprocAttr, g0]
 refine (sR H).eNew 4 [(.string o.name), o.rv, o.dv, o.cv] rfl rfl (by simp [OC, ((sR H).sl ho.1).cells.2.1, ((sR H).sl ho.2.2.1).cells.2.1, ((sR H).sl ho.2.2.2.2.1).cells.2.1]) lX fun A1 H1 hS1 => ?_
 simp only [RT] at hS1
 simp (disch := omega) only [↓RA, RB, simprocAttr, g1]
 refine hS1.eNew 3 [sv, (.int .u64 rg.cpl), (.int .u64 rg.off)] rfl rfl (by simp [OC, (hS1.sl hr.1).cells.2.1]) qH fun A2 H2 hS2 => ?_
 simp only [RT] at hS2
 simp (disch := omega) only [↓RA, RZ, simprocAttr, hn, hS2.ae 0 rfl, hS2.ae 1 rfl]
 refine hS2.cF (a7e o (ho.aa hS2) rg sv (hr.aa hS2)) fun H3 hS3 => ?_
 simp (disch := omega) only [↓RA, RB, simprocAttr, hn]
 refine gY (fun h1 => ?_) (fun h1 => ?_)
 ·have e : a1f o rg = 0 := by unfold a1f; rw [if_neg h1]
  simp (disch := omega) only [↓RA, RZ, simprocAttr, hn, c4i, h1]
  exact ⟨by rw [e], hS3.forget⟩
 have h0 := dj.1 h1
 have hoe := (lV h0).1
 have hf := Org.aU hoe
 have hdl := hf.dlen
 simp (disch := omega) only [↓RA, RZ, simprocAttr, hn, hS3.ld 0 rfl, (hS3.sl ho.2.2.1).len, h1]
 have hS4 := hS3.nil 1
 simp only [RT] at hS4
 refine Wp.al (fun n l H' => l.length = 42 ∧ get l 2 = (ptr A1 0 4) ∧ get l 3 = (ptr A2 0 3) ∧ get l 4 = I 0 ∧ get l 5 = I 0 ∧ get l 19 = o.dv ∧ get l 20 = I o.dvs.length ∧ ∃ (i : Nat) (ov : Value), (n + i = o.dvs.length) ∧ get l 21 = I i ∧ get l 7 = ov ∧ St prog H H' [⟨ptr A1 0 4, 0, [(.string o.name), o.rv, o.dv, o.cv]⟩, ⟨ptr A2 0 3, 0, [sv, (.int .u64 rg.cpl), (.int .u64 rg.off)]⟩, ⟨ov, 2, ((o.dvs.take i).map fun d => qX d.lo d.hi).flatMap ntc⟩]) o.dvs.length ?_ ?_
 ·simp (disch := omega) only [RB, RC, simprocAttr, hn]
  exact ⟨0, .slice none 0 0, by omega, rfl, rfl, hS4⟩
 rintro n l H4 ⟨hn, g2, g3, g4, g5, g19, g20, i, ov, hi, g21, g7, hS5⟩
 simp (disch := omega) only [↓RA, RB, simprocAttr, hn, g20, g21]
 refine gY (fun q1 => ?_) (fun q1 => ?_)
 ·have hki := hf.keys i (by omega)
  simp (disch := omega) only [↓RA, RZ, simprocAttr, hn, g19, g21, (hS5.sl ho.2.2.1).idx, (hS5.sl ho.2.2.1).ae, Dvn.cells, q1]
  refine hS5.eNew 5 [(.string ⟨#[]⟩), (.bool false), I 0, I 0, (.slice none 0 0)] rfl rfl rfl xZ fun A3 H5 hS6 => ?_
  simp only [RT] at hS6
  simp (disch := omega) only [↓RA, RZ, simprocAttr, hn, q1]
  refine hS6.ab 3 rfl [(.string (gZ o.dvs i).name), (.bool (gZ o.dvs i).pedal), I (gZ o.dvs i).lo, I (gZ o.dvs i).hi, (gZ o.dvs i).sv] rfl (by simp [OC, (hS6.sl (ho.2.2.2.1 (gZ o.dvs i) (iB (by omega))).1).cells.2.1]) xZ (by simp) fun H6 hS7 => ?_
  simp only [RT] at hS7
  simp (disch := omega) only [↓RA, RZ, simprocAttr, hn, hS7.ae 3 rfl, q1]
  refine hS7.cF (a3A (gZ o.dvs i).lo (gZ o.dvs i).hi hki.1 hki.2.1 hki.2.2) fun H7 hS8 => ?_
  simp (disch := omega) only [↓RA, RZ, simprocAttr, hn, q1]
  refine hS8.eNew 2 [(.int .u64 0), (.int .u64 0)] rfl rfl rfl mT fun A4 H8 hS9 => ?_
  simp only [RT] at hS9
  simp (disch := omega) only [↓RA, RZ, simprocAttr, hn, q1]
  refine hS9.ab 4 rfl [(.int .u64 (qX (gZ o.dvs i).lo (gZ o.dvs i).hi).1), (.int .u64 (qX (gZ o.dvs i).lo (gZ o.dvs i).hi).2)] rfl rfl mT (by simp) fun H9 hS10 => ?_
  simp only [RT] at hS10
  simp (disch := omega) only [↓RA, RZ, simprocAttr, hn, g7, hS10.ae 4 rfl, q1]
  refine hS10.ai [(.int .u64 (qX (gZ o.dvs i).lo (gZ o.dvs i).hi).1), (.int .u64 (qX (gZ o.dvs i).lo (gZ o.dvs i).hi).2)] a7v b5w rfl rfl (by simp [Value.cells]) rfl rfl (by decide) (by decide) fun w1 H10 hS11 => ?_
  simp only [RT] at hS11
  simp (disch := omega) only [↓RA, RZ, simprocAttr, hn, q1]
  refine hS11.aq 2 rfl (hS11.rd 5 rfl) a7v (by rw [iN (n := 2) (cel := ntc) (fun _ => rfl), dR, fV]; simp; omega) fun w2 H11 hS12 => ?_
  simp only [RT] at hS12
  simp (disch := omega) only [↓RA, RZ, simprocAttr, hn, g2, g3, g4, g5, g19, g20, g21, q1]
  refine ⟨n - 1, by omega, i + 1, w2, by omega, by simp, rfl, ?_⟩
  rw [rD o.dvs i (by omega), dL, dN]
  exact hS12.pick [0, 1, 2] (by decide) rfl
 have hii : i = o.dvs.length := by omega
 subst hii
 simp (disch := omega) only [↓RA, RZ, simprocAttr, hn, g2, g3, g7, hS5.ae 0 rfl, hS5.ae 1 rfl, q1]
 have hfu : Sl 2 ntc H4 ov (uD o) := by have h := hS5.aw (cel := ntc) 2 rfl (fun _ => rfl); rw [dT] at h; exact h
 refine hS5.cF (zS (hS5.gl hG) o (ho.aa hS5) rg sv (hr.aa hS5) ov (uD o) ⟨hfu, by rw [zN]; omega, b5v hf⟩) fun H12 hS13 => ?_
 have hrk : vM o rg (uD o) = 0 := by unfold vM; rw [if_neg (by rw [h0]; simp)]; exact b8X hoe
 have he : tB o rg (uD o) = a1f o rg := by unfold tB a1f nE; rw [if_pos hrk, if_pos h0]
 simp (disch := omega) only [↓RA, RZ, simprocAttr, hn, c4i, q1]
 rw [hrk, he, h0]
 exact ⟨rfl, hS13.forget⟩
end Go.Ds
namespace Go.Ds
open Go.Proofs Go.Proofs.Tryz
variable {H : Heap}
set_option maxRecDepth 100000
set_option maxHeartbeats 1000000
def b0p (r : Rs) (n : Int) : Bool := match r with
 | .ok (.tuple vs) _ => (match vs.toList with
   | [.int .u64 a, .int .u64 b] => decide (a = 0) && decide (b = n)
   | _ => false)
 | .th (.tuple vs) _ => (match vs.toList with
   | [.int .u64 a, .int .u64 b] => decide (a = 0) && decide (b = n)
   | _ => false)
 | _ => false
theorem c1m : (sS prog [32, 54, 55] .e fun T => [(25 : Int)].all fun n => b0p (mG T (exF prog T 4000) [] (kL 32) [.int .u64 1, .int .u64 n] gH) n) = true := by kernel_rfl
theorem b5O {T : LT} (hT : TOk prog T) {k : FuncId} {args : List Value} {n : Int} (h : b0p (mG T (exF prog T 4000) [] (kL k) args gH) n = true) : Fn prog k args gH fun r _ => r = .tuple #[.int .u64 0, .int .u64 n] := by
 have hv : ∀ (vs : Array Value), (match vs.toList with
  | [.int .u64 a, .int .u64 b] => decide (a = 0) && decide (b = n)
  | _ => false) = true → Value.tuple vs = .tuple #[.int .u64 0, .int .u64 n] := by
  intro vs h
  split at h
  ·rename_i a b e
   rw [cT, decide_eq_true_eq, decide_eq_true_eq] at h
   obtain ⟨rfl, rfl⟩ := h
   congr 1
   exact gD e
  ·cases h
 unfold b0p at h
 split at h
 ·rename_i vs H1 e
  rw [← hv vs h]
  exact lT hT (.inl e)
 ·rename_i vs H1 e
  rw [← hv vs h]
  exact lT hT (.inr e)
 ·cases h
theorem b5T (hG : Glob gH H) : Fn prog 32 [.int .u64 1, .int .u64 25] H fun r H' => r = .tuple #[.int .u64 0, .int .u64 25] ∧ St prog H H' [] := by
 obtain ⟨T, hT, h⟩ := qL (ps := [(25 : Int)]) (f := fun T n => b0p (mG T (exF prog T 4000) [] (kL 32) [.int .u64 1, .int .u64 n] gH) n) c1m
 exact rI (by simp [flat, iY, iT]) rfl (b5O hT (h 25 (by simp))) hG
theorem qR (c z : Value) : ∀ (m x n : Nat), x + m ≤ n → iV (List.replicate x c ++ List.replicate (n - x) z) x (List.replicate m c) = List.replicate (x + m) c ++ List.replicate (n - (x + m)) z := by
 intro m x n h
 have e : List.replicate (n - x) z = List.replicate m z ++ List.replicate (n - (x + m)) z := by
  rw [List.replicate_append_replicate]; congr 1; omega
 have := mP (List.replicate m c) (List.replicate x c) (List.replicate (n - x) z) (by simp; omega)
 rw [eL] at this
 rw [this, List.replicate_append_replicate]
 congr 1
 simp
 omega
theorem a9F {H : Heap} {v : Value} {cs : List Value} (h : RdAt H v 1 cs) (h0 : cs ≠ []) : mM v 1 0 cs.length = v := by
 rcases h with ⟨rfl, rfl⟩ | ⟨A, i, e, row, ty, rw, lo', ver, n, h1, h2, h3, h4, h5, h6, rfl⟩
 ·exact (h0 rfl).elim
 ·simp [mM, h6]
theorem St.cj {P : Program} {H0 : Base} {os : List Ob} (hS : St P H0 H os) (i : Nat) {v : Value} {cs : List Value} (ho : os[i]? = some ⟨v, 1, cs⟩) {x : Value} {ys : List Value} (hx : RdAt H x 1 ys) (h0 : 0 < cs.length) (hy : 0 < ys.length) {t : TypeId} (ht : iP P t = some 1) {K : Value → Heap → Prop}
 (h : ∀ H1, St P H0 H1 (os.set i ⟨v, 1, iV cs 0 (ys.take (min ys.length cs.length))⟩) → K (.int .i64 ((min ys.length cs.length : Nat) : Int)) H1) : a3n P H t v x K := by
 have e := a9F (hS.rd (size := 0) i ho) (by intro e; simp [e] at h0)
 have := hS.bK i ho hx 0 cs.length (by omega) h0 hy ht h
 rwa [e] at this
theorem a2o (hG : Glob gH H) {c : Int} (v : Value) (hv : Sl 1 (one I) H v [c]) : Fn prog 28 [v, I 25] H fun r H' => St prog H H' [⟨r, 1, List.replicate 25 (I c)⟩] := by
 have h1 : (([c] : List Int).length : Int) = 1 := rfl
 refine .aM func28 rfl (by kernel_rfl) (m := 48) rfl fun l hn g0 g1 => ?_
 simp (disch := omega) only [↓RA, RZ, simprocAttr, hn, g0, g1, ((sR H).sl hv).len]
 refine (sR H).cF (b5T ((sR H).gl hG)) fun H1 hS1 => ?_
 simp (disch := omega) only [↓RA, RZ, simprocAttr, hn]
 refine hS1.bJ 25 c4u (by omega) fun w H2 hS2 => ?_
 simp only [RT] at hS2
 simp (disch := omega) only [↓RA, RB, simprocAttr, hn, g0]
 refine hS2.cj 0 rfl (hS2.sl hv).rd (by simp) (by simp [one]) c1k fun H3 hS3 => ?_
 have e1 : min ([c].flatMap (one I)).length (List.replicate 25 (Value.int .i64 0)).length = 1 := by simp [one]
 rw [e1] at hS3 ⊢
 have e2 := qR (I c) (.int .i64 0) 1 0 25 (by omega)
 simp only [List.replicate_zero, eV, Nat.sub_zero, fL] at e2
 have hS4 : St prog H H3 [⟨w, 1, List.replicate 1 (I c) ++ List.replicate (25 - 1) (.int .i64 0)⟩] := by
  rw [← e2]
  exact hS3
 simp (disch := omega) only [↓RA, RB, simprocAttr, hn]
 have e3 : ∀ x : Nat, List.replicate x (I c) ++ List.replicate (25 - x) (.int .i64 0) = (List.replicate x (c : Int) ++ List.replicate (25 - x) 0).flatMap (one I) := fun x => by
  rw [nZ, dL, List.map_replicate, List.map_replicate]
 refine Wp.al (fun n l H' => l.length = 48 ∧ get l 4 = (.slice none 0 0) ∧ ∃ (x : Nat), (n + x = 25 ∧ 1 ≤ x) ∧ get l 8 = I x ∧ get l 7 = w ∧ St prog H H' [⟨w, 1, (List.replicate x (c : Int) ++ List.replicate (25 - x) 0).flatMap (one I)⟩]) 24 ?_ ?_
 ·simp (disch := omega) only [RB, RC, simprocAttr, hn]
  rw [e3] at hS4
  exact ⟨1, ⟨by omega, by omega⟩, rfl, hS4⟩
 rintro n l H2 ⟨hn, g4, x, ⟨hx,hx1⟩, g8, g7, hS2⟩
 have hln : (List.replicate x (c : Int) ++ List.replicate (25 - x) 0).length = 25 := by simp; omega
 simp (disch := omega) only [↓RA, RZ, simprocAttr, hn, g8, g7, (hS2.aw 0 rfl (fun _ => rfl)).len, hln]
 refine gY (fun q1 => ?_) (fun q1 => ?_)
 ·simp (disch := omega) only [↓RA, RC, simprocAttr, q1]
  refine Wp.drw jZ (by kernel_rfl) ?_
  simp (disch := omega) only [↓RA, RZ, simprocAttr, hn, g8, g7, (hS2.aw 0 rfl (fun _ => rfl)).aS, (hS2.aw 0 rfl (fun _ => rfl)).aT, hln]
  have hxt : ((25 : Int) - (x : Int)).toNat = 25 - x := by omega
  rw [hxt]
  have hlc : ((List.replicate x (c : Int) ++ List.replicate (25 - x) 0).flatMap (one I)).length = 25 := by rw [nZ, dR, hln]
  have hrd := hS2.rd 0 rfl
  have hsub := hrd.sub 0 x (by rw [hlc]; omega) (by intro e; rw [e] at hlc; simp at hlc)
  have e5 : (((List.replicate x (c : Int) ++ List.replicate (25 - x) 0).flatMap (one I)).drop (0 * (0 + 1))).take (x * (0 + 1)) = List.replicate x (I c) := by
   rw [← e3]
   simp []
  rw [e5] at hsub
  refine hS2.bK 0 rfl hsub x (25 - x) (by rw [hlc]; omega) (by omega) (by simp; omega) c1k fun H4 hS5 => ?_
  have e6 : (List.replicate x (I c)).take (min (List.replicate x (I c)).length (25 - x)) = List.replicate (min x (25 - x)) (I c) := by simp
  rw [e6] at hS5
  have e7 : min (List.replicate x (I c)).length (25 - x) = min x (25 - x) := by simp
  rw [e7]
  have e8 := qR (I c) (.int .i64 0) (min x (25 - x)) x 25 (by omega)
  have hS6 : St prog H H4 [⟨w, 1, (List.replicate (x + min x (25 - x)) (c : Int) ++ List.replicate (25 - (x + min x (25 - x))) 0).flatMap (one I)⟩] := by
   rw [← e3, ← e8, e3]
   exact hS5
  simp (disch := omega) only [↓RA, RZ, simprocAttr, hn, g4, g7]
  exact ⟨25 - (x + min x (25 - x)), by omega, x + min x (25 - x), ⟨by omega, by omega⟩, by simp, hS6⟩
 simp (disch := omega) only [↓RA, RZ, simprocAttr, hn, g7, c4T, q1]
 have e : x = 25 := by omega
 subst e
 have hfin : ((List.replicate 25 (c : Int) ++ List.replicate (25 - 25) 0).flatMap (one I)) = List.replicate 25 (I c) := by rw [← e3]; rfl
 have h9 := hS2
 rw [hfin] at h9
 exact h9
end Go.Ds
namespace Go.Ds
open Go.Proofs
variable {H : Heap}
set_option maxRecDepth 10000
set_option maxHeartbeats 1000000
section
variable (w1 w2 w3 w4 w5 w6 w7 : Value)
def a7E (x : Int × Int) : List (Int × Int) → List (Int × Int)
 | [] => [x]
 | y :: l => if le2 x y then x :: y :: l else y :: a7E x l
def a2G : List (Int × Int) → List (Int × Int)
 | [] => []
 | x :: l => a7E x (a2G l)
theorem yP (x : Int × Int) : ∀ l, (a7E x l).Perm (x :: l)
 | [] => .refl _
 | y :: l => by
   unfold a7E
   split
   ·exact .refl _
   ·exact ((yP x l).cons y).trans (.swap ..)
theorem a3i : ∀ l, (a2G l).Perm l
 | [] => .refl _
 | x :: l => (yP x _).trans ((a3i l).cons x)
theorem b0Y (x y : Int × Int) : le2 x y = false → le2 y x = true := by
 intro h
 rw [← eI] at h
 rw [nX] at h ⊢
 omega
theorem a0m (x : Int × Int) : ∀ l : List (Int × Int), l.Pairwise (fun a b => le2 a b = true) → (a7E x l).Pairwise fun a b => le2 a b = true
 | [], _ => by simp [a7E]
 | y :: l, h => by
   have h1 := List.pairwise_cons.1 h
   unfold a7E
   split
   ·rename_i hxy
    refine List.pairwise_cons.2 ⟨fun z hz => ?_, h⟩
    rcases dP.1 hz with rfl | hz
    ·exact hxy
    ·have h2 := h1.1 z hz
     rw [nX] at *
     omega
   ·rename_i hxy
    refine List.pairwise_cons.2 ⟨fun z hz => ?_, a0m x l h1.2⟩
    rcases dP.1 ((yP x l).mem_iff.1 hz) with rfl | hz
    ·exact b0Y _ _ (by simpa using hxy)
    ·exact h1.1 z hz
theorem a0n : ∀ l : List (Int × Int), (a2G l).Pairwise fun a b => le2 a b = true
 | [] => .nil
 | x :: l => a0m x _ (a0n l)
theorem c0m : uV = a2G := by
 funext l
 refine List.Perm.eq_of_pairwise (le := fun a b => le2 a b = true) (fun a b _ _ h1 h2 => ?_) (wD l) (a0n l) ((nP l).trans (a3i l).symm)
 rw [nX] at h1 h2
 exact gO (by omega) (by omega)
def b3P (s : List Ct → List Ct) (o : Org) (r : Reg) (l : List Ct) : List Ct := dd (s (l.filter (fun c => !r.off.testBit c.1.toNat) ++ bfs o r.cpl 1100 0 (oC o r.cpl l)))
def c0R (s : List Ct → List Ct) (rs : List Rk) (p : Stp) (key : Int) : List Ct := dd (s (((a8y p key).filter fun d => yJ rs d key).map fun d => nV rs d key))
def b4p (s : List Ct → List Ct) (o : Org) (r : Reg) (c : Ct) : List Ct := (List.range (gZ o.dvs c.1.toNat).stops.length).flatMap fun i => if (gZ r.stops c.1.toNat).testBit i then c0R s o.ranks (gZ (gZ o.dvs c.1.toNat).stops i) c.2 else []
end
end Go.Ds
namespace Go.Ds
open Go.Proofs Go.Proofs.Tryz
variable {H : Heap}
set_option maxRecDepth 10000
set_option maxHeartbeats 1000000
theorem a3a (hG : Glob gH H) (s : ByteArray) : Fn prog 48 [.string s] H fun r H' => ∃ wv, r = .agg #[.string s, .string ⟨#[102, 108, 117, 116, 101]⟩, I 8, I 1, I 36, wv] ∧ St prog H H' [⟨wv, 1, List.replicate 25 (I 1)⟩] := by
 refine .aR func48 rfl (by kernel_rfl) (m := 8) rfl fun l hn g0 => ?_
 simp (disch := omega) only [↓RA, RZ, simprocAttr]
 refine (sR H).eNew 6 [(.string ⟨#[]⟩), (.string ⟨#[]⟩), I 0, I 0, I 0, (.slice none 0 0)] rfl rfl rfl a0Q fun A1 H1 hS1 => ?_
 simp only [RT] at hS1
 simp (disch := omega) only [↓RA, RB, simprocAttr, g0, xK]
 refine hS1.ai [I 1] uY a0G rfl rfl (by simp [Value.cells]) rfl rfl (by decide) (by decide) fun w1 H2 hS2 => ?_
 simp only [RT] at hS2
 simp (disch := omega) only [↓RA, RZ, simprocAttr, hn]
 refine iC ((a2o (hS2.gl hG) w1 (hS2.aw 1 rfl (fun _ => rfl))).tr) ?_
 rintro r H3 ⟨-, hT1⟩
 have hS3 := hS2.trans hT1
 simp only [RT] at hS3
 obtain ⟨wv, rfl⟩ : ∃ w, w = r := ⟨r, rfl⟩
 simp (disch := omega) only [↓RA, RB, simprocAttr, hn, a2g (hS3.rd 2 rfl).cells]
 refine hS3.ab 0 rfl [(.string s), (.string ⟨#[102, 108, 117, 116, 101]⟩), I 8, I 1, I 36, wv] rfl (by simp [OC, (hS3.rd 2 rfl).cells.2.1]) a0Q (by simp) fun H4 hS4 => ?_
 simp only [RT] at hS4
 simp (disch := omega) only [↓RA, RZ, simprocAttr, hn, c5I, hS4.ae 0 rfl]
 exact ⟨wv, rfl, hS4.pick [2] (by decide) rfl⟩
theorem a3K (n feet shift : Int) : Fn prog 47 [I n, I feet, I shift] H fun r H' => ∃ dv gv, St prog H H' [⟨dv, 2, [I n, I shift]⟩, ⟨gv, 3, [I 36, I 48, dv]⟩, ⟨r, 4, [.string ⟨#[97]⟩, I feet, I 1, gv]⟩] := by
 refine .bk func47 rfl (by kernel_rfl) (m := 17) rfl fun l hn g0 g1 g2 => ?_
 simp (disch := omega) only [↓RA, RB, simprocAttr, hn, g0, g1, g2, xK, pU]
 refine (sR H).ai [I n, I shift] a3J a3r rfl rfl (by simp [Value.cells]) rfl rfl (by decide) (by decide) fun w1 H1 hS1 => ?_
 simp only [RT] at hS1
 simp (disch := omega) only [↓RA, RB, simprocAttr, hn, lC (hS1.rd 0 rfl).cells]
 refine hS1.ai [I 36, I 48, w1] pG vA rfl rfl (by first | (simp []; done) | simp [Value.cells]) (by first | (simp []; done) | simp [Value.cells]) (by simp [OC, (hS1.rd 0 rfl).cells.2.1]) (by decide) (by decide) fun w2 H2 hS2 => ?_
 simp only [RT] at hS2
 simp (disch := omega) only [↓RA, RB, simprocAttr, hn, a7r (hS2.rd 1 rfl).cells]
 refine hS2.ai [(.string ⟨#[97]⟩), I feet, I 1, w2] c0n c4p rfl rfl (by first | (simp []; done) | simp [Value.cells]) (by first | (simp []; done) | simp [Value.cells]) (by simp [OC, (hS2.rd 1 rfl).cells.2.1]) (by decide) (by decide) fun w3 H3 hS3 => ?_
 simp only [RT] at hS3
 simp (disch := omega) only [↓RA, RB, simprocAttr, hn, c5Q]
 exact ⟨w1, w2, hS3⟩
section
variable (w1 w2 d1 g1 s1 d2 g2 s2 w3 w4 w5 : Value)
end
def zK (c1 c2 : Int) (w1 w2 : Value) : List Rk := [⟨⟨#[114]⟩, ⟨#[102, 108, 117, 116, 101]⟩, 8, 1, 36, w1, List.replicate 25 c1⟩, ⟨⟨#[115]⟩, ⟨#[102, 108, 117, 116, 101]⟩, 8, 1, 36, w2, List.replicate 25 c2⟩]
def b5Q (d1 g1 s1 d2 g2 s2 : Value) : List Dvn := [⟨⟨#[111, 110, 101]⟩, false, 36, 48, s1, [⟨⟨#[97]⟩, 8, 1, g1, [⟨36, 48, d1, [⟨0, 0⟩]⟩]⟩]⟩, ⟨⟨#[116, 119, 111]⟩, false, 36, 48, s2, [⟨⟨#[97]⟩, 4, 1, g2, [⟨36, 48, d2, [⟨1, 12⟩]⟩]⟩]⟩]
def b7N : List Cpl := [⟨⟨#[99]⟩, 0, 1, 0, false⟩]
def exW (c1 c2 : Int) (w1 w2 d1 g1 s1 d2 g2 s2 w3 w4 w5 : Value) : Org := ⟨⟨#[101]⟩, w3, zK c1 c2 w1 w2, w4, b5Q d1 g1 s1 d2 g2 s2, w5, b7N⟩
theorem a6w (hG : Glob gH H) : Fn prog 27 [] H fun r H' => ∃ w1 w2 d1 g1 s1 d2 g2 s2 w3 w4 w5, r = .agg #[.string ⟨#[101]⟩, w3, w4, w5] ∧ St prog H H' [⟨w1, 1, (List.replicate 25 (1 : Int)).flatMap (one I)⟩, ⟨w2, 1, (List.replicate 25 (1 : Int)).flatMap (one I)⟩,
 ⟨d1, 2, [(⟨0, 0⟩ : Drw)].flatMap Drw.cells⟩, ⟨g1, 3, [(⟨36, 48, d1, [⟨0, 0⟩]⟩ : Seg)].flatMap Seg.cells⟩, ⟨s1, 4, [(⟨⟨#[97]⟩, 8, 1, g1, [⟨36, 48, d1, [⟨0, 0⟩]⟩]⟩ : Stp)].flatMap Stp.cells⟩,
 ⟨d2, 2, [(⟨1, 12⟩ : Drw)].flatMap Drw.cells⟩, ⟨g2, 3, [(⟨36, 48, d2, [⟨1, 12⟩]⟩ : Seg)].flatMap Seg.cells⟩, ⟨s2, 4, [(⟨⟨#[97]⟩, 4, 1, g2, [⟨36, 48, d2, [⟨1, 12⟩]⟩]⟩ : Stp)].flatMap Stp.cells⟩,
 ⟨w3, 6, (zK 1 1 w1 w2).flatMap Rk.cells⟩, ⟨w4, 5, (b5Q d1 g1 s1 d2 g2 s2).flatMap Dvn.cells⟩, ⟨w5, 5, b7N.flatMap Cpl.cells⟩] := by
 refine .cM func27 rfl (by kernel_rfl) (m := 19) rfl fun l hn => ?_
 simp (disch := omega) only [↓RA, RZ, simprocAttr]
 refine (sR H).eNew 4 [(.string ⟨#[]⟩), (.slice none 0 0), (.slice none 0 0), (.slice none 0 0)] rfl rfl rfl lX fun A1 H1 hS1 => ?_
 simp only [RT] at hS1
 simp (disch := omega) only [↓RA, RZ, simprocAttr, a7c]
 refine hS1.eNew 2 [I 0, I 0] rfl rfl rfl a0F fun A2 H2 hS2 => ?_
 simp only [RT] at hS2
 simp (disch := omega) only [↓RA, RB, simprocAttr, hn]
 refine hS2.ab 1 rfl [I 36, I 48] rfl rfl a0F (by simp) fun H3 hS3 => ?_
 simp only [RT] at hS3
 simp (disch := omega) only [↓RA, RB, simprocAttr]
 refine Wp.cg jZ [0, 1, 4, 5, 8, 9, 2, 3, 6, 7, 10, 11, 12, 13, 14, 15] [0, 1, 6, 7, 2, 3, 8, 9, 4, 5, 10, 11, 12, 13, 14, 15] ⟨true, [35], []⟩ [(7, 0), (7, 1), (7, 2), (7, 4), (7, 6), (9, 0), (9, 1), (9, 2), (9, 4), (9, 6)] (by kernel_rfl) (by kernel_rfl) (by kernel_rfl) ?_
 simp (disch := omega) only [↓RA, RZ, simprocAttr]
 refine iC (a3a (hS3.gl hG) _) ?_
 rintro r H4 ⟨wv1, rfl, hT1⟩
 have hS4 := hS3.trans hT1
 simp only [RT] at hS4
 simp (disch := omega) only [↓RA, RZ, simprocAttr]
 refine iC (a3a (hS4.gl hG) _) ?_
 rintro r H5 ⟨wv2, rfl, hT2⟩
 have hS5 := hS4.trans hT2
 simp only [RT] at hS5
 simp (disch := omega) only [↓RA, RZ, simprocAttr, hn]
 refine iC (a3K 0 8 0) ?_
 rintro r H6 ⟨d1, g1, hT3⟩
 have hS6 := hS5.trans hT3
 simp only [RT] at hS6
 obtain ⟨s1, rfl⟩ : ∃ w, w = r := ⟨r, rfl⟩
 simp (disch := omega) only [↓RA, RZ, simprocAttr, hn]
 refine iC (a3K 1 4 12) ?_
 rintro r H7 ⟨d2, g2, hT4⟩
 have hS7 := hS6.trans hT4
 simp only [RT] at hS7
 obtain ⟨s2, rfl⟩ : ∃ w, w = r := ⟨r, rfl⟩
 simp (disch := omega) only [↓RA, RB, simprocAttr, hn]
 refine hS7.ai [(.string ⟨#[114]⟩), (.string ⟨#[102, 108, 117, 116, 101]⟩), I 8, I 1, I 36, wv1, (.string ⟨#[115]⟩), (.string ⟨#[102, 108, 117, 116, 101]⟩), I 8, I 1, I 36, wv2] c0W c2h rfl rfl (by first | (simp []; done) | simp [Value.cells]) (by first | (simp []; done) | simp [Value.cells]) (by simp [OC, (hS7.rd 2 rfl).cells.2.1, (hS7.rd 3 rfl).cells.2.1]) (by decide) (by decide) fun w1 H8 hS8 => ?_
 simp only [RT] at hS8
 simp (disch := omega) only [↓RA, RZ, simprocAttr, hn, hS8.ae 1 rfl, a1z (hS8.rd 6 rfl).cells, a1z (hS8.rd 9 rfl).cells]
 refine hS8.ai [(.string ⟨#[111, 110, 101]⟩), (.bool false), I 36, I 48, s1, (.string ⟨#[116, 119, 111]⟩), (.bool false), I 36, I 48, s2] c1t c3l rfl rfl (by first | (simp []; done) | simp [Value.cells]) (by first | (simp []; done) | simp [Value.cells]) (by simp [OC, (hS8.rd 6 rfl).cells.2.1, (hS8.rd 9 rfl).cells.2.1]) (by decide) (by decide) fun w2 H9 hS9 => ?_
 simp only [RT] at hS9
 simp (disch := omega) only [↓RA, RB, simprocAttr, hn, a7m]
 refine hS9.ai [(.string ⟨#[99]⟩), I 0, I 1, I 0, (.bool false)] a9v b7Z rfl rfl (by simp [Value.cells]) rfl rfl (by decide) (by decide) fun w3 H10 hS10 => ?_
 simp only [RT] at hS10
 simp (disch := omega) only [↓RA, RB, simprocAttr, hn, a4E (hS10.rd 10 rfl).cells (hS10.rd 11 rfl).cells (hS10.rd 12 rfl).cells]
 refine hS10.ab 0 rfl [(.string ⟨#[101]⟩), w1, w2, w3] rfl (by simp [OC, (hS10.rd 10 rfl).cells.2.1, (hS10.rd 11 rfl).cells.2.1, (hS10.rd 12 rfl).cells.2.1]) lX (by simp) fun H11 hS11 => ?_
 simp only [RT] at hS11
 simp (disch := omega) only [↓RA, RZ, simprocAttr, hn, hS3.ae 1 rfl, hS4.ae 1 rfl, hS5.ae 1 rfl, hS6.ae 1 rfl, hS7.ae 1 rfl, c5l, hS11.ae 0 rfl]
 exact ⟨wv1, wv2, d1, g1, s1, d2, g2, s2, w1, w2, w3, rfl, hS11.pick [2, 3, 4, 5, 6, 7, 8, 9, 10, 11, 12] (by decide) rfl⟩
section
variable (w1 w2 d1 g1 s1 d2 g2 s2 w3 w4 w5 : Value)
theorem a4v : lR (exW 7 2 w1 w2 d1 g1 s1 d2 g2 s2 w3 w4 w5) ⟨[1, 1], 1, 0⟩ = 0 := by kernel_rfl
theorem b4Y : lS (exW 7 2 w1 w2 d1 g1 s1 d2 g2 s2 w3 w4 w5) [jN [40, 41], (0, 0)] = 0 := by kernel_rfl
theorem a8O : vM (exW 7 2 w1 w2 d1 g1 s1 d2 g2 s2 w3 w4 w5) ⟨[1, 1], 1, 0⟩ [jN [40, 41], (0, 0)] = 0 := by
 unfold vM
 rw [a4v, if_neg (by decide), b4Y]
end
def rkS (o : Org) (acc : List Int) (p : Ct) : List Int := acc.set p.1.toNat (tD (gZ acc p.1.toNat + a2p o p))
def rkF (o : Org) (ps : List Ct) : List Int := ps.foldl (rkS o) (List.replicate o.ranks.length 0)
theorem b0Q (o : Org) : ∀ (ps : List Ct) (acc : List Int), (ps.foldl (rkS o) acc).length = acc.length
 | [], _ => rfl
 | p :: ps, acc => by
   rw [eU, b0Q o ps]
   unfold rkS
   rw [gC]
theorem b8s (o : Org) (ps : List Ct) : (rkF o ps).length = o.ranks.length := by unfold rkF; rw [b0Q, eL]
theorem b5f (o : Org) (ps : List Ct) (i : Nat) (h : i < ps.length) : rkF o (ps.take (i + 1)) = rkS o (rkF o (ps.take i)) (gZ ps i) := by
 unfold rkF
 rw [lB ps i h, fj]
 rfl
theorem b5W (acc : List Int) (e : Nat) (x : Int) : ((acc.flatMap (one I)).set e (I x)) = (acc.set e x).flatMap (one I) := by
 rw [nZ, nZ, gM]
def byF (o : Org) (rg : Reg) (ks : List Nt) : List Int := if vM o rg ks = 0 then rkF o (nE o rg ks) else []
theorem a0c (hG : Glob gH H) (o : Org) (ho : o.In H) (rg : Reg) (sv : Value) (hr : rg.In H sv) (kv : Value) (ks : List Nt) (hk : Ks H kv ks) :
 Fn prog 19 [.agg #[.string o.name, o.rv, o.dv, o.cv], .agg #[sv, .int .u64 rg.cpl, .int .u64 rg.off], kv] H fun r H' => ∃ v, r = .tuple #[v, I (vM o rg ks)] ∧ St prog H H' [⟨v, 1, (byF o rg ks).flatMap (one I)⟩] := by
 have hle := b4N (o := o) (rg := rg) hk.ok
 refine .bk func19 rfl (by kernel_rfl) (m := 53) rfl fun l hn g0 g1 g2 => ?_
 simp (disch := omega) only [↓RA, RB, simprocAttr, g0]
 refine (sR H).eNew 4 [(.string o.name), o.rv, o.dv, o.cv] rfl rfl (by simp [OC, ((sR H).sl ho.1).cells.2.1, ((sR H).sl ho.2.2.1).cells.2.1, ((sR H).sl ho.2.2.2.2.1).cells.2.1]) lX fun A1 H1 hS1 => ?_
 simp only [RT] at hS1
 simp (disch := omega) only [↓RA, RB, simprocAttr, g1]
 refine hS1.eNew 3 [sv, (.int .u64 rg.cpl), (.int .u64 rg.off)] rfl rfl (by simp [OC, (hS1.sl hr.1).cells.2.1]) qH fun A2 H2 hS2 => ?_
 simp only [RT] at hS2
 simp (disch := omega) only [↓RA, RZ, simprocAttr, hn, g2, hS2.ae 0 rfl, hS2.ae 1 rfl]
 have hS1 := hS2
 refine iC (a0v (hS2.gl hG) o (ho.aa hS2) rg sv (hr.aa hS2) kv ks (hk.aa hS2)) ?_
 rintro r H3 ⟨pv, rfl, hx, hT1⟩
 have hS3 := hS2.trans hT1
 simp only [RT] at hS3
 simp (disch := omega) only [↓RA, RB, simprocAttr, hn]
 refine gY (fun h1 => ?_) (fun h1 => ?_)
 ·have hb : byF o rg ks = [] := by unfold byF; rw [if_neg h1]
  have hS4 := hS3.nil 0
  simp only [RT] at hS4
  simp (disch := omega) only [↓RA, RZ, simprocAttr, hn, c2A, h1]
  rw [hb]
  exact ⟨.slice none 0 0, rfl, hS4.pick [2] (by decide) rfl⟩
 have h0 := dj.1 h1
 obtain ⟨hz1, hz2⟩ := tH h0
 have hf := Org.aU (lV hz1).1
 have hrl := hf.rlen
 have hb : byF o rg ks = rkF o (nE o rg ks) := by unfold byF; rw [if_pos h0]
 have hx2 := hx.step (hS1.aZ (H' := H3))
 obtain ⟨X, hBX, hS5⟩ := hS3.aC (os := [⟨ptr A1 0 4, 0, _⟩, ⟨ptr A2 0 3, 0, _⟩])
 have hx3 := hx2.step (hS5.kept hBX)
 simp (disch := omega) only [↓RA, RZ, simprocAttr, hn, hS5.ld 0 rfl, ((hS3.aj hBX hS5).sl ho.1).len, h1]
 refine hS5.bJ o.ranks.length c4u (by omega) fun w1 H4 hS6 => ?_
 simp only [RT] at hS6
 rw [show List.replicate o.ranks.length (Value.int .i64 0) = (List.replicate o.ranks.length (0 : Int)).flatMap (one I) from by rw [nZ, List.map_replicate]] at hS6
 simp (disch := omega) only [↓RA, RZ, simprocAttr, hn, (hx2.step (hS6.kept hBX)).1.len, h1]
 refine Wp.al (fun n l H' => l.length = 53 ∧ get l 3 = (ptr A1 0 4) ∧ get l 6 = (.slice none 0 0) ∧ get l 7 = I 0 ∧ get l 27 = pv ∧ get l 28 = I (nE o rg ks).length ∧ ∃ (i : Nat), (n + i = (nE o rg ks).length) ∧ get l 29 = I i ∧ get l 10 = w1 ∧ St prog X H' [⟨ptr A1 0 4, 0, [(.string o.name), o.rv, o.dv, o.cv]⟩, ⟨ptr A2 0 3, 0, [sv, (.int .u64 rg.cpl), (.int .u64 rg.off)]⟩, ⟨w1, 1, (rkF o ((nE o rg ks).take i)).flatMap (one I)⟩]) (nE o rg ks).length ?_ ?_
 ·simp (disch := omega) only [RB, RC, simprocAttr, hn]
  exact ⟨0, by omega, rfl, hS6⟩
 rintro n l H5 ⟨hn, g3, g6, g7, g27, g28, i, hi, g29, oW, hS7⟩
 simp (disch := omega) only [↓RA, RB, simprocAttr, hn, g28, g29]
 refine gY (fun q1 => ?_) (fun q1 => ?_)
 ·have hpi := b0c (o := o) (rg := rg) (ks := ks) _ (iB (xs := nE o rg ks) (j := i) (by omega))
  obtain ⟨e, he⟩ : ∃ e : Nat, (gZ (nE o rg ks) i).1 = e := ⟨(gZ (nE o rg ks) i).1.toNat, by have := hpi.1; omega⟩
  obtain ⟨f, hff⟩ : ∃ f : Nat, (gZ (nE o rg ks) i).2 = f := ⟨(gZ (nE o rg ks) i).2.toNat, by have := hpi.2.2.1; omega⟩
  have hel : e < o.ranks.length := by have := hpi.2.1; omega
  have hfl : f < (gZ o.ranks e).wind.length := by
   have := hpi.2.2.2
   rw [he, ez] at this
   omega
  have hlr := b8s o ((nE o rg ks).take i)
  have hsu := b5f o (nE o rg ks) i (by omega)
  have hwt : a2p o (gZ (nE o rg ks) i) = gZ (gZ o.ranks e).wind f := by unfold a2p; rw [he, hff, ez, ez]
  unfold rkS at hsu
  rw [hwt, he, ez] at hsu
  simp (disch := omega) only [↓RA, RZ, simprocAttr, hn, g27, g29, (hx2.step (hS7.kept hBX)).1.idx, (hx2.step (hS7.kept hBX)).1.ae, jY, q1]
  refine hS7.eNew 2 [I 0, I 0] rfl rfl rfl nJ fun A3 H6 hS8 => ?_
  simp only [RT] at hS8
  simp (disch := omega) only [↓RA, RZ, simprocAttr, hn, q1]
  refine hS8.ab 3 rfl [I (gZ (nE o rg ks) i).1, I (gZ (nE o rg ks) i).2] rfl rfl nJ (by simp) fun H7 hS9 => ?_
  simp only [RT] at hS9
  simp (disch := omega) only [↓RA, RZ, simprocAttr, q1]
  refine Wp.drw jZ (by kernel_rfl) ?_
  simp (disch := omega) only [↓RA, RZ, simprocAttr, hn, oW]
  simp (disch := omega) only [↓RA, RZ, simprocAttr, hn, g3, hS9.ld 3 rfl, (hS9.aw 2 rfl (fun _ => rfl)).idx, (hS9.aw 2 rfl (fun _ => rfl)).ld, one, hS9.ld 0 rfl, ((hS3.aj hBX hS9).sl ho.1).idx, ((hS3.aj hBX hS9).sl ho.1).bh, ((hS3.aj hBX hS9).sl ho.1).ld, Rk.cells, ((hS3.aj hBX hS9).sl (ho.2.1 (gZ o.ranks e) (iB (by omega))).1).idx, ((hS3.aj hBX hS9).sl (ho.2.1 (gZ o.ranks e) (iB (by omega))).1).ld, he, hff]
  refine hS9.aW 2 rfl [_] rfl rfl tS3 (by simp) (by rw [nZ, dR, hlr]; simp; omega) fun H8 hS10 => ?_
  simp only [RT] at hS10
  simp (disch := omega) only [↓RA, RZ, simprocAttr, hn, g3, g6, g7, g27, g28, g29, oW, he, hff]
  refine ⟨n - 1, by omega, i + 1, by omega, by simp, ?_⟩
  rw [hsu, ← b5W]
  exact hS10.pick [0, 1, 2] (by decide) rfl
 have hnt := (hS7.aw (cel := one I) 2 rfl (fun _ => rfl)).bq
 simp (disch := omega) only [↓RA, RZ, simprocAttr, hn, oW, c2A, q1, hnt]
 have hii : i = (nE o rg ks).length := by omega
 rw [hb, h0]
 refine ⟨_, rfl, ?_⟩
 have h9 := (hS3.aj hBX hS7).pick (os' := [⟨w1, 1, _⟩]) [2] (by decide) rfl
 rw [hii, dT] at h9
 exact h9
end Go.Ds
namespace Go.Ds
open Go.Proofs
variable {H : Heap}
set_option maxRecDepth 10000
set_option maxHeartbeats 1000000
theorem a3S (o : Org) (r : Reg) (l : List Ct) : lU o r l = dd (a2G ((b3P a2G o r l).flatMap (b4p a2G o r))) := by
 rw [← c0m]
 rfl
section
variable (w1 w2 d1 g1 s1 d2 g2 s2 w3 w4 w5 : Value)
end
end Go.Ds
namespace Go.Ds
open Go.Proofs Go.Proofs.Tryz
variable {H : Heap}
set_option maxRecDepth 10000
set_option maxHeartbeats 1000000
theorem b2T (v w : Value) (xs ys : List Int) (hv : Sl 1 (one I) H v xs) (hw : Sl 1 (one I) H w ys) (hl : xs.length < 1000000000) (hl2 : ys.length < 1000000000) :
 Fn prog 15 [v, w] H fun r H' => r = .bool (decide (xs = ys)) ∧ St prog H H' [] := by
 refine .aM func15 rfl (by kernel_rfl) (m := 26) rfl fun l hn g0 g1 => ?_
 simp (disch := omega) only [↓RA, RZ, simprocAttr, hn, g0, g1, ((sR H).sl hv).len, ((sR H).sl hw).len]
 refine gY (fun h1 => ?_) (fun h1 => ?_)
 ·simp (disch := omega) only [↓RA, RZ, simprocAttr, hn, c0f, h1]
  exact ⟨by rw [decide_eq_false]; intro e; rw [e] at h1; exact h1 rfl, (sR H)⟩
 simp (disch := omega) only [↓RA, RZ, simprocAttr, hn, g0, ((sR H).sl hv).len, h1]
 refine Wp.al (fun n l H' => l.length = 26 ∧ get l 0 = v ∧ get l 1 = w ∧ get l 12 = I xs.length ∧ ∃ (j : Nat), (n + j = xs.length ∧ ∀ q, q < j → gZ xs q = gZ ys q) ∧ get l 13 = I j ∧ St prog H H' []) xs.length ?_ ?_
 ·simp (disch := omega) only [RB, RC, simprocAttr, hn, g0, g1]
  exact ⟨0, ⟨by omega, fun q hq => absurd hq (dH _)⟩, rfl, (sR H)⟩
 rintro n l H1 ⟨hn, g0, g1, g12, j, ⟨hj,hz⟩, g13, hS1⟩
 simp (disch := omega) only [↓RA, RB, simprocAttr, hn, g12, g13]
 refine gY (fun q1 => ?_) (fun q1 => ?_)
 ·simp (disch := omega) only [↓RA, RZ, simprocAttr, hn, g13, q1]
  refine Wp.drw jZ (by kernel_rfl) ?_
  simp (disch := omega) only [↓RA, RZ, simprocAttr, hn, g0, g1, (hS1.sl hv).idx, (hS1.sl hv).ld, one, (hS1.sl hw).idx, (hS1.sl hw).ld]
  refine gY (fun q2 => ?_) (fun q2 => ?_)
  ·simp (disch := omega) only [↓RA, RZ, simprocAttr, hn, c0f, q2]
   refine ⟨?_, hS1⟩
   rw [decide_eq_false]
   intro e
   rw [e] at q2
   exact q2 rfl
  have q3 := dj.1 q2
  simp (disch := omega) only [↓RA, RZ, simprocAttr, hn, g0, g1, g12, g13, q2]
  exact ⟨n - 1, by omega, j + 1, ⟨by omega, fun q hq => by rcases dp.1 hq with e | e; (· exact hz q e); (· rw [e]; exact q3)⟩, by simp, hS1⟩
 simp (disch := omega) only [↓RA, RZ, simprocAttr, hn, c0f, q1]
 exact ⟨by rw [decide_eq_true]; exact a9C (by omega) fun q hq => hz q (by omega), hS1⟩
def rgX : Reg := ⟨[1, 1], 1, 0⟩
def ksX : List Nt := [jN [40, 41], (0, 0)]
section
variable (w1 w2 d1 g1 s1 d2 g2 s2 w3 w4 w5 : Value)
theorem b0u : nE (exW 7 2 w1 w2 d1 g1 s1 d2 g2 s2 w3 w4 w5) rgX ksX = [(0, 4), (0, 5), (1, 16), (1, 17)] := by
 unfold nE
 rw [show vM (exW 7 2 w1 w2 d1 g1 s1 d2 g2 s2 w3 w4 w5) rgX ksX = 0 from a8O .., if_pos rfl, a3S]
 kernel_rfl
theorem b7e : tB (exW 7 2 w1 w2 d1 g1 s1 d2 g2 s2 w3 w4 w5) rgX ksX = 18 := by
 unfold tB
 rw [b0u]
 kernel_rfl
theorem c1R : byF (exW 7 2 w1 w2 d1 g1 s1 d2 g2 s2 w3 w4 w5) rgX ksX = [14, 4] := by
 unfold byF
 rw [show vM (exW 7 2 w1 w2 d1 g1 s1 d2 g2 s2 w3 w4 w5) rgX ksX = 0 from a8O .., if_pos rfl, b0u]
 kernel_rfl
theorem b7q (o : Org) (rg : Reg) : rE o rg = fun c => vN o (if uZ o rg c = 0 then dd (a2G ((b3P a2G o rg [c]).flatMap (b4p a2G o rg))) else []) := by
 funext c
 unfold rE ofF
 rw [a3S]
theorem c0F : grR (exW 7 2 w1 w2 d1 g1 s1 d2 g2 s2 w3 w4 w5) rgX = ((0, 36), 9) := by
 unfold grR
 rw [show lR (exW 7 2 w1 w2 d1 g1 s1 d2 g2 s2 w3 w4 w5) rgX = 0 from a4v .., if_pos rfl, b7q]
 kernel_rfl
end
theorem a9c : rgX.Ok := ⟨by decide, by decide, by decide, by decide⟩
theorem b6k : ∀ x ∈ ksX, Nt.Ok x := by
 intro x hx
 simp only [ksX, dP, dI, or_false] at hx
 rcases hx with rfl | rfl <;> exact ⟨by decide, by decide⟩
theorem sC (hG : Glob gH H) : Fn prog 6 [] H fun r H' => r = .bool true ∧ St prog H H' [] := by
 refine .cM func6 rfl (by kernel_rfl) (m := 89) rfl fun l hn => ?_
 simp (disch := omega) only [↓RA, RZ, simprocAttr]
 refine iC (a6w ((sR H).gl hG)) ?_
 rintro r H1 ⟨xa, xb, da, ga, sa, db, gb, sb, xr, xd, xc, rfl, hT1⟩
 have hS1 := (sR H).trans hT1
 simp only [RT] at hS1
 simp (disch := omega) only [↓RA, RZ, simprocAttr]
 refine hS1.eNew 4 [(.string ⟨#[]⟩), (.slice none 0 0), (.slice none 0 0), (.slice none 0 0)] rfl rfl rfl lX fun A1 H2 hS2 => ?_
 simp only [RT] at hS2
 simp (disch := omega) only [↓RA, RB, simprocAttr, hn]
 refine hS2.ab 11 rfl [(.string ⟨#[101]⟩), xr, xd, xc] rfl (by simp [OC, (hS2.rd 8 rfl).cells.2.1, (hS2.rd 9 rfl).cells.2.1, (hS2.rd 10 rfl).cells.2.1]) lX (by simp) fun H3 hS3 => ?_
 simp only [RT] at hS3
 simp (disch := omega) only [↓RA, RB, simprocAttr]
 refine Wp.aN jZ [(1, 3), (1, 4)] (by kernel_rfl) (by kernel_rfl) ?_
 simp (disch := omega) only [↓RA, RZ, simprocAttr, hn, hS3.ld 11 rfl]
 refine hS3.ai [I 7] uY a0G rfl rfl (by simp [Value.cells]) rfl rfl (by decide) (by decide) fun w1 H4 hS4 => ?_
 simp only [RT] at hS4
 simp (disch := omega) only [↓RA, RZ, simprocAttr, hn]
 refine iC ((a2o (c := 7) (hS4.gl hG) w1 (hS4.aw 12 rfl (fun _ => rfl))).tr) ?_
 rintro r H5 ⟨-, hT2⟩
 have hS5 := hS4.trans hT2
 simp only [RT] at hS5
 obtain ⟨ya, rfl⟩ : ∃ w, w = r := ⟨r, rfl⟩
 have hl1 : (zK 1 1 xa xb).length = 2 := rfl
 simp (disch := omega) only [↓RA, RZ, simprocAttr, hn, (hS5.aw 8 rfl (fun _ => rfl)).idx, (hS5.aw 8 rfl (fun _ => rfl)).bh]
 refine hS5.aW 8 rfl [ya] (by rw [(hS5.rd 13 rfl).cells.1]) (by simp [(hS5.rd 13 rfl).cells.2.1]) b1R (by simp) (by simp [zK, Rk.cells]) fun H6 hS6 => ?_
 simp only [RT] at hS6
 simp (disch := omega) only [↓RA, RZ, simprocAttr, hn, hS4.ld 11 rfl, hS5.ld 11 rfl]
 refine Wp.aN jZ [(1, 3), (1, 4)] (by kernel_rfl) (by kernel_rfl) ?_
 simp (disch := omega) only [↓RA, RZ, simprocAttr, hn, hS6.ld 11 rfl]
 refine hS6.ai [I 2] uY a0G rfl rfl (by simp [Value.cells]) rfl rfl (by decide) (by decide) fun w2 H7 hS7 => ?_
 simp only [RT] at hS7
 simp (disch := omega) only [↓RA, RZ, simprocAttr, hn]
 have hset1 : ((zK 1 1 xa xb).flatMap Rk.cells).set 5 ya = (zK 7 1 ya xb).flatMap Rk.cells := rfl
 simp only [Nat.zero_mul, fL, hset1] at hS7
 refine iC ((a2o (c := 2) (hS7.gl hG) w2 (hS7.aw 14 rfl (fun _ => rfl))).tr) ?_
 rintro r H8 ⟨-, hT3⟩
 have hS8 := hS7.trans hT3
 simp only [RT] at hS8
 obtain ⟨yb, rfl⟩ : ∃ w, w = r := ⟨r, rfl⟩
 have hl2 : (zK 7 1 ya xb).length = 2 := rfl
 simp (disch := omega) only [↓RA, RZ, simprocAttr, hn, (hS8.aw 8 rfl (fun _ => rfl)).idx, (hS8.aw 8 rfl (fun _ => rfl)).bh]
 refine hS8.aW 8 rfl [yb] (by rw [(hS8.rd 15 rfl).cells.1]) (by simp [(hS8.rd 15 rfl).cells.2.1]) b1R (by simp) (by simp [zK, Rk.cells]) fun H9 hS9 => ?_
 simp only [RT] at hS9
 simp (disch := omega) only [↓RA, RZ, simprocAttr, hn, hS7.ld 11 rfl, hS8.ld 11 rfl]
 have hset2 : ((zK 7 1 ya xb).flatMap Rk.cells).set 11 yb = (zK 7 2 ya yb).flatMap Rk.cells := rfl
 simp only [Nat.one_mul, Nat.reduceAdd, hset2] at hS9
 have h1 : Sl 1 (one I) H9 ya (List.replicate 25 7) := hS9.aw 13 rfl (fun _ => rfl)
 have h2 : Sl 1 (one I) H9 yb (List.replicate 25 2) := hS9.aw 15 rfl (fun _ => rfl)
 have h3 : Sl 2 Drw.cells H9 da [⟨0, 0⟩] := hS9.aw 2 rfl (fun _ => rfl)
 have h4 : Sl 3 Seg.cells H9 ga [⟨36, 48, da, [⟨0, 0⟩]⟩] := hS9.aw 3 rfl (fun _ => rfl)
 have h5 : Sl 4 Stp.cells H9 sa [⟨⟨#[97]⟩, 8, 1, ga, [⟨36, 48, da, [⟨0, 0⟩]⟩]⟩] := hS9.aw 4 rfl (fun _ => rfl)
 have h6 : Sl 2 Drw.cells H9 db [⟨1, 12⟩] := hS9.aw 5 rfl (fun _ => rfl)
 have h7 : Sl 3 Seg.cells H9 gb [⟨36, 48, db, [⟨1, 12⟩]⟩] := hS9.aw 6 rfl (fun _ => rfl)
 have h8 : Sl 4 Stp.cells H9 sb [⟨⟨#[97]⟩, 4, 1, gb, [⟨36, 48, db, [⟨1, 12⟩]⟩]⟩] := hS9.aw 7 rfl (fun _ => rfl)
 have h9 : Sl 6 Rk.cells H9 xr (zK 7 2 ya yb) := hS9.aw 8 rfl (fun _ => rfl)
 have h10 : Sl 5 Dvn.cells H9 xd (b5Q da ga sa db gb sb) := hS9.aw 9 rfl (fun _ => rfl)
 have h11 : Sl 5 Cpl.cells H9 xc b7N := hS9.aw 10 rfl (fun _ => rfl)
 have hS0 := hS9
 have hG2 := hS0.gl hG
 have hvA : Var H9 A1 4 [.string ⟨#[101]⟩, xr, xd, xc] := hS0.var 11 rfl
 obtain ⟨o, hoe⟩ : ∃ o, o = exW 7 2 ya yb da ga sa db gb sb xr xd xc := ⟨_, rfl⟩
 have ho : o.In H9 := by
  subst hoe
  refine ⟨h9, ?_, h10, ?_, h11, by simp [exW, zK], by simp [exW, b5Q], by simp [exW, b7N]⟩
  ·intro r hr
   simp only [exW, zK, dP, dI, or_false] at hr
   rcases hr with rfl | rfl
   ·exact ⟨h1, by simp⟩
   ·exact ⟨h2, by simp⟩
  ·intro d hd
   simp only [exW, b5Q, dP, dI, or_false] at hd
   rcases hd with rfl | rfl
   ·exact ⟨h5, fun s hs => by rw [dz.1 hs]; exact ⟨h4, fun g hg => by rw [dz.1 hg]; exact ⟨h3, by simp⟩, by simp⟩, by simp⟩
   ·exact ⟨h8, fun s hs => by rw [dz.1 hs]; exact ⟨h7, fun g hg => by rw [dz.1 hg]; exact ⟨h6, by simp⟩, by simp⟩, by simp⟩
 have hv0 : Var H9 A1 4 [.string o.name, o.rv, o.dv, o.cv] := by rw [hoe]; exact hvA
 have q1 : vM o rgX ksX = 0 := by subst hoe; exact a8O ..
 have q2 : tB o rgX ksX = 18 := by subst hoe; exact b7e ..
 have q3 : byF o rgX ksX = [14, 4] := by subst hoe; exact c1R ..
 have q4 : grR o rgX = ((0, 36), 9) := by subst hoe; exact c0F ..
 have q5 : lR o rgX = 0 := by subst hoe; exact a4v ..
 have hG1 : ∀ z ∈ [(40 : Int), 41], isN z := fun z hz => by
  simp only [dP, dI, or_false] at hz
  rcases hz with rfl | rfl <;> exact ⟨by decide, by decide⟩
 clear hoe h1 h2 h3 h4 h5 h6 h7 h8 h9 h10 h11 hvA
 refine (sR H9).ai [(.int .u64 1), (.int .u64 1)] c5z c5s rfl rfl (by simp [Value.cells]) rfl rfl (by decide) (by decide) fun w3 H10 hS10 => ?_
 simp only [RT] at hS10
 simp (disch := omega) only [↓RA, RZ, simprocAttr, hn, b5j (hS10.rd 0 rfl).cells]
 refine hS10.eNew 3 [(.slice none 0 0), (.int .u64 0), (.int .u64 0)] rfl rfl rfl qH fun A2 H11 hS11 => ?_
 simp only [RT] at hS11
 simp (disch := omega) only [↓RA, RB, simprocAttr, hn]
 refine hS11.ab 1 rfl [w3, (.int .u64 1), (.int .u64 0)] rfl (by simp [OC, (hS11.rd 0 rfl).cells.2.1]) qH (by simp) fun H12 hS12 => ?_
 simp only [RT] at hS12
 simp (disch := omega) only [↓RA, RB, simprocAttr]
 refine hS12.ai [I 40, I 41] uY a0G rfl rfl (by simp [Value.cells]) rfl rfl (by decide) (by decide) fun w4 H13 hS13 => ?_
 simp only [RT] at hS13
 simp (disch := omega) only [↓RA, RZ, simprocAttr, hn]
 refine hS13.cF (wE [40, 41] hG1 w4 (hS13.aw 2 rfl (fun _ => rfl)) (by simp)) fun H14 hS14 => ?_
 simp (disch := omega) only [↓RA, RZ, simprocAttr, hn]
 refine hS14.eNew 2 [(.int .u64 0), (.int .u64 0)] rfl rfl rfl mT fun A3 H15 hS15 => ?_
 simp only [RT] at hS15
 simp (disch := omega) only [↓RA, RB, simprocAttr, hn]
 refine hS15.ab 3 rfl [(.int .u64 (jN [40, 41]).1), (.int .u64 (jN [40, 41]).2)] rfl rfl mT (by simp) fun H16 hS16 => ?_
 simp only [RT] at hS16
 simp (disch := omega) only [↓RA, RZ, simprocAttr, hn, (hv0.aa hS16.aa).ae, hS16.ae 1 rfl, hS16.ae 3 rfl, b6c]
 refine hS16.ai [(.int .u64 (jN [40, 41]).1), (.int .u64 (jN [40, 41]).2), (.int .u64 0), (.int .u64 0)] a7v b5w rfl rfl (by simp [Value.cells]) rfl rfl (by decide) (by decide) fun w5 H17 hS17 => ?_
 simp only [RT] at hS17
 simp (disch := omega) only [↓RA, RZ, simprocAttr, hn]
 refine hS17.cF (zS (hS17.gl hG2) o (ho.aa hS17) rgX w3 ⟨hS17.aw 0 rfl (fun _ => rfl), a9c⟩ w5 ksX ⟨hS17.aw 4 rfl (fun _ => rfl), by decide, b6k⟩) fun H18 hS18 => ?_
 rw [q1, q2]
 simp (disch := omega) only [↓RA, RZ, simprocAttr, hn, (hv0.aa hS18.aa).ae, hS18.ae 1 rfl, hS18.ae 3 rfl, b6c]
 refine hS18.ai [(.int .u64 (jN [40, 41]).1), (.int .u64 (jN [40, 41]).2), (.int .u64 0), (.int .u64 0)] a7v b5w rfl rfl (by simp [Value.cells]) rfl rfl (by decide) (by decide) fun w6 H19 hS19 => ?_
 simp only [RT] at hS19
 simp (disch := omega) only [↓RA, RZ, simprocAttr, hn]
 refine iC (a0c (hS19.gl hG2) o (ho.aa hS19) rgX w3 ⟨hS19.aw 0 rfl (fun _ => rfl), a9c⟩ w6 ksX ⟨hS19.aw 5 rfl (fun _ => rfl), by decide, b6k⟩) ?_
 rintro r H20 ⟨bv, rfl, hT6⟩
 have hS20 := hS19.trans hT6
 simp only [RT] at hS20
 rw [q1]
 rw [q3] at hS20
 simp (disch := omega) only [↓RA, RZ, simprocAttr, hn, (hv0.aa hS20.aa).ae, hS20.ae 1 rfl]
 refine hS20.cF (tR o (ho.aa hS20) rgX w3 ⟨hS20.aw 0 rfl (fun _ => rfl), a9c⟩) fun H21 hS21 => ?_
 rw [q4, q5]
 dsimp only
 simp (disch := omega) only [↓RA, RZ, simprocAttr, hn]
 refine hS21.eNew 2 [I 0, I 0] rfl rfl rfl mB fun A4 H22 hS22 => ?_
 simp only [RT] at hS22
 simp (disch := omega) only [↓RA, RB, simprocAttr, hn]
 refine hS22.ab 7 rfl [I 0, I 36] rfl rfl mB (by simp) fun H23 hS23 => ?_
 simp only [RT] at hS23
 simp (disch := omega) only [↓RA, RZ, simprocAttr, hn]
 refine hS23.ai [I 14, I 4] uY a0G rfl rfl (by simp [Value.cells]) rfl rfl (by decide) (by decide) fun w7 H24 hS24 => ?_
 simp only [RT] at hS24
 simp (disch := omega) only [↓RA, RZ, simprocAttr, hn]
 refine hS24.cF (b2T bv w7 [14, 4] [14, 4] (hS24.aw 6 rfl (fun _ => rfl)) (hS24.aw 8 rfl (fun _ => rfl)) (by simp) (by simp)) fun H25 hS25 => ?_
 rw [decide_eq_true rfl]
 simp (disch := omega) only [↓RA, RZ, simprocAttr, hn, hS25.ae 7 rfl, c0k]
 simp (disch := omega) only [RB, RC, simprocAttr, hn, tR6]
 exact hS0.forget.trans hS25.forget
theorem yF (o : Org) (ho : o.In H) (hf : o.Fine) : Fn prog 20 [.agg #[.string o.name, o.rv, o.dv, o.cv]] H fun r H' => St prog H H' [⟨r, 2, (kD o mH).flatMap ntc⟩] := by
 refine .aR func20 rfl (by kernel_rfl) (m := 6) rfl fun l hn g0 => ?_
 simp (disch := omega) only [↓RA, RB, simprocAttr, g0]
 refine (sR H).eNew 4 [(.string o.name), o.rv, o.dv, o.cv] rfl rfl (by simp [OC, ((sR H).sl ho.1).cells.2.1, ((sR H).sl ho.2.2.1).cells.2.1, ((sR H).sl ho.2.2.2.2.1).cells.2.1]) lX fun A1 H1 hS1 => ?_
 simp only [RT] at hS1
 simp (disch := omega) only [↓RA, RZ, simprocAttr, hn, hS1.ae 0 rfl, a8s]
 have hP := a7T o (ho.aa hS1) hf mH (fun _ => by unfold mH; decide)
 have e0 : ∀ i, ((mH i : Nat) : Int) = 65535 := fun _ => rfl
 rw [e0, e0, e0] at hP
 refine iC (hP.tr) ?_
 rintro r H2 ⟨-, hT1⟩
 have hS2 := hS1.trans hT1
 simp only [RT] at hS2
 obtain ⟨kv, rfl⟩ : ∃ w, w = r := ⟨r, rfl⟩
 simp (disch := omega) only [↓RA, RB, simprocAttr, hn, c5K]
 exact hS2.pick [1] (by decide) rfl
theorem Made.wide {p : Pln} {o : Org} (h : Made p o) : ∀ j, j < o.dvs.length → (gZ o.dvs j).hi ≤ (gZ o.dvs j).lo + 8 := fun j hj => (h.ok.dvs j hj).wide
theorem a2M (hG : Glob gH H) (p : Pln) (hp : p.In H) (hk : p.Ok) (sv : Value) (rg : Reg) (hri : RgI H rg sv) (kv : Value) (ks : List Nt) (hki : KsI H kv ks) :
 Fn prog 4 [.agg #[p.rv, p.dv, p.cv], .agg #[sv, .int .u64 rg.cpl, .int .u64 rg.off], kv] H fun r H' => r = .bool true ∧ St prog H H' [] := by
 have hl1 := hri.len
 have hl2 := hki.len
 refine .bk func4 rfl (by kernel_rfl) (m := 210) rfl fun l hn g0 g1 g2 => ?_
 simp (disch := omega) only [↓RA, RB, simprocAttr, g0]
 refine (sR H).eNew 3 [p.rv, p.dv, p.cv] rfl rfl (by simp [((sR H).sl hp.1).cells.2.1, ((sR H).sl hp.2.1).cells.2.1, ((sR H).sl hp.2.2.2.1).cells.2.1]) b7I fun A1 H1 hS1 => ?_
 simp only [RT] at hS1
 simp (disch := omega) only [↓RA, RB, simprocAttr, g1]
 refine hS1.eNew 3 [sv, (.int .u64 rg.cpl), (.int .u64 rg.off)] rfl rfl (by simp [OC, (hS1.sl hri.sl).cells.2.1]) qH fun A2 H2 hS2 => ?_
 simp only [RT] at hS2
 simp (disch := omega) only [↓RA, RZ, simprocAttr]
 refine hS2.cF (sC (hS2.gl hG)) fun H3 hS3 => ?_
 simp (disch := omega) only [↓RA, RZ, simprocAttr, hn, hS3.ae 0 rfl]
 refine hS3.cF (b8B p (hp.aa hS3)) fun H4 hS4 => ?_
 simp (disch := omega) only [↓RA, RZ, simprocAttr, hn]
 refine zV (fun h1 => ?_) (fun h1 => ?_)
 ·simp (disch := omega) only [↓RA, RZ, simprocAttr, hn, h1]
  refine hS4.cF (sC (hS4.gl hG)) fun H5 hS5 => ?_
  simp (disch := omega) only [↓RA, RZ, simprocAttr, hn, tR4, h1]
  exact hS5.forget
 have hf : vJ p = true := by simpa using h1
 simp (disch := omega) only [↓RA, RZ, simprocAttr, hn, hS4.ld 1 rfl, (hS4.sl hri.sl).len, h1]
 refine iI (fun h2 => ?_) (fun h2 => ?_)
 ·simp (disch := omega) only [↓RA, RZ, simprocAttr, hn, h1, h2]
  refine hS4.cF (sC (hS4.gl hG)) fun H6 hS6 => ?_
  simp (disch := omega) only [↓RA, RZ, simprocAttr, hn, tR4, h1, h2]
  exact hS6.forget
 simp (disch := omega) only [↓RA, RZ, simprocAttr, hn, g2, (hS4.sl hki.sl).len, h1, h2]
 refine gY (fun h3 => ?_) (fun h3 => ?_)
 ·simp (disch := omega) only [↓RA, RZ, simprocAttr]
  refine hS4.cF (sC (hS4.gl hG)) fun H7 hS7 => ?_
  simp (disch := omega) only [↓RA, RZ, simprocAttr, hn, tR4, h1, h2, h3]
  exact hS7.forget
 have hri5 : rg.stops.length < 1000000000 := by omega
 have hki5 : ks.length < 1000000000 := by omega
 simp (disch := omega) only [↓RA, RZ, simprocAttr, hn, hS4.ae 0 rfl, h1, h2, h3]
 refine iC (b1G (hS4.gl hG) p (hp.aa hS4) hk hf) ?_
 rintro r H8 ⟨o, rfl, ho, hm, hT6⟩
 have hS8 := hS4.trans hT6
 simp only [RT] at hS8
 have hS0 := hS8
 have hG2 := hS0.gl hG
 have hrI : rg.In H8 sv := (hri.aa hS0).reg hri5
 have hkI : Ks H8 kv ks := (hki.aa hS0).ks hki5
 have hoe := hm.ok.organE
 have hf0 := Org.aU hoe
 obtain ⟨k1, k2, k3⟩ := hm.small hf
 have hal : (kD o mH).length < 1000000000 := by rw [rZ]; omega
 have haO := a5T hf0 mH
 have haE := a7H hoe mH
 have hct : rG o (3, 0) = 10 := by unfold rG; rw [if_pos (Or.inr (by show (o.dvs.length : Int) ≤ 3; omega))]
 have hdc : ∀ v, qD o rg [⟨v, kD o mH⟩, ⟨kv, ks⟩] = vM o rg ks := fun v => by
  unfold qD vM
  rw [if_neg (by rw [hoe]; simp)]
  by_cases h : lR o rg ≠ 0
  ·rw [if_pos h, if_pos h]
  ·rw [if_neg h, if_neg h, if_neg (by simp)]
   by_cases h2 : lS o ks = 0
   ·rw [h2]
    refine kA _ _ fun j hj => ?_
    have : j = 0 ∨ j = 1 := by simp at hj; omega
    rcases this with rfl | rfl
    ·exact haE
    ·exact h2
   ·exact mK (fun j => lS o (gZ [(⟨v, kD o mH⟩ : Kv), ⟨kv, ks⟩] j).l) 2 1 (by decide) h2 fun j hj => by
     have : j = 0 := by omega
     subst this
     exact haE
 have hmc : ∀ v, vB o rg [⟨v, kD o mH⟩, ⟨kv, ks⟩] = vM o rg ks := fun v => by
  unfold vB
  rw [hdc, if_neg (show ¬ ([(⟨v, kD o mH⟩ : Kv), ⟨kv, ks⟩] : List Kv).length = 0 by simp)]
  by_cases h : vM o rg ks ≠ 0
  ·rw [if_pos h]
  ·rw [if_neg h, dj.1 h]
 have hadd : wJ o rg ks (3, 0) = if vM o rg ks ≠ 0 then vM o rg ks else 10 := by unfold wJ; rw [hct]
 have haN : wJ o rg ks (3, 0) ≠ 0 := by rw [hadd]; split <;> omega
 have hma : b3A o rg ks (3, 0) = 0 := by unfold b3A adF; rw [if_neg haN]; rfl
 have hon : uZ o rg (3, 0) = if lR o rg ≠ 0 then lR o rg else 10 := by unfold uZ; rw [hct]
 have hoN : uZ o rg (3, 0) ≠ 0 := by rw [hon]; split <;> omega
 have hke : rE o rg (3, 0) = 0 := by unfold rE ofF; rw [if_neg hoN]; rfl
 have hz : vM o rg ks ≠ 0 → tB o rg ks = 0 ∧ byF o rg ks = [] ∧ (∀ v, a7M o rg [⟨v, kD o mH⟩, ⟨kv, ks⟩] = []) ∧ ∀ v, a1S o rg [⟨v, kD o mH⟩, ⟨kv, ks⟩] = (0, 0) := fun h =>
  ⟨by unfold tB nE; rw [if_neg h]; rfl, by unfold byF; rw [if_neg h], fun v => by unfold a7M; rw [hdc, if_neg h], fun v => by unfold a1S; rw [hmc, if_neg h]⟩
 simp (disch := omega) only [↓RA, RZ, simprocAttr]
 refine (sR H8).eNew 4 [(.string ⟨#[]⟩), (.slice none 0 0), (.slice none 0 0), (.slice none 0 0)] rfl rfl rfl lX fun A3 H9 hS9 => ?_
 simp only [RT] at hS9
 simp (disch := omega) only [↓RA, RZ, simprocAttr, hn, h1, h2, h3]
 refine hS9.ab 0 rfl [(.string o.name), o.rv, o.dv, o.cv] rfl (by simp [OC, (hS9.sl ho.1).cells.2.1, (hS9.sl ho.2.2.1).cells.2.1, (hS9.sl ho.2.2.2.2.1).cells.2.1]) lX (by simp) fun H10 hS10 => ?_
 simp only [RT] at hS10
 simp (disch := omega) only [↓RA, RZ, simprocAttr, hn, hS10.ae 0 rfl, ((hS0.var 1 rfl).aa hS10.aa).ae, h1, h2, h3]
 refine hS10.cF (a9L o (ho.aa hS10) rg sv (hrI.aa hS10)) fun H11 hS11 => ?_
 simp (disch := omega) only [↓RA, RZ, simprocAttr, hn, h1, h2, h3]
 refine gY (fun h5 => ?_) (fun h5 => ?_)
 ·have hW : vM o rg ks = lS o ks := by unfold vM; rw [if_neg (by rw [h5]; simp)]
  have hO : uZ o rg (3, 0) = 10 := by rw [hon, if_neg (by rw [h5]; simp)]
  simp (disch := omega) only [↓RA, RZ, simprocAttr, hn, g2, hS11.ae 0 rfl, h1, h2, h3, h5]
  refine hS11.cF (a1g o (ho.aa hS11) kv ks (hkI.aa hS11)) fun H12 hS12 => ?_
  rw [h5]
  simp (disch := omega) only [↓RA, RZ, simprocAttr, hn, b6e, h1, h2, h3]
  refine hS12.eNew 2 [I 0, I 0] rfl rfl rfl mB fun A4 H13 hS13 => ?_
  simp only [RT] at hS13
  simp (disch := omega) only [↓RA, RZ, simprocAttr, hn, h1, h2, h3]
  refine hS13.ab 1 rfl [I 3, I 0] rfl rfl mB (by simp) fun H14 hS14 => ?_
  simp only [RT] at hS14
  simp (disch := omega) only [↓RA, RZ, simprocAttr, hn, g2, hS14.ae 0 rfl, ((hS0.var 1 rfl).aa hS14.aa).ae, h1, h2, h3]
  refine hS14.cF (zS (hS14.gl hG2) o (ho.aa hS14) rg sv (hrI.aa hS14) kv ks (hkI.aa hS14)) fun H15 hS15 => ?_
  rw [hW]
  simp (disch := omega) only [↓RA, RZ, simprocAttr, hn, g2, hS15.ae 0 rfl, ((hS0.var 1 rfl).aa hS15.aa).ae, h1, h2, h3]
  refine iC (a0c (hS15.gl hG2) o (ho.aa hS15) rg sv (hrI.aa hS15) kv ks (hkI.aa hS15)) ?_
  rintro r H16 ⟨bv, rfl, hT10⟩
  have hS16 := hS15.trans hT10
  simp only [RT] at hS16
  rw [hW]
  simp (disch := omega) only [↓RA, RZ, simprocAttr, hn, h1, h2, h3]
  refine Wp.aN jZ [(0, 4), (0, 6), (1, 4), (1, 6)] (by kernel_rfl) (by kernel_rfl) ?_
  simp (disch := omega) only [↓RA, RZ, simprocAttr, hn, hS16.ae 0 rfl, ((hS0.var 1 rfl).aa hS16.aa).ae]
  refine iC ((yF o (ho.aa hS16) hf0).tr) ?_
  rintro r H17 ⟨-, hT11⟩
  have hS17 := hS16.trans hT11
  simp only [RT] at hS17
  obtain ⟨av, rfl⟩ : ∃ w, w = r := ⟨r, rfl⟩
  have hka := (hS17.aw (cel := ntc) 3 rfl (fun _ => rfl)).cells
  simp (disch := omega) only [↓RA, RB, simprocAttr, hn, g2]
  refine hS17.ai [av, kv] b8D b7M rfl rfl (by first | (simp [(hS17.rd 3 rfl).cells.1, (hS17.sl hkI.sl).cells.1]; done) | simp [Value.cells, (hS17.rd 3 rfl).cells.1, (hS17.sl hkI.sl).cells.1]) (by first | (simp [(hS17.rd 3 rfl).cells.1, (hS17.sl hkI.sl).cells.1]; done) | simp [Value.cells, (hS17.rd 3 rfl).cells.1, (hS17.sl hkI.sl).cells.1]) (by simp [(hS17.rd 3 rfl).cells.2.1, (hS17.sl hkI.sl).cells.2.1]) (by decide) (by decide) fun w1 H18 hS18 => ?_
  simp only [RT] at hS18
  simp (disch := omega) only [↓RA, RZ, simprocAttr, hn]
  refine iC (a1G (hS18.gl hG2) o (ho.aa hS18) rg sv (hrI.aa hS18) w1 [⟨av, kD o mH⟩, ⟨kv, ks⟩] (hS18.aw 4 rfl (fun _ => rfl)) (by simp) (by intro k hk; simp only [dP, dI, or_false] at hk; rcases hk with rfl | rfl; (· exact ⟨hS18.aw 3 rfl (fun _ => rfl), hal, haO⟩); (· exact hkI.aa hS18))) ?_
  rintro r H19 ⟨cv, rfl, hT12⟩
  have hS19 := hS18.trans hT12
  simp only [RT] at hS19
  rw [hdc av, hW]
  simp (disch := omega) only [↓RA, RZ, simprocAttr, hn, hS17.ae 0 rfl, hS18.ae 0 rfl, ((hS0.var 1 rfl).aa hS17.aa).ae, ((hS0.var 1 rfl).aa hS18.aa).ae]
  refine Wp.aN jZ [(0, 4), (0, 6), (1, 4), (1, 6)] (by kernel_rfl) (by kernel_rfl) ?_
  simp (disch := omega) only [↓RA, RZ, simprocAttr, hn, hS19.ae 0 rfl, ((hS0.var 1 rfl).aa hS19.aa).ae]
  refine iC ((yF o (ho.aa hS19) hf0).tr) ?_
  rintro r H20 ⟨-, hT13⟩
  have hS20 := hS19.trans hT13
  simp only [RT] at hS20
  obtain ⟨dv, rfl⟩ : ∃ w, w = r := ⟨r, rfl⟩
  have hkd := (hS20.aw (cel := ntc) 6 rfl (fun _ => rfl)).cells
  simp (disch := omega) only [↓RA, RB, simprocAttr, hn, g2]
  refine hS20.ai [dv, kv] b8D b7M rfl rfl (by first | (simp [(hS20.rd 6 rfl).cells.1, (hS20.sl hkI.sl).cells.1]; done) | simp [Value.cells, (hS20.rd 6 rfl).cells.1, (hS20.sl hkI.sl).cells.1]) (by first | (simp [(hS20.rd 6 rfl).cells.1, (hS20.sl hkI.sl).cells.1]; done) | simp [Value.cells, (hS20.rd 6 rfl).cells.1, (hS20.sl hkI.sl).cells.1]) (by simp [(hS20.rd 6 rfl).cells.2.1, (hS20.sl hkI.sl).cells.2.1]) (by decide) (by decide) fun w2 H21 hS21 => ?_
  simp only [RT] at hS21
  simp (disch := omega) only [↓RA, RZ, simprocAttr, hn]
  refine hS21.cF (b0e (hS21.gl hG2) o (ho.aa hS21) rg sv (hrI.aa hS21) w2 [⟨dv, kD o mH⟩, ⟨kv, ks⟩] (hS21.aw 7 rfl (fun _ => rfl)) (by simp) (by intro k hk; simp only [dP, dI, or_false] at hk; rcases hk with rfl | rfl; (· exact ⟨hS21.aw 6 rfl (fun _ => rfl), hal, haO⟩); (· exact hkI.aa hS21))) fun H22 hS22 => ?_
  rw [hmc dv, hW]
  simp (disch := omega) only [↓RA, RZ, simprocAttr, hn, g2, hS20.ae 0 rfl, hS22.ae 0 rfl, hS21.ae 0 rfl, ((hS0.var 1 rfl).aa hS20.aa).ae, ((hS0.var 1 rfl).aa hS22.aa).ae, ((hS0.var 1 rfl).aa hS21.aa).ae, hS22.ae 1 rfl]
  refine hS22.cF (a0r (hS22.gl hG2) o (ho.aa hS22) (by omega) rg sv (hrI.aa hS22) kv ks (hkI.aa hS22) (3, 0)) fun H23 hS23 => ?_
  rw [hma]
  simp (disch := omega) only [↓RA, RZ, simprocAttr, hn, hS23.ae 0 rfl, ((hS0.var 1 rfl).aa hS23.aa).ae, hS23.ae 1 rfl]
  refine hS23.cF (a4r o (ho.aa hS23) rg sv (hrI.aa hS23) (3, 0)) fun H24 hS24 => ?_
  rw [hke, hO]
  simp (disch := omega) only [↓RA, RZ, simprocAttr, hn, hS24.ae 0 rfl, ((hS0.var 1 rfl).aa hS24.aa).ae]
  refine hS24.cF (tR o (ho.aa hS24) rg sv (hrI.aa hS24)) fun H25 hS25 => ?_
  rw [h5]
  simp (disch := omega) only [↓RA, RZ, simprocAttr, hn]
  refine hS25.eNew 2 [I 0, I 0] rfl rfl rfl mB fun A5 H26 hS26 => ?_
  simp only [RT] at hS26
  simp (disch := omega) only [↓RA, RB, simprocAttr, hn]
  refine hS26.ab 8 rfl [I (grR o rg).1.1, I (grR o rg).1.2] rfl rfl mB (by simp) fun H27 hS27 => ?_
  simp only [RT] at hS27
  simp (disch := omega) only [↓RA, RZ, simprocAttr, hn, hS27.ae 0 rfl, ((hS0.var 1 rfl).aa hS27.aa).ae]
  refine hS27.cF (a9X (hS27.gl hG2) o (ho.aa hS27) rg sv (hrI.aa hS27)) fun H28 hS28 => ?_
  rw [h5]
  simp (maxSteps := 1000000) (disch := omega) only [↓RA, RZ, simprocAttr, hn]
  refine gY (fun h6 => ?_) (fun h6 => ?_)
  ·have hy : vM o rg ks ≠ 0 := by rw [hW]; exact h6
   obtain ⟨z1, z2, z3, z4⟩ := hz hy
   have ha : wJ o rg ks (3, 0) = lS o ks := by rw [hadd, if_pos hy, hW]
   rw [z1, z4 dv, ha]
   rw [z2, z3 av] at hS28
   simp (maxSteps := 1000000) (disch := omega) only [↓RA, RZ, simprocAttr, hn, h6]
   simp (maxSteps := 1000000) (disch := omega) only [↓RA, RZ, simprocAttr, hn, (hS28.aw 2 rfl (fun _ => rfl)).len, (hS28.aw 5 rfl (fun _ => rfl)).len, tR4, h6]
   exact hS0.forget.trans hS28.forget
  have hy := dj.1 h6
  have ha : wJ o rg ks (3, 0) = 10 := by rw [hadd, if_neg (by rw [hW, hy]; simp)]
  rw [ha]
  simp (maxSteps := 1000000) (disch := omega) only [↓RA, RZ, simprocAttr, hn, tR4, h6]
  exact hS0.forget.trans hS28.forget
 have hW : vM o rg ks = lR o rg := by unfold vM; rw [if_pos h5]
 have hO : uZ o rg (3, 0) = lR o rg := by rw [hon, if_pos h5]
 simp (maxSteps := 1000000) (disch := omega) only [↓RA, RZ, simprocAttr, b6e]
 refine hS11.eNew 2 [I 0, I 0] rfl rfl rfl mB fun A6 H29 hS29 => ?_
 simp only [RT] at hS29
 simp (maxSteps := 1000000) (disch := omega) only [↓RA, RZ, simprocAttr, hn, h1, h2, h3, h5]
 refine hS29.ab 1 rfl [I 3, I 0] rfl rfl mB (by simp) fun H30 hS30 => ?_
 simp only [RT] at hS30
 simp (maxSteps := 1000000) (disch := omega) only [↓RA, RZ, simprocAttr, hn, g2, hS30.ae 0 rfl, ((hS0.var 1 rfl).aa hS30.aa).ae, h1, h2, h3, h5]
 refine hS30.cF (zS (hS30.gl hG2) o (ho.aa hS30) rg sv (hrI.aa hS30) kv ks (hkI.aa hS30)) fun H31 hS31 => ?_
 rw [hW]
 simp (maxSteps := 1000000) (disch := omega) only [↓RA, RZ, simprocAttr, hn, g2, hS31.ae 0 rfl, ((hS0.var 1 rfl).aa hS31.aa).ae, h1, h2, h3, h5]
 refine iC (a0c (hS31.gl hG2) o (ho.aa hS31) rg sv (hrI.aa hS31) kv ks (hkI.aa hS31)) ?_
 rintro r H32 ⟨bv, rfl, hT20⟩
 have hS32 := hS31.trans hT20
 simp only [RT] at hS32
 rw [hW]
 simp (maxSteps := 1000000) (disch := omega) only [↓RA, RZ, simprocAttr, hn, h1, h2, h3, h5]
 refine Wp.aN jZ [(0, 4), (0, 6), (1, 4), (1, 6)] (by kernel_rfl) (by kernel_rfl) ?_
 simp (maxSteps := 1000000) (disch := omega) only [↓RA, RZ, simprocAttr, hn, hS32.ae 0 rfl, ((hS0.var 1 rfl).aa hS32.aa).ae]
 refine iC ((yF o (ho.aa hS32) hf0).tr) ?_
 rintro r H33 ⟨-, hT21⟩
 have hS33 := hS32.trans hT21
 simp only [RT] at hS33
 obtain ⟨av, rfl⟩ : ∃ w, w = r := ⟨r, rfl⟩
 have hka := (hS33.aw (cel := ntc) 3 rfl (fun _ => rfl)).cells
 simp (maxSteps := 1000000) (disch := omega) only [↓RA, RB, simprocAttr, hn, g2]
 refine hS33.ai [av, kv] b8D b7M rfl rfl (by first | (simp [(hS33.rd 3 rfl).cells.1, (hS33.sl hkI.sl).cells.1]; done) | simp [Value.cells, (hS33.rd 3 rfl).cells.1, (hS33.sl hkI.sl).cells.1]) (by first | (simp [(hS33.rd 3 rfl).cells.1, (hS33.sl hkI.sl).cells.1]; done) | simp [Value.cells, (hS33.rd 3 rfl).cells.1, (hS33.sl hkI.sl).cells.1]) (by simp [(hS33.rd 3 rfl).cells.2.1, (hS33.sl hkI.sl).cells.2.1]) (by decide) (by decide) fun w3 H34 hS34 => ?_
 simp only [RT] at hS34
 simp (maxSteps := 1000000) (disch := omega) only [↓RA, RZ, simprocAttr, hn]
 refine iC (a1G (hS34.gl hG2) o (ho.aa hS34) rg sv (hrI.aa hS34) w3 [⟨av, kD o mH⟩, ⟨kv, ks⟩] (hS34.aw 4 rfl (fun _ => rfl)) (by simp) (by intro k hk; simp only [dP, dI, or_false] at hk; rcases hk with rfl | rfl; (· exact ⟨hS34.aw 3 rfl (fun _ => rfl), hal, haO⟩); (· exact hkI.aa hS34))) ?_
 rintro r H35 ⟨cv, rfl, hT22⟩
 have hS35 := hS34.trans hT22
 simp only [RT] at hS35
 rw [hdc av, hW]
 simp (maxSteps := 1000000) (disch := omega) only [↓RA, RZ, simprocAttr, hn, hS33.ae 0 rfl, hS34.ae 0 rfl, ((hS0.var 1 rfl).aa hS33.aa).ae, ((hS0.var 1 rfl).aa hS34.aa).ae]
 refine Wp.aN jZ [(0, 4), (0, 6), (1, 4), (1, 6)] (by kernel_rfl) (by kernel_rfl) ?_
 simp (maxSteps := 1000000) (disch := omega) only [↓RA, RZ, simprocAttr, hn, hS35.ae 0 rfl, ((hS0.var 1 rfl).aa hS35.aa).ae]
 refine iC ((yF o (ho.aa hS35) hf0).tr) ?_
 rintro r H36 ⟨-, hT23⟩
 have hS36 := hS35.trans hT23
 simp only [RT] at hS36
 obtain ⟨dv, rfl⟩ : ∃ w, w = r := ⟨r, rfl⟩
 have hkd := (hS36.aw (cel := ntc) 6 rfl (fun _ => rfl)).cells
 simp (maxSteps := 1000000) (disch := omega) only [↓RA, RB, simprocAttr, hn, g2]
 refine hS36.ai [dv, kv] b8D b7M rfl rfl (by first | (simp [(hS36.rd 6 rfl).cells.1, (hS36.sl hkI.sl).cells.1]; done) | simp [Value.cells, (hS36.rd 6 rfl).cells.1, (hS36.sl hkI.sl).cells.1]) (by first | (simp [(hS36.rd 6 rfl).cells.1, (hS36.sl hkI.sl).cells.1]; done) | simp [Value.cells, (hS36.rd 6 rfl).cells.1, (hS36.sl hkI.sl).cells.1]) (by simp [(hS36.rd 6 rfl).cells.2.1, (hS36.sl hkI.sl).cells.2.1]) (by decide) (by decide) fun w4 H37 hS37 => ?_
 simp only [RT] at hS37
 simp (maxSteps := 1000000) (disch := omega) only [↓RA, RZ, simprocAttr, hn]
 refine hS37.cF (b0e (hS37.gl hG2) o (ho.aa hS37) rg sv (hrI.aa hS37) w4 [⟨dv, kD o mH⟩, ⟨kv, ks⟩] (hS37.aw 7 rfl (fun _ => rfl)) (by simp) (by intro k hk; simp only [dP, dI, or_false] at hk; rcases hk with rfl | rfl; (· exact ⟨hS37.aw 6 rfl (fun _ => rfl), hal, haO⟩); (· exact hkI.aa hS37))) fun H38 hS38 => ?_
 rw [hmc dv, hW]
 simp (maxSteps := 1000000) (disch := omega) only [↓RA, RZ, simprocAttr, hn, g2, hS36.ae 0 rfl, hS38.ae 0 rfl, hS37.ae 0 rfl, ((hS0.var 1 rfl).aa hS36.aa).ae, ((hS0.var 1 rfl).aa hS38.aa).ae, ((hS0.var 1 rfl).aa hS37.aa).ae, hS38.ae 1 rfl]
 refine hS38.cF (a0r (hS38.gl hG2) o (ho.aa hS38) (by omega) rg sv (hrI.aa hS38) kv ks (hkI.aa hS38) (3, 0)) fun H39 hS39 => ?_
 rw [hma]
 simp (maxSteps := 1000000) (disch := omega) only [↓RA, RZ, simprocAttr, hn, hS39.ae 0 rfl, ((hS0.var 1 rfl).aa hS39.aa).ae, hS39.ae 1 rfl]
 refine hS39.cF (a4r o (ho.aa hS39) rg sv (hrI.aa hS39) (3, 0)) fun H40 hS40 => ?_
 rw [hke, hO]
 simp (maxSteps := 1000000) (disch := omega) only [↓RA, RZ, simprocAttr, hn, hS40.ae 0 rfl, ((hS0.var 1 rfl).aa hS40.aa).ae]
 refine hS40.cF (tR o (ho.aa hS40) rg sv (hrI.aa hS40)) fun H41 hS41 => ?_
 simp (maxSteps := 1000000) (disch := omega) only [↓RA, RZ, simprocAttr, hn]
 refine hS41.eNew 2 [I 0, I 0] rfl rfl rfl mB fun A7 H42 hS42 => ?_
 simp only [RT] at hS42
 simp (maxSteps := 1000000) (disch := omega) only [↓RA, RB, simprocAttr, hn]
 refine hS42.ab 8 rfl [I (grR o rg).1.1, I (grR o rg).1.2] rfl rfl mB (by simp) fun H43 hS43 => ?_
 simp only [RT] at hS43
 simp (maxSteps := 1000000) (disch := omega) only [↓RA, RZ, simprocAttr, hn, hS43.ae 0 rfl, ((hS0.var 1 rfl).aa hS43.aa).ae]
 refine hS43.cF (a9X (hS43.gl hG2) o (ho.aa hS43) rg sv (hrI.aa hS43)) fun H44 hS44 => ?_
 simp (maxSteps := 1000000) (disch := omega) only [↓RA, RZ, simprocAttr, hn, h5]
 have hgr : grR o rg = ((0, 0), 0) := by unfold grR; rw [if_neg h5]
 have hdf : a1f o rg = 0 := by unfold a1f; rw [if_neg h5]
 obtain ⟨z1, z2, z3, z4⟩ := hz (by rw [hW]; exact h5)
 have ha : wJ o rg ks (3, 0) = lR o rg := by rw [hadd, if_pos (by rw [hW]; exact h5), hW]
 rw [hgr, hdf, z1, z4 dv, ha]
 dsimp only
 rw [hgr, z2, z3 av] at hS44
 dsimp only at hS44
 simp (maxSteps := 1000000) (disch := omega) only [↓RA, RZ, simprocAttr, hn, hS44.ae 8 rfl, b9i, h5]
 simp (maxSteps := 1000000) (disch := omega) only [↓RA, RZ, simprocAttr, hn, (hS44.aw 2 rfl (fun _ => rfl)).len, (hS44.aw 5 rfl (fun _ => rfl)).len, tR4]
 exact hS0.forget.trans hS44.forget
end Go.Ds
