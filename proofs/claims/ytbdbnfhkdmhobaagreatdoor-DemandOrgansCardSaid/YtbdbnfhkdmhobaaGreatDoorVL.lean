/-
  A part of the proof of DemandOrgans.
-/
import Derived.Test.YtbdbnfhkdmhobaaGreatDoorVJ
import Derived.Test.YtbdbnfhkdmhobaaGreatDoorVD
import Derived.Test.YtbdbnfhkdmhobaaGreatDoorVE
import Derived.Test.YtbdbnfhkdmhobaaGreatDoorVB
set_option linter.unusedVariables false
set_option linter.unusedSimpArgs false
set_option linter.defProp false
set_option linter.unusedSectionVars false
namespace Go.Ds
open Go.Proofs Go.ChangeShapes Go.WideShapes Go.RowKit Go.Deep
set_option maxRecDepth 10000
section
variable {H0 : Type} {enc : TypeId × Value → H0} {w : World} {base n : Nat} {spare : Nat → Bool} {kU : Bool} {x : DataW H0 × List MemPlace}
end
section
variable {H0 : Type} {enc : TypeId × Value → H0} {w : World} {base : Nat} {kU : Bool}
end
end Go.Ds
namespace Go.Ds
open Go.Proofs Go.Proofs.Tryz
variable {H : Heap}
set_option maxRecDepth 10000
set_option maxHeartbeats 1000000
abbrev Nt := Nat × Nat
def ntc (x : Nt) : List Value := [.int .u64 x.1, .int .u64 x.2]
def Nt.Ok (x : Nt) : Prop := x.1 < 18446744073709551616 ∧ x.2 < 18446744073709551616
def sB (x : Nt) (n : Int) : Nt := if n < 64 then (x.1 ||| 2 ^ n.toNat, x.2) else (x.1, x.2 ||| 2 ^ (n - 64).toNat)
theorem a5h (i : Nat) (h : i < 64) : 2 ^ i < 18446744073709551616 := by
 have : 2 ^ i ≤ 2 ^ 63 := fm (by decide) (by omega)
 have e : 2 ^ 63 = 9223372036854775808 := rfl
 omega
theorem b4b {a b : Nat} (ha : a < 18446744073709551616) (hb : b < 18446744073709551616) : a ||| b < 18446744073709551616 := Nat.or_lt_two_pow (n := 64) ha hb
theorem orB (a b : Nat) (ha : a < 18446744073709551616) (hb : b < 18446744073709551616) : IntKind.wrap .u64 ((BitVec.ofInt (IntKind.bits .u64) (a : Int) ||| BitVec.ofInt (IntKind.bits .u64) (b : Int)).toNat : Int) = ((a ||| b : Nat) : Int) := by
 have e : (BitVec.ofInt (IntKind.bits .u64) (a : Int) ||| BitVec.ofInt (IntKind.bits .u64) (b : Int)).toNat = a ||| b := by
  rw [BitVec.toNat_or, tK a ha, tK b hb]
 rw [e]
 have := b4b ha hb
 exact pK _ (by omega) (by omega)
theorem orN (n i : Nat) (hn : n < 18446744073709551616) (hi : i < 64) : IntKind.wrap .u64 ((BitVec.ofInt (IntKind.bits .u64) (n : Int) ||| BitVec.ofInt (IntKind.bits .u64) (IntKind.wrap .u64 (1 * 2 ^ min i (IntKind.bits .u64)))).toNat : Int) = ((n ||| 2 ^ i : Nat) : Int) := by
 rw [c2L i hi]
 exact orB n (2 ^ i) hn (a5h i hi)
theorem b7z {x : Nt} (hx : Nt.Ok x) {z : Int} (h0 : 0 ≤ z) (h1 : z < 128) : Nt.Ok (sB x z) := by
 unfold sB
 split
 ·exact ⟨b4b hx.1 (a5h _ (by omega)), hx.2⟩
 ·exact ⟨hx.1, b4b hx.2 (a5h _ (by omega))⟩
theorem a7s (x : Nt) (hx : Nt.Ok x) (z : Int) (h0 : 0 ≤ z) (h1 : z < 128) : Fn prog 50 [.agg #[.int .u64 x.1, .int .u64 x.2], I z] H fun r H' => r = .agg #[.int .u64 (sB x z).1, .int .u64 (sB x z).2] ∧ St prog H H' [] := by
 obtain ⟨m, rfl⟩ := gO h0
 refine .aM func50 rfl (by kernel_rfl) (m := 21) rfl fun l hn g0 g1 => ?_
 simp (disch := omega) only [↓RA, RB, simprocAttr, g0]
 refine (sR H).eNew 2 [(.int .u64 x.1), (.int .u64 x.2)] rfl rfl rfl nA fun A1 H1 hS1 => ?_
 simp only [RT] at hS1
 simp (disch := omega) only [↓RA, RZ, simprocAttr]
 refine hS1.eNew 2 [(.int .u64 0), (.int .u64 0)] rfl rfl rfl nA fun A2 H2 hS2 => ?_
 simp only [RT] at hS2
 simp (disch := omega) only [↓RA, RB, simprocAttr, hn, g1]
 refine iA (fun q1 => ?_) (fun q1 => ?_)
 ·have e1 := orN x.1 m hx.1 (by omega)
  have e2 : sB x (m : Int) = (x.1 ||| 2 ^ m, x.2) := by unfold sB; rw [if_pos q1]; rfl
  simp (disch := omega) only [↓RA, RC, simprocAttr, q1]
  refine Wp.drw kE (by kernel_rfl) ?_
  simp (disch := omega) only [↓RA, RZ, simprocAttr, hn, g1, hS2.ld 0 rfl, e1]
  refine hS2.ab 0 rfl [(.int .u64 (x.1 ||| 2 ^ m : Nat))] rfl rfl c2b (by simp) fun H3 hS3 => ?_
  simp only [RT] at hS3
  simp (disch := omega) only [↓RA, RZ, simprocAttr, hn, hS3.ai 0 rfl]
  refine hS3.ab 1 rfl [(.int .u64 (x.1 ||| 2 ^ m : Nat)), (.int .u64 x.2)] rfl rfl nA (by simp) fun H4 hS4 => ?_
  simp only [RT] at hS4
  simp (disch := omega) only [↓RA, RZ, simprocAttr, hn, c3x, hS4.ai 1 rfl]
  rw [e2]
  exact ⟨rfl, hS4.forget⟩
 have e1 := orN x.2 (m - 64) hx.2 (by omega)
 have e3 : (m : Int) - 64 = ((m - 64 : Nat) : Int) := by omega
 have e2 : sB x (m : Int) = (x.1, x.2 ||| 2 ^ (m - 64)) := by unfold sB; rw [if_neg q1, e3]; rfl
 simp (disch := omega) only [↓RA, RC, simprocAttr, q1]
 refine Wp.drw kE (by kernel_rfl) ?_
 simp (disch := omega) only [↓RA, RZ, simprocAttr, hn, g1, hS2.ld 0 rfl, e1, e3]
 refine hS2.ab 0 rfl [(.int .u64 (x.2 ||| 2 ^ (m - 64) : Nat))] rfl rfl c2b (by simp) fun H5 hS5 => ?_
 simp only [RT] at hS5
 simp (disch := omega) only [↓RA, RZ, simprocAttr, hn, hS5.ai 0 rfl]
 refine hS5.ab 1 rfl [(.int .u64 x.1), (.int .u64 (x.2 ||| 2 ^ (m - 64) : Nat))] rfl rfl nA (by simp) fun H6 hS6 => ?_
 simp only [RT] at hS6
 simp (disch := omega) only [↓RA, RZ, simprocAttr, hn, c3x, hS6.ai 1 rfl]
 rw [e2]
 exact ⟨rfl, hS6.forget⟩
def jT (xs : List Int) : Nt := xs.foldl sB (0, 0)
def isN (z : Int) : Prop := 0 ≤ z ∧ z < 128
theorem rV : ∀ (xs : List Int) (x : Nt), (∀ z ∈ xs, isN z) → Nt.Ok x → Nt.Ok (xs.foldl sB x)
 | [], _, _, h => h
 | z :: xs, x, hz, h => by
   rw [fb]
   exact rV xs _ (fun y hy => hz y (eM _ hy)) (b7z h (hz z (eE ..)).1 (hz z (eE ..)).2)
theorem a7B (xs : List Int) {j : Nat} (hj : j < xs.length) : jT (xs.take (j + 1)) = sB (jT (xs.take j)) (iB xs j) := by
 unfold jT
 rw [List.take_add_one, dq hj, Option.toList_some, fx, ← kB _ j hj]
 rfl
theorem b2v (z : Int) (h : isN z) : Fn prog 49 [I z] H fun r H' => r = .bool true ∧ St prog H H' [] := by
 have h0 := h.1
 have h1 := h.2
 refine .aV func49 rfl (by kernel_rfl) (m := 9) rfl fun l hn g0 => ?_
 simp (disch := omega) only [↓RA, RZ, simprocAttr, hn, g0]
 refine kG (fun q1 => ?_) (fun q1 => ?_)
 rotate_left
 ·exfalso; first | omega | (simp at q1; omega)
 simp (disch := omega) only [↓RA, RZ, simprocAttr, hn, g0, c6l, q1]
 simpa using ⟨(by omega : z ≤ 127), (sR H)⟩
theorem wE (xs : List Int) (hz : ∀ z ∈ xs, isN z) (v : Value) (hv : Sl 1 (one I) H v xs) (hl : xs.length < 1000000000) :
 Fn prog 29 [v] H fun r H' => r = .tuple #[.agg #[.int .u64 (jT xs).1, .int .u64 (jT xs).2], I 0] ∧ St prog H H' [] := by
 refine .aV func29 rfl (by kernel_rfl) (m := 22) rfl fun l hn g0 => ?_
 simp (disch := omega) only [↓RA, RZ, simprocAttr]
 refine (sR H).eNew 2 [(.int .u64 0), (.int .u64 0)] rfl rfl rfl nA fun A1 H1 hS1 => ?_
 simp only [RT] at hS1
 simp (disch := omega) only [↓RA, RZ, simprocAttr]
 refine hS1.eNew 2 [(.int .u64 0), (.int .u64 0)] rfl rfl rfl nA fun A2 H2 hS2 => ?_
 simp only [RT] at hS2
 simp (disch := omega) only [↓RA, RZ, simprocAttr, hn, g0, (hS2.sl hv).len]
 refine Wp.ar (fun n l H' => l.length = 22 ∧ get l 2 = (ptr A1 0 2) ∧ get l 4 = (ptr A2 0 2) ∧ get l 7 = v ∧ get l 8 = I xs.length ∧ ∃ (j : Nat), (n + j = xs.length) ∧ get l 9 = I j ∧ St prog H H' [⟨ptr A1 0 2, 0, [(.int .u64 0), (.int .u64 0)]⟩, ⟨ptr A2 0 2, 0, [.int .u64 (jT (xs.take j)).1, .int .u64 (jT (xs.take j)).2]⟩]) xs.length ?_ ?_
 ·simp (disch := omega) only [RB, RC, simprocAttr, hn]
  exact ⟨0, by omega, rfl, hS2⟩
 rintro n l H3 ⟨hn, g2, g4, g7, g8, j, hj, g9, hS3⟩
 simp (disch := omega) only [↓RA, RB, simprocAttr, hn, g8, g9]
 refine iA (fun q1 => ?_) (fun q1 => ?_)
 ·have hx := hz _ (iE (xs := xs) (j := j) (by omega))
  have hok : Nt.Ok (jT (xs.take j)) := rV _ _ (fun z h => hz z (gy h)) ⟨by decide, by decide⟩
  simp (disch := omega) only [↓RA, RZ, simprocAttr, hn, g7, g9, (hS3.sl hv).idx, (hS3.sl hv).ld, one, q1]
  refine hS3.cF (b2v (iB xs j) hx) fun H4 hS4 => ?_
  simp (disch := omega) only [↓RA, RZ, simprocAttr, hn, g4, hS4.ai 1 rfl, q1]
  refine hS4.cF (a7s (jT (xs.take j)) hok (iB xs j) hx.1 hx.2) fun H5 hS5 => ?_
  simp (disch := omega) only [↓RA, RZ, simprocAttr, hn, g4, q1]
  refine hS5.ab 1 rfl [(.int .u64 (sB (jT (xs.take j)) (iB xs j)).1), (.int .u64 (sB (jT (xs.take j)) (iB xs j)).2)] rfl rfl nA (by simp) fun H6 hS6 => ?_
  simp only [RT] at hS6
  simp (disch := omega) only [↓RA, RZ, simprocAttr, hn, g2, g4, g7, g8, g9, q1]
  refine ⟨n - 1, by omega, j + 1, by omega, by simp, ?_⟩
  rw [a7B xs (by omega)]
  exact hS6.pick [0, 1] (by decide) rfl
 have hjj : j = xs.length := by omega
 simp (disch := omega) only [↓RA, RZ, simprocAttr, hn, g2, g4, hS3.ai 1 rfl, q1]
 refine hS3.ab 0 rfl [(.int .u64 (jT (xs.take j)).1), (.int .u64 (jT (xs.take j)).2)] rfl rfl nA (by simp) fun H7 hS7 => ?_
 simp only [RT] at hS7
 simp (disch := omega) only [↓RA, RZ, simprocAttr, hn, g2, c5y, hS7.ai 0 rfl, q1]
 rw [hjj, dZ]
 exact ⟨rfl, hS7.forget⟩
end Go.Ds
namespace Go.Ds
open Go.Proofs
variable {H : Heap}
set_option maxRecDepth 10000
set_option maxHeartbeats 1000000
theorem St.perm {P : Program} {H0 : Base} {os os' : List Ob} (h : St P H0 H os) (hp : os.Perm os') : St P H0 H os' where
 len := h.len
 old := h.old
 own o ho := h.own o (hp.mem_iff.2 ho)
 new o ho := h.new o (hp.mem_iff.2 ho)
 sep := (List.Perm.pairwise_iff (fun {_ _} hxy B hB hB2 => hxy B hB2 hB) hp).1 h.sep
theorem Lp.swap {P : Program} {B : Base} {L : Nat} {r : Loop} {xs ys zs : List Ob} (h : Lp P B L r H ((xs ++ ys) ++ zs)) : Lp P B L r H ((xs ++ zs) ++ ys) := by
 have hp : ((xs ++ ys) ++ zs).Perm ((xs ++ zs) ++ ys) := by
  rw [eG, eG]
  exact (List.perm_append_comm).append_left xs
 exact ⟨h.st.perm hp, h.get, h.lo, fun o ho => h.ne o (hp.mem_iff.2 ho)⟩
end Go.Ds
namespace Go.Ds
open Go.Proofs Go.Proofs.Tryz
variable {H : Heap}
set_option maxRecDepth 10000
set_option maxHeartbeats 1000000
def ctz (x : Nat) : Nat := ((List.range 64).find? fun i => x.testBit i).getD 64
theorem a1S {x : Nat} (h0 : x ≠ 0) (h1 : x < 18446744073709551616) : ctz x < 64 ∧ x.testBit (ctz x) = true ∧ ∀ j, j < ctz x → x.testBit j = false := by
 have hx : ∃ i, i < 64 ∧ x.testBit i = true := by
  refine fQ fun hn => h0 ?_
  refine fV fun i => ?_
  rw [ig]
  by_cases hi : i < 64
  ·by_cases hb : x.testBit i = true
   ·exact absurd ⟨i, hi, hb⟩ hn
   ·simpa using hb
  ·exact Nat.testBit_lt_two_pow (dK (show x < 2 ^ 64 by simpa using h1) (fm (by decide) (by omega)))
 unfold ctz
 cases hf : (List.range 64).find? fun i => x.testBit i with
 | none =>
   obtain ⟨i, hi, hb⟩ := hx
   have := gk.1 hf i (dC.2 hi)
   exact absurd hb (by simpa using this)
 | some i =>
   obtain ⟨hb, ys, bs, he, hn⟩ := List.find?_eq_some_iff_append.1 hf
   have hi : i < 64 := dC.1 (he ▸ (by simp : i ∈ ys ++ i :: bs))
   refine ⟨hi, hb, fun j hj0 => ?_⟩
   have hj : j < i := hj0
   have hl : ys.length = i := by
    have h2 : (List.range 64)[ys.length]? = some i := by rw [he]; simp
    have h3 : ys.length < 64 := by
     have := congrArg List.length he
     simp at this
     omega
    rw [gG h3] at h2
    exact cV h2
   have hm : j ∈ ys := by
    have h2 : (List.range 64)[j]? = some j := gG (by omega)
    rw [he, eo (by simpa using (hl ▸ hj))] at h2
    exact dO h2
   simpa using hn j hm
theorem a3X {x : Nat} (h0 : x ≠ 0) (h1 : x < 18446744073709551616) : ∃ m, x = 2 ^ ctz x * (2 * m + 1) := by
 obtain ⟨c1, c2, c3⟩ := a1S h0 h1
 generalize ctz x = k at c1 c2 c3
 have hd : x % 2 ^ k = 0 := by
  refine fV fun i => ?_
  rw [Nat.testBit_mod_two_pow, ig]
  by_cases hi : i < k
  ·rw [c3 i hi, Bool.and_false]
  ·rw [decide_eq_false hi, fw]
 have h2 : x / 2 ^ k % 2 = 1 := by
  rw [← eN]
  have := c2
  rw [tb] at this
  exact of_decide_eq_true this
 refine ⟨x / 2 ^ k / 2, ?_⟩
 have h3 := Nat.div_add_mod x (2 ^ k)
 have h4 := Nat.div_add_mod (x / 2 ^ k) 2
 rw [hd, gP] at h3
 rw [← h3]
 congr 1
 rw [h3]
 omega
theorem b7M {x : Nat} (h0 : x ≠ 0) (h1 : x < 18446744073709551616) : x &&& (18446744073709551616 - x) = 2 ^ ctz x := by
 obtain ⟨m, hm⟩ := a3X h0 h1
 obtain ⟨c1, _, _⟩ := a1S h0 h1
 generalize ctz x = k at hm c1
 have e64 : (18446744073709551616 : Nat) = 2 ^ k * (2 * 2 ^ (63 - k)) := by
  have : 2 ^ k * (2 * 2 ^ (63 - k)) = 2 ^ 64 := by rw [← Nat.pow_succ', ← Nat.pow_add]; congr 1; omega
  rw [this]
 have hml : m < 2 ^ (63 - k) := by
  rw [e64, hm] at h1
  have := Nat.lt_of_mul_lt_mul_left h1
  omega
 have e2 : 18446744073709551616 - x = 2 ^ k * (2 * (2 ^ (63 - k) - (m + 1)) + 1) := by
  rw [e64, hm, ← Nat.mul_sub]
  congr 1
  omega
 rw [e2, hm]
 refine fV fun i => ?_
 rw [Nat.testBit_and, fZ]
 have hs : ∀ y : Nat, (2 ^ k * y).testBit i = (decide (k ≤ i) && y.testBit (i - k)) := fun y => by rw [Nat.mul_comm, Nat.testBit_mul_two_pow]
 rw [hs, hs]
 by_cases hi : k ≤ i
 ·rw [decide_eq_true hi, gK, gK]
  by_cases he : i = k
  ·subst he
   rw [Nat.sub_self, Nat.testBit_zero, Nat.testBit_zero]
   simp
  ·obtain ⟨j, hj⟩ : ∃ j, i - k = j + 1 := ⟨i - k - 1, by omega⟩
   rw [hj, Nat.testBit_succ, Nat.testBit_succ, show (2 * m + 1) / 2 = m by omega, show (2 * (2 ^ (63 - k) - (m + 1)) + 1) / 2 = 2 ^ (63 - k) - (m + 1) by omega, Nat.testBit_two_pow_sub_succ hml, decide_eq_false (by omega : ¬ k = i)]
   cases m.testBit j <;> simp
 ·rw [decide_eq_false hi, fw, decide_eq_false (by omega)]
  rfl
theorem c3W : ((List.range 64).all fun k => decide (2 ^ k * 285870213051353865 % 18446744073709551616 / 288230376151711744 < 64) && decide (t64.getD (2 ^ k * 285870213051353865 % 18446744073709551616 / 288230376151711744) 99 = k)) = true := by kernel_rfl
theorem b6G {P : Program} {t : TypeId} {n : Nat} {elem : TypeId} {size : Nat} (ha : P.underlying t = some (.array n elem)) (hs : iD P elem = some size) (A i : Nat) (k : IntKind) (j : Int) (h0 : 0 ≤ j) (h1 : j < n) :
 vV (iS P t) P t (.pointer (some ⟨A, i, none⟩)) (.int k j) = some (.pointer (some ⟨A, i + j.toNat * size, none⟩)) := by
 have hn : iS P t = none := by simp [iS, iF, ha]
 rw [hn]
 simp only [vV, a2f, ha, hs, cW]
 rw [if_pos (by simp [h0, h1])]
theorem c0I (k : IntKind) (j : Int) (h0 : 0 ≤ j) (h1 : j < 64) : vV (iS prog 273) prog 273 (.pointer (some ⟨0, 0, none⟩)) (.int k j) = some (.pointer (some ⟨0, 0 + j.toNat * 1, none⟩)) :=
 b6G (n := 64) (elem := 5) (size := 1) (by kernel_rfl) (by kernel_rfl) 0 0 k j h0 h1
theorem b1L (g : Nat) (l : List Value) (K : Value → Prop) : jG (.global g) l K = K (.pointer (some ⟨g, 0, none⟩)) := by simp [jG, iO, ev]
theorem gld (hG : Glob gH H) (j : Nat) (hj : j < 64) (s : Option Nat) : oS (some false) s H (.pointer (some ⟨0, j, none⟩)) = some (.int .u8 (t64.getD j 0 : Nat)) := by
 have h0 : iQ H 0 = some (.cells (t64.map fun (n : Nat) => Value.int .u8 (.ofNat n)) 5 false 0 1) := by
  rw [hG.same 0 (by decide)]
  rfl
 simp only [oS, jA, h0]
 have hl : (t64.map fun (n : Nat) => Value.int .u8 (.ofNat n)).length = 64 := by rw [dX]; rfl
 rw [if_pos (by rw [hl]; simp; omega)]
 simp only [cW]
 rw [dS (by omega), dH, gP, eH, dq (show j < t64.length from hj)]
 rw [dM, dc, dq (show j < t64.length from hj)]
 rfl
theorem a9h (m : Int) : IntKind.wrap .u64 m = m % 18446744073709551616 := by
 show (if (false && decide (m % 18446744073709551616 ≥ 9223372036854775808)) = true then m % 18446744073709551616 - 18446744073709551616 else m % 18446744073709551616) = _
 simp
theorem c4T (hG : Glob gH H) (x : Nat) (h0 : x ≠ 0) (h1 : x < 18446744073709551616) : Fn prog 155 [.int .u64 x] H fun r H' => r = I (ctz x) ∧ St prog H H' [] := by
 obtain ⟨c1, _, _⟩ := a1S h0 h1
 have hd := dr.1 c3W (ctz x) (dC.2 c1)
 rw [cX, decide_eq_true_eq, decide_eq_true_eq] at hd
 have eA : IntKind.wrap .u64 (0 - (x : Int)) = ((18446744073709551616 - x : Nat) : Int) := by
  rw [a9h]
  omega
 have eB : IntKind.wrap .u64 ((BitVec.ofInt (IntKind.bits .u64) (x : Int) &&& BitVec.ofInt (IntKind.bits .u64) ((18446744073709551616 - x : Nat) : Int)).toNat : Int) = ((2 ^ ctz x : Nat) : Int) := by
  rw [gE, tK x h1, tK _ (by omega), b7M h0 h1]
  exact pK _ (by omega) (by have := a5h (ctz x) c1; omega)
 have eC : IntKind.wrap .u64 (((2 ^ ctz x : Nat) : Int) * 285870213051353865) = ((2 ^ ctz x * 285870213051353865 % 18446744073709551616 : Nat) : Int) := by
  rw [a9h]
  rfl
 have eD : ((2 ^ ctz x * 285870213051353865 % 18446744073709551616 : Nat) : Int).fdiv (2 ^ min 58 (IntKind.bits .u64)) = ((2 ^ ctz x * 285870213051353865 % 18446744073709551616 / 288230376151711744 : Nat) : Int) := by
  rw [show (2 : Int) ^ min 58 (IntKind.bits .u64) = ((288230376151711744 : Nat) : Int) from rfl]
  exact gx _ (by omega)
 have hd1 := hd.1
 have hd2 := hd.2
 generalize 2 ^ ctz x * 285870213051353865 % 18446744073709551616 / 288230376151711744 = i at eD hd1 hd2
 refine .aV func155 rfl (by kernel_rfl) (m := 14) rfl fun l hn g0 => ?_
 have iQ := gld hG i hd1 (some 1)
 rw [show t64.getD i 0 = ctz x from by rw [← hd2, dc, dc, dq (show i < t64.length from hd1)]; rfl] at iQ
 have hidx := c0I .u64 (i : Int) (by omega) (by omega)
 rw [eK, Nat.mul_one, fM] at hidx
 simp (disch := omega) only [↓RA, RB, simprocAttr, hn, g0]
 refine iA (fun q => ?_) (fun q => ?_)
 ·exfalso; omega
 simp (disch := omega) only [↓RA, RZ, simprocAttr, hn, g0, c4f, eA, eB, eC, eD, b1L, iQ, hidx, q]
 first | exact (sR H) | exact ⟨rfl, (sR H)⟩
theorem a5m {x : Nat} (h0 : x ≠ 0) (h1 : x < 18446744073709551616) (j : Nat) : (x &&& (x - 1)).testBit j = (x.testBit j && !decide (j = ctz x)) := by
 obtain ⟨m, hm⟩ := a3X h0 h1
 generalize ctz x = k at hm
 have hp : 0 < 2 ^ k := Nat.two_pow_pos k
 have e1 : x = 2 ^ (k + 1) * m + 2 ^ k := by rw [hm, Nat.pow_succ, Nat.mul_add, Nat.mul_one, Nat.mul_assoc]
 have e2 : x - 1 = 2 ^ (k + 1) * m + (2 ^ k - 1) := by omega
 have hl : 2 ^ k < 2 ^ (k + 1) := Nat.pow_lt_pow_right (by decide) (by omega)
 rw [Nat.testBit_and, e2]
 rw [e1, Nat.testBit_two_pow_mul_add m hl, Nat.testBit_two_pow_mul_add m (by omega : 2 ^ k - 1 < 2 ^ (k + 1))]
 by_cases hj : j < k + 1
 ·rw [if_pos hj, if_pos hj, fZ, Nat.testBit_two_pow_sub_one]
  by_cases he : j = k
  ·simp [he]
  ·simp [show ¬ k = j by omega]
 ·rw [if_neg hj, if_neg hj, show decide (j = k) = false from decide_eq_false (by omega)]
  simp
theorem b1Z {x : Nat} (h0 : x ≠ 0) (h1 : x < 18446744073709551616) : pJ x = ctz x :: pJ (x &&& (x - 1)) := by
 obtain ⟨c1, c2, c3⟩ := a1S h0 h1
 have hb := a5m h0 h1
 generalize ctz x = k at c1 c2 c3 hb
 obtain ⟨t, ht⟩ := a6L c1
 have hnd : (List.range 64).Nodup := List.nodup_range
 unfold pJ
 rw [ht, eU, eU, List.filter_cons_of_pos (by simpa using c2), List.filter_cons_of_neg (by rw [hb]; simp)]
 rw [ht] at hnd
 have e1 : (List.range k).filter (fun i => x.testBit i) = [] := List.filter_eq_nil_iff.2 fun i hi => by simpa using c3 i (dC.1 hi)
 have e2 : (List.range k).filter (fun i => (x &&& (x - 1)).testBit i) = [] := List.filter_eq_nil_iff.2 fun i hi => by rw [hb, c3 i (dC.1 hi)]; simp
 rw [e1, e2, fc, fc]
 congr 1
 refine List.filter_congr fun i hi => ?_
 have hne : i ≠ k := fun e => by
  subst e
  exact (List.nodup_cons.1 (List.nodup_append.1 hnd).2.1).1 hi
 rw [hb, decide_eq_false hne]
 simp
theorem a9l : pJ 0 = [] := List.filter_eq_nil_iff.2 fun i _ => by simp
def pW (x : Nt) : List Int := (pJ x.1).map (fun (i : Nat) => (i : Int)) ++ (pJ x.2).map fun (i : Nat) => 64 + (i : Int)
def a7q (x : Nt) (i : Nat) : Nat := if i = 0 then x.1 else x.2
def a4O (x : Nt) (i : Nat) : List Int := (pJ (a7q x i)).map fun (j : Nat) => 64 * (i : Int) + (j : Int)
def a5n (x : Nt) (i : Nat) : List Int := (List.range i).flatMap (a4O x)
theorem yZ (x : Nt) (i : Nat) : a5n x (i + 1) = a5n x i ++ a4O x i := by
 unfold a5n
 rw [ek, dG, dL, fF, dB]
theorem a6i (x : Nt) : a5n x 2 = pW x := by
 rw [yZ, yZ]
 unfold pW a5n a4O a7q
 simp
theorem b7v {x : Nt} (hx : Nt.Ok x) (i : Nat) : a7q x i < 18446744073709551616 := by
 unfold a7q
 split
 ·exact hx.1
 ·exact hx.2
theorem c4J (a b : Int) : oT prog 249 (.agg #[.int .u64 a, .int .u64 b]) (I 0) = some (.int .u64 a) := by kernel_rfl
theorem c4P (a b : Int) : oT prog 249 (.agg #[.int .u64 a, .int .u64 b]) (I 1) = some (.int .u64 b) := by kernel_rfl
theorem c5O (x : Nt) (i : Nat) (h : i < 2) : a2h (nS prog 249) prog 249 (.agg #[.int .u64 x.1, .int .u64 x.2]) (I i) = some (.int .u64 (a7q x i)) := by
 rw [← a5N]
 rcases (by omega : i = 0 ∨ i = 1) with rfl | rfl
 ·exact c4J _ _
 ·exact c4P _ _
theorem c0Z (x : Nt) (hx : Nt.Ok x) (A : Nat) (f : Value) (J : List Int → Heap → Prop) (h0 : J [] H) (hg : ∀ d H1, J d H1 → Var H1 A 2 [.int .u64 x.1, .int .u64 x.2] ∧ Glob gH H1)
 (hst : ∀ d H1 H2, J d H1 → St prog H1 H2 [] → J d H2)
 (hf : ∀ d c e H1, pW x = d ++ c :: e → J d H1 → rR prog f [I c] H1 fun v H2 => v = .bool true ∧ J (d ++ [c]) H2) :
 FnS prog 154 [f, ptr A 0 2] H fun _ H' => J (pW x) H' := by
 have hV0 := (hg _ _ h0).1
 refine FnS.ba func154 rfl (by kernel_rfl) fun l hl => ?_
 have hn : l.length = 29 := by rw [hl]; rfl
 have g0 : get l 0 = f := by rw [hl]; rfl
 have g1 : get l 1 = (ptr A 0 2) := by rw [hl]; rfl
 clear hl
 simp (disch := omega) only [↓RA, RZ, simprocAttr, hn, g1, hV0.ld, b1D]
 refine Wp.ar (fun n l H' => l.length = 29 ∧ get l 0 = f ∧ get l 1 = ptr A 0 2 ∧ get l 9 = .agg #[.int .u64 x.1, .int .u64 x.2] ∧ ∃ i : Nat, n + i = 2 ∧ get l 10 = I i ∧ J (a5n x i) H') 2 ?_ ?_
 ·simp (disch := omega) only [RB, RC, simprocAttr, hn, g0, g1]
  exact ⟨0, rfl, rfl, h0⟩
 rintro n l H9 ⟨hn, g0, g1, g9, i, hi, pH, hJ⟩
 simp (disch := omega) only [↓RA, RB, simprocAttr, hn, pH]
 refine iA (fun q1 => ?_) (fun q1 => ?_)
 ·have hix := c5O x i (by omega)
  have hwl := b7v hx i
  simp (disch := omega) only [↓RA, RZ, simprocAttr, hn, g9, pH, q1, hix]
  refine Wp.ar (fun n2 l H' => l.length = 29 ∧ get l 0 = f ∧ get l 1 = ptr A 0 2 ∧ get l 9 = .agg #[.int .u64 x.1, .int .u64 x.2] ∧ get l 10 = I i ∧ get l 3 = I i ∧ ∃ (y : Nat) (d : List Nat), (n2 = (pJ y).length ∧ y < 18446744073709551616 ∧ pJ (a7q x i) = d ++ pJ y) ∧ get l 4 = .int .u64 y ∧ J (a5n x i ++ d.map fun (j : Nat) => 64 * (i : Int) + (j : Int)) H') (pJ (a7q x i)).length ?_ ?_
  ·simp (disch := omega) only [RB, RC, simprocAttr, hn, g0, g1, g9, pH]
   exact ⟨a7q x i, [], ⟨rfl, hwl, rfl⟩, rfl, by rw [gj, dB]; exact hJ⟩
  rintro n2 l H8 ⟨hn, g0, g1, g9, pH, g3, y, d, ⟨hn2, hy, hbd⟩, g4, hJ2⟩
  simp (disch := omega) only [↓RA, RB, simprocAttr, hn, g4]
  refine iA (fun q2 => ?_) (fun q2 => ?_)
  ·have hy0 : y ≠ 0 := by omega
   have hc := a1S hy0 hy
   have hlow := b1Z hy0 hy
   have hGl := (hg _ _ hJ2).2
   have eY1 : IntKind.wrap .u64 ((y : Int) - 1) = ((y - 1 : Nat) : Int) := by
    rw [a9h]
    omega
   have eY2 : IntKind.wrap .u64 ((BitVec.ofInt (IntKind.bits .u64) (y : Int) &&& BitVec.ofInt (IntKind.bits .u64) ((y - 1 : Nat) : Int)).toNat : Int) = ((y &&& (y - 1) : Nat) : Int) := by
    rw [gE, tK y hy, tK _ (by omega)]
    have := Nat.and_le_left (n := y) (m := y - 1)
    exact pK _ (by omega) (by omega)
   have hyl : y &&& (y - 1) < 18446744073709551616 := Nat.lt_of_le_of_lt Nat.and_le_left hy
   have hmem : pW x = (a5n x i ++ d.map fun (j : Nat) => 64 * (i : Int) + (j : Int)) ++ (64 * (i : Int) + (ctz y : Int)) :: ((pJ (y &&& (y - 1))).map (fun (j : Nat) => 64 * (i : Int) + (j : Int)) ++ ((List.range 2).drop (i + 1)).flatMap (a4O x)) := by
    rw [← a6i]
    unfold a5n
    have e : List.range 2 = List.range i ++ i :: (List.range 2).drop (i + 1) := by
     rcases (by omega : i = 0 ∨ i = 1) with rfl | rfl <;> rfl
    rw [congrArg (List.flatMap (a4O x)) e, dG, dL]
    rw [show a4O x i = (d ++ pJ y).map (fun (j : Nat) => 64 * (i : Int) + (j : Int)) from by unfold a4O; rw [hbd]]
    rw [hlow, dT, ed]
    simp only [eG, ia]
   have hc1 := hc.1
   simp (disch := omega) only [↓RA, RZ, simprocAttr, hn, g0, g3, g4, q2]
   refine (sR H8).cF (c4T ((sR H8).gl hGl) y hy0 hy) fun H1 hS1 => ?_
   simp (disch := omega) only [↓RA, RZ, simprocAttr, hn, q2]
   refine a7O (hf _ _ _ _ hmem (hst _ _ _ hJ2 hS1)) ?_
   rintro r H10 ⟨rfl, hJ3⟩
   simp (disch := omega) only [↓RA, RZ, simprocAttr, hn, g0, g1, g9, pH, g3, g4, q2, eY1, eY2]
   refine ⟨(pJ (y &&& (y - 1))).length, by rw [hn2, hlow]; simp, y &&& (y - 1), d ++ [ctz y], ⟨rfl, hyl, by rw [hbd, hlow]; simp⟩, rfl, ?_⟩
   rw [dT, ed, gj, ← eG]
   exact hJ3
  simp (disch := omega) only [↓RA, RZ, simprocAttr, hn, g0, g1, g9, pH, q2]
  have hy0 : y = 0 := by omega
  subst hy0
  refine ⟨n - 1, by omega, i + 1, by omega, by simp, ?_⟩
  rw [yZ]
  have : a4O x i = d.map fun (j : Nat) => 64 * (i : Int) + (j : Int) := by
   unfold a4O
   rw [hbd, a9l, dB]
  rw [this]
  exact hJ2
 simp (disch := omega) only [↓RA, RZ, simprocAttr, c4Y, q1]
 have e : i = 2 := by omega
 subst e
 rw [← a6i]
 exact hJ
theorem a2e (x : Nt) : (pW x).length ≤ 128 := by
 unfold pW
 rw [dp, dX, dX]
 have h1 := a6S x.1 64
 have h2 := a6S x.2 64
 unfold b4m at h1 h2
 unfold pJ
 omega
theorem b2x (hG : Glob gH H) (x : Nt) (hx : Nt.Ok x) (A : Nat) (hA : Var H A 2 [.int .u64 x.1, .int .u64 x.2]) :
 Fn prog 153 [.slice none 0 0, .func (.func 154) #[] #[ptr A 0 2]] H fun r H' => St prog H H' [⟨r, 1, (pW x).flatMap (one I)⟩] := by
 refine .aM func153 rfl (by kernel_rfl) (m := 13) rfl fun l hn g0 g1 => ?_
 simp (disch := omega) only [↓RA, RB, simprocAttr, g0]
 refine (sR H).eNew 1 [(.slice none 0 0)] rfl rfl rfl a9S fun A1 H1 hS1 => ?_
 simp only [RT] at hS1
 simp (disch := omega) only [↓RA, RB, simprocAttr, g1]
 have hS2 := hS1.nil 0
 simp only [RT] at hS2
 refine Wp.cJ fun lrg1 hlrg1 => ?_
 have hnrg1 : lrg1.length = 13 := by rw [hlrg1]; simp (disch := omega) only [RB, simprocAttr, hn]
 have g2rg1 : get lrg1 2 = (ptr A1 0 1) := by rw [hlrg1]; simp (disch := omega) only [RB, simprocAttr, hn]
 have g4rg1 : get lrg1 4 = (.slice none 0 0) := by rw [hlrg1]; simp (disch := omega) only [RB, simprocAttr, hn]
 have gfrg1 : get lrg1 6 = .func (.func 154) #[] [(ptr A 0 2)].toArray := by rw [hlrg1]; simp (disch := omega) only [RB, simprocAttr, hn]
 clear hlrg1
 refine Wp.cu gfrg1 fun rg1 hstrg1 hpdrg1 htmrg1 hpsrg1 hasrg1 hbdrg1 => ?_
 have hreqrg1 : ({ rg1 with state := .ready, pending := none } : Loop) = rg1 := by
  cases rg1
  simp only at hstrg1 hpdrg1
  subst hstrg1 hpdrg1
  rfl
 have hLprg1 := Lp.enter hS2 rg1
 generalize H1.cons (.loop rg1) = Hcrg1 at hLprg1 ⊢
 generalize H1.length = Lrg1 at hLprg1 ⊢
 refine (c0Z x hx A (.func (.yield Lrg1) #[] #[]) (fun d H1 => ∃ ow, Lp prog H Lrg1 rg1 H1 [⟨ptr A1 0 1, 0, [ow]⟩, ⟨ow, 1, d.flatMap (one I)⟩]) ⟨.slice none 0 0, hLprg1⟩ ?_ ?_ ?_).mono ?_
 ·rintro d H1 ⟨ow, h⟩
  exact ⟨hA.ae h.st.ae, h.st.gl hG⟩
 ·rintro d H1 H2 ⟨ow, h⟩ hS
  exact ⟨ow, by simpa using h.ext hS⟩
 ·rintro d c e H20 hm ⟨ow, hLpj⟩
  have hml := a2e x
  have hdl : d.length < 128 := by
   rw [hm, dp, dy] at hml
   omega
  refine a0q hLpj.get (by rw [hpsrg1]; rfl) hstrg1 ?_
  refine Wp.bR (l := put lrg1 (some 7) (I c)) hasrg1 (by rw [hpsrg1, htmrg1]; first | exact (mU ..).symm | rfl | simp [put, mU]) ?_
  simp (disch := omega) only [↓RA, RZ, simprocAttr, hnrg1]
  refine ⟨rg1, hLpj.get, hstrg1, ?_⟩
  have hYBs1 := hLpj.set (fun h => h) { rg1 with state := .busy }
  have hKBs1 : ∀ B, B ≠ Lrg1 → iQ (hset H20 Lrg1 (.loop { rg1 with state := .busy })) B = iQ H20 B := fun B h => iZ _ (eV h)
  have hNBs1 : (hset H20 Lrg1 (.loop { rg1 with state := .busy })).length = H20.length := jJ ..
  generalize hset H20 Lrg1 (.loop { rg1 with state := .busy }) = HBs1 at hYBs1 hKBs1 hNBs1 ⊢
  refine Wp.bR hbdrg1 rfl ?_
  have hZBs1 := hYBs1.st
  obtain ⟨Bs1, hBBs1, hS3⟩ := hZBs1.aB (os := [⟨ptr A1 0 1, 0, _⟩, ⟨ow, 1, _⟩])
  simp (disch := omega) only [↓RA, RZ, simprocAttr, hnrg1, g2rg1, hS3.ld 0 rfl]
  refine hS3.ag [I c] vD a0R rfl rfl (by simp [Value.cells]) rfl rfl (by decide) (by decide) fun w1 H2 hS4 => ?_
  simp only [RT] at hS4
  simp (disch := omega) only [↓RA, RZ, simprocAttr, hnrg1]
  refine hS4.al 1 rfl (hS4.rd 2 rfl) vD (by rw [nX, dX]; simp; omega) fun w2 H3 hS5 => ?_
  simp only [RT] at hS5
  simp (disch := omega) only [↓RA, RB, simprocAttr, hnrg1, g2rg1]
  refine hS5.ab 0 rfl [w2] (by rw [(hS5.rd 1 rfl).cells.1]) (by simp [(hS5.rd 1 rfl).cells.2.1]) a9S (by simp) fun H4 hS6 => ?_
  simp only [RT] at hS6
  simp (disch := omega) only [↓RA, simprocAttr]
  have hS7 := hS6.pick (os' := [⟨ptr A1 0 1, 0, _⟩, ⟨w2, 1, _⟩]) [0, 1] (by decide) rfl
  have hWBs1 := (hYBs1.body (hBBs1 ▸ hS7)).set (fun h => h) rg1
  rw [← hreqrg1] at hWBs1
  refine ⟨_, (hYBs1.body (hBBs1 ▸ hS7)).get, rfl, w2, ?_⟩
  rw [dG]
  exact hreqrg1 ▸ hWBs1
 ·rintro _ H21 ⟨ow, hLp2⟩
  refine ⟨_, hLp2.get, (by rw [hstrg1]; exact fun h => by cases h), fun _ => ?_, fun c hc => by rw [hpdrg1] at hc; cases hc⟩
  have hAAf1 := (hLp2.set (fun h => h) { rg1 with state := .exhausted }).st
  have hKAf1 : ∀ B, B ≠ Lrg1 → iQ (hset H21 Lrg1 (.loop { rg1 with state := .exhausted })) B = iQ H21 B := fun B h => iZ _ (eV h)
  generalize hset H21 Lrg1 (.loop { rg1 with state := .exhausted }) = HAf1 at hAAf1 hKAf1 ⊢
  simp (disch := omega) only [↓RA, RZ, simprocAttr, hnrg1, g2rg1, hAAf1.ld 0 rfl, c3k]
  exact hAAf1.pick [1] (by decide) rfl
theorem a9i (hG : Glob gH H) (x : Nt) (hx : Nt.Ok x) (A : Nat) (hA : Var H A 2 [.int .u64 x.1, .int .u64 x.2]) :
 Fn prog 120 [.func (.func 154) #[] #[ptr A 0 2]] H fun r H' => St prog H H' [⟨r, 1, (pW x).flatMap (one I)⟩] := by
 refine .aV func120 rfl (by kernel_rfl) (m := 5) rfl fun l hn g0 => ?_
 simp (disch := omega) only [↓RA, RZ, simprocAttr, hn, g0]
 refine iG ((b2x ((sR H).gl hG) x hx A (hA.ae (sR H).ae)).tr) ?_
 rintro r H1 ⟨-, hT1⟩
 have hS1 := (sR H).trans hT1
 simp only [RT] at hS1
 simp (disch := omega) only [↓RA, RB, simprocAttr, hn, c4R]
 exact hS1
theorem b8Y (x : Nt) : Fn prog 121 [.agg #[.int .u64 x.1, .int .u64 x.2]] H fun r H' => ∃ A, r = .func (.func 154) #[] #[ptr A 0 2] ∧ St prog H H' [⟨ptr A 0 2, 0, [.int .u64 x.1, .int .u64 x.2]⟩] := by
 refine .aV func121 rfl (by kernel_rfl) (m := 4) rfl fun l hn g0 => ?_
 simp (disch := omega) only [↓RA, RB, simprocAttr, g0]
 refine (sR H).eNew 2 [(.int .u64 x.1), (.int .u64 x.2)] rfl rfl rfl nA fun A1 H1 hS1 => ?_
 simp only [RT] at hS1
 simp (disch := omega) only [↓RA, RZ, simprocAttr, hn, c2H]
 exact ⟨A1, rfl, hS1⟩
theorem a9g (hG : Glob gH H) (x : Nt) (hx : Nt.Ok x) :
 Fn prog 89 [.agg #[.int .u64 x.1, .int .u64 x.2]] H fun r H' => St prog H H' [⟨r, 1, (pW x).flatMap (one I)⟩] := by
 refine .aV func89 rfl (by kernel_rfl) (m := 6) rfl fun l hn g0 => ?_
 simp (disch := omega) only [↓RA, RB, simprocAttr, g0]
 refine (sR H).eNew 2 [(.int .u64 x.1), (.int .u64 x.2)] rfl rfl rfl nA fun A1 H1 hS1 => ?_
 simp only [RT] at hS1
 simp (disch := omega) only [↓RA, RZ, simprocAttr, hn, hS1.ai 0 rfl]
 refine iG (b8Y x) ?_
 rintro r H2 ⟨A2, rfl, hT1⟩
 have hS2 := hS1.trans hT1
 simp only [RT] at hS2
 simp (disch := omega) only [↓RA, RZ, simprocAttr, hn]
 refine iG ((a9i (hS2.gl hG) x hx A2 (hS2.var 1 rfl)).tr) ?_
 rintro r H3 ⟨-, hT2⟩
 have hS3 := hS2.trans hT2
 simp only [RT] at hS3
 simp (disch := omega) only [↓RA, RB, simprocAttr, hn, c6m]
 exact hS3.pick [2] (by decide) rfl
def a5F (a b : Nat) : Nat := (BitVec.ofNat 64 a &&& ~~~ BitVec.ofNat 64 b).toNat
theorem a4K (a b : Nat) : a5F a b < 18446744073709551616 := (BitVec.ofNat 64 a &&& ~~~ BitVec.ofNat 64 b).isLt
theorem c0l (a b : Nat) : IntKind.wrap .u64 ((BitVec.ofInt (IntKind.bits .u64) (a : Int) &&& ~~~ BitVec.ofInt (IntKind.bits .u64) (b : Int)).toNat : Int) = ((a5F a b : Nat) : Int) := by
 have e : (BitVec.ofInt (IntKind.bits .u64) (a : Int) &&& ~~~ BitVec.ofInt (IntKind.bits .u64) (b : Int)).toNat = a5F a b := by
  unfold a5F
  rw [fU, fU]
  rfl
 rw [e]
 have := a4K a b
 exact pK _ (by omega) (by omega)
theorem a7l (a b j : Nat) (ha : a < 18446744073709551616) (hj : j < 64) : (a5F a b).testBit j = (a.testBit j && !b.testBit j) := by
 unfold a5F
 have h1 : (BitVec.ofNat 64 a &&& ~~~ BitVec.ofNat 64 b).toNat.testBit j = (BitVec.ofNat 64 a &&& ~~~ BitVec.ofNat 64 b).getLsbD j := rfl
 rw [h1, BitVec.getLsbD_and, BitVec.getLsbD_not, BitVec.getLsbD_ofNat, BitVec.getLsbD_ofNat]
 simp [hj]
def woF (x y : Nt) : Nt := (a5F x.1 y.1, a5F x.2 y.2)
theorem c1T (x y : Nt) : Nt.Ok (woF x y) := ⟨a4K _ _, a4K _ _⟩
theorem c0p (x y : Nt) : Fn prog 62 [.agg #[.int .u64 x.1, .int .u64 x.2], .agg #[.int .u64 y.1, .int .u64 y.2]] H fun r H' => r = .agg #[.int .u64 (woF x y).1, .int .u64 (woF x y).2] ∧ St prog H H' [] := by
 have e1 := c0l x.1 y.1
 have e2 := c0l x.2 y.2
 refine .aM func62 rfl (by kernel_rfl) (m := 16) rfl fun l hn g0 g1 => ?_
 simp (disch := omega) only [↓RA, RB, simprocAttr, g0]
 refine (sR H).eNew 2 [(.int .u64 x.1), (.int .u64 x.2)] rfl rfl rfl nA fun A1 H1 hS1 => ?_
 simp only [RT] at hS1
 simp (disch := omega) only [↓RA, RB, simprocAttr, g1]
 refine hS1.eNew 2 [(.int .u64 y.1), (.int .u64 y.2)] rfl rfl rfl nA fun A2 H2 hS2 => ?_
 simp only [RT] at hS2
 simp (disch := omega) only [↓RA, RZ, simprocAttr]
 refine hS2.eNew 2 [(.int .u64 0), (.int .u64 0)] rfl rfl rfl nA fun A3 H3 hS3 => ?_
 simp only [RT] at hS3
 simp (disch := omega) only [↓RA, RZ, simprocAttr, hn, hS3.ld 0 rfl, hS3.ld 1 rfl, b6P, e1, e2]
 refine hS3.ab 2 rfl [_, _] rfl rfl nA (by simp) fun H4 hS4 => ?_
 simp only [RT] at hS4
 simp (disch := omega) only [↓RA, RZ, simprocAttr, hn, c5Y, hS4.ai 2 rfl]
 exact ⟨rfl, hS4.forget⟩
theorem a8z (x y : Nt) : Fn prog 37 [.agg #[.int .u64 x.1, .int .u64 x.2], .agg #[.int .u64 y.1, .int .u64 y.2]] H fun r H' => r = .bool (decide (woF x y = (0, 0))) ∧ St prog H H' [] := by
 refine .aM func37 rfl (by kernel_rfl) (m := 10) rfl fun l hn g0 g1 => ?_
 simp (disch := omega) only [↓RA, RB, simprocAttr, g0]
 refine (sR H).eNew 2 [(.int .u64 x.1), (.int .u64 x.2)] rfl rfl rfl nA fun A1 H1 hS1 => ?_
 simp only [RT] at hS1
 simp (disch := omega) only [↓RA, RB, simprocAttr, g1]
 refine hS1.eNew 2 [(.int .u64 y.1), (.int .u64 y.2)] rfl rfl rfl nA fun A2 H2 hS2 => ?_
 simp only [RT] at hS2
 simp (disch := omega) only [↓RA, RZ, simprocAttr, hn, hS2.ai 0 rfl, hS2.ai 1 rfl]
 refine hS2.cF (c0p x y) fun H3 hS3 => ?_
 simp (disch := omega) only [↓RA, RZ, simprocAttr, hn, b4e, c6r]
 refine ⟨?_, hS3.forget⟩
 congr 1
 rw [decide_eq_decide]
 constructor
 ·rintro ⟨h1, h2⟩
  exact gW (by simpa using h1) (by simpa using h2)
 ·intro h
  rw [h]
  exact ⟨rfl, rfl⟩
def rG (lo hi : Int) : Nt := jT ((List.range (hi - lo + 1).toNat).map fun (k : Nat) => lo + (k : Int))
theorem a3R (lo hi : Int) (h0 : 0 ≤ lo) (h1 : lo ≤ hi) (h2 : hi ≤ 127) : Fn prog 36 [.agg #[I lo, I hi]] H fun r H' => r = .tuple #[.agg #[.int .u64 (rG lo hi).1, .int .u64 (rG lo hi).2], I 0] ∧ St prog H H' [] := by
 have hce : qM lo hi = 0 := by
  unfold qM
  rw [if_neg (by omega), if_neg (by omega)]
 refine .aV func36 rfl (by kernel_rfl) (m := 25) rfl fun l hn g0 => ?_
 simp (disch := omega) only [↓RA, RB, simprocAttr, g0]
 refine (sR H).eNew 2 [I lo, I hi] rfl rfl rfl yX fun A1 H1 hS1 => ?_
 simp only [RT] at hS1
 simp (disch := omega) only [↓RA, RZ, simprocAttr]
 refine hS1.eNew 2 [(.int .u64 0), (.int .u64 0)] rfl rfl rfl nA fun A2 H2 hS2 => ?_
 simp only [RT] at hS2
 simp (disch := omega) only [↓RA, RZ, simprocAttr]
 refine hS2.eNew 2 [(.int .u64 0), (.int .u64 0)] rfl rfl rfl nA fun A3 H3 hS3 => ?_
 simp only [RT] at hS3
 simp (disch := omega) only [↓RA, RZ, simprocAttr, hn, hS3.ai 0 rfl]
 refine hS3.cF (a0U lo hi) fun H4 hS4 => ?_
 rw [hce]
 simp (disch := omega) only [↓RA, RZ, simprocAttr, hn, hS4.ld 0 rfl]
 refine Wp.ar (fun n l H' => l.length = 25 ∧ get l 1 = (ptr A1 0 2) ∧ get l 2 = (ptr A2 0 2) ∧ get l 3 = I 0 ∧ get l 4 = (ptr A3 0 2) ∧ ∃ (j : Nat), (n + j = (hi - lo + 1).toNat) ∧ get l 6 = I (lo + (j : Int)) ∧ St prog H H' [⟨ptr A1 0 2, 0, [I lo, I hi]⟩, ⟨ptr A2 0 2, 0, [(.int .u64 0), (.int .u64 0)]⟩, ⟨ptr A3 0 2, 0, [.int .u64 (jT ((List.range j).map fun (k : Nat) => lo + (k : Int))).1, .int .u64 (jT ((List.range j).map fun (k : Nat) => lo + (k : Int))).2]⟩]) (hi - lo + 1).toNat ?_ ?_
 ·simp (disch := omega) only [RB, RC, simprocAttr, hn]
  exact ⟨0, by omega, by simp, hS4⟩
 rintro n l H5 ⟨hn, g1, g2, g3, g4, j, hj, g6, hS5⟩
 simp (disch := omega) only [↓RA, RZ, simprocAttr, hn, g1, g6, hS5.ld 0 rfl]
 refine iA (fun q1 => ?_) (fun q1 => ?_)
 ·have hok : Nt.Ok (jT ((List.range j).map fun (k : Nat) => lo + (k : Int))) := rV _ _ (fun z h => by
   obtain ⟨k, hk, rfl⟩ := dE.1 h
   have := dC.1 hk
   exact ⟨by omega, by omega⟩) ⟨by decide, by decide⟩
  have hsu : jT ((List.range (j + 1)).map fun (k : Nat) => lo + (k : Int)) = sB (jT ((List.range j).map fun (k : Nat) => lo + (k : Int))) (lo + (j : Int)) := by
   unfold jT
   rw [ek, dT, fx]
   rfl
  simp (disch := omega) only [↓RA, RZ, simprocAttr, hn, g4, g6, hS5.ai 2 rfl, q1]
  refine hS5.cF (a7s (jT ((List.range j).map fun (k : Nat) => lo + (k : Int))) hok (lo + (j : Int)) (by omega) (by omega)) fun H6 hS6 => ?_
  simp (disch := omega) only [↓RA, RZ, simprocAttr, hn, g4, q1]
  refine hS6.ab 2 rfl [(.int .u64 (sB (jT ((List.range j).map fun (k : Nat) => lo + (k : Int))) (lo + (j : Int))).1), (.int .u64 (sB (jT ((List.range j).map fun (k : Nat) => lo + (k : Int))) (lo + (j : Int))).2)] rfl rfl nA (by simp) fun H7 hS7 => ?_
  simp only [RT] at hS7
  simp (disch := omega) only [↓RA, RZ, simprocAttr, hn, g1, g2, g3, g4, g6, q1]
  refine ⟨n - 1, by omega, j + 1, by omega, by congr 1; omega, ?_⟩
  rw [hsu]
  exact hS7.pick [0, 1, 2] (by decide) rfl
 have hjj : j = (hi - lo + 1).toNat := by omega
 simp (disch := omega) only [↓RA, RZ, simprocAttr, hn, g2, g4, hS5.ai 2 rfl, q1]
 refine hS5.ab 1 rfl [(.int .u64 (jT ((List.range j).map fun (k : Nat) => lo + (k : Int))).1), (.int .u64 (jT ((List.range j).map fun (k : Nat) => lo + (k : Int))).2)] rfl rfl nA (by simp) fun H8 hS8 => ?_
 simp only [RT] at hS8
 simp (disch := omega) only [↓RA, RZ, simprocAttr, hn, g2, c6k, hS8.ai 1 rfl, q1]
 rw [hjj]
 exact ⟨rfl, hS8.forget⟩
structure Ks (H : Heap) (kv : Value) (ks : List Nt) : Prop where
 sl : Sl 2 ntc H kv ks
 len : ks.length < 1000000000
 ok : ∀ x ∈ ks, Nt.Ok x
theorem Ks.ae {P : Program} {H' : Heap} {kv : Value} {ks : List Nt} {os : List Ob} (h : Ks H kv ks) (hS : St P H H' os) : Ks H' kv ks := ⟨hS.sl h.sl, h.len, h.ok⟩
def nP (o : Org) (ks : List Nt) : Int := if organE o ≠ 0 then organE o else if ks.length ≠ o.dvs.length then 5 else if ∃ j, j < o.dvs.length ∧ woF (iB ks j) (rG (iB o.dvs j).lo (iB o.dvs j).hi) ≠ (0, 0) then 23 else 0
theorem a7v (o : Org) (ho : o.In H) (kv : Value) (ks : List Nt) (hk : Ks H kv ks) : Fn prog 17 [.agg #[.string o.name, o.rv, o.dv, o.cv], kv] H fun r H' => r = I (nP o ks) ∧ St prog H H' [] := by
 have hkl := hk.len
 have hdl := ho.2.2.2.2.2.2.1
 refine .aM func17 rfl (by kernel_rfl) (m := 43) rfl fun l hn g0 g1 => ?_
 simp (disch := omega) only [↓RA, RB, simprocAttr, g0]
 refine (sR H).eNew 4 [(.string o.name), o.rv, o.dv, o.cv] rfl rfl (by simp [OC, ((sR H).sl ho.1).cells.2.1, ((sR H).sl ho.2.2.1).cells.2.1, ((sR H).sl ho.2.2.2.2.1).cells.2.1]) lP fun A1 H1 hS1 => ?_
 simp only [RT] at hS1
 simp (disch := omega) only [↓RA, RZ, simprocAttr, hn, hS1.ai 0 rfl]
 refine hS1.cF (tS o (ho.ae hS1)) fun H2 hS2 => ?_
 simp (disch := omega) only [↓RA, RB, simprocAttr, hn]
 refine iA (fun h1 => ?_) (fun h1 => ?_)
 ·simp (disch := omega) only [↓RA, RZ, simprocAttr, hn, b7V, h1]
  exact ⟨by unfold nP; rw [if_pos h1], hS2.forget⟩
 have hz : organE o = 0 := dx.1 h1
 have hf := Org.aY hz
 simp (disch := omega) only [↓RA, RZ, simprocAttr, hn, g1, (hS2.sl hk.sl).len, hS2.ld 0 rfl, (hS2.sl ho.2.2.1).len, h1]
 refine iA (fun h2 => ?_) (fun h2 => ?_)
 ·simp (disch := omega) only [↓RA, RZ, simprocAttr, hn, b7V, h1, h2]
  exact ⟨by unfold nP; rw [if_neg h1, if_pos (by omega)], hS2.forget⟩
 have hlen : ks.length = o.dvs.length := by omega
 simp (disch := omega) only [↓RA, RZ, simprocAttr, hn, hS2.ld 0 rfl, (hS2.sl ho.2.2.1).len, h1, h2]
 refine Wp.ar (fun n l H' => l.length = 43 ∧ get l 1 = kv ∧ get l 22 = o.dv ∧ get l 23 = I o.dvs.length ∧ ∃ (j : Nat), (n + j = o.dvs.length ∧ ∀ q, q < j → woF (iB ks q) (rG (iB o.dvs q).lo (iB o.dvs q).hi) = (0, 0)) ∧ get l 24 = I j ∧ St prog H H' [⟨ptr A1 0 4, 0, [(.string o.name), o.rv, o.dv, o.cv]⟩]) o.dvs.length ?_ ?_
 ·simp (disch := omega) only [RB, RC, simprocAttr, hn, g1]
  exact ⟨0, ⟨by omega, fun q hq => absurd hq (dQ _)⟩, rfl, hS2⟩
 rintro n l H3 ⟨hn, g1, g22, g23, j, ⟨hj,hq⟩, g24, hS3⟩
 simp (disch := omega) only [↓RA, RB, simprocAttr, hn, g23, g24]
 refine iA (fun h3 => ?_) (fun h3 => ?_)
 ·have hky := hf.keys j (by omega)
  simp (disch := omega) only [↓RA, RZ, simprocAttr, hn, g22, g24, (hS3.sl ho.2.2.1).idx, (hS3.sl ho.2.2.1).ai, Dvn.cells, h3]
  refine hS3.eNew 5 [(.string ⟨#[]⟩), (.bool false), I 0, I 0, (.slice none 0 0)] rfl rfl rfl uB fun A2 H4 hS4 => ?_
  simp only [RT] at hS4
  simp (disch := omega) only [↓RA, RZ, simprocAttr, hn, h3]
  refine hS4.ab 1 rfl [(.string (iB o.dvs j).name), (.bool (iB o.dvs j).pedal), I (iB o.dvs j).lo, I (iB o.dvs j).hi, (iB o.dvs j).sv] rfl (by simp [OC, (hS4.sl (ho.2.2.2.1 (iB o.dvs j) (iE (by omega))).1).cells.2.1]) uB (by simp) fun H5 hS5 => ?_
  simp only [RT] at hS5
  simp (disch := omega) only [↓RA, RZ, simprocAttr, hn, hS5.ai 1 rfl, h3]
  refine hS5.cF (a3R (iB o.dvs j).lo (iB o.dvs j).hi hky.1 hky.2.1 hky.2.2) fun H6 hS6 => ?_
  simp (disch := omega) only [↓RA, RZ, simprocAttr, hn, h3]
  refine hS6.eNew 2 [(.int .u64 0), (.int .u64 0)] rfl rfl rfl nA fun A3 H7 hS7 => ?_
  simp only [RT] at hS7
  simp (disch := omega) only [↓RA, RZ, simprocAttr, hn, h3]
  refine hS7.ab 2 rfl [(.int .u64 (rG (iB o.dvs j).lo (iB o.dvs j).hi).1), (.int .u64 (rG (iB o.dvs j).lo (iB o.dvs j).hi).2)] rfl rfl nA (by simp) fun H8 hS8 => ?_
  simp only [RT] at hS8
  simp (disch := omega) only [↓RA, RZ, simprocAttr, hn, h3]
  refine Wp.drw kE (by kernel_rfl) ?_
  simp (disch := omega) only [↓RA, RZ, simprocAttr, hn, g1, (hS8.sl hk.sl).idx, (hS8.sl hk.sl).ai, ntc, hS8.ai 2 rfl]
  refine hS8.cF (a8z (iB ks j) (rG (iB o.dvs j).lo (iB o.dvs j).hi)) fun H9 hS9 => ?_
  simp (disch := omega) only [↓RA, RB, simprocAttr, hn]
  refine jS (fun h4 => ?_) (fun h4 => ?_)
  ·have h5 : ¬ woF (iB ks j) (rG (iB o.dvs j).lo (iB o.dvs j).hi) = (0, 0) := by simpa using h4
   simp (disch := omega) only [↓RA, RB, simprocAttr, hn, b7V, h4]
   exact ⟨by unfold nP; rw [if_neg h1, if_neg (by omega), if_pos ⟨j, by omega, h5⟩], hS9.forget⟩
  have h5 : woF (iB ks j) (rG (iB o.dvs j).lo (iB o.dvs j).hi) = (0, 0) := by simpa using h4
  simp (disch := omega) only [↓RA, RZ, simprocAttr, hn, g1, g22, g23, g24, h4]
  exact ⟨n - 1, by omega, j + 1, ⟨by omega, fun q hq' => by rcases dw.1 hq' with e | e; (· exact hq q e); (· rw [e]; exact h5)⟩, by simp, hS9.pick [0] (by decide) rfl⟩
 simp (disch := omega) only [↓RA, RZ, simprocAttr, hn, b7V, h3]
 refine ⟨?_, hS3.forget⟩
 unfold nP
 rw [if_neg h1, if_neg (by omega), if_neg]
 rintro ⟨q, hq1, hq2⟩
 exact hq2 (hq q (by omega))
def plD (ks : List Nt) (i : Nat) : List Ct := (pW (iB ks i)).map fun z => ((i : Int), z)
def kF (ks : List Nt) : List Ct := (List.range ks.length).flatMap (plD ks)
theorem c1o (ks : List Nt) (i : Nat) : (plD ks i).length ≤ 128 := by
 unfold plD
 rw [dX]
 exact a2e _
theorem a5w (ks : List Nt) : ∀ i, ((List.range i).flatMap (plD ks)).length ≤ i * 128
 | 0 => by simp
 | i + 1 => by
   have := a5w ks i
   have := c1o ks i
   rw [ek, dG, dp, dL, fF, dB]
   omega
theorem a4a (hG : Glob gH H) (kv : Value) (ks : List Nt) (hk : Ks H kv ks) (h8 : ks.length ≤ 8) : Fn prog 65 [kv] H fun r H' => St prog H H' [⟨r, 2, pr (kF ks)⟩] := by
 refine .aV func65 rfl (by kernel_rfl) (m := 31) rfl fun l hn g0 => ?_
 simp (disch := omega) only [↓RA, RZ, simprocAttr, hn, g0, ((sR H).sl hk.sl).len]
 have hS1 := (sR H).nil 1
 simp only [RT] at hS1
 refine Wp.ar (fun n l H' => l.length = 31 ∧ get l 2 = (.slice none 0 0) ∧ get l 8 = kv ∧ get l 9 = I ks.length ∧ ∃ (i : Nat) (ov : Value), (n + i = ks.length) ∧ get l 10 = I i ∧ get l 3 = ov ∧ St prog H H' [⟨ov, 2, pr ((List.range i).flatMap (plD ks))⟩]) ks.length ?_ ?_
 ·simp (disch := omega) only [RB, RC, simprocAttr, hn]
  exact ⟨0, .slice none 0 0, by omega, rfl, rfl, hS1⟩
 rintro n l H1 ⟨hn, g2, g8, g9, i, ov, hi, pH, g3, hS2⟩
 simp (disch := omega) only [↓RA, RB, simprocAttr, hn, g9, pH]
 refine iA (fun q1 => ?_) (fun q1 => ?_)
 ·have hmo := hk.ok _ (iE (xs := ks) (j := i) (by omega))
  have hml := a2e (iB ks i)
  have hpl := a5w ks i
  simp (disch := omega) only [↓RA, RZ, simprocAttr, hn, g8, pH, (hS2.sl hk.sl).idx, (hS2.sl hk.sl).ai, ntc, q1]
  refine hS2.eNew 2 [(.int .u64 0), (.int .u64 0)] rfl rfl rfl nA fun A1 H2 hS3 => ?_
  simp only [RT] at hS3
  simp (disch := omega) only [↓RA, RZ, simprocAttr, hn, q1]
  refine hS3.ab 1 rfl [(.int .u64 (iB ks i).1), (.int .u64 (iB ks i).2)] rfl rfl nA (by simp) fun H3 hS4 => ?_
  simp only [RT] at hS4
  simp (disch := omega) only [↓RA, RZ, simprocAttr, hn, hS4.ai 1 rfl, q1]
  refine iG ((a9g (hS4.gl hG) (iB ks i) hmo).tr) ?_
  rintro r H4 ⟨-, hT1⟩
  have hS5 := hS4.trans hT1
  simp only [RT] at hS5
  obtain ⟨mw, rfl⟩ : ∃ w, w = r := ⟨r, rfl⟩
  simp (disch := omega) only [↓RA, RZ, simprocAttr, hn, (hS5.ax 2 rfl (fun _ => rfl)).len, q1]
  refine Wp.ar (fun n l H' => l.length = 31 ∧ get l 2 = (.slice none 0 0) ∧ get l 4 = I i ∧ get l 8 = kv ∧ get l 9 = I ks.length ∧ get l 10 = I i ∧ get l 16 = mw ∧ get l 17 = I (pW (iB ks i)).length ∧ ∃ (j : Nat) (ow : Value), (n + j = (pW (iB ks i)).length) ∧ get l 18 = I j ∧ get l 3 = ow ∧ St prog H H' [⟨ow, 2, pr ((List.range i).flatMap (plD ks) ++ ((pW (iB ks i)).take j).map fun z => ((i : Int), z))⟩, ⟨ptr A1 0 2, 0, [(.int .u64 (iB ks i).1), (.int .u64 (iB ks i).2)]⟩, ⟨mw, 1, (pW (iB ks i)).flatMap (one I)⟩]) (pW (iB ks i)).length ?_ ?_
  ·simp (disch := omega) only [RB, RC, simprocAttr, hn, g2, g8, g9, pH, g3]
   refine ⟨0, ov, by omega, rfl, rfl, ?_⟩
   rw [List.take_zero, gj, dB]
   exact hS5
  rintro n l H5 ⟨hn, g2, g4, g8, g9, pH, g16, g17, j, ow, hj, g18, g3, hS6⟩
  simp (disch := omega) only [↓RA, RB, simprocAttr, hn, g17, g18]
  refine iA (fun q2 => ?_) (fun q2 => ?_)
  ·have hroom : (pr ((List.range i).flatMap (plD ks) ++ ((pW (iB ks i)).take j).map fun z => ((i : Int), z))).length ≤ 4000 := by
    rw [iJ, dp, dX, fN]
    omega
   simp (disch := omega) only [↓RA, RZ, simprocAttr, hn, g4, g16, g18, g3, (hS6.ax 2 rfl (fun _ => rfl)).idx, (hS6.ax 2 rfl (fun _ => rfl)).ld, one, xN, q2]
   refine hS6.ag [I i, I (iB (pW (iB ks i)) j)] rB a3M rfl rfl (by simp [Value.cells]) rfl rfl (by decide) (by decide) fun w1 H6 hS7 => ?_
   simp only [RT] at hS7
   simp (disch := omega) only [↓RA, RZ, simprocAttr, hn, q2]
   refine hS7.al 0 rfl (hS7.rd 3 rfl) rB (by have h := hroom; simp only [dy, dA]; omega) fun w2 H7 hS8 => ?_
   simp only [RT] at hS8
   simp (disch := omega) only [↓RA, RZ, simprocAttr, hn, g2, g4, g8, g9, pH, g16, g17, g18, q2]
   refine ⟨n - 1, by omega, j + 1, w2, by omega, by simp, rfl, ?_⟩
   rw [List.take_add_one, dq (by omega), Option.toList_some, dT, ← eG, jZ]
   rw [show (pW (iB ks i))[j] = iB (pW (iB ks i)) j from (kB _ _ (by omega)).symm]
   exact hS8.pick [0, 1, 2] (by decide) rfl
  simp (disch := omega) only [↓RA, RZ, simprocAttr, hn, g2, g8, g9, pH, g3, q2]
  have hjj : j = (pW (iB ks i)).length := by omega
  refine ⟨ks.length - (i + 1), by omega, i + 1, ow, by omega, by simp, rfl, ?_⟩
  rw [ek, dG, dL, fF, dB]
  rw [show plD ks i = ((pW (iB ks i)).take j).map (fun z => ((i : Int), z)) from by rw [hjj, dZ]; rfl]
  exact hS6.pick [0] (by decide) rfl
 have hii : i = ks.length := by omega
 simp (disch := omega) only [↓RA, RZ, simprocAttr, hn, g3, c5P, q1]
 have hfin := hS2
 rw [hii] at hfin
 exact hfin
end Go.Ds
namespace Go.Ds
open Go.Proofs Go.Proofs.Tryz Go.ChangeShapes Go.WideShapes Go.RowKit Go.Deep
set_option maxRecDepth 10000
structure RgI (H : Heap) (r : Reg) (sv : Value) : Prop where
 sl : Sl 1 (one u64) H sv r.stops
 len : r.stops.length < 9223372036854775808
 ok : ∀ x ∈ r.stops, x < 18446744073709551616
 cpl : r.cpl < 18446744073709551616
 off : r.off < 18446744073709551616
structure KsI (H : Heap) (kv : Value) (ks : List Nt) : Prop where
 sl : Sl 2 ntc H kv ks
 len : ks.length < 9223372036854775808
 ok : ∀ x ∈ ks, Nt.Ok x
theorem RgI.ext {ρ ρ' : Rho} {H H' : Heap} {r : Reg} {sv : Value} (h : RgI H r sv) (e : ExtW ρ H ρ' H') : RgI H' r sv := ⟨h.sl.ext e, h.len, h.ok, h.cpl, h.off⟩
theorem RgI.ae {P : Program} {H H0 : Heap} {os : List Ob} {r : Reg} {sv : Value} (h : RgI H0 r sv) (hS : St P H0 H os) : RgI H r sv := ⟨hS.sl h.sl, h.len, h.ok, h.cpl, h.off⟩
theorem KsI.ae {P : Program} {H H0 : Heap} {os : List Ob} {kv : Value} {ks : List Nt} (h : KsI H0 kv ks) (hS : St P H0 H os) : KsI H kv ks := ⟨hS.sl h.sl, h.len, h.ok⟩
theorem RgI.reg {H : Heap} {r : Reg} {sv : Value} (h : RgI H r sv) (hl : r.stops.length < 1000000000) : r.In H sv := ⟨h.sl, hl, h.ok, h.cpl, h.off⟩
theorem KsI.ks {H : Heap} {kv : Value} {ks : List Nt} (h : KsI H kv ks) (hl : ks.length < 1000000000) : Ks H kv ks := ⟨h.sl, hl, h.ok⟩
theorem Pln.In.ext {ρ ρ' : Rho} {H H' : Heap} {p : Pln} (h : p.In H) (e : ExtW ρ H ρ' H') : p.In H' := ⟨h.1.ext e, h.2.1.ext e, fun b hb => ⟨(h.2.2.1 b hb).1.ext e, (h.2.2.1 b hb).2⟩, h.2.2.2.1.ext e, h.2.2.2.2⟩
section
variable {H0 : Type} {enc : TypeId × Value → H0} {w : World} {base n : Nat} {spare : Nat → Bool} {kU : Bool} {x : DataW H0 × List MemPlace}
theorem b9q {cs : List Value} (h : DataW.trod enc prog w base spare kU n 38 cs = some x) : ∃ m : Nat, cs = one u64 m ∧ m < 18446744073709551616 := by
 obtain ⟨m, hv, _, hw⟩ := DataW.trod_int underlying38 h
 have hm : 0 ≤ m ∧ m ≤ 18446744073709551615 := by simpa [Lit.wf, IntKind.min, IntKind.max, IntKind.signed, IntKind.bits] using hw
 refine ⟨m.toNat, ?_, by omega⟩
 rw [hv]
 show _ = [Value.int .u64 ((m.toNat : Nat) : Int)]
 rw [eX hm.1]
theorem u64_in {v : Value} (h : DataW.trod enc prog w base spare kU n 38 [v] = some x) : ∃ m : Nat, v = .int .u64 m ∧ m < 18446744073709551616 := by
 obtain ⟨m, hv, hm⟩ := b9q h
 exact ⟨m, by simpa [one, u64] using hv, hm⟩
end
section
variable {H0 : Type} {enc : TypeId × Value → H0} {w : World} {base fuel : Nat} {kU : Bool} {x : DataW H0 × List MemPlace} {ρ : Rho} {H : Heap}
end
end Go.Ds
namespace Go.Ds
open Go.Proofs Go.Proofs.Tryz Go.ChangeShapes Go.WideShapes Go.RowKit Go.Deep
set_option maxRecDepth 10000
variable {H0 : Type} {enc : TypeId × Value → H0} {w : World} {base : Nat} {kU : Bool}
theorem b7m {v0 : Value} {d0 : DataW H0} {p0 : List MemPlace} {c0 : Nat} (h0 : DataW.Trod enc prog w base (fun _ => true) kU 73 v0 d0 p0) (hval : Value.okWide prog w .any c0 73 v0) :
 ∃ a b : Nat, a < 256 ∧ b < 256 ∧ v0 = .agg #[.int .u8 a, .int .u8 b] := by
 obtain ⟨cs, rfl, hsz⟩ := okWide_struct underlying73 hval
 rw [show prog.cellsOf 73 = 2 by kernel_rfl] at hsz
 obtain ⟨fuel, hf⟩ := h0
 obtain ⟨l⟩ := cs
 have hl : l.length = 2 := hsz
 match l, hl with
 | [x, y], _ =>
   obtain ⟨_, m, hf⟩ := zD (cs := [x, y]) underlying73 hf
   obtain ⟨_, h0⟩ := hf 0 ⟨_, 5, 0, _, _, _, _⟩ rfl
   obtain ⟨_, h1⟩ := hf 1 ⟨_, 5, 1, _, _, _, _⟩ rfl
   simp only [ce5] at h0 h1
   obtain ⟨a, rfl, ha⟩ := oO h0
   obtain ⟨b, rfl, hb⟩ := oO h1
   exact ⟨a, b, ha, hb, rfl⟩
end Go.Ds
namespace Go.Ds
open Go.Proofs
set_option maxRecDepth 10000
def ltP (x y : Int × Int) : Prop := x.1 < y.1 ∨ (x.1 = y.1 ∧ x.2 < y.2)
theorem b8P {x : Int × Int} : ¬ ltP x x := by unfold ltP; omega
theorem a3I {x y z : Int × Int} (h : ltP x y) (k : ltP y z) : ltP x z := by unfold ltP at *; omega
theorem b6g {es : List (Int × Int)} (h : es.Pairwise fun a b => le2 a b = true) {i j : Nat} (hij : i < j) (hj : j < es.length) : le2 (iB es i) (iB es j) = true := by
 rw [kB _ _ (by omega), kB _ _ hj]
 exact eu.1 h i j (by omega) hj hij
theorem a7Q {es : List (Int × Int)} (h : es.Pairwise fun a b => le2 a b = true) : ∀ m, m ≤ es.length → (xV es m).Pairwise ltP ∧ ∀ x, x ∈ xV es m ↔ ∃ j, j < m ∧ iB es j = x
 | 0, _ => ⟨by simp [xV], fun x => by simp [xV]⟩
 | m + 1, hm => by
   obtain ⟨h1, h2⟩ := a7Q h m (by omega)
   rw [rO]
   by_cases hc : m = 0 ∨ iB es m ≠ iB es (m - 1)
   ·rw [if_pos hc]
    refine ⟨?_, fun x => ?_⟩
    ·rw [fK]
     refine ⟨h1, by simp, fun a ha b hb => ?_⟩
     obtain ⟨j, hj, rfl⟩ := (h2 a).1 ha
     obtain rfl := dz.1 hb
     have h3 := (oJ _ _).1 (b6g h hj (by omega))
     rcases hc with hc | hc
     ·omega
     ·by_cases he : j = m - 1
      ·subst he
       have hne : ¬ (iB es (m - 1) = iB es m) := fun e => hc e.symm
       rw [Prod.ext_iff] at hne
       unfold ltP
       omega
      ·have h4 := (oJ _ _).1 (b6g h (show j < m - 1 by omega) (by omega))
       have h5 := (oJ _ _).1 (b6g h (show m - 1 < m by omega) (by omega))
       have hne : ¬ (iB es (m - 1) = iB es m) := fun e => hc e.symm
       rw [Prod.ext_iff] at hne
       unfold ltP
       omega
    ·rw [dI, h2, dz]
     constructor
     ·rintro (⟨j, hj, e⟩ | e)
      ·exact ⟨j, by omega, e⟩
      ·exact ⟨m, by omega, e.symm⟩
     ·rintro ⟨j, hj, e⟩
      rcases dw.1 hj with e2 | e2
      ·exact .inl ⟨j, e2, e⟩
      ·subst e2
       exact .inr e.symm
   ·rw [if_neg hc, dB]
    refine ⟨h1, fun x => ?_⟩
    rw [h2]
    constructor
    ·rintro ⟨j, hj, e⟩
     exact ⟨j, by omega, e⟩
    ·rintro ⟨j, hj, e⟩
     rcases dw.1 hj with e2 | e2
     ·exact ⟨j, e2, e⟩
     ·subst e2
      have hc' : ¬ (j = 0) ∧ iB es j = iB es (j - 1) := ⟨fun e => hc (.inl e), fQ fun e => hc (.inr e)⟩
      exact ⟨j - 1, by omega, by rw [← hc'.2]; exact e⟩
theorem c2a (l : List (Int × Int)) : (dd (uZ l)).Pairwise ltP := (a7Q (wD l) _ (dj _)).1
theorem b1g {l : List (Int × Int)} {x : Int × Int} : x ∈ dd (uZ l) ↔ x ∈ l := by
 unfold dd
 rw [(a7Q (wD l) _ (dj _)).2 x, ← (oG l).mem_iff]
 constructor
 ·rintro ⟨j, hj, rfl⟩
  exact iE hj
 ·intro hx
  obtain ⟨j, hj, e⟩ := dV.1 hx
  exact ⟨j, hj, by rw [kB _ _ hj]; exact e⟩
inductive Star {α : Type} (R : α → α → Prop) : α → α → Prop
 | refl (a : α) : Star R a a
 | tail {a b c : α} : Star R a b → R b c → Star R a c
theorem b2U (o : Org) (r : Reg) (l : List Ct) : (lZ o r l).Pairwise ltP := c2a _
def IsP (o : Org) (p : Ct) : Prop := 0 ≤ p.1 ∧ p.1 < o.ranks.length ∧ 0 ≤ p.2 ∧ p.2 < (iB o.ranks p.1.toNat).wind.length
theorem a9E {rs : List Rk} {s : Stp} {key : Int} {p : Ct} (h : p ∈ qG rs s key) : 0 ≤ p.1 ∧ p.1 < rs.length ∧ 0 ≤ p.2 ∧ p.2 < (iB rs p.1.toNat).wind.length := by
 unfold qG at h
 obtain ⟨d, hd, rfl⟩ := dE.1 (b1g.1 h)
 have hh := (ff.1 hd).2
 unfold xB at hh
 rw [cX, cX, dJ, decide_eq_true_eq, decide_eq_true_eq, decide_eq_false_iff_not] at hh
 obtain ⟨⟨h1, h2⟩, h3⟩ := hh
 have e : (nZ rs d key).1 = d.rank := by unfold nZ; rw [if_neg h1]
 rw [e]
 exact ⟨by omega, by omega, h2, h3⟩
theorem b0b {o : Org} {r : Reg} {c p : Ct} (h : p ∈ oF o r c) : IsP o p := by
 unfold oF at h
 obtain ⟨i, _, h⟩ := fj.1 h
 split at h
 ·exact a9E h
 ·exact absurd h ec
theorem a5E {o : Org} {r : Reg} {l : List Ct} {p : Ct} (h : p ∈ zU o r l) : IsP o p := by
 unfold zU at h
 obtain ⟨c, _, h⟩ := fj.1 (b1g.1 h)
 exact b0b h
theorem vX {o : Org} {r : Reg} {l : List Ct} {p : Ct} (h : p ∈ lZ o r l) : IsP o p := a5E h
theorem b8j {o : Org} {r : Reg} {c p : Ct} (h : p ∈ ofF o r c) : IsP o p := by
 unfold ofF at h
 split at h
 ·exact vX h
 ·exact absurd h ec
theorem IsP.small {o : Org} {H : Heap} (hf : o.Fine) (ho : o.In H) {p : Ct} (h : IsP o p) : -1000000000 ≤ p.1 ∧ p.1 ≤ 1000000000 ∧ -1000000000 ≤ p.2 ∧ p.2 ≤ 1000000000 := by
 obtain ⟨h1, h2, h3, h4⟩ := h
 have hr := (ho.2.1 _ (iE (xs := o.ranks) (j := p.1.toNat) (by omega))).2
 have := hf.rlen
 exact ⟨by omega, by omega, by omega, by omega⟩
theorem uP {o : Org} (hf : o.Fine) (rg : Reg) {l : List Ct} (hl : l.length ≤ 1024) (ho : ∀ c ∈ pN o rg l, pX o c = true) : (lZ o rg l).length ≤ 1000000 := by
 have h1 := rS hf rg (pN o rg l) ho
 have h2 := vY hf (rg := rg) hl
 have h3 := b1i (uZ ((pN o rg l).flatMap (oF o rg)))
 rw [nI] at h3
 have : (lZ o rg l).length ≤ (pN o rg l).length * 480 := dD h3 h1
 omega
def qF (x : Nt) (z : Int) : Bool := if z < 64 then x.1.testBit z.toNat else x.2.testBit (z - 64).toNat
theorem uS {x i : Nat} : i ∈ pJ x ↔ i < 64 ∧ x.testBit i = true := by
 unfold pJ
 rw [ff, dC]
theorem b6b {x : Nt} {z : Int} : z ∈ pW x ↔ isN z ∧ qF x z = true := by
 unfold pW qF isN
 rw [dI, dE, dE]
 constructor
 ·rintro (⟨i, hi, rfl⟩ | ⟨i, hi, rfl⟩)
  ·obtain ⟨h1, h2⟩ := uS.1 hi
   exact ⟨by omega, by rw [if_pos (by omega)]; exact h2⟩
  ·obtain ⟨h1, h2⟩ := uS.1 hi
   refine ⟨by omega, ?_⟩
   rw [if_neg (by omega), show (64 + (i : Int) - 64).toNat = i by omega]
   exact h2
 ·rintro ⟨h1, h2⟩
  by_cases h : z < 64
  ·rw [if_pos h] at h2
   exact .inl ⟨z.toNat, uS.2 ⟨by omega, h2⟩, by omega⟩
  ·rw [if_neg h] at h2
   exact .inr ⟨(z - 64).toNat, uS.2 ⟨by omega, h2⟩, by omega⟩
theorem b6f (x : Nt) (n z : Int) (hn : isN n) (hz : isN z) : qF (sB x n) z = (qF x z || decide (z = n)) := by
 unfold qF sB isN at *
 by_cases h1 : n < 64
 ·rw [if_pos h1]
  by_cases h2 : z < 64
  ·rw [if_pos h2, if_pos h2, Nat.testBit_or, fZ]
   congr 1
   rw [decide_eq_decide]
   omega
  ·rw [if_neg h2, if_neg h2, decide_eq_false (by omega), Bool.or_false]
 ·rw [if_neg h1]
  by_cases h2 : z < 64
  ·rw [if_pos h2, if_pos h2, decide_eq_false (by omega), Bool.or_false]
  ·rw [if_neg h2, if_neg h2, Nat.testBit_or, fZ]
   congr 1
   rw [decide_eq_decide]
   omega
theorem a3L (z : Int) : qF (0, 0) z = false := by
 unfold qF
 split <;> simp
theorem a3f : ∀ (xs : List Int) (x : Nt) (z : Int), (∀ n ∈ xs, isN n) → isN z → qF (xs.foldl sB x) z = (qF x z || decide (z ∈ xs))
 | [], x, z, _, _ => by simp
 | n :: xs, x, z, h, hz => by
   rw [fb, a3f xs _ z (fun y hy => h y (eM _ hy)) hz, b6f x n z (h n (eE ..)) hz, Bool.or_assoc]
   congr 1
   rw [ey]
   simp
theorem a9a {xs : List Int} {z : Int} (h : ∀ n ∈ xs, isN n) (hz : isN z) : qF (jT xs) z = decide (z ∈ xs) := by
 unfold jT
 rw [a3f xs _ z h hz, a3L, Bool.false_or]
theorem b5O {lo hi z : Int} (h0 : 0 ≤ lo) (h2 : hi ≤ 127) (hz : isN z) : qF (rG lo hi) z = (decide (lo ≤ z) && decide (z ≤ hi)) := by
 unfold rG
 rw [a9a (fun n hn => by
  obtain ⟨k, hk, rfl⟩ := dE.1 hn
  have := dC.1 hk
  exact ⟨by omega, by omega⟩) hz, ey, cX, decide_eq_true_eq, decide_eq_true_eq, decide_eq_true_eq, dE]
 constructor
 ·rintro ⟨k, hk, rfl⟩
  have := dC.1 hk
  omega
 ·rintro ⟨h3, h4⟩
  exact ⟨(z - lo).toNat, dC.2 (by omega), by omega⟩
theorem b0w {x y : Nt} (hx : Nt.Ok x) {z : Int} (hz : isN z) : qF (woF x y) z = (qF x z && !qF y z) := by
 obtain ⟨h1, h2⟩ := hz
 unfold qF woF
 by_cases h : z < 64
 ·rw [if_pos h, if_pos h, if_pos h, a7l _ _ _ hx.1 (by omega)]
 ·rw [if_neg h, if_neg h, if_neg h, a7l _ _ _ hx.2 (by omega)]
theorem a8i {x y : Nt} (hx : Nt.Ok x) (h : woF x y = (0, 0)) {z : Int} (hz : isN z) (hh : qF x z = true) : qF y z = true := by
 have := b0w (y := y) hx hz
 rw [h, a3L, hh] at this
 simpa using this.symm
theorem qI {o : Org} {ks : List Nt} (h : nP o ks = 0) : organE o = 0 ∧ ks.length = o.dvs.length ∧ ∀ j, j < o.dvs.length → woF (iB ks j) (rG (iB o.dvs j).lo (iB o.dvs j).hi) = (0, 0) := by
 unfold nP at h
 split at h
 ·rename_i hh; exact absurd h hh
 rename_i h1
 split at h
 ·omega
 rename_i h2
 split at h
 ·omega
 rename_i h3
 refine ⟨dx.1 h1, by omega, fun j hj => ?_⟩
 by_cases hh : woF (iB ks j) (rG (iB o.dvs j).lo (iB o.dvs j).hi) = (0, 0)
 ·exact hh
 ·exact absurd ⟨j, hj, hh⟩ h3
theorem vA {o : Org} {ks : List Nt} (hok : ∀ x ∈ ks, Nt.Ok x) (h : nP o ks = 0) : ∀ c ∈ kF ks, pX o c = true := by
 obtain ⟨h1, h2, h3⟩ := qI h
 have hf := Org.aY h1
 intro c hc
 unfold kF at hc
 obtain ⟨i, hi, hc⟩ := fj.1 hc
 have hi := dC.1 hi
 unfold plD at hc
 obtain ⟨z, hz, rfl⟩ := dE.1 hc
 obtain ⟨hz1, hz2⟩ := b6b.1 hz
 have hky := hf.keys i (by omega)
 have hw := a8i (hok _ (iE hi)) (h3 i (by omega)) hz1 hz2
 rw [b5O hky.1 hky.2.2 hz1] at hw
 simp only [cX, decide_eq_true_eq] at hw
 unfold pX
 simp only [cX, decide_eq_true_eq, eK]
 omega
theorem a0i {o : Org} {ks : List Nt} (h : nP o ks = 0) : (kF ks).length ≤ 1024 := by
 obtain ⟨h1, h2, _⟩ := qI h
 have h8 := (Org.aY h1).dlen
 have := a5w ks ks.length
 unfold kF
 omega
structure SegsOk (m : Nat) (lo hi : Int) (gs : List Seg) : Prop where
 ord : ∀ i, i < gs.length → (iB gs i).lo ≤ (iB gs i).hi
 up : ∀ i, i < gs.length → 0 < i → (iB gs (i - 1)).hi < (iB gs i).lo
 within : ∀ i, i < gs.length → lo ≤ (iB gs i).lo ∧ (iB gs i).hi ≤ hi
 draws : ∀ i, i < gs.length → lE m (iB gs i).draws = 0
 len : gs.length ≤ 12
theorem SegsOk.lt {m : Nat} {lo hi : Int} {gs : List Seg} (h : SegsOk m lo hi gs) {i : Nat} : ∀ k, i + 1 + k < gs.length → (iB gs i).hi < (iB gs (i + 1 + k)).lo
 | 0, hk => h.up (i + 1) hk (by omega)
 | k + 1, hk => by
   have h1 := h.lt (i := i) k (by omega)
   have h2 := h.ord (i + 1 + k) (by omega)
   have h3 := h.up (i + 1 + (k + 1)) hk (by omega)
   rw [show i + 1 + (k + 1) - 1 = i + 1 + k by omega] at h3
   omega
theorem SegsOk.one {m : Nat} {lo hi : Int} {gs : List Seg} (h : SegsOk m lo hi gs) {key : Int} {i j : Nat} (hi' : i < gs.length) (hj : j < gs.length) (h1 : (iB gs i).lo ≤ key ∧ key ≤ (iB gs i).hi) (h2 : (iB gs j).lo ≤ key ∧ key ≤ (iB gs j).hi) : i = j := by
 rcases Nat.lt_trichotomy i j with e | e | e
 ·have := h.lt (i := i) (j - i - 1) (by omega)
  rw [show i + 1 + (j - i - 1) = j by omega] at this
  omega
 ·exact e
 ·have := h.lt (i := j) (i - j - 1) (by omega)
  rw [show j + 1 + (i - j - 1) = i by omega] at this
  omega
end Go.Ds
namespace Go.Ds
open Go.Proofs Go.Proofs.Tryz
variable {H : Heap}
set_option maxRecDepth 10000
set_option maxHeartbeats 1000000
def b5J (o : Org) (l : List (Value × Reg)) (ks : List Nt) : Int := if rC o l ≠ 0 then rC o l else nP o ks
theorem b3Y (o : Org) (ho : o.In H) (lv : Value) (xs : List (Value × Reg)) (hl : Sl 3 rgc H lv xs) (hle : xs.length < 1000000000) (hr : ∀ p ∈ xs, p.2.In H p.1) (kv : Value) (ks : List Nt) (hk : Ks H kv ks) :
 Fn prog 63 [.agg #[.string o.name, o.rv, o.dv, o.cv], lv, kv] H fun r H' => r = I (b5J o xs ks) ∧ St prog H H' [] := by
 refine .bm func63 rfl (by kernel_rfl) (m := 17) rfl fun l hn g0 g1 g2 => ?_
 simp (disch := omega) only [↓RA, RB, simprocAttr, g0]
 refine (sR H).eNew 4 [(.string o.name), o.rv, o.dv, o.cv] rfl rfl (by simp [OC, ((sR H).sl ho.1).cells.2.1, ((sR H).sl ho.2.2.1).cells.2.1, ((sR H).sl ho.2.2.2.2.1).cells.2.1]) lP fun A1 H1 hS1 => ?_
 simp only [RT] at hS1
 simp (disch := omega) only [↓RA, RZ, simprocAttr, hn, g1, hS1.ai 0 rfl]
 refine hS1.cF (a3h o (ho.ae hS1) lv xs (hS1.sl hl) hle (fun p hp => (hr p hp).ae hS1)) fun H2 hS2 => ?_
 simp (disch := omega) only [↓RA, RB, simprocAttr, hn]
 refine iA (fun h1 => ?_) (fun h1 => ?_)
 ·simp (disch := omega) only [↓RA, RZ, simprocAttr, hn, c4G, h1]
  exact ⟨by unfold b5J; rw [if_pos h1], hS2.forget⟩
 simp (disch := omega) only [↓RA, RZ, simprocAttr, hn, g2, hS2.ai 0 rfl, h1]
 refine hS2.cF (a7v o (ho.ae hS2) kv ks (hk.ae hS2)) fun H3 hS3 => ?_
 simp (disch := omega) only [↓RA, RZ, simprocAttr, hn, c4G, h1]
 exact ⟨by unfold b5J; rw [if_neg h1], hS3.forget⟩
def rkE (o : Org) (rg : Reg) (ks : List Nt) : Int := if mH o rg ≠ 0 then mH o rg else nP o ks
theorem a6W (o : Org) (sv : Value) (rg : Reg) (ks : List Nt) : b5J o [(sv, rg)] ks = rkE o rg ks := by
 unfold b5J rkE
 rw [a0z]
theorem tU {o : Org} {rg : Reg} {ks : List Nt} (h : rkE o rg ks = 0) : mH o rg = 0 ∧ nP o ks = 0 := by
 unfold rkE at h
 split at h
 ·rename_i hh; exact absurd h hh
 ·rename_i hh; exact ⟨dx.1 hh, h⟩
def nU (o : Org) (rg : Reg) (ks : List Nt) : List Ct := if rkE o rg ks = 0 then lZ o rg (kF ks) else []
theorem a0s (hG : Glob gH H) (o : Org) (ho : o.In H) (rg : Reg) (sv : Value) (hr : rg.In H sv) (kv : Value) (ks : List Nt) (hk : Ks H kv ks) :
 Fn prog 38 [.agg #[.string o.name, o.rv, o.dv, o.cv], .agg #[sv, .int .u64 rg.cpl, .int .u64 rg.off], kv] H fun r H' => ∃ pv, r = .tuple #[pv, I (rkE o rg ks)] ∧ Slx 2 kC H' (fun B => H.length ≤ B) pv (nU o rg ks) ∧ St prog H H' [] := by
 refine .bm func38 rfl (by kernel_rfl) (m := 22) rfl fun l hn g0 g1 g2 => ?_
 simp (disch := omega) only [↓RA, RB, simprocAttr, g0]
 refine (sR H).eNew 4 [(.string o.name), o.rv, o.dv, o.cv] rfl rfl (by simp [OC, ((sR H).sl ho.1).cells.2.1, ((sR H).sl ho.2.2.1).cells.2.1, ((sR H).sl ho.2.2.2.2.1).cells.2.1]) lP fun A1 H1 hS1 => ?_
 simp only [RT] at hS1
 simp (disch := omega) only [↓RA, RB, simprocAttr, g1]
 refine hS1.eNew 3 [sv, (.int .u64 rg.cpl), (.int .u64 rg.off)] rfl rfl (by simp [OC, (hS1.sl hr.1).cells.2.1]) oL fun A2 H2 hS2 => ?_
 simp only [RT] at hS2
 simp (disch := omega) only [↓RA, RZ, simprocAttr, hn, hS2.ai 0 rfl, hS2.ai 1 rfl]
 refine hS2.ag [sv, (.int .u64 rg.cpl), (.int .u64 rg.off)] b6B b3W rfl rfl (by first | (simp []; done) | simp [Value.cells]) (by first | (simp []; done) | simp [Value.cells]) (by simp [OC, (hS2.sl hr.1).cells.2.1]) (by decide) (by decide) fun w1 H3 hS3 => ?_
 simp only [RT] at hS3
 simp (disch := omega) only [↓RA, RZ, simprocAttr, hn, g2]
 refine hS3.cF (b3Y o (ho.ae hS3) w1 [(sv, rg)] (hS3.ax 2 rfl (fun _ => rfl)) (by simp) (by intro p hp; rw [dz.1 hp]; exact hr.ae hS3) kv ks (hk.ae hS3)) fun H4 hS4 => ?_
 have hsc := a6W o sv rg ks
 simp (disch := omega) only [↓RA, RB, simprocAttr, hn, hsc]
 refine iA (fun h1 => ?_) (fun h1 => ?_)
 ·simp (disch := omega) only [↓RA, RZ, simprocAttr, hn, c4o, hsc, h1]
  exact ⟨.slice none 0 0, rfl, ⟨⟨.inl ⟨rfl, by rw [nU, if_neg h1]; rfl⟩, kZ, by decide⟩, fun b h => by simp [kO] at h⟩, hS4.forget⟩
 have h0 := dx.1 h1
 obtain ⟨hz1, hk0⟩ := tU h0
 obtain ⟨hz3, hz4⟩ := mA hz1
 have hf := Org.aY hz3
 have h8 : ks.length ≤ 8 := by
  have := hf.dlen
  have := (qI hk0).2.1
  omega
 simp (disch := omega) only [↓RA, RC, simprocAttr, hsc, h1]
 refine Wp.aQ kE [(0, 4), (1, 4)] (by kernel_rfl) (by kernel_rfl) ?_
 simp (disch := omega) only [↓RA, RZ, simprocAttr, hn, g2, hS4.ai 0 rfl, hS4.ai 1 rfl]
 refine iG ((a4a (hS4.gl hG) kv ks (hk.ae hS4) h8).tr) ?_
 rintro r H5 ⟨-, hT2⟩
 have hS5 := hS4.trans hT2
 simp only [RT] at hS5
 obtain ⟨pv, rfl⟩ : ∃ w, w = r := ⟨r, rfl⟩
 simp (disch := omega) only [↓RA, RZ, simprocAttr, hn]
 have hSd := hS5
 refine iG (tP o (ho.ae hS5) hf rg sv (hr.ae hS5) hz4 pv (kF ks) (hS5.ax 3 rfl kZ) (a0i hk0) (vA hk.ok hk0)) ?_
 rintro r H6 ⟨hx, hT3⟩
 have hS6 := hS5.trans hT3
 simp only [RT] at hS6
 obtain ⟨qv, rfl⟩ : ∃ w, w = r := ⟨r, rfl⟩
 simp (disch := omega) only [↓RA, RZ, simprocAttr, hn, hS5.ai 0 rfl, hS5.ai 1 rfl, c4o, hx.1.bu]
 rw [h0]
 refine ⟨qv, rfl, ⟨?_, fun b h => ?_⟩, hS6.forget⟩
 ·rw [nU, if_pos h0]
  exact hx.1
 ·have := hx.2 b h
  have : H.length ≤ _ := hSd.len
  omega
end Go.Ds
namespace Go.Ds
open Go.Proofs
variable {H : Heap}
set_option maxRecDepth 10000
set_option maxHeartbeats 1000000
end Go.Ds
namespace Go.Ds
open Go.Proofs Go.Proofs.Tryz
variable {H : Heap}
set_option maxRecDepth 10000
set_option maxHeartbeats 1000000
def a2p (lo : Int) (w m : Nat) : List Int := ((List.range m).filter fun j => w.testBit j).map fun (j : Nat) => lo + (j : Int)
def vC (lo hi : Int) : Nat := min 16 (hi - lo + 1).toNat
def a0N (o : Org) (b : Nat → Nat) (i : Nat) : Nt := jT (a2p (iB o.dvs i).lo (b (i % 3)) (vC (iB o.dvs i).lo (iB o.dvs i).hi))
def qL (o : Org) (b : Nat → Nat) : List Nt := (List.range o.dvs.length).map (a0N o b)
theorem c1S (a b : Nat) (h : a < 65536) : ((a : Nat) : Int).fdiv (2 ^ min b (IntKind.bits .u16)) = ((a >>> b : Nat) : Int) := by
 have e : IntKind.bits .u16 = 16 := rfl
 rw [e]
 have h1 : ((a : Nat) : Int).fdiv (2 ^ min b 16) = ((a / 2 ^ min b 16 : Nat) : Int) := by
  rw [gx _ (by exact Int.le_of_lt (Int.pow_pos (by decide)))]
  simp
 rw [h1, eN]
 by_cases hb : b ≤ 16
 ·rw [fS hb]
 ·rw [Nat.min_eq_right (by omega)]
  have h2 : a / 2 ^ 16 = 0 := ic (by simpa using h)
  have h3 : a / 2 ^ b = 0 := ic (dK (by simpa using h) (fm (by decide) (show 16 ≤ b by omega)))
  rw [h2, h3]
theorem b7G (n : Nat) (h : n < 65536) : IntKind.wrap .u16 ((BitVec.ofInt (IntKind.bits .u16) (n : Int) &&& BitVec.ofInt (IntKind.bits .u16) 1).toNat : Int) = ((n % 2 : Nat) : Int) := by
 have e : (BitVec.ofInt (IntKind.bits .u16) (n : Int) &&& BitVec.ofInt (IntKind.bits .u16) 1).toNat = n % 2 := by
  show (BitVec.ofInt 16 (n : Int) &&& BitVec.ofInt 16 1).toNat = n % 2
  rw [gE]
  have h1 : (BitVec.ofInt 16 (n : Int)).toNat = n := by
   rw [fU, BitVec.toNat_ofNat]
   exact gz (by simpa using h)
  have h2 : (BitVec.ofInt 16 1).toNat = 1 := rfl
  rw [h1, h2, Nat.and_one_is_mod]
 rw [e]
 have : n % 2 < 2 := eF _ (by decide)
 have hh : n % 2 = 0 ∨ n % 2 = 1 := by omega
 rcases hh with h | h <;> rw [h] <;> rfl
theorem b3B {a : Nat} (b : Nat) (h : a < 65536) : a >>> b < 65536 := by
 rw [eN]
 exact Nat.lt_of_le_of_lt (Nat.div_le_self _ _) h
theorem b2u (lo : Int) (w m : Nat) : a2p lo w (m + 1) = a2p lo w m ++ (if w.testBit m then [lo + (m : Int)] else []) := by
 unfold a2p
 rw [ek, eU, dT]
 congr 1
 cases h : w.testBit m <;> simp [h]
theorem b5A (lo : Int) (w m : Nat) : (a2p lo w m).length ≤ m := by
 unfold a2p
 rw [dX]
 exact dD (ef _ _) (by simp)
theorem b7W (lo hi : Int) : vC lo hi ≤ 16 := Nat.min_le_left _ _
theorem a1F {o : Org} (hf : o.Fine) (w : Nat) {i : Nat} (hi : i < o.dvs.length) : ∀ z ∈ a2p (iB o.dvs i).lo w (vC (iB o.dvs i).lo (iB o.dvs i).hi), isN z ∧ (iB o.dvs i).lo ≤ z ∧ z ≤ (iB o.dvs i).hi := by
 intro z hz
 have hk := hf.keys i hi
 unfold a2p vC at hz
 obtain ⟨j, hj, rfl⟩ := dE.1 hz
 have hj := dC.1 (ff.1 hj).1
 exact ⟨⟨by omega, by omega⟩, by omega, by omega⟩
theorem a9Z (o : Org) (ho : o.In H) (hf : o.Fine) (b : Nat → Nat) (hb : ∀ i, b i < 65536) :
 Fn prog 10 [.agg #[.string o.name, o.rv, o.dv, o.cv], .agg #[.int .u16 (b 0), .int .u16 (b 1), .int .u16 (b 2)]] H fun r H' =>
  St prog H H' [⟨r, 2, (qL o b).flatMap ntc⟩] := by
 have hd8 := hf.dlen
 refine .aM func10 rfl (by kernel_rfl) (m := 66) rfl fun l hn g0 g1 => ?_
 simp (disch := omega) only [↓RA, RB, simprocAttr, g0]
 refine (sR H).eNew 4 [(.string o.name), o.rv, o.dv, o.cv] rfl rfl (by simp [OC, ((sR H).sl ho.1).cells.2.1, ((sR H).sl ho.2.2.1).cells.2.1, ((sR H).sl ho.2.2.2.2.1).cells.2.1]) lP fun A1 H1 hS1 => ?_
 simp only [RT] at hS1
 simp (disch := omega) only [↓RA, RB, simprocAttr, g1]
 refine hS1.eNew 3 [(.int .u16 (b 0)), (.int .u16 (b 1)), (.int .u16 (b 2))] rfl rfl rfl c2K fun A2 H2 hS2 => ?_
 simp only [RT] at hS2
 simp (disch := omega) only [↓RA, RB, simprocAttr]
 have hS3 := hS2.nil 1
 simp only [RT] at hS3
 refine Wp.ar (fun n l H' => l.length = 66 ∧ get l 2 = (ptr A1 0 4) ∧ get l 3 = (ptr A2 0 3) ∧ get l 4 = (.slice none 0 0) ∧ ∃ (i : Nat) (kv : Value), (n + i = o.dvs.length) ∧ get l 6 = I i ∧ get l 5 = kv ∧ St prog H H' [⟨ptr A1 0 4, 0, [(.string o.name), o.rv, o.dv, o.cv]⟩, ⟨ptr A2 0 3, 0, [(.int .u16 (b 0)), (.int .u16 (b 1)), (.int .u16 (b 2))]⟩, ⟨kv, 2, ((List.range i).map (a0N o b)).flatMap ntc⟩]) o.dvs.length ?_ ?_
 ·simp (disch := omega) only [RB, RC, simprocAttr, hn]
  exact ⟨0, .slice none 0 0, by omega, rfl, rfl, hS3⟩
 rintro n l H3 ⟨hn, g2, g3, g4, i, kv, hi, g6, g5, hS4⟩
 simp (disch := omega) only [↓RA, RZ, simprocAttr, hn, g2, g6, hS4.ld 0 rfl, (hS4.sl ho.2.2.1).len]
 refine iA (fun q => ?_) (fun q => ?_)
 ·have hk := hf.keys i (by omega)
  simp (disch := omega) only [↓RA, RZ, simprocAttr, hn, g2, g6, hS4.ld 0 rfl, (hS4.sl ho.2.2.1).idx, (hS4.sl ho.2.2.1).bf, (hS4.sl ho.2.2.1).cK 2, Dvn.cells, q]
  refine hS4.eNew 2 [I 0, I 0] rfl rfl rfl yX fun A3 H4 hS5 => ?_
  simp only [RT] at hS5
  simp (disch := omega) only [↓RA, RZ, simprocAttr, hn, q]
  refine hS5.ab 3 rfl [I (iB o.dvs i).lo, I (iB o.dvs i).hi] rfl rfl yX (by simp) fun H5 hS6 => ?_
  simp only [RT] at hS6
  simp (disch := omega) only [↓RA, RZ, simprocAttr, hn, hS6.ld 3 rfl, q]
  have hS7 := hS6.nil 0
  simp only [RT] at hS7
  refine Wp.ar (fun n l H' => l.length = 66 ∧ get l 2 = (ptr A1 0 4) ∧ get l 3 = (ptr A2 0 3) ∧ get l 4 = (.slice none 0 0) ∧ get l 5 = kv ∧ get l 6 = I i ∧ get l 8 = (ptr A3 0 2) ∧ ∃ (m : Nat) (lv : Value), (n + m = vC (iB o.dvs i).lo (iB o.dvs i).hi) ∧ get l 9 = I ((iB o.dvs i).lo + m) ∧ get l 7 = lv ∧ St prog H H' [⟨ptr A1 0 4, 0, [(.string o.name), o.rv, o.dv, o.cv]⟩, ⟨ptr A2 0 3, 0, [(.int .u16 (b 0)), (.int .u16 (b 1)), (.int .u16 (b 2))]⟩, ⟨kv, 2, ((List.range i).map (a0N o b)).flatMap ntc⟩, ⟨ptr A3 0 2, 0, [I (iB o.dvs i).lo, I (iB o.dvs i).hi]⟩, ⟨lv, 1, (a2p (iB o.dvs i).lo (b (i % 3)) m).flatMap (one I)⟩]) (vC (iB o.dvs i).lo (iB o.dvs i).hi) ?_ ?_
  ·simp (disch := omega) only [RB, RC, simprocAttr, hn, g2, g3, g4, g6, g5]
   exact ⟨0, .slice none 0 0, by omega, by simp, rfl, hS7⟩
  rintro n l H6 ⟨hn, g2, g3, g4, g5, g6, g8, m, lv, hm, g9, g7, hS8⟩
  simp (disch := omega) only [↓RA, RZ, simprocAttr, hn, g8, g9, hS8.ld 3 rfl]
  have hM := b7W (iB o.dvs i).lo (iB o.dvs i).hi
  have hi3 : (i : Int).tmod 3 = ((i % 3 : Nat) : Int) := (dP i 3).symm
  have hw : ([Value.int .u16 (b 0), .int .u16 (b 1), .int .u16 (b 2)] : List Value)[i % 3]? = some (.int .u16 (b (i % 3))) := by
   have : i % 3 = 0 ∨ i % 3 = 1 ∨ i % 3 = 2 := by omega
   rcases this with e | e | e <;> rw [e] <;> rfl
  have hsub : (iB o.dvs i).lo + (m : Int) - (iB o.dvs i).lo = (m : Int) := by omega
  have e1 := c1S (b (i % 3)) m (hb _)
  have e2 := b7G (b (i % 3) >>> m) (b3B m (hb _))
  have e3 := tb (b (i % 3)) m
  have hsu := b2u (iB o.dvs i).lo (b (i % 3)) m
  have hpl := b5A (iB o.dvs i).lo (b (i % 3)) m
  refine kG (fun q1 => ?_) (fun q1 => ?_)
  ·simp (disch := omega) only [↓RA, RZ, simprocAttr, hn, g8, g9, hS8.ld 3 rfl, q1]
   refine iA (fun q2 => ?_) (fun q2 => ?_)
   ·skip
    simp (disch := omega) only [↓RA, RC, simprocAttr, q1, q2]
    refine Wp.drw kE (by kernel_rfl) ?_
    simp (disch := omega) only [↓RA, RZ, simprocAttr, hn, g3, g6, g8, g9, hS8.ld 1 rfl, hw, hS8.ld 3 rfl, hi3, hsub, e1, e2]
    refine iA (fun q3 => ?_) (fun q3 => ?_)
    ·rw [e3, decide_eq_true (by omega), if_pos rfl] at hsu
     simp (disch := omega) only [↓RA, RZ, simprocAttr, hn, g9, g7, q3]
     refine hS8.ag [I ((iB o.dvs i).lo + m)] vD a0R rfl rfl (by simp [Value.cells]) rfl rfl (by decide) (by decide) fun w1 H7 hS9 => ?_
     simp only [RT] at hS9
     simp (disch := omega) only [↓RA, RZ, simprocAttr, hn, q3]
     refine hS9.al 4 rfl (hS9.rd 5 rfl) vD (by rw [iI (n := 1) (cel := one I) (fun _ => rfl)]; simp; omega) fun w2 H8 hS10 => ?_
     simp only [RT] at hS10
     simp (disch := omega) only [↓RA, RZ, simprocAttr, hn, g2, g3, g4, g5, g6, g8, g9, q3]
     refine ⟨n - 1, by unfold vC at hm; omega, m + 1, w2, by unfold vC at hm ⊢; omega, by simp; omega, rfl, ?_⟩
     rw [hsu, dG]
     exact hS10.pick [0, 1, 2, 3, 4] (by decide) rfl
    rw [e3, decide_eq_false (by omega), if_neg (by simp), dB] at hsu
    simp (disch := omega) only [↓RA, RZ, simprocAttr, hn, g2, g3, g4, g5, g6, g8, g9, g7, q3]
    refine ⟨n - 1, by unfold vC at hm; omega, m + 1, lv, by unfold vC at hm ⊢; omega, by simp; omega, rfl, ?_⟩
    rw [hsu]
    exact hS8.pick [0, 1, 2, 3, 4] (by decide) rfl
   have hmM : m = vC (iB o.dvs i).lo (iB o.dvs i).hi := by unfold vC at hm hM ⊢; omega
   have hz := a1F hf (b (i % 3)) (show i < o.dvs.length by omega)
   subst hmM
   simp (disch := omega) only [↓RA, RZ, simprocAttr, hn, g7, q1, q2]
   refine hS8.cF (wE (a2p (iB o.dvs i).lo (b (i % 3)) (vC (iB o.dvs i).lo (iB o.dvs i).hi)) (fun z h => (hz z h).1) lv (hS8.ax 4 rfl (lM _)) (by omega)) fun H9 hS11 => ?_
   simp (disch := omega) only [↓RA, RZ, simprocAttr, hn, q1, q2]
   refine hS11.eNew 2 [(.int .u64 0), (.int .u64 0)] rfl rfl rfl nA fun A4 H10 hS12 => ?_
   simp only [RT] at hS12
   simp (disch := omega) only [↓RA, RZ, simprocAttr, hn, q1, q2]
   refine hS12.ab 5 rfl [(.int .u64 (a0N o b i).1), (.int .u64 (a0N o b i).2)] rfl rfl nA (by simp) fun H11 hS13 => ?_
   simp only [RT] at hS13
   simp (disch := omega) only [↓RA, RZ, simprocAttr, hn, g5, hS13.ai 5 rfl, q1, q2]
   refine hS13.ag [(.int .u64 (a0N o b i).1), (.int .u64 (a0N o b i).2)] a5D b6x rfl rfl (by simp [Value.cells]) rfl rfl (by decide) (by decide) fun w3 H12 hS14 => ?_
   simp only [RT] at hS14
   simp (disch := omega) only [↓RA, RZ, simprocAttr, hn, q1, q2]
   refine hS14.al 2 rfl (hS14.rd 6 rfl) a5D (by rw [iI (n := 2) (cel := ntc) (fun _ => rfl)]; simp; omega) fun w4 H13 hS15 => ?_
   simp only [RT] at hS15
   simp (disch := omega) only [↓RA, RZ, simprocAttr, hn, g2, g3, g4, g6, q1, q2]
   refine ⟨o.dvs.length - (i + 1), by omega, i + 1, w4, by omega, by simp, rfl, ?_⟩
   rw [ek, dT, dG]
   exact hS15.pick [0, 1, 2] (by decide) rfl
  have hmM : m = vC (iB o.dvs i).lo (iB o.dvs i).hi := by unfold vC at hm hM ⊢; omega
  have hz := a1F hf (b (i % 3)) (show i < o.dvs.length by omega)
  subst hmM
  simp (disch := omega) only [↓RA, RZ, simprocAttr, hn, g7, q1]
  refine hS8.cF (wE (a2p (iB o.dvs i).lo (b (i % 3)) (vC (iB o.dvs i).lo (iB o.dvs i).hi)) (fun z h => (hz z h).1) lv (hS8.ax 4 rfl (lM _)) (by omega)) fun H14 hS16 => ?_
  simp (disch := omega) only [↓RA, RZ, simprocAttr, hn, q1]
  refine hS16.eNew 2 [(.int .u64 0), (.int .u64 0)] rfl rfl rfl nA fun A5 H15 hS17 => ?_
  simp only [RT] at hS17
  simp (disch := omega) only [↓RA, RZ, simprocAttr, hn, q1]
  refine hS17.ab 5 rfl [(.int .u64 (a0N o b i).1), (.int .u64 (a0N o b i).2)] rfl rfl nA (by simp) fun H16 hS18 => ?_
  simp only [RT] at hS18
  simp (disch := omega) only [↓RA, RZ, simprocAttr, hn, g5, hS18.ai 5 rfl, q1]
  refine hS18.ag [(.int .u64 (a0N o b i).1), (.int .u64 (a0N o b i).2)] a5D b6x rfl rfl (by simp [Value.cells]) rfl rfl (by decide) (by decide) fun w5 H17 hS19 => ?_
  simp only [RT] at hS19
  simp (disch := omega) only [↓RA, RZ, simprocAttr, hn, q1]
  refine hS19.al 2 rfl (hS19.rd 6 rfl) a5D (by rw [iI (n := 2) (cel := ntc) (fun _ => rfl)]; simp; omega) fun w6 H18 hS20 => ?_
  simp only [RT] at hS20
  simp (disch := omega) only [↓RA, RZ, simprocAttr, hn, g2, g3, g4, g6, q1]
  refine ⟨o.dvs.length - (i + 1), by omega, i + 1, w6, by omega, by simp, rfl, ?_⟩
  rw [ek, dT, dG]
  exact hS20.pick [0, 1, 2] (by decide) rfl
 simp (disch := omega) only [↓RA, RZ, simprocAttr, hn, g5, c5X, q]
 have hii : i = o.dvs.length := by omega
 subst hii
 exact hS4.pick [2] (by decide) rfl
theorem a5o (o : Org) (b : Nat → Nat) : (qL o b).length = o.dvs.length := by simp [qL]
theorem b7u {o : Org} (hf : o.Fine) (b : Nat → Nat) {i : Nat} (hi : i < o.dvs.length) : Nt.Ok (a0N o b i) := rV _ _ (fun z h => (a1F hf (b (i % 3)) hi z h).1) ⟨by decide, by decide⟩
theorem a6A {o : Org} (hf : o.Fine) (b : Nat → Nat) : ∀ x ∈ qL o b, Nt.Ok x := by
 intro x hx
 obtain ⟨i, hi, rfl⟩ := dE.1 hx
 exact b7u hf b (dC.1 hi)
theorem b4O {x y : Nt} (hx : Nt.Ok x) (h : ∀ z, isN z → qF x z = true → qF y z = true) : woF x y = (0, 0) := by
 have k : ∀ z, isN z → qF (woF x y) z = false := fun z hz => by
  rw [b0w hx hz]
  cases e : qF x z with
  | false => rfl
  | true => rw [h z hz e]; rfl
 have big : ∀ a : Nat, a < 18446744073709551616 → ∀ j, 64 ≤ j → a.testBit j = false := fun a ha j hj =>
  Nat.testBit_lt_two_pow (dK (show a < 2 ^ 64 from ha) (fm (by decide) hj))
 obtain ⟨h1, h2⟩ := c1T x y
 apply gW
 ·apply fV
  intro j
  rw [ig]
  by_cases hj : 64 ≤ j
  ·exact big _ h1 j hj
  ·have := k (j : Int) ⟨by omega, by omega⟩
   unfold qF at this
   rw [if_pos (by omega)] at this
   exact this
 ·apply fV
  intro j
  rw [ig]
  by_cases hj : 64 ≤ j
  ·exact big _ h2 j hj
  ·have := k (64 + j : Int) ⟨by omega, by omega⟩
   unfold qF at this
   rw [if_neg (by omega), show (64 + (j : Int) - 64).toNat = j by omega] at this
   exact this
end Go.Ds
namespace Go.Ds
open Go.Proofs
set_option maxRecDepth 10000
theorem Star.mono {α : Type} {R R' : α → α → Prop} (h : ∀ a b, R a b → R' a b) {a b : α} (hs : Star R a b) : Star R' a b := by
 induction hs with
 | refl => exact .refl _
 | tail _ h2 ih => exact .tail ih (h _ _ h2)
end Go.Ds
namespace Go.Ds
open Go.Proofs Go.Shelf Go.RowKit Go.Lib Go.Sort
def sm (x : Int × Int) : Prop := -1000000000 ≤ x.1 ∧ x.1 ≤ 1000000000 ∧ -1000000000 ≤ x.2 ∧ x.2 ≤ 1000000000
abbrev Sm := {x : Int × Int // sm x}
instance : Inhabited Sm := ⟨⟨(0, 0), by unfold sm; decide⟩⟩
section
variable {H : Heap}
end
end Go.Ds
namespace Go.Ds
open Go.Proofs
variable {H : Heap}
set_option maxRecDepth 10000
set_option maxHeartbeats 1000000
end Go.Ds
namespace Go.Ds
open Go.Proofs Go.Shelf Go.RowKit Go.Lib Go.Sort
section
variable {H : Heap}
end
end Go.Ds
namespace Go.Ds
open Go.Proofs
variable {H : Heap}
set_option maxRecDepth 10000
set_option maxHeartbeats 1000000
end Go.Ds
namespace Go.Ds
open Go.Proofs Go.Proofs.Tryz
variable {H : Heap}
set_option maxRecDepth 10000
set_option maxHeartbeats 1000000
theorem b4J {x y : Int × Int} : cf2 x y < 0 ↔ ltP x y := by
 unfold cf2 ltP
 split
 ·omega
 ·split
  ·omega
  ·split
   ·omega
   ·split <;> omega
theorem b4h {x y : Int × Int} : cf2 x y = 0 ↔ x = y := by
 unfold cf2
 constructor
 ·intro h
  split at h
  ·omega
  ·split at h
   ·omega
   ·split at h
    ·omega
    ·split at h
     ·omega
     ·exact gW (by omega) (by omega)
 ·rintro rfl
  rw [if_neg (by omega), if_neg (by omega), if_neg (by omega), if_neg (by omega)]
theorem a4Z {xs : List Ct} (hs : xs.Pairwise ltP) {i j : Nat} (h : i < j) (hj : j < xs.length) : ltP (iB xs i) (iB xs j) := by
 rw [kB _ _ (by omega), kB _ _ hj]
 exact eu.1 hs i j (by omega) hj h
theorem c1r (v : Value) (xs : List Ct) (hv : Sl 2 kC H v xs) (hl : xs.length < 1000000000) (hs : xs.Pairwise ltP) (t : Ct) :
 Fn prog 90 [v, .agg #[I t.1, I t.2], .func (.func 91) #[] #[]] H fun r H' => ∃ k : Nat, r = .tuple #[I k, .bool (decide (t ∈ xs))] ∧ St prog H H' [] := by
 refine .bm func90 rfl (by kernel_rfl) (m := 49) rfl fun l hn g0 g1 g2 => ?_
 simp (disch := omega) only [↓RA, RB, simprocAttr, g1]
 refine (sR H).eNew 2 [I t.1, I t.2] rfl rfl rfl nR fun A1 H1 hS1 => ?_
 simp only [RT] at hS1
 simp (disch := omega) only [↓RA, RZ, simprocAttr, hn, g0, (hS1.sl hv).len]
 refine Wp.ar (fun n l H' => l.length = 49 ∧ get l 0 = v ∧ get l 2 = (.func (.func 91) #[] #[]) ∧ get l 4 = (ptr A1 0 2) ∧ get l 6 = I 0 ∧ get l 7 = (.bool false) ∧ get l 8 = I xs.length ∧ ∃ (i : Nat) (j : Nat), (n + i = j ∧ j ≤ xs.length ∧ (∀ q, q < i → ltP (iB xs q) t) ∧ ∀ q, j ≤ q → q < xs.length → ¬ ltP (iB xs q) t) ∧ get l 9 = I i ∧ get l 10 = I j ∧ St prog H H' [⟨ptr A1 0 2, 0, [I t.1, I t.2]⟩]) xs.length ?_ ?_
 ·simp (disch := omega) only [RB, RC, simprocAttr, hn, g0, g2]
  exact ⟨0, xs.length, ⟨by omega, by omega, fun q hq => absurd hq (dQ _), fun q h1 h2 => absurd h2 (by omega)⟩, rfl, rfl, hS1⟩
 rintro n l H2 ⟨hn, g0, g2, g4, g6, g7, g8, i, j, ⟨h1,h2,h3,h4⟩, g9, pH, hS2⟩
 simp (disch := omega) only [↓RA, RB, simprocAttr, hn, g9, pH]
 refine iA (fun q1 => ?_) (fun q1 => ?_)
 ·obtain ⟨m, hm⟩ : ∃ m : Nat, (i + j) / 2 = m := ⟨_, rfl⟩
  have e1 : ((i : Int) + j).fdiv (2 ^ min 1 (IntKind.bits .u64)) = ((m : Nat) : Int) := by
   have h := a7p (i + j) 1 (by omega)
   rw [eN] at h
   rw [← hm]
   exact h
  simp (disch := omega) only [↓RA, RZ, simprocAttr, hn, g9, pH, q1, e1]
  refine Wp.drw kE (by kernel_rfl) ?_
  simp (disch := omega) only [↓RA, RZ, simprocAttr, hn, g0, g2]
  simp (disch := omega) only [↓RA, RZ, simprocAttr, hn, g4, (hS2.sl hv).idx, (hS2.sl hv).ai, kC, hS2.ai 0 rfl]
  refine hS2.cF (a4o (iB xs m) t) fun H3 hS3 => ?_
  simp (disch := omega) only [↓RA, RB, simprocAttr, hn]
  refine iA (fun q2 => ?_) (fun q2 => ?_)
  ·have hlt := b4J.1 q2
   simp (disch := omega) only [↓RA, RZ, simprocAttr, hn, g0, g2, g4, g6, g7, g8, pH, q2]
   refine ⟨j - (m + 1), by omega, m + 1, j, ⟨by omega, h2, fun q hq => ?_, h4⟩, by simp, rfl, hS3⟩
   by_cases e : q = m
   ·rw [e]; exact hlt
   ·exact a3I (a4Z hs (show q < m by omega) (by omega)) hlt
  have hnl : ¬ ltP (iB xs m) t := fun h => q2 (b4J.2 h)
  simp (disch := omega) only [↓RA, RZ, simprocAttr, hn, g0, g2, g4, g6, g7, g8, g9, q2]
  refine ⟨m - i, by omega, i, m, ⟨by omega, by omega, h3, fun q hq hql h => ?_⟩, rfl, by simp, hS3⟩
  by_cases e : q = m
  ·rw [e] at h; exact hnl h
  ·exact hnl (a3I (a4Z hs (show m < q by omega) hql) h)
 have hij : i = j := by omega
 have hno : ∀ q, q < xs.length → q ≠ i → iB xs q ≠ t := fun q hq hne e => by
  by_cases hqi : q < i
  ·have := h3 q hqi
   rw [e] at this
   exact b8P this
  ·have h5 := h4 i (by omega) (by omega)
   have h6 := a4Z hs (show i < q by omega) hq
   rw [e] at h6
   exact h5 h6
 simp (disch := omega) only [↓RA, RC, simprocAttr, q1]
 refine Wp.drw kE (by kernel_rfl) ?_
 simp (disch := omega) only [↓RA, RZ, simprocAttr, hn, g8, g9]
 refine kG (fun q3 => ?_) (fun q3 => ?_)
 ·simp (disch := omega) only [↓RA, RZ, simprocAttr, hn, g0, g2, g4, g9, (hS2.sl hv).idx, (hS2.sl hv).ai, kC, hS2.ai 0 rfl, q3]
  refine hS2.cF (a4o (iB xs i) t) fun H4 hS4 => ?_
  simp (disch := omega) only [↓RA, RZ, simprocAttr, hn, c4j, q3]
  have he : decide (cf2 (iB xs i) t = 0) = decide (t ∈ xs) := by
   rw [decide_eq_decide, b4h]
   constructor
   ·intro e
    rw [← e]
    exact iE (by omega)
   ·intro hm
    obtain ⟨q, hq, e⟩ := dV.1 hm
    rw [← kB _ _ hq] at e
    by_cases hqi : q = i
    ·rw [hqi] at e; exact e
    ·exact absurd e (hno q hq hqi)
  exact ⟨i, by rw [← he], hS4.forget⟩
 have hf : decide (t ∈ xs) = false := by
  rw [decide_eq_false_iff_not]
  intro hm
  obtain ⟨q, hq, e⟩ := dV.1 hm
  rw [← kB _ _ hq] at e
  exact hno q hq (by omega) e
 simp (disch := omega) only [↓RA, RZ, simprocAttr, hn, c4j, q3]
 exact ⟨i, by rw [hf], hS2.forget⟩
def a1z (xs ys : List Ct) : List Ct := xs.filter fun c => !decide (c ∈ ys)
theorem a6T (xs ys : List Ct) : (a1z xs ys).length ≤ xs.length := ef _ _
theorem a9q (xs ys : List Ct) (i : Nat) (h : i < xs.length) : a1z (xs.take (i + 1)) ys = a1z (xs.take i) ys ++ (if iB xs i ∈ ys then [] else [iB xs i]) := by
 unfold a1z
 rw [lH xs i h, eU]
 congr 1
 by_cases e : iB xs i ∈ ys <;> simp [e]
theorem a6s (v w : Value) (xs ys : List Ct) (hv : Sl 2 kC H v xs) (hw : Sl 2 kC H w ys) (hl : xs.length < 100000000) (hl2 : ys.length < 100000000) (hs : ys.Pairwise ltP) :
 Fn prog 67 [v, w] H fun r H' => St prog H H' [⟨r, 2, pr (a1z xs ys)⟩] := by
 refine .aM func67 rfl (by kernel_rfl) (m := 30) rfl fun l hn g0 g1 => ?_
 simp (disch := omega) only [↓RA, RZ, simprocAttr, hn, g0, ((sR H).sl hv).len]
 have hS1 := (sR H).nil 1
 simp only [RT] at hS1
 refine Wp.ar (fun n l H' => l.length = 30 ∧ get l 1 = w ∧ get l 4 = (.slice none 0 0) ∧ get l 10 = v ∧ get l 11 = I xs.length ∧ ∃ (i : Nat) (ov : Value), (n + i = xs.length) ∧ get l 12 = I i ∧ get l 5 = ov ∧ St prog H H' [⟨ov, 2, pr (a1z (xs.take i) ys)⟩]) xs.length ?_ ?_
 ·simp (disch := omega) only [RB, RC, simprocAttr, hn, g1]
  exact ⟨0, .slice none 0 0, by omega, rfl, rfl, hS1⟩
 rintro n l H1 ⟨hn, g1, g4, pH, g11, i, ov, hi, g12, g5, hS2⟩
 simp (disch := omega) only [↓RA, RB, simprocAttr, hn, g11, g12]
 refine iA (fun q1 => ?_) (fun q1 => ?_)
 ·have hsu := a9q xs ys i (by omega)
  have hle := a6T (xs.take i) ys
  have htl := List.length_take_le i xs
  simp (disch := omega) only [↓RA, RZ, simprocAttr, hn, pH, g12, (hS2.sl hv).idx, (hS2.sl hv).ai, kC, q1]
  refine hS2.eNew 2 [I 0, I 0] rfl rfl rfl nR fun A1 H2 hS3 => ?_
  simp only [RT] at hS3
  simp (disch := omega) only [↓RA, RZ, simprocAttr, hn, q1]
  refine hS3.ab 1 rfl [I (iB xs i).1, I (iB xs i).2] rfl rfl nR (by simp) fun H3 hS4 => ?_
  simp only [RT] at hS4
  simp (disch := omega) only [↓RA, RZ, simprocAttr, hn, g1, hS4.ai 1 rfl, q1]
  refine iG (c1r w ys (hS4.sl hw) (by omega) hs (iB xs i)) ?_
  rintro r H4 ⟨k, rfl, hT1⟩
  have hS5 := hS4.trans hT1
  simp only [RT] at hS5
  simp (disch := omega) only [↓RA, RZ, simprocAttr, hn, q1]
  refine jS (fun q2 => ?_) (fun q2 => ?_)
  ·have hni : ¬ iB xs i ∈ ys := by simpa using q2
   rw [if_neg hni] at hsu
   simp (disch := omega) only [↓RA, RZ, simprocAttr, hn, g5, hS5.ai 1 rfl, q1, q2]
   refine hS5.ag [I (iB xs i).1, I (iB xs i).2] a6g c0g rfl rfl (by simp [Value.cells]) rfl rfl (by decide) (by decide) fun w1 H5 hS6 => ?_
   simp only [RT] at hS6
   simp (disch := omega) only [↓RA, RZ, simprocAttr, hn, q1, q2]
   refine hS6.al 0 rfl (hS6.rd 2 rfl) a6g (by rw [iJ]; simp only [dy, dA]; omega) fun w2 H6 hS7 => ?_
   simp only [RT] at hS7
   simp (disch := omega) only [↓RA, RZ, simprocAttr, hn, g1, g4, pH, g11, g12, q1, q2]
   refine ⟨n - 1, by omega, i + 1, w2, by omega, by simp, rfl, ?_⟩
   rw [hsu, jZ]
   exact hS7.pick [0] (by decide) rfl
  have hni : iB xs i ∈ ys := by simpa using q2
  rw [if_pos hni, dB] at hsu
  simp (disch := omega) only [↓RA, RZ, simprocAttr, hn, g1, g4, pH, g11, g12, g5, q1, q2]
  refine ⟨n - 1, by omega, i + 1, ov, by omega, by simp, rfl, ?_⟩
  rw [hsu]
  exact hS5.pick [0] (by decide) rfl
 simp (disch := omega) only [↓RA, RZ, simprocAttr, hn, g5, c6e, q1]
 have hii : i = xs.length := by omega
 rw [hii, dZ] at hS2
 exact hS2
end Go.Ds
namespace Go.Ds
open Go.Proofs
set_option maxRecDepth 10000
section
variable {o : Org} {b : Nat → Nat} {l : List Ct}
end
def a2r (o : Org) (p : Ct) : Int := iB (iB o.ranks p.1.toNat).wind p.2.toNat
def vK (o : Org) (l : List Ct) : Int := l.foldl (fun n p => tH (n + a2r o p)) 0
theorem a9V (o : Org) (l : List Ct) (i : Nat) (h : i < l.length) : vK o (l.take (i + 1)) = tH (vK o (l.take i) + a2r o (iB l i)) := by
 unfold vK
 rw [lH l i h, fx]
 rfl
end Go.Ds
namespace Go.Ds
open Go.Proofs Go.Proofs.Tryz
variable {H : Heap}
set_option maxRecDepth 10000
set_option maxHeartbeats 1000000
theorem a1f (o : Org) (ho : o.In H) (v : Value) (ps : List Ct) (hv : Sl 2 kC H v ps) (hl : ps.length < 100000000) (hp : ∀ p ∈ ps, IsP o p) :
 Fn prog 39 [.agg #[.string o.name, o.rv, o.dv, o.cv], v] H fun r H' => r = I (vK o ps) ∧ St prog H H' [] := by
 refine .aM func39 rfl (by kernel_rfl) (m := 29) rfl fun l hn g0 g1 => ?_
 simp (disch := omega) only [↓RA, RB, simprocAttr, g0]
 refine (sR H).eNew 4 [(.string o.name), o.rv, o.dv, o.cv] rfl rfl (by simp [OC, ((sR H).sl ho.1).cells.2.1, ((sR H).sl ho.2.2.1).cells.2.1, ((sR H).sl ho.2.2.2.2.1).cells.2.1]) lP fun A1 H1 hS1 => ?_
 simp only [RT] at hS1
 simp (disch := omega) only [↓RA, RZ, simprocAttr, hn, g1, (hS1.sl hv).len]
 refine Wp.ar (fun n l H' => l.length = 29 ∧ get l 2 = (ptr A1 0 4) ∧ get l 4 = I 0 ∧ get l 8 = v ∧ get l 9 = I ps.length ∧ ∃ (i : Nat), (n + i = ps.length) ∧ get l 10 = I i ∧ get l 5 = I (vK o (ps.take i)) ∧ St prog H H' [⟨ptr A1 0 4, 0, [(.string o.name), o.rv, o.dv, o.cv]⟩]) ps.length ?_ ?_
 ·simp (disch := omega) only [RB, RC, simprocAttr, hn]
  exact ⟨0, by omega, rfl, rfl, hS1⟩
 rintro n l H2 ⟨hn, g2, g4, g8, g9, i, hi, pH, g5, hS2⟩
 simp (disch := omega) only [↓RA, RB, simprocAttr, hn, g9, pH]
 refine iA (fun q1 => ?_) (fun q1 => ?_)
 ·have hpi := hp _ (iE (xs := ps) (j := i) (by omega))
  obtain ⟨e, he⟩ : ∃ e : Nat, (iB ps i).1 = e := ⟨(iB ps i).1.toNat, by have := hpi.1; omega⟩
  obtain ⟨f, hf⟩ : ∃ f : Nat, (iB ps i).2 = f := ⟨(iB ps i).2.toNat, by have := hpi.2.2.1; omega⟩
  have hel : e < o.ranks.length := by have := hpi.2.1; omega
  have hfl : f < (iB o.ranks e).wind.length := by
   have := hpi.2.2.2
   rw [he, eK] at this
   omega
  have hsu := a9V o ps i (by omega)
  have hwt : a2r o (iB ps i) = iB (iB o.ranks e).wind f := by unfold a2r; rw [he, hf, eK, eK]
  rw [hwt] at hsu
  simp (disch := omega) only [↓RA, RZ, simprocAttr, hn, g8, pH, (hS2.sl hv).idx, (hS2.sl hv).ai, kC, q1]
  refine hS2.eNew 2 [I 0, I 0] rfl rfl rfl nR fun A2 H3 hS3 => ?_
  simp only [RT] at hS3
  simp (disch := omega) only [↓RA, RZ, simprocAttr, hn, q1]
  refine hS3.ab 1 rfl [I (iB ps i).1, I (iB ps i).2] rfl rfl nR (by simp) fun H4 hS4 => ?_
  simp only [RT] at hS4
  simp (disch := omega) only [↓RA, RZ, simprocAttr, q1]
  refine Wp.drw kE (by kernel_rfl) ?_
  simp (disch := omega) only [↓RA, RZ, simprocAttr, hn, g2, g5, hS4.ld 0 rfl]
  simp (disch := omega) only [↓RA, RZ, simprocAttr, hn, g2, g4, g8, g9, pH, hS4.ld 1 rfl, (hS4.sl ho.1).idx, (hS4.sl ho.1).bf, (hS4.sl ho.1).ld, Rk.cells, (hS4.sl (ho.2.1 (iB o.ranks e) (iE (by omega))).1).idx, (hS4.sl (ho.2.1 (iB o.ranks e) (iE (by omega))).1).ld, one, he, hf]
  refine ⟨n - 1, by omega, i + 1, by omega, by simp, ?_, hS4.pick [0] (by decide) rfl⟩
  first | (rw [hsu]; done) | (rw [hsu]; rfl) | (rw [hsu]; simp)
 simp (disch := omega) only [↓RA, RZ, simprocAttr, hn, g5, c5V, q1]
 have hii : i = ps.length := by omega
 rw [hii, dZ]
 exact ⟨rfl, hS2.forget⟩
theorem b0A {o : Org} {rg : Reg} {ks : List Nt} : ∀ p ∈ nU o rg ks, IsP o p := by
 intro p hp
 unfold nU at hp
 split at hp
 ·exact vX hp
 ·exact absurd hp ec
theorem b5c {o : Org} {rg : Reg} {ks : List Nt} (hok : ∀ x ∈ ks, Nt.Ok x) : (nU o rg ks).length ≤ 1000000 := by
 unfold nU
 split
 ·rename_i h
  obtain ⟨h1, h2⟩ := tU h
  exact uP (Org.aY (mA h1).1) rg (a0i h2) (pA (vA hok h2))
 ·simp
def vB (o : Org) (rg : Reg) (ks : List Nt) : Int := vK o (nU o rg ks)
theorem a2d (hG : Glob gH H) (o : Org) (ho : o.In H) (rg : Reg) (sv : Value) (hr : rg.In H sv) (kv : Value) (ks : List Nt) (hk : Ks H kv ks) :
 Fn prog 18 [.agg #[.string o.name, o.rv, o.dv, o.cv], .agg #[sv, .int .u64 rg.cpl, .int .u64 rg.off], kv] H fun r H' => r = .tuple #[I (vB o rg ks), I (rkE o rg ks)] ∧ St prog H H' [] := by
 have hle := b5c (o := o) (rg := rg) hk.ok
 refine .bm func18 rfl (by kernel_rfl) (m := 23) rfl fun l hn g0 g1 g2 => ?_
 simp (disch := omega) only [↓RA, RB, simprocAttr, g0]
 refine (sR H).eNew 4 [(.string o.name), o.rv, o.dv, o.cv] rfl rfl (by simp [OC, ((sR H).sl ho.1).cells.2.1, ((sR H).sl ho.2.2.1).cells.2.1, ((sR H).sl ho.2.2.2.2.1).cells.2.1]) lP fun A1 H1 hS1 => ?_
 simp only [RT] at hS1
 simp (disch := omega) only [↓RA, RB, simprocAttr, g1]
 refine hS1.eNew 3 [sv, (.int .u64 rg.cpl), (.int .u64 rg.off)] rfl rfl (by simp [OC, (hS1.sl hr.1).cells.2.1]) oL fun A2 H2 hS2 => ?_
 simp only [RT] at hS2
 simp (disch := omega) only [↓RA, RZ, simprocAttr, hn, g2, hS2.ai 0 rfl, hS2.ai 1 rfl]
 refine iG (a0s (hS2.gl hG) o (ho.ae hS2) rg sv (hr.ae hS2) kv ks (hk.ae hS2)) ?_
 rintro r H3 ⟨pv, rfl, hx, hT1⟩
 have hS3 := hS2.trans hT1
 simp only [RT] at hS3
 simp (disch := omega) only [↓RA, RB, simprocAttr, hn]
 refine iA (fun h1 => ?_) (fun h1 => ?_)
 ·have hs : vB o rg ks = 0 := by unfold vB nU; rw [if_neg h1]; rfl
  simp (disch := omega) only [↓RA, RZ, simprocAttr, hn, c4E, h1]
  exact ⟨by rw [hs], hS3.forget⟩
 have h0 := dx.1 h1
 simp (disch := omega) only [↓RA, RZ, simprocAttr, hn, hS3.ai 0 rfl, h1]
 refine hS3.cF (a1f o (ho.ae hS3) pv (nU o rg ks) hx.1 (by omega) b0A) fun H4 hS4 => ?_
 simp (disch := omega) only [↓RA, RZ, simprocAttr, hn, c4E, h1]
 rw [h0]
 exact ⟨rfl, hS4.forget⟩
def tG (o : Org) (rg : Reg) (c : Ct) : Int := vK o (ofF o rg c)
theorem c0T {o : Org} {rg : Reg} {c : Ct} : (ofF o rg c).length ≤ 1000000 := by
 by_cases h : zC o rg c = 0
 ·exact c0D (Org.aY (mA (zV h).1).1) rg c
 ·unfold ofF
  rw [if_neg h]
  simp
theorem b0U (o : Org) (ho : o.In H) (rg : Reg) (sv : Value) (hr : rg.In H sv) (c : Ct) :
 Fn prog 22 [.agg #[.string o.name, o.rv, o.dv, o.cv], .agg #[sv, .int .u64 rg.cpl, .int .u64 rg.off], .agg #[I c.1, I c.2]] H fun r H' => r = .tuple #[I (tG o rg c), I (zC o rg c)] ∧ St prog H H' [] := by
 have hle := c0T (o := o) (rg := rg) (c := c)
 refine .bm func22 rfl (by kernel_rfl) (m := 23) rfl fun l hn g0 g1 g2 => ?_
 simp (disch := omega) only [↓RA, RB, simprocAttr, g0]
 refine (sR H).eNew 4 [(.string o.name), o.rv, o.dv, o.cv] rfl rfl (by simp [OC, ((sR H).sl ho.1).cells.2.1, ((sR H).sl ho.2.2.1).cells.2.1, ((sR H).sl ho.2.2.2.2.1).cells.2.1]) lP fun A1 H1 hS1 => ?_
 simp only [RT] at hS1
 simp (disch := omega) only [↓RA, RB, simprocAttr, g1]
 refine hS1.eNew 3 [sv, (.int .u64 rg.cpl), (.int .u64 rg.off)] rfl rfl (by simp [OC, (hS1.sl hr.1).cells.2.1]) oL fun A2 H2 hS2 => ?_
 simp only [RT] at hS2
 simp (disch := omega) only [↓RA, RB, simprocAttr, g2]
 refine hS2.eNew 2 [I c.1, I c.2] rfl rfl rfl nV fun A3 H3 hS3 => ?_
 simp only [RT] at hS3
 simp (disch := omega) only [↓RA, RZ, simprocAttr, hn, hS3.ai 0 rfl, hS3.ai 1 rfl, hS3.ai 2 rfl]
 refine iG (c3Y o (ho.ae hS3) rg sv (hr.ae hS3) c) ?_
 rintro r H4 ⟨pv, rfl, hx, hT1⟩
 have hS4 := hS3.trans hT1
 simp only [RT] at hS4
 simp (disch := omega) only [↓RA, RB, simprocAttr, hn]
 refine iA (fun h1 => ?_) (fun h1 => ?_)
 ·have hs : tG o rg c = 0 := by unfold tG ofF; rw [if_neg h1]; rfl
  simp (disch := omega) only [↓RA, RZ, simprocAttr, hn, c4i, h1]
  exact ⟨by rw [hs], hS4.forget⟩
 have h0 := dx.1 h1
 simp (disch := omega) only [↓RA, RZ, simprocAttr, hn, hS4.ai 0 rfl, h1]
 refine hS4.cF (a1f o (ho.ae hS4) pv (ofF o rg c) hx.1 (by omega) (fun p hp => b8j hp)) fun H5 hS5 => ?_
 simp (disch := omega) only [↓RA, RZ, simprocAttr, hn, c4i, h1]
 rw [h0]
 exact ⟨rfl, hS5.forget⟩
end Go.Ds
namespace Go.Ds
open Go.Proofs
set_option maxRecDepth 10000
def uE (o : Org) : List Nt := o.dvs.map fun d => rG d.lo d.hi
theorem yT (o : Org) : (uE o).length = o.dvs.length := by simp [uE]
theorem b1z {o : Org} {i : Nat} (hi : i < o.dvs.length) : iB (uE o) i = rG (iB o.dvs i).lo (iB o.dvs i).hi := by
 rw [kB _ i (by rw [yT]; exact hi)]
 simp [uE, kB _ i hi]
theorem b1h {lo hi : Int} (h0 : 0 ≤ lo) (h2 : hi ≤ 127) : Nt.Ok (rG lo hi) :=
 rV _ _ (fun z hz => by
  obtain ⟨k, hk, rfl⟩ := dE.1 hz
  have := dC.1 hk
  exact ⟨by omega, by omega⟩) ⟨by decide, by decide⟩
theorem b5W {o : Org} (hf : o.Fine) : ∀ x ∈ uE o, Nt.Ok x := by
 intro x hx
 obtain ⟨d, hd, rfl⟩ := dE.1 hx
 obtain ⟨j, hj, rfl⟩ := dV.1 hd
 have hk := hf.keys j hj
 rw [kB _ j hj] at hk
 exact b1h hk.1 hk.2.2
theorem b7L {o : Org} (h0 : organE o = 0) : nP o (uE o) = 0 := by
 unfold nP
 rw [if_neg (by rw [h0]; simp), if_neg (by rw [yT]; simp), if_neg]
 rintro ⟨j, hj, hne⟩
 apply hne
 have hk := (Org.aY h0).keys j hj
 rw [b1z hj]
 exact b4O (b1h hk.1 hk.2.2) fun z _ hh => hh
def vZ : Nat → Nat := fun _ => 65535
def grS (f : Ct → Int) (a : Ct × Int) (c : Ct) : Ct × Int := if f c > a.2 then (c, f c) else a
def grF (f : Ct → Int) (l : List Ct) (a : Ct × Int) : Ct × Int := l.foldl (grS f) a
theorem b9f (f : Ct → Int) (l : List Ct) (c : Ct) (a : Ct × Int) : grF f (l ++ [c]) a = grS f (grF f l a) c := by
 unfold grF
 rw [fx]
 rfl
end Go.Ds
namespace Go.Ds
open Go.Proofs Go.Proofs.Tryz
variable {H : Heap}
set_option maxRecDepth 10000
set_option maxHeartbeats 1000000
structure Kv where
 v : Value
 l : List Nt
 deriving Inhabited
def Kv.cells (k : Kv) : List Value := [k.v]
def Kv.In (H : Heap) (k : Kv) : Prop := Ks H k.v k.l
theorem Kv.In.ae {P : Program} {H' : Heap} {k : Kv} {os : List Ob} (h : k.In H) (hS : St P H H' os) : k.In H' := Ks.ae h hS
def qK (o : Org) (rg : Reg) (l : List Kv) : Int := if organE o ≠ 0 then organE o else if mH o rg ≠ 0 then mH o rg else if 200 < l.length then 4 else lD (fun j => nP o (iB l j).l) l.length
theorem a4t (o : Org) (ho : o.In H) (rg : Reg) (sv : Value) (hr : rg.In H sv) (lv : Value) (ls : List Kv) (hl : Sl 1 Kv.cells H lv ls) (hle : ls.length < 1000000000) (hk : ∀ k ∈ ls, k.In H) :
 Fn prog 33 [.agg #[.string o.name, o.rv, o.dv, o.cv], .agg #[sv, .int .u64 rg.cpl, .int .u64 rg.off], lv] H fun r H' => r = I (qK o rg ls) ∧ St prog H H' [] := by
 have hlc := hl.cells
 refine .bm func33 rfl (by kernel_rfl) (m := 39) rfl fun l hn g0 g1 g2 => ?_
 simp (disch := omega) only [↓RA, RB, simprocAttr, g0]
 refine (sR H).eNew 4 [(.string o.name), o.rv, o.dv, o.cv] rfl rfl (by simp [OC, ((sR H).sl ho.1).cells.2.1, ((sR H).sl ho.2.2.1).cells.2.1, ((sR H).sl ho.2.2.2.2.1).cells.2.1]) lP fun A1 H1 hS1 => ?_
 simp only [RT] at hS1
 simp (disch := omega) only [↓RA, RB, simprocAttr, g1]
 refine hS1.eNew 3 [sv, (.int .u64 rg.cpl), (.int .u64 rg.off)] rfl rfl (by simp [OC, (hS1.sl hr.1).cells.2.1]) oL fun A2 H2 hS2 => ?_
 simp only [RT] at hS2
 simp (disch := omega) only [↓RA, RZ, simprocAttr, hn, hS2.ai 0 rfl]
 refine hS2.cF (tS o (ho.ae hS2)) fun H3 hS3 => ?_
 simp (disch := omega) only [↓RA, RB, simprocAttr, hn]
 refine iA (fun h1 => ?_) (fun h1 => ?_)
 ·simp (disch := omega) only [↓RA, RZ, simprocAttr, hn, b4M, h1]
  exact ⟨by rw [qK, if_pos h1], hS3.forget⟩
 simp (disch := omega) only [↓RA, RZ, simprocAttr, hn, hS3.ai 0 rfl, hS3.ai 1 rfl, h1]
 refine hS3.cF (b5t o (ho.ae hS3) rg sv (hr.ae hS3)) fun H4 hS4 => ?_
 simp (disch := omega) only [↓RA, RZ, simprocAttr, hn, h1]
 refine iA (fun h2 => ?_) (fun h2 => ?_)
 ·simp (disch := omega) only [↓RA, RZ, simprocAttr, hn, b4M, h1, h2]
  exact ⟨by rw [qK, if_neg h1, if_pos h2], hS4.forget⟩
 simp (disch := omega) only [↓RA, RZ, simprocAttr, hn, g2, (hS4.sl hl).len, h1, h2]
 refine iA (fun h3 => ?_) (fun h3 => ?_)
 ·simp (disch := omega) only [↓RA, RZ, simprocAttr, hn, b4M, h1, h2, h3]
  exact ⟨by rw [qK, if_neg h1, if_neg h2, if_pos (by omega)], hS4.forget⟩
 have hE : qK o rg ls = lD (fun j => nP o (iB ls j).l) ls.length := by rw [qK, if_neg h1, if_neg h2, if_neg (by omega)]
 simp (disch := omega) only [↓RA, RZ, simprocAttr, hn, g2, (hS4.sl hl).len, h1, h2, h3]
 refine Wp.ar (fun n l H' => l.length = 39 ∧ get l 3 = (ptr A1 0 4) ∧ get l 26 = lv ∧ get l 27 = I ls.length ∧ ∃ (j : Nat), (n + j = ls.length ∧ ∀ q, q < j → nP o (iB ls q).l = 0) ∧ get l 28 = I j ∧ St prog H H' [⟨ptr A1 0 4, 0, [(.string o.name), o.rv, o.dv, o.cv]⟩, ⟨ptr A2 0 3, 0, [sv, (.int .u64 rg.cpl), (.int .u64 rg.off)]⟩]) ls.length ?_ ?_
 ·simp (disch := omega) only [RB, RC, simprocAttr, hn]
  exact ⟨0, ⟨by omega, fun q hq => absurd hq (dQ _)⟩, rfl, hS4⟩
 rintro n l H5 ⟨hn, g3, g26, g27, j, ⟨hj,hz⟩, g28, hS5⟩
 simp (disch := omega) only [↓RA, RB, simprocAttr, hn, g27, g28]
 refine iA (fun q1 => ?_) (fun q1 => ?_)
 ·simp (disch := omega) only [↓RA, RZ, simprocAttr, hn, g3, g26, g28, (hS5.sl hl).idx, (hS5.sl hl).ld, Kv.cells, hS5.ai 0 rfl, q1]
  refine hS5.cF (a7v o (ho.ae hS5) (iB ls j).v (iB ls j).l ((hk _ (iE (by omega))).ae hS5)) fun H6 hS6 => ?_
  simp (disch := omega) only [↓RA, RZ, simprocAttr, hn, q1]
  refine iA (fun q2 => ?_) (fun q2 => ?_)
  ·simp (disch := omega) only [↓RA, RZ, simprocAttr, hn, b4M, q1, q2]
   exact ⟨by rw [hE, nF (fun j => nP o (iB ls j).l) ls.length j (by omega) q2 hz], hS6.forget⟩
  simp (disch := omega) only [↓RA, RZ, simprocAttr, hn, g3, g26, g27, g28, q1, q2]
  exact ⟨n - 1, by omega, j + 1, ⟨by omega, fun q hq => by rcases dw.1 hq with e | e; (· exact hz q e); (· rw [e]; exact dx.1 q2)⟩, by simp, hS6.pick [0, 1] (by decide) rfl⟩
 simp (disch := omega) only [↓RA, RZ, simprocAttr, hn, b4M, q1]
 exact ⟨by rw [hE, kH (fun j => nP o (iB ls j).l) ls.length fun q hq => hz q (by omega)], hS5.forget⟩
def b3G (o : Org) (rg : Reg) (ls : List Kv) : List Int := if qK o rg ls = 0 then ls.map fun k => vB o rg k.l else []
theorem a8q (hG : Glob gH H) (o : Org) (ho : o.In H) (rg : Reg) (sv : Value) (hr : rg.In H sv) (lv : Value) (ls : List Kv) (hl : Sl 1 Kv.cells H lv ls) (hle : ls.length < 1000000000) (hk : ∀ k ∈ ls, k.In H) :
 Fn prog 12 [.agg #[.string o.name, o.rv, o.dv, o.cv], .agg #[sv, .int .u64 rg.cpl, .int .u64 rg.off], lv] H fun r H' => ∃ v, r = .tuple #[v, I (qK o rg ls)] ∧ St prog H H' [⟨v, 1, (b3G o rg ls).flatMap (one I)⟩] := by
 refine .bm func12 rfl (by kernel_rfl) (m := 40) rfl fun l hn g0 g1 g2 => ?_
 simp (disch := omega) only [↓RA, RB, simprocAttr, g0]
 refine (sR H).eNew 4 [(.string o.name), o.rv, o.dv, o.cv] rfl rfl (by simp [OC, ((sR H).sl ho.1).cells.2.1, ((sR H).sl ho.2.2.1).cells.2.1, ((sR H).sl ho.2.2.2.2.1).cells.2.1]) lP fun A1 H1 hS1 => ?_
 simp only [RT] at hS1
 simp (disch := omega) only [↓RA, RB, simprocAttr, g1]
 refine hS1.eNew 3 [sv, (.int .u64 rg.cpl), (.int .u64 rg.off)] rfl rfl (by simp [OC, (hS1.sl hr.1).cells.2.1]) oL fun A2 H2 hS2 => ?_
 simp only [RT] at hS2
 simp (disch := omega) only [↓RA, RZ, simprocAttr, hn, g2, hS2.ai 0 rfl, hS2.ai 1 rfl]
 refine hS2.cF (a4t o (ho.ae hS2) rg sv (hr.ae hS2) lv ls (hS2.sl hl) hle (fun k h => (hk k h).ae hS2)) fun H3 hS3 => ?_
 simp (disch := omega) only [↓RA, RB, simprocAttr, hn]
 refine iA (fun h1 => ?_) (fun h1 => ?_)
 ·have hp : b3G o rg ls = [] := by unfold b3G; rw [if_neg h1]
  have hS4 := hS3.nil 0
  simp only [RT] at hS4
  simp (disch := omega) only [↓RA, RZ, simprocAttr, hn, c2U, h1]
  rw [hp]
  exact ⟨.slice none 0 0, rfl, hS4.pick [2] (by decide) rfl⟩
 have h0 := dx.1 h1
 have hp : b3G o rg ls = ls.map fun k => vB o rg k.l := by unfold b3G; rw [if_pos h0]
 simp (disch := omega) only [↓RA, RZ, simprocAttr, hn, g2, (hS3.sl hl).len, h1]
 have hS5 := hS3.nil 0
 simp only [RT] at hS5
 refine Wp.ar (fun n l H' => l.length = 40 ∧ get l 3 = (ptr A1 0 4) ∧ get l 4 = (ptr A2 0 3) ∧ get l 6 = (.slice none 0 0) ∧ get l 7 = I 0 ∧ get l 21 = lv ∧ get l 22 = I ls.length ∧ ∃ (i : Nat) (ov : Value), (n + i = ls.length) ∧ get l 23 = I i ∧ get l 9 = ov ∧ St prog H H' [⟨ptr A1 0 4, 0, [(.string o.name), o.rv, o.dv, o.cv]⟩, ⟨ptr A2 0 3, 0, [sv, (.int .u64 rg.cpl), (.int .u64 rg.off)]⟩, ⟨ov, 1, ((ls.take i).map fun k => vB o rg k.l).flatMap (one I)⟩]) ls.length ?_ ?_
 ·simp (disch := omega) only [RB, RC, simprocAttr, hn]
  exact ⟨0, .slice none 0 0, by omega, rfl, rfl, hS5⟩
 rintro n l H4 ⟨hn, g3, g4, g6, g7, g21, g22, i, ov, hi, g23, g9, hS6⟩
 simp (disch := omega) only [↓RA, RB, simprocAttr, hn, g22, g23]
 refine iA (fun q1 => ?_) (fun q1 => ?_)
 ·simp (disch := omega) only [↓RA, RZ, simprocAttr, hn, g3, g4, g21, g23, (hS6.sl hl).idx, (hS6.sl hl).ld, Kv.cells, hS6.ai 0 rfl, hS6.ai 1 rfl, q1]
  refine hS6.cF (a2d (hS6.gl hG) o (ho.ae hS6) rg sv (hr.ae hS6) (iB ls i).v (iB ls i).l ((hk _ (iE (by omega))).ae hS6)) fun H5 hS7 => ?_
  simp (disch := omega) only [↓RA, RZ, simprocAttr, hn, g9, q1]
  refine hS7.ag [I (vB o rg (iB ls i).l)] vD a0R rfl rfl (by simp [Value.cells]) rfl rfl (by decide) (by decide) fun w1 H6 hS8 => ?_
  simp only [RT] at hS8
  simp (disch := omega) only [↓RA, RZ, simprocAttr, hn, q1]
  refine hS8.al 2 rfl (hS8.rd 3 rfl) vD (by rw [nX, dX, dX, fN]; simp; omega) fun w2 H7 hS9 => ?_
  simp only [RT] at hS9
  simp (disch := omega) only [↓RA, RZ, simprocAttr, hn, g3, g4, g6, g7, g21, g22, g23, q1]
  refine ⟨n - 1, by omega, i + 1, w2, by omega, by simp, rfl, ?_⟩
  rw [rK ls i (by omega), dT, dG]
  exact hS9.pick [0, 1, 2] (by decide) rfl
 have hnt := (hS6.ax (cel := one I) 2 rfl (fun _ => rfl)).bu
 simp (disch := omega) only [↓RA, RZ, simprocAttr, hn, g9, c2U, q1, hnt]
 have hii : i = ls.length := by omega
 rw [hp, h0]
 refine ⟨ov, rfl, ?_⟩
 have h9 := hS6.pick (os' := [⟨ov, 1, _⟩]) [2] (by decide) rfl
 rw [hii, dZ] at h9
 exact h9
def c0r (f : Nat → Int) (a : Int × Int) (i : Nat) : Int × Int := if i = 0 ∨ a.2 < f i then ((i : Int), f i) else a
def b1u (f : Nat → Int) (n : Nat) : Int × Int := (List.range n).foldl (c0r f) (0, 0)
theorem b2J (f : Nat → Int) (n : Nat) : b1u f (n + 1) = c0r f (b1u f n) n := by
 unfold b1u
 rw [ek, fx]
 rfl
def vP (o : Org) (rg : Reg) (ls : List Kv) : Int := if qK o rg ls ≠ 0 then qK o rg ls else if ls.length = 0 then 13 else 0
def a6u (o : Org) (rg : Reg) (ls : List Kv) : Int × Int := if vP o rg ls = 0 then b1u (fun i => vB o rg (iB ls i).l) ls.length else (0, 0)
theorem b7K (hG : Glob gH H) (o : Org) (ho : o.In H) (rg : Reg) (sv : Value) (hr : rg.In H sv) (lv : Value) (ls : List Kv) (hl : Sl 1 Kv.cells H lv ls) (hle : ls.length < 1000000000) (hk : ∀ k ∈ ls, k.In H) :
 Fn prog 13 [.agg #[.string o.name, o.rv, o.dv, o.cv], .agg #[sv, .int .u64 rg.cpl, .int .u64 rg.off], lv] H fun r H' => r = .tuple #[I (a6u o rg ls).1, I (a6u o rg ls).2, I (vP o rg ls)] ∧ St prog H H' [] := by
 refine .bm func13 rfl (by kernel_rfl) (m := 50) rfl fun l hn g0 g1 g2 => ?_
 simp (disch := omega) only [↓RA, RB, simprocAttr, g0]
 refine (sR H).eNew 4 [(.string o.name), o.rv, o.dv, o.cv] rfl rfl (by simp [OC, ((sR H).sl ho.1).cells.2.1, ((sR H).sl ho.2.2.1).cells.2.1, ((sR H).sl ho.2.2.2.2.1).cells.2.1]) lP fun A1 H1 hS1 => ?_
 simp only [RT] at hS1
 simp (disch := omega) only [↓RA, RB, simprocAttr, g1]
 refine hS1.eNew 3 [sv, (.int .u64 rg.cpl), (.int .u64 rg.off)] rfl rfl (by simp [OC, (hS1.sl hr.1).cells.2.1]) oL fun A2 H2 hS2 => ?_
 simp only [RT] at hS2
 simp (disch := omega) only [↓RA, RZ, simprocAttr, hn, g2, hS2.ai 0 rfl, hS2.ai 1 rfl]
 refine hS2.cF (a4t o (ho.ae hS2) rg sv (hr.ae hS2) lv ls (hS2.sl hl) hle (fun k h => (hk k h).ae hS2)) fun H3 hS3 => ?_
 simp (disch := omega) only [↓RA, RB, simprocAttr, hn]
 refine iA (fun h1 => ?_) (fun h1 => ?_)
 ·have e : vP o rg ls = qK o rg ls := by unfold vP; rw [if_pos h1]
  simp (disch := omega) only [↓RA, RZ, simprocAttr, hn, c0A, h1]
  exact ⟨by rw [a6u, e, if_neg h1], hS3.forget⟩
 simp (disch := omega) only [↓RA, RZ, simprocAttr, hn, g2, (hS3.sl hl).len, h1]
 refine iA (fun h2 => ?_) (fun h2 => ?_)
 ·have e : vP o rg ls = 13 := by unfold vP; rw [if_neg h1, if_pos (by omega)]
  simp (disch := omega) only [↓RA, RZ, simprocAttr, hn, c0A, h1, h2]
  exact ⟨by rw [a6u, e, if_neg (by decide)], hS3.forget⟩
 have e : vP o rg ls = 0 := by unfold vP; rw [if_neg h1, if_neg (by omega)]
 simp (disch := omega) only [↓RA, RZ, simprocAttr, hn, g2, (hS3.sl hl).len, h1, h2]
 refine Wp.ar (fun n l H' => l.length = 50 ∧ get l 3 = (ptr A1 0 4) ∧ get l 4 = (ptr A2 0 3) ∧ get l 8 = I 0 ∧ get l 24 = lv ∧ get l 25 = I ls.length ∧ ∃ (i : Nat), (n + i = ls.length) ∧ get l 26 = I i ∧ get l 6 = I (b1u (fun i => vB o rg (iB ls i).l) i).1 ∧ get l 7 = I (b1u (fun i => vB o rg (iB ls i).l) i).2 ∧ St prog H H' [⟨ptr A1 0 4, 0, [(.string o.name), o.rv, o.dv, o.cv]⟩, ⟨ptr A2 0 3, 0, [sv, (.int .u64 rg.cpl), (.int .u64 rg.off)]⟩]) ls.length ?_ ?_
 ·simp (disch := omega) only [RB, RC, simprocAttr, hn]
  exact ⟨0, by omega, rfl, rfl, rfl, hS3⟩
 rintro n l H4 ⟨hn, g3, g4, g8, g24, g25, i, hi, g26, g6, g7, hS4⟩
 simp (disch := omega) only [↓RA, RB, simprocAttr, hn, g25, g26]
 refine iA (fun q1 => ?_) (fun q1 => ?_)
 ·simp (disch := omega) only [↓RA, RZ, simprocAttr, hn, g3, g4, g24, g26, (hS4.sl hl).idx, (hS4.sl hl).ld, Kv.cells, hS4.ai 0 rfl, hS4.ai 1 rfl, q1]
  refine hS4.cF (a2d (hS4.gl hG) o (ho.ae hS4) rg sv (hr.ae hS4) (iB ls i).v (iB ls i).l ((hk _ (iE (by omega))).ae hS4)) fun H5 hS5 => ?_
  have hsu := b2J (fun i => vB o rg (iB ls i).l) i
  unfold c0r at hsu
  dsimp only at hsu
  simp (disch := omega) only [↓RA, RZ, simprocAttr, hn, q1]
  refine iN (fun q2 => ?_) (fun q2 => ?_)
  ·simp (disch := omega) only [↓RA, RZ, simprocAttr, hn, g3, g4, g8, g24, g25, g26, q2]
   rw [if_pos (Or.inl (by omega))] at hsu
   have hi0 : i = 0 := by omega
   refine ⟨n - 1, by omega, i + 1, by omega, by rw [hi0]; rfl, by rw [hsu, hi0]; rfl, by rw [hsu], hS5.pick [0, 1] (by decide) rfl⟩
  simp (disch := omega) only [↓RA, RZ, simprocAttr, hn, g7, q1, q2]
  refine iA (fun q3 => ?_) (fun q3 => ?_)
  ·simp (disch := omega) only [↓RA, RZ, simprocAttr, hn, g3, g4, g8, g24, g25, g26, q1, q2, q3]
   rw [if_pos (Or.inr (by omega))] at hsu
   refine ⟨n - 1, by omega, i + 1, by omega, by simp, by rw [hsu], by rw [hsu], hS5.pick [0, 1] (by decide) rfl⟩
  simp (disch := omega) only [↓RA, RZ, simprocAttr, hn, g3, g4, g8, g24, g25, g26, g6, g7, q1, q2, q3]
  rw [if_neg (by omega)] at hsu
  refine ⟨n - 1, by omega, i + 1, by omega, by simp, by rw [hsu], by rw [hsu], hS5.pick [0, 1] (by decide) rfl⟩
 simp (disch := omega) only [↓RA, RZ, simprocAttr, hn, g6, g7, c0A, q1]
 have hii : i = ls.length := by omega
 rw [hii]
 exact ⟨by rw [a6u, e, if_pos rfl], hS4.forget⟩
theorem a0J (a : Addr) (m c : Nat) : kS prog .eql 149 149 false true (.slice (some a) m c) (.slice none 0 0) = some (.bool false) := by kernel_rfl
theorem tW {v : Value} {a : Addr} {m c : Nat} (h : v = .slice (some a) m c) (K : Value → Prop) : kV prog .eql 149 149 false true v (.slice none 0 0) K = oN (.bool false) K := by
 subst h
 show jQ (kS prog .eql 149 149 false true (.slice (some a) m c) (.slice none 0 0)) K = _
 rw [a0J]
 rfl
theorem zF : kS prog .eql 149 149 false true (.slice none 0 0) (.slice none 0 0) = some (.bool true) := by kernel_rfl
theorem oR (K : Value → Prop) : kV prog .eql 149 149 false true (.slice none 0 0) (.slice none 0 0) K = oN (.bool true) K := by
 show jQ (kS prog .eql 149 149 false true (.slice none 0 0) (.slice none 0 0)) K = _
 rw [zF]
 rfl
theorem a8G (v : Value) (xs : List Ct) (hv : Sl 2 kC H v xs) (hl : xs.length < 100000000) : Fn prog 68 [v] H fun r H' => St prog H H' [⟨r, 2, xs.flatMap kC⟩] := by
 rcases hv.rd with ⟨rfl, h2⟩ | ⟨A, i, e, row, ty, rw', lo, ver, m, _, _, _, _, _, _, hvv⟩
 ·have hx : xs = [] := by
   have := congrArg List.length h2
   rw [show (xs.flatMap kC).length = xs.length * 2 from iI (n := 2) (cel := kC) (fun _ => rfl) xs, dA] at this
   exact fh.1 (by omega)
  subst hx
  refine .aV func68 rfl (by kernel_rfl) (m := 8) rfl fun l hn g0 => ?_
  have hbe := oR
  simp (disch := omega) only [↓RA, RB, simprocAttr, hn, g0, oR]
  have hS1 := (sR H).nil 1
  simp only [RT] at hS1
  simp (disch := omega) only [RB, simprocAttr, hn, c4C]
  exact hS1
 ·refine .aV func68 rfl (by kernel_rfl) (m := 8) rfl fun l hn g0 => ?_
  simp (disch := omega) only [↓RA, RB, simprocAttr, hn, g0, tW hvv]
  refine (sR H).aZ rB fun w1 H1 hS1 => ?_
  simp only [RT] at hS1
  simp (disch := omega) only [↓RA, RZ, simprocAttr, hn, g0]
  refine hS1.al 0 rfl (hS1.sl hv).rd rB (by rw [show (xs.flatMap kC).length = xs.length * 2 from iI (n := 2) (cel := kC) (fun _ => rfl) xs]; simp; omega) fun w2 H2 hS2 => ?_
  simp only [RT] at hS2
  simp (disch := omega) only [↓RA, RB, simprocAttr, hn, c4C]
  exact hS2
end Go.Ds
namespace Go.Ds
open Go.Proofs
variable {H : Heap}
set_option maxRecDepth 10000
set_option maxHeartbeats 1000000
end Go.Ds
namespace Go.Ds
open Go.Proofs Go.Proofs.Tryz
variable {H : Heap}
set_option maxRecDepth 10000
set_option maxHeartbeats 1000000
def a5k (o : Org) (rg : Reg) (ks : List Nt) (c : Ct) : Int := if rkE o rg ks ≠ 0 then rkE o rg ks else tM o c
def adF (o : Org) (rg : Reg) (ks : List Nt) (c : Ct) : List Ct := if a5k o rg ks c = 0 then a1z (lZ o rg (kF ks ++ [c])) (lZ o rg (kF ks)) else []
theorem b3P (hG : Glob gH H) (o : Org) (ho : o.In H) (hdv : o.dvs.length ≤ 7) (rg : Reg) (sv : Value) (hr : rg.In H sv) (kv : Value) (ks : List Nt) (hk : Ks H kv ks) (c : Ct) :
 Fn prog 40 [.agg #[.string o.name, o.rv, o.dv, o.cv], .agg #[sv, .int .u64 rg.cpl, .int .u64 rg.off], kv, .agg #[I c.1, I c.2]] H fun r H' => ∃ v, r = .tuple #[v, I (a5k o rg ks c)] ∧ Slx 2 kC H' (fun B => H.length ≤ B) v (adF o rg ks c) ∧ St prog H H' [] := by
 have hnil : ∀ {H' : Heap}, Slx 2 kC H' (fun B => H.length ≤ B) (.slice none 0 0) ([] : List Ct) := fun {H'} => ⟨⟨.inl ⟨rfl, rfl⟩, kZ, by decide⟩, fun b h => by simp [kO] at h⟩
 refine .cM func40 rfl (by kernel_rfl) (m := 42) rfl fun l hn g0 g1 g2 g3 => ?_
 simp (disch := omega) only [↓RA, RB, simprocAttr, g0]
 refine (sR H).eNew 4 [(.string o.name), o.rv, o.dv, o.cv] rfl rfl (by simp [OC, ((sR H).sl ho.1).cells.2.1, ((sR H).sl ho.2.2.1).cells.2.1, ((sR H).sl ho.2.2.2.2.1).cells.2.1]) lP fun A1 H1 hS1 => ?_
 simp only [RT] at hS1
 simp (disch := omega) only [↓RA, RB, simprocAttr, g1]
 refine hS1.eNew 3 [sv, (.int .u64 rg.cpl), (.int .u64 rg.off)] rfl rfl (by simp [OC, (hS1.sl hr.1).cells.2.1]) oL fun A2 H2 hS2 => ?_
 simp only [RT] at hS2
 simp (disch := omega) only [↓RA, RB, simprocAttr, g3]
 refine hS2.eNew 2 [I c.1, I c.2] rfl rfl rfl nV fun A3 H3 hS3 => ?_
 simp only [RT] at hS3
 simp (disch := omega) only [↓RA, RZ, simprocAttr, hn, hS3.ai 0 rfl, hS3.ai 1 rfl]
 refine hS3.ag [sv, (.int .u64 rg.cpl), (.int .u64 rg.off)] b6B b3W rfl rfl (by first | (simp []; done) | simp [Value.cells]) (by first | (simp []; done) | simp [Value.cells]) (by simp [OC, (hS3.sl hr.1).cells.2.1]) (by decide) (by decide) fun w1 H4 hS4 => ?_
 simp only [RT] at hS4
 simp (disch := omega) only [↓RA, RZ, simprocAttr, hn, g2]
 refine hS4.cF (b3Y o (ho.ae hS4) w1 [(sv, rg)] (hS4.ax 3 rfl (fun _ => rfl)) (by simp) (by intro p hp; rw [dz.1 hp]; exact hr.ae hS4) kv ks (hk.ae hS4)) fun H5 hS5 => ?_
 have hsc := a6W o sv rg ks
 simp (disch := omega) only [↓RA, RB, simprocAttr, hn, hsc]
 refine iA (fun h1 => ?_) (fun h1 => ?_)
 ·have hd : a5k o rg ks c = rkE o rg ks := by rw [a5k, if_pos h1]
  simp (disch := omega) only [↓RA, RZ, simprocAttr, hn, c2q, hsc, h1]
  rw [hd, adF, if_neg (by rw [hd]; exact h1)]
  exact ⟨.slice none 0 0, rfl, hnil, hS5.forget⟩
 have hd : a5k o rg ks c = tM o c := by rw [a5k, if_neg h1]
 have h0 := dx.1 h1
 simp (disch := omega) only [↓RA, RZ, simprocAttr, hn, hS5.ai 0 rfl, hS5.ai 2 rfl, hsc, h1]
 refine hS5.cF (sQ o (ho.ae hS5) c) fun H6 hS6 => ?_
 simp (disch := omega) only [↓RA, RZ, simprocAttr, hn, hsc, h1]
 refine iA (fun h2 => ?_) (fun h2 => ?_)
 ·simp (disch := omega) only [↓RA, RZ, simprocAttr, hn, c2q, hsc, h1, h2]
  rw [hd, adF, if_neg (by rw [hd]; exact h2)]
  exact ⟨.slice none 0 0, rfl, hnil, hS6.forget⟩
 have h3 := dx.1 h2
 have hc := (qJ o c).1 h3
 obtain ⟨hz1, hz2⟩ := tU h0
 obtain ⟨hz3, hz4⟩ := mA hz1
 have hf := Org.aY hz3
 have hplc := vA hk.ok hz2
 have hkl := (qI hz2).2.1
 have hpl := a5w ks ks.length
 have hpl2 : (kF ks).length ≤ 896 := by unfold kF; omega
 have hpll := a0i hz2
 have hplc2 : ∀ x ∈ kF ks ++ [c], pX o x = true := fun x hx => by
  rcases dI.1 hx with h | h
  ·exact hplc x h
  ·rw [dz.1 h]; exact hc
 have hpll2 : (kF ks ++ [c]).length ≤ 1024 := by rw [dp, gr]; omega
 rw [hd, h3, adF, if_pos (by rw [hd]; exact h3)]
 simp (disch := omega) only [↓RA, RZ, simprocAttr, hn, g2, hsc, h1]
 refine iG ((a4a (hS6.gl hG) kv ks (hk.ae hS6) (by omega)).tr) ?_
 rintro r H7 ⟨-, hT3⟩
 have hS7 := hS6.trans hT3
 simp only [RT] at hS7
 obtain ⟨pv, rfl⟩ : ∃ w, w = r := ⟨r, rfl⟩
 simp (disch := omega) only [↓RA, RZ, simprocAttr, hn, hsc, h1]
 refine Wp.aQ kE [(0, 4), (0, 7), (1, 4), (1, 7), (4, 0), (8, 0), (8, 4), (8, 7), (9, 0), (9, 4), (9, 7)] (by kernel_rfl) (by kernel_rfl) ?_
 simp (disch := omega) only [↓RA, RZ, simprocAttr, hn, hS7.ai 0 rfl, hS7.ai 1 rfl]
 refine iG ((a8G pv (kF ks) (hS7.ax 4 rfl kZ) (by omega)).tr) ?_
 rintro r H8 ⟨-, hT4⟩
 have hS8 := hS7.trans hT4
 simp only [RT] at hS8
 obtain ⟨qv, rfl⟩ : ∃ w, w = r := ⟨r, rfl⟩
 simp (disch := omega) only [↓RA, RZ, simprocAttr, hn, hS8.ai 2 rfl]
 refine hS8.ag [I c.1, I c.2] rB a3M rfl rfl (by simp [Value.cells]) rfl rfl (by decide) (by decide) fun w2 H9 hS9 => ?_
 simp only [RT] at hS9
 simp (disch := omega) only [↓RA, RZ, simprocAttr, hn]
 refine hS9.al 5 rfl (hS9.rd 6 rfl) rB (by rw [show ((kF ks).flatMap kC).length = (kF ks).length * 2 from iJ _]; simp only [dy, dA]; omega) fun w3 H10 hS10 => ?_
 simp only [RT] at hS10
 simp (disch := omega) only [↓RA, RZ, simprocAttr, hn]
 have happ : (kF ks).flatMap kC ++ [I c.1, I c.2] = pr (kF ks ++ [c]) := by rw [jZ]; rfl
 rw [happ] at hS10
 have hS1 := hS10
 refine iG (tP o (ho.ae hS10) hf rg sv (hr.ae hS10) hz4 w3 (kF ks ++ [c]) (hS10.ax 5 rfl kZ) hpll2 hplc2) ?_
 rintro r H11 ⟨hx, hT5⟩
 have hS11 := hS10.trans hT5
 simp only [RT] at hS11
 obtain ⟨av, rfl⟩ : ∃ w, w = r := ⟨r, rfl⟩
 have hx2 := hx.step (hS1.aJ (H' := H11))
 obtain ⟨X, hBX, hS12⟩ := hS11.aB (os := [⟨ptr A1 0 4, 0, _⟩, ⟨ptr A2 0 3, 0, _⟩, ⟨ptr A3 0 2, 0, _⟩, ⟨w1, 3, _⟩, ⟨pv, 2, _⟩, ⟨w3, 2, _⟩, ⟨w2, 2, _⟩])
 simp (disch := omega) only [↓RA, RZ, simprocAttr, hn, hS12.ai 0 rfl, hS12.ai 1 rfl]
 have hS2 := hS12
 refine iG (tP o (ho.ae (hS11.ak hBX hS12)) hf rg sv (hr.ae (hS11.ak hBX hS12)) hz4 pv (kF ks) (hS12.ax 4 rfl kZ) hpll hplc) ?_
 rintro r H12 ⟨hy, hT6⟩
 have hS13 := hS12.trans hT6
 simp only [RT] at hS13
 obtain ⟨bv, rfl⟩ : ∃ w, w = r := ⟨r, rfl⟩
 have hx3 := hx2.step (hS13.kept hBX)
 have hy2 := hy.step (hS2.aJ (H' := H12))
 obtain ⟨Y, hBY, hS14⟩ := hS13.aB (os := [⟨ptr A1 0 4, 0, _⟩, ⟨ptr A2 0 3, 0, _⟩, ⟨ptr A3 0 2, 0, _⟩, ⟨w1, 3, _⟩, ⟨pv, 2, _⟩, ⟨w3, 2, _⟩, ⟨w2, 2, _⟩])
 have hla := uP hf rg hpll2 (pA hplc2)
 have hlb := uP hf rg hpll (pA hplc)
 have hsb := b2U o rg (kF ks)
 have hx4 := hx3.step (hS14.kept hBY)
 have hy3 := hy2.step (hS14.kept hBY)
 simp (disch := omega) only [↓RA, RZ, simprocAttr, hn]
 refine iG ((a6s av bv (lZ o rg (kF ks ++ [c])) (lZ o rg (kF ks)) hx4.1 hy3.1 (by omega) (by omega) hsb).tr) ?_
 rintro r H13 ⟨-, hT7⟩
 have hS15 := hS14.trans hT7
 simp only [RT] at hS15
 obtain ⟨gv, rfl⟩ : ∃ w, w = r := ⟨r, rfl⟩
 have hnt1 := (hS15.ax (cel := kC) 7 rfl kZ).bu
 simp (disch := omega) only [↓RA, RZ, simprocAttr, hn, hS8.ai 0 rfl, hS10.ai 0 rfl, hS8.ai 1 rfl, hS10.ai 1 rfl, hS7.ai 2 rfl, hS7.ai 0 rfl, hS7.ai 1 rfl, c2q, hnt1]
 exact ⟨gv, rfl, (hS11.ak hBX (hS13.ak hBY hS15)).bS 7 rfl kZ, (hS11.ak hBX (hS13.ak hBY hS15)).forget⟩
theorem b4g (o : Org) (rg : Reg) : qK o rg [] = mH o rg := by
 unfold qK
 split
 ·rename_i h
  unfold mH
  rw [if_pos h]
 ·split
  ·rfl
  ·rename_i h
   rw [if_neg (by simp), dx.1 h]
   exact kH _ _ fun j hj => absurd hj (dQ _)
theorem a7S {H : Heap} : Sl 1 Kv.cells H (.slice none 0 0) [] := ⟨.inl ⟨rfl, rfl⟩, fun _ => rfl, by decide⟩
theorem a6w (o : Org) (ho : o.In H) (rg : Reg) (sv : Value) (hr : rg.In H sv) :
 Fn prog 33 [.agg #[.string o.name, o.rv, o.dv, o.cv], .agg #[sv, .int .u64 rg.cpl, .int .u64 rg.off], .slice none 0 0] H fun r H' => r = I (mH o rg) ∧ St prog H H' [] := by
 have h := a4t o ho rg sv hr (.slice none 0 0) [] a7S (by simp) (by simp)
 rw [b4g] at h
 exact h
def c0H (o : Org) (rg : Reg) (ks : List Nt) (c : Ct) : Int := vK o (adF o rg ks c)
theorem b7g {o : Org} {rg : Reg} {ks : List Nt} {c : Ct} : ∀ p ∈ adF o rg ks c, IsP o p := by
 intro p hp
 unfold adF at hp
 split at hp
 ·exact vX (ff.1 hp).1
 ·exact absurd hp ec
theorem c1G {o : Org} (hdv : o.dvs.length ≤ 7) {rg : Reg} {ks : List Nt} {c : Ct} (hok : ∀ x ∈ ks, Nt.Ok x) : (adF o rg ks c).length ≤ 1000000 := by
 unfold adF
 split
 ·rename_i h
  refine dD (a6T _ _) ?_
  have h1 : rkE o rg ks = 0 := by
   unfold a5k at h
   split at h
   ·rename_i h2; exact absurd h h2
   ·rename_i h2; exact dx.1 h2
  have h2 : tM o c = 0 := by
   unfold a5k at h
   rw [if_neg (by rw [h1]; simp)] at h
   exact h
  obtain ⟨z1, z2⟩ := tU h1
  have hf := Org.aY (mA z1).1
  have hcc := (qJ o c).1 h2
  have hwl : (kF ks ++ [c]).length ≤ 1024 := by
   have hkl := (qI z2).2.1
   have hd := hf.dlen
   have hpl := a5w ks ks.length
   rw [dp, gr]
   unfold kF
   omega
  exact uP hf rg hwl (pA fun x hx => by
   rcases dI.1 hx with h | h
   ·exact vA hok z2 x h
   ·rw [dz.1 h]; exact hcc)
 ·simp
theorem b9Y (hG : Glob gH H) (o : Org) (ho : o.In H) (hdv : o.dvs.length ≤ 7) (rg : Reg) (sv : Value) (hr : rg.In H sv) (kv : Value) (ks : List Nt) (hk : Ks H kv ks) (c : Ct) :
 Fn prog 21 [.agg #[.string o.name, o.rv, o.dv, o.cv], .agg #[sv, .int .u64 rg.cpl, .int .u64 rg.off], kv, .agg #[I c.1, I c.2]] H fun r H' => r = .tuple #[I (c0H o rg ks c), I (a5k o rg ks c)] ∧ St prog H H' [] := by
 have hle := c1G hdv (rg := rg) (c := c) hk.ok
 refine .cM func21 rfl (by kernel_rfl) (m := 26) rfl fun l hn g0 g1 g2 g3 => ?_
 simp (disch := omega) only [↓RA, RB, simprocAttr, g0]
 refine (sR H).eNew 4 [(.string o.name), o.rv, o.dv, o.cv] rfl rfl (by simp [OC, ((sR H).sl ho.1).cells.2.1, ((sR H).sl ho.2.2.1).cells.2.1, ((sR H).sl ho.2.2.2.2.1).cells.2.1]) lP fun A1 H1 hS1 => ?_
 simp only [RT] at hS1
 simp (disch := omega) only [↓RA, RB, simprocAttr, g1]
 refine hS1.eNew 3 [sv, (.int .u64 rg.cpl), (.int .u64 rg.off)] rfl rfl (by simp [OC, (hS1.sl hr.1).cells.2.1]) oL fun A2 H2 hS2 => ?_
 simp only [RT] at hS2
 simp (disch := omega) only [↓RA, RB, simprocAttr, g3]
 refine hS2.eNew 2 [I c.1, I c.2] rfl rfl rfl nV fun A3 H3 hS3 => ?_
 simp only [RT] at hS3
 simp (disch := omega) only [↓RA, RZ, simprocAttr, hn, g2, hS3.ai 0 rfl, hS3.ai 1 rfl, hS3.ai 2 rfl]
 refine iG (b3P (hS3.gl hG) o (ho.ae hS3) hdv rg sv (hr.ae hS3) kv ks (hk.ae hS3) c) ?_
 rintro r H4 ⟨av, rfl, hx, hT1⟩
 have hS4 := hS3.trans hT1
 simp only [RT] at hS4
 simp (disch := omega) only [↓RA, RB, simprocAttr, hn]
 refine iA (fun h1 => ?_) (fun h1 => ?_)
 ·have hs : c0H o rg ks c = 0 := by unfold c0H adF; rw [if_neg h1]; rfl
  simp (disch := omega) only [↓RA, RZ, simprocAttr, hn, c3e, h1]
  exact ⟨by rw [hs], hS4.forget⟩
 have h0 := dx.1 h1
 simp (disch := omega) only [↓RA, RZ, simprocAttr, hn, hS4.ai 0 rfl, h1]
 refine hS4.cF (a1f o (ho.ae hS4) av (adF o rg ks c) hx.1 (by omega) b7g) fun H5 hS5 => ?_
 simp (disch := omega) only [↓RA, RZ, simprocAttr, hn, c3e, h1]
 rw [h0]
 exact ⟨rfl, hS5.forget⟩
def grR (o : Org) (rg : Reg) : Ct × Int := if mH o rg = 0 then grF (tG o rg) (b9N o) (((0 : Int), (iB o.dvs 0).lo), 0) else ((0, 0), 0)
theorem c4g (l : List Value) (H : Heap) : iC prog Tryz.f23 l H = (oS (jK prog 61) (iD prog 61) H (get l 4)).bind fun v => if (iY v && (iY (get l 5) && (iY (get l 6) && true))) = true then some (.tuple #[v, get l 5, get l 6]) else none := by
 show (Option.bind (Option.bind (lL prog H 61 (get l 4)) fun v => some [v, get l 5, get l 6]) fun vs => _) = _
 rw [kY]
 cases oS _ _ H (get l 4) <;> rfl
theorem a0w (o : Org) (ho : o.In H) (rg : Reg) (sv : Value) (hr : rg.In H sv) :
 Fn prog 23 [.agg #[.string o.name, o.rv, o.dv, o.cv], .agg #[sv, .int .u64 rg.cpl, .int .u64 rg.off]] H fun r H' => r = .tuple #[.agg #[I (grR o rg).1.1, I (grR o rg).1.2], I (grR o rg).2, I (mH o rg)] ∧ St prog H H' [] := by
 refine .aM func23 rfl (by kernel_rfl) (m := 64) rfl fun l hn g0 g1 => ?_
 simp (disch := omega) only [↓RA, RB, simprocAttr, g0]
 refine (sR H).eNew 4 [(.string o.name), o.rv, o.dv, o.cv] rfl rfl (by simp [OC, ((sR H).sl ho.1).cells.2.1, ((sR H).sl ho.2.2.1).cells.2.1, ((sR H).sl ho.2.2.2.2.1).cells.2.1]) lP fun A1 H1 hS1 => ?_
 simp only [RT] at hS1
 simp (disch := omega) only [↓RA, RB, simprocAttr, g1]
 refine hS1.eNew 3 [sv, (.int .u64 rg.cpl), (.int .u64 rg.off)] rfl rfl (by simp [OC, (hS1.sl hr.1).cells.2.1]) oL fun A2 H2 hS2 => ?_
 simp only [RT] at hS2
 simp (disch := omega) only [↓RA, RZ, simprocAttr]
 refine hS2.eNew 2 [I 0, I 0] rfl rfl rfl nV fun A3 H3 hS3 => ?_
 simp only [RT] at hS3
 simp (disch := omega) only [↓RA, RZ, simprocAttr, hn, hS3.ai 0 rfl, hS3.ai 1 rfl]
 refine hS3.cF (a6w o (ho.ae hS3) rg sv (hr.ae hS3)) fun H4 hS4 => ?_
 simp (disch := omega) only [↓RA, RB, simprocAttr, hn]
 refine iA (fun h1 => ?_) (fun h1 => ?_)
 ·have e : grR o rg = ((0, 0), 0) := by unfold grR; rw [if_neg h1]
  simp (disch := omega) only [↓RA, RZ, simprocAttr, hn, c3g, h1]
  refine hS4.ab 2 rfl [I 0, I 0] rfl rfl nV (by simp) fun H5 hS5 => ?_
  simp only [RT] at hS5
  simp (disch := omega) only [↓RA, RZ, simprocAttr, hn, c4g, hS5.ai 2 rfl, h1]
  exact ⟨by rw [e], hS5.forget⟩
 have h0 := dx.1 h1
 have hf := Org.aY (mA h0).1
 have hd := hf.dpos
 have hdl := hf.dlen
 have e : grR o rg = grF (tG o rg) (b9N o) (((0 : Int), (iB o.dvs 0).lo), 0) := by unfold grR; rw [if_pos h0]
 simp (disch := omega) only [↓RA, RZ, simprocAttr, hn, hS4.ld 0 rfl, (hS4.sl ho.2.2.1).idx, (hS4.sl ho.2.2.1).bf, (hS4.sl ho.2.2.1).ld, Dvn.cells, h1]
 refine hS4.ab 2 rfl [I (iB o.dvs 0).lo] rfl rfl tS3 (by simp) fun H6 hS6 => ?_
 simp only [RT] at hS6
 simp (disch := omega) only [↓RA, RZ, simprocAttr, hn, hS6.ld 0 rfl, (hS6.sl ho.2.2.1).len, h1]
 refine Wp.ar (fun n l H' => l.length = 64 ∧ get l 2 = (ptr A1 0 4) ∧ get l 3 = (ptr A2 0 3) ∧ get l 4 = (ptr A3 0 2) ∧ get l 6 = I 0 ∧ get l 29 = o.dv ∧ get l 30 = I o.dvs.length ∧ ∃ (i : Nat), (n + i = o.dvs.length) ∧ get l 31 = I i ∧ get l 5 = I (grF (tG o rg) ((List.range i).flatMap (yI o)) (((0 : Int), (iB o.dvs 0).lo), 0)).2 ∧ St prog H H' [⟨ptr A1 0 4, 0, [(.string o.name), o.rv, o.dv, o.cv]⟩, ⟨ptr A2 0 3, 0, [sv, (.int .u64 rg.cpl), (.int .u64 rg.off)]⟩, ⟨ptr A3 0 2, 0, [I (grF (tG o rg) ((List.range i).flatMap (yI o)) (((0 : Int), (iB o.dvs 0).lo), 0)).1.1, I (grF (tG o rg) ((List.range i).flatMap (yI o)) (((0 : Int), (iB o.dvs 0).lo), 0)).1.2]⟩]) o.dvs.length ?_ ?_
 ·simp (disch := omega) only [RB, RC, simprocAttr, hn]
  exact ⟨0, by omega, rfl, rfl, hS6⟩
 rintro n l H7 ⟨hn, g2, g3, g4, g6, g29, g30, i, hi, g31, g5, hS7⟩
 simp (disch := omega) only [↓RA, RB, simprocAttr, hn, g30, g31]
 refine iA (fun q1 => ?_) (fun q1 => ?_)
 ·have hki := hf.keys i (by omega)
  have hcn : (b2h o i : Int) = (iB o.dvs i).hi - (iB o.dvs i).lo + 1 := by unfold b2h; omega
  have hpre : a0Q o i 0 = (List.range i).flatMap (yI o) := by unfold a0Q; simp
  simp (disch := omega) only [↓RA, RZ, simprocAttr, hn, g29, g31, (hS7.sl ho.2.2.1).idx, (hS7.sl ho.2.2.1).ai, Dvn.cells, q1]
  refine hS7.eNew 5 [(.string ⟨#[]⟩), (.bool false), I 0, I 0, (.slice none 0 0)] rfl rfl rfl uB fun A4 H8 hS8 => ?_
  simp only [RT] at hS8
  simp (disch := omega) only [↓RA, RZ, simprocAttr, hn, q1]
  refine hS8.ab 3 rfl [(.string (iB o.dvs i).name), (.bool (iB o.dvs i).pedal), I (iB o.dvs i).lo, I (iB o.dvs i).hi, (iB o.dvs i).sv] rfl (by simp [OC, (hS8.sl (ho.2.2.2.1 (iB o.dvs i) (iE (by omega))).1).cells.2.1]) uB (by simp) fun H9 hS9 => ?_
  simp only [RT] at hS9
  simp (disch := omega) only [↓RA, RZ, simprocAttr, hn, hS9.ld 3 rfl, q1]
  refine Wp.ar (fun n l H' => l.length = 64 ∧ get l 2 = (ptr A1 0 4) ∧ get l 3 = (ptr A2 0 3) ∧ get l 4 = (ptr A3 0 2) ∧ get l 6 = I 0 ∧ get l 8 = I i ∧ get l 9 = (ptr A4 0 5) ∧ get l 29 = o.dv ∧ get l 30 = I o.dvs.length ∧ get l 31 = I i ∧ ∃ (k : Nat), (n + k = b2h o i) ∧ get l 10 = I ((iB o.dvs i).lo + k) ∧ get l 5 = I (grF (tG o rg) (a0Q o i k) (((0 : Int), (iB o.dvs 0).lo), 0)).2 ∧ St prog H H' [⟨ptr A1 0 4, 0, [(.string o.name), o.rv, o.dv, o.cv]⟩, ⟨ptr A2 0 3, 0, [sv, (.int .u64 rg.cpl), (.int .u64 rg.off)]⟩, ⟨ptr A3 0 2, 0, [I (grF (tG o rg) (a0Q o i k) (((0 : Int), (iB o.dvs 0).lo), 0)).1.1, I (grF (tG o rg) (a0Q o i k) (((0 : Int), (iB o.dvs 0).lo), 0)).1.2]⟩, ⟨ptr A4 0 5, 0, [(.string (iB o.dvs i).name), (.bool (iB o.dvs i).pedal), I (iB o.dvs i).lo, I (iB o.dvs i).hi, (iB o.dvs i).sv]⟩]) (b2h o i) ?_ ?_
  ·simp (disch := omega) only [RB, RC, simprocAttr, hn, g2, g3, g4, g6, g29, g30, g31, g5]
   refine ⟨0, by omega, by simp, ?_⟩
   rw [hpre]
   exact ⟨rfl, hS9⟩
  rintro n l H10 ⟨hn, g2, g3, g4, g6, g8, g9, g29, g30, g31, k, hk, pH, g5, hS10⟩
  simp (disch := omega) only [↓RA, RZ, simprocAttr, hn, g9, pH, hS10.ld 3 rfl]
  refine iA (fun q2 => ?_) (fun q2 => ?_)
  ·have hsu : grF (tG o rg) (a0Q o i (k + 1)) (((0 : Int), (iB o.dvs 0).lo), 0) = grS (tG o rg) (grF (tG o rg) (a0Q o i k) (((0 : Int), (iB o.dvs 0).lo), 0)) (kAt o i k) := by rw [b3l, b9f]
   unfold grS at hsu
   simp (disch := omega) only [↓RA, RZ, simprocAttr, hn, g8, pH, xN, q2]
   refine hS10.eNew 2 [I 0, I 0] rfl rfl rfl nV fun A5 H11 hS11 => ?_
   simp only [RT] at hS11
   simp (disch := omega) only [↓RA, RZ, simprocAttr, hn, q2]
   refine hS11.ab 4 rfl [I i, I ((iB o.dvs i).lo + k)] rfl rfl nV (by simp) fun H12 hS12 => ?_
   simp only [RT] at hS12
   simp (disch := omega) only [↓RA, RZ, simprocAttr, hn, g2, g3, hS12.ai 0 rfl, hS12.ai 1 rfl, hS12.ai 4 rfl, q2]
   refine hS12.cF (b0U o (ho.ae hS12) rg sv (hr.ae hS12) (kAt o i k)) fun H13 hS13 => ?_
   simp (disch := omega) only [↓RA, RZ, simprocAttr, hn, g5, q2]
   refine iA (fun q3 => ?_) (fun q3 => ?_)
   ·simp (disch := omega) only [↓RA, RZ, simprocAttr, hn, g4, hS13.ai 4 rfl, q2, q3]
    refine hS13.ab 2 rfl [I i, I ((iB o.dvs i).lo + k)] rfl rfl nV (by simp) fun H14 hS14 => ?_
    simp only [RT] at hS14
    simp (disch := omega) only [↓RA, RZ, simprocAttr, hn, g2, g3, g4, g6, g8, g9, g29, g30, g31, pH, q2, q3]
    rw [if_pos q3] at hsu
    refine ⟨n - 1, by omega, k + 1, by omega, by congr 1; omega, by rw [hsu], ?_⟩
    rw [hsu]
    exact hS14.pick [0, 1, 2, 3] (by decide) rfl
   simp (disch := omega) only [↓RA, RZ, simprocAttr, hn, g2, g3, g4, g6, g8, g9, g29, g30, g31, pH, g5, q2, q3]
   rw [if_neg q3] at hsu
   refine ⟨n - 1, by omega, k + 1, by omega, by congr 1; omega, by rw [hsu], ?_⟩
   rw [hsu]
   exact hS13.pick [0, 1, 2, 3] (by decide) rfl
  simp (disch := omega) only [↓RA, RZ, simprocAttr, hn, g2, g3, g4, g6, g29, g30, g31, g5, q2]
  have hkk : k = b2h o i := by omega
  rw [hkk, a3z] at hS10
  refine ⟨o.dvs.length - (i + 1), by omega, i + 1, by omega, by simp, ?_, ?_⟩
  ·rw [hkk, a3z]
  ·exact hS10.pick [0, 1, 2] (by decide) rfl
 simp (disch := omega) only [↓RA, RZ, simprocAttr, hn, g4, g5, hS7.ai 2 rfl, q1]
 refine hS7.ab 2 rfl [I (grF (tG o rg) ((List.range i).flatMap (yI o)) (((0 : Int), (iB o.dvs 0).lo), 0)).1.1, I (grF (tG o rg) ((List.range i).flatMap (yI o)) (((0 : Int), (iB o.dvs 0).lo), 0)).1.2] rfl rfl nV (by simp) fun H15 hS15 => ?_
 simp only [RT] at hS15
 simp (disch := omega) only [↓RA, RZ, simprocAttr, hn, g4, c4g, hS15.ai 2 rfl, q1]
 have hii : i = o.dvs.length := by omega
 rw [h0]
 refine ⟨?_, hS15.forget⟩
 rw [hii, e]
 rfl
def a7y (o : Org) (rg : Reg) : Int := if mH o rg = 0 then vK o (lZ o rg (kF (uE o))) else 0
theorem b9G (hG : Glob gH H) (o : Org) (ho : o.In H) (rg : Reg) (sv : Value) (hr : rg.In H sv) :
 Fn prog 24 [.agg #[.string o.name, o.rv, o.dv, o.cv], .agg #[sv, .int .u64 rg.cpl, .int .u64 rg.off]] H fun r H' => r = .tuple #[I (a7y o rg), I (mH o rg)] ∧ St prog H H' [] := by
 refine .aM func24 rfl (by kernel_rfl) (m := 42) rfl fun l hn g0 g1 => ?_
 simp (disch := omega) only [↓RA, RB, simprocAttr, g0]
 refine (sR H).eNew 4 [(.string o.name), o.rv, o.dv, o.cv] rfl rfl (by simp [OC, ((sR H).sl ho.1).cells.2.1, ((sR H).sl ho.2.2.1).cells.2.1, ((sR H).sl ho.2.2.2.2.1).cells.2.1]) lP fun A1 H1 hS1 => ?_
 simp only [RT] at hS1
 simp (disch := omega) only [↓RA, RB, simprocAttr, g1]
 refine hS1.eNew 3 [sv, (.int .u64 rg.cpl), (.int .u64 rg.off)] rfl rfl (by simp [OC, (hS1.sl hr.1).cells.2.1]) oL fun A2 H2 hS2 => ?_
 simp only [RT] at hS2
 simp (disch := omega) only [↓RA, RZ, simprocAttr, hn, hS2.ai 0 rfl, hS2.ai 1 rfl]
 refine hS2.cF (a6w o (ho.ae hS2) rg sv (hr.ae hS2)) fun H3 hS3 => ?_
 simp (disch := omega) only [↓RA, RB, simprocAttr, hn]
 refine iA (fun h1 => ?_) (fun h1 => ?_)
 ·have e : a7y o rg = 0 := by unfold a7y; rw [if_neg h1]
  simp (disch := omega) only [↓RA, RZ, simprocAttr, hn, c3Q, h1]
  exact ⟨by rw [e], hS3.forget⟩
 have h0 := dx.1 h1
 have hoe := (mA h0).1
 have hf := Org.aY hoe
 have hdl := hf.dlen
 simp (disch := omega) only [↓RA, RZ, simprocAttr, hn, hS3.ld 0 rfl, (hS3.sl ho.2.2.1).len, h1]
 have hS4 := hS3.nil 1
 simp only [RT] at hS4
 refine Wp.ar (fun n l H' => l.length = 42 ∧ get l 2 = (ptr A1 0 4) ∧ get l 3 = (ptr A2 0 3) ∧ get l 4 = I 0 ∧ get l 5 = I 0 ∧ get l 19 = o.dv ∧ get l 20 = I o.dvs.length ∧ ∃ (i : Nat) (ov : Value), (n + i = o.dvs.length) ∧ get l 21 = I i ∧ get l 7 = ov ∧ St prog H H' [⟨ptr A1 0 4, 0, [(.string o.name), o.rv, o.dv, o.cv]⟩, ⟨ptr A2 0 3, 0, [sv, (.int .u64 rg.cpl), (.int .u64 rg.off)]⟩, ⟨ov, 2, ((o.dvs.take i).map fun d => rG d.lo d.hi).flatMap ntc⟩]) o.dvs.length ?_ ?_
 ·simp (disch := omega) only [RB, RC, simprocAttr, hn]
  exact ⟨0, .slice none 0 0, by omega, rfl, rfl, hS4⟩
 rintro n l H4 ⟨hn, g2, g3, g4, g5, g19, g20, i, ov, hi, g21, g7, hS5⟩
 simp (disch := omega) only [↓RA, RB, simprocAttr, hn, g20, g21]
 refine iA (fun q1 => ?_) (fun q1 => ?_)
 ·have hki := hf.keys i (by omega)
  simp (disch := omega) only [↓RA, RZ, simprocAttr, hn, g19, g21, (hS5.sl ho.2.2.1).idx, (hS5.sl ho.2.2.1).ai, Dvn.cells, q1]
  refine hS5.eNew 5 [(.string ⟨#[]⟩), (.bool false), I 0, I 0, (.slice none 0 0)] rfl rfl rfl uB fun A3 H5 hS6 => ?_
  simp only [RT] at hS6
  simp (disch := omega) only [↓RA, RZ, simprocAttr, hn, q1]
  refine hS6.ab 3 rfl [(.string (iB o.dvs i).name), (.bool (iB o.dvs i).pedal), I (iB o.dvs i).lo, I (iB o.dvs i).hi, (iB o.dvs i).sv] rfl (by simp [OC, (hS6.sl (ho.2.2.2.1 (iB o.dvs i) (iE (by omega))).1).cells.2.1]) uB (by simp) fun H6 hS7 => ?_
  simp only [RT] at hS7
  simp (disch := omega) only [↓RA, RZ, simprocAttr, hn, hS7.ai 3 rfl, q1]
  refine hS7.cF (a3R (iB o.dvs i).lo (iB o.dvs i).hi hki.1 hki.2.1 hki.2.2) fun H7 hS8 => ?_
  simp (disch := omega) only [↓RA, RZ, simprocAttr, hn, q1]
  refine hS8.eNew 2 [(.int .u64 0), (.int .u64 0)] rfl rfl rfl nA fun A4 H8 hS9 => ?_
  simp only [RT] at hS9
  simp (disch := omega) only [↓RA, RZ, simprocAttr, hn, q1]
  refine hS9.ab 4 rfl [(.int .u64 (rG (iB o.dvs i).lo (iB o.dvs i).hi).1), (.int .u64 (rG (iB o.dvs i).lo (iB o.dvs i).hi).2)] rfl rfl nA (by simp) fun H9 hS10 => ?_
  simp only [RT] at hS10
  simp (disch := omega) only [↓RA, RZ, simprocAttr, hn, g7, hS10.ai 4 rfl, q1]
  refine hS10.ag [(.int .u64 (rG (iB o.dvs i).lo (iB o.dvs i).hi).1), (.int .u64 (rG (iB o.dvs i).lo (iB o.dvs i).hi).2)] a5D b6x rfl rfl (by simp [Value.cells]) rfl rfl (by decide) (by decide) fun w1 H10 hS11 => ?_
  simp only [RT] at hS11
  simp (disch := omega) only [↓RA, RZ, simprocAttr, hn, q1]
  refine hS11.al 2 rfl (hS11.rd 5 rfl) a5D (by rw [iI (n := 2) (cel := ntc) (fun _ => rfl), dX, fN]; simp; omega) fun w2 H11 hS12 => ?_
  simp only [RT] at hS12
  simp (disch := omega) only [↓RA, RZ, simprocAttr, hn, g2, g3, g4, g5, g19, g20, g21, q1]
  refine ⟨n - 1, by omega, i + 1, w2, by omega, by simp, rfl, ?_⟩
  rw [rK o.dvs i (by omega), dT, dG]
  exact hS12.pick [0, 1, 2] (by decide) rfl
 have hii : i = o.dvs.length := by omega
 subst hii
 simp (disch := omega) only [↓RA, RZ, simprocAttr, hn, g2, g3, g7, hS5.ai 0 rfl, hS5.ai 1 rfl, q1]
 have hfu : Sl 2 ntc H4 ov (uE o) := by have h := hS5.ax (cel := ntc) 2 rfl (fun _ => rfl); rw [dZ] at h; exact h
 refine hS5.cF (a2d (hS5.gl hG) o (ho.ae hS5) rg sv (hr.ae hS5) ov (uE o) ⟨hfu, by rw [yT]; omega, b5W hf⟩) fun H12 hS13 => ?_
 have hrk : rkE o rg (uE o) = 0 := by unfold rkE; rw [if_neg (by rw [h0]; simp)]; exact b7L hoe
 have he : vB o rg (uE o) = a7y o rg := by unfold vB a7y nU; rw [if_pos hrk, if_pos h0]
 simp (disch := omega) only [↓RA, RZ, simprocAttr, hn, c3Q, q1]
 rw [hrk, he, h0]
 exact ⟨rfl, hS13.forget⟩
end Go.Ds
namespace Go.Ds
open Go.Proofs Go.Proofs.Tryz
variable {H : Heap}
set_option maxRecDepth 100000
set_option maxHeartbeats 1000000
def b0t (r : Rs) (n : Int) : Bool := match r with
 | .ok (.tuple vs) _ => (match vs.toList with
   | [.int .u64 a, .int .u64 b] => decide (a = 0) && decide (b = n)
   | _ => false)
 | .th (.tuple vs) _ => (match vs.toList with
   | [.int .u64 a, .int .u64 b] => decide (a = 0) && decide (b = n)
   | _ => false)
 | _ => false
theorem c2c : (sX prog [32, 54, 55] .e fun T => [(25 : Int)].all fun n => b0t (mN T (exF prog T 4000) [] (kP 32) [.int .u64 1, .int .u64 n] gH) n) = true := by kernel_rfl
theorem b5s {T : LT} (hT : TOk prog T) {k : FuncId} {args : List Value} {n : Int} (h : b0t (mN T (exF prog T 4000) [] (kP k) args gH) n = true) : Fn prog k args gH fun r _ => r = .tuple #[.int .u64 0, .int .u64 n] := by
 have hv : ∀ (vs : Array Value), (match vs.toList with
  | [.int .u64 a, .int .u64 b] => decide (a = 0) && decide (b = n)
  | _ => false) = true → Value.tuple vs = .tuple #[.int .u64 0, .int .u64 n] := by
  intro vs h
  split at h
  ·rename_i a b e
   rw [cX, decide_eq_true_eq, decide_eq_true_eq] at h
   obtain ⟨rfl, rfl⟩ := h
   congr 1
   exact gL e
  ·cases h
 unfold b0t at h
 split at h
 ·rename_i vs H1 e
  rw [← hv vs h]
  exact lY hT (.inl e)
 ·rename_i vs H1 e
  rw [← hv vs h]
  exact lY hT (.inr e)
 ·cases h
theorem b6O (hG : Glob gH H) : Fn prog 32 [.int .u64 1, .int .u64 25] H fun r H' => r = .tuple #[.int .u64 0, .int .u64 25] ∧ St prog H H' [] := by
 obtain ⟨T, hT, h⟩ := qP (ps := [(25 : Int)]) (f := fun T n => b0t (mN T (exF prog T 4000) [] (kP 32) [.int .u64 1, .int .u64 n] gH) n) c2c
 exact rP (by simp [flat, jC, iX]) rfl (b5s hT (h 25 (by simp))) hG
theorem rA (c z : Value) : ∀ (m x n : Nat), x + m ≤ n → iW (List.replicate x c ++ List.replicate (n - x) z) x (List.replicate m c) = List.replicate (x + m) c ++ List.replicate (n - (x + m)) z := by
 intro m x n h
 have e : List.replicate (n - x) z = List.replicate m z ++ List.replicate (n - (x + m)) z := by
  rw [List.replicate_append_replicate]; congr 1; omega
 have := mW (List.replicate m c) (List.replicate x c) (List.replicate (n - x) z) (by simp; omega)
 rw [eQ] at this
 rw [this, List.replicate_append_replicate]
 congr 1
 simp
 omega
theorem a8R {H : Heap} {v : Value} {cs : List Value} (h : RdAt H v 1 cs) (h0 : cs ≠ []) : mK v 1 0 cs.length = v := by
 rcases h with ⟨rfl, rfl⟩ | ⟨A, i, e, row, ty, rw, lo', ver, n, h1, h2, h3, h4, h5, h6, rfl⟩
 ·exact (h0 rfl).elim
 ·simp [mK, h6]
theorem St.cw {P : Program} {H0 : Base} {os : List Ob} (hS : St P H0 H os) (i : Nat) {v : Value} {cs : List Value} (ho : os[i]? = some ⟨v, 1, cs⟩) {x : Value} {ys : List Value} (hx : RdAt H x 1 ys) (h0 : 0 < cs.length) (hy : 0 < ys.length) {t : TypeId} (ht : iS P t = some 1) {K : Value → Heap → Prop}
 (h : ∀ H1, St P H0 H1 (os.set i ⟨v, 1, iW cs 0 (ys.take (min ys.length cs.length))⟩) → K (.int .i64 ((min ys.length cs.length : Nat) : Int)) H1) : a3C P H t v x K := by
 have e := a8R (hS.rd (size := 0) i ho) (by intro e; simp [e] at h0)
 have := hS.bM i ho hx 0 cs.length (by omega) h0 hy ht h
 rwa [e] at this
theorem a2q (hG : Glob gH H) {c : Int} (v : Value) (hv : Sl 1 (one I) H v [c]) : Fn prog 28 [v, I 25] H fun r H' => St prog H H' [⟨r, 1, List.replicate 25 (I c)⟩] := by
 have h1 : (([c] : List Int).length : Int) = 1 := rfl
 refine .aM func28 rfl (by kernel_rfl) (m := 48) rfl fun l hn g0 g1 => ?_
 simp (disch := omega) only [↓RA, RZ, simprocAttr, hn, g0, g1, ((sR H).sl hv).len]
 refine (sR H).cF (b6O ((sR H).gl hG)) fun H1 hS1 => ?_
 simp (disch := omega) only [↓RA, RZ, simprocAttr, hn]
 refine hS1.bL 25 c3u (by omega) fun w H2 hS2 => ?_
 simp only [RT] at hS2
 simp (disch := omega) only [↓RA, RB, simprocAttr, hn, g0]
 refine hS2.cw 0 rfl (hS2.sl hv).rd (by simp) (by simp [one]) c0u fun H3 hS3 => ?_
 have e1 : min ([c].flatMap (one I)).length (List.replicate 25 (Value.int .i64 0)).length = 1 := by simp [one]
 rw [e1] at hS3 ⊢
 have e2 := rA (I c) (.int .i64 0) 1 0 25 (by omega)
 simp only [List.replicate_zero, fc, Nat.sub_zero, fM] at e2
 have hS4 : St prog H H3 [⟨w, 1, List.replicate 1 (I c) ++ List.replicate (25 - 1) (.int .i64 0)⟩] := by
  rw [← e2]
  exact hS3
 simp (disch := omega) only [↓RA, RB, simprocAttr, hn]
 have e3 : ∀ x : Nat, List.replicate x (I c) ++ List.replicate (25 - x) (.int .i64 0) = (List.replicate x (c : Int) ++ List.replicate (25 - x) 0).flatMap (one I) := fun x => by
  rw [nX, dT, List.map_replicate, List.map_replicate]
 refine Wp.ar (fun n l H' => l.length = 48 ∧ get l 4 = (.slice none 0 0) ∧ ∃ (x : Nat), (n + x = 25 ∧ 1 ≤ x) ∧ get l 8 = I x ∧ get l 7 = w ∧ St prog H H' [⟨w, 1, (List.replicate x (c : Int) ++ List.replicate (25 - x) 0).flatMap (one I)⟩]) 24 ?_ ?_
 ·simp (disch := omega) only [RB, RC, simprocAttr, hn]
  rw [e3] at hS4
  exact ⟨1, ⟨by omega, by omega⟩, rfl, hS4⟩
 rintro n l H2 ⟨hn, g4, x, ⟨hx,hx1⟩, g8, g7, hS2⟩
 have hln : (List.replicate x (c : Int) ++ List.replicate (25 - x) 0).length = 25 := by simp; omega
 simp (disch := omega) only [↓RA, RZ, simprocAttr, hn, g8, g7, (hS2.ax 0 rfl (fun _ => rfl)).len, hln]
 refine iA (fun q1 => ?_) (fun q1 => ?_)
 ·simp (disch := omega) only [↓RA, RC, simprocAttr, q1]
  refine Wp.drw kE (by kernel_rfl) ?_
  simp (disch := omega) only [↓RA, RZ, simprocAttr, hn, g8, g7, (hS2.ax 0 rfl (fun _ => rfl)).aW, (hS2.ax 0 rfl (fun _ => rfl)).aR, hln]
  have hxt : ((25 : Int) - (x : Int)).toNat = 25 - x := by omega
  rw [hxt]
  have hlc : ((List.replicate x (c : Int) ++ List.replicate (25 - x) 0).flatMap (one I)).length = 25 := by rw [nX, dX, hln]
  have hrd := hS2.rd 0 rfl
  have hsub := hrd.sub 0 x (by rw [hlc]; omega) (by intro e; rw [e] at hlc; simp at hlc)
  have e5 : (((List.replicate x (c : Int) ++ List.replicate (25 - x) 0).flatMap (one I)).drop (0 * (0 + 1))).take (x * (0 + 1)) = List.replicate x (I c) := by
   rw [← e3]
   simp []
  rw [e5] at hsub
  refine hS2.bM 0 rfl hsub x (25 - x) (by rw [hlc]; omega) (by omega) (by simp; omega) c0u fun H4 hS5 => ?_
  have e6 : (List.replicate x (I c)).take (min (List.replicate x (I c)).length (25 - x)) = List.replicate (min x (25 - x)) (I c) := by simp
  rw [e6] at hS5
  have e7 : min (List.replicate x (I c)).length (25 - x) = min x (25 - x) := by simp
  rw [e7]
  have e8 := rA (I c) (.int .i64 0) (min x (25 - x)) x 25 (by omega)
  have hS6 : St prog H H4 [⟨w, 1, (List.replicate (x + min x (25 - x)) (c : Int) ++ List.replicate (25 - (x + min x (25 - x))) 0).flatMap (one I)⟩] := by
   rw [← e3, ← e8, e3]
   exact hS5
  simp (disch := omega) only [↓RA, RZ, simprocAttr, hn, g4, g7]
  exact ⟨25 - (x + min x (25 - x)), by omega, x + min x (25 - x), ⟨by omega, by omega⟩, by simp, hS6⟩
 simp (disch := omega) only [↓RA, RZ, simprocAttr, hn, g7, c5s, q1]
 have e : x = 25 := by omega
 subst e
 have hfin : ((List.replicate 25 (c : Int) ++ List.replicate (25 - 25) 0).flatMap (one I)) = List.replicate 25 (I c) := by rw [← e3]; rfl
 have h9 := hS2
 rw [hfin] at h9
 exact h9
end Go.Ds
namespace Go.Ds
open Go.Proofs
variable {H : Heap}
set_option maxRecDepth 10000
set_option maxHeartbeats 1000000
section
variable (w1 w2 w3 w4 w5 w6 w7 : Value)
def a7M (x : Int × Int) : List (Int × Int) → List (Int × Int)
 | [] => [x]
 | y :: l => if le2 x y then x :: y :: l else y :: a7M x l
def a2S : List (Int × Int) → List (Int × Int)
 | [] => []
 | x :: l => a7M x (a2S l)
theorem a0l (x : Int × Int) : ∀ l, (a7M x l).Perm (x :: l)
 | [] => .refl _
 | y :: l => by
   unfold a7M
   split
   ·exact .refl _
   ·exact ((a0l x l).cons y).trans (.swap ..)
theorem a3Z : ∀ l, (a2S l).Perm l
 | [] => .refl _
 | x :: l => (a0l x _).trans ((a3Z l).cons x)
theorem b1K (x y : Int × Int) : le2 x y = false → le2 y x = true := by
 intro h
 rw [← eP] at h
 rw [oJ] at h ⊢
 omega
theorem a0C (x : Int × Int) : ∀ l : List (Int × Int), l.Pairwise (fun a b => le2 a b = true) → (a7M x l).Pairwise fun a b => le2 a b = true
 | [], _ => by simp [a7M]
 | y :: l, h => by
   have h1 := List.pairwise_cons.1 h
   unfold a7M
   split
   ·rename_i hxy
    refine List.pairwise_cons.2 ⟨fun z hz => ?_, h⟩
    rcases ew.1 hz with rfl | hz
    ·exact hxy
    ·have h2 := h1.1 z hz
     rw [oJ] at *
     omega
   ·rename_i hxy
    refine List.pairwise_cons.2 ⟨fun z hz => ?_, a0C x l h1.2⟩
    rcases ew.1 ((a0l x l).mem_iff.1 hz) with rfl | hz
    ·exact b1K _ _ (by simpa using hxy)
    ·exact h1.1 z hz
theorem a0B : ∀ l : List (Int × Int), (a2S l).Pairwise fun a b => le2 a b = true
 | [] => .nil
 | x :: l => a0C x _ (a0B l)
theorem c1M : uZ = a2S := by
 funext l
 refine List.Perm.eq_of_pairwise (le := fun a b => le2 a b = true) (fun a b _ _ h1 h2 => ?_) (wD l) (a0B l) ((oG l).trans (a3Z l).symm)
 rw [oJ] at h1 h2
 exact gW (by omega) (by omega)
def b5g (s : List Ct → List Ct) (o : Org) (r : Reg) (l : List Ct) : List Ct := dd (s (l.filter (fun c => !r.off.testBit c.1.toNat) ++ bfs o r.cpl 1100 0 (nW o r.cpl l)))
def c2s (s : List Ct → List Ct) (rs : List Rk) (p : Stp) (key : Int) : List Ct := dd (s (((a9Y p key).filter fun d => xB rs d key).map fun d => nZ rs d key))
def b5d (s : List Ct → List Ct) (o : Org) (r : Reg) (c : Ct) : List Ct := (List.range (iB o.dvs c.1.toNat).stops.length).flatMap fun i => if (iB r.stops c.1.toNat).testBit i then c2s s o.ranks (iB (iB o.dvs c.1.toNat).stops i) c.2 else []
end
end Go.Ds
namespace Go.Ds
open Go.Proofs Go.Proofs.Tryz
variable {H : Heap}
set_option maxRecDepth 10000
set_option maxHeartbeats 1000000
theorem a3g (hG : Glob gH H) (s : ByteArray) : Fn prog 48 [.string s] H fun r H' => ∃ wv, r = .agg #[.string s, .string ⟨#[102, 108, 117, 116, 101]⟩, I 8, I 1, I 36, wv] ∧ St prog H H' [⟨wv, 1, List.replicate 25 (I 1)⟩] := by
 refine .aV func48 rfl (by kernel_rfl) (m := 8) rfl fun l hn g0 => ?_
 simp (disch := omega) only [↓RA, RZ, simprocAttr]
 refine (sR H).eNew 6 [(.string ⟨#[]⟩), (.string ⟨#[]⟩), I 0, I 0, I 0, (.slice none 0 0)] rfl rfl rfl yM fun A1 H1 hS1 => ?_
 simp only [RT] at hS1
 simp (disch := omega) only [↓RA, RB, simprocAttr, g0, yN]
 refine hS1.ag [I 1] vD a0R rfl rfl (by simp [Value.cells]) rfl rfl (by decide) (by decide) fun w1 H2 hS2 => ?_
 simp only [RT] at hS2
 simp (disch := omega) only [↓RA, RZ, simprocAttr, hn]
 refine iG ((a2q (hS2.gl hG) w1 (hS2.ax 1 rfl (fun _ => rfl))).tr) ?_
 rintro r H3 ⟨-, hT1⟩
 have hS3 := hS2.trans hT1
 simp only [RT] at hS3
 obtain ⟨wv, rfl⟩ : ∃ w, w = r := ⟨r, rfl⟩
 simp (disch := omega) only [↓RA, RB, simprocAttr, hn, a1q (hS3.rd 2 rfl).cells]
 refine hS3.ab 0 rfl [(.string s), (.string ⟨#[102, 108, 117, 116, 101]⟩), I 8, I 1, I 36, wv] rfl (by simp [OC, (hS3.rd 2 rfl).cells.2.1]) yM (by simp) fun H4 hS4 => ?_
 simp only [RT] at hS4
 simp (disch := omega) only [↓RA, RZ, simprocAttr, hn, c6o, hS4.ai 0 rfl]
 exact ⟨wv, rfl, hS4.pick [2] (by decide) rfl⟩
theorem a3H (n feet shift : Int) : Fn prog 47 [I n, I feet, I shift] H fun r H' => ∃ dv gv, St prog H H' [⟨dv, 2, [I n, I shift]⟩, ⟨gv, 3, [I 36, I 48, dv]⟩, ⟨r, 4, [.string ⟨#[97]⟩, I feet, I 1, gv]⟩] := by
 refine .bm func47 rfl (by kernel_rfl) (m := 17) rfl fun l hn g0 g1 g2 => ?_
 simp (disch := omega) only [↓RA, RB, simprocAttr, hn, g0, g1, g2, yN, qB]
 refine (sR H).ag [I n, I shift] a4b a3t rfl rfl (by simp [Value.cells]) rfl rfl (by decide) (by decide) fun w1 H1 hS1 => ?_
 simp only [RT] at hS1
 simp (disch := omega) only [↓RA, RB, simprocAttr, hn, lG (hS1.rd 0 rfl).cells]
 refine hS1.ag [I 36, I 48, w1] pQ vO rfl rfl (by first | (simp []; done) | simp [Value.cells]) (by first | (simp []; done) | simp [Value.cells]) (by simp [OC, (hS1.rd 0 rfl).cells.2.1]) (by decide) (by decide) fun w2 H2 hS2 => ?_
 simp only [RT] at hS2
 simp (disch := omega) only [↓RA, RB, simprocAttr, hn, a7k (hS2.rd 1 rfl).cells]
 refine hS2.ag [(.string ⟨#[97]⟩), I feet, I 1, w2] a8e c1u rfl rfl (by first | (simp []; done) | simp [Value.cells]) (by first | (simp []; done) | simp [Value.cells]) (by simp [OC, (hS2.rd 1 rfl).cells.2.1]) (by decide) (by decide) fun w3 H3 hS3 => ?_
 simp only [RT] at hS3
 simp (disch := omega) only [↓RA, RB, simprocAttr, hn, c5T]
 exact ⟨w1, w2, hS3⟩
section
variable (w1 w2 d1 g1 s1 d2 g2 s2 w3 w4 w5 : Value)
end
def zW (c1 c2 : Int) (w1 w2 : Value) : List Rk := [⟨⟨#[114]⟩, ⟨#[102, 108, 117, 116, 101]⟩, 8, 1, 36, w1, List.replicate 25 c1⟩, ⟨⟨#[115]⟩, ⟨#[102, 108, 117, 116, 101]⟩, 8, 1, 36, w2, List.replicate 25 c2⟩]
def b6H (d1 g1 s1 d2 g2 s2 : Value) : List Dvn := [⟨⟨#[111, 110, 101]⟩, false, 36, 48, s1, [⟨⟨#[97]⟩, 8, 1, g1, [⟨36, 48, d1, [⟨0, 0⟩]⟩]⟩]⟩, ⟨⟨#[116, 119, 111]⟩, false, 36, 48, s2, [⟨⟨#[97]⟩, 4, 1, g2, [⟨36, 48, d2, [⟨1, 12⟩]⟩]⟩]⟩]
def b7y : List Cpl := [⟨⟨#[99]⟩, 0, 1, 0, false⟩]
def exW (c1 c2 : Int) (w1 w2 d1 g1 s1 d2 g2 s2 w3 w4 w5 : Value) : Org := ⟨⟨#[101]⟩, w3, zW c1 c2 w1 w2, w4, b6H d1 g1 s1 d2 g2 s2, w5, b7y⟩
theorem a5P (hG : Glob gH H) : Fn prog 27 [] H fun r H' => ∃ w1 w2 d1 g1 s1 d2 g2 s2 w3 w4 w5, r = .agg #[.string ⟨#[101]⟩, w3, w4, w5] ∧ St prog H H' [⟨w1, 1, (List.replicate 25 (1 : Int)).flatMap (one I)⟩, ⟨w2, 1, (List.replicate 25 (1 : Int)).flatMap (one I)⟩,
 ⟨d1, 2, [(⟨0, 0⟩ : Drw)].flatMap Drw.cells⟩, ⟨g1, 3, [(⟨36, 48, d1, [⟨0, 0⟩]⟩ : Seg)].flatMap Seg.cells⟩, ⟨s1, 4, [(⟨⟨#[97]⟩, 8, 1, g1, [⟨36, 48, d1, [⟨0, 0⟩]⟩]⟩ : Stp)].flatMap Stp.cells⟩,
 ⟨d2, 2, [(⟨1, 12⟩ : Drw)].flatMap Drw.cells⟩, ⟨g2, 3, [(⟨36, 48, d2, [⟨1, 12⟩]⟩ : Seg)].flatMap Seg.cells⟩, ⟨s2, 4, [(⟨⟨#[97]⟩, 4, 1, g2, [⟨36, 48, d2, [⟨1, 12⟩]⟩]⟩ : Stp)].flatMap Stp.cells⟩,
 ⟨w3, 6, (zW 1 1 w1 w2).flatMap Rk.cells⟩, ⟨w4, 5, (b6H d1 g1 s1 d2 g2 s2).flatMap Dvn.cells⟩, ⟨w5, 5, b7y.flatMap Cpl.cells⟩] := by
 refine .cQ func27 rfl (by kernel_rfl) (m := 19) rfl fun l hn => ?_
 simp (disch := omega) only [↓RA, RZ, simprocAttr]
 refine (sR H).eNew 4 [(.string ⟨#[]⟩), (.slice none 0 0), (.slice none 0 0), (.slice none 0 0)] rfl rfl rfl lP fun A1 H1 hS1 => ?_
 simp only [RT] at hS1
 simp (disch := omega) only [↓RA, RZ, simprocAttr, a1n]
 refine hS1.eNew 2 [I 0, I 0] rfl rfl rfl yX fun A2 H2 hS2 => ?_
 simp only [RT] at hS2
 simp (disch := omega) only [↓RA, RB, simprocAttr, hn]
 refine hS2.ab 1 rfl [I 36, I 48] rfl rfl yX (by simp) fun H3 hS3 => ?_
 simp only [RT] at hS3
 simp (disch := omega) only [↓RA, RB, simprocAttr]
 refine Wp.ct kE [0, 1, 4, 5, 8, 9, 2, 3, 6, 7, 10, 11, 12, 13, 14, 15] [0, 1, 6, 7, 2, 3, 8, 9, 4, 5, 10, 11, 12, 13, 14, 15] ⟨true, [35], []⟩ [(7, 0), (7, 1), (7, 2), (7, 4), (7, 6), (9, 0), (9, 1), (9, 2), (9, 4), (9, 6)] (by kernel_rfl) (by kernel_rfl) (by kernel_rfl) ?_
 simp (disch := omega) only [↓RA, RZ, simprocAttr]
 refine iG (a3g (hS3.gl hG) _) ?_
 rintro r H4 ⟨wv1, rfl, hT1⟩
 have hS4 := hS3.trans hT1
 simp only [RT] at hS4
 simp (disch := omega) only [↓RA, RZ, simprocAttr]
 refine iG (a3g (hS4.gl hG) _) ?_
 rintro r H5 ⟨wv2, rfl, hT2⟩
 have hS5 := hS4.trans hT2
 simp only [RT] at hS5
 simp (disch := omega) only [↓RA, RZ, simprocAttr, hn]
 refine iG (a3H 0 8 0) ?_
 rintro r H6 ⟨d1, g1, hT3⟩
 have hS6 := hS5.trans hT3
 simp only [RT] at hS6
 obtain ⟨s1, rfl⟩ : ∃ w, w = r := ⟨r, rfl⟩
 simp (disch := omega) only [↓RA, RZ, simprocAttr, hn]
 refine iG (a3H 1 4 12) ?_
 rintro r H7 ⟨d2, g2, hT4⟩
 have hS7 := hS6.trans hT4
 simp only [RT] at hS7
 obtain ⟨s2, rfl⟩ : ∃ w, w = r := ⟨r, rfl⟩
 simp (disch := omega) only [↓RA, RB, simprocAttr, hn]
 refine hS7.ag [(.string ⟨#[114]⟩), (.string ⟨#[102, 108, 117, 116, 101]⟩), I 8, I 1, I 36, wv1, (.string ⟨#[115]⟩), (.string ⟨#[102, 108, 117, 116, 101]⟩), I 8, I 1, I 36, wv2] a9z c0q rfl rfl (by first | (simp []; done) | simp [Value.cells]) (by first | (simp []; done) | simp [Value.cells]) (by simp [OC, (hS7.rd 2 rfl).cells.2.1, (hS7.rd 3 rfl).cells.2.1]) (by decide) (by decide) fun w1 H8 hS8 => ?_
 simp only [RT] at hS8
 simp (disch := omega) only [↓RA, RZ, simprocAttr, hn, hS8.ai 1 rfl, a1t (hS8.rd 6 rfl).cells, a1t (hS8.rd 9 rfl).cells]
 refine hS8.ag [(.string ⟨#[111, 110, 101]⟩), (.bool false), I 36, I 48, s1, (.string ⟨#[116, 119, 111]⟩), (.bool false), I 36, I 48, s2] a8a c1e rfl rfl (by first | (simp []; done) | simp [Value.cells]) (by first | (simp []; done) | simp [Value.cells]) (by simp [OC, (hS8.rd 6 rfl).cells.2.1, (hS8.rd 9 rfl).cells.2.1]) (by decide) (by decide) fun w2 H9 hS9 => ?_
 simp only [RT] at hS9
 simp (disch := omega) only [↓RA, RB, simprocAttr, hn, a5L]
 refine hS9.ag [(.string ⟨#[99]⟩), I 0, I 1, I 0, (.bool false)] yS b2I rfl rfl (by simp [Value.cells]) rfl rfl (by decide) (by decide) fun w3 H10 hS10 => ?_
 simp only [RT] at hS10
 simp (disch := omega) only [↓RA, RB, simprocAttr, hn, a5i (hS10.rd 10 rfl).cells (hS10.rd 11 rfl).cells (hS10.rd 12 rfl).cells]
 refine hS10.ab 0 rfl [(.string ⟨#[101]⟩), w1, w2, w3] rfl (by simp [OC, (hS10.rd 10 rfl).cells.2.1, (hS10.rd 11 rfl).cells.2.1, (hS10.rd 12 rfl).cells.2.1]) lP (by simp) fun H11 hS11 => ?_
 simp only [RT] at hS11
 simp (disch := omega) only [↓RA, RZ, simprocAttr, hn, hS3.ai 1 rfl, hS4.ai 1 rfl, hS5.ai 1 rfl, hS6.ai 1 rfl, hS7.ai 1 rfl, c5F, hS11.ai 0 rfl]
 exact ⟨wv1, wv2, d1, g1, s1, d2, g2, s2, w1, w2, w3, rfl, hS11.pick [2, 3, 4, 5, 6, 7, 8, 9, 10, 11, 12] (by decide) rfl⟩
section
variable (w1 w2 d1 g1 s1 d2 g2 s2 w3 w4 w5 : Value)
theorem a4y : mH (exW 7 2 w1 w2 d1 g1 s1 d2 g2 s2 w3 w4 w5) ⟨[1, 1], 1, 0⟩ = 0 := by kernel_rfl
theorem b6F : nP (exW 7 2 w1 w2 d1 g1 s1 d2 g2 s2 w3 w4 w5) [jT [40, 41], (0, 0)] = 0 := by kernel_rfl
theorem a8B : rkE (exW 7 2 w1 w2 d1 g1 s1 d2 g2 s2 w3 w4 w5) ⟨[1, 1], 1, 0⟩ [jT [40, 41], (0, 0)] = 0 := by
 unfold rkE
 rw [a4y, if_neg (by decide), b6F]
end
def rkS (o : Org) (acc : List Int) (p : Ct) : List Int := acc.set p.1.toNat (tH (iB acc p.1.toNat + a2r o p))
def rkF (o : Org) (ps : List Ct) : List Int := ps.foldl (rkS o) (List.replicate o.ranks.length 0)
theorem b0Y (o : Org) : ∀ (ps : List Ct) (acc : List Int), (ps.foldl (rkS o) acc).length = acc.length
 | [], _ => rfl
 | p :: ps, acc => by
   rw [fb, b0Y o ps]
   unfold rkS
   rw [fz]
theorem b7k (o : Org) (ps : List Ct) : (rkF o ps).length = o.ranks.length := by unfold rkF; rw [b0Y, eQ]
theorem b6J (o : Org) (ps : List Ct) (i : Nat) (h : i < ps.length) : rkF o (ps.take (i + 1)) = rkS o (rkF o (ps.take i)) (iB ps i) := by
 unfold rkF
 rw [lH ps i h, fx]
 rfl
theorem b6u (acc : List Int) (e : Nat) (x : Int) : ((acc.flatMap (one I)).set e (I x)) = (acc.set e x).flatMap (one I) := by
 rw [nX, nX, gT]
def byF (o : Org) (rg : Reg) (ks : List Nt) : List Int := if rkE o rg ks = 0 then rkF o (nU o rg ks) else []
theorem a3u (hG : Glob gH H) (o : Org) (ho : o.In H) (rg : Reg) (sv : Value) (hr : rg.In H sv) (kv : Value) (ks : List Nt) (hk : Ks H kv ks) :
 Fn prog 19 [.agg #[.string o.name, o.rv, o.dv, o.cv], .agg #[sv, .int .u64 rg.cpl, .int .u64 rg.off], kv] H fun r H' => ∃ v, r = .tuple #[v, I (rkE o rg ks)] ∧ St prog H H' [⟨v, 1, (byF o rg ks).flatMap (one I)⟩] := by
 have hle := b5c (o := o) (rg := rg) hk.ok
 refine .bm func19 rfl (by kernel_rfl) (m := 53) rfl fun l hn g0 g1 g2 => ?_
 simp (disch := omega) only [↓RA, RB, simprocAttr, g0]
 refine (sR H).eNew 4 [(.string o.name), o.rv, o.dv, o.cv] rfl rfl (by simp [OC, ((sR H).sl ho.1).cells.2.1, ((sR H).sl ho.2.2.1).cells.2.1, ((sR H).sl ho.2.2.2.2.1).cells.2.1]) lP fun A1 H1 hS1 => ?_
 simp only [RT] at hS1
 simp (disch := omega) only [↓RA, RB, simprocAttr, g1]
 refine hS1.eNew 3 [sv, (.int .u64 rg.cpl), (.int .u64 rg.off)] rfl rfl (by simp [OC, (hS1.sl hr.1).cells.2.1]) oL fun A2 H2 hS2 => ?_
 simp only [RT] at hS2
 simp (disch := omega) only [↓RA, RZ, simprocAttr, hn, g2, hS2.ai 0 rfl, hS2.ai 1 rfl]
 have hS1 := hS2
 refine iG (a0s (hS2.gl hG) o (ho.ae hS2) rg sv (hr.ae hS2) kv ks (hk.ae hS2)) ?_
 rintro r H3 ⟨pv, rfl, hx, hT1⟩
 have hS3 := hS2.trans hT1
 simp only [RT] at hS3
 simp (disch := omega) only [↓RA, RB, simprocAttr, hn]
 refine iA (fun h1 => ?_) (fun h1 => ?_)
 ·have hb : byF o rg ks = [] := by unfold byF; rw [if_neg h1]
  have hS4 := hS3.nil 0
  simp only [RT] at hS4
  simp (disch := omega) only [↓RA, RZ, simprocAttr, hn, c4Q, h1]
  rw [hb]
  exact ⟨.slice none 0 0, rfl, hS4.pick [2] (by decide) rfl⟩
 have h0 := dx.1 h1
 obtain ⟨hz1, hz2⟩ := tU h0
 have hf := Org.aY (mA hz1).1
 have hrl := hf.rlen
 have hb : byF o rg ks = rkF o (nU o rg ks) := by unfold byF; rw [if_pos h0]
 have hx2 := hx.step (hS1.aJ (H' := H3))
 obtain ⟨X, hBX, hS5⟩ := hS3.aB (os := [⟨ptr A1 0 4, 0, _⟩, ⟨ptr A2 0 3, 0, _⟩])
 have hx3 := hx2.step (hS5.kept hBX)
 simp (disch := omega) only [↓RA, RZ, simprocAttr, hn, hS5.ld 0 rfl, ((hS3.ak hBX hS5).sl ho.1).len, h1]
 refine hS5.bL o.ranks.length c3u (by omega) fun w1 H4 hS6 => ?_
 simp only [RT] at hS6
 rw [show List.replicate o.ranks.length (Value.int .i64 0) = (List.replicate o.ranks.length (0 : Int)).flatMap (one I) from by rw [nX, List.map_replicate]] at hS6
 simp (disch := omega) only [↓RA, RZ, simprocAttr, hn, (hx2.step (hS6.kept hBX)).1.len, h1]
 refine Wp.ar (fun n l H' => l.length = 53 ∧ get l 3 = (ptr A1 0 4) ∧ get l 6 = (.slice none 0 0) ∧ get l 7 = I 0 ∧ get l 27 = pv ∧ get l 28 = I (nU o rg ks).length ∧ ∃ (i : Nat), (n + i = (nU o rg ks).length) ∧ get l 29 = I i ∧ get l 10 = w1 ∧ St prog X H' [⟨ptr A1 0 4, 0, [(.string o.name), o.rv, o.dv, o.cv]⟩, ⟨ptr A2 0 3, 0, [sv, (.int .u64 rg.cpl), (.int .u64 rg.off)]⟩, ⟨w1, 1, (rkF o ((nU o rg ks).take i)).flatMap (one I)⟩]) (nU o rg ks).length ?_ ?_
 ·simp (disch := omega) only [RB, RC, simprocAttr, hn]
  exact ⟨0, by omega, rfl, hS6⟩
 rintro n l H5 ⟨hn, g3, g6, g7, g27, g28, i, hi, g29, pH, hS7⟩
 simp (disch := omega) only [↓RA, RB, simprocAttr, hn, g28, g29]
 refine iA (fun q1 => ?_) (fun q1 => ?_)
 ·have hpi := b0A (o := o) (rg := rg) (ks := ks) _ (iE (xs := nU o rg ks) (j := i) (by omega))
  obtain ⟨e, he⟩ : ∃ e : Nat, (iB (nU o rg ks) i).1 = e := ⟨(iB (nU o rg ks) i).1.toNat, by have := hpi.1; omega⟩
  obtain ⟨f, hff⟩ : ∃ f : Nat, (iB (nU o rg ks) i).2 = f := ⟨(iB (nU o rg ks) i).2.toNat, by have := hpi.2.2.1; omega⟩
  have hel : e < o.ranks.length := by have := hpi.2.1; omega
  have hfl : f < (iB o.ranks e).wind.length := by
   have := hpi.2.2.2
   rw [he, eK] at this
   omega
  have hlr := b7k o ((nU o rg ks).take i)
  have hsu := b6J o (nU o rg ks) i (by omega)
  have hwt : a2r o (iB (nU o rg ks) i) = iB (iB o.ranks e).wind f := by unfold a2r; rw [he, hff, eK, eK]
  unfold rkS at hsu
  rw [hwt, he, eK] at hsu
  simp (disch := omega) only [↓RA, RZ, simprocAttr, hn, g27, g29, (hx2.step (hS7.kept hBX)).1.idx, (hx2.step (hS7.kept hBX)).1.ai, kC, q1]
  refine hS7.eNew 2 [I 0, I 0] rfl rfl rfl nR fun A3 H6 hS8 => ?_
  simp only [RT] at hS8
  simp (disch := omega) only [↓RA, RZ, simprocAttr, hn, q1]
  refine hS8.ab 3 rfl [I (iB (nU o rg ks) i).1, I (iB (nU o rg ks) i).2] rfl rfl nR (by simp) fun H7 hS9 => ?_
  simp only [RT] at hS9
  simp (disch := omega) only [↓RA, RZ, simprocAttr, q1]
  refine Wp.drw kE (by kernel_rfl) ?_
  simp (disch := omega) only [↓RA, RZ, simprocAttr, hn, pH]
  simp (disch := omega) only [↓RA, RZ, simprocAttr, hn, g3, hS9.ld 3 rfl, (hS9.ax 2 rfl (fun _ => rfl)).idx, (hS9.ax 2 rfl (fun _ => rfl)).ld, one, hS9.ld 0 rfl, ((hS3.ak hBX hS9).sl ho.1).idx, ((hS3.ak hBX hS9).sl ho.1).bf, ((hS3.ak hBX hS9).sl ho.1).ld, Rk.cells, ((hS3.ak hBX hS9).sl (ho.2.1 (iB o.ranks e) (iE (by omega))).1).idx, ((hS3.ak hBX hS9).sl (ho.2.1 (iB o.ranks e) (iE (by omega))).1).ld, he, hff]
  refine hS9.aG 2 rfl [_] rfl rfl tS3 (by simp) (by rw [nX, dX, hlr]; simp; omega) fun H8 hS10 => ?_
  simp only [RT] at hS10
  simp (disch := omega) only [↓RA, RZ, simprocAttr, hn, g3, g6, g7, g27, g28, g29, pH, he, hff]
  refine ⟨n - 1, by omega, i + 1, by omega, by simp, ?_⟩
  rw [hsu, ← b6u]
  exact hS10.pick [0, 1, 2] (by decide) rfl
 have hnt := (hS7.ax (cel := one I) 2 rfl (fun _ => rfl)).bu
 simp (disch := omega) only [↓RA, RZ, simprocAttr, hn, pH, c4Q, q1, hnt]
 have hii : i = (nU o rg ks).length := by omega
 rw [hb, h0]
 refine ⟨_, rfl, ?_⟩
 have h9 := (hS3.ak hBX hS7).pick (os' := [⟨w1, 1, _⟩]) [2] (by decide) rfl
 rw [hii, dZ] at h9
 exact h9
end Go.Ds
namespace Go.Ds
open Go.Proofs
variable {H : Heap}
set_option maxRecDepth 10000
set_option maxHeartbeats 1000000
theorem a3p (o : Org) (r : Reg) (l : List Ct) : lZ o r l = dd (a2S ((b5g a2S o r l).flatMap (b5d a2S o r))) := by
 rw [← c1M]
 rfl
section
variable (w1 w2 d1 g1 s1 d2 g2 s2 w3 w4 w5 : Value)
end
end Go.Ds
namespace Go.Ds
open Go.Proofs Go.Proofs.Tryz
variable {H : Heap}
set_option maxRecDepth 10000
set_option maxHeartbeats 1000000
theorem b3a (v w : Value) (xs ys : List Int) (hv : Sl 1 (one I) H v xs) (hw : Sl 1 (one I) H w ys) (hl : xs.length < 1000000000) (hl2 : ys.length < 1000000000) :
 Fn prog 15 [v, w] H fun r H' => r = .bool (decide (xs = ys)) ∧ St prog H H' [] := by
 refine .aM func15 rfl (by kernel_rfl) (m := 26) rfl fun l hn g0 g1 => ?_
 simp (disch := omega) only [↓RA, RZ, simprocAttr, hn, g0, g1, ((sR H).sl hv).len, ((sR H).sl hw).len]
 refine iA (fun h1 => ?_) (fun h1 => ?_)
 ·simp (disch := omega) only [↓RA, RZ, simprocAttr, hn, c1D, h1]
  exact ⟨by rw [decide_eq_false]; intro e; rw [e] at h1; exact h1 rfl, (sR H)⟩
 simp (disch := omega) only [↓RA, RZ, simprocAttr, hn, g0, ((sR H).sl hv).len, h1]
 refine Wp.ar (fun n l H' => l.length = 26 ∧ get l 0 = v ∧ get l 1 = w ∧ get l 12 = I xs.length ∧ ∃ (j : Nat), (n + j = xs.length ∧ ∀ q, q < j → iB xs q = iB ys q) ∧ get l 13 = I j ∧ St prog H H' []) xs.length ?_ ?_
 ·simp (disch := omega) only [RB, RC, simprocAttr, hn, g0, g1]
  exact ⟨0, ⟨by omega, fun q hq => absurd hq (dQ _)⟩, rfl, (sR H)⟩
 rintro n l H1 ⟨hn, g0, g1, g12, j, ⟨hj,hz⟩, g13, hS1⟩
 simp (disch := omega) only [↓RA, RB, simprocAttr, hn, g12, g13]
 refine iA (fun q1 => ?_) (fun q1 => ?_)
 ·simp (disch := omega) only [↓RA, RZ, simprocAttr, hn, g13, q1]
  refine Wp.drw kE (by kernel_rfl) ?_
  simp (disch := omega) only [↓RA, RZ, simprocAttr, hn, g0, g1, (hS1.sl hv).idx, (hS1.sl hv).ld, one, (hS1.sl hw).idx, (hS1.sl hw).ld]
  refine iA (fun q2 => ?_) (fun q2 => ?_)
  ·simp (disch := omega) only [↓RA, RZ, simprocAttr, hn, c1D, q2]
   refine ⟨?_, hS1⟩
   rw [decide_eq_false]
   intro e
   rw [e] at q2
   exact q2 rfl
  have q3 := dx.1 q2
  simp (disch := omega) only [↓RA, RZ, simprocAttr, hn, g0, g1, g12, g13, q2]
  exact ⟨n - 1, by omega, j + 1, ⟨by omega, fun q hq => by rcases dw.1 hq with e | e; (· exact hz q e); (· rw [e]; exact q3)⟩, by simp, hS1⟩
 simp (disch := omega) only [↓RA, RZ, simprocAttr, hn, c1D, q1]
 exact ⟨by rw [decide_eq_true]; exact a8Z (by omega) fun q hq => hz q (by omega), hS1⟩
def rgX : Reg := ⟨[1, 1], 1, 0⟩
def ksX : List Nt := [jT [40, 41], (0, 0)]
section
variable (w1 w2 d1 g1 s1 d2 g2 s2 w3 w4 w5 : Value)
theorem b0N : nU (exW 7 2 w1 w2 d1 g1 s1 d2 g2 s2 w3 w4 w5) rgX ksX = [(0, 4), (0, 5), (1, 16), (1, 17)] := by
 unfold nU
 rw [show rkE (exW 7 2 w1 w2 d1 g1 s1 d2 g2 s2 w3 w4 w5) rgX ksX = 0 from a8B .., if_pos rfl, a3p]
 kernel_rfl
theorem b9j : vB (exW 7 2 w1 w2 d1 g1 s1 d2 g2 s2 w3 w4 w5) rgX ksX = 18 := by
 unfold vB
 rw [b0N]
 kernel_rfl
theorem c2z : byF (exW 7 2 w1 w2 d1 g1 s1 d2 g2 s2 w3 w4 w5) rgX ksX = [14, 4] := by
 unfold byF
 rw [show rkE (exW 7 2 w1 w2 d1 g1 s1 d2 g2 s2 w3 w4 w5) rgX ksX = 0 from a8B .., if_pos rfl, b0N]
 kernel_rfl
theorem b7x (o : Org) (rg : Reg) : tG o rg = fun c => vK o (if zC o rg c = 0 then dd (a2S ((b5g a2S o rg [c]).flatMap (b5d a2S o rg))) else []) := by
 funext c
 unfold tG ofF
 rw [a3p]
theorem c1C : grR (exW 7 2 w1 w2 d1 g1 s1 d2 g2 s2 w3 w4 w5) rgX = ((0, 36), 9) := by
 unfold grR
 rw [show mH (exW 7 2 w1 w2 d1 g1 s1 d2 g2 s2 w3 w4 w5) rgX = 0 from a4y .., if_pos rfl, b7x]
 kernel_rfl
end
theorem a9o : rgX.Ok := ⟨by decide, by decide, by decide, by decide⟩
theorem b6E : ∀ x ∈ ksX, Nt.Ok x := by
 intro x hx
 simp only [ksX, ew, ec, or_false] at hx
 rcases hx with rfl | rfl <;> exact ⟨by decide, by decide⟩
theorem a1i (hG : Glob gH H) : Fn prog 6 [] H fun r H' => r = .bool true ∧ St prog H H' [] := by
 refine .cQ func6 rfl (by kernel_rfl) (m := 89) rfl fun l hn => ?_
 simp (disch := omega) only [↓RA, RZ, simprocAttr]
 refine iG (a5P ((sR H).gl hG)) ?_
 rintro r H1 ⟨xa, xb, da, ga, sa, db, gb, sb, xr, xd, xc, rfl, hT1⟩
 have hS1 := (sR H).trans hT1
 simp only [RT] at hS1
 simp (disch := omega) only [↓RA, RZ, simprocAttr]
 refine hS1.eNew 4 [(.string ⟨#[]⟩), (.slice none 0 0), (.slice none 0 0), (.slice none 0 0)] rfl rfl rfl lP fun A1 H2 hS2 => ?_
 simp only [RT] at hS2
 simp (disch := omega) only [↓RA, RB, simprocAttr, hn]
 refine hS2.ab 11 rfl [(.string ⟨#[101]⟩), xr, xd, xc] rfl (by simp [OC, (hS2.rd 8 rfl).cells.2.1, (hS2.rd 9 rfl).cells.2.1, (hS2.rd 10 rfl).cells.2.1]) lP (by simp) fun H3 hS3 => ?_
 simp only [RT] at hS3
 simp (disch := omega) only [↓RA, RB, simprocAttr]
 refine Wp.aQ kE [(1, 3), (1, 4)] (by kernel_rfl) (by kernel_rfl) ?_
 simp (disch := omega) only [↓RA, RZ, simprocAttr, hn, hS3.ld 11 rfl]
 refine hS3.ag [I 7] vD a0R rfl rfl (by simp [Value.cells]) rfl rfl (by decide) (by decide) fun w1 H4 hS4 => ?_
 simp only [RT] at hS4
 simp (disch := omega) only [↓RA, RZ, simprocAttr, hn]
 refine iG ((a2q (c := 7) (hS4.gl hG) w1 (hS4.ax 12 rfl (fun _ => rfl))).tr) ?_
 rintro r H5 ⟨-, hT2⟩
 have hS5 := hS4.trans hT2
 simp only [RT] at hS5
 obtain ⟨ya, rfl⟩ : ∃ w, w = r := ⟨r, rfl⟩
 have hl1 : (zW 1 1 xa xb).length = 2 := rfl
 simp (disch := omega) only [↓RA, RZ, simprocAttr, hn, (hS5.ax 8 rfl (fun _ => rfl)).idx, (hS5.ax 8 rfl (fun _ => rfl)).bf]
 refine hS5.aG 8 rfl [ya] (by rw [(hS5.rd 13 rfl).cells.1]) (by simp [(hS5.rd 13 rfl).cells.2.1]) a9S (by simp) (by simp [zW, Rk.cells]) fun H6 hS6 => ?_
 simp only [RT] at hS6
 simp (disch := omega) only [↓RA, RZ, simprocAttr, hn, hS4.ld 11 rfl, hS5.ld 11 rfl]
 refine Wp.aQ kE [(1, 3), (1, 4)] (by kernel_rfl) (by kernel_rfl) ?_
 simp (disch := omega) only [↓RA, RZ, simprocAttr, hn, hS6.ld 11 rfl]
 refine hS6.ag [I 2] vD a0R rfl rfl (by simp [Value.cells]) rfl rfl (by decide) (by decide) fun w2 H7 hS7 => ?_
 simp only [RT] at hS7
 simp (disch := omega) only [↓RA, RZ, simprocAttr, hn]
 have hset1 : ((zW 1 1 xa xb).flatMap Rk.cells).set 5 ya = (zW 7 1 ya xb).flatMap Rk.cells := rfl
 simp only [Nat.zero_mul, fM, hset1] at hS7
 refine iG ((a2q (c := 2) (hS7.gl hG) w2 (hS7.ax 14 rfl (fun _ => rfl))).tr) ?_
 rintro r H8 ⟨-, hT3⟩
 have hS8 := hS7.trans hT3
 simp only [RT] at hS8
 obtain ⟨yb, rfl⟩ : ∃ w, w = r := ⟨r, rfl⟩
 have hl2 : (zW 7 1 ya xb).length = 2 := rfl
 simp (disch := omega) only [↓RA, RZ, simprocAttr, hn, (hS8.ax 8 rfl (fun _ => rfl)).idx, (hS8.ax 8 rfl (fun _ => rfl)).bf]
 refine hS8.aG 8 rfl [yb] (by rw [(hS8.rd 15 rfl).cells.1]) (by simp [(hS8.rd 15 rfl).cells.2.1]) a9S (by simp) (by simp [zW, Rk.cells]) fun H9 hS9 => ?_
 simp only [RT] at hS9
 simp (disch := omega) only [↓RA, RZ, simprocAttr, hn, hS7.ld 11 rfl, hS8.ld 11 rfl]
 have hset2 : ((zW 7 1 ya xb).flatMap Rk.cells).set 11 yb = (zW 7 2 ya yb).flatMap Rk.cells := rfl
 simp only [Nat.one_mul, Nat.reduceAdd, hset2] at hS9
 have h1 : Sl 1 (one I) H9 ya (List.replicate 25 7) := hS9.ax 13 rfl (fun _ => rfl)
 have h2 : Sl 1 (one I) H9 yb (List.replicate 25 2) := hS9.ax 15 rfl (fun _ => rfl)
 have h3 : Sl 2 Drw.cells H9 da [⟨0, 0⟩] := hS9.ax 2 rfl (fun _ => rfl)
 have h4 : Sl 3 Seg.cells H9 ga [⟨36, 48, da, [⟨0, 0⟩]⟩] := hS9.ax 3 rfl (fun _ => rfl)
 have h5 : Sl 4 Stp.cells H9 sa [⟨⟨#[97]⟩, 8, 1, ga, [⟨36, 48, da, [⟨0, 0⟩]⟩]⟩] := hS9.ax 4 rfl (fun _ => rfl)
 have h6 : Sl 2 Drw.cells H9 db [⟨1, 12⟩] := hS9.ax 5 rfl (fun _ => rfl)
 have h7 : Sl 3 Seg.cells H9 gb [⟨36, 48, db, [⟨1, 12⟩]⟩] := hS9.ax 6 rfl (fun _ => rfl)
 have h8 : Sl 4 Stp.cells H9 sb [⟨⟨#[97]⟩, 4, 1, gb, [⟨36, 48, db, [⟨1, 12⟩]⟩]⟩] := hS9.ax 7 rfl (fun _ => rfl)
 have h9 : Sl 6 Rk.cells H9 xr (zW 7 2 ya yb) := hS9.ax 8 rfl (fun _ => rfl)
 have h10 : Sl 5 Dvn.cells H9 xd (b6H da ga sa db gb sb) := hS9.ax 9 rfl (fun _ => rfl)
 have h11 : Sl 5 Cpl.cells H9 xc b7y := hS9.ax 10 rfl (fun _ => rfl)
 have hS0 := hS9
 have hG2 := hS0.gl hG
 have hvA : Var H9 A1 4 [.string ⟨#[101]⟩, xr, xd, xc] := hS0.var 11 rfl
 obtain ⟨o, hoe⟩ : ∃ o, o = exW 7 2 ya yb da ga sa db gb sb xr xd xc := ⟨_, rfl⟩
 have ho : o.In H9 := by
  subst hoe
  refine ⟨h9, ?_, h10, ?_, h11, by simp [exW, zW], by simp [exW, b6H], by simp [exW, b7y]⟩
  ·intro r hr
   simp only [exW, zW, ew, ec, or_false] at hr
   rcases hr with rfl | rfl
   ·exact ⟨h1, by simp⟩
   ·exact ⟨h2, by simp⟩
  ·intro d hd
   simp only [exW, b6H, ew, ec, or_false] at hd
   rcases hd with rfl | rfl
   ·exact ⟨h5, fun s hs => by rw [dz.1 hs]; exact ⟨h4, fun g hg => by rw [dz.1 hg]; exact ⟨h3, by simp⟩, by simp⟩, by simp⟩
   ·exact ⟨h8, fun s hs => by rw [dz.1 hs]; exact ⟨h7, fun g hg => by rw [dz.1 hg]; exact ⟨h6, by simp⟩, by simp⟩, by simp⟩
 have hv0 : Var H9 A1 4 [.string o.name, o.rv, o.dv, o.cv] := by rw [hoe]; exact hvA
 have q1 : rkE o rgX ksX = 0 := by subst hoe; exact a8B ..
 have q2 : vB o rgX ksX = 18 := by subst hoe; exact b9j ..
 have q3 : byF o rgX ksX = [14, 4] := by subst hoe; exact c2z ..
 have q4 : grR o rgX = ((0, 36), 9) := by subst hoe; exact c1C ..
 have q5 : mH o rgX = 0 := by subst hoe; exact a4y ..
 have hG1 : ∀ z ∈ [(40 : Int), 41], isN z := fun z hz => by
  simp only [ew, ec, or_false] at hz
  rcases hz with rfl | rfl <;> exact ⟨by decide, by decide⟩
 clear hoe h1 h2 h3 h4 h5 h6 h7 h8 h9 h10 h11 hvA
 refine (sR H9).ag [(.int .u64 1), (.int .u64 1)] c1H c4l rfl rfl (by simp [Value.cells]) rfl rfl (by decide) (by decide) fun w3 H10 hS10 => ?_
 simp only [RT] at hS10
 simp (disch := omega) only [↓RA, RZ, simprocAttr, hn, b3V (hS10.rd 0 rfl).cells]
 refine hS10.eNew 3 [(.slice none 0 0), (.int .u64 0), (.int .u64 0)] rfl rfl rfl oL fun A2 H11 hS11 => ?_
 simp only [RT] at hS11
 simp (disch := omega) only [↓RA, RB, simprocAttr, hn]
 refine hS11.ab 1 rfl [w3, (.int .u64 1), (.int .u64 0)] rfl (by simp [OC, (hS11.rd 0 rfl).cells.2.1]) oL (by simp) fun H12 hS12 => ?_
 simp only [RT] at hS12
 simp (disch := omega) only [↓RA, RB, simprocAttr]
 refine hS12.ag [I 40, I 41] vD a0R rfl rfl (by simp [Value.cells]) rfl rfl (by decide) (by decide) fun w4 H13 hS13 => ?_
 simp only [RT] at hS13
 simp (disch := omega) only [↓RA, RZ, simprocAttr, hn]
 refine hS13.cF (wE [40, 41] hG1 w4 (hS13.ax 2 rfl (fun _ => rfl)) (by simp)) fun H14 hS14 => ?_
 simp (disch := omega) only [↓RA, RZ, simprocAttr, hn]
 refine hS14.eNew 2 [(.int .u64 0), (.int .u64 0)] rfl rfl rfl nA fun A3 H15 hS15 => ?_
 simp only [RT] at hS15
 simp (disch := omega) only [↓RA, RB, simprocAttr, hn]
 refine hS15.ab 3 rfl [(.int .u64 (jT [40, 41]).1), (.int .u64 (jT [40, 41]).2)] rfl rfl nA (by simp) fun H16 hS16 => ?_
 simp only [RT] at hS16
 simp (disch := omega) only [↓RA, RZ, simprocAttr, hn, (hv0.ae hS16.ae).ai, hS16.ai 1 rfl, hS16.ai 3 rfl, b4e]
 refine hS16.ag [(.int .u64 (jT [40, 41]).1), (.int .u64 (jT [40, 41]).2), (.int .u64 0), (.int .u64 0)] a5D b6x rfl rfl (by simp [Value.cells]) rfl rfl (by decide) (by decide) fun w5 H17 hS17 => ?_
 simp only [RT] at hS17
 simp (disch := omega) only [↓RA, RZ, simprocAttr, hn]
 refine hS17.cF (a2d (hS17.gl hG2) o (ho.ae hS17) rgX w3 ⟨hS17.ax 0 rfl (fun _ => rfl), a9o⟩ w5 ksX ⟨hS17.ax 4 rfl (fun _ => rfl), by decide, b6E⟩) fun H18 hS18 => ?_
 rw [q1, q2]
 simp (disch := omega) only [↓RA, RZ, simprocAttr, hn, (hv0.ae hS18.ae).ai, hS18.ai 1 rfl, hS18.ai 3 rfl, b4e]
 refine hS18.ag [(.int .u64 (jT [40, 41]).1), (.int .u64 (jT [40, 41]).2), (.int .u64 0), (.int .u64 0)] a5D b6x rfl rfl (by simp [Value.cells]) rfl rfl (by decide) (by decide) fun w6 H19 hS19 => ?_
 simp only [RT] at hS19
 simp (disch := omega) only [↓RA, RZ, simprocAttr, hn]
 refine iG (a3u (hS19.gl hG2) o (ho.ae hS19) rgX w3 ⟨hS19.ax 0 rfl (fun _ => rfl), a9o⟩ w6 ksX ⟨hS19.ax 5 rfl (fun _ => rfl), by decide, b6E⟩) ?_
 rintro r H20 ⟨bv, rfl, hT6⟩
 have hS20 := hS19.trans hT6
 simp only [RT] at hS20
 rw [q1]
 rw [q3] at hS20
 simp (disch := omega) only [↓RA, RZ, simprocAttr, hn, (hv0.ae hS20.ae).ai, hS20.ai 1 rfl]
 refine hS20.cF (a0w o (ho.ae hS20) rgX w3 ⟨hS20.ax 0 rfl (fun _ => rfl), a9o⟩) fun H21 hS21 => ?_
 rw [q4, q5]
 dsimp only
 simp (disch := omega) only [↓RA, RZ, simprocAttr, hn]
 refine hS21.eNew 2 [I 0, I 0] rfl rfl rfl nV fun A4 H22 hS22 => ?_
 simp only [RT] at hS22
 simp (disch := omega) only [↓RA, RB, simprocAttr, hn]
 refine hS22.ab 7 rfl [I 0, I 36] rfl rfl nV (by simp) fun H23 hS23 => ?_
 simp only [RT] at hS23
 simp (disch := omega) only [↓RA, RZ, simprocAttr, hn]
 refine hS23.ag [I 14, I 4] vD a0R rfl rfl (by simp [Value.cells]) rfl rfl (by decide) (by decide) fun w7 H24 hS24 => ?_
 simp only [RT] at hS24
 simp (disch := omega) only [↓RA, RZ, simprocAttr, hn]
 refine hS24.cF (b3a bv w7 [14, 4] [14, 4] (hS24.ax 6 rfl (fun _ => rfl)) (hS24.ax 8 rfl (fun _ => rfl)) (by simp) (by simp)) fun H25 hS25 => ?_
 rw [decide_eq_true rfl]
 simp (disch := omega) only [↓RA, RZ, simprocAttr, hn, hS25.ai 7 rfl, c0M]
 simp (disch := omega) only [RB, RC, simprocAttr, hn, tR6]
 exact hS0.forget.trans hS25.forget
theorem b6y (o : Org) (ho : o.In H) (hf : o.Fine) : Fn prog 20 [.agg #[.string o.name, o.rv, o.dv, o.cv]] H fun r H' => St prog H H' [⟨r, 2, (qL o vZ).flatMap ntc⟩] := by
 refine .aV func20 rfl (by kernel_rfl) (m := 6) rfl fun l hn g0 => ?_
 simp (disch := omega) only [↓RA, RB, simprocAttr, g0]
 refine (sR H).eNew 4 [(.string o.name), o.rv, o.dv, o.cv] rfl rfl (by simp [OC, ((sR H).sl ho.1).cells.2.1, ((sR H).sl ho.2.2.1).cells.2.1, ((sR H).sl ho.2.2.2.2.1).cells.2.1]) lP fun A1 H1 hS1 => ?_
 simp only [RT] at hS1
 simp (disch := omega) only [↓RA, RZ, simprocAttr, hn, hS1.ai 0 rfl, a8C]
 have hP := a9Z o (ho.ae hS1) hf vZ (fun _ => by unfold vZ; decide)
 have e0 : ∀ i, ((vZ i : Nat) : Int) = 65535 := fun _ => rfl
 rw [e0, e0, e0] at hP
 refine iG (hP.tr) ?_
 rintro r H2 ⟨-, hT1⟩
 have hS2 := hS1.trans hT1
 simp only [RT] at hS2
 obtain ⟨kv, rfl⟩ : ∃ w, w = r := ⟨r, rfl⟩
 simp (disch := omega) only [↓RA, RB, simprocAttr, hn, c6g]
 exact hS2.pick [1] (by decide) rfl
theorem Made.wide {p : Pln} {o : Org} (h : Made p o) : ∀ j, j < o.dvs.length → (iB o.dvs j).hi ≤ (iB o.dvs j).lo + 8 := fun j hj => (h.ok.dvs j hj).wide
end Go.Ds
namespace Go.Ds
open Go
section
variable {P : Program} {H : Heap}
theorem SWr.mono : ∀ (c : Code) {l : List Value} {H : Heap} {M Q : mY}, (∀ e l H, M e l H → Q e l H) → SWr P c l H M → SWr P c l H Q := by
 intro c
 induction c with
 | skip => intro l H M Q hm h; exact hm _ _ _ h
 | label t => intro l H M Q hm h; exact hm _ _ _ h
 | exit id => intro l H M Q hm h; exact hm _ _ _ h
 | ret => intro l H M Q hm h; exact hm _ _ _ h
 | seq a b iha ihb =>
   intro l H M Q hm h
   refine iha ?_ h
   intro e l1 H1 h1
   cases e with
   | normal => exact ihb hm h1
   | exit i => exact hm _ _ _ h1
   | ret => exact hm _ _ _ h1
 | block id b ih =>
   intro l H M Q hm h
   exact ih (fun e l1 H1 h1 => hm _ _ _ h1) h
 | cond c x y ihx ihy =>
   intro l H M Q hm h
   cases c with
   | tmp t => exact wK h (ihx hm) (ihy hm)
   | _ => exact Wp.mono h hm
 | region id ops d =>
   intro l H M Q hm h
   cases d with
   | true => exact Wp.mono h hm
   | false => exact zM (fun l H h => hm _ _ _ h) _ _ _ h
 | _ => intro l H M Q hm h; exact Wp.mono h hm
def b7d (I : List Value → Heap → Prop) (Q : mY) : mY := fun e l1 H1 => match e with | .normal => I l1 H1 | e => Q e l1 H1
theorem jR (I : List Value → Heap → Prop) (Q : mY) (l : List Value) : b7d I Q .normal l H = I l H := rfl
theorem a7W {v : Value} {x y : Code} {l : List Value} {Q : mY} (I : List Value → Heap → Prop) (hm : ∀ l H, I l H → Q .normal l H) (h : pF v (SW P x l H (b7d I Q)) (SW P y l H (b7d I Q))) : pF v (SW P x l H Q) (SW P y l H Q) := by
 have hc : ∀ e l H, b7d I Q e l H → Q e l H := fun e l H h => by
  cases e with
  | normal => exact hm _ _ h
  | exit i => exact h
  | ret => exact h
 exact wK h (SWr.mono x hc) (SWr.mono y hc)
end
end Go.Ds
namespace Go.Ds
open Go.Proofs Go.Proofs.Tryz
variable {H : Heap}
set_option maxRecDepth 10000
set_option maxHeartbeats 2000000
theorem a1g {P : Program} (t t2 : TypeId) (cx cy : Bool) (u x y : UInt8) : kS P .add t t2 cx cy (.string ⟨#[u]⟩) (.string ⟨#[x, y]⟩) = some (.string ⟨#[u, x, y]⟩) := by
 rw [a0G _ _ _ _ _ _ (by show 1 + 2 < 9223372036854775808; decide)]
 rfl
theorem a1B {P : Program} {H : Heap} {s t : TypeId} {v : Value} {n n2 : Int} (h : RdAt H v 1 [.int .u8 n, .int .u8 n2]) (hs : kR P s = true) (ht : nS P t = true) (hbt : kR P t = false) (h0 : 0 ≤ n) (h1 : n < 256) (h2 : 0 ≤ n2) (h3 : n2 < 256) (K : Value → Heap → Prop) :
 rE P s t H v K = K (.string ⟨#[UInt8.ofNat n.toNat, UInt8.ofNat n2.toNat]⟩) H := by
 obtain ⟨m, rfl⟩ : ∃ m : Nat, n = Int.ofNat m := ⟨n.toNat, by simp [eX h0]⟩
 obtain ⟨m2, rfl⟩ : ∃ m : Nat, n2 = Int.ofNat m := ⟨n2.toNat, by simp [eX h2]⟩
 have hm : m < 256 := by have : (m : Int) < 256 := h1; omega
 have hm2 : m2 < 256 := by have : (m2 : Int) < 256 := h3; omega
 rcases h with ⟨_, h⟩ | ⟨A, i, e, row, ty, rw, lo, ver, k, g1, g2, g3, g4, g5, g6, rfl⟩
 ·cases h
 have hk : k = 2 := by simp at g6; omega
 subst hk
 have hc : jA H A i e 2 = some [.int .u8 (Int.ofNat m), .int .u8 (Int.ofNat m2)] := by
  simp only [jA, g1]
  rw [if_pos (by simp at g4 ⊢; omega)]
  exact congrArg some g5
 have hb : mD [.int .u8 (Int.ofNat m), .int .u8 (Int.ofNat m2)] = some ⟨#[UInt8.ofNat m, UInt8.ofNat m2]⟩ := by simp [mD, a0n, xL, hm, hm2]
 have hd : opD P ⟨none, .convert s t (.const (.slice (some ⟨A, i, some e⟩) 2 1)), t, "", #[], none⟩ [] H = some (.string ⟨#[UInt8.ofNat m, UInt8.ofNat m2]⟩, H) := by
  have hf : flat (.slice (some ⟨A, i, some e⟩) 2 1) = false := rfl
  simp only [opD, ev, hf, hs, ht, hc, hb, fw, dR, if_false, Bool.and_self, if_true, cW, dM]
 unfold rE
 rw [hd]
 apply propext
 constructor
 ·rintro ⟨v, H1, h2, h3⟩
  injection (cV h2) with e1 e2
  subst e1 e2
  exact h3
 ·intro h3
  exact ⟨_, _, rfl, h3⟩
def c3E : List ByteArray := [⟨#[]⟩, ⟨#[55]⟩, ⟨#[97, 32, 98]⟩, ⟨#[70, 105, 110, 101]⟩]
def b7q : List ByteArray := [⟨#[]⟩, ⟨#[82, 48]⟩, ⟨#[82, 57]⟩]
def c4A : List ByteArray := [⟨#[]⟩, ⟨#[68, 48]⟩, ⟨#[68, 49]⟩, ⟨#[83, 111, 108, 111]⟩]
def b8s : List ByteArray := [⟨#[]⟩, ⟨#[83, 49]⟩, ⟨#[84]⟩, ⟨#[83, 50]⟩]
def b1k : List ByteArray := [⟨#[]⟩, ⟨#[67, 48]⟩, ⟨#[68, 48]⟩]
def c3q : List (Int × Int) := [(-1, 40), (50, 40), (0, 128), (0, 127)]
def nbn (H0 : Heap) (vs : List Value) : Nat → Prop := fun B => nb vs B ∧ H0.length ≤ B
structure ChgI (o : Org) (H0 H : Heap) (X : Nat → Prop) (rv : Value) (rks : List Rk) (dvs : List Dvn) (cv : Value) (cps : List Cpl) (d : Dvn) : Prop where
 rs : Slx 6 Rk.cells H X rv rks
 ri : ∀ G, o.In G → ∀ r ∈ rks, r.In G
 rl : rks.length < 1000000000
 di : ∀ G, o.In G → ∀ e ∈ dvs, e.In G
 dl : dvs.length ≤ 20
 cs : Slx 5 Cpl.cells H X cv cps
 cl : cps.length < 1000000000
 ss : Slx 4 Stp.cells H X d.sv d.stops
 si : ∀ G, o.In G → ∀ s ∈ d.stops, s.In G
 sl : d.stops.length < 1000000000
 rp : ∀ r ∈ rks, ∃ q ∈ o.ranks, r.num = q.num ∧ r.den = q.den ∧ r.first = q.first
structure OrgN (H0 H : Heap) (o o' : Org) : Prop where
 rs : Slx 6 Rk.cells H (fun B => H0.length ≤ B) o'.rv o'.ranks
 ri : ∀ G, o.In G → ∀ r ∈ o'.ranks, r.In G
 rl : o'.ranks.length < 1000000000
 ds : Slx 5 Dvn.cells H (fun B => H0.length ≤ B) o'.dv o'.dvs
 di : ∀ e ∈ o'.dvs, (∀ G, o.In G → e.In G) ∨ (Slx 4 Stp.cells H (fun B => H0.length ≤ B) e.sv e.stops ∧ (∀ G, o.In G → ∀ s ∈ e.stops, s.In G) ∧ e.stops.length < 1000000000)
 dl : o'.dvs.length ≤ 20
 cs : Slx 5 Cpl.cells H (fun B => H0.length ≤ B) o'.cv o'.cpls
 cl : o'.cpls.length < 1000000000
 rp : ∀ r ∈ o'.ranks, ∃ q ∈ o.ranks, r.num = q.num ∧ r.den = q.den ∧ r.first = q.first
theorem OrgN.cT {P : Program} {Hb H1 H2 H3 : Heap} {B : Base} {os os3 : List Ob} {o o' : Org} (h : OrgN H1 H2 o o') (ho : o.In Hb) (hp : St P Hb H1 os) (h2 : St P Hb H2 os) (hB : B = ⟨H2, pM os⟩) (hE : St P B H3 os3) : o'.In H3 := by
 have hU := h2.ak hB hE
 have hK := hE.kept hB
 refine ⟨((h.rs.step hp.aJ).step hK).1, fun r hr => (h.ri Hb ho r hr).ae hU, ((h.ds.step hp.aJ).step hK).1, fun e he => ?_, ((h.cs.step hp.aJ).step hK).1, h.rl, by have := h.dl; omega, h.cl⟩
 rcases h.di e he with g | ⟨g1, g2, g3⟩
 ·exact (g Hb ho).ae hU
 ·exact ⟨((g1.step hp.aJ).step hK).1, fun s hs => (g2 Hb ho s hs).ae hU, g3⟩
theorem a5H {H0 : Heap} {A1 A3 A4 : Nat} {c1 c3 c4 : List Value} {dv wr wc ws : Value} {dvs : List Dvn} {rks : List Rk} {cps : List Cpl} {sts : List Stp}
 (hS : St prog H0 H [⟨ptr A1 0 4, 0, c1⟩, ⟨ptr A3 0 4, 0, c3⟩, ⟨dv, 5, dvs.flatMap Dvn.cells⟩, ⟨ptr A4 0 5, 0, c4⟩, ⟨wr, 6, rks.flatMap Rk.cells⟩, ⟨wc, 5, cps.flatMap Cpl.cells⟩, ⟨ws, 4, sts.flatMap Stp.cells⟩]) :
 Slx 6 Rk.cells H (nbn H0 [ptr A1 0 4, ptr A3 0 4, dv, ptr A4 0 5]) wr rks ∧ Slx 5 Cpl.cells H (nbn H0 [ptr A1 0 4, ptr A3 0 4, dv, ptr A4 0 5]) wc cps ∧ Slx 4 Stp.cells H (nbn H0 [ptr A1 0 4, ptr A3 0 4, dv, ptr A4 0 5]) ws sts ∧
  St prog H0 H [⟨ptr A1 0 4, 0, c1⟩, ⟨ptr A3 0 4, 0, c3⟩, ⟨dv, 5, dvs.flatMap Dvn.cells⟩, ⟨ptr A4 0 5, 0, c4⟩] :=
 ⟨⟨(hS.cg (os' := [⟨ptr A1 0 4, 0, c1⟩, ⟨ptr A3 0 4, 0, c3⟩, ⟨dv, 5, dvs.flatMap Dvn.cells⟩, ⟨ptr A4 0 5, 0, c4⟩]) 4 rfl (fun _ => rfl) [0, 1, 2, 3] (by decide) rfl).1, fun B hb => ⟨(hS.cg (os' := [⟨ptr A1 0 4, 0, c1⟩, ⟨ptr A3 0 4, 0, c3⟩, ⟨dv, 5, dvs.flatMap Dvn.cells⟩, ⟨ptr A4 0 5, 0, c4⟩]) 4 rfl (fun _ => rfl) [0, 1, 2, 3] (by decide) rfl).2 B hb, (hS.bS 4 rfl (fun _ => rfl)).2 B hb⟩⟩,
  ⟨(hS.cg (os' := [⟨ptr A1 0 4, 0, c1⟩, ⟨ptr A3 0 4, 0, c3⟩, ⟨dv, 5, dvs.flatMap Dvn.cells⟩, ⟨ptr A4 0 5, 0, c4⟩]) 5 rfl (fun _ => rfl) [0, 1, 2, 3] (by decide) rfl).1, fun B hb => ⟨(hS.cg (os' := [⟨ptr A1 0 4, 0, c1⟩, ⟨ptr A3 0 4, 0, c3⟩, ⟨dv, 5, dvs.flatMap Dvn.cells⟩, ⟨ptr A4 0 5, 0, c4⟩]) 5 rfl (fun _ => rfl) [0, 1, 2, 3] (by decide) rfl).2 B hb, (hS.bS 5 rfl (fun _ => rfl)).2 B hb⟩⟩,
  ⟨(hS.cg (os' := [⟨ptr A1 0 4, 0, c1⟩, ⟨ptr A3 0 4, 0, c3⟩, ⟨dv, 5, dvs.flatMap Dvn.cells⟩, ⟨ptr A4 0 5, 0, c4⟩]) 6 rfl (fun _ => rfl) [0, 1, 2, 3] (by decide) rfl).1, fun B hb => ⟨(hS.cg (os' := [⟨ptr A1 0 4, 0, c1⟩, ⟨ptr A3 0 4, 0, c3⟩, ⟨dv, 5, dvs.flatMap Dvn.cells⟩, ⟨ptr A4 0 5, 0, c4⟩]) 6 rfl (fun _ => rfl) [0, 1, 2, 3] (by decide) rfl).2 B hb, (hS.bS 6 rfl (fun _ => rfl)).2 B hb⟩⟩,
  hS.pick [0, 1, 2, 3] (by decide) rfl⟩
theorem mB {o : Org} {H0 : Heap} {A1 A3 A4 : Nat} {c3 : List Value} {nm nd : ByteArray} {pd : Bool} {lo hi : Int} {dv wr wc ws : Value} {dvs : List Dvn} {rks : List Rk} {cps : List Cpl} {sts : List Stp}
 (hS : St prog H0 H [⟨ptr A1 0 4, 0, [.string nm, wr, dv, wc]⟩, ⟨ptr A3 0 4, 0, c3⟩, ⟨dv, 5, dvs.flatMap Dvn.cells⟩, ⟨ptr A4 0 5, 0, [.string nd, .bool pd, I lo, I hi, ws]⟩, ⟨wr, 6, rks.flatMap Rk.cells⟩, ⟨wc, 5, cps.flatMap Cpl.cells⟩, ⟨ws, 4, sts.flatMap Stp.cells⟩])
 (ri : ∀ G, o.In G → ∀ r ∈ rks, r.In G) (rl : rks.length < 1000000000) (di : ∀ G, o.In G → ∀ e ∈ dvs, e.In G) (dl : dvs.length ≤ 20) (cl : cps.length < 1000000000) (si : ∀ G, o.In G → ∀ s ∈ sts, s.In G) (sl : sts.length < 1000000000) (rp : ∀ r ∈ rks, ∃ q ∈ o.ranks, r.num = q.num ∧ r.den = q.den ∧ r.first = q.first) :
 ∃ nm rv rks dv dvs cv cps d, ChgI o H0 H (nbn H0 [ptr A1 0 4, ptr A3 0 4, dv, ptr A4 0 5]) rv rks dvs cv cps d ∧
   St prog H0 H [⟨ptr A1 0 4, 0, [.string nm, rv, dv, cv]⟩, ⟨ptr A3 0 4, 0, c3⟩, ⟨dv, 5, dvs.flatMap Dvn.cells⟩, ⟨ptr A4 0 5, 0, [.string d.name, .bool d.pedal, I d.lo, I d.hi, d.sv]⟩] := by
 obtain ⟨a, b, c, e⟩ := a5H hS
 exact ⟨nm, wr, rks, dv, dvs, wc, cps, ⟨nd, pd, lo, hi, ws, sts⟩, ⟨a, ri, rl, di, dl, b, cl, c, si, sl, rp⟩, e⟩
theorem a1X {α : Type} {l : List α} {i : Nat} {x : α} {p : α → Prop} (h : ∀ y ∈ l, p y) (hx : p x) : ∀ y ∈ l.set i x, p y := fun y hy => by
 rcases List.mem_or_eq_of_mem_set hy with hy | rfl
 ·exact h y hy
 ·exact hx
theorem b0z {o : Org} {H0 H1 H2 : Heap} {B : Base} {A1 A3 A4 : Nat} {dv rv cv : Value} {c1 c3 c4 d1 d3 d4 : List Value} {nm : ByteArray} {rks : List Rk} {dvs ys : List Dvn} {cps : List Cpl} {d : Dvn}
 (hC : ChgI o H0 H1 (nbn H0 [ptr A1 0 4, ptr A3 0 4, dv, ptr A4 0 5]) rv rks dvs cv cps d)
 (hS : St prog H0 H1 [⟨ptr A1 0 4, 0, c1⟩, ⟨ptr A3 0 4, 0, c3⟩, ⟨dv, 5, dvs.flatMap Dvn.cells⟩, ⟨ptr A4 0 5, 0, c4⟩])
 (hB : B = ⟨H1, pM [⟨ptr A1 0 4, 0, c1⟩, ⟨ptr A3 0 4, 0, c3⟩, ⟨dv, 5, dvs.flatMap Dvn.cells⟩, ⟨ptr A4 0 5, 0, c4⟩]⟩)
 (hE : St prog B H2 [⟨ptr A1 0 4, 0, d1⟩, ⟨ptr A3 0 4, 0, d3⟩, ⟨dv, 5, ys.flatMap Dvn.cells⟩, ⟨ptr A4 0 5, 0, d4⟩])
 (hy : ∀ y ∈ ys, y ∈ dvs ∨ y = d) (hyl : ys.length ≤ 20) :
 OrgN H0 H2 o ⟨nm, rv, rks, dv, ys, cv, cps⟩ ∧ St prog H0 H2 [] := by
 have hK : Kept H1 (nbn H0 [ptr A1 0 4, ptr A3 0 4, dv, ptr A4 0 5]) H2 (fun B => H0.length ≤ B) := fun B hX hl => ⟨(hE.kept hB B hX.1 hl).1, hX.2⟩
 have hU := hS.ak hB hE
 refine ⟨⟨hC.rs.step hK, hC.ri, hC.rl, hU.bS 2 rfl (fun _ => rfl), fun y hy' => ?_, hyl, hC.cs.step hK, hC.cl, hC.rp⟩, hU.forget⟩
 rcases hy y hy' with h | rfl
 ·exact Or.inl fun G hG => hC.di G hG y h
 ·exact Or.inr ⟨hC.ss.step hK, hC.si, hC.sl⟩
theorem a9d (o : Org) (ho : o.In H) (hr0 : 0 < o.ranks.length) (hr : o.ranks.length ≤ 60) (hd0 : 0 < o.dvs.length) (hd : o.dvs.length ≤ 8) (hs : ∀ j, j < o.dvs.length → (iB o.dvs j).stops.length ≤ 60) (hc : o.cpls.length ≤ 40) (ka aa : Nat) (hka : ka < 256) (haa : aa < 256) :
 Fn prog 25 [.agg #[.string o.name, o.rv, o.dv, o.cv], .agg #[.int .u8 ka, .int .u8 aa]] H fun r H' => ∃ o' : Org, r = .agg #[.string o'.name, o'.rv, o'.dv, o'.cv] ∧ OrgN H H' o o' ∧ St prog H H' [] := by
 have hlr : (o.ranks.flatMap Rk.cells).length = o.ranks.length * 6 := iI (n := 6) (fun _ => rfl) _
 have hld : (o.dvs.flatMap Dvn.cells).length = o.dvs.length * 5 := iI (n := 5) (fun _ => rfl) _
 have hlc : (o.cpls.flatMap Cpl.cells).length = o.cpls.length * 5 := iI (n := 5) (fun _ => rfl) _
 refine .aM func25 rfl (by kernel_rfl) (m := 275) rfl fun l hn g0 g1 => ?_
 simp (disch := omega) only [↓RA, RB, simprocAttr, g0]
 refine (sR H).eNew 4 [(.string o.name), o.rv, o.dv, o.cv] rfl rfl (by simp [OC, ((sR H).sl ho.1).cells.2.1, ((sR H).sl ho.2.2.1).cells.2.1, ((sR H).sl ho.2.2.2.2.1).cells.2.1]) lP fun A1 H1 hS1 => ?_
 simp only [RT] at hS1
 simp (disch := omega) only [↓RA, RB, simprocAttr, g1]
 refine hS1.eNew 2 [(.int .u8 ka), (.int .u8 aa)] rfl rfl rfl c0L fun A2 H2 hS2 => ?_
 simp only [RT] at hS2
 simp (disch := omega) only [↓RA, RZ, simprocAttr]
 refine hS2.eNew 4 [(.string ⟨#[]⟩), (.slice none 0 0), (.slice none 0 0), (.slice none 0 0)] rfl rfl rfl lP fun A3 H3 hS3 => ?_
 simp only [RT] at hS3
 simp (disch := omega) only [↓RA, simprocAttr]
 refine hS3.aZ a9z fun w1 H4 hS4 => ?_
 simp only [RT] at hS4
 simp (disch := omega) only [↓RA, RZ, simprocAttr, hn, hS4.ld 0 rfl]
 refine hS4.al 3 rfl (hS4.sl ho.1).rd a9z (by simp only [dA]; omega) fun w2 H5 hS5 => ?_
 simp only [RT] at hS5
 simp (disch := omega) only [↓RA, RZ, simprocAttr, hn]
 refine hS5.ab 0 rfl [w2] (by rw [(hS5.rd 3 rfl).cells.1]) (by simp [(hS5.rd 3 rfl).cells.2.1]) b4G (by simp) fun H6 hS6 => ?_
 simp only [RT] at hS6
 simp (disch := omega) only [↓RA, simprocAttr]
 refine hS6.aZ a8a fun w3 H7 hS7 => ?_
 simp only [RT] at hS7
 simp (disch := omega) only [↓RA, RZ, simprocAttr, hn]
 simp (disch := omega) only [↓RA, RZ, simprocAttr, hn, hS7.ld 0 rfl]
 refine hS7.al 4 rfl (hS7.sl ho.2.2.1).rd a8a (by simp only [dA]; omega) fun w4 H8 hS8 => ?_
 simp only [RT] at hS8
 simp (disch := omega) only [↓RA, RZ, simprocAttr, hn]
 refine hS8.ab 0 rfl [w4] (by rw [(hS8.rd 4 rfl).cells.1]) (by simp [(hS8.rd 4 rfl).cells.2.1]) b6o (by simp) fun H9 hS9 => ?_
 simp only [RT] at hS9
 simp (disch := omega) only [↓RA, simprocAttr]
 refine hS9.aZ yS fun w5 H10 hS10 => ?_
 simp only [RT] at hS10
 simp (disch := omega) only [↓RA, RZ, simprocAttr, hn]
 simp (disch := omega) only [↓RA, RZ, simprocAttr, hn, hS10.ld 0 rfl]
 refine hS10.al 5 rfl (hS10.sl ho.2.2.2.2.1).rd yS (by simp only [dA]; omega) fun w6 H11 hS11 => ?_
 simp only [RT] at hS11
 simp (disch := omega) only [↓RA, RZ, simprocAttr, hn]
 obtain ⟨i, hi⟩ : ∃ i, i = aa % o.ranks.length := ⟨_, rfl⟩
 obtain ⟨k, hk⟩ : ∃ k, k = aa % o.dvs.length := ⟨_, rfl⟩
 have hil : i < o.ranks.length := by rw [hi]; exact eF _ hr0
 have hkl : k < o.dvs.length := by rw [hk]; exact eF _ hd0
 have e1 : (aa : Int).tmod (o.ranks.length : Int) = (i : Int) := by rw [hi]; exact (dP _ _).symm
 have e2 : (aa : Int).tmod (o.dvs.length : Int) = (k : Int) := by rw [hk]; exact (dP _ _).symm
 have e3 : (ka : Int).tmod 16 = ((ka % 16 : Nat) : Int) := (dP _ _).symm
 have hsk := hs k hkl
 have hls : ((iB o.dvs k).stops.flatMap Stp.cells).length = (iB o.dvs k).stops.length * 4 := iI (n := 4) (fun _ => rfl) _
 refine hS11.ab 0 rfl [w6] (by rw [(hS11.rd 5 rfl).cells.1]) (by simp [(hS11.rd 5 rfl).cells.2.1]) a9M (by simp) fun H12 hS12 => ?_
 simp only [RT] at hS12
 simp (disch := omega) only [↓RA, RB, simprocAttr]
 refine Wp.drw kE (by kernel_rfl) ?_
 simp (disch := omega) only [↓RA, RZ, simprocAttr, hn, hS12.ld 1 rfl, hS12.ld 0 rfl, (hS12.ax 3 rfl (fun _ => rfl)).len, (hS12.ax 4 rfl (fun _ => rfl)).len, e1, e2]
 simp (disch := omega) only [↓RA, RZ, simprocAttr, hn, (hS12.ax 4 rfl (fun _ => rfl)).idx, (hS12.ax 4 rfl (fun _ => rfl)).ai, Dvn.cells]
 refine hS12.eNew 5 [(.string ⟨#[]⟩), (.bool false), I 0, I 0, (.slice none 0 0)] rfl rfl rfl uB fun A4 H13 hS13 => ?_
 simp only [RT] at hS13
 simp (disch := omega) only [↓RA, RB, simprocAttr, hn]
 refine hS13.ab 6 rfl [(.string (iB o.dvs k).name), (.bool (iB o.dvs k).pedal), I (iB o.dvs k).lo, I (iB o.dvs k).hi, (iB o.dvs k).sv] rfl (by simp [OC, (hS13.sl (ho.2.2.2.1 (iB o.dvs k) (iE (by omega))).1).cells.2.1]) uB (by simp) fun H14 hS14 => ?_
 simp only [RT] at hS14
 simp (disch := omega) only [↓RA, simprocAttr]
 refine hS14.aZ a8e fun w7 H15 hS15 => ?_
 simp only [RT] at hS15
 simp (disch := omega) only [↓RA, RZ, simprocAttr, hn, hS15.ld 6 rfl]
 refine hS15.al 7 rfl (hS15.sl (ho.2.2.2.1 (iB o.dvs k) (iE (by omega))).1).rd a8e (by simp only [dA]; omega) fun w8 H16 hS16 => ?_
 simp only [RT] at hS16
 simp (disch := omega) only [↓RA, RZ, simprocAttr, hn]
 refine hS16.ab 6 rfl [w8] (by rw [(hS16.rd 7 rfl).cells.1]) (by simp [(hS16.rd 7 rfl).cells.2.1]) b8G (by simp) fun H17 hS17 => ?_
 simp only [RT] at hS17
 simp (disch := omega) only [↓RA, RZ, simprocAttr, hn, hS17.ld 1 rfl, e3]
 have f4 : (aa : Int).tmod 4 = ((aa % 4 : Nat) : Int) := (dP _ _).symm
 have f3 : (aa : Int).tmod 3 = ((aa % 3 : Nat) : Int) := (dP _ _).symm
 have f2 : (aa : Int).tmod 2 = ((aa % 2 : Nat) : Int) := (dP _ _).symm
 have f5 : (aa : Int).tmod 5 = ((aa % 5 : Nat) : Int) := (dP _ _).symm
 have x4 : aa % 4 < 4 := eF _ (by decide)
 have x3 : aa % 3 < 3 := eF _ (by decide)
 have x2 : aa % 2 < 2 := eF _ (by decide)
 have hci : Sl 5 Cpl.cells H o.cv o.cpls := ho.2.2.2.2.1
 have hdi := ho.2.2.2.1
 have hdk := hdi _ (iE hkl)
 have GP : ∀ r ∈ o.ranks, ∃ q ∈ o.ranks, r.num = q.num ∧ r.den = q.den ∧ r.first = q.first := fun r h => ⟨r, h, rfl, rfl, rfl⟩
 have GR : ∀ G, o.In G → ∀ r ∈ o.ranks, r.In G := fun _ hG => hG.2.1
 have GD : ∀ G, o.In G → ∀ e ∈ o.dvs, e.In G := fun _ hG => hG.2.2.2.1
 have GS : ∀ G, o.In G → ∀ s ∈ (iB o.dvs k).stops, s.In G := fun G hG => (GD G hG _ (iE hkl)).2.1
 have hS18 : St prog H H17 [⟨ptr A1 0 4, 0, _⟩, ⟨ptr A2 0 2, 0, _⟩, ⟨ptr A3 0 4, 0, _⟩, ⟨w2, 6, o.ranks.flatMap Rk.cells⟩, ⟨w4, 5, _⟩, ⟨w6, 5, _⟩, ⟨ptr A4 0 5, 0, _⟩, ⟨w8, 4, _⟩] := hS17
 have hS19 : St prog H H17 [⟨ptr A1 0 4, 0, _⟩, ⟨ptr A2 0 2, 0, _⟩, ⟨ptr A3 0 4, 0, _⟩, ⟨w2, 6, _⟩, ⟨w4, 5, o.dvs.flatMap Dvn.cells⟩, ⟨w6, 5, _⟩, ⟨ptr A4 0 5, 0, _⟩, ⟨w8, 4, _⟩] := hS18
 have hS20 : St prog H H17 [⟨ptr A1 0 4, 0, _⟩, ⟨ptr A2 0 2, 0, _⟩, ⟨ptr A3 0 4, 0, _⟩, ⟨w2, 6, _⟩, ⟨w4, 5, _⟩, ⟨w6, 5, o.cpls.flatMap Cpl.cells⟩, ⟨ptr A4 0 5, 0, _⟩, ⟨w8, 4, _⟩] := hS19
 have hS21 : St prog H H17 [⟨ptr A1 0 4, 0, _⟩, ⟨ptr A2 0 2, 0, _⟩, ⟨ptr A3 0 4, 0, _⟩, ⟨w2, 6, _⟩, ⟨w4, 5, _⟩, ⟨w6, 5, _⟩, ⟨ptr A4 0 5, 0, _⟩, ⟨w8, 4, (iB o.dvs k).stops.flatMap Stp.cells⟩] := hS20
 refine a7W (fun l H' => l.length = 275 ∧ get l 2 = (ptr A1 0 4) ∧ get l 4 = (ptr A3 0 4) ∧ get l 6 = I k ∧ get l 7 = (ptr A4 0 5) ∧ ∃ (nm : ByteArray) (rv : Value) (rks : List Rk) (dv : Value) (dvs : List Dvn) (cv : Value) (cps : List Cpl) (d : Dvn), (ChgI o H H' (nbn H [ptr A1 0 4, ptr A3 0 4, dv, ptr A4 0 5]) rv rks dvs cv cps d) ∧ St prog H H' [⟨ptr A1 0 4, 0, [.string nm, rv, dv, cv]⟩, ⟨ptr A3 0 4, 0, [(.string ⟨#[]⟩), (.slice none 0 0), (.slice none 0 0), (.slice none 0 0)]⟩, ⟨dv, 5, dvs.flatMap Dvn.cells⟩, ⟨ptr A4 0 5, 0, [.string d.name, .bool d.pedal, I d.lo, I d.hi, d.sv]⟩]) ?_ ?_
 ·rintro l H18 ⟨hn, g2, g4, g6, g7, nm, rv, rks, dv, dvs, cv, cps, d, hC, hS22⟩
  have hdl9 := hC.dl
  obtain ⟨BX, hBBX, hS23⟩ := hS22.aB (os := [⟨ptr A1 0 4, 0, _⟩, ⟨ptr A3 0 4, 0, _⟩, ⟨dv, 5, _⟩, ⟨ptr A4 0 5, 0, _⟩])
  simp (disch := omega) only [↓RA, RZ, simprocAttr, hn, g2, g6, hS23.ld 0 rfl, (hS23.ax 2 rfl (fun _ => rfl)).len]
  refine iA (fun hkd => ?_) (fun hkd => ?_)
  ·have hkd2 : k < dvs.length := by omega
   simp (disch := omega) only [↓RA, RZ, simprocAttr, hn, g2, g6, g7, hS23.ld 0 rfl, hS23.ai 3 rfl, (hS23.ax 2 rfl (fun _ => rfl)).idx, hkd]
   refine hS23.aG 2 rfl [(.string d.name), (.bool d.pedal), I d.lo, I d.hi, d.sv] rfl (by simp [OC, (hC.ss.1.cells).2.1]) uB (by simp) (by rw [iI (n := 5) (cel := Dvn.cells) (fun _ => rfl)]; simp only [dy, dA]; omega) fun H19 hS24 => ?_
   simp only [RT] at hS24
   simp (disch := omega) only [↓RA, RZ, simprocAttr, hn, g2, g4, hS24.ai 0 rfl, hkd]
   refine hS24.ab 1 rfl [(.string nm), rv, dv, cv] rfl (by simp [OC, (hC.rs.1.cells).2.1, (hS24.rd 2 rfl).cells.2.1, (hC.cs.1.cells).2.1]) lP (by simp) fun H20 hS25 => ?_
   simp only [RT] at hS25
   simp (disch := omega) only [↓RA, RZ, simprocAttr, g4, c3T, hS25.ai 1 rfl, hkd]
   have hset : (((((dvs.flatMap Dvn.cells).set (k * 5) (.string d.name)).set (k * 5 + 1) (.bool d.pedal)).set (k * 5 + 1 + 1) (I d.lo)).set (k * 5 + 1 + 1 + 1) (I d.hi)).set (k * 5 + 1 + 1 + 1 + 1) d.sv = (dvs.set k d).flatMap Dvn.cells := by
    rw [← mQ ((((((_ : List Value).set (k * 5) _).set (k * 5 + 1) _).set (k * 5 + 1 + 1) _).set (k * 5 + 1 + 1 + 1) _).set (k * 5 + 1 + 1 + 1 + 1) _) (k * 5 + 1 + 1 + 1 + 1 + 1), ← jI, ← jI, ← jI, ← jI, ← jI]
    exact rX (n := 5) (cel := Dvn.cells) (fun _ => rfl) dvs k 0 [_, _, _, _, _] d hkd2 (by simp) rfl
   rw [hset] at hS25
   obtain ⟨h8, h9⟩ := b0z (nm := nm) hC hS22 hBBX hS25 (fun y hy => by
    rcases List.mem_or_eq_of_mem_set hy with h | h
    ·exact Or.inl h
    ·exact Or.inr h) (by rw [fz]; exact hC.dl)
   exact ⟨_, rfl, h8, h9⟩
  simp (disch := omega) only [↓RA, RZ, simprocAttr, hn, g2, g4, hS23.ai 0 rfl, hkd]
  refine hS23.ab 1 rfl [(.string nm), rv, dv, cv] rfl (by simp [OC, (hC.rs.1.cells).2.1, (hS23.rd 2 rfl).cells.2.1, (hC.cs.1.cells).2.1]) lP (by simp) fun H21 hS26 => ?_
  simp only [RT] at hS26
  simp (disch := omega) only [↓RA, RZ, simprocAttr, g4, c3T, hS26.ai 1 rfl, hkd]
  obtain ⟨h8, h9⟩ := b0z (nm := nm) hC hS22 hBBX hS26 (fun y hy => Or.inl hy) hC.dl
  exact ⟨_, rfl, h8, h9⟩
 have tl1 : c3E.length = 4 := rfl
 have tl3 : b7q.length = 3 := rfl
 have tl7 : c4A.length = 4 := rfl
 have tl8 : c3q.length = 4 := rfl
 have tl9 : b8s.length = 4 := rfl
 have tl13 : b1k.length = 3 := rfl
 have hrI := iE hil
 refine iA (fun k1 => ?_) (fun k1 => ?_)
 ·simp (disch := omega) only [↓RA, RB, simprocAttr, jR]
  refine hS21.ag [(.string ⟨#[]⟩), (.string ⟨#[55]⟩), (.string ⟨#[97, 32, 98]⟩), (.string ⟨#[70, 105, 110, 101]⟩)] a3O a3b rfl rfl (by simp [Value.cells]) rfl rfl (by decide) (by decide) fun w9 H22 hS27 => ?_
  simp only [RT] at hS27
  simp (disch := omega) only [↓RA, RZ, simprocAttr, hn, k1]
  have hS28 : St prog H H22 [⟨ptr A1 0 4, 0, _⟩, ⟨ptr A2 0 2, 0, _⟩, ⟨ptr A3 0 4, 0, _⟩, ⟨w2, 6, _⟩, ⟨w4, 5, _⟩, ⟨w6, 5, _⟩, ⟨ptr A4 0 5, 0, _⟩, ⟨w8, 4, _⟩, ⟨w9, 1, c3E.flatMap (one Value.string)⟩] := hS27
  simp (disch := omega) only [↓RA, RZ, simprocAttr, hn, hS28.ld 1 rfl, (hS28.ax 8 rfl (lM _)).idx, (hS28.ax 8 rfl (lM _)).ld, one, f4, k1]
  refine hS28.ab 0 rfl [_] rfl rfl tS9 (by simp) fun H23 hS29 => ?_
  simp only [RT] at hS29
  simp (disch := omega) only [↓RA, RZ, simprocAttr, hn, k1]
  exact mB (hS29.pick [0, 2, 4, 6, 3, 5, 7] (by decide) rfl) GR ho.2.2.2.2.2.1 GD (by omega) ho.2.2.2.2.2.2.2 GS hdk.2.2 GP
 simp (disch := omega) only [↓RA, RZ, simprocAttr, hn, k1]
 refine iA (fun k2 => ?_) (fun k2 => ?_)
 ·skip
  simp (disch := omega) only [↓RA, RZ, simprocAttr, hn, hS21.ld 0 rfl, (hS21.ax 3 rfl (fun _ => rfl)).idx, (hS21.ax 3 rfl (fun _ => rfl)).bf, jR, k2]
  refine hS21.aG 3 rfl [(.slice none 0 0)] rfl rfl a9S (by simp) (by rw [hlr]; simp only [dy, dA]; omega) fun H24 hS30 => ?_
  simp only [RT] at hS30
  simp (disch := omega) only [↓RA, RZ, simprocAttr, hn, k2]
  have hset : (o.ranks.flatMap Rk.cells).set (i * (5 + 1) + 5) (.slice none 0 0) = (o.ranks.set i { iB o.ranks i with wv := .slice none 0 0, wind := [] }).flatMap Rk.cells := by
   rw [← mQ ((_ : List Value).set (i * (5 + 1) + 5) _) (i * (5 + 1) + 5 + 1), ← jI]
   exact rX (n := 6) (cel := Rk.cells) (fun _ => rfl) o.ranks i 5 [_] _ hil (by simp) rfl
  rw [hset] at hS30
  exact mB (hS30.pick [0, 2, 4, 6, 3, 5, 7] (by decide) rfl) (fun G hG => a1X (GR G hG) ⟨⟨.inl ⟨rfl, rfl⟩, lM _, by decide⟩, (by decide : (0 : Nat) < 1000000000)⟩) (by rw [fz]; exact ho.2.2.2.2.2.1) GD (by omega) ho.2.2.2.2.2.2.2 GS hdk.2.2 (a1X GP ⟨iB o.ranks i, hrI, rfl, rfl, rfl⟩)
 simp (disch := omega) only [↓RA, RZ, simprocAttr, hn, k1, k2]
 refine iA (fun k3 => ?_) (fun k3 => ?_)
 ·skip
  simp (disch := omega) only [↓RA, RZ, simprocAttr, k3]
  refine Wp.aQ kE [(1, 4), (5, 0)] (by kernel_rfl) (by kernel_rfl) ?_
  simp (disch := omega) only [↓RA, RZ, simprocAttr, hn, hS21.ld 0 rfl, jR]
  refine hS21.ag [(.string ⟨#[]⟩), (.string ⟨#[82, 48]⟩), (.string ⟨#[82, 57]⟩)] a3O a3b rfl rfl (by simp [Value.cells]) rfl rfl (by decide) (by decide) fun w10 H25 hS31 => ?_
  simp only [RT] at hS31
  simp (disch := omega) only [↓RA, RZ, simprocAttr, hn]
  have hS32 : St prog H H25 [⟨ptr A1 0 4, 0, _⟩, ⟨ptr A2 0 2, 0, _⟩, ⟨ptr A3 0 4, 0, _⟩, ⟨w2, 6, _⟩, ⟨w4, 5, _⟩, ⟨w6, 5, _⟩, ⟨ptr A4 0 5, 0, _⟩, ⟨w8, 4, _⟩, ⟨w10, 1, b7q.flatMap (one Value.string)⟩] := hS31
  simp (disch := omega) only [↓RA, RZ, simprocAttr, hn, hS32.ld 1 rfl, (hS32.ax 8 rfl (lM _)).idx, (hS32.ax 8 rfl (lM _)).ld, one, (hS32.ax 3 rfl (fun _ => rfl)).idx, (hS32.ax 3 rfl (fun _ => rfl)).bf, f3]
  refine hS32.aG 3 rfl [_] rfl rfl tS9 (by simp) (by rw [hlr]; simp only [dy, dA]; omega) fun H26 hS33 => ?_
  simp only [RT] at hS33
  simp (disch := omega) only [↓RA, RZ, simprocAttr, hn, hS32.ld 0 rfl, hS21.ld 1 rfl]
  have hset : (o.ranks.flatMap Rk.cells).set (i * (5 + 1)) (.string (iB b7q (aa % 3))) = (o.ranks.set i { iB o.ranks i with name := iB b7q (aa % 3) }).flatMap Rk.cells := by
   rw [← mQ ((_ : List Value).set (i * (5 + 1)) _) (i * (5 + 1) + 1), ← jI]
   exact rX (n := 6) (cel := Rk.cells) (fun _ => rfl) o.ranks i 0 [_] _ hil (by simp) rfl
  rw [hset] at hS33
  exact mB (hS33.pick [0, 2, 4, 6, 3, 5, 7] (by decide) rfl) (fun G hG => a1X (GR G hG) (show Rk.In G _ from GR G hG (iB o.ranks i) hrI)) (by rw [fz]; exact ho.2.2.2.2.2.1) GD (by omega) ho.2.2.2.2.2.2.2 GS hdk.2.2 (a1X GP ⟨iB o.ranks i, hrI, rfl, rfl, rfl⟩)
 simp (disch := omega) only [↓RA, RZ, simprocAttr, hn, k1, k2, k3]
 refine iA (fun k4 => ?_) (fun k4 => ?_)
 ·simp (disch := omega) only [↓RA, RZ, simprocAttr, k4]
  refine Wp.ar (fun n l H' => l.length = 275 ∧ get l 2 = (ptr A1 0 4) ∧ get l 3 = (ptr A2 0 2) ∧ get l 4 = (ptr A3 0 4) ∧ get l 6 = I k ∧ get l 7 = (ptr A4 0 5) ∧ ∃ (wr : Value) (rks : List Rk), (n + rks.length = 100 ∧ 0 < rks.length ∧ rks.length ≤ 61 ∧ (∀ G, o.In G → ∀ r ∈ rks, r.In G) ∧ (∀ r ∈ rks, ∃ q ∈ o.ranks, r.num = q.num ∧ r.den = q.den ∧ r.first = q.first)) ∧ St prog H H' [⟨ptr A1 0 4, 0, [.string o.name, wr, w4, w6]⟩, ⟨ptr A2 0 2, 0, [(.int .u8 ka), (.int .u8 aa)]⟩, ⟨ptr A3 0 4, 0, [(.string ⟨#[]⟩), (.slice none 0 0), (.slice none 0 0), (.slice none 0 0)]⟩, ⟨wr, 6, rks.flatMap Rk.cells⟩, ⟨w4, 5, o.dvs.flatMap Dvn.cells⟩, ⟨w6, 5, o.cpls.flatMap Cpl.cells⟩, ⟨ptr A4 0 5, 0, [(.string (iB o.dvs k).name), (.bool (iB o.dvs k).pedal), I (iB o.dvs k).lo, I (iB o.dvs k).hi, w8]⟩, ⟨w8, 4, (iB o.dvs k).stops.flatMap Stp.cells⟩]) (100 - o.ranks.length) ?_ ?_
  ·simp (disch := omega) only [RB, RC, simprocAttr, hn]
   exact ⟨_, o.ranks, ⟨by omega, hr0, by omega, GR, GP⟩, hS21⟩
  rintro n l H27 ⟨hn, g2, g3, g4, g6, g7, wr, rks, hj, hS34⟩
  obtain ⟨j1, j2, j3, J4, J5⟩ := hj
  have j4 := J4 H ho
  have hlk : (rks.flatMap Rk.cells).length = rks.length * 6 := iI (n := 6) (fun _ => rfl) _
  simp (disch := omega) only [↓RA, RZ, simprocAttr, hn, g2, g3, hS34.ld 0 rfl, (hS34.ax 3 rfl (fun _ => rfl)).len, hS34.ld 1 rfl, f2]
  refine iA (fun q => ?_) (fun q => ?_)
  ·have q1 : (rks.length : Int).tdiv 10 = ((rks.length / 10 : Nat) : Int) := (Int.ofNat_tdiv _ _).symm
   have q2 : (rks.length : Int).tmod 10 = ((rks.length % 10 : Nat) : Int) := (dP _ _).symm
   simp (disch := omega) only [↓RA, RZ, simprocAttr, hn, g2, hS34.ld 0 rfl, (hS34.ax 3 rfl (fun _ => rfl)).idx, (hS34.ax 3 rfl (fun _ => rfl)).ai, Rk.cells, q]
   refine hS34.eNew 6 [(.string ⟨#[]⟩), (.string ⟨#[]⟩), I 0, I 0, I 0, (.slice none 0 0)] rfl rfl rfl yM fun A5 H28 hS35 => ?_
   simp only [RT] at hS35
   simp (disch := omega) only [↓RA, RZ, simprocAttr, hn, q]
   refine hS35.ab 8 rfl [(.string (iB rks 0).name), (.string (iB rks 0).tone), I (iB rks 0).num, I (iB rks 0).den, I (iB rks 0).first, (iB rks 0).wv] rfl (by simp [OC, (hS35.sl (j4 (iB rks 0) (iE (by omega))).1).cells.2.1]) yM (by simp) fun H29 hS36 => ?_
   simp only [RT] at hS36
   simp (disch := omega) only [↓RA, RZ, simprocAttr, hn, g2, hS36.ld 0 rfl, (hS36.ax 3 rfl (fun _ => rfl)).len, q, q1, q2]
   refine hS36.ag [_, _] a7X a7K rfl rfl (by simp [Value.cells]) rfl rfl (by decide) (by decide) fun w11 H30 hS37 => ?_
   simp only [RT] at hS37
   simp (disch := omega) only [↓RA, RZ, simprocAttr, hn, a1B (hS37.rd 9 rfl) lQ.1 lQ.2.1 lQ.2.2, q, a1g]
   refine hS37.ab 8 rfl [_] rfl rfl tS9 (by simp) fun H31 hS38 => ?_
   simp only [RT] at hS38
   simp (disch := omega) only [↓RA, RZ, simprocAttr, hn, g2, q]
   simp (disch := omega) only [↓RA, RZ, simprocAttr, hn, hS38.ld 0 rfl, hS38.ai 8 rfl, q]
   refine hS38.ag [(.string ⟨#[88, UInt8.ofNat (48 + ((rks.length / 10 : Nat) : Int)).toNat, UInt8.ofNat (48 + ((rks.length % 10 : Nat) : Int)).toNat]⟩), (.string (iB rks 0).tone), I (iB rks 0).num, I (iB rks 0).den, I (iB rks 0).first, (iB rks 0).wv] a9z c0q rfl rfl (by first | (simp []; done) | simp [Value.cells]) (by first | (simp []; done) | simp [Value.cells]) (by simp [OC, (hS38.sl (j4 (iB rks 0) (iE (by omega))).1).cells.2.1]) (by decide) (by decide) fun w12 H32 hS39 => ?_
   simp only [RT] at hS39
   simp (disch := omega) only [↓RA, RZ, simprocAttr, hn, q]
   refine hS39.al 3 rfl (hS39.rd 10 rfl) a9z (by rw [hlk]; simp only [dy, dA]; omega) fun w13 H33 hS40 => ?_
   simp only [RT] at hS40
   simp (disch := omega) only [↓RA, RZ, simprocAttr, hn, g2, q]
   refine hS40.ab 0 rfl [w13] (by rw [(hS40.rd 3 rfl).cells.1]) (by simp [(hS40.rd 3 rfl).cells.2.1]) b4G (by simp) fun H34 hS41 => ?_
   simp only [RT] at hS41
   simp (disch := omega) only [↓RA, RZ, simprocAttr, hn, g2, g3, g4, g6, g7, q]
   have happ : rks.flatMap Rk.cells ++ [.string ⟨#[88, UInt8.ofNat (48 + ((rks.length / 10 : Nat) : Int)).toNat, UInt8.ofNat (48 + ((rks.length % 10 : Nat) : Int)).toNat]⟩, .string (iB rks 0).tone, I (iB rks 0).num, I (iB rks 0).den, I (iB rks 0).first, (iB rks 0).wv] = (rks ++ [{ iB rks 0 with name := ⟨#[88, UInt8.ofNat (48 + ((rks.length / 10 : Nat) : Int)).toNat, UInt8.ofNat (48 + ((rks.length % 10 : Nat) : Int)).toNat]⟩ }]).flatMap Rk.cells := by rw [dG]; rfl
   rw [happ] at hS41
   exact ⟨n - 1, by omega, w13, rks ++ [_], ⟨by rw [dp]; simp only [dy, dA]; omega, by rw [dp]; omega, by rw [dp]; simp only [dy, dA]; omega, fun G hG r hr => by
    rcases dI.1 hr with h | h
    ·exact J4 G hG r h
    ·rw [dz.1 h]
     exact (show Rk.In G _ from J4 G hG (iB rks 0) (iE j2)), fun r hr => by
    rcases dI.1 hr with h | h
    ·exact J5 r h
    ·rw [dz.1 h]
     exact J5 (iB rks 0) (iE j2)⟩, hS41.pick [0, 1, 2, 3, 4, 5, 6, 7] (by decide) rfl⟩
  simp (disch := omega) only [↓RA, RZ, simprocAttr, hn, g2, g4, g6, g7, jR, q]
  exact mB (hS34.pick [0, 2, 4, 6, 3, 5, 7] (by decide) rfl) J4 (by omega) GD (by omega) ho.2.2.2.2.2.2.2 GS hdk.2.2 J5
 simp (disch := omega) only [↓RA, RZ, simprocAttr, hn, k1, k2, k3, k4]
 refine iA (fun k5 => ?_) (fun k5 => ?_)
 ·simp (disch := omega) only [↓RA, RZ, simprocAttr, hn, jR, k5]
  refine hS21.ab 0 rfl [(.slice none 0 0)] rfl rfl b6o (by simp) fun H35 hS42 => ?_
  simp only [RT] at hS42
  simp (disch := omega) only [↓RA, RZ, simprocAttr, hn, k5]
  have hN := hS42.nil 4
  exact mB (hN.pick [0, 2, 8, 6, 3, 5, 7] (by decide) rfl) GR ho.2.2.2.2.2.1 (dvs := []) (fun _ _ e he => by cases he) (eL _) ho.2.2.2.2.2.2.2 GS hdk.2.2 GP
 simp (disch := omega) only [↓RA, RZ, simprocAttr, hn, k1, k2, k3, k4, k5]
 refine iA (fun k6 => ?_) (fun k6 => ?_)
 ·simp (disch := omega) only [↓RA, RZ, simprocAttr, k6]
  refine Wp.ar (fun n l H' => l.length = 275 ∧ get l 2 = (ptr A1 0 4) ∧ get l 3 = (ptr A2 0 2) ∧ get l 4 = (ptr A3 0 4) ∧ get l 6 = I k ∧ get l 7 = (ptr A4 0 5) ∧ ∃ (wd : Value) (ds : List Dvn), (n + ds.length = 100 ∧ ds.length ≤ 9 ∧ (∀ G, o.In G → ∀ e ∈ ds, e.In G)) ∧ St prog H H' [⟨ptr A1 0 4, 0, [.string o.name, w2, wd, w6]⟩, ⟨ptr A2 0 2, 0, [(.int .u8 ka), (.int .u8 aa)]⟩, ⟨ptr A3 0 4, 0, [(.string ⟨#[]⟩), (.slice none 0 0), (.slice none 0 0), (.slice none 0 0)]⟩, ⟨w2, 6, o.ranks.flatMap Rk.cells⟩, ⟨wd, 5, ds.flatMap Dvn.cells⟩, ⟨w6, 5, o.cpls.flatMap Cpl.cells⟩, ⟨ptr A4 0 5, 0, [(.string (iB o.dvs k).name), (.bool (iB o.dvs k).pedal), I (iB o.dvs k).lo, I (iB o.dvs k).hi, w8]⟩, ⟨w8, 4, (iB o.dvs k).stops.flatMap Stp.cells⟩]) (100 - o.dvs.length) ?_ ?_
  ·simp (disch := omega) only [RB, RC, simprocAttr, hn]
   exact ⟨_, o.dvs, ⟨by omega, by omega, GD⟩, hS21⟩
  rintro n l H36 ⟨hn, g2, g3, g4, g6, g7, wd, ds, hj, hS43⟩
  obtain ⟨j1, j3, J4⟩ := hj
  have j4 := J4 H ho
  have hlk : (ds.flatMap Dvn.cells).length = ds.length * 5 := iI (n := 5) (fun _ => rfl) _
  simp (disch := omega) only [↓RA, RZ, simprocAttr, hn, g2, g3, hS43.ld 0 rfl, (hS43.ax 4 rfl (fun _ => rfl)).len, hS43.ld 1 rfl, f2]
  refine iA (fun q => ?_) (fun q => ?_)
  ·skip
   simp (disch := omega) only [↓RA, RZ, simprocAttr, hn, g2, hS43.ld 0 rfl, (hS43.ax 4 rfl (fun _ => rfl)).len, q]
   refine hS43.ag [_] a7X a7K rfl rfl (by simp [Value.cells]) rfl rfl (by decide) (by decide) fun w14 H37 hS44 => ?_
   simp only [RT] at hS44
   simp (disch := omega) only [↓RA, RZ, simprocAttr, hn, rN (hS44.rd 8 rfl) lQ.1 lQ.2.1 lQ.2.2, qT, q]
   simp (disch := omega) only [↓RA, RZ, simprocAttr, hn, c1F, q]
   refine hS44.ag [(.string ⟨#[69, UInt8.ofNat (48 + (ds.length : Int)).toNat]⟩), (.bool false), I 0, I 0, (.slice none 0 0)] a8a c1e rfl rfl (by simp [Value.cells]) rfl rfl (by decide) (by decide) fun w15 H38 hS45 => ?_
   simp only [RT] at hS45
   simp (disch := omega) only [↓RA, RZ, simprocAttr, hn, q]
   refine hS45.al 4 rfl (hS45.rd 9 rfl) a8a (by rw [hlk]; simp only [dy, dA]; omega) fun w16 H39 hS46 => ?_
   simp only [RT] at hS46
   simp (disch := omega) only [↓RA, RZ, simprocAttr, hn, g2, q]
   refine hS46.ab 0 rfl [w16] (by rw [(hS46.rd 4 rfl).cells.1]) (by simp [(hS46.rd 4 rfl).cells.2.1]) b6o (by simp) fun H40 hS47 => ?_
   simp only [RT] at hS47
   simp (disch := omega) only [↓RA, RZ, simprocAttr, hn, g2, g3, g4, g6, g7, q]
   have happ : ds.flatMap Dvn.cells ++ [.string ⟨#[69, UInt8.ofNat (48 + (ds.length : Int)).toNat]⟩, .bool false, I 0, I 0, .slice none 0 0] = (ds ++ [(⟨⟨#[69, UInt8.ofNat (48 + (ds.length : Int)).toNat]⟩, false, 0, 0, .slice none 0 0, []⟩ : Dvn)]).flatMap Dvn.cells := by rw [dG]; rfl
   rw [happ] at hS47
   exact ⟨n - 1, by omega, w16, ds ++ [_], ⟨by rw [dp]; simp only [dy, dA]; omega, by rw [dp]; simp only [dy, dA]; omega, fun G hG e he => by
    rcases dI.1 he with h | h
    ·exact J4 G hG e h
    ·rw [dz.1 h]
     exact ⟨⟨.inl ⟨rfl, rfl⟩, fun _ => rfl, by decide⟩, (fun s hs => by cases hs), (by decide : (0 : Nat) < 1000000000)⟩⟩, hS47.pick [0, 1, 2, 3, 4, 5, 6, 7] (by decide) rfl⟩
  simp (disch := omega) only [↓RA, RZ, simprocAttr, hn, g2, g4, g6, g7, jR, q]
  exact mB (hS43.pick [0, 2, 4, 6, 3, 5, 7] (by decide) rfl) GR ho.2.2.2.2.2.1 J4 (by omega) ho.2.2.2.2.2.2.2 GS hdk.2.2 GP
 simp (disch := omega) only [↓RA, RZ, simprocAttr, hn, k1, k2, k3, k4, k5, k6]
 refine iA (fun k7 => ?_) (fun k7 => ?_)
 ·simp (disch := omega) only [↓RA, RB, simprocAttr, jR]
  refine hS21.ag [(.string ⟨#[]⟩), (.string ⟨#[68, 48]⟩), (.string ⟨#[68, 49]⟩), (.string ⟨#[83, 111, 108, 111]⟩)] a3O a3b rfl rfl (by simp [Value.cells]) rfl rfl (by decide) (by decide) fun w17 H41 hS48 => ?_
  simp only [RT] at hS48
  simp (disch := omega) only [↓RA, RZ, simprocAttr, hn, k7]
  have hS49 : St prog H H41 [⟨ptr A1 0 4, 0, _⟩, ⟨ptr A2 0 2, 0, _⟩, ⟨ptr A3 0 4, 0, _⟩, ⟨w2, 6, _⟩, ⟨w4, 5, _⟩, ⟨w6, 5, _⟩, ⟨ptr A4 0 5, 0, _⟩, ⟨w8, 4, _⟩, ⟨w17, 1, c4A.flatMap (one Value.string)⟩] := hS48
  simp (disch := omega) only [↓RA, RZ, simprocAttr, hn, hS49.ld 1 rfl, (hS49.ax 8 rfl (lM _)).idx, (hS49.ax 8 rfl (lM _)).ld, one, f4, k7]
  refine hS49.ab 6 rfl [_] rfl rfl tS9 (by simp) fun H42 hS50 => ?_
  simp only [RT] at hS50
  simp (disch := omega) only [↓RA, RZ, simprocAttr, hn, k7]
  exact mB (hS50.pick [0, 2, 4, 6, 3, 5, 7] (by decide) rfl) GR ho.2.2.2.2.2.1 GD (by omega) ho.2.2.2.2.2.2.2 GS hdk.2.2 GP
 simp (disch := omega) only [↓RA, RZ, simprocAttr, hn, k1, k2, k3, k4, k5, k6, k7]
 refine iA (fun k8 => ?_) (fun k8 => ?_)
 ·simp (disch := omega) only [↓RA, RZ, simprocAttr, hn, a1n, jR, k8]
  refine hS21.ag [I (-1), I 40, I 50, I 40, I 0, I 128, I 0, I 127] b3E b9L rfl rfl (by simp [Value.cells]) rfl rfl (by decide) (by decide) fun w18 H43 hS51 => ?_
  simp only [RT] at hS51
  simp (disch := omega) only [↓RA, RZ, simprocAttr, hn, k8]
  have hS52 : St prog H H43 [⟨ptr A1 0 4, 0, _⟩, ⟨ptr A2 0 2, 0, _⟩, ⟨ptr A3 0 4, 0, _⟩, ⟨w2, 6, _⟩, ⟨w4, 5, _⟩, ⟨w6, 5, _⟩, ⟨ptr A4 0 5, 0, _⟩, ⟨w8, 4, _⟩, ⟨w18, 2, c3q.flatMap kC⟩] := hS51
  simp (disch := omega) only [↓RA, RZ, simprocAttr, hn, hS52.ld 1 rfl, (hS52.ax 8 rfl kZ).idx, (hS52.ax 8 rfl kZ).ai, kC, f4, k8]
  refine hS52.ab 6 rfl [_, _] rfl rfl yX (by simp) fun H44 hS53 => ?_
  simp only [RT] at hS53
  simp (disch := omega) only [↓RA, RZ, simprocAttr, hn, k8]
  exact mB (hS53.pick [0, 2, 4, 6, 3, 5, 7] (by decide) rfl) GR ho.2.2.2.2.2.1 GD (by omega) ho.2.2.2.2.2.2.2 GS hdk.2.2 GP
 simp (disch := omega) only [↓RA, RZ, simprocAttr, hn, k1, k2, k3, k4, k5, k6, k7, k8]
 refine iA (fun k9 => ?_) (fun k9 => ?_)
 ·simp (disch := omega) only [↓RA, RZ, simprocAttr, hn, hS21.ld 6 rfl, (hS21.ax 7 rfl (fun _ => rfl)).len, k9]
  refine iA (fun p9 => ?_) (fun p9 => ?_)
  ·simp (disch := omega) only [↓RA, RZ, simprocAttr, hn, hS21.ld 6 rfl, (hS21.ax 7 rfl (fun _ => rfl)).idx, (hS21.ax 7 rfl (fun _ => rfl)).ai, Stp.cells, k9, p9]
   refine hS21.eNew 4 [(.string ⟨#[]⟩), I 0, I 0, (.slice none 0 0)] rfl rfl rfl mM fun A6 H45 hS54 => ?_
   simp only [RT] at hS54
   simp (disch := omega) only [↓RA, RZ, simprocAttr, hn, k9, p9]
   refine hS54.ab 8 rfl [(.string (iB (iB o.dvs k).stops 0).name), I (iB (iB o.dvs k).stops 0).num, I (iB (iB o.dvs k).stops 0).den, (iB (iB o.dvs k).stops 0).gv] rfl (by simp [OC, (hS54.sl ((ho.2.2.2.1 _ (iE hkl)).2.1 (iB (iB o.dvs k).stops 0) (iE (by omega))).1).cells.2.1]) mM (by simp) fun H46 hS55 => ?_
   simp only [RT] at hS55
   simp (disch := omega) only [↓RA, RB, simprocAttr]
   refine hS55.ag [(.string ⟨#[]⟩), (.string ⟨#[83, 49]⟩), (.string ⟨#[84]⟩), (.string ⟨#[83, 50]⟩)] a3O a3b rfl rfl (by simp [Value.cells]) rfl rfl (by decide) (by decide) fun w19 H47 hS56 => ?_
   simp only [RT] at hS56
   simp (disch := omega) only [↓RA, RZ, simprocAttr, hn, k9, p9]
   have hS57 : St prog H H47 [⟨ptr A1 0 4, 0, _⟩, ⟨ptr A2 0 2, 0, _⟩, ⟨ptr A3 0 4, 0, _⟩, ⟨w2, 6, _⟩, ⟨w4, 5, _⟩, ⟨w6, 5, _⟩, ⟨ptr A4 0 5, 0, _⟩, ⟨w8, 4, _⟩, ⟨ptr A6 0 4, 0, _⟩, ⟨w19, 1, b8s.flatMap (one Value.string)⟩] := hS56
   simp (disch := omega) only [↓RA, RZ, simprocAttr, hn, hS57.ld 1 rfl, (hS57.ax 9 rfl (lM _)).idx, (hS57.ax 9 rfl (lM _)).ld, one, f4, k9, p9]
   refine hS57.ab 8 rfl [_] rfl rfl tS9 (by simp) fun H48 hS58 => ?_
   simp only [RT] at hS58
   simp (disch := omega) only [↓RA, RZ, simprocAttr, hn, hS58.ld 6 rfl, hS58.ai 8 rfl, (hS58.ax 7 rfl (fun _ => rfl)).idx, jR, k9, p9]
   refine hS58.aG 7 rfl [_, I (iB (iB o.dvs k).stops 0).num, I (iB (iB o.dvs k).stops 0).den, (iB (iB o.dvs k).stops 0).gv] rfl (by simp [OC, (hS58.sl ((ho.2.2.2.1 _ (iE hkl)).2.1 (iB (iB o.dvs k).stops 0) (iE (by omega))).1).cells.2.1]) mM (by simp) (by rw [hls]; simp only [dy, dA]; omega) fun H49 hS59 => ?_
   simp only [RT] at hS59
   simp (disch := omega) only [↓RA, RZ, simprocAttr, hn, k9, p9]
   have hset : (((((iB o.dvs k).stops.flatMap Stp.cells).set (0 * 4) (.string (iB b8s (aa % 4)))).set (0 * 4 + 1) (I (iB (iB o.dvs k).stops 0).num)).set (0 * 4 + 1 + 1) (I (iB (iB o.dvs k).stops 0).den)).set (0 * 4 + 1 + 1 + 1) (iB (iB o.dvs k).stops 0).gv = ((iB o.dvs k).stops.set 0 { iB (iB o.dvs k).stops 0 with name := iB b8s (aa % 4) }).flatMap Stp.cells := by
    rw [← mQ (((((_ : List Value).set (0 * 4) _).set (0 * 4 + 1) _).set (0 * 4 + 1 + 1) _).set (0 * 4 + 1 + 1 + 1) _) (0 * 4 + 1 + 1 + 1 + 1), ← jI, ← jI, ← jI, ← jI]
    exact rX (n := 4) (cel := Stp.cells) (fun _ => rfl) (iB o.dvs k).stops 0 0 [_, _, _, _] _ (by omega) (by simp) rfl
   rw [hset] at hS59
   exact mB (hS59.pick [0, 2, 4, 6, 3, 5, 7] (by decide) rfl) GR ho.2.2.2.2.2.1 GD (by omega) ho.2.2.2.2.2.2.2 (fun G hG => a1X (GS G hG) (show Stp.In G _ from GS G hG (iB (iB o.dvs k).stops 0) (iE (by omega)))) (by rw [fz]; exact hdk.2.2) GP
  simp (disch := omega) only [↓RA, RZ, simprocAttr, hn, jR, k9, p9]
  exact mB (hS21.pick [0, 2, 4, 6, 3, 5, 7] (by decide) rfl) GR ho.2.2.2.2.2.1 GD (by omega) ho.2.2.2.2.2.2.2 GS hdk.2.2 GP
 simp (disch := omega) only [↓RA, RZ, simprocAttr, hn, k1, k2, k3, k4, k5, k6, k7, k8, k9]
 refine iA (fun k10 => ?_) (fun k10 => ?_)
 ·simp (disch := omega) only [↓RA, RZ, simprocAttr, hn, hS21.ld 6 rfl, (hS21.ax 7 rfl (fun _ => rfl)).len, k10]
  refine iA (fun p10 => ?_) (fun p10 => ?_)
  ·simp (disch := omega) only [↓RA, RZ, simprocAttr, k10, p10]
   refine Wp.ar (fun n l H' => l.length = 275 ∧ get l 2 = (ptr A1 0 4) ∧ get l 3 = (ptr A2 0 2) ∧ get l 4 = (ptr A3 0 4) ∧ get l 6 = I k ∧ get l 7 = (ptr A4 0 5) ∧ ∃ (wz : Value) (sts : List Stp), (n + sts.length = 100 ∧ 0 < sts.length ∧ sts.length ≤ 61 ∧ (∀ G, o.In G → ∀ s ∈ sts, s.In G)) ∧ St prog H H' [⟨ptr A1 0 4, 0, [(.string o.name), w2, w4, w6]⟩, ⟨ptr A2 0 2, 0, [(.int .u8 ka), (.int .u8 aa)]⟩, ⟨ptr A3 0 4, 0, [(.string ⟨#[]⟩), (.slice none 0 0), (.slice none 0 0), (.slice none 0 0)]⟩, ⟨w2, 6, o.ranks.flatMap Rk.cells⟩, ⟨w4, 5, o.dvs.flatMap Dvn.cells⟩, ⟨w6, 5, o.cpls.flatMap Cpl.cells⟩, ⟨ptr A4 0 5, 0, [.string (iB o.dvs k).name, .bool (iB o.dvs k).pedal, I (iB o.dvs k).lo, I (iB o.dvs k).hi, wz]⟩, ⟨wz, 4, sts.flatMap Stp.cells⟩]) (100 - (iB o.dvs k).stops.length) ?_ ?_
   ·simp (disch := omega) only [RB, RC, simprocAttr, hn]
    exact ⟨_, (iB o.dvs k).stops, ⟨by omega, by omega, by omega, GS⟩, hS21⟩
   rintro n l H50 ⟨hn, g2, g3, g4, g6, g7, wz, sts, hj, hS60⟩
   obtain ⟨j1, j2, j3, J4⟩ := hj
   have j4 := J4 H ho
   have hlk : (sts.flatMap Stp.cells).length = sts.length * 4 := iI (n := 4) (fun _ => rfl) _
   simp (disch := omega) only [↓RA, RZ, simprocAttr, hn, g3, g7, hS60.ld 6 rfl, (hS60.ax 7 rfl (fun _ => rfl)).len, hS60.ld 1 rfl, f2]
   refine iA (fun q => ?_) (fun q => ?_)
   ·have q1 : (sts.length : Int).tdiv 10 = ((sts.length / 10 : Nat) : Int) := (Int.ofNat_tdiv _ _).symm
    have q2 : (sts.length : Int).tmod 10 = ((sts.length % 10 : Nat) : Int) := (dP _ _).symm
    simp (disch := omega) only [↓RA, RZ, simprocAttr, hn, g7, hS60.ld 6 rfl, (hS60.ax 7 rfl (fun _ => rfl)).idx, (hS60.ax 7 rfl (fun _ => rfl)).ai, Stp.cells, q]
    refine hS60.eNew 4 [(.string ⟨#[]⟩), I 0, I 0, (.slice none 0 0)] rfl rfl rfl mM fun A7 H51 hS61 => ?_
    simp only [RT] at hS61
    simp (disch := omega) only [↓RA, RZ, simprocAttr, hn, q]
    refine hS61.ab 8 rfl [(.string (iB sts 0).name), I (iB sts 0).num, I (iB sts 0).den, (iB sts 0).gv] rfl (by simp [OC, (hS61.sl (j4 (iB sts 0) (iE (by omega))).1).cells.2.1]) mM (by simp) fun H52 hS62 => ?_
    simp only [RT] at hS62
    simp (disch := omega) only [↓RA, RZ, simprocAttr, hn, g7, hS62.ld 6 rfl, (hS62.ax 7 rfl (fun _ => rfl)).len, q, q1, q2]
    refine hS62.ag [_, _] a7X a7K rfl rfl (by simp [Value.cells]) rfl rfl (by decide) (by decide) fun w20 H53 hS63 => ?_
    simp only [RT] at hS63
    simp (disch := omega) only [↓RA, RZ, simprocAttr, hn, a1B (hS63.rd 9 rfl) lQ.1 lQ.2.1 lQ.2.2, q, a1g]
    refine hS63.ab 8 rfl [_] rfl rfl tS9 (by simp) fun H54 hS64 => ?_
    simp only [RT] at hS64
    simp (disch := omega) only [↓RA, RZ, simprocAttr, hn, g7, q]
    simp (disch := omega) only [↓RA, RZ, simprocAttr, hn, hS64.ld 6 rfl, hS64.ai 8 rfl, q]
    refine hS64.ag [(.string ⟨#[89, UInt8.ofNat (48 + ((sts.length / 10 : Nat) : Int)).toNat, UInt8.ofNat (48 + ((sts.length % 10 : Nat) : Int)).toNat]⟩), I (iB sts 0).num, I (iB sts 0).den, (iB sts 0).gv] a8e c1u rfl rfl (by first | (simp []; done) | simp [Value.cells]) (by first | (simp []; done) | simp [Value.cells]) (by simp [OC, (hS64.sl (j4 (iB sts 0) (iE (by omega))).1).cells.2.1]) (by decide) (by decide) fun w21 H55 hS65 => ?_
    simp only [RT] at hS65
    simp (disch := omega) only [↓RA, RZ, simprocAttr, hn, q]
    refine hS65.al 7 rfl (hS65.rd 10 rfl) a8e (by rw [hlk]; simp only [dy, dA]; omega) fun w22 H56 hS66 => ?_
    simp only [RT] at hS66
    simp (disch := omega) only [↓RA, RZ, simprocAttr, hn, g7, q]
    refine hS66.ab 6 rfl [w22] (by rw [(hS66.rd 7 rfl).cells.1]) (by simp [(hS66.rd 7 rfl).cells.2.1]) b8G (by simp) fun H57 hS67 => ?_
    simp only [RT] at hS67
    simp (disch := omega) only [↓RA, RZ, simprocAttr, hn, g2, g3, g4, g6, g7, q]
    have happ : sts.flatMap Stp.cells ++ [.string ⟨#[89, UInt8.ofNat (48 + ((sts.length / 10 : Nat) : Int)).toNat, UInt8.ofNat (48 + ((sts.length % 10 : Nat) : Int)).toNat]⟩, I (iB sts 0).num, I (iB sts 0).den, (iB sts 0).gv] = (sts ++ [{ iB sts 0 with name := ⟨#[89, UInt8.ofNat (48 + ((sts.length / 10 : Nat) : Int)).toNat, UInt8.ofNat (48 + ((sts.length % 10 : Nat) : Int)).toNat]⟩ }]).flatMap Stp.cells := by rw [dG]; rfl
    rw [happ] at hS67
    exact ⟨n - 1, by omega, w22, sts ++ [_], ⟨by rw [dp]; simp only [dy, dA]; omega, by rw [dp]; omega, by rw [dp]; simp only [dy, dA]; omega, fun G hG s hs => by
     rcases dI.1 hs with h | h
     ·exact J4 G hG s h
     ·rw [dz.1 h]
      exact (show Stp.In G _ from J4 G hG (iB sts 0) (iE j2))⟩, hS67.pick [0, 1, 2, 3, 4, 5, 6, 7] (by decide) rfl⟩
   simp (disch := omega) only [↓RA, RZ, simprocAttr, hn, g2, g4, g6, g7, jR, q]
   exact mB (hS60.pick [0, 2, 4, 6, 3, 5, 7] (by decide) rfl) GR ho.2.2.2.2.2.1 GD (by omega) ho.2.2.2.2.2.2.2 J4 (by omega) GP
  simp (disch := omega) only [↓RA, RZ, simprocAttr, hn, jR, k10, p10]
  exact mB (hS21.pick [0, 2, 4, 6, 3, 5, 7] (by decide) rfl) GR ho.2.2.2.2.2.1 GD (by omega) ho.2.2.2.2.2.2.2 GS hdk.2.2 GP
 simp (disch := omega) only [↓RA, RZ, simprocAttr, hn, k1, k2, k3, k4, k5, k6, k7, k8, k9, k10]
 refine iA (fun k11 => ?_) (fun k11 => ?_)
 ·simp (disch := omega) only [↓RA, RZ, simprocAttr, hn, hS21.ld 0 rfl, (hS21.ax 3 rfl (fun _ => rfl)).aR, jR, k11]
  refine hS21.ab 0 rfl [(mK w2 6 0 i)] (by rw [((hS21.ax 3 rfl (fun _ => rfl)).bP i (by omega) (by omega)).cells.1]) (by simp [((hS21.ax 3 rfl (fun _ => rfl)).bP i (by omega) (by omega)).cells.2.1]) b4G (by simp) fun H58 hS68 => ?_
  simp only [RT] at hS68
  simp (disch := omega) only [↓RA, RZ, simprocAttr, hn, k11]
  obtain ⟨ca, cb, cc, ce⟩ := a5H (hS68.pick [0, 2, 4, 6, 3, 5, 7] (by decide) rfl)
  exact ⟨o.name, _, o.ranks.take i, _, o.dvs, _, o.cpls, ⟨_, _, _, _, w8, (iB o.dvs k).stops⟩, ⟨⟨ca.1.bP i (by omega) (by omega), fun b hb => ca.2 b (xP hb)⟩, fun G hG r hr => GR G hG r (gy hr), (by rw [fN]; omega), GD, (by omega), cb, ho.2.2.2.2.2.2.2, cc, GS, hdk.2.2, fun r hr => GP r (gy hr)⟩, ce⟩
 simp (disch := omega) only [↓RA, RZ, simprocAttr, hn, k1, k2, k3, k4, k5, k6, k7, k8, k9, k10, k11]
 refine iA (fun k12 => ?_) (fun k12 => ?_)
 ·skip
  simp (disch := omega) only [↓RA, RZ, simprocAttr, hn, hS21.ld 0 rfl, hS21.ld 1 rfl, a5y, jR, f5, k12]
  refine hS21.ag [(.string ⟨#[67, 57]⟩), _, I 0, I 1, (.bool false)] yS b2I rfl rfl (by simp [Value.cells]) rfl rfl (by decide) (by decide) fun w23 H59 hS69 => ?_
  simp only [RT] at hS69
  simp (disch := omega) only [↓RA, RZ, simprocAttr, hn, k12]
  refine hS69.al 5 rfl (hS69.rd 8 rfl) yS (by rw [hlc]; simp only [dy, dA]; omega) fun w24 H60 hS70 => ?_
  simp only [RT] at hS70
  simp (disch := omega) only [↓RA, RZ, simprocAttr, hn, k12]
  refine hS70.ab 0 rfl [w24] (by rw [(hS70.rd 5 rfl).cells.1]) (by simp [(hS70.rd 5 rfl).cells.2.1]) a9M (by simp) fun H61 hS71 => ?_
  simp only [RT] at hS71
  simp (disch := omega) only [↓RA, RZ, simprocAttr, hn, k12]
  have happ : o.cpls.flatMap Cpl.cells ++ [.string ⟨#[67, 57]⟩, I ((aa % 5 : Nat) : Int), I 0, I 1, .bool false] = (o.cpls ++ [(⟨⟨#[67, 57]⟩, ((aa % 5 : Nat) : Int), 0, 1, false⟩ : Cpl)]).flatMap Cpl.cells := by rw [dG]; rfl
  rw [happ] at hS71
  exact mB (hS71.pick [0, 2, 4, 6, 3, 5, 7] (by decide) rfl) GR ho.2.2.2.2.2.1 GD (by omega) (by rw [dp]; simp only [dy, dA]; omega) GS hdk.2.2 GP
 simp (disch := omega) only [↓RA, RZ, simprocAttr, hn, k1, k2, k3, k4, k5, k6, k7, k8, k9, k10, k11, k12]
 refine iA (fun k13 => ?_) (fun k13 => ?_)
 ·skip
  simp (disch := omega) only [↓RA, RZ, simprocAttr, k13]
  refine Wp.aQ kE [(1, 3), (1, 10), (4, 0)] (by kernel_rfl) (by kernel_rfl) ?_
  simp (disch := omega) only [↓RA, RZ, simprocAttr, hn, hS21.ld 0 rfl, jR]
  refine hS21.ag [(.string ⟨#[]⟩), (.string ⟨#[67, 48]⟩), (.string ⟨#[68, 48]⟩)] a3O a3b rfl rfl (by simp [Value.cells]) rfl rfl (by decide) (by decide) fun w25 H62 hS72 => ?_
  simp only [RT] at hS72
  simp (disch := omega) only [↓RA, RZ, simprocAttr, hn]
  have hS73 : St prog H H62 [⟨ptr A1 0 4, 0, _⟩, ⟨ptr A2 0 2, 0, _⟩, ⟨ptr A3 0 4, 0, _⟩, ⟨w2, 6, _⟩, ⟨w4, 5, _⟩, ⟨w6, 5, _⟩, ⟨ptr A4 0 5, 0, _⟩, ⟨w8, 4, _⟩, ⟨w25, 1, b1k.flatMap (one Value.string)⟩] := hS72
  simp (disch := omega) only [↓RA, RZ, simprocAttr, hn, hS73.ld 1 rfl, (hS73.ax 8 rfl (lM _)).idx, (hS73.ax 8 rfl (lM _)).ld, one, b3f, f3]
  refine hS73.ag [_, I 0, I 0, I 1, (.bool false)] yS b2I rfl rfl (by simp [Value.cells]) rfl rfl (by decide) (by decide) fun w26 H63 hS74 => ?_
  simp only [RT] at hS74
  simp (disch := omega) only [↓RA, RZ, simprocAttr, hn]
  refine hS74.al 5 rfl (hS74.rd 9 rfl) yS (by rw [hlc]; simp only [dy, dA]; omega) fun w27 H64 hS75 => ?_
  simp only [RT] at hS75
  simp (disch := omega) only [↓RA, RZ, simprocAttr, hn]
  refine hS75.ab 0 rfl [w27] (by rw [(hS75.rd 5 rfl).cells.1]) (by simp [(hS75.rd 5 rfl).cells.2.1]) a9M (by simp) fun H65 hS76 => ?_
  simp only [RT] at hS76
  simp (disch := omega) only [↓RA, RZ, simprocAttr, hn, hS73.ld 0 rfl, hS74.ld 0 rfl, hS21.ld 1 rfl]
  have happ : o.cpls.flatMap Cpl.cells ++ [.string (iB b1k (aa % 3)), I 0, I 0, I 1, .bool false] = (o.cpls ++ [(⟨iB b1k (aa % 3), 0, 0, 1, false⟩ : Cpl)]).flatMap Cpl.cells := by rw [dG]; rfl
  rw [happ] at hS76
  exact mB (hS76.pick [0, 2, 4, 6, 3, 5, 7] (by decide) rfl) GR ho.2.2.2.2.2.1 GD (by omega) (by rw [dp]; simp only [dy, dA]; omega) GS hdk.2.2 GP
 simp (disch := omega) only [↓RA, RZ, simprocAttr, hn, jR, k1, k2, k3, k4, k5, k6, k7, k8, k9, k10, k11, k12, k13]
 exact mB (hS21.pick [0, 2, 4, 6, 3, 5, 7] (by decide) rfl) GR ho.2.2.2.2.2.1 GD (by omega) ho.2.2.2.2.2.2.2 GS hdk.2.2 GP
end Go.Ds
namespace Go.Ds
open Go.Proofs Go.Proofs.Tryz
variable {H : Heap}
set_option maxRecDepth 10000
set_option maxHeartbeats 1000000
theorem Made.pos {p : Pln} {o : Org} (h : Made p o) (hf : sY p = true) : 0 < o.ranks.length ∧ o.ranks.length ≤ 3 ∧ 0 < o.dvs.length := by
 unfold sY at hf
 simp only [cX, decide_eq_true_eq, dr] at hf
 obtain ⟨⟨⟨⟨⟨f1, f2⟩, f3⟩, f4⟩, f5⟩, f6⟩ := hf
 exact ⟨by rw [h.rlen]; omega, by rw [h.rlen]; omega, by rw [h.dlen]; omega⟩
theorem a2T (hG : Glob gH H) (p : Pln) (hp : p.In H) (hk : p.Ok) (sa sb : Nat) (hsa : sa < 256) (hsb : sb < 256) (b : Nat → Nat) (hb : ∀ i, b i < 256) :
 Fn prog 5 [.agg #[p.rv, p.dv, p.cv], .agg #[.int .u8 sa, .int .u8 sb], .agg #[.int .u8 (b 0), .int .u8 (b 1), .int .u8 (b 2), .int .u8 (b 3), .int .u8 (b 4)]] H fun r H' => r = .bool true ∧ St prog H H' [] := by
 refine .bm func5 rfl (by kernel_rfl) (m := 129) rfl fun l hn g0 g1 g2 => ?_
 simp (disch := omega) only [↓RA, RB, simprocAttr, g0]
 refine (sR H).eNew 3 [p.rv, p.dv, p.cv] rfl rfl (by simp [((sR H).sl hp.1).cells.2.1, ((sR H).sl hp.2.1).cells.2.1, ((sR H).sl hp.2.2.2.1).cells.2.1]) b7I fun A1 H1 hS1 => ?_
 simp only [RT] at hS1
 simp (disch := omega) only [↓RA, RB, simprocAttr, g1]
 refine hS1.eNew 2 [(.int .u8 sa), (.int .u8 sb)] rfl rfl rfl c0L fun A2 H2 hS2 => ?_
 simp only [RT] at hS2
 simp (disch := omega) only [↓RA, RB, simprocAttr, g2]
 refine hS2.eNew 5 [(.int .u8 (b 0)), (.int .u8 (b 1)), (.int .u8 (b 2)), (.int .u8 (b 3)), (.int .u8 (b 4))] rfl rfl rfl c2f fun A3 H3 hS3 => ?_
 simp only [RT] at hS3
 simp (disch := omega) only [↓RA, RZ, simprocAttr]
 refine hS3.cF (a1i (hS3.gl hG)) fun H4 hS4 => ?_
 simp (disch := omega) only [↓RA, RZ, simprocAttr, hn, hS4.ai 0 rfl]
 refine hS4.cF (b9x p (hp.ae hS4)) fun H5 hS5 => ?_
 simp (disch := omega) only [↓RA, RZ, simprocAttr, hn]
 refine jS (fun h1 => ?_) (fun h1 => ?_)
 ·simp (disch := omega) only [↓RA, RZ, simprocAttr]
  refine hS5.cF (a1i (hS5.gl hG)) fun H6 hS6 => ?_
  simp (disch := omega) only [↓RA, RZ, simprocAttr, hn, tR5, h1]
  exact hS6.forget
 have hf : sY p = true := by simpa using h1
 simp (disch := omega) only [↓RA, RZ, simprocAttr, hn, hS5.ai 0 rfl, h1]
 refine iG (b2i (hS5.gl hG) p (hp.ae hS5) hk hf) ?_
 rintro r H7 ⟨o, rfl, ho, hm, hT4⟩
 have hS7 := hS5.trans hT4
 simp only [RT] at hS7
 have hS0 := hS7
 have hG2 := hS0.gl hG
 have hoe := hm.ok.organE
 have hf0 := Org.aY hoe
 obtain ⟨k1, k2, k3⟩ := hm.small hf
 obtain ⟨k4, k5, k6⟩ := hm.pos hf
 have hok := b2p (o := o) hb k2
 have hal : (qL o vZ).length < 1000000000 := by rw [a5o]; omega
 have haO := a6A hf0 vZ
 simp (disch := omega) only [↓RA, RZ, simprocAttr]
 refine (sR H7).eNew 4 [(.string ⟨#[]⟩), (.slice none 0 0), (.slice none 0 0), (.slice none 0 0)] rfl rfl rfl lP fun A4 H8 hS8 => ?_
 simp only [RT] at hS8
 simp (disch := omega) only [↓RA, RB, simprocAttr, hn, h1]
 refine hS8.ab 0 rfl [(.string o.name), o.rv, o.dv, o.cv] rfl (by simp [OC, (hS8.sl ho.1).cells.2.1, (hS8.sl ho.2.2.1).cells.2.1, (hS8.sl ho.2.2.2.2.1).cells.2.1]) lP (by simp) fun H9 hS9 => ?_
 simp only [RT] at hS9
 simp (disch := omega) only [↓RA, RB, simprocAttr, h1]
 refine Wp.aQ kE [(3, 0)] (by kernel_rfl) (by kernel_rfl) ?_
 simp (disch := omega) only [↓RA, RZ, simprocAttr, hn, hS9.ai 0 rfl, ((hS0.var 2 rfl).ae hS9.ae).ai]
 have hD := a9c o (ho.ae hS9) k1 k2 k3 b hb
 generalize zN o b = rg at hok hD
 refine iG (hD) ?_
 rintro r H10 ⟨sv, rfl, hT5⟩
 have hS10 := hS9.trans hT5
 simp only [RT] at hS10
 simp (disch := omega) only [↓RA, RZ, simprocAttr, hn, hS10.ai 0 rfl]
 have hA := b6y o (ho.ae hS10) hf0
 generalize qL o vZ = ks at hal haO hA
 refine iG (hA.tr) ?_
 rintro r H11 ⟨-, hT6⟩
 have hS11 := hS10.trans hT6
 simp only [RT] at hS11
 obtain ⟨kv, rfl⟩ : ∃ w, w = r := ⟨r, rfl⟩
 simp (disch := omega) only [↓RA, RZ, simprocAttr]
 refine hS11.eNew 3 [(.slice none 0 0), (.int .u64 0), (.int .u64 0)] rfl rfl rfl oL fun A5 H12 hS12 => ?_
 simp only [RT] at hS12
 simp (disch := omega) only [↓RA, RB, simprocAttr, hn]
 refine hS12.ab 3 rfl [sv, (.int .u64 rg.cpl), (.int .u64 rg.off)] rfl (by simp [OC, (hS12.rd 1 rfl).cells.2.1]) oL (by simp) fun H13 hS13 => ?_
 simp only [RT] at hS13
 simp (disch := omega) only [↓RA, RZ, simprocAttr, hn, hS9.ai 0 rfl, hS13.ai 0 rfl, ((hS0.var 1 rfl).ae hS13.ae).ai]
 have hp1 := hS13
 refine iG (a9d o (ho.ae hS13) k4 (by omega) k6 (by omega) (fun j hj => by have := k3 j hj; omega) (by omega) sa sb hsa hsb) ?_
 rintro r H14 ⟨o2, rfl, hN, hT7⟩
 have hS14 := hS13.trans hT7
 simp only [RT] at hS14
 have hp2 := hS14
 obtain ⟨X, hBX, hS15⟩ := hS14.aB (os := [⟨ptr A4 0 4, 0, _⟩, ⟨sv, 1, _⟩, ⟨kv, 2, _⟩, ⟨ptr A5 0 3, 0, _⟩])
 simp (disch := omega) only [↓RA, RB, simprocAttr, hn]
 refine hS15.ab 0 rfl [(.string o2.name), o2.rv, o2.dv, o2.cv] rfl (by simp [OC, (hN.rs.1.cells).2.1, (hN.ds.1.cells).2.1, (hN.cs.1.cells).2.1]) lP (by simp) fun H15 hS16 => ?_
 simp only [RT] at hS16
 simp (disch := omega) only [↓RA, RZ, simprocAttr, hn]
 have ho2 : o2.In H15 := hN.cT ho hp1 hp2 hBX hS16
 have hS1 := hp2.ak hBX hS16
 have hG3 := hS1.gl hG2
 have hrI : rg.In H15 sv := ⟨hS1.ax 1 rfl (fun _ => rfl), hok⟩
 have hkI : Ks H15 kv ks := ⟨hS1.ax 2 rfl (fun _ => rfl), hal, haO⟩
 have hvO := hS1.var 0 rfl
 have hvR := hS1.var 3 rfl
 simp (disch := omega) only [↓RA, RZ, simprocAttr, hn, (hvO.ae (sR H15).ae).ai]
 refine (sR H15).cF (tS o2 (ho2.ae (sR H15))) fun H16 hS17 => ?_
 simp (disch := omega) only [↓RA, RB, simprocAttr, hn]
 refine iA (fun h5 => ?_) (fun h5 => ?_)
 ·simp (disch := omega) only [↓RA, RZ, simprocAttr, hn, tR5, h5]
  exact hS0.forget.trans (hS1.forget.trans hS17.forget)
 have hE : mH o2 rg = organE o2 := by unfold mH; rw [if_pos h5]
 have hW : rkE o2 rg ks = organE o2 := by unfold rkE; rw [if_pos (by rw [hE]; exact h5), hE]
 have hO : zC o2 rg (-1, 0) = organE o2 := by unfold zC; rw [if_pos (by rw [hE]; exact h5), hE]
 have hDc : qK o2 rg [] = organE o2 := by unfold qK; rw [if_pos h5]
 have hMo : vP o2 rg [] = organE o2 := by unfold vP; rw [hDc, if_pos h5]
 simp (disch := omega) only [↓RA, RZ, simprocAttr, hn, (hvO.ae hS17.ae).ai, (hvR.ae hS17.ae).ai, h5]
 refine hS17.cF (a2d (hS17.gl hG3) o2 (ho2.ae hS17) rg sv (hrI.ae hS17) kv ks (hkI.ae hS17)) fun H17 hS18 => ?_
 rw [hW]
 simp (disch := omega) only [↓RA, RZ, simprocAttr, hn, (hvO.ae hS18.ae).ai, (hvR.ae hS18.ae).ai, h5]
 refine iG (a3u (hS18.gl hG3) o2 (ho2.ae hS18) rg sv (hrI.ae hS18) kv ks (hkI.ae hS18)) ?_
 rintro r H18 ⟨bv, rfl, hT10⟩
 have hS19 := hS18.trans hT10
 simp only [RT] at hS19
 rw [hW]
 simp (disch := omega) only [↓RA, RZ, simprocAttr, hn, (hvO.ae hS19.ae).ai, (hvR.ae hS19.ae).ai, c1h, h5]
 refine hS19.cF (b0U o2 (ho2.ae hS19) rg sv (hrI.ae hS19) (-1, 0)) fun H19 hS20 => ?_
 rw [hO]
 simp (disch := omega) only [↓RA, RZ, simprocAttr, hn, (hvO.ae hS20.ae).ai, (hvR.ae hS20.ae).ai, h5]
 refine hS20.cF (a0w o2 (ho2.ae hS20) rg sv (hrI.ae hS20)) fun H20 hS21 => ?_
 rw [hE]
 simp (disch := omega) only [↓RA, RZ, simprocAttr, hn, h5]
 refine hS21.eNew 2 [I 0, I 0] rfl rfl rfl nV fun A6 H21 hS22 => ?_
 simp only [RT] at hS22
 simp (disch := omega) only [↓RA, RZ, simprocAttr, hn, h5]
 refine hS22.ab 1 rfl [I (grR o2 rg).1.1, I (grR o2 rg).1.2] rfl rfl nV (by simp) fun H22 hS23 => ?_
 simp only [RT] at hS23
 simp (disch := omega) only [↓RA, RZ, simprocAttr, hn, (hvO.ae hS23.ae).ai, (hvR.ae hS23.ae).ai, h5]
 refine hS23.cF (b9G (hS23.gl hG3) o2 (ho2.ae hS23) rg sv (hrI.ae hS23)) fun H23 hS24 => ?_
 rw [hE]
 simp (disch := omega) only [↓RA, RZ, simprocAttr, hn, (hvO.ae hS24.ae).ai, (hvR.ae hS24.ae).ai, h5]
 refine iG (a8q (hS24.gl hG3) o2 (ho2.ae hS24) rg sv (hrI.ae hS24) (.slice none 0 0) [] a7S (by simp) (by simp)) ?_
 rintro r H24 ⟨cv, rfl, hT14⟩
 have hS25 := hS24.trans hT14
 simp only [RT] at hS25
 rw [hDc]
 simp (disch := omega) only [↓RA, RZ, simprocAttr, hn, (hvO.ae hS25.ae).ai, (hvR.ae hS25.ae).ai, h5]
 refine hS25.cF (b7K (hS25.gl hG3) o2 (ho2.ae hS25) rg sv (hrI.ae hS25) (.slice none 0 0) [] a7S (by simp) (by simp)) fun H25 hS26 => ?_
 rw [hMo]
 simp (maxSteps := 1000000) (disch := omega) only [↓RA, RZ, simprocAttr, hn, h5]
 simp (maxSteps := 1000000) (disch := omega) only [RB, RC, simprocAttr, hn, tR5]
 exact hS0.forget.trans (hS1.forget.trans hS26.forget)
end Go.Ds
