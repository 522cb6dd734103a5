/-
  A part of the proof of DemandLists.
-/
import Derived.Test.YtbdbnfhkdmhobaaGreatDoorVJ
import Derived.Test.YtbdbnfhkdmhobaaGreatDoorVD
import Derived.Test.YtbdbnfhkdmhobaaGreatDoorVE
set_option linter.unusedVariables false
set_option linter.unusedSimpArgs false
set_option linter.defProp false
set_option linter.unusedSectionVars false
namespace Go.Ds
open Go.Proofs Go.Proofs.Tryz Go.ChangeShapes Go.WideShapes Go.RowKit Go.Deep
set_option maxRecDepth 10000
theorem c6C : prog.cellsOf 43 = 1 := by kernel_rfl
theorem c4P : prog.cellsOf 44 = 3 := by kernel_rfl
section
variable {H0 : Type} {enc : TypeId × Value → H0} {w : World} {base n : Nat} {spare : Nat → Bool} {kS : Bool} {x : DataW H0 × List MemPlace}
theorem b0c {v : Value} (h : DataW.trod enc prog w base spare kS n 43 [v] = some x) : ∃ m : Nat, v = .int .u16 m ∧ m < 65536 := by
 obtain ⟨m, hv, _, hw⟩ := DataW.trod_int underlying43 h
 have hv : v = .int .u16 m := by simpa using hv
 have hm : 0 ≤ m ∧ m ≤ 65535 := by simpa [Lit.wf, IntKind.min, IntKind.max, IntKind.signed, IntKind.bits] using hw
 exact ⟨m.toNat, by rw [hv, fB hm.1], by omega⟩
theorem c2t {cs : List Value} (h : DataW.trod enc prog w base spare kS n 44 cs = some x) : ∃ b : Nat → Nat, (∀ i, b i < 65536) ∧ cs = [.int .u16 (b 0), .int .u16 (b 1), .int .u16 (b 2)] := by
 obtain ⟨xs, m, _, _, hl, hxl, hf⟩ := DataW.trod_array underlying44 h
 rw [c4P] at hl
 match cs, hl with
 | [c0, c1, c2], _ =>
   have hy : ∀ i, i < 3 → ∃ y, DataW.trod enc prog w base spare kS m 43 ((([c0, c1, c2] : List Value).drop (i * 1)).take 1) = some y := fun i hi => by
    have := hf i hi
    rw [c6C] at this
    exact ⟨xs[i], by rw [this, dp (by omega)]⟩
   obtain ⟨_, h0⟩ := hy 0 (by decide)
   obtain ⟨_, h1⟩ := hy 1 (by decide)
   obtain ⟨_, h2⟩ := hy 2 (by decide)
   obtain ⟨b0, rfl, k0⟩ := b0c h0
   obtain ⟨b1, rfl, k1⟩ := b0c h1
   obtain ⟨b2, rfl, k2⟩ := b0c h2
   exact ⟨fun i => match i with | 0 => b0 | 1 => b1 | _ => b2, fun i => by
    match i with
    | 0 => exact k0
    | 1 => exact k1
    | _ + 2 => exact k2, rfl⟩
end
section
variable {H0 : Type} {enc : TypeId × Value → H0} {w : World} {base : Nat} {kS : Bool}
end
end Go.Ds
namespace Go.Ds
open Go.Proofs Go.Proofs.Tryz
variable {H : Heap}
set_option maxRecDepth 10000
set_option maxHeartbeats 1000000
abbrev Nt := Nat × Nat
def ntc (x : Nt) : List Value := [.int .u64 x.1, .int .u64 x.2]
def Nt.Ok (x : Nt) : Prop := x.1 < 18446744073709551616 ∧ x.2 < 18446744073709551616
def tM (x : Nt) (n : Int) : Nt := if n < 64 then (x.1 ||| 2 ^ n.toNat, x.2) else (x.1, x.2 ||| 2 ^ (n - 64).toNat)
theorem a4J (i : Nat) (h : i < 64) : 2 ^ i < 18446744073709551616 := by
 have : 2 ^ i ≤ 2 ^ 63 := fq (by decide) (by omega)
 have e : 2 ^ 63 = 9223372036854775808 := rfl
 omega
theorem b5y {a b : Nat} (ha : a < 18446744073709551616) (hb : b < 18446744073709551616) : a ||| b < 18446744073709551616 := Nat.or_lt_two_pow (n := 64) ha hb
theorem orB (a b : Nat) (ha : a < 18446744073709551616) (hb : b < 18446744073709551616) : IntKind.wrap .u64 ((BitVec.ofInt (IntKind.bits .u64) (a : Int) ||| BitVec.ofInt (IntKind.bits .u64) (b : Int)).toNat : Int) = ((a ||| b : Nat) : Int) := by
 have e : (BitVec.ofInt (IntKind.bits .u64) (a : Int) ||| BitVec.ofInt (IntKind.bits .u64) (b : Int)).toNat = a ||| b := by
  rw [BitVec.toNat_or, vB a ha, vB b hb]
 rw [e]
 have := b5y ha hb
 exact nP _ (by omega) (by omega)
theorem orN (n i : Nat) (hn : n < 18446744073709551616) (hi : i < 64) : IntKind.wrap .u64 ((BitVec.ofInt (IntKind.bits .u64) (n : Int) ||| BitVec.ofInt (IntKind.bits .u64) (IntKind.wrap .u64 (1 * 2 ^ min i (IntKind.bits .u64)))).toNat : Int) = ((n ||| 2 ^ i : Nat) : Int) := by
 rw [c4r i hi]
 exact orB n (2 ^ i) hn (a4J i hi)
theorem b9s {x : Nt} (hx : Nt.Ok x) {z : Int} (h0 : 0 ≤ z) (h1 : z < 128) : Nt.Ok (tM x z) := by
 unfold tM
 split
 ·exact ⟨b5y hx.1 (a4J _ (by omega)), hx.2⟩
 ·exact ⟨hx.1, b5y hx.2 (a4J _ (by omega))⟩
theorem a6Q (x : Nt) (hx : Nt.Ok x) (z : Int) (h0 : 0 ≤ z) (h1 : z < 128) : Fn prog 50 [.agg #[.int .u64 x.1, .int .u64 x.2], I z] H fun r H' => r = .agg #[.int .u64 (tM x z).1, .int .u64 (tM x z).2] ∧ St prog H H' [] := by
 obtain ⟨m, rfl⟩ := fL h0
 refine .aG func50 rfl (by kernel_rfl) (m := 21) rfl fun l hn g0 g1 => ?_
 simp (disch := omega) only [↓RA, RB, simprocAttr, g0]
 refine (sR H).eNew 2 [(.int .u64 x.1), (.int .u64 x.2)] rfl rfl rfl nZ fun A1 H1 hS1 => ?_
 simp only [RT] at hS1
 simp (disch := omega) only [↓RA, RZ, simprocAttr]
 refine hS1.eNew 2 [(.int .u64 0), (.int .u64 0)] rfl rfl rfl nZ fun A2 H2 hS2 => ?_
 simp only [RT] at hS2
 simp (disch := omega) only [↓RA, RB, simprocAttr, hn, g1]
 refine iA (fun q1 => ?_) (fun q1 => ?_)
 ·have e1 := orN x.1 m hx.1 (by omega)
  have e2 : tM x (m : Int) = (x.1 ||| 2 ^ m, x.2) := by unfold tM; rw [if_pos q1]; rfl
  simp (disch := omega) only [↓RA, RC, simprocAttr, q1]
  refine Wp.drw jY (by kernel_rfl) ?_
  simp (disch := omega) only [↓RA, RZ, simprocAttr, hn, g1, hS2.ld 0 rfl, e1]
  refine hS2.aa 0 rfl [(.int .u64 (x.1 ||| 2 ^ m : Nat))] rfl rfl c2Y (by simp) fun H3 hS3 => ?_
  simp only [RT] at hS3
  simp (disch := omega) only [↓RA, RZ, simprocAttr, hn, hS3.ag 0 rfl]
  refine hS3.aa 1 rfl [(.int .u64 (x.1 ||| 2 ^ m : Nat)), (.int .u64 x.2)] rfl rfl nZ (by simp) fun H4 hS4 => ?_
  simp only [RT] at hS4
  simp (disch := omega) only [↓RA, RZ, simprocAttr, hn, c3z, hS4.ag 1 rfl]
  rw [e2]
  exact ⟨rfl, hS4.forget⟩
 have e1 := orN x.2 (m - 64) hx.2 (by omega)
 have e3 : (m : Int) - 64 = ((m - 64 : Nat) : Int) := by omega
 have e2 : tM x (m : Int) = (x.1, x.2 ||| 2 ^ (m - 64)) := by unfold tM; rw [if_neg q1, e3]; rfl
 simp (disch := omega) only [↓RA, RC, simprocAttr, q1]
 refine Wp.drw jY (by kernel_rfl) ?_
 simp (disch := omega) only [↓RA, RZ, simprocAttr, hn, g1, hS2.ld 0 rfl, e1, e3]
 refine hS2.aa 0 rfl [(.int .u64 (x.2 ||| 2 ^ (m - 64) : Nat))] rfl rfl c2Y (by simp) fun H5 hS5 => ?_
 simp only [RT] at hS5
 simp (disch := omega) only [↓RA, RZ, simprocAttr, hn, hS5.ag 0 rfl]
 refine hS5.aa 1 rfl [(.int .u64 x.1), (.int .u64 (x.2 ||| 2 ^ (m - 64) : Nat))] rfl rfl nZ (by simp) fun H6 hS6 => ?_
 simp only [RT] at hS6
 simp (disch := omega) only [↓RA, RZ, simprocAttr, hn, c3z, hS6.ag 1 rfl]
 rw [e2]
 exact ⟨rfl, hS6.forget⟩
def jX (xs : List Int) : Nt := xs.foldl tM (0, 0)
def isN (z : Int) : Prop := 0 ≤ z ∧ z < 128
theorem vN : ∀ (xs : List Int) (x : Nt), (∀ z ∈ xs, isN z) → Nt.Ok x → Nt.Ok (xs.foldl tM x)
 | [], _, _, h => h
 | z :: xs, x, hz, h => by
   rw [eS]
   exact vN xs _ (fun y hy => hz y (dV _ hy)) (b9s h (hz z (dJ ..)).1 (hz z (dJ ..)).2)
theorem a6b (xs : List Int) {j : Nat} (hj : j < xs.length) : jX (xs.take (j + 1)) = tM (jX (xs.take j)) (iB xs j) := by
 unfold jX
 rw [List.take_add_one, dp hj, Option.toList_some, fh, ← jU _ j hj]
 rfl
theorem b3T (z : Int) (h : isN z) : Fn prog 49 [I z] H fun r H' => r = .bool true ∧ St prog H H' [] := by
 have h0 := h.1
 have h1 := h.2
 refine .aU func49 rfl (by kernel_rfl) (m := 9) rfl fun l hn g0 => ?_
 simp (disch := omega) only [↓RA, RZ, simprocAttr, hn, g0]
 refine jD (fun q1 => ?_) (fun q1 => ?_)
 rotate_left
 ·exfalso; first | omega | (simp at q1; omega)
 simp (disch := omega) only [↓RA, RZ, simprocAttr, hn, g0, c7t, q1]
 simpa using ⟨(by omega : z ≤ 127), (sR H)⟩
theorem wR (xs : List Int) (hz : ∀ z ∈ xs, isN z) (v : Value) (hv : Sl 1 (one I) H v xs) (hl : xs.length < 1000000000) :
 Fn prog 29 [v] H fun r H' => r = .tuple #[.agg #[.int .u64 (jX xs).1, .int .u64 (jX xs).2], I 0] ∧ St prog H H' [] := by
 refine .aU func29 rfl (by kernel_rfl) (m := 22) rfl fun l hn g0 => ?_
 simp (disch := omega) only [↓RA, RZ, simprocAttr]
 refine (sR H).eNew 2 [(.int .u64 0), (.int .u64 0)] rfl rfl rfl nZ fun A1 H1 hS1 => ?_
 simp only [RT] at hS1
 simp (disch := omega) only [↓RA, RZ, simprocAttr]
 refine hS1.eNew 2 [(.int .u64 0), (.int .u64 0)] rfl rfl rfl nZ fun A2 H2 hS2 => ?_
 simp only [RT] at hS2
 simp (disch := omega) only [↓RA, RZ, simprocAttr, hn, g0, (hS2.sl hv).len]
 refine Wp.ak (fun n l H' => l.length = 22 ∧ get l 2 = (ptr A1 0 2) ∧ get l 4 = (ptr A2 0 2) ∧ get l 7 = v ∧ get l 8 = I xs.length ∧ ∃ (j : Nat), (n + j = xs.length) ∧ get l 9 = I j ∧ St prog H H' [⟨ptr A1 0 2, 0, [(.int .u64 0), (.int .u64 0)]⟩, ⟨ptr A2 0 2, 0, [.int .u64 (jX (xs.take j)).1, .int .u64 (jX (xs.take j)).2]⟩]) xs.length ?_ ?_
 ·simp (disch := omega) only [RB, RC, simprocAttr, hn]
  exact ⟨0, by omega, rfl, hS2⟩
 rintro n l H3 ⟨hn, g2, g4, g7, g8, j, hj, g9, hS3⟩
 simp (disch := omega) only [↓RA, RB, simprocAttr, hn, g8, g9]
 refine iA (fun q1 => ?_) (fun q1 => ?_)
 ·have hx := hz _ (iD (xs := xs) (j := j) (by omega))
  have hok : Nt.Ok (jX (xs.take j)) := vN _ _ (fun z h => hz z (fU h)) ⟨by decide, by decide⟩
  simp (disch := omega) only [↓RA, RZ, simprocAttr, hn, g7, g9, (hS3.sl hv).idx, (hS3.sl hv).ld, one, q1]
  refine hS3.cF (b3T (iB xs j) hx) fun H4 hS4 => ?_
  simp (disch := omega) only [↓RA, RZ, simprocAttr, hn, g4, hS4.ag 1 rfl, q1]
  refine hS4.cF (a6Q (jX (xs.take j)) hok (iB xs j) hx.1 hx.2) fun H5 hS5 => ?_
  simp (disch := omega) only [↓RA, RZ, simprocAttr, hn, g4, q1]
  refine hS5.aa 1 rfl [(.int .u64 (tM (jX (xs.take j)) (iB xs j)).1), (.int .u64 (tM (jX (xs.take j)) (iB xs j)).2)] rfl rfl nZ (by simp) fun H6 hS6 => ?_
  simp only [RT] at hS6
  simp (disch := omega) only [↓RA, RZ, simprocAttr, hn, g2, g4, g7, g8, g9, q1]
  refine ⟨n - 1, by omega, j + 1, by omega, by simp, ?_⟩
  rw [a6b xs (by omega)]
  exact hS6.pick [0, 1] (by decide) rfl
 have hjj : j = xs.length := by omega
 simp (disch := omega) only [↓RA, RZ, simprocAttr, hn, g2, g4, hS3.ag 1 rfl, q1]
 refine hS3.aa 0 rfl [(.int .u64 (jX (xs.take j)).1), (.int .u64 (jX (xs.take j)).2)] rfl rfl nZ (by simp) fun H7 hS7 => ?_
 simp only [RT] at hS7
 simp (disch := omega) only [↓RA, RZ, simprocAttr, hn, g2, c6q, hS7.ag 0 rfl, q1]
 rw [hjj, dM]
 exact ⟨rfl, hS7.forget⟩
end Go.Ds
namespace Go.Ds
open Go.Proofs
variable {H : Heap}
set_option maxRecDepth 10000
set_option maxHeartbeats 1000000
theorem St.perm {P : Program} {H0 : Base} {os os' : List Ob} (h : St P H0 H os) (hp : os.Perm os') : St P H0 H os' where
 len := h.len
 old := h.old
 own o ho := h.own o (hp.mem_iff.2 ho)
 new o ho := h.new o (hp.mem_iff.2 ho)
 sep := (List.Perm.pairwise_iff (fun {_ _} hxy B hB hB2 => hxy B hB2 hB) hp).1 h.sep
theorem Lp.swap {P : Program} {B : Base} {L : Nat} {r : Loop} {xs ys zs : List Ob} (h : Lp P B L r H ((xs ++ ys) ++ zs)) : Lp P B L r H ((xs ++ zs) ++ ys) := by
 have hp : ((xs ++ ys) ++ zs).Perm ((xs ++ zs) ++ ys) := by
  rw [ek, ek]
  exact (List.perm_append_comm).append_left xs
 exact ⟨h.st.perm hp, h.get, h.lo, fun o ho => h.ne o (hp.mem_iff.2 ho)⟩
end Go.Ds
namespace Go.Ds
open Go.Proofs Go.Proofs.Tryz
variable {H : Heap}
set_option maxRecDepth 10000
set_option maxHeartbeats 1000000
def ctz (x : Nat) : Nat := ((List.range 64).find? fun i => x.testBit i).getD 64
theorem a2R {x : Nat} (h0 : x ≠ 0) (h1 : x < 18446744073709551616) : ctz x < 64 ∧ x.testBit (ctz x) = true ∧ ∀ j, j < ctz x → x.testBit j = false := by
 have hx : ∃ i, i < 64 ∧ x.testBit i = true := by
  refine fP fun hn => h0 ?_
  refine fV fun i => ?_
  rw [ik]
  by_cases hi : i < 64
  ·by_cases hb : x.testBit i = true
   ·exact absurd ⟨i, hi, hb⟩ hn
   ·simpa using hb
  ·exact Nat.testBit_lt_two_pow (dI (show x < 2 ^ 64 by simpa using h1) (fq (by decide) (by omega)))
 unfold ctz
 cases hf : (List.range 64).find? fun i => x.testBit i with
 | none =>
   obtain ⟨i, hi, hb⟩ := hx
   have := gk.1 hf i (dx.2 hi)
   exact absurd hb (by simpa using this)
 | some i =>
   obtain ⟨hb, ys, bs, he, hn⟩ := List.find?_eq_some_iff_append.1 hf
   have hi : i < 64 := dx.1 (he ▸ (by simp : i ∈ ys ++ i :: bs))
   refine ⟨hi, hb, fun j hj0 => ?_⟩
   have hj : j < i := hj0
   have hl : ys.length = i := by
    have h2 : (List.range 64)[ys.length]? = some i := by rw [he]; simp
    have h3 : ys.length < 64 := by
     have := congrArg List.length he
     simp at this
     omega
    rw [gL h3] at h2
    exact cU h2
   have hm : j ∈ ys := by
    have h2 : (List.range 64)[j]? = some j := gL (by omega)
    rw [he, eG (by simpa using (hl ▸ hj))] at h2
    exact dP h2
   simpa using hn j hm
theorem a4o {x : Nat} (h0 : x ≠ 0) (h1 : x < 18446744073709551616) : ∃ m, x = 2 ^ ctz x * (2 * m + 1) := by
 obtain ⟨c1, c2, c3⟩ := a2R h0 h1
 generalize ctz x = k at c1 c2 c3
 have hd : x % 2 ^ k = 0 := by
  refine fV fun i => ?_
  rw [Nat.testBit_mod_two_pow, ik]
  by_cases hi : i < k
  ·rw [c3 i hi, Bool.and_false]
  ·rw [decide_eq_false hi, fz]
 have h2 : x / 2 ^ k % 2 = 1 := by
  rw [← eM]
  have := c2
  rw [tb] at this
  exact of_decide_eq_true this
 refine ⟨x / 2 ^ k / 2, ?_⟩
 have h3 := Nat.div_add_mod x (2 ^ k)
 have h4 := Nat.div_add_mod (x / 2 ^ k) 2
 rw [hd, gU] at h3
 rw [← h3]
 congr 1
 rw [h3]
 omega
theorem b8T {x : Nat} (h0 : x ≠ 0) (h1 : x < 18446744073709551616) : x &&& (18446744073709551616 - x) = 2 ^ ctz x := by
 obtain ⟨m, hm⟩ := a4o h0 h1
 obtain ⟨c1, _, _⟩ := a2R h0 h1
 generalize ctz x = k at hm c1
 have e64 : (18446744073709551616 : Nat) = 2 ^ k * (2 * 2 ^ (63 - k)) := by
  have : 2 ^ k * (2 * 2 ^ (63 - k)) = 2 ^ 64 := by rw [← Nat.pow_succ', ← Nat.pow_add]; congr 1; omega
  rw [this]
 have hml : m < 2 ^ (63 - k) := by
  rw [e64, hm] at h1
  have := Nat.lt_of_mul_lt_mul_left h1
  omega
 have e2 : 18446744073709551616 - x = 2 ^ k * (2 * (2 ^ (63 - k) - (m + 1)) + 1) := by
  rw [e64, hm, ← Nat.mul_sub]
  congr 1
  omega
 rw [e2, hm]
 refine fV fun i => ?_
 rw [Nat.testBit_and, fZ]
 have hs : ∀ y : Nat, (2 ^ k * y).testBit i = (decide (k ≤ i) && y.testBit (i - k)) := fun y => by rw [Nat.mul_comm, Nat.testBit_mul_two_pow]
 rw [hs, hs]
 by_cases hi : k ≤ i
 ·rw [decide_eq_true hi, gO, gO]
  by_cases he : i = k
  ·subst he
   rw [gZ, Nat.testBit_zero, Nat.testBit_zero]
   simp
  ·obtain ⟨j, hj⟩ : ∃ j, i - k = j + 1 := ⟨i - k - 1, by omega⟩
   rw [hj, Nat.testBit_succ, Nat.testBit_succ, show (2 * m + 1) / 2 = m by omega, show (2 * (2 ^ (63 - k) - (m + 1)) + 1) / 2 = 2 ^ (63 - k) - (m + 1) by omega, Nat.testBit_two_pow_sub_succ hml, decide_eq_false (by omega : ¬ k = i)]
   cases m.testBit j <;> simp
 ·rw [decide_eq_false hi, fz, decide_eq_false (by omega)]
  rfl
theorem c4g : ((List.range 64).all fun k => decide (2 ^ k * 285870213051353865 % 18446744073709551616 / 288230376151711744 < 64) && decide (t64.getD (2 ^ k * 285870213051353865 % 18446744073709551616 / 288230376151711744) 99 = k)) = true := by kernel_rfl
theorem b5g {P : Program} {t : TypeId} {n : Nat} {elem : TypeId} {size : Nat} (ha : P.underlying t = some (.array n elem)) (hs : iE P elem = some size) (A i : Nat) (k : IntKind) (j : Int) (h0 : 0 ≤ j) (h1 : j < n) :
 xD (iR P t) P t (.pointer (some ⟨A, i, none⟩)) (.int k j) = some (.pointer (some ⟨A, i + j.toNat * size, none⟩)) := by
 have hn : iR P t = none := by simp [iR, iJ, ha]
 rw [hn]
 simp only [xD, a2d, ha, hs, cW]
 rw [if_pos (by simp [h0, h1])]
theorem c1i (k : IntKind) (j : Int) (h0 : 0 ≤ j) (h1 : j < 64) : xD (iR prog 273) prog 273 (.pointer (some ⟨0, 0, none⟩)) (.int k j) = some (.pointer (some ⟨0, 0 + j.toNat * 1, none⟩)) :=
 b5g (n := 64) (elem := 5) (size := 1) (by kernel_rfl) (by kernel_rfl) 0 0 k j h0 h1
theorem b2q (g : Nat) (l : List Value) (K : Value → Prop) : jJ (.global g) l K = K (.pointer (some ⟨g, 0, none⟩)) := by simp [jJ, iP, ev]
theorem gld (hG : Glob gH H) (j : Nat) (hj : j < 64) (s : Option Nat) : pT (some false) s H (.pointer (some ⟨0, j, none⟩)) = some (.int .u8 (t64.getD j 0 : Nat)) := by
 have h0 : iS H 0 = some (.cells (t64.map fun (n : Nat) => Value.int .u8 (.ofNat n)) 5 false 0 1) := by
  rw [hG.same 0 (by decide)]
  rfl
 simp only [pT, jE, h0]
 have hl : (t64.map fun (n : Nat) => Value.int .u8 (.ofNat n)).length = 64 := by rw [dK]; rfl
 rw [if_pos (by rw [hl]; simp; omega)]
 simp only [cW]
 rw [dW (by omega), dF, gU, eN, dp (show j < t64.length from hj)]
 rw [dN, cZ, dp (show j < t64.length from hj)]
 rfl
theorem a9P (m : Int) : IntKind.wrap .u64 m = m % 18446744073709551616 := by
 show (if (false && decide (m % 18446744073709551616 ≥ 9223372036854775808)) = true then m % 18446744073709551616 - 18446744073709551616 else m % 18446744073709551616) = _
 simp
theorem c4L (hG : Glob gH H) (x : Nat) (h0 : x ≠ 0) (h1 : x < 18446744073709551616) : Fn prog 155 [.int .u64 x] H fun r H' => r = I (ctz x) ∧ St prog H H' [] := by
 obtain ⟨c1, _, _⟩ := a2R h0 h1
 have hd := dq.1 c4g (ctz x) (dx.2 c1)
 rw [cV, decide_eq_true_eq, decide_eq_true_eq] at hd
 have eA : IntKind.wrap .u64 (0 - (x : Int)) = ((18446744073709551616 - x : Nat) : Int) := by
  rw [a9P]
  omega
 have eB : IntKind.wrap .u64 ((BitVec.ofInt (IntKind.bits .u64) (x : Int) &&& BitVec.ofInt (IntKind.bits .u64) ((18446744073709551616 - x : Nat) : Int)).toNat : Int) = ((2 ^ ctz x : Nat) : Int) := by
  rw [gJ, vB x h1, vB _ (by omega), b8T h0 h1]
  exact nP _ (by omega) (by have := a4J (ctz x) c1; omega)
 have eC : IntKind.wrap .u64 (((2 ^ ctz x : Nat) : Int) * 285870213051353865) = ((2 ^ ctz x * 285870213051353865 % 18446744073709551616 : Nat) : Int) := by
  rw [a9P]
  rfl
 have eD : ((2 ^ ctz x * 285870213051353865 % 18446744073709551616 : Nat) : Int).fdiv (2 ^ min 58 (IntKind.bits .u64)) = ((2 ^ ctz x * 285870213051353865 % 18446744073709551616 / 288230376151711744 : Nat) : Int) := by
  rw [show (2 : Int) ^ min 58 (IntKind.bits .u64) = ((288230376151711744 : Nat) : Int) from rfl]
  exact gB _ (by omega)
 have hd1 := hd.1
 have hd2 := hd.2
 generalize 2 ^ ctz x * 285870213051353865 % 18446744073709551616 / 288230376151711744 = i at eD hd1 hd2
 refine .aU func155 rfl (by kernel_rfl) (m := 14) rfl fun l hn g0 => ?_
 have iS := gld hG i hd1 (some 1)
 rw [show t64.getD i 0 = ctz x from by rw [← hd2, cZ, cZ, dp (show i < t64.length from hd1)]; rfl] at iS
 have hidx := c1i .u64 (i : Int) (by omega) (by omega)
 rw [dR, Nat.mul_one, fM] at hidx
 simp (disch := omega) only [↓RA, RB, simprocAttr, hn, g0]
 refine iA (fun q => ?_) (fun q => ?_)
 ·exfalso; omega
 simp (disch := omega) only [↓RA, RZ, simprocAttr, hn, g0, c5X, eA, eB, eC, eD, b2q, iS, hidx, q]
 first | exact (sR H) | exact ⟨rfl, (sR H)⟩
theorem a5F {x : Nat} (h0 : x ≠ 0) (h1 : x < 18446744073709551616) (j : Nat) : (x &&& (x - 1)).testBit j = (x.testBit j && !decide (j = ctz x)) := by
 obtain ⟨m, hm⟩ := a4o h0 h1
 generalize ctz x = k at hm
 have hp : 0 < 2 ^ k := Nat.two_pow_pos k
 have e1 : x = 2 ^ (k + 1) * m + 2 ^ k := by rw [hm, Nat.pow_succ, Nat.mul_add, Nat.mul_one, Nat.mul_assoc]
 have e2 : x - 1 = 2 ^ (k + 1) * m + (2 ^ k - 1) := by omega
 have hl : 2 ^ k < 2 ^ (k + 1) := Nat.pow_lt_pow_right (by decide) (by omega)
 rw [Nat.testBit_and, e2]
 rw [e1, Nat.testBit_two_pow_mul_add m hl, Nat.testBit_two_pow_mul_add m (by omega : 2 ^ k - 1 < 2 ^ (k + 1))]
 by_cases hj : j < k + 1
 ·rw [if_pos hj, if_pos hj, fZ, Nat.testBit_two_pow_sub_one]
  by_cases he : j = k
  ·simp [he]
  ·simp [show ¬ k = j by omega]
 ·rw [if_neg hj, if_neg hj, show decide (j = k) = false from decide_eq_false (by omega)]
  simp
theorem b3M {x : Nat} (h0 : x ≠ 0) (h1 : x < 18446744073709551616) : pE x = ctz x :: pE (x &&& (x - 1)) := by
 obtain ⟨c1, c2, c3⟩ := a2R h0 h1
 have hb := a5F h0 h1
 generalize ctz x = k at c1 c2 c3 hb
 obtain ⟨t, ht⟩ := a7B c1
 have hnd : (List.range 64).Nodup := List.nodup_range
 unfold pE
 rw [ht, eP, eP, List.filter_cons_of_pos (by simpa using c2), List.filter_cons_of_neg (by rw [hb]; simp)]
 rw [ht] at hnd
 have e1 : (List.range k).filter (fun i => x.testBit i) = [] := List.filter_eq_nil_iff.2 fun i hi => by simpa using c3 i (dx.1 hi)
 have e2 : (List.range k).filter (fun i => (x &&& (x - 1)).testBit i) = [] := List.filter_eq_nil_iff.2 fun i hi => by rw [hb, c3 i (dx.1 hi)]; simp
 rw [e1, e2, eZ, eZ]
 congr 1
 refine List.filter_congr fun i hi => ?_
 have hne : i ≠ k := fun e => by
  subst e
  exact (List.nodup_cons.1 (List.nodup_append.1 hnd).2.1).1 hi
 rw [hb, decide_eq_false hne]
 simp
theorem a9e : pE 0 = [] := List.filter_eq_nil_iff.2 fun i _ => by simp
def pZ (x : Nt) : List Int := (pE x.1).map (fun (i : Nat) => (i : Int)) ++ (pE x.2).map fun (i : Nat) => 64 + (i : Int)
def a6S (x : Nt) (i : Nat) : Nat := if i = 0 then x.1 else x.2
def a5u (x : Nt) (i : Nat) : List Int := (pE (a6S x i)).map fun (j : Nat) => 64 * (i : Int) + (j : Int)
def a5d (x : Nt) (i : Nat) : List Int := (List.range i).flatMap (a5u x)
theorem a0z (x : Nt) (i : Nat) : a5d x (i + 1) = a5d x i ++ a5u x i := by
 unfold a5d
 rw [dX, dB, dz, ew, dm]
theorem a7E (x : Nt) : a5d x 2 = pZ x := by
 rw [a0z, a0z]
 unfold pZ a5d a5u a6S
 simp
theorem c0o {x : Nt} (hx : Nt.Ok x) (i : Nat) : a6S x i < 18446744073709551616 := by
 unfold a6S
 split
 ·exact hx.1
 ·exact hx.2
theorem c4Z (a b : Int) : pJ prog 249 (.agg #[.int .u64 a, .int .u64 b]) (I 0) = some (.int .u64 a) := by kernel_rfl
theorem c4C (a b : Int) : pJ prog 249 (.agg #[.int .u64 a, .int .u64 b]) (I 1) = some (.int .u64 b) := by kernel_rfl
theorem c7H (x : Nt) (i : Nat) (h : i < 2) : a2e (oO prog 249) prog 249 (.agg #[.int .u64 x.1, .int .u64 x.2]) (I i) = some (.int .u64 (a6S x i)) := by
 rw [← a6s]
 rcases (by omega : i = 0 ∨ i = 1) with rfl | rfl
 ·exact c4Z _ _
 ·exact c4C _ _
theorem c3a (x : Nt) (hx : Nt.Ok x) (A : Nat) (f : Value) (J : List Int → Heap → Prop) (h0 : J [] H) (hg : ∀ d H1, J d H1 → Var H1 A 2 [.int .u64 x.1, .int .u64 x.2] ∧ Glob gH H1)
 (hst : ∀ d H1 H2, J d H1 → St prog H1 H2 [] → J d H2)
 (hf : ∀ d c e H1, pZ x = d ++ c :: e → J d H1 → sK prog f [I c] H1 fun v H2 => v = .bool true ∧ J (d ++ [c]) H2) :
 FnS prog 154 [f, ptr A 0 2] H fun _ H' => J (pZ x) H' := by
 have hV0 := (hg _ _ h0).1
 refine FnS.aX func154 rfl (by kernel_rfl) fun l hl => ?_
 have hn : l.length = 29 := by rw [hl]; rfl
 have g0 : get l 0 = f := by rw [hl]; rfl
 have g1 : get l 1 = (ptr A 0 2) := by rw [hl]; rfl
 clear hl
 simp (disch := omega) only [↓RA, RZ, simprocAttr, hn, g1, hV0.ld, b3I]
 refine Wp.ak (fun n l H' => l.length = 29 ∧ get l 0 = f ∧ get l 1 = ptr A 0 2 ∧ get l 9 = .agg #[.int .u64 x.1, .int .u64 x.2] ∧ ∃ i : Nat, n + i = 2 ∧ get l 10 = I i ∧ J (a5d x i) H') 2 ?_ ?_
 ·simp (disch := omega) only [RB, RC, simprocAttr, hn, g0, g1]
  exact ⟨0, rfl, rfl, h0⟩
 rintro n l H9 ⟨hn, g0, g1, g9, i, hi, oZ, hJ⟩
 simp (disch := omega) only [↓RA, RB, simprocAttr, hn, oZ]
 refine iA (fun q1 => ?_) (fun q1 => ?_)
 ·have hix := c7H x i (by omega)
  have hwl := c0o hx i
  simp (disch := omega) only [↓RA, RZ, simprocAttr, hn, g9, oZ, q1, hix]
  refine Wp.ak (fun n2 l H' => l.length = 29 ∧ get l 0 = f ∧ get l 1 = ptr A 0 2 ∧ get l 9 = .agg #[.int .u64 x.1, .int .u64 x.2] ∧ get l 10 = I i ∧ get l 3 = I i ∧ ∃ (y : Nat) (d : List Nat), (n2 = (pE y).length ∧ y < 18446744073709551616 ∧ pE (a6S x i) = d ++ pE y) ∧ get l 4 = .int .u64 y ∧ J (a5d x i ++ d.map fun (j : Nat) => 64 * (i : Int) + (j : Int)) H') (pE (a6S x i)).length ?_ ?_
  ·simp (disch := omega) only [RB, RC, simprocAttr, hn, g0, g1, g9, oZ]
   exact ⟨a6S x i, [], ⟨rfl, hwl, rfl⟩, rfl, by rw [gj, dm]; exact hJ⟩
  rintro n2 l H8 ⟨hn, g0, g1, g9, oZ, g3, y, d, ⟨hn2, hy, hbd⟩, g4, hJ2⟩
  simp (disch := omega) only [↓RA, RB, simprocAttr, hn, g4]
  refine iA (fun q2 => ?_) (fun q2 => ?_)
  ·have hy0 : y ≠ 0 := by omega
   have hc := a2R hy0 hy
   have hlow := b3M hy0 hy
   have hGl := (hg _ _ hJ2).2
   have eY1 : IntKind.wrap .u64 ((y : Int) - 1) = ((y - 1 : Nat) : Int) := by
    rw [a9P]
    omega
   have eY2 : IntKind.wrap .u64 ((BitVec.ofInt (IntKind.bits .u64) (y : Int) &&& BitVec.ofInt (IntKind.bits .u64) ((y - 1 : Nat) : Int)).toNat : Int) = ((y &&& (y - 1) : Nat) : Int) := by
    rw [gJ, vB y hy, vB _ (by omega)]
    have := Nat.and_le_left (n := y) (m := y - 1)
    exact nP _ (by omega) (by omega)
   have hyl : y &&& (y - 1) < 18446744073709551616 := Nat.lt_of_le_of_lt Nat.and_le_left hy
   have hmem : pZ x = (a5d x i ++ d.map fun (j : Nat) => 64 * (i : Int) + (j : Int)) ++ (64 * (i : Int) + (ctz y : Int)) :: ((pE (y &&& (y - 1))).map (fun (j : Nat) => 64 * (i : Int) + (j : Int)) ++ ((List.range 2).drop (i + 1)).flatMap (a5u x)) := by
    rw [← a7E]
    unfold a5d
    have e : List.range 2 = List.range i ++ i :: (List.range 2).drop (i + 1) := by
     rcases (by omega : i = 0 ∨ i = 1) with rfl | rfl <;> rfl
    rw [congrArg (List.flatMap (a5u x)) e, dB, dz]
    rw [show a5u x i = (d ++ pE y).map (fun (j : Nat) => 64 * (i : Int) + (j : Int)) from by unfold a5u; rw [hbd]]
    rw [hlow, dL, ey]
    simp only [ek, ig]
   have hc1 := hc.1
   simp (disch := omega) only [↓RA, RZ, simprocAttr, hn, g0, g3, g4, q2]
   refine (sR H8).cF (c4L ((sR H8).gl hGl) y hy0 hy) fun H1 hS1 => ?_
   simp (disch := omega) only [↓RA, RZ, simprocAttr, hn, q2]
   refine a9N (hf _ _ _ _ hmem (hst _ _ _ hJ2 hS1)) ?_
   rintro r H10 ⟨rfl, hJ3⟩
   simp (disch := omega) only [↓RA, RZ, simprocAttr, hn, g0, g1, g9, oZ, g3, g4, q2, eY1, eY2]
   refine ⟨(pE (y &&& (y - 1))).length, by rw [hn2, hlow]; simp, y &&& (y - 1), d ++ [ctz y], ⟨rfl, hyl, by rw [hbd, hlow]; simp⟩, rfl, ?_⟩
   rw [dL, ey, gj, ← ek]
   exact hJ3
  simp (disch := omega) only [↓RA, RZ, simprocAttr, hn, g0, g1, g9, oZ, q2]
  have hy0 : y = 0 := by omega
  subst hy0
  refine ⟨n - 1, by omega, i + 1, by omega, by simp, ?_⟩
  rw [a0z]
  have : a5u x i = d.map fun (j : Nat) => 64 * (i : Int) + (j : Int) := by
   unfold a5u
   rw [hbd, a9e, dm]
  rw [this]
  exact hJ2
 simp (disch := omega) only [↓RA, RZ, simprocAttr, c4Q, q1]
 have e : i = 2 := by omega
 subst e
 rw [← a7E]
 exact hJ
theorem a2r (x : Nt) : (pZ x).length ≤ 128 := by
 unfold pZ
 rw [dj, dK, dK]
 have h1 := a7b x.1 64
 have h2 := a7b x.2 64
 unfold b6y at h1 h2
 unfold pE
 omega
theorem b3i (hG : Glob gH H) (x : Nt) (hx : Nt.Ok x) (A : Nat) (hA : Var H A 2 [.int .u64 x.1, .int .u64 x.2]) :
 Fn prog 153 [.slice none 0 0, .func (.func 154) #[] #[ptr A 0 2]] H fun r H' => St prog H H' [⟨r, 1, (pZ x).flatMap (one I)⟩] := by
 refine .aG func153 rfl (by kernel_rfl) (m := 13) rfl fun l hn g0 g1 => ?_
 simp (disch := omega) only [↓RA, RB, simprocAttr, g0]
 refine (sR H).eNew 1 [(.slice none 0 0)] rfl rfl rfl b3e fun A1 H1 hS1 => ?_
 simp only [RT] at hS1
 simp (disch := omega) only [↓RA, RB, simprocAttr, g1]
 have hS2 := hS1.nil 0
 simp only [RT] at hS2
 refine Wp.cE fun lrg1 hlrg1 => ?_
 have hnrg1 : lrg1.length = 13 := by rw [hlrg1]; simp (disch := omega) only [RB, simprocAttr, hn]
 have g2rg1 : get lrg1 2 = (ptr A1 0 1) := by rw [hlrg1]; simp (disch := omega) only [RB, simprocAttr, hn]
 have g4rg1 : get lrg1 4 = (.slice none 0 0) := by rw [hlrg1]; simp (disch := omega) only [RB, simprocAttr, hn]
 have gfrg1 : get lrg1 6 = .func (.func 154) #[] [(ptr A 0 2)].toArray := by rw [hlrg1]; simp (disch := omega) only [RB, simprocAttr, hn]
 clear hlrg1
 refine Wp.cm gfrg1 fun rg1 hstrg1 hpdrg1 htmrg1 hpsrg1 hasrg1 hbdrg1 => ?_
 have hreqrg1 : ({ rg1 with state := .ready, pending := none } : Loop) = rg1 := by
  cases rg1
  simp only at hstrg1 hpdrg1
  subst hstrg1 hpdrg1
  rfl
 have hLprg1 := Lp.enter hS2 rg1
 generalize H1.cons (.loop rg1) = Hcrg1 at hLprg1 ⊢
 generalize H1.length = Lrg1 at hLprg1 ⊢
 refine (c3a x hx A (.func (.yield Lrg1) #[] #[]) (fun d H1 => ∃ ow, Lp prog H Lrg1 rg1 H1 [⟨ptr A1 0 1, 0, [ow]⟩, ⟨ow, 1, d.flatMap (one I)⟩]) ⟨.slice none 0 0, hLprg1⟩ ?_ ?_ ?_).mono ?_
 ·rintro d H1 ⟨ow, h⟩
  exact ⟨hA.ab h.st.ab, h.st.gl hG⟩
 ·rintro d H1 H2 ⟨ow, h⟩ hS
  exact ⟨ow, by simpa using h.ext hS⟩
 ·rintro d c e H20 hm ⟨ow, hLpj⟩
  have hml := a2r x
  have hdl : d.length < 128 := by
   rw [hm, dj, dT] at hml
   omega
  refine a0T hLpj.get (by rw [hpsrg1]; rfl) hstrg1 ?_
  refine Wp.bO (l := put lrg1 (some 7) (I c)) hasrg1 (by rw [hpsrg1, htmrg1]; first | exact (nE ..).symm | rfl | simp [put, nE]) ?_
  simp (disch := omega) only [↓RA, RZ, simprocAttr, hnrg1]
  refine ⟨rg1, hLpj.get, hstrg1, ?_⟩
  have hYBs1 := hLpj.set (fun h => h) { rg1 with state := .busy }
  have hKBs1 : ∀ B, B ≠ Lrg1 → iS (hset H20 Lrg1 (.loop { rg1 with state := .busy })) B = iS H20 B := fun B h => iY _ (fb h)
  have hNBs1 : (hset H20 Lrg1 (.loop { rg1 with state := .busy })).length = H20.length := jN ..
  generalize hset H20 Lrg1 (.loop { rg1 with state := .busy }) = HBs1 at hYBs1 hKBs1 hNBs1 ⊢
  refine Wp.bO hbdrg1 rfl ?_
  have hZBs1 := hYBs1.st
  obtain ⟨Bs1, hBBs1, hS3⟩ := hZBs1.aB (os := [⟨ptr A1 0 1, 0, _⟩, ⟨ow, 1, _⟩])
  simp (disch := omega) only [↓RA, RZ, simprocAttr, hnrg1, g2rg1, hS3.ld 0 rfl]
  refine hS3.ae [I c] rI xG rfl rfl (by simp [Value.cells]) rfl rfl (by decide) (by decide) fun w1 H2 hS4 => ?_
  simp only [RT] at hS4
  simp (disch := omega) only [↓RA, RZ, simprocAttr, hnrg1]
  refine hS4.al 1 rfl (hS4.rd 2 rfl) rI (by rw [nO, dK]; simp; omega) fun w2 H3 hS5 => ?_
  simp only [RT] at hS5
  simp (disch := omega) only [↓RA, RB, simprocAttr, hnrg1, g2rg1]
  refine hS5.aa 0 rfl [w2] (by rw [(hS5.rd 1 rfl).cells.1]) (by simp [(hS5.rd 1 rfl).cells.2.1]) b3e (by simp) fun H4 hS6 => ?_
  simp only [RT] at hS6
  simp (disch := omega) only [↓RA, simprocAttr]
  have hS7 := hS6.pick (os' := [⟨ptr A1 0 1, 0, _⟩, ⟨w2, 1, _⟩]) [0, 1] (by decide) rfl
  have hWBs1 := (hYBs1.body (hBBs1 ▸ hS7)).set (fun h => h) rg1
  rw [← hreqrg1] at hWBs1
  refine ⟨_, (hYBs1.body (hBBs1 ▸ hS7)).get, rfl, w2, ?_⟩
  rw [dB]
  exact hreqrg1 ▸ hWBs1
 ·rintro _ H21 ⟨ow, hLp2⟩
  refine ⟨_, hLp2.get, (by rw [hstrg1]; exact fun h => by cases h), fun _ => ?_, fun c hc => by rw [hpdrg1] at hc; cases hc⟩
  have hAAf1 := (hLp2.set (fun h => h) { rg1 with state := .exhausted }).st
  have hKAf1 : ∀ B, B ≠ Lrg1 → iS (hset H21 Lrg1 (.loop { rg1 with state := .exhausted })) B = iS H21 B := fun B h => iY _ (fb h)
  generalize hset H21 Lrg1 (.loop { rg1 with state := .exhausted }) = HAf1 at hAAf1 hKAf1 ⊢
  simp (disch := omega) only [↓RA, RZ, simprocAttr, hnrg1, g2rg1, hAAf1.ld 0 rfl, c5p]
  exact hAAf1.pick [1] (by decide) rfl
theorem a9c (hG : Glob gH H) (x : Nt) (hx : Nt.Ok x) (A : Nat) (hA : Var H A 2 [.int .u64 x.1, .int .u64 x.2]) :
 Fn prog 120 [.func (.func 154) #[] #[ptr A 0 2]] H fun r H' => St prog H H' [⟨r, 1, (pZ x).flatMap (one I)⟩] := by
 refine .aU func120 rfl (by kernel_rfl) (m := 5) rfl fun l hn g0 => ?_
 simp (disch := omega) only [↓RA, RZ, simprocAttr, hn, g0]
 refine iG ((b3i ((sR H).gl hG) x hx A (hA.ab (sR H).ab)).tr) ?_
 rintro r H1 ⟨-, hT1⟩
 have hS1 := (sR H).trans hT1
 simp only [RT] at hS1
 simp (disch := omega) only [↓RA, RB, simprocAttr, hn, c5Y]
 exact hS1
theorem b7M (x : Nt) : Fn prog 121 [.agg #[.int .u64 x.1, .int .u64 x.2]] H fun r H' => ∃ A, r = .func (.func 154) #[] #[ptr A 0 2] ∧ St prog H H' [⟨ptr A 0 2, 0, [.int .u64 x.1, .int .u64 x.2]⟩] := by
 refine .aU func121 rfl (by kernel_rfl) (m := 4) rfl fun l hn g0 => ?_
 simp (disch := omega) only [↓RA, RB, simprocAttr, g0]
 refine (sR H).eNew 2 [(.int .u64 x.1), (.int .u64 x.2)] rfl rfl rfl nZ fun A1 H1 hS1 => ?_
 simp only [RT] at hS1
 simp (disch := omega) only [↓RA, RZ, simprocAttr, hn, c5l]
 exact ⟨A1, rfl, hS1⟩
theorem b0G (hG : Glob gH H) (x : Nt) (hx : Nt.Ok x) :
 Fn prog 89 [.agg #[.int .u64 x.1, .int .u64 x.2]] H fun r H' => St prog H H' [⟨r, 1, (pZ x).flatMap (one I)⟩] := by
 refine .aU func89 rfl (by kernel_rfl) (m := 6) rfl fun l hn g0 => ?_
 simp (disch := omega) only [↓RA, RB, simprocAttr, g0]
 refine (sR H).eNew 2 [(.int .u64 x.1), (.int .u64 x.2)] rfl rfl rfl nZ fun A1 H1 hS1 => ?_
 simp only [RT] at hS1
 simp (disch := omega) only [↓RA, RZ, simprocAttr, hn, hS1.ag 0 rfl]
 refine iG (b7M x) ?_
 rintro r H2 ⟨A2, rfl, hT1⟩
 have hS2 := hS1.trans hT1
 simp only [RT] at hS2
 simp (disch := omega) only [↓RA, RZ, simprocAttr, hn]
 refine iG ((a9c (hS2.gl hG) x hx A2 (hS2.var 1 rfl)).tr) ?_
 rintro r H3 ⟨-, hT2⟩
 have hS3 := hS2.trans hT2
 simp only [RT] at hS3
 simp (disch := omega) only [↓RA, RB, simprocAttr, hn, c6A]
 exact hS3.pick [2] (by decide) rfl
def a6F (a b : Nat) : Nat := (BitVec.ofNat 64 a &&& ~~~ BitVec.ofNat 64 b).toNat
theorem a4M (a b : Nat) : a6F a b < 18446744073709551616 := (BitVec.ofNat 64 a &&& ~~~ BitVec.ofNat 64 b).isLt
theorem c1a (a b : Nat) : IntKind.wrap .u64 ((BitVec.ofInt (IntKind.bits .u64) (a : Int) &&& ~~~ BitVec.ofInt (IntKind.bits .u64) (b : Int)).toNat : Int) = ((a6F a b : Nat) : Int) := by
 have e : (BitVec.ofInt (IntKind.bits .u64) (a : Int) &&& ~~~ BitVec.ofInt (IntKind.bits .u64) (b : Int)).toNat = a6F a b := by
  unfold a6F
  rw [fT, fT]
  rfl
 rw [e]
 have := a4M a b
 exact nP _ (by omega) (by omega)
theorem a6U (a b j : Nat) (ha : a < 18446744073709551616) (hj : j < 64) : (a6F a b).testBit j = (a.testBit j && !b.testBit j) := by
 unfold a6F
 have h1 : (BitVec.ofNat 64 a &&& ~~~ BitVec.ofNat 64 b).toNat.testBit j = (BitVec.ofNat 64 a &&& ~~~ BitVec.ofNat 64 b).getLsbD j := rfl
 rw [h1, BitVec.getLsbD_and, BitVec.getLsbD_not, BitVec.getLsbD_ofNat, BitVec.getLsbD_ofNat]
 simp [hj]
def woF (x y : Nt) : Nt := (a6F x.1 y.1, a6F x.2 y.2)
theorem c1v (x y : Nt) : Nt.Ok (woF x y) := ⟨a4M _ _, a4M _ _⟩
theorem c1B (x y : Nt) : Fn prog 62 [.agg #[.int .u64 x.1, .int .u64 x.2], .agg #[.int .u64 y.1, .int .u64 y.2]] H fun r H' => r = .agg #[.int .u64 (woF x y).1, .int .u64 (woF x y).2] ∧ St prog H H' [] := by
 have e1 := c1a x.1 y.1
 have e2 := c1a x.2 y.2
 refine .aG func62 rfl (by kernel_rfl) (m := 16) rfl fun l hn g0 g1 => ?_
 simp (disch := omega) only [↓RA, RB, simprocAttr, g0]
 refine (sR H).eNew 2 [(.int .u64 x.1), (.int .u64 x.2)] rfl rfl rfl nZ fun A1 H1 hS1 => ?_
 simp only [RT] at hS1
 simp (disch := omega) only [↓RA, RB, simprocAttr, g1]
 refine hS1.eNew 2 [(.int .u64 y.1), (.int .u64 y.2)] rfl rfl rfl nZ fun A2 H2 hS2 => ?_
 simp only [RT] at hS2
 simp (disch := omega) only [↓RA, RZ, simprocAttr]
 refine hS2.eNew 2 [(.int .u64 0), (.int .u64 0)] rfl rfl rfl nZ fun A3 H3 hS3 => ?_
 simp only [RT] at hS3
 simp (disch := omega) only [↓RA, RZ, simprocAttr, hn, hS3.ld 0 rfl, hS3.ld 1 rfl, b7h, e1, e2]
 refine hS3.aa 2 rfl [_, _] rfl rfl nZ (by simp) fun H4 hS4 => ?_
 simp only [RT] at hS4
 simp (disch := omega) only [↓RA, RZ, simprocAttr, hn, c6r, hS4.ag 2 rfl]
 exact ⟨rfl, hS4.forget⟩
theorem a9z (x y : Nt) : Fn prog 37 [.agg #[.int .u64 x.1, .int .u64 x.2], .agg #[.int .u64 y.1, .int .u64 y.2]] H fun r H' => r = .bool (decide (woF x y = (0, 0))) ∧ St prog H H' [] := by
 refine .aG func37 rfl (by kernel_rfl) (m := 10) rfl fun l hn g0 g1 => ?_
 simp (disch := omega) only [↓RA, RB, simprocAttr, g0]
 refine (sR H).eNew 2 [(.int .u64 x.1), (.int .u64 x.2)] rfl rfl rfl nZ fun A1 H1 hS1 => ?_
 simp only [RT] at hS1
 simp (disch := omega) only [↓RA, RB, simprocAttr, g1]
 refine hS1.eNew 2 [(.int .u64 y.1), (.int .u64 y.2)] rfl rfl rfl nZ fun A2 H2 hS2 => ?_
 simp only [RT] at hS2
 simp (disch := omega) only [↓RA, RZ, simprocAttr, hn, hS2.ag 0 rfl, hS2.ag 1 rfl]
 refine hS2.cF (c1B x y) fun H3 hS3 => ?_
 simp (disch := omega) only [↓RA, RZ, simprocAttr, hn, b4V, c7g]
 refine ⟨?_, hS3.forget⟩
 congr 1
 rw [decide_eq_decide]
 constructor
 ·rintro ⟨h1, h2⟩
  exact gp (by simpa using h1) (by simpa using h2)
 ·intro h
  rw [h]
  exact ⟨rfl, rfl⟩
def a0l (lo hi : Int) : Nt := jX ((List.range (hi - lo + 1).toNat).map fun (k : Nat) => lo + (k : Int))
theorem b1X (lo hi : Int) (h0 : 0 ≤ lo) (h1 : lo ≤ hi) (h2 : hi ≤ 127) : Fn prog 36 [.agg #[I lo, I hi]] H fun r H' => r = .tuple #[.agg #[.int .u64 (a0l lo hi).1, .int .u64 (a0l lo hi).2], I 0] ∧ St prog H H' [] := by
 have hce : rG lo hi = 0 := by
  unfold rG
  rw [if_neg (by omega), if_neg (by omega)]
 refine .aU func36 rfl (by kernel_rfl) (m := 25) rfl fun l hn g0 => ?_
 simp (disch := omega) only [↓RA, RB, simprocAttr, g0]
 refine (sR H).eNew 2 [I lo, I hi] rfl rfl rfl a1l fun A1 H1 hS1 => ?_
 simp only [RT] at hS1
 simp (disch := omega) only [↓RA, RZ, simprocAttr]
 refine hS1.eNew 2 [(.int .u64 0), (.int .u64 0)] rfl rfl rfl nZ fun A2 H2 hS2 => ?_
 simp only [RT] at hS2
 simp (disch := omega) only [↓RA, RZ, simprocAttr]
 refine hS2.eNew 2 [(.int .u64 0), (.int .u64 0)] rfl rfl rfl nZ fun A3 H3 hS3 => ?_
 simp only [RT] at hS3
 simp (disch := omega) only [↓RA, RZ, simprocAttr, hn, hS3.ag 0 rfl]
 refine hS3.cF (a1x lo hi) fun H4 hS4 => ?_
 rw [hce]
 simp (disch := omega) only [↓RA, RZ, simprocAttr, hn, hS4.ld 0 rfl]
 refine Wp.ak (fun n l H' => l.length = 25 ∧ get l 1 = (ptr A1 0 2) ∧ get l 2 = (ptr A2 0 2) ∧ get l 3 = I 0 ∧ get l 4 = (ptr A3 0 2) ∧ ∃ (j : Nat), (n + j = (hi - lo + 1).toNat) ∧ get l 6 = I (lo + (j : Int)) ∧ St prog H H' [⟨ptr A1 0 2, 0, [I lo, I hi]⟩, ⟨ptr A2 0 2, 0, [(.int .u64 0), (.int .u64 0)]⟩, ⟨ptr A3 0 2, 0, [.int .u64 (jX ((List.range j).map fun (k : Nat) => lo + (k : Int))).1, .int .u64 (jX ((List.range j).map fun (k : Nat) => lo + (k : Int))).2]⟩]) (hi - lo + 1).toNat ?_ ?_
 ·simp (disch := omega) only [RB, RC, simprocAttr, hn]
  exact ⟨0, by omega, by simp, hS4⟩
 rintro n l H5 ⟨hn, g1, g2, g3, g4, j, hj, g6, hS5⟩
 simp (disch := omega) only [↓RA, RZ, simprocAttr, hn, g1, g6, hS5.ld 0 rfl]
 refine iA (fun q1 => ?_) (fun q1 => ?_)
 ·have hok : Nt.Ok (jX ((List.range j).map fun (k : Nat) => lo + (k : Int))) := vN _ _ (fun z h => by
   obtain ⟨k, hk, rfl⟩ := dy.1 h
   have := dx.1 hk
   exact ⟨by omega, by omega⟩) ⟨by decide, by decide⟩
  have hsu : jX ((List.range (j + 1)).map fun (k : Nat) => lo + (k : Int)) = tM (jX ((List.range j).map fun (k : Nat) => lo + (k : Int))) (lo + (j : Int)) := by
   unfold jX
   rw [dX, dL, fh]
   rfl
  simp (disch := omega) only [↓RA, RZ, simprocAttr, hn, g4, g6, hS5.ag 2 rfl, q1]
  refine hS5.cF (a6Q (jX ((List.range j).map fun (k : Nat) => lo + (k : Int))) hok (lo + (j : Int)) (by omega) (by omega)) fun H6 hS6 => ?_
  simp (disch := omega) only [↓RA, RZ, simprocAttr, hn, g4, q1]
  refine hS6.aa 2 rfl [(.int .u64 (tM (jX ((List.range j).map fun (k : Nat) => lo + (k : Int))) (lo + (j : Int))).1), (.int .u64 (tM (jX ((List.range j).map fun (k : Nat) => lo + (k : Int))) (lo + (j : Int))).2)] rfl rfl nZ (by simp) fun H7 hS7 => ?_
  simp only [RT] at hS7
  simp (disch := omega) only [↓RA, RZ, simprocAttr, hn, g1, g2, g3, g4, g6, q1]
  refine ⟨n - 1, by omega, j + 1, by omega, by congr 1; omega, ?_⟩
  rw [hsu]
  exact hS7.pick [0, 1, 2] (by decide) rfl
 have hjj : j = (hi - lo + 1).toNat := by omega
 simp (disch := omega) only [↓RA, RZ, simprocAttr, hn, g2, g4, hS5.ag 2 rfl, q1]
 refine hS5.aa 1 rfl [(.int .u64 (jX ((List.range j).map fun (k : Nat) => lo + (k : Int))).1), (.int .u64 (jX ((List.range j).map fun (k : Nat) => lo + (k : Int))).2)] rfl rfl nZ (by simp) fun H8 hS8 => ?_
 simp only [RT] at hS8
 simp (disch := omega) only [↓RA, RZ, simprocAttr, hn, g2, c7B, hS8.ag 1 rfl, q1]
 rw [hjj]
 exact ⟨rfl, hS8.forget⟩
structure Ks (H : Heap) (kv : Value) (ks : List Nt) : Prop where
 sl : Sl 2 ntc H kv ks
 len : ks.length < 1000000000
 ok : ∀ x ∈ ks, Nt.Ok x
theorem Ks.ab {P : Program} {H' : Heap} {kv : Value} {ks : List Nt} {os : List Ob} (h : Ks H kv ks) (hS : St P H H' os) : Ks H' kv ks := ⟨hS.sl h.sl, h.len, h.ok⟩
def mE (o : Org) (ks : List Nt) : Int := if organE o ≠ 0 then organE o else if ks.length ≠ o.dvs.length then 5 else if ∃ j, j < o.dvs.length ∧ woF (iB ks j) (a0l (iB o.dvs j).lo (iB o.dvs j).hi) ≠ (0, 0) then 23 else 0
theorem a8j (o : Org) (ho : o.In H) (kv : Value) (ks : List Nt) (hk : Ks H kv ks) : Fn prog 17 [.agg #[.string o.name, o.rv, o.dv, o.cv], kv] H fun r H' => r = I (mE o ks) ∧ St prog H H' [] := by
 have hkl := hk.len
 have hdl := ho.2.2.2.2.2.2.1
 refine .aG func17 rfl (by kernel_rfl) (m := 43) rfl fun l hn g0 g1 => ?_
 simp (disch := omega) only [↓RA, RB, simprocAttr, g0]
 refine (sR H).eNew 4 [(.string o.name), o.rv, o.dv, o.cv] rfl rfl (by simp [OC, ((sR H).sl ho.1).cells.2.1, ((sR H).sl ho.2.2.1).cells.2.1, ((sR H).sl ho.2.2.2.2.1).cells.2.1]) lO fun A1 H1 hS1 => ?_
 simp only [RT] at hS1
 simp (disch := omega) only [↓RA, RZ, simprocAttr, hn, hS1.ag 0 rfl]
 refine hS1.cF (zC o (ho.ab hS1)) fun H2 hS2 => ?_
 simp (disch := omega) only [↓RA, RB, simprocAttr, hn]
 refine iA (fun h1 => ?_) (fun h1 => ?_)
 ·simp (disch := omega) only [↓RA, RZ, simprocAttr, hn, c0m, h1]
  exact ⟨by unfold mE; rw [if_pos h1], hS2.forget⟩
 have hz : organE o = 0 := dw.1 h1
 have hf := Org.aO hz
 simp (disch := omega) only [↓RA, RZ, simprocAttr, hn, g1, (hS2.sl hk.sl).len, hS2.ld 0 rfl, (hS2.sl ho.2.2.1).len, h1]
 refine iA (fun h2 => ?_) (fun h2 => ?_)
 ·simp (disch := omega) only [↓RA, RZ, simprocAttr, hn, c0m, h1, h2]
  exact ⟨by unfold mE; rw [if_neg h1, if_pos (by omega)], hS2.forget⟩
 have hlen : ks.length = o.dvs.length := by omega
 simp (disch := omega) only [↓RA, RZ, simprocAttr, hn, hS2.ld 0 rfl, (hS2.sl ho.2.2.1).len, h1, h2]
 refine Wp.ak (fun n l H' => l.length = 43 ∧ get l 1 = kv ∧ get l 22 = o.dv ∧ get l 23 = I o.dvs.length ∧ ∃ (j : Nat), (n + j = o.dvs.length ∧ ∀ q, q < j → woF (iB ks q) (a0l (iB o.dvs q).lo (iB o.dvs q).hi) = (0, 0)) ∧ get l 24 = I j ∧ St prog H H' [⟨ptr A1 0 4, 0, [(.string o.name), o.rv, o.dv, o.cv]⟩]) o.dvs.length ?_ ?_
 ·simp (disch := omega) only [RB, RC, simprocAttr, hn, g1]
  exact ⟨0, ⟨by omega, fun q hq => absurd hq (dO _)⟩, rfl, hS2⟩
 rintro n l H3 ⟨hn, g1, g22, g23, j, ⟨hj,hq⟩, g24, hS3⟩
 simp (disch := omega) only [↓RA, RB, simprocAttr, hn, g23, g24]
 refine iA (fun h3 => ?_) (fun h3 => ?_)
 ·have hky := hf.keys j (by omega)
  simp (disch := omega) only [↓RA, RZ, simprocAttr, hn, g22, g24, (hS3.sl ho.2.2.1).idx, (hS3.sl ho.2.2.1).ag, Dvn.cells, h3]
  refine hS3.eNew 5 [(.string ⟨#[]⟩), (.bool false), I 0, I 0, (.slice none 0 0)] rfl rfl rfl yQ fun A2 H4 hS4 => ?_
  simp only [RT] at hS4
  simp (disch := omega) only [↓RA, RZ, simprocAttr, hn, h3]
  refine hS4.aa 1 rfl [(.string (iB o.dvs j).name), (.bool (iB o.dvs j).pedal), I (iB o.dvs j).lo, I (iB o.dvs j).hi, (iB o.dvs j).sv] rfl (by simp [OC, (hS4.sl (ho.2.2.2.1 (iB o.dvs j) (iD (by omega))).1).cells.2.1]) yQ (by simp) fun H5 hS5 => ?_
  simp only [RT] at hS5
  simp (disch := omega) only [↓RA, RZ, simprocAttr, hn, hS5.ag 1 rfl, h3]
  refine hS5.cF (b1X (iB o.dvs j).lo (iB o.dvs j).hi hky.1 hky.2.1 hky.2.2) fun H6 hS6 => ?_
  simp (disch := omega) only [↓RA, RZ, simprocAttr, hn, h3]
  refine hS6.eNew 2 [(.int .u64 0), (.int .u64 0)] rfl rfl rfl nZ fun A3 H7 hS7 => ?_
  simp only [RT] at hS7
  simp (disch := omega) only [↓RA, RZ, simprocAttr, hn, h3]
  refine hS7.aa 2 rfl [(.int .u64 (a0l (iB o.dvs j).lo (iB o.dvs j).hi).1), (.int .u64 (a0l (iB o.dvs j).lo (iB o.dvs j).hi).2)] rfl rfl nZ (by simp) fun H8 hS8 => ?_
  simp only [RT] at hS8
  simp (disch := omega) only [↓RA, RZ, simprocAttr, hn, h3]
  refine Wp.drw jY (by kernel_rfl) ?_
  simp (disch := omega) only [↓RA, RZ, simprocAttr, hn, g1, (hS8.sl hk.sl).idx, (hS8.sl hk.sl).ag, ntc, hS8.ag 2 rfl]
  refine hS8.cF (a9z (iB ks j) (a0l (iB o.dvs j).lo (iB o.dvs j).hi)) fun H9 hS9 => ?_
  simp (disch := omega) only [↓RA, RB, simprocAttr, hn]
  refine jO (fun h4 => ?_) (fun h4 => ?_)
  ·have h5 : ¬ woF (iB ks j) (a0l (iB o.dvs j).lo (iB o.dvs j).hi) = (0, 0) := by simpa using h4
   simp (disch := omega) only [↓RA, RB, simprocAttr, hn, c0m, h4]
   exact ⟨by unfold mE; rw [if_neg h1, if_neg (by omega), if_pos ⟨j, by omega, h5⟩], hS9.forget⟩
  have h5 : woF (iB ks j) (a0l (iB o.dvs j).lo (iB o.dvs j).hi) = (0, 0) := by simpa using h4
  simp (disch := omega) only [↓RA, RZ, simprocAttr, hn, g1, g22, g23, g24, h4]
  exact ⟨n - 1, by omega, j + 1, ⟨by omega, fun q hq' => by rcases du.1 hq' with e | e; (· exact hq q e); (· rw [e]; exact h5)⟩, by simp, hS9.pick [0] (by decide) rfl⟩
 simp (disch := omega) only [↓RA, RZ, simprocAttr, hn, c0m, h3]
 refine ⟨?_, hS3.forget⟩
 unfold mE
 rw [if_neg h1, if_neg (by omega), if_neg]
 rintro ⟨q, hq1, hq2⟩
 exact hq2 (hq q (by omega))
def plD (ks : List Nt) (i : Nat) : List Ct := (pZ (iB ks i)).map fun z => ((i : Int), z)
def iF (ks : List Nt) : List Ct := (List.range ks.length).flatMap (plD ks)
theorem c2m (ks : List Nt) (i : Nat) : (plD ks i).length ≤ 128 := by
 unfold plD
 rw [dK]
 exact a2r _
theorem a7V (ks : List Nt) : ∀ i, ((List.range i).flatMap (plD ks)).length ≤ i * 128
 | 0 => by simp
 | i + 1 => by
   have := a7V ks i
   have := c2m ks i
   rw [dX, dB, dj, dz, ew, dm]
   omega
theorem a3X (hG : Glob gH H) (kv : Value) (ks : List Nt) (hk : Ks H kv ks) (h8 : ks.length ≤ 8) : Fn prog 65 [kv] H fun r H' => St prog H H' [⟨r, 2, pr (iF ks)⟩] := by
 refine .aU func65 rfl (by kernel_rfl) (m := 31) rfl fun l hn g0 => ?_
 simp (disch := omega) only [↓RA, RZ, simprocAttr, hn, g0, ((sR H).sl hk.sl).len]
 have hS1 := (sR H).nil 1
 simp only [RT] at hS1
 refine Wp.ak (fun n l H' => l.length = 31 ∧ get l 2 = (.slice none 0 0) ∧ get l 8 = kv ∧ get l 9 = I ks.length ∧ ∃ (i : Nat) (ov : Value), (n + i = ks.length) ∧ get l 10 = I i ∧ get l 3 = ov ∧ St prog H H' [⟨ov, 2, pr ((List.range i).flatMap (plD ks))⟩]) ks.length ?_ ?_
 ·simp (disch := omega) only [RB, RC, simprocAttr, hn]
  exact ⟨0, .slice none 0 0, by omega, rfl, rfl, hS1⟩
 rintro n l H1 ⟨hn, g2, g8, g9, i, ov, hi, oZ, g3, hS2⟩
 simp (disch := omega) only [↓RA, RB, simprocAttr, hn, g9, oZ]
 refine iA (fun q1 => ?_) (fun q1 => ?_)
 ·have hmo := hk.ok _ (iD (xs := ks) (j := i) (by omega))
  have hml := a2r (iB ks i)
  have hpl := a7V ks i
  simp (disch := omega) only [↓RA, RZ, simprocAttr, hn, g8, oZ, (hS2.sl hk.sl).idx, (hS2.sl hk.sl).ag, ntc, q1]
  refine hS2.eNew 2 [(.int .u64 0), (.int .u64 0)] rfl rfl rfl nZ fun A1 H2 hS3 => ?_
  simp only [RT] at hS3
  simp (disch := omega) only [↓RA, RZ, simprocAttr, hn, q1]
  refine hS3.aa 1 rfl [(.int .u64 (iB ks i).1), (.int .u64 (iB ks i).2)] rfl rfl nZ (by simp) fun H3 hS4 => ?_
  simp only [RT] at hS4
  simp (disch := omega) only [↓RA, RZ, simprocAttr, hn, hS4.ag 1 rfl, q1]
  refine iG ((b0G (hS4.gl hG) (iB ks i) hmo).tr) ?_
  rintro r H4 ⟨-, hT1⟩
  have hS5 := hS4.trans hT1
  simp only [RT] at hS5
  obtain ⟨mw, rfl⟩ : ∃ w, w = r := ⟨r, rfl⟩
  simp (disch := omega) only [↓RA, RZ, simprocAttr, hn, (hS5.aw 2 rfl (fun _ => rfl)).len, q1]
  refine Wp.ak (fun n l H' => l.length = 31 ∧ get l 2 = (.slice none 0 0) ∧ get l 4 = I i ∧ get l 8 = kv ∧ get l 9 = I ks.length ∧ get l 10 = I i ∧ get l 16 = mw ∧ get l 17 = I (pZ (iB ks i)).length ∧ ∃ (j : Nat) (ow : Value), (n + j = (pZ (iB ks i)).length) ∧ get l 18 = I j ∧ get l 3 = ow ∧ St prog H H' [⟨ow, 2, pr ((List.range i).flatMap (plD ks) ++ ((pZ (iB ks i)).take j).map fun z => ((i : Int), z))⟩, ⟨ptr A1 0 2, 0, [(.int .u64 (iB ks i).1), (.int .u64 (iB ks i).2)]⟩, ⟨mw, 1, (pZ (iB ks i)).flatMap (one I)⟩]) (pZ (iB ks i)).length ?_ ?_
  ·simp (disch := omega) only [RB, RC, simprocAttr, hn, g2, g8, g9, oZ, g3]
   refine ⟨0, ov, by omega, rfl, rfl, ?_⟩
   rw [List.take_zero, gj, dm]
   exact hS5
  rintro n l H5 ⟨hn, g2, g4, g8, g9, oZ, g16, g17, j, ow, hj, g18, g3, hS6⟩
  simp (disch := omega) only [↓RA, RB, simprocAttr, hn, g17, g18]
  refine iA (fun q2 => ?_) (fun q2 => ?_)
  ·have hroom : (pr ((List.range i).flatMap (plD ks) ++ ((pZ (iB ks i)).take j).map fun z => ((i : Int), z))).length ≤ 4000 := by
    rw [iI, dj, dK, ff]
    omega
   simp (disch := omega) only [↓RA, RZ, simprocAttr, hn, g4, g16, g18, g3, (hS6.aw 2 rfl (fun _ => rfl)).idx, (hS6.aw 2 rfl (fun _ => rfl)).ld, one, qX, q2]
   refine hS6.ae [I i, I (iB (pZ (iB ks i)) j)] mJ uP rfl rfl (by simp [Value.cells]) rfl rfl (by decide) (by decide) fun w1 H6 hS7 => ?_
   simp only [RT] at hS7
   simp (disch := omega) only [↓RA, RZ, simprocAttr, hn, q2]
   refine hS7.al 0 rfl (hS7.rd 3 rfl) mJ (by have h := hroom; simp only [dT, ef]; omega) fun w2 H7 hS8 => ?_
   simp only [RT] at hS8
   simp (disch := omega) only [↓RA, RZ, simprocAttr, hn, g2, g4, g8, g9, oZ, g16, g17, g18, q2]
   refine ⟨n - 1, by omega, j + 1, w2, by omega, by simp, rfl, ?_⟩
   rw [List.take_add_one, dp (by omega), Option.toList_some, dL, ← ek, jI]
   rw [show (pZ (iB ks i))[j] = iB (pZ (iB ks i)) j from (jU _ _ (by omega)).symm]
   exact hS8.pick [0, 1, 2] (by decide) rfl
  simp (disch := omega) only [↓RA, RZ, simprocAttr, hn, g2, g8, g9, oZ, g3, q2]
  have hjj : j = (pZ (iB ks i)).length := by omega
  refine ⟨ks.length - (i + 1), by omega, i + 1, ow, by omega, by simp, rfl, ?_⟩
  rw [dX, dB, dz, ew, dm]
  rw [show plD ks i = ((pZ (iB ks i)).take j).map (fun z => ((i : Int), z)) from by rw [hjj, dM]; rfl]
  exact hS6.pick [0] (by decide) rfl
 have hii : i = ks.length := by omega
 simp (disch := omega) only [↓RA, RZ, simprocAttr, hn, g3, c7c, q1]
 have hfin := hS2
 rw [hii] at hfin
 exact hfin
end Go.Ds
namespace Go.Ds
open Go.Proofs Go.Proofs.Tryz Go.ChangeShapes Go.WideShapes Go.RowKit Go.Deep
set_option maxRecDepth 10000
structure RgI (H : Heap) (r : Reg) (sv : Value) : Prop where
 sl : Sl 1 (one u64) H sv r.stops
 len : r.stops.length < 9223372036854775808
 ok : ∀ x ∈ r.stops, x < 18446744073709551616
 cpl : r.cpl < 18446744073709551616
 off : r.off < 18446744073709551616
structure KsI (H : Heap) (kv : Value) (ks : List Nt) : Prop where
 sl : Sl 2 ntc H kv ks
 len : ks.length < 9223372036854775808
 ok : ∀ x ∈ ks, Nt.Ok x
theorem RgI.ext {ρ ρ' : Rho} {H H' : Heap} {r : Reg} {sv : Value} (h : RgI H r sv) (e : ExtW ρ H ρ' H') : RgI H' r sv := ⟨h.sl.ext e, h.len, h.ok, h.cpl, h.off⟩
theorem RgI.ab {P : Program} {H H0 : Heap} {os : List Ob} {r : Reg} {sv : Value} (h : RgI H0 r sv) (hS : St P H0 H os) : RgI H r sv := ⟨hS.sl h.sl, h.len, h.ok, h.cpl, h.off⟩
theorem KsI.ab {P : Program} {H H0 : Heap} {os : List Ob} {kv : Value} {ks : List Nt} (h : KsI H0 kv ks) (hS : St P H0 H os) : KsI H kv ks := ⟨hS.sl h.sl, h.len, h.ok⟩
theorem RgI.reg {H : Heap} {r : Reg} {sv : Value} (h : RgI H r sv) (hl : r.stops.length < 1000000000) : r.In H sv := ⟨h.sl, hl, h.ok, h.cpl, h.off⟩
theorem KsI.ks {H : Heap} {kv : Value} {ks : List Nt} (h : KsI H kv ks) (hl : ks.length < 1000000000) : Ks H kv ks := ⟨h.sl, hl, h.ok⟩
theorem Pln.In.ext {ρ ρ' : Rho} {H H' : Heap} {p : Pln} (h : p.In H) (e : ExtW ρ H ρ' H') : p.In H' := ⟨h.1.ext e, h.2.1.ext e, fun b hb => ⟨(h.2.2.1 b hb).1.ext e, (h.2.2.1 b hb).2⟩, h.2.2.2.1.ext e, h.2.2.2.2⟩
section
variable {H0 : Type} {enc : TypeId × Value → H0} {w : World} {base n : Nat} {spare : Nat → Bool} {kS : Bool} {x : DataW H0 × List MemPlace}
theorem b9F {cs : List Value} (h : DataW.trod enc prog w base spare kS n 38 cs = some x) : ∃ m : Nat, cs = one u64 m ∧ m < 18446744073709551616 := by
 obtain ⟨m, hv, _, hw⟩ := DataW.trod_int underlying38 h
 have hm : 0 ≤ m ∧ m ≤ 18446744073709551615 := by simpa [Lit.wf, IntKind.min, IntKind.max, IntKind.signed, IntKind.bits] using hw
 refine ⟨m.toNat, ?_, by omega⟩
 rw [hv]
 show _ = [Value.int .u64 ((m.toNat : Nat) : Int)]
 rw [fB hm.1]
theorem u64_in {v : Value} (h : DataW.trod enc prog w base spare kS n 38 [v] = some x) : ∃ m : Nat, v = .int .u64 m ∧ m < 18446744073709551616 := by
 obtain ⟨m, hv, hm⟩ := b9F h
 exact ⟨m, by simpa [one, u64] using hv, hm⟩
end
section
variable {H0 : Type} {enc : TypeId × Value → H0} {w : World} {base fuel : Nat} {kS : Bool} {x : DataW H0 × List MemPlace} {ρ : Rho} {H : Heap}
end
theorem c6H : iE prog 44 = some 3 := by kernel_rfl
structure K3 where
 a : Nat
 b : Nat
 c : Nat
 deriving Inhabited
def K3.cells (k : K3) : List Value := [.int .u16 k.a, .int .u16 k.b, .int .u16 k.c]
def K3.Ok (k : K3) : Prop := k.a < 65536 ∧ k.b < 65536 ∧ k.c < 65536
def K3.fn (k : K3) : Nat → Nat
 | 0 => k.a
 | 1 => k.b
 | _ => k.c
theorem K3.Ok.fn {k : K3} (h : k.Ok) : ∀ i, k.fn i < 65536 := fun i => by
 match i with
 | 0 => exact h.1
 | 1 => exact h.2.1
 | _ + 2 => exact h.2.2
structure K3I (H : Heap) (lv : Value) (ls : List K3) : Prop where
 sl : Sl 3 K3.cells H lv ls
 len : ls.length < 9223372036854775808
 ok : ∀ x ∈ ls, K3.Ok x
theorem K3I.ext {ρ ρ' : Rho} {H H' : Heap} {lv : Value} {ls : List K3} (h : K3I H lv ls) (e : ExtW ρ H ρ' H') : K3I H' lv ls := ⟨h.sl.ext e, h.len, h.ok⟩
theorem K3I.ab {P : Program} {H H0 : Heap} {os : List Ob} {lv : Value} {ls : List K3} (h : K3I H0 lv ls) (hS : St P H0 H os) : K3I H lv ls := ⟨hS.sl h.sl, h.len, h.ok⟩
section
variable {H0 : Type} {enc : TypeId × Value → H0} {w : World} {base : Nat} {kS : Bool} {ρ : Rho} {H : Heap}
theorem c1H {v0 : Value} {d0 : DataW H0} {p0 : List MemPlace} {c0 : Nat} (h : InW prog ρ H w) {b0 : Nat} {cur0 : Array Value} {t0 : TypeId} {fr0 : Nat × Nat} (hb0 : w.heap[b0]? = some (.cells cur0 t0 fr0)) (h0 : DataW.Trod enc prog w base (fun _ => true) kS 28 v0 d0 p0) (hval : Value.okWide prog w .any c0 28 v0) :
 ∃ (ρ' : Rho) (H' : Heap) (lv : Value) (ls : List K3), InW prog ρ' H' w ∧ ExtW ρ H ρ' H' ∧ V ρ' lv v0 ∧ K3I H' lv ls := by
 obtain ⟨a, len, cap, rfl⟩ := okWide_slice underlying28 hval
 obtain ⟨fuel, hf⟩ := h0
 obtain ⟨ρ1, H1, v1, xs, i1, i2, i3, i4, i5, i6⟩ := a1E (cel := K3.cells) (ok := K3.Ok) underlying28 c4P c6H (by decide) (fun _ => rfl) (fun x c hc => by
  simp only [K3.cells, dS, dU, or_false] at hc
  rcases hc with rfl | rfl | rfl <;> rfl) (fun hh => by
   obtain ⟨b, hb, e⟩ := c2t hh
   exact ⟨⟨b 0, b 1, b 2⟩, e, hb 0, hb 1, hb 2⟩) h hb0 hf
 exact ⟨ρ1, H1, v1, xs, i1, i2, .v1 (.c1 i3), i4, i6, i5⟩
end
end Go.Ds
namespace Go.Ds
open Go.Proofs
set_option maxRecDepth 10000
def xE (x y : Int × Int) : Prop := x.1 < y.1 ∨ (x.1 = y.1 ∧ x.2 < y.2)
theorem a1F {x : Int × Int} : ¬ xE x x := by unfold xE; omega
theorem a0E {x y z : Int × Int} (h : xE x y) (k : xE y z) : xE x z := by unfold xE at *; omega
theorem vP : ∀ (l m : List (Int × Int)), l.Pairwise xE → m.Pairwise xE → (∀ x, x ∈ l ↔ x ∈ m) → l = m
 | [], [], _, _, _ => rfl
 | [], b :: m, _, _, h => absurd ((h b).2 (dJ ..)) dU
 | a :: l, [], _, _, h => absurd ((h a).1 (dJ ..)) dU
 | a :: l, b :: m, hl, hm, h => by
   rw [gS] at hl hm
   have hab : a = b := by
    rcases dS.1 ((h a).1 (dJ ..)) with e | e
    ·exact e
    ·rcases dS.1 ((h b).2 (dJ ..)) with e2 | e2
     ·exact e2.symm
     ·exact absurd (a0E (hm.1 a e) (hl.1 b e2)) a1F
   subst hab
   congr 1
   refine vP l m hl.2 hm.2 fun x => ?_
   constructor
   ·intro hx
    rcases dS.1 ((h x).1 (dV _ hx)) with e | e
    ·subst e
     exact absurd (hl.1 x hx) a1F
    ·exact e
   ·intro hx
    rcases dS.1 ((h x).2 (dV _ hx)) with e | e
    ·subst e
     exact absurd (hm.1 x hx) a1F
    ·exact e
theorem b6c {es : List (Int × Int)} (h : es.Pairwise fun a b => le2 a b = true) {i j : Nat} (hij : i < j) (hj : j < es.length) : le2 (iB es i) (iB es j) = true := by
 rw [jU _ _ (by omega), jU _ _ hj]
 exact eH.1 h i j (by omega) hj hij
theorem b0t {es : List (Int × Int)} (h : es.Pairwise fun a b => le2 a b = true) : ∀ m, m ≤ es.length → (yP es m).Pairwise xE ∧ ∀ x, x ∈ yP es m ↔ ∃ j, j < m ∧ iB es j = x
 | 0, _ => ⟨by simp [yP], fun x => by simp [yP]⟩
 | m + 1, hm => by
   obtain ⟨h1, h2⟩ := b0t h m (by omega)
   rw [sG]
   by_cases hc : m = 0 ∨ iB es m ≠ iB es (m - 1)
   ·rw [if_pos hc]
    refine ⟨?_, fun x => ?_⟩
    ·rw [eY]
     refine ⟨h1, by simp, fun a ha b hb => ?_⟩
     obtain ⟨j, hj, rfl⟩ := (h2 a).1 ha
     obtain rfl := dC.1 hb
     have h3 := (nT _ _).1 (b6c h hj (by omega))
     rcases hc with hc | hc
     ·omega
     ·by_cases he : j = m - 1
      ·subst he
       have hne : ¬ (iB es (m - 1) = iB es m) := fun e => hc e.symm
       rw [Prod.ext_iff] at hne
       unfold xE
       omega
      ·have h4 := (nT _ _).1 (b6c h (show j < m - 1 by omega) (by omega))
       have h5 := (nT _ _).1 (b6c h (show m - 1 < m by omega) (by omega))
       have hne : ¬ (iB es (m - 1) = iB es m) := fun e => hc e.symm
       rw [Prod.ext_iff] at hne
       unfold xE
       omega
    ·rw [dG, h2, dC]
     constructor
     ·rintro (⟨j, hj, e⟩ | e)
      ·exact ⟨j, by omega, e⟩
      ·exact ⟨m, by omega, e.symm⟩
     ·rintro ⟨j, hj, e⟩
      rcases du.1 hj with e2 | e2
      ·exact .inl ⟨j, e2, e⟩
      ·subst e2
       exact .inr e.symm
   ·rw [if_neg hc, dm]
    refine ⟨h1, fun x => ?_⟩
    rw [h2]
    constructor
    ·rintro ⟨j, hj, e⟩
     exact ⟨j, by omega, e⟩
    ·rintro ⟨j, hj, e⟩
     rcases du.1 hj with e2 | e2
     ·exact ⟨j, e2, e⟩
     ·subst e2
      have hc' : ¬ (j = 0) ∧ iB es j = iB es (j - 1) := ⟨fun e => hc (.inl e), fP fun e => hc (.inr e)⟩
      exact ⟨j - 1, by omega, by rw [← hc'.2]; exact e⟩
theorem a5S (l : List (Int × Int)) : (dd (pA l)).Pairwise xE := (b0t (tC l) _ (dg _)).1
theorem rN {l : List (Int × Int)} {x : Int × Int} : x ∈ dd (pA l) ↔ x ∈ l := by
 unfold dd
 rw [(b0t (tC l) _ (dg _)).2 x, ← (mV l).mem_iff]
 constructor
 ·rintro ⟨j, hj, rfl⟩
  exact iD hj
 ·intro hx
  obtain ⟨j, hj, e⟩ := dQ.1 hx
  exact ⟨j, hj, by rw [jU _ _ hj]; exact e⟩
theorem b1J {l m : List (Int × Int)} (h : ∀ x, x ∈ l ↔ x ∈ m) : dd (pA l) = dd (pA m) :=
 vP _ _ (a5S l) (a5S m) fun x => by rw [rN, rN, h]
inductive Star {α : Type} (R : α → α → Prop) : α → α → Prop
 | refl (a : α) : Star R a a
 | tail {a b c : α} : Star R a b → R b c → Star R a c
theorem a2C (o : Org) (cp : Nat) (l : List Ct) : Que o (kK o cp l) := by
 unfold kK
 have h : ∀ (l : List Ct) (q : List Ct), Que o q → Que o (l.foldl (fun q c => stepF o cp false c q) q) := by
  intro l
  induction l with
  | nil => exact fun q h => h
  | cons a l ih => exact fun q h => ih _ (h.stepF cp false a)
 exact h l [] (Que.nil o)
theorem b3Y (o : Org) (r : Reg) (l : List Ct) : (lK o r l).Pairwise xE := a5S _
def IsP (o : Org) (p : Ct) : Prop := 0 ≤ p.1 ∧ p.1 < o.ranks.length ∧ 0 ≤ p.2 ∧ p.2 < (iB o.ranks p.1.toNat).wind.length
theorem a9J {rs : List Rk} {s : Stp} {key : Int} {p : Ct} (h : p ∈ qB rs s key) : 0 ≤ p.1 ∧ p.1 < rs.length ∧ 0 ≤ p.2 ∧ p.2 < (iB rs p.1.toNat).wind.length := by
 unfold qB at h
 obtain ⟨d, hd, rfl⟩ := dy.1 (rN.1 h)
 have hh := (eu.1 hd).2
 unfold qY at hh
 rw [cV, cV, dE, decide_eq_true_eq, decide_eq_true_eq, decide_eq_false_iff_not] at hh
 obtain ⟨⟨h1, h2⟩, h3⟩ := hh
 have e : (mL rs d key).1 = d.rank := by unfold mL; rw [if_neg h1]
 rw [e]
 exact ⟨by omega, by omega, h2, h3⟩
theorem wY {o : Org} {r : Reg} {c p : Ct} (h : p ∈ mH o r c) : IsP o p := by
 unfold mH at h
 obtain ⟨i, _, h⟩ := dZ.1 h
 split at h
 ·exact a9J h
 ·exact absurd h dU
theorem a6x {o : Org} {r : Reg} {l : List Ct} {p : Ct} (h : p ∈ uE o r l) : IsP o p := by
 unfold uE at h
 obtain ⟨c, _, h⟩ := dZ.1 (rN.1 h)
 exact wY h
theorem sT {o : Org} {r : Reg} {l : List Ct} {p : Ct} (h : p ∈ lK o r l) : IsP o p := a6x h
theorem b9o {o : Org} {r : Reg} {c p : Ct} (h : p ∈ ofF o r c) : IsP o p := by
 unfold ofF at h
 split at h
 ·exact sT h
 ·exact absurd h dU
theorem IsP.small {o : Org} {H : Heap} (hf : o.Fine) (ho : o.In H) {p : Ct} (h : IsP o p) : -1000000000 ≤ p.1 ∧ p.1 ≤ 1000000000 ∧ -1000000000 ≤ p.2 ∧ p.2 ≤ 1000000000 := by
 obtain ⟨h1, h2, h3, h4⟩ := h
 have hr := (ho.2.1 _ (iD (xs := o.ranks) (j := p.1.toNat) (by omega))).2
 have := hf.rlen
 exact ⟨by omega, by omega, by omega, by omega⟩
theorem rZ {o : Org} (hf : o.Fine) (rg : Reg) {l : List Ct} (hl : l.length ≤ 1024) (ho : ∀ c ∈ kF o rg l, mG o c = true) : (lK o rg l).length ≤ 1000000 := by
 have h1 := sJ hf rg (kF o rg l) ho
 have h2 := tL hf (rg := rg) hl
 have h3 := a7w (pA ((kF o rg l).flatMap (mH o rg)))
 rw [lT] at h3
 have : (lK o rg l).length ≤ (kF o rg l).length * 480 := dA h3 h1
 omega
def nV (x : Nt) (z : Int) : Bool := if z < 64 then x.1.testBit z.toNat else x.2.testBit (z - 64).toNat
theorem sA {x i : Nat} : i ∈ pE x ↔ i < 64 ∧ x.testBit i = true := by
 unfold pE
 rw [eu, dx]
theorem a1X {x : Nt} {z : Int} : z ∈ pZ x ↔ isN z ∧ nV x z = true := by
 unfold pZ nV isN
 rw [dG, dy, dy]
 constructor
 ·rintro (⟨i, hi, rfl⟩ | ⟨i, hi, rfl⟩)
  ·obtain ⟨h1, h2⟩ := sA.1 hi
   exact ⟨by omega, by rw [if_pos (by omega)]; exact h2⟩
  ·obtain ⟨h1, h2⟩ := sA.1 hi
   refine ⟨by omega, ?_⟩
   rw [if_neg (by omega), show (64 + (i : Int) - 64).toNat = i by omega]
   exact h2
 ·rintro ⟨h1, h2⟩
  by_cases h : z < 64
  ·rw [if_pos h] at h2
   exact .inl ⟨z.toNat, sA.2 ⟨by omega, h2⟩, by omega⟩
  ·rw [if_neg h] at h2
   exact .inr ⟨(z - 64).toNat, sA.2 ⟨by omega, h2⟩, by omega⟩
theorem b4F (x : Nt) (n z : Int) (hn : isN n) (hz : isN z) : nV (tM x n) z = (nV x z || decide (z = n)) := by
 unfold nV tM isN at *
 by_cases h1 : n < 64
 ·rw [if_pos h1]
  by_cases h2 : z < 64
  ·rw [if_pos h2, if_pos h2, Nat.testBit_or, fZ]
   congr 1
   rw [decide_eq_decide]
   omega
  ·rw [if_neg h2, if_neg h2, decide_eq_false (by omega), Bool.or_false]
 ·rw [if_neg h1]
  by_cases h2 : z < 64
  ·rw [if_pos h2, if_pos h2, decide_eq_false (by omega), Bool.or_false]
  ·rw [if_neg h2, if_neg h2, Nat.testBit_or, fZ]
   congr 1
   rw [decide_eq_decide]
   omega
theorem a4H (z : Int) : nV (0, 0) z = false := by
 unfold nV
 split <;> simp
theorem a3Q : ∀ (xs : List Int) (x : Nt) (z : Int), (∀ n ∈ xs, isN n) → isN z → nV (xs.foldl tM x) z = (nV x z || decide (z ∈ xs))
 | [], x, z, _, _ => by simp
 | n :: xs, x, z, h, hz => by
   rw [eS, a3Q xs _ z (fun y hy => h y (dV _ hy)) hz, b4F x n z (h n (dJ ..)) hz, Bool.or_assoc]
   congr 1
   rw [eF]
   simp
theorem a1W {xs : List Int} {z : Int} (h : ∀ n ∈ xs, isN n) (hz : isN z) : nV (jX xs) z = decide (z ∈ xs) := by
 unfold jX
 rw [a3Q xs _ z h hz, a4H, Bool.false_or]
theorem a2g {lo hi z : Int} (h0 : 0 ≤ lo) (h2 : hi ≤ 127) (hz : isN z) : nV (a0l lo hi) z = (decide (lo ≤ z) && decide (z ≤ hi)) := by
 unfold a0l
 rw [a1W (fun n hn => by
  obtain ⟨k, hk, rfl⟩ := dy.1 hn
  have := dx.1 hk
  exact ⟨by omega, by omega⟩) hz, eF, cV, decide_eq_true_eq, decide_eq_true_eq, decide_eq_true_eq, dy]
 constructor
 ·rintro ⟨k, hk, rfl⟩
  have := dx.1 hk
  omega
 ·rintro ⟨h3, h4⟩
  exact ⟨(z - lo).toNat, dx.2 (by omega), by omega⟩
theorem b1G {x y : Nt} (hx : Nt.Ok x) {z : Int} (hz : isN z) : nV (woF x y) z = (nV x z && !nV y z) := by
 obtain ⟨h1, h2⟩ := hz
 unfold nV woF
 by_cases h : z < 64
 ·rw [if_pos h, if_pos h, if_pos h, a6U _ _ _ hx.1 (by omega)]
 ·rw [if_neg h, if_neg h, if_neg h, a6U _ _ _ hx.2 (by omega)]
theorem a3b {x y : Nt} (hx : Nt.Ok x) (h : woF x y = (0, 0)) {z : Int} (hz : isN z) (hh : nV x z = true) : nV y z = true := by
 have := b1G (y := y) hx hz
 rw [h, a4H, hh] at this
 simpa using this.symm
theorem nY {o : Org} {ks : List Nt} (h : mE o ks = 0) : organE o = 0 ∧ ks.length = o.dvs.length ∧ ∀ j, j < o.dvs.length → woF (iB ks j) (a0l (iB o.dvs j).lo (iB o.dvs j).hi) = (0, 0) := by
 unfold mE at h
 split at h
 ·rename_i hh; exact absurd h hh
 rename_i h1
 split at h
 ·omega
 rename_i h2
 split at h
 ·omega
 rename_i h3
 refine ⟨dw.1 h1, by omega, fun j hj => ?_⟩
 by_cases hh : woF (iB ks j) (a0l (iB o.dvs j).lo (iB o.dvs j).hi) = (0, 0)
 ·exact hh
 ·exact absurd ⟨j, hj, hh⟩ h3
theorem pM {o : Org} {ks : List Nt} (hok : ∀ x ∈ ks, Nt.Ok x) (h : mE o ks = 0) : ∀ c ∈ iF ks, mG o c = true := by
 obtain ⟨h1, h2, h3⟩ := nY h
 have hf := Org.aO h1
 intro c hc
 unfold iF at hc
 obtain ⟨i, hi, hc⟩ := dZ.1 hc
 have hi := dx.1 hi
 unfold plD at hc
 obtain ⟨z, hz, rfl⟩ := dy.1 hc
 obtain ⟨hz1, hz2⟩ := a1X.1 hz
 have hky := hf.keys i (by omega)
 have hw := a3b (hok _ (iD hi)) (h3 i (by omega)) hz1 hz2
 rw [a2g hky.1 hky.2.2 hz1] at hw
 simp only [cV, decide_eq_true_eq] at hw
 unfold mG
 simp only [cV, decide_eq_true_eq, dR]
 omega
theorem qO {o : Org} {ks : List Nt} (h : mE o ks = 0) : (iF ks).length ≤ 1024 := by
 obtain ⟨h1, h2, _⟩ := nY h
 have h8 := (Org.aO h1).dlen
 have := a7V ks ks.length
 unfold iF
 omega
structure SegsOk (m : Nat) (lo hi : Int) (gs : List Seg) : Prop where
 ord : ∀ i, i < gs.length → (iB gs i).lo ≤ (iB gs i).hi
 up : ∀ i, i < gs.length → 0 < i → (iB gs (i - 1)).hi < (iB gs i).lo
 within : ∀ i, i < gs.length → lo ≤ (iB gs i).lo ∧ (iB gs i).hi ≤ hi
 draws : ∀ i, i < gs.length → kU m (iB gs i).draws = 0
 len : gs.length ≤ 12
theorem a0P {o : Org} (h : organE o = 0) {j : Nat} (hj : j < o.dvs.length) {s : Stp} (hs : s ∈ (iB o.dvs j).stops) : SegsOk o.ranks.length (iB o.dvs j).lo (iB o.dvs j).hi s.segs := by
 unfold organE at h
 split at h
 ·omega
 split at h
 ·omega
 split at h
 ·rename_i hh; exact absurd h hh
 split at h
 ·omega
 split at h
 ·omega
 split at h
 ·rename_i hh; exact absurd h hh
 rename_i h6
 have h6 := dw.1 h6
 have e := pQ h6 j hj
 unfold tP at e
 split at e
 ·omega
 split at e
 ·omega
 unfold divE at e
 split at e
 ·rename_i hh; exact absurd e hh
 split at e
 ·omega
 obtain ⟨k, hk, rfl⟩ := dQ.1 hs
 have e2 := pQ e k hk
 unfold oU at e2
 rw [jU _ k hk] at e2
 split at e2
 ·rename_i hh; exact absurd e2 hh
 rename_i e3
 have e3 := dw.1 e3
 unfold stopE at e3
 split at e3
 ·rename_i hh; exact absurd e3 hh
 split at e3
 ·omega
 split at e3
 ·rename_i hh; exact absurd e3 hh
 split at e3
 ·omega
 split at e3
 ·omega
 have key : ∀ i, i < ((iB o.dvs j).stops[k]).segs.length → (iB ((iB o.dvs j).stops[k]).segs i).lo ≤ (iB ((iB o.dvs j).stops[k]).segs i).hi ∧ (0 < i → (iB ((iB o.dvs j).stops[k]).segs (i - 1)).hi < (iB ((iB o.dvs j).stops[k]).segs i).lo) ∧ ((iB o.dvs j).lo ≤ (iB ((iB o.dvs j).stops[k]).segs i).lo ∧ (iB ((iB o.dvs j).stops[k]).segs i).hi ≤ (iB o.dvs j).hi) ∧ kU o.ranks.length (iB ((iB o.dvs j).stops[k]).segs i).draws = 0 := by
  intro i hi
  have e4 := pQ e3 i hi
  unfold kX at e4
  split at e4
  ·omega
  split at e4
  ·omega
  exact ⟨by omega, fun h0 => by omega, ⟨by omega, by omega⟩, e4⟩
 exact ⟨fun i hi => (key i hi).1, fun i hi => (key i hi).2.1, fun i hi => (key i hi).2.2.1, fun i hi => (key i hi).2.2.2, by omega⟩
theorem SegsOk.lt {m : Nat} {lo hi : Int} {gs : List Seg} (h : SegsOk m lo hi gs) {i : Nat} : ∀ k, i + 1 + k < gs.length → (iB gs i).hi < (iB gs (i + 1 + k)).lo
 | 0, hk => h.up (i + 1) hk (by omega)
 | k + 1, hk => by
   have h1 := h.lt (i := i) k (by omega)
   have h2 := h.ord (i + 1 + k) (by omega)
   have h3 := h.up (i + 1 + (k + 1)) hk (by omega)
   rw [show i + 1 + (k + 1) - 1 = i + 1 + k by omega] at h3
   omega
theorem SegsOk.one {m : Nat} {lo hi : Int} {gs : List Seg} (h : SegsOk m lo hi gs) {key : Int} {i j : Nat} (hi' : i < gs.length) (hj : j < gs.length) (h1 : (iB gs i).lo ≤ key ∧ key ≤ (iB gs i).hi) (h2 : (iB gs j).lo ≤ key ∧ key ≤ (iB gs j).hi) : i = j := by
 rcases Nat.lt_trichotomy i j with e | e | e
 ·have := h.lt (i := i) (j - i - 1) (by omega)
  rw [show i + 1 + (j - i - 1) = j by omega] at this
  omega
 ·exact e
 ·have := h.lt (i := j) (i - j - 1) (by omega)
  rw [show j + 1 + (i - j - 1) = i by omega] at this
  omega
theorem a6Y {m : Nat} {lo hi : Int} {s : Stp} (h : SegsOk m lo hi s.segs) {key : Int} {d : Drw} : d ∈ a5N s key ↔ ∃ i, i < s.segs.length ∧ uV s key i = true ∧ d ∈ (iB s.segs i).draws := by
 unfold a5N
 by_cases hf : pK (uV s key) s.segs.length < 0
 ·rw [if_pos hf]
  constructor
  ·intro hd; exact absurd hd dU
  ·rintro ⟨i, hi', hp, _⟩
   have := (xS (uV s key) s.segs.length).2 ⟨i, hi', hp⟩
   omega
 ·rw [if_neg hf]
  obtain ⟨k, hk⟩ : ∃ k : Nat, pK (uV s key) s.segs.length = k := ⟨(pK (uV s key) s.segs.length).toNat, by omega⟩
  have hkl := a1y hk
  have hkp : uV s key k = true := by
   unfold pK at hk
   cases e : (List.range s.segs.length).find? (uV s key) with
   | none => rw [e] at hk; simp only at hk; omega
   | some j =>
     rw [e] at hk
     have hk : (j : Int) = k := hk
     have := List.find?_some e
     rw [show k = j by omega]
     exact this
  rw [hk, dR]
  constructor
  ·intro hd; exact ⟨k, hkl, hkp, hd⟩
  ·rintro ⟨i, hi', hp, hd⟩
   unfold uV at hp hkp
   rw [cV, decide_eq_true_eq, decide_eq_true_eq] at hp hkp
   rw [h.one hkl hi' hkp hp]
   exact hd
def rS (o : Org) (g : Seg) (key : Int) : List Ct := if g.lo ≤ key ∧ key ≤ g.hi then (g.draws.filter fun d => qY o.ranks d key).map fun d => mL o.ranks d key else []
def uY (o : Org) (r : Reg) (c : Ct) (i : Nat) : List Ct := if (iB r.stops c.1.toNat).testBit i then (iB (iB o.dvs c.1.toNat).stops i).segs.flatMap fun g => rS o g c.2 else []
def pU (o : Org) (r : Reg) (c : Ct) : List Ct := (List.range (iB o.dvs c.1.toNat).stops.length).flatMap (uY o r c)
theorem vO {o : Org} (h : organE o = 0) {r : Reg} {c : Ct} (hc : mG o c = true) {p : Ct} : p ∈ pU o r c ↔ p ∈ mH o r c := by
 have hc' := (mF o c).1 hc
 unfold pU mH
 rw [dZ, dZ]
 refine exists_congr fun i => and_congr_right fun hi => ?_
 have hi := dx.1 hi
 unfold uY
 split
 ·have hso := a0P h (j := c.1.toNat) (by omega) (iD hi)
  unfold qB
  rw [rN, dy, dZ]
  constructor
  ·rintro ⟨g, hg, hp⟩
   unfold rS at hp
   split at hp
   ·rename_i hk
    obtain ⟨d, hd, rfl⟩ := dy.1 hp
    obtain ⟨hd1, hd2⟩ := eu.1 hd
    obtain ⟨k, hk', rfl⟩ := dQ.1 hg
    refine ⟨d, eu.2 ⟨(a6Y hso).2 ⟨k, hk', ?_, by rw [jU _ k hk']; exact hd1⟩, hd2⟩, rfl⟩
    unfold uV
    rw [jU _ k hk', decide_eq_true hk.1, decide_eq_true hk.2]
    rfl
   ·exact absurd hp dU
  ·rintro ⟨d, hd, rfl⟩
   obtain ⟨hd1, hd2⟩ := eu.1 hd
   obtain ⟨k, hk, hp, hd1⟩ := (a6Y hso).1 hd1
   refine ⟨iB _ k, iD hk, ?_⟩
   unfold rS
   unfold uV at hp
   rw [cV, decide_eq_true_eq, decide_eq_true_eq] at hp
   rw [if_pos hp]
   exact dy.2 ⟨d, eu.2 ⟨hd1, hd2⟩, rfl⟩
 ·exact Iff.rfl
theorem c0n {o : Org} (h : organE o = 0) {r : Reg} {c : Ct} (hc : mG o c = true) : dd (pA (pU o r c)) = dd (pA (mH o r c)) := b1J fun _ => vO h hc
theorem b4z {o : Org} (h : organE o = 0) {r : Reg} {l : List Ct} (hl : ∀ c ∈ l, mG o c = true) : dd (pA (l.flatMap fun c => dd (pA (pU o r c)))) = uE o r l := by
 unfold uE
 refine b1J fun p => ?_
 rw [dZ, dZ]
 refine exists_congr fun c => and_congr_right fun hc => ?_
 rw [rN, vO h (hl c hc)]
def sB (r : Reg) (q : List Ct) (c : Ct) : List Ct := if !r.off.testBit c.1.toNat && !decide (c ∈ q) then q ++ [c] else q
def b4s (o : Org) (r : Reg) (l : List Ct) : List Ct := pA (l.foldl (sB r) (bfs o r.cpl 1100 0 (kK o r.cpl l)))
theorem a2Z {r : Reg} : ∀ {l q : List Ct} {x : Ct}, x ∈ l.foldl (sB r) q ↔ x ∈ q ∨ (x ∈ l ∧ r.off.testBit x.1.toNat = false)
 | [], q, x => by simp
 | c :: l, q, x => by
   rw [eS, a2Z]
   unfold sB
   by_cases h1 : r.off.testBit c.1.toNat = false
   ·by_cases h2 : c ∈ q
    ·rw [if_neg (by simp [h2])]
     constructor
     ·rintro (h | ⟨h, k⟩)
      ·exact .inl h
      ·exact .inr ⟨dV _ h, k⟩
     ·rintro (h | ⟨h, k⟩)
      ·exact .inl h
      ·rcases dS.1 h with e | e
       ·exact .inl (by rw [e]; exact h2)
       ·exact .inr ⟨e, k⟩
    ·rw [if_pos (by simp [h1, h2])]
     constructor
     ·rintro (h | ⟨h, k⟩)
      ·rcases dG.1 h with h | h
       ·exact .inl h
       ·have := dC.1 h
        subst this
        exact .inr ⟨dJ .., h1⟩
      ·exact .inr ⟨dV _ h, k⟩
     ·rintro (h | ⟨h, k⟩)
      ·exact .inl (dG.2 (.inl h))
      ·rcases dS.1 h with e | e
       ·exact .inl (dG.2 (.inr (by rw [e]; simp)))
       ·exact .inr ⟨e, k⟩
   ·rw [if_neg (by simp [h1])]
    constructor
    ·rintro (h | ⟨h, k⟩)
     ·exact .inl h
     ·exact .inr ⟨dV _ h, k⟩
    ·rintro (h | ⟨h, k⟩)
     ·exact .inl h
     ·rcases dS.1 h with e | e
      ·subst e; exact absurd k h1
      ·exact .inr ⟨e, k⟩
theorem xL {r : Reg} : ∀ {l q : List Ct}, q.Nodup → (l.foldl (sB r) q).Nodup
 | [], _, h => h
 | c :: l, q, h => by
   rw [eS]
   refine xL ?_
   unfold sB
   split
   ·rename_i hh
    simp only [cV, dE, decide_eq_false_iff_not] at hh
    rw [List.nodup_append]
    exact ⟨h, by simp, fun a ha b hb e => hh.2 (by simp at hb; rw [← hb, ← e]; exact ha)⟩
   ·exact h
theorem c2p {l : List Ct} (h : l.Nodup) : (pA l).Pairwise xE := by
 have h1 : (pA l).Nodup := (mV l).nodup_iff.2 h
 refine List.Pairwise.imp₂ ?_ (tC l) h1
 intro a b h2 h3
 rw [nT] at h2
 unfold xE
 by_cases e : a.1 = b.1
 ·by_cases e2 : a.2 = b.2
  ·exact absurd (gp e e2) h3
  ·omega
 ·omega
theorem a4R {o : Org} (cp : Nat) : ∀ (n i : Nat) (q : List Ct), Que o q → Que o (bfs o cp n i q)
 | 0, _, _, h => h
 | n + 1, i, q, h => by
   rw [bfs]
   split
   ·exact a4R cp n (i + 1) _ (h.stepF cp true _)
   ·exact h
theorem b4M (o : Org) (r : Reg) (l : List Ct) : b4s o r l = kF o r l := by
 unfold b4s kF
 refine vP _ _ (c2p (xL (a4R r.cpl 1100 0 _ (a2C o r.cpl l)).1)) (a5S _) fun x => ?_
 rw [rN, (mV _).mem_iff, a2Z, dG, eu]
 constructor
 ·rintro (h | ⟨h, k⟩)
  ·exact .inr h
  ·exact .inl ⟨h, by simpa using k⟩
 ·rintro (⟨h, k⟩ | h)
  ·exact .inr ⟨h, by simpa using k⟩
  ·exact .inl h
def a2H (o : Org) (ks : List Nt) (i : Nat) : List Ct := ((List.range ((iB o.dvs i).hi - (iB o.dvs i).lo + 1).toNat).filter fun (j : Nat) => nV (iB ks i) ((iB o.dvs i).lo + (j : Int))).map fun (j : Nat) => ((i : Int), (iB o.dvs i).lo + (j : Int))
def b0o (o : Org) (ks : List Nt) : List Ct := (List.range o.dvs.length).flatMap (a2H o ks)
theorem wU {f : Nat → List Ct} (h1 : ∀ i, (f i).Pairwise xE) (h2 : ∀ i, ∀ c ∈ f i, c.1 = (i : Int)) : ∀ n, ((List.range n).flatMap f).Pairwise xE
 | 0 => .nil
 | n + 1 => by
   rw [dX, dB, dz, ew, dm, eY]
   refine ⟨wU h1 h2 n, h1 n, fun a ha b hb => ?_⟩
   obtain ⟨i, hi, ha⟩ := dZ.1 ha
   have hi := dx.1 hi
   unfold xE
   rw [h2 i a ha, h2 n b hb]
   omega
theorem c0h (o : Org) (ks : List Nt) (i : Nat) : (a2H o ks i).Pairwise xE := by
 unfold a2H
 rw [gA]
 refine List.Pairwise.imp ?_ (List.Pairwise.filter _ List.pairwise_lt_range)
 intro a b h
 unfold xE
 omega
theorem a6a (x : Nt) : (pZ x).Pairwise (· < ·) := by
 unfold pZ
 rw [eY, gA, gA]
 have h : ∀ n, (pE n).Pairwise (· < ·) := fun n => List.Pairwise.filter _ List.pairwise_lt_range
 refine ⟨(h _).imp (by intro a b h; omega), (h _).imp (by intro a b h; omega), fun a ha b hb => ?_⟩
 obtain ⟨i, hi, rfl⟩ := dy.1 ha
 obtain ⟨j, _, rfl⟩ := dy.1 hb
 have := (sA.1 hi).1
 omega
theorem c2d (ks : List Nt) (i : Nat) : (plD ks i).Pairwise xE := by
 unfold plD
 rw [gA]
 exact (a6a _).imp fun h => .inr ⟨rfl, h⟩
theorem b2L (ks : List Nt) : (iF ks).Pairwise xE := wU (c2d ks) (fun i c hc => by
 unfold plD at hc
 obtain ⟨z, _, rfl⟩ := dy.1 hc
 rfl) _
theorem b9I {o : Org} {ks : List Nt} (hok : ∀ x ∈ ks, Nt.Ok x) (h : mE o ks = 0) : b0o o ks = iF ks := by
 obtain ⟨h1, h2, h3⟩ := nY h
 have hf := Org.aO h1
 refine vP _ _ (wU (c0h o ks) (fun i c hc => by
  unfold a2H at hc
  obtain ⟨z, _, rfl⟩ := dy.1 hc
  rfl) _) (b2L ks) fun x => ?_
 constructor
 ·intro hx
  obtain ⟨i, hi, hx⟩ := dZ.1 hx
  have hi := dx.1 hi
  have hk := hf.keys i hi
  unfold a2H at hx
  obtain ⟨z, hz, rfl⟩ := dy.1 hx
  obtain ⟨hz1, hz2⟩ := eu.1 hz
  have hz1 := dx.1 hz1
  unfold iF
  refine dZ.2 ⟨i, dx.2 (by omega), ?_⟩
  unfold plD
  exact dy.2 ⟨_, a1X.2 ⟨⟨by omega, by omega⟩, hz2⟩, rfl⟩
 ·intro hx
  unfold iF at hx
  obtain ⟨i, hi, hx⟩ := dZ.1 hx
  have hi := dx.1 hi
  have hk := hf.keys i (by omega)
  unfold plD at hx
  obtain ⟨z, hz, rfl⟩ := dy.1 hx
  obtain ⟨hz1, hz2⟩ := a1X.1 hz
  have hw := a3b (hok _ (iD hi)) (h3 i (by omega)) hz1 hz2
  rw [a2g hk.1 hk.2.2 hz1, cV, decide_eq_true_eq, decide_eq_true_eq] at hw
  unfold b0o
  refine dZ.2 ⟨i, dx.2 (by omega), ?_⟩
  unfold a2H
  refine dy.2 ⟨(z - (iB o.dvs i).lo).toNat, eu.2 ⟨dx.2 (by omega), ?_⟩, ?_⟩
  ·rw [show (iB o.dvs i).lo + ((z - (iB o.dvs i).lo).toNat : Int) = z by omega]
   exact hz2
  ·rw [show (iB o.dvs i).lo + ((z - (iB o.dvs i).lo).toNat : Int) = z by omega]
end Go.Ds
namespace Go.Ds
open Go.Proofs Go.Proofs.Tryz
variable {H : Heap}
set_option maxRecDepth 10000
set_option maxHeartbeats 1000000
def b5o (o : Org) (l : List (Value × Reg)) (ks : List Nt) : Int := if rR o l ≠ 0 then rR o l else mE o ks
theorem b5c (o : Org) (ho : o.In H) (lv : Value) (xs : List (Value × Reg)) (hl : Sl 3 rgc H lv xs) (hle : xs.length < 1000000000) (hr : ∀ p ∈ xs, p.2.In H p.1) (kv : Value) (ks : List Nt) (hk : Ks H kv ks) :
 Fn prog 63 [.agg #[.string o.name, o.rv, o.dv, o.cv], lv, kv] H fun r H' => r = I (b5o o xs ks) ∧ St prog H H' [] := by
 refine .bd func63 rfl (by kernel_rfl) (m := 17) rfl fun l hn g0 g1 g2 => ?_
 simp (disch := omega) only [↓RA, RB, simprocAttr, g0]
 refine (sR H).eNew 4 [(.string o.name), o.rv, o.dv, o.cv] rfl rfl (by simp [OC, ((sR H).sl ho.1).cells.2.1, ((sR H).sl ho.2.2.1).cells.2.1, ((sR H).sl ho.2.2.2.2.1).cells.2.1]) lO fun A1 H1 hS1 => ?_
 simp only [RT] at hS1
 simp (disch := omega) only [↓RA, RZ, simprocAttr, hn, g1, hS1.ag 0 rfl]
 refine hS1.cF (a3F o (ho.ab hS1) lv xs (hS1.sl hl) hle (fun p hp => (hr p hp).ab hS1)) fun H2 hS2 => ?_
 simp (disch := omega) only [↓RA, RB, simprocAttr, hn]
 refine iA (fun h1 => ?_) (fun h1 => ?_)
 ·simp (disch := omega) only [↓RA, RZ, simprocAttr, hn, c5y, h1]
  exact ⟨by unfold b5o; rw [if_pos h1], hS2.forget⟩
 simp (disch := omega) only [↓RA, RZ, simprocAttr, hn, g2, hS2.ag 0 rfl, h1]
 refine hS2.cF (a8j o (ho.ab hS2) kv ks (hk.ab hS2)) fun H3 hS3 => ?_
 simp (disch := omega) only [↓RA, RZ, simprocAttr, hn, c5y, h1]
 exact ⟨by unfold b5o; rw [if_neg h1], hS3.forget⟩
def rkE (o : Org) (rg : Reg) (ks : List Nt) : Int := if mZ o rg ≠ 0 then mZ o rg else mE o ks
theorem a7x (o : Org) (sv : Value) (rg : Reg) (ks : List Nt) : b5o o [(sv, rg)] ks = rkE o rg ks := by
 unfold b5o rkE
 rw [a0Y]
theorem uK {o : Org} {rg : Reg} {ks : List Nt} (h : rkE o rg ks = 0) : mZ o rg = 0 ∧ mE o ks = 0 := by
 unfold rkE at h
 split at h
 ·rename_i hh; exact absurd h hh
 ·rename_i hh; exact ⟨dw.1 hh, h⟩
def oF (o : Org) (rg : Reg) (ks : List Nt) : List Ct := if rkE o rg ks = 0 then lK o rg (iF ks) else []
theorem a1j (hG : Glob gH H) (o : Org) (ho : o.In H) (rg : Reg) (sv : Value) (hr : rg.In H sv) (kv : Value) (ks : List Nt) (hk : Ks H kv ks) :
 Fn prog 38 [.agg #[.string o.name, o.rv, o.dv, o.cv], .agg #[sv, .int .u64 rg.cpl, .int .u64 rg.off], kv] H fun r H' => ∃ pv, r = .tuple #[pv, I (rkE o rg ks)] ∧ Slx 2 jL H' (fun B => H.length ≤ B) pv (oF o rg ks) ∧ St prog H H' [] := by
 refine .bd func38 rfl (by kernel_rfl) (m := 22) rfl fun l hn g0 g1 g2 => ?_
 simp (disch := omega) only [↓RA, RB, simprocAttr, g0]
 refine (sR H).eNew 4 [(.string o.name), o.rv, o.dv, o.cv] rfl rfl (by simp [OC, ((sR H).sl ho.1).cells.2.1, ((sR H).sl ho.2.2.1).cells.2.1, ((sR H).sl ho.2.2.2.2.1).cells.2.1]) lO fun A1 H1 hS1 => ?_
 simp only [RT] at hS1
 simp (disch := omega) only [↓RA, RB, simprocAttr, g1]
 refine hS1.eNew 3 [sv, (.int .u64 rg.cpl), (.int .u64 rg.off)] rfl rfl (by simp [OC, (hS1.sl hr.1).cells.2.1]) nJ fun A2 H2 hS2 => ?_
 simp only [RT] at hS2
 simp (disch := omega) only [↓RA, RZ, simprocAttr, hn, hS2.ag 0 rfl, hS2.ag 1 rfl]
 refine hS2.ae [sv, (.int .u64 rg.cpl), (.int .u64 rg.off)] b5S b6A rfl rfl (by first | (simp []; done) | simp [Value.cells]) (by first | (simp []; done) | simp [Value.cells]) (by simp [OC, (hS2.sl hr.1).cells.2.1]) (by decide) (by decide) fun w1 H3 hS3 => ?_
 simp only [RT] at hS3
 simp (disch := omega) only [↓RA, RZ, simprocAttr, hn, g2]
 refine hS3.cF (b5c o (ho.ab hS3) w1 [(sv, rg)] (hS3.aw 2 rfl (fun _ => rfl)) (by simp) (by intro p hp; rw [dC.1 hp]; exact hr.ab hS3) kv ks (hk.ab hS3)) fun H4 hS4 => ?_
 have hsc := a7x o sv rg ks
 simp (disch := omega) only [↓RA, RB, simprocAttr, hn, hsc]
 refine iA (fun h1 => ?_) (fun h1 => ?_)
 ·simp (disch := omega) only [↓RA, RZ, simprocAttr, hn, c5M, hsc, h1]
  exact ⟨.slice none 0 0, rfl, ⟨⟨.inl ⟨rfl, by rw [oF, if_neg h1]; rfl⟩, jT, by decide⟩, fun b h => by simp [kI] at h⟩, hS4.forget⟩
 have h0 := dw.1 h1
 obtain ⟨hz1, hk0⟩ := uK h0
 obtain ⟨hz3, hz4⟩ := mC hz1
 have hf := Org.aO hz3
 have h8 : ks.length ≤ 8 := by
  have := hf.dlen
  have := (nY hk0).2.1
  omega
 simp (disch := omega) only [↓RA, RC, simprocAttr, hsc, h1]
 refine Wp.aT jY [(0, 4), (1, 4)] (by kernel_rfl) (by kernel_rfl) ?_
 simp (disch := omega) only [↓RA, RZ, simprocAttr, hn, g2, hS4.ag 0 rfl, hS4.ag 1 rfl]
 refine iG ((a3X (hS4.gl hG) kv ks (hk.ab hS4) h8).tr) ?_
 rintro r H5 ⟨-, hT2⟩
 have hS5 := hS4.trans hT2
 simp only [RT] at hS5
 obtain ⟨pv, rfl⟩ : ∃ w, w = r := ⟨r, rfl⟩
 simp (disch := omega) only [↓RA, RZ, simprocAttr, hn]
 have hSd := hS5
 refine iG (uB o (ho.ab hS5) hf rg sv (hr.ab hS5) hz4 pv (iF ks) (hS5.aw 3 rfl jT) (qO hk0) (pM hk.ok hk0)) ?_
 rintro r H6 ⟨hx, hT3⟩
 have hS6 := hS5.trans hT3
 simp only [RT] at hS6
 obtain ⟨qv, rfl⟩ : ∃ w, w = r := ⟨r, rfl⟩
 simp (disch := omega) only [↓RA, RZ, simprocAttr, hn, hS5.ag 0 rfl, hS5.ag 1 rfl, c5M, hx.1.br]
 rw [h0]
 refine ⟨qv, rfl, ⟨?_, fun b h => ?_⟩, hS6.forget⟩
 ·rw [oF, if_pos h0]
  exact hx.1
 ·have := hx.2 b h
  have : H.length ≤ _ := hSd.len
  omega
end Go.Ds
namespace Go.Ds
open Go.Proofs
variable {H : Heap}
set_option maxRecDepth 10000
set_option maxHeartbeats 1000000
end Go.Ds
namespace Go.Ds
open Go.Proofs Go.Proofs.Tryz
variable {H : Heap}
set_option maxRecDepth 10000
set_option maxHeartbeats 1000000
def a1U (lo : Int) (w m : Nat) : List Int := ((List.range m).filter fun j => w.testBit j).map fun (j : Nat) => lo + (j : Int)
def wB (lo hi : Int) : Nat := min 16 (hi - lo + 1).toNat
def yG (o : Org) (b : Nat → Nat) (i : Nat) : Nt := jX (a1U (iB o.dvs i).lo (b (i % 3)) (wB (iB o.dvs i).lo (iB o.dvs i).hi))
def nQ (o : Org) (b : Nat → Nat) : List Nt := (List.range o.dvs.length).map (yG o b)
theorem c1J (a b : Nat) (h : a < 65536) : ((a : Nat) : Int).fdiv (2 ^ min b (IntKind.bits .u16)) = ((a >>> b : Nat) : Int) := by
 have e : IntKind.bits .u16 = 16 := rfl
 rw [e]
 have h1 : ((a : Nat) : Int).fdiv (2 ^ min b 16) = ((a / 2 ^ min b 16 : Nat) : Int) := by
  rw [gB _ (by exact Int.le_of_lt (Int.pow_pos (by decide)))]
  simp
 rw [h1, eM]
 by_cases hb : b ≤ 16
 ·rw [fR hb]
 ·rw [Nat.min_eq_right (by omega)]
  have h2 : a / 2 ^ 16 = 0 := gI (by simpa using h)
  have h3 : a / 2 ^ b = 0 := gI (dI (by simpa using h) (fq (by decide) (show 16 ≤ b by omega)))
  rw [h2, h3]
theorem b8m (n : Nat) (h : n < 65536) : IntKind.wrap .u16 ((BitVec.ofInt (IntKind.bits .u16) (n : Int) &&& BitVec.ofInt (IntKind.bits .u16) 1).toNat : Int) = ((n % 2 : Nat) : Int) := by
 have e : (BitVec.ofInt (IntKind.bits .u16) (n : Int) &&& BitVec.ofInt (IntKind.bits .u16) 1).toNat = n % 2 := by
  show (BitVec.ofInt 16 (n : Int) &&& BitVec.ofInt 16 1).toNat = n % 2
  rw [gJ]
  have h1 : (BitVec.ofInt 16 (n : Int)).toNat = n := by
   rw [fT, BitVec.toNat_ofNat]
   exact gC (by simpa using h)
  have h2 : (BitVec.ofInt 16 1).toNat = 1 := rfl
  rw [h1, h2, Nat.and_one_is_mod]
 rw [e]
 have : n % 2 < 2 := eR _ (by decide)
 have hh : n % 2 = 0 ∨ n % 2 = 1 := by omega
 rcases hh with h | h <;> rw [h] <;> rfl
theorem b6w {a : Nat} (b : Nat) (h : a < 65536) : a >>> b < 65536 := by
 rw [eM]
 exact Nat.lt_of_le_of_lt (Nat.div_le_self _ _) h
theorem b3C (lo : Int) (w m : Nat) : a1U lo w (m + 1) = a1U lo w m ++ (if w.testBit m then [lo + (m : Int)] else []) := by
 unfold a1U
 rw [dX, eP, dL]
 congr 1
 cases h : w.testBit m <;> simp [h]
theorem b6Z (lo : Int) (w m : Nat) : (a1U lo w m).length ≤ m := by
 unfold a1U
 rw [dK]
 exact dA (eh _ _) (by simp)
theorem b8b (lo hi : Int) : wB lo hi ≤ 16 := Nat.min_le_left _ _
theorem uS {o : Org} (hf : o.Fine) (w : Nat) {i : Nat} (hi : i < o.dvs.length) : ∀ z ∈ a1U (iB o.dvs i).lo w (wB (iB o.dvs i).lo (iB o.dvs i).hi), isN z ∧ (iB o.dvs i).lo ≤ z ∧ z ≤ (iB o.dvs i).hi := by
 intro z hz
 have hk := hf.keys i hi
 unfold a1U wB at hz
 obtain ⟨j, hj, rfl⟩ := dy.1 hz
 have hj := dx.1 (eu.1 hj).1
 exact ⟨⟨by omega, by omega⟩, by omega, by omega⟩
theorem b0x (o : Org) (ho : o.In H) (hf : o.Fine) (b : Nat → Nat) (hb : ∀ i, b i < 65536) :
 Fn prog 10 [.agg #[.string o.name, o.rv, o.dv, o.cv], .agg #[.int .u16 (b 0), .int .u16 (b 1), .int .u16 (b 2)]] H fun r H' =>
  St prog H H' [⟨r, 2, (nQ o b).flatMap ntc⟩] := by
 have hd8 := hf.dlen
 refine .aG func10 rfl (by kernel_rfl) (m := 66) rfl fun l hn g0 g1 => ?_
 simp (disch := omega) only [↓RA, RB, simprocAttr, g0]
 refine (sR H).eNew 4 [(.string o.name), o.rv, o.dv, o.cv] rfl rfl (by simp [OC, ((sR H).sl ho.1).cells.2.1, ((sR H).sl ho.2.2.1).cells.2.1, ((sR H).sl ho.2.2.2.2.1).cells.2.1]) lO fun A1 H1 hS1 => ?_
 simp only [RT] at hS1
 simp (disch := omega) only [↓RA, RB, simprocAttr, g1]
 refine hS1.eNew 3 [(.int .u16 (b 0)), (.int .u16 (b 1)), (.int .u16 (b 2))] rfl rfl rfl b9f fun A2 H2 hS2 => ?_
 simp only [RT] at hS2
 simp (disch := omega) only [↓RA, RB, simprocAttr]
 have hS3 := hS2.nil 1
 simp only [RT] at hS3
 refine Wp.ak (fun n l H' => l.length = 66 ∧ get l 2 = (ptr A1 0 4) ∧ get l 3 = (ptr A2 0 3) ∧ get l 4 = (.slice none 0 0) ∧ ∃ (i : Nat) (kv : Value), (n + i = o.dvs.length) ∧ get l 6 = I i ∧ get l 5 = kv ∧ St prog H H' [⟨ptr A1 0 4, 0, [(.string o.name), o.rv, o.dv, o.cv]⟩, ⟨ptr A2 0 3, 0, [(.int .u16 (b 0)), (.int .u16 (b 1)), (.int .u16 (b 2))]⟩, ⟨kv, 2, ((List.range i).map (yG o b)).flatMap ntc⟩]) o.dvs.length ?_ ?_
 ·simp (disch := omega) only [RB, RC, simprocAttr, hn]
  exact ⟨0, .slice none 0 0, by omega, rfl, rfl, hS3⟩
 rintro n l H3 ⟨hn, g2, g3, g4, i, kv, hi, g6, g5, hS4⟩
 simp (disch := omega) only [↓RA, RZ, simprocAttr, hn, g2, g6, hS4.ld 0 rfl, (hS4.sl ho.2.2.1).len]
 refine iA (fun q => ?_) (fun q => ?_)
 ·have hk := hf.keys i (by omega)
  simp (disch := omega) only [↓RA, RZ, simprocAttr, hn, g2, g6, hS4.ld 0 rfl, (hS4.sl ho.2.2.1).idx, (hS4.sl ho.2.2.1).aY, (hS4.sl ho.2.2.1).cH 2, Dvn.cells, q]
  refine hS4.eNew 2 [I 0, I 0] rfl rfl rfl a1l fun A3 H4 hS5 => ?_
  simp only [RT] at hS5
  simp (disch := omega) only [↓RA, RZ, simprocAttr, hn, q]
  refine hS5.aa 3 rfl [I (iB o.dvs i).lo, I (iB o.dvs i).hi] rfl rfl a1l (by simp) fun H5 hS6 => ?_
  simp only [RT] at hS6
  simp (disch := omega) only [↓RA, RZ, simprocAttr, hn, hS6.ld 3 rfl, q]
  have hS7 := hS6.nil 0
  simp only [RT] at hS7
  refine Wp.ak (fun n l H' => l.length = 66 ∧ get l 2 = (ptr A1 0 4) ∧ get l 3 = (ptr A2 0 3) ∧ get l 4 = (.slice none 0 0) ∧ get l 5 = kv ∧ get l 6 = I i ∧ get l 8 = (ptr A3 0 2) ∧ ∃ (m : Nat) (lv : Value), (n + m = wB (iB o.dvs i).lo (iB o.dvs i).hi) ∧ get l 9 = I ((iB o.dvs i).lo + m) ∧ get l 7 = lv ∧ St prog H H' [⟨ptr A1 0 4, 0, [(.string o.name), o.rv, o.dv, o.cv]⟩, ⟨ptr A2 0 3, 0, [(.int .u16 (b 0)), (.int .u16 (b 1)), (.int .u16 (b 2))]⟩, ⟨kv, 2, ((List.range i).map (yG o b)).flatMap ntc⟩, ⟨ptr A3 0 2, 0, [I (iB o.dvs i).lo, I (iB o.dvs i).hi]⟩, ⟨lv, 1, (a1U (iB o.dvs i).lo (b (i % 3)) m).flatMap (one I)⟩]) (wB (iB o.dvs i).lo (iB o.dvs i).hi) ?_ ?_
  ·simp (disch := omega) only [RB, RC, simprocAttr, hn, g2, g3, g4, g6, g5]
   exact ⟨0, .slice none 0 0, by omega, by simp, rfl, hS7⟩
  rintro n l H6 ⟨hn, g2, g3, g4, g5, g6, g8, m, lv, hm, g9, g7, hS8⟩
  simp (disch := omega) only [↓RA, RZ, simprocAttr, hn, g8, g9, hS8.ld 3 rfl]
  have hM := b8b (iB o.dvs i).lo (iB o.dvs i).hi
  have hi3 : (i : Int).tmod 3 = ((i % 3 : Nat) : Int) := (ed i 3).symm
  have hw : ([Value.int .u16 (b 0), .int .u16 (b 1), .int .u16 (b 2)] : List Value)[i % 3]? = some (.int .u16 (b (i % 3))) := by
   have : i % 3 = 0 ∨ i % 3 = 1 ∨ i % 3 = 2 := by omega
   rcases this with e | e | e <;> rw [e] <;> rfl
  have hsub : (iB o.dvs i).lo + (m : Int) - (iB o.dvs i).lo = (m : Int) := by omega
  have e1 := c1J (b (i % 3)) m (hb _)
  have e2 := b8m (b (i % 3) >>> m) (b6w m (hb _))
  have e3 := tb (b (i % 3)) m
  have hsu := b3C (iB o.dvs i).lo (b (i % 3)) m
  have hpl := b6Z (iB o.dvs i).lo (b (i % 3)) m
  refine jD (fun q1 => ?_) (fun q1 => ?_)
  ·simp (disch := omega) only [↓RA, RZ, simprocAttr, hn, g8, g9, hS8.ld 3 rfl, q1]
   refine iA (fun q2 => ?_) (fun q2 => ?_)
   ·skip
    simp (disch := omega) only [↓RA, RC, simprocAttr, q1, q2]
    refine Wp.drw jY (by kernel_rfl) ?_
    simp (disch := omega) only [↓RA, RZ, simprocAttr, hn, g3, g6, g8, g9, hS8.ld 1 rfl, hw, hS8.ld 3 rfl, hi3, hsub, e1, e2]
    refine iA (fun q3 => ?_) (fun q3 => ?_)
    ·rw [e3, decide_eq_true (by omega), if_pos rfl] at hsu
     simp (disch := omega) only [↓RA, RZ, simprocAttr, hn, g9, g7, q3]
     refine hS8.ae [I ((iB o.dvs i).lo + m)] rI xG rfl rfl (by simp [Value.cells]) rfl rfl (by decide) (by decide) fun w1 H7 hS9 => ?_
     simp only [RT] at hS9
     simp (disch := omega) only [↓RA, RZ, simprocAttr, hn, q3]
     refine hS9.al 4 rfl (hS9.rd 5 rfl) rI (by rw [iO (n := 1) (cel := one I) (fun _ => rfl)]; simp; omega) fun w2 H8 hS10 => ?_
     simp only [RT] at hS10
     simp (disch := omega) only [↓RA, RZ, simprocAttr, hn, g2, g3, g4, g5, g6, g8, g9, q3]
     refine ⟨n - 1, by unfold wB at hm; omega, m + 1, w2, by unfold wB at hm ⊢; omega, by simp; omega, rfl, ?_⟩
     rw [hsu, dB]
     exact hS10.pick [0, 1, 2, 3, 4] (by decide) rfl
    rw [e3, decide_eq_false (by omega), if_neg (by simp), dm] at hsu
    simp (disch := omega) only [↓RA, RZ, simprocAttr, hn, g2, g3, g4, g5, g6, g8, g9, g7, q3]
    refine ⟨n - 1, by unfold wB at hm; omega, m + 1, lv, by unfold wB at hm ⊢; omega, by simp; omega, rfl, ?_⟩
    rw [hsu]
    exact hS8.pick [0, 1, 2, 3, 4] (by decide) rfl
   have hmM : m = wB (iB o.dvs i).lo (iB o.dvs i).hi := by unfold wB at hm hM ⊢; omega
   have hz := uS hf (b (i % 3)) (show i < o.dvs.length by omega)
   subst hmM
   simp (disch := omega) only [↓RA, RZ, simprocAttr, hn, g7, q1, q2]
   refine hS8.cF (wR (a1U (iB o.dvs i).lo (b (i % 3)) (wB (iB o.dvs i).lo (iB o.dvs i).hi)) (fun z h => (hz z h).1) lv (hS8.aw 4 rfl (sO _)) (by omega)) fun H9 hS11 => ?_
   simp (disch := omega) only [↓RA, RZ, simprocAttr, hn, q1, q2]
   refine hS11.eNew 2 [(.int .u64 0), (.int .u64 0)] rfl rfl rfl nZ fun A4 H10 hS12 => ?_
   simp only [RT] at hS12
   simp (disch := omega) only [↓RA, RZ, simprocAttr, hn, q1, q2]
   refine hS12.aa 5 rfl [(.int .u64 (yG o b i).1), (.int .u64 (yG o b i).2)] rfl rfl nZ (by simp) fun H11 hS13 => ?_
   simp only [RT] at hS13
   simp (disch := omega) only [↓RA, RZ, simprocAttr, hn, g5, hS13.ag 5 rfl, q1, q2]
   refine hS13.ae [(.int .u64 (yG o b i).1), (.int .u64 (yG o b i).2)] b2N c0p rfl rfl (by simp [Value.cells]) rfl rfl (by decide) (by decide) fun w3 H12 hS14 => ?_
   simp only [RT] at hS14
   simp (disch := omega) only [↓RA, RZ, simprocAttr, hn, q1, q2]
   refine hS14.al 2 rfl (hS14.rd 6 rfl) b2N (by rw [iO (n := 2) (cel := ntc) (fun _ => rfl)]; simp; omega) fun w4 H13 hS15 => ?_
   simp only [RT] at hS15
   simp (disch := omega) only [↓RA, RZ, simprocAttr, hn, g2, g3, g4, g6, q1, q2]
   refine ⟨o.dvs.length - (i + 1), by omega, i + 1, w4, by omega, by simp, rfl, ?_⟩
   rw [dX, dL, dB]
   exact hS15.pick [0, 1, 2] (by decide) rfl
  have hmM : m = wB (iB o.dvs i).lo (iB o.dvs i).hi := by unfold wB at hm hM ⊢; omega
  have hz := uS hf (b (i % 3)) (show i < o.dvs.length by omega)
  subst hmM
  simp (disch := omega) only [↓RA, RZ, simprocAttr, hn, g7, q1]
  refine hS8.cF (wR (a1U (iB o.dvs i).lo (b (i % 3)) (wB (iB o.dvs i).lo (iB o.dvs i).hi)) (fun z h => (hz z h).1) lv (hS8.aw 4 rfl (sO _)) (by omega)) fun H14 hS16 => ?_
  simp (disch := omega) only [↓RA, RZ, simprocAttr, hn, q1]
  refine hS16.eNew 2 [(.int .u64 0), (.int .u64 0)] rfl rfl rfl nZ fun A5 H15 hS17 => ?_
  simp only [RT] at hS17
  simp (disch := omega) only [↓RA, RZ, simprocAttr, hn, q1]
  refine hS17.aa 5 rfl [(.int .u64 (yG o b i).1), (.int .u64 (yG o b i).2)] rfl rfl nZ (by simp) fun H16 hS18 => ?_
  simp only [RT] at hS18
  simp (disch := omega) only [↓RA, RZ, simprocAttr, hn, g5, hS18.ag 5 rfl, q1]
  refine hS18.ae [(.int .u64 (yG o b i).1), (.int .u64 (yG o b i).2)] b2N c0p rfl rfl (by simp [Value.cells]) rfl rfl (by decide) (by decide) fun w5 H17 hS19 => ?_
  simp only [RT] at hS19
  simp (disch := omega) only [↓RA, RZ, simprocAttr, hn, q1]
  refine hS19.al 2 rfl (hS19.rd 6 rfl) b2N (by rw [iO (n := 2) (cel := ntc) (fun _ => rfl)]; simp; omega) fun w6 H18 hS20 => ?_
  simp only [RT] at hS20
  simp (disch := omega) only [↓RA, RZ, simprocAttr, hn, g2, g3, g4, g6, q1]
  refine ⟨o.dvs.length - (i + 1), by omega, i + 1, w6, by omega, by simp, rfl, ?_⟩
  rw [dX, dL, dB]
  exact hS20.pick [0, 1, 2] (by decide) rfl
 simp (disch := omega) only [↓RA, RZ, simprocAttr, hn, g5, c6w, q]
 have hii : i = o.dvs.length := by omega
 subst hii
 exact hS4.pick [2] (by decide) rfl
theorem tK (o : Org) (b : Nat → Nat) : (nQ o b).length = o.dvs.length := by simp [nQ]
theorem a5V {o : Org} {b : Nat → Nat} {i : Nat} (hi : i < o.dvs.length) : iB (nQ o b) i = yG o b i := by
 rw [jU _ i (by rw [tK]; exact hi)]
 simp [nQ]
theorem b1B {o : Org} (hf : o.Fine) (b : Nat → Nat) {i : Nat} (hi : i < o.dvs.length) : Nt.Ok (yG o b i) := vN _ _ (fun z h => (uS hf (b (i % 3)) hi z h).1) ⟨by decide, by decide⟩
theorem a7l {o : Org} (hf : o.Fine) (b : Nat → Nat) : ∀ x ∈ nQ o b, Nt.Ok x := by
 intro x hx
 obtain ⟨i, hi, rfl⟩ := dy.1 hx
 exact b1B hf b (dx.1 hi)
theorem b4Y {x y : Nt} (hx : Nt.Ok x) (h : ∀ z, isN z → nV x z = true → nV y z = true) : woF x y = (0, 0) := by
 have k : ∀ z, isN z → nV (woF x y) z = false := fun z hz => by
  rw [b1G hx hz]
  cases e : nV x z with
  | false => rfl
  | true => rw [h z hz e]; rfl
 have big : ∀ a : Nat, a < 18446744073709551616 → ∀ j, 64 ≤ j → a.testBit j = false := fun a ha j hj =>
  Nat.testBit_lt_two_pow (dI (show a < 2 ^ 64 from ha) (fq (by decide) hj))
 obtain ⟨h1, h2⟩ := c1v x y
 apply gp
 ·apply fV
  intro j
  rw [ik]
  by_cases hj : 64 ≤ j
  ·exact big _ h1 j hj
  ·have := k (j : Int) ⟨by omega, by omega⟩
   unfold nV at this
   rw [if_pos (by omega)] at this
   exact this
 ·apply fV
  intro j
  rw [ik]
  by_cases hj : 64 ≤ j
  ·exact big _ h2 j hj
  ·have := k (64 + j : Int) ⟨by omega, by omega⟩
   unfold nV at this
   rw [if_neg (by omega), show (64 + (j : Int) - 64).toNat = j by omega] at this
   exact this
theorem b0v {o : Org} (h0 : organE o = 0) (b : Nat → Nat) : mE o (nQ o b) = 0 := by
 have hf := Org.aO h0
 unfold mE
 rw [if_neg (by rw [h0]; simp), if_neg (by rw [tK]; simp), if_neg]
 rintro ⟨j, hj, hne⟩
 apply hne
 have hk := hf.keys j hj
 rw [a5V hj]
 refine b4Y (b1B hf b hj) fun z hz hh => ?_
 rw [yG, a1W (fun n hn => (uS hf (b (j % 3)) hj n hn).1) hz] at hh
 have := uS hf (b (j % 3)) hj z (of_decide_eq_true hh)
 rw [a2g hk.1 hk.2.2 hz, decide_eq_true this.2.1, decide_eq_true this.2.2]
 rfl
end Go.Ds
namespace Go.Ds
open Go.Proofs
set_option maxRecDepth 10000
theorem Star.mono {α : Type} {R R' : α → α → Prop} (h : ∀ a b, R a b → R' a b) {a b : α} (hs : Star R a b) : Star R' a b := by
 induction hs with
 | refl => exact .refl _
 | tail _ h2 ih => exact .tail ih (h _ _ h2)
end Go.Ds
namespace Go.Ds
open Go.Proofs Go.Proofs.Tryz Go.Shelf Go.RowKit Go.Lib Go.Sort
def sm (x : Int × Int) : Prop := -1000000000 ≤ x.1 ∧ x.1 ≤ 1000000000 ∧ -1000000000 ≤ x.2 ∧ x.2 ≤ 1000000000
abbrev Sm := {x : Int × Int // sm x}
instance : Inhabited Sm := ⟨⟨(0, 0), by unfold sm; decide⟩⟩
def cfd (x y : Sm) : Int := if x.1.1 ≠ y.1.1 then x.1.1 - y.1.1 else x.1.2 - y.1.2
theorem ltd (x y : Sm) : ltOf cfd x y = decide (x.1.1 < y.1.1 ∨ (x.1.1 = y.1.1 ∧ x.1.2 < y.1.2)) := by
 unfold ltOf cfd
 congr 1
 apply propext
 split <;> omega
theorem c5V : SWO (ltOf cfd) where
 irrefl x := by rw [ltd]; simp
 trans x y z h1 h2 := by rw [ltd] at *; simp at *; omega
 ntrans x y z h1 h2 := by rw [ltd] at *; simp at *; omega
theorem c4d (x y : Sm) (h1 : ltOf cfd x y = false) (h2 : ltOf cfd y x = false) : x = y := by
 rw [ltd] at *
 simp at h1 h2
 apply Subtype.ext
 apply gp <;> omega
theorem c1L (x y : Sm) : (!(ltOf cfd) y x) = le2 x.1 y.1 := by
 rw [ltd, ← a9V]
 simp only [lt2]
theorem b6f (l : Array Sm) : flatK (fun x : Sm => jL x.1) 2 l = flatK jL 2 (l.map (·.1)) := by
 unfold flatK
 rw [Array.size_map]
 congr 1
 funext t
 congr 2
 by_cases h : t / 2 < l.size
 ·simp [h]
 ·simp [h]
  rfl
theorem b4P (w : World) (kI off n : Nat) (l : List Sm) (os : Array Obj) : sortWorldK (fun x : Sm => jL x.1) 2 w kI off n l.toArray os = sortWorldK jL 2 w kI off n (l.map (·.1)).toArray os := by
 unfold sortWorldK putRowK
 rw [b6f, List.map_toArray]
theorem b8a (l : List (Int × Int)) (h : ∀ x ∈ l, sm x) : (l.attachWith sm h).map (·.1) = l := by
 rw [List.map_attachWith]
 exact List.attach_map_subtype_val l
theorem b5K (l : List Sm) : (l.mergeSort fun x y => !(ltOf cfd) y x).map (·.1) = (l.map (·.1)).mergeSort le2 :=
 List.map_mergeSort fun x _ y _ => c1L x y
theorem c3S (kc : FuncId) (eg : ∀ args w, (callFunc kc args).run prog w = .ok (.enter kc args) w) (hf : ∀ x y : Sm, Fn prog kc [.agg #[I x.1.1, I x.1.2], .agg #[I y.1.1, I y.1.2]] .nil fun r H' => r = I (cfd x y) ∧ St prog (.nil : Heap) H' []) : a0m prog 58 kc sm :=
 fun kI off cap d w hs hH hblk hsz => by
  have hd : (d.toList.attachWith sm hs).toArray.map (·.1) = d := by
   rw [List.map_toArray, b8a]
  have hl : (d.toList.attachWith sm hs).toArray.size = d.size := by simp
  have hH' : HoldsK (fun x : Sm => jL x.1) 2 w kI off (d.toList.attachWith sm hs).toArray := by
   unfold HoldsK at hH ⊢
   rw [b6f, hd]
   exact hH
  have h := AnyQ.slices_SortFunc_total Tryz.bE 2 Tryz.isAgg122 Tryz.sizeOf122 (fun x : Sm => jL x.1) (fun _ => rfl) (fun x => xV x.1) cfd c5V kc #[] kI off cap (d.toList.attachWith sm hs).toArray w eg (a2c (fun x : Sm => x.1) cfd hf kI off _ w) hH' hblk (by rw [hl]; exact hsz) c4d
  rw [hl] at h
  refine h.mono ?_
  rintro e w' ⟨h1, n, os, h2⟩
  exact ⟨h1, n, os, by rw [h2, b4P, List.toList_toArray, b5K, b8a]⟩
def b1q (K kc : FuncId) : Prop := ∀ {H : Heap} {B : Base} {os : List Ob} (hS : St prog B H os) (i : Nat) {v : Value} {es : List (Int × Int)} (ho : os[i]? = some ⟨v, 2, pr es⟩) (hl : es.length < 100000000000) (hsm : ∀ x ∈ es, sm x) {Q : Value → Heap → Prop}
    (h : ∀ H1, St prog B H1 (os.set i ⟨v, 2, pr (pA es)⟩) → Q (.tuple #[]) H1), vH prog K [v, .func (.func kc) #[] #[]] H Q
section
variable {H : Heap}
theorem b8H (x y : Sm) : Fn prog 59 [.agg #[I x.1.1, I x.1.2], .agg #[I y.1.1, I y.1.2]] H fun r H' => r = I (cfd x y) ∧ St prog H H' [] := by
 obtain ⟨⟨x1, x2⟩, hx⟩ := x
 obtain ⟨⟨y1, y2⟩, hy⟩ := y
 unfold sm at hx hy
 simp only at hx hy ⊢
 refine .aG func59 rfl (by kernel_rfl) (m := 20) rfl fun l hn g0 g1 => ?_
 simp (disch := omega) only [↓RA, RB, simprocAttr, g0]
 refine (sR H).eNew 2 [I x1, I x2] rfl rfl rfl mM fun A1 H1 hS1 => ?_
 simp only [RT] at hS1
 simp (disch := omega) only [↓RA, RB, simprocAttr, g1]
 refine hS1.eNew 2 [I y1, I y2] rfl rfl rfl mM fun A2 H2 hS2 => ?_
 simp only [RT] at hS2
 simp (disch := omega) only [↓RA, RZ, simprocAttr, hn, hS2.ld 0 rfl, hS2.ld 1 rfl]
 refine iA (fun q => ?_) (fun q => ?_)
 ·simp (disch := omega) only [↓RA, RZ, simprocAttr, hn, hS2.ld 0 rfl, hS2.ld 1 rfl, c5E, q]
  exact ⟨by unfold cfd; rw [if_pos q], hS2.forget⟩
 simp (disch := omega) only [↓RA, RZ, simprocAttr, hn, hS2.ld 0 rfl, hS2.ld 1 rfl, c5E, q]
 exact ⟨by unfold cfd; rw [if_neg q], hS2.forget⟩
end
theorem c0L : b1q 58 59 := fun hS i _ _ ho hl hsm _ h => uO (c3S 59 (enters_of func59 (by kernel_rfl) rfl) fun x y => b8H x y) c1P c1R hS i ho hl hsm h
end Go.Ds
namespace Go.Ds
open Go.Proofs Go.Proofs.Tryz
variable {H : Heap}
set_option maxRecDepth 10000
set_option maxHeartbeats 1000000
theorem c5z (o : Org) (ho : o.In H) (d z : Int) : Fn prog 103 [.agg #[.string o.name, o.rv, o.dv, o.cv], .agg #[I d, I z]] H fun r H' => r = .bool (mG o (d, z)) ∧ St prog H H' [] := by
 have hl := ho.2.2.2.2.2.2.1
 by_cases hd : 0 ≤ d
 ·obtain ⟨j, rfl⟩ := fL hd
  refine .aG func103 rfl (by kernel_rfl) (m := 42) rfl fun l hn g0 g1 => ?_
  simp (disch := omega) only [↓RA, RB, simprocAttr, g0]
  refine (sR H).eNew 4 [(.string o.name), o.rv, o.dv, o.cv] rfl rfl (by simp [OC, ((sR H).sl ho.1).cells.2.1, ((sR H).sl ho.2.2.1).cells.2.1, ((sR H).sl ho.2.2.2.2.1).cells.2.1]) lO fun A1 H1 hS1 => ?_
  simp only [RT] at hS1
  simp (disch := omega) only [↓RA, RB, simprocAttr, g1]
  refine hS1.eNew 2 [I j, I z] rfl rfl rfl lQ fun A2 H2 hS2 => ?_
  simp only [RT] at hS2
  simp (disch := omega) only [↓RA, RB, simprocAttr]
  refine Wp.drw jY (by kernel_rfl) ?_
  simp (disch := omega) only [↓RA, RZ, simprocAttr, hn, hS2.ld 1 rfl]
  refine jD (fun g1 => ?_) (fun g1 => ?_)
  rotate_left
  ·exfalso; first | omega | (simp at g1; omega)
  simp (disch := omega) only [↓RA, RZ, simprocAttr, hn, hS2.ld 1 rfl, hS2.ld 0 rfl, (hS2.sl ho.2.2.1).len, g1]
  refine jD (fun g2 => ?_) (fun g2 => ?_)
  ·simp (disch := omega) only [↓RA, RZ, simprocAttr, hn, hS2.ld 1 rfl, hS2.ld 0 rfl, (hS2.sl ho.2.2.1).idx, (hS2.sl ho.2.2.1).aY, (hS2.sl ho.2.2.1).ld, Dvn.cells, g1, g2]
   refine jD (fun g3 => ?_) (fun g3 => ?_)
   ·simp (disch := omega) only [↓RA, RZ, simprocAttr, hn, hS2.ld 1 rfl, hS2.ld 0 rfl, (hS2.sl ho.2.2.1).idx, (hS2.sl ho.2.2.1).aY, (hS2.sl ho.2.2.1).ld, Dvn.cells, b1N, g1, g2, g3]
    exact ⟨by unfold mG; simp only [dR]; congr 1; simp; omega, hS2.forget⟩
   simp (disch := omega) only [↓RA, RZ, simprocAttr, hn, b1N, g1, g2, g3]
   exact ⟨by congr 1; symm; rw [← eI, mF]; simp only [dR]; omega, hS2.forget⟩
  simp (disch := omega) only [↓RA, RZ, simprocAttr, hn, b1N, g1, g2]
  exact ⟨by congr 1; symm; rw [← eI, mF]; simp only [dR]; omega, hS2.forget⟩
 ·refine .aG func103 rfl (by kernel_rfl) (m := 42) rfl fun l hn g0 g1 => ?_
  simp (disch := omega) only [↓RA, RB, simprocAttr, g0]
  refine (sR H).eNew 4 [(.string o.name), o.rv, o.dv, o.cv] rfl rfl (by simp [OC, ((sR H).sl ho.1).cells.2.1, ((sR H).sl ho.2.2.1).cells.2.1, ((sR H).sl ho.2.2.2.2.1).cells.2.1]) lO fun A1 H1 hS1 => ?_
  simp only [RT] at hS1
  simp (disch := omega) only [↓RA, RB, simprocAttr, g1]
  refine hS1.eNew 2 [I d, I z] rfl rfl rfl lQ fun A2 H2 hS2 => ?_
  simp only [RT] at hS2
  simp (disch := omega) only [↓RA, RB, simprocAttr]
  refine Wp.drw jY (by kernel_rfl) ?_
  simp (disch := omega) only [↓RA, RZ, simprocAttr, hn, hS2.ld 1 rfl]
  refine jD (fun g1 => ?_) (fun g1 => ?_)
  ·exfalso; first | omega | (simp at g1; omega)
  simp (disch := omega) only [↓RA, RZ, simprocAttr, hn, b1N, g1]
  exact ⟨by congr 1; symm; rw [← eI, mF]; simp only; omega, hS2.forget⟩
theorem b1b (o : Org) (ho : o.In H) (c : Ct) : Fn prog 103 [.agg #[.string o.name, o.rv, o.dv, o.cv], .agg #[I c.1, I c.2]] H fun r H' => r = .bool (mG o c) ∧ St prog H H' [] := c5z o ho c.1 c.2
def a8s (o : Org) (ks : List Nt) (i n : Nat) : List Ct := ((List.range n).filter fun (j : Nat) => nV (iB ks i) ((iB o.dvs i).lo + (j : Int))).map fun (j : Nat) => ((i : Int), (iB o.dvs i).lo + (j : Int))
theorem b2G (o : Org) (ks : List Nt) (i n : Nat) : a8s o ks i (n + 1) = a8s o ks i n ++ (if nV (iB ks i) ((iB o.dvs i).lo + (n : Int)) then [((i : Int), (iB o.dvs i).lo + (n : Int))] else []) := by
 unfold a8s
 rw [dX, eP, dL]
 congr 1
 cases h : nV (iB ks i) ((iB o.dvs i).lo + (n : Int)) <;> simp [h]
theorem b0R (o : Org) (ks : List Nt) (i n : Nat) : (a8s o ks i n).length ≤ n := by
 unfold a8s
 rw [dK]
 exact dA (eh _ _) (by simp)
theorem a7m {o : Org} (hf : o.Fine) (ks : List Nt) : ∀ i, i ≤ o.dvs.length → ((List.range i).flatMap (a2H o ks)).length ≤ i * 128
 | 0, _ => by simp
 | i + 1, h => by
   have h1 := a7m hf ks i (by omega)
   have h2 := b0R o ks i ((iB o.dvs i).hi - (iB o.dvs i).lo + 1).toNat
   have hk := hf.keys i (by omega)
   have h3 : (a2H o ks i).length ≤ 128 := dA h2 (by omega)
   rw [dX, dB, dj, dz, ew, dm]
   omega
theorem a7p (o : Org) (ho : o.In H) (hf : o.Fine) (kv : Value) (ks : List Nt) (hk : Ks H kv ks) (hl : ks.length = o.dvs.length) :
 Fn prog 79 [.agg #[.string o.name, o.rv, o.dv, o.cv], kv] H fun r H' => St prog H H' [⟨r, 2, pr (b0o o ks)⟩] := by
 have hd8 := hf.dlen
 refine .aG func79 rfl (by kernel_rfl) (m := 55) rfl fun l hn g0 g1 => ?_
 simp (disch := omega) only [↓RA, RB, simprocAttr, g0]
 refine (sR H).eNew 4 [(.string o.name), o.rv, o.dv, o.cv] rfl rfl (by simp [OC, ((sR H).sl ho.1).cells.2.1, ((sR H).sl ho.2.2.1).cells.2.1, ((sR H).sl ho.2.2.2.2.1).cells.2.1]) lO fun A1 H1 hS1 => ?_
 simp only [RT] at hS1
 simp (disch := omega) only [↓RA, RZ, simprocAttr, hn, hS1.ld 0 rfl, (hS1.sl ho.2.2.1).len]
 have hS2 := hS1.nil 1
 simp only [RT] at hS2
 refine Wp.ak (fun n l H' => l.length = 55 ∧ get l 1 = kv ∧ get l 4 = (.slice none 0 0) ∧ get l 11 = o.dv ∧ get l 12 = I o.dvs.length ∧ ∃ (i : Nat) (ov : Value), (n + i = o.dvs.length) ∧ get l 13 = I i ∧ get l 5 = ov ∧ St prog H H' [⟨ptr A1 0 4, 0, [(.string o.name), o.rv, o.dv, o.cv]⟩, ⟨ov, 2, pr ((List.range i).flatMap (a2H o ks))⟩]) o.dvs.length ?_ ?_
 ·simp (disch := omega) only [RB, RC, simprocAttr, hn, g1]
  exact ⟨0, .slice none 0 0, by omega, rfl, rfl, hS2⟩
 rintro n l H2 ⟨hn, g1, g4, g11, g12, i, ov, hi, g13, g5, hS3⟩
 simp (disch := omega) only [↓RA, RB, simprocAttr, hn, g12, g13]
 refine iA (fun q => ?_) (fun q => ?_)
 ·have hky := hf.keys i (by omega)
  have hx := hk.ok _ (iD (xs := ks) (j := i) (by omega))
  have hpl := a7m hf ks i (by omega)
  simp (disch := omega) only [↓RA, RZ, simprocAttr, hn, g11, g13, (hS3.sl ho.2.2.1).idx, (hS3.sl ho.2.2.1).ag, Dvn.cells, q]
  refine hS3.eNew 5 [(.string ⟨#[]⟩), (.bool false), I 0, I 0, (.slice none 0 0)] rfl rfl rfl yQ fun A2 H3 hS4 => ?_
  simp only [RT] at hS4
  simp (disch := omega) only [↓RA, RZ, simprocAttr, hn, q]
  refine hS4.aa 2 rfl [(.string (iB o.dvs i).name), (.bool (iB o.dvs i).pedal), I (iB o.dvs i).lo, I (iB o.dvs i).hi, (iB o.dvs i).sv] rfl (by simp [OC, (hS4.sl (ho.2.2.2.1 (iB o.dvs i) (iD (by omega))).1).cells.2.1]) yQ (by simp) fun H4 hS5 => ?_
  simp only [RT] at hS5
  simp (disch := omega) only [↓RA, RZ, simprocAttr, hn, hS5.ld 2 rfl, q]
  refine Wp.ak (fun n l H' => l.length = 55 ∧ get l 1 = kv ∧ get l 4 = (.slice none 0 0) ∧ get l 6 = I i ∧ get l 7 = (ptr A2 0 5) ∧ get l 11 = o.dv ∧ get l 12 = I o.dvs.length ∧ get l 13 = I i ∧ ∃ (j : Nat) (ow : Value), (n + j = ((iB o.dvs i).hi - (iB o.dvs i).lo + 1).toNat) ∧ get l 8 = I ((iB o.dvs i).lo + j) ∧ get l 5 = ow ∧ St prog H H' [⟨ptr A1 0 4, 0, [(.string o.name), o.rv, o.dv, o.cv]⟩, ⟨ow, 2, pr ((List.range i).flatMap (a2H o ks) ++ a8s o ks i j)⟩, ⟨ptr A2 0 5, 0, [(.string (iB o.dvs i).name), (.bool (iB o.dvs i).pedal), I (iB o.dvs i).lo, I (iB o.dvs i).hi, (iB o.dvs i).sv]⟩]) ((iB o.dvs i).hi - (iB o.dvs i).lo + 1).toNat ?_ ?_
  ·simp (disch := omega) only [RB, RC, simprocAttr, hn, g1, g4, g11, g12, g13, g5]
   refine ⟨0, ov, by omega, by simp, rfl, ?_⟩
   rw [show a8s o ks i 0 = [] from rfl, dm]
   exact hS5
  rintro n l H5 ⟨hn, g1, g4, g6, g7, g11, g12, g13, j, ow, hj, g8, g5, hS6⟩
  simp (disch := omega) only [↓RA, RZ, simprocAttr, hn, g7, g8, hS6.ld 2 rfl]
  refine iA (fun q2 => ?_) (fun q2 => ?_)
  ·have hsu := b2G o ks i j
   have hpj := b0R o ks i j
   obtain ⟨m, hm⟩ : ∃ m : Nat, (iB o.dvs i).lo + (j : Int) = m := ⟨((iB o.dvs i).lo + (j : Int)).toNat, by omega⟩
   rw [hm] at hsu
   simp (disch := omega) only [↓RA, RZ, simprocAttr, hn, g1, g6, g8, (hS6.sl hk.sl).idx, (hS6.sl hk.sl).aY, (hS6.sl hk.sl).ld, ntc, hm]
   refine iA (fun q3 => ?_) (fun q3 => ?_)
   ·have e0 : (m : Int).tmod 64 = ((m - 64 : Nat) : Int) := by rw [show (m : Int).tmod 64 = ((m % 64 : Nat) : Int) from (ed m 64).symm]; omega
    have e1 := a0v (iB ks i).2 (m - 64) hx.2
    have e2 := yV ((iB ks i).2 >>> (m - 64)) (tG _ hx.2)
    have e3 := tb (iB ks i).2 (m - 64)
    have e4 : nV (iB ks i) (m : Int) = (iB ks i).2.testBit (m - 64) := by unfold nV; rw [if_neg (by omega), show ((m : Int) - 64).toNat = m - 64 by omega]
    simp (disch := omega) only [↓RA, RZ, simprocAttr, hn, g1, g6, g8, (hS6.sl hk.sl).idx, (hS6.sl hk.sl).aY, (hS6.sl hk.sl).ld, ntc, hm, q3, e0, e1, e2]
    refine iA (fun q4 => ?_) (fun q4 => ?_)
    ·rw [e4, e3, decide_eq_true (by omega), if_pos rfl] at hsu
     simp (disch := omega) only [↓RA, RZ, simprocAttr, hn, g6, g8, g5, qX, hm, q3, q4]
     refine hS6.ae [I i, I m] mJ uP rfl rfl (by simp [Value.cells]) rfl rfl (by decide) (by decide) fun w1 H6 hS7 => ?_
     simp only [RT] at hS7
     simp (disch := omega) only [↓RA, RZ, simprocAttr, hn, hm, q3, q4]
     refine hS7.al 1 rfl (hS7.rd 3 rfl) mJ (by rw [iI, dj]; simp only [dT, ef]; omega) fun w2 H7 hS8 => ?_
     simp only [RT] at hS8
     simp (disch := omega) only [↓RA, RZ, simprocAttr, hn, g1, g4, g6, g7, g11, g12, g13, g8, hm, q3, q4]
     refine ⟨n - 1, by omega, j + 1, w2, by omega, by simp; omega, rfl, ?_⟩
     rw [hsu, ← ek, jI]
     exact hS8.pick [0, 1, 2] (by decide) rfl
    rw [e4, e3, decide_eq_false (by omega), if_neg (by simp), dm] at hsu
    simp (disch := omega) only [↓RA, RZ, simprocAttr, hn, g1, g4, g6, g7, g11, g12, g13, g8, g5, hm, q3, q4]
    refine ⟨n - 1, by omega, j + 1, ow, by omega, by simp; omega, rfl, ?_⟩
    rw [hsu]
    exact hS6.pick [0, 1, 2] (by decide) rfl
   have e0 : (m : Int).tmod 64 = ((m : Nat) : Int) := by rw [show (m : Int).tmod 64 = ((m % 64 : Nat) : Int) from (ed m 64).symm]; omega
   have e1 := a0v (iB ks i).1 m hx.1
   have e2 := yV ((iB ks i).1 >>> m) (tG _ hx.1)
   have e3 := tb (iB ks i).1 m
   have e4 : nV (iB ks i) (m : Int) = (iB ks i).1.testBit m := by unfold nV; rw [if_pos (by omega)]; rfl
   simp (disch := omega) only [↓RA, RZ, simprocAttr, hn, g8, hm, q3, e0, e1, e2]
   refine iA (fun q4 => ?_) (fun q4 => ?_)
   ·rw [e4, e3, decide_eq_true (by omega), if_pos rfl] at hsu
    simp (disch := omega) only [↓RA, RZ, simprocAttr, hn, g6, g8, g5, qX, hm, q3, q4]
    refine hS6.ae [I i, I m] mJ uP rfl rfl (by simp [Value.cells]) rfl rfl (by decide) (by decide) fun w3 H8 hS9 => ?_
    simp only [RT] at hS9
    simp (disch := omega) only [↓RA, RZ, simprocAttr, hn, hm, q3, q4]
    refine hS9.al 1 rfl (hS9.rd 3 rfl) mJ (by rw [iI, dj]; simp only [dT, ef]; omega) fun w4 H9 hS10 => ?_
    simp only [RT] at hS10
    simp (disch := omega) only [↓RA, RZ, simprocAttr, hn, g1, g4, g6, g7, g11, g12, g13, g8, hm, q3, q4]
    refine ⟨n - 1, by omega, j + 1, w4, by omega, by simp; omega, rfl, ?_⟩
    rw [hsu, ← ek, jI]
    exact hS10.pick [0, 1, 2] (by decide) rfl
   rw [e4, e3, decide_eq_false (by omega), if_neg (by simp), dm] at hsu
   simp (disch := omega) only [↓RA, RZ, simprocAttr, hn, g1, g4, g6, g7, g11, g12, g13, g8, g5, hm, q3, q4]
   refine ⟨n - 1, by omega, j + 1, ow, by omega, by simp; omega, rfl, ?_⟩
   rw [hsu]
   exact hS6.pick [0, 1, 2] (by decide) rfl
  simp (disch := omega) only [↓RA, RZ, simprocAttr, hn, g1, g4, g11, g12, g13, g5, q2]
  refine ⟨o.dvs.length - (i + 1), by omega, i + 1, ow, by omega, by simp, rfl, ?_⟩
  have hjj : j = ((iB o.dvs i).hi - (iB o.dvs i).lo + 1).toNat := by omega
  rw [dX, dB, dz, ew, dm]
  rw [show a2H o ks i = a8s o ks i j from by rw [hjj]; rfl]
  exact hS6.pick [0, 1] (by decide) rfl
 simp (disch := omega) only [↓RA, RZ, simprocAttr, hn, g5, c7k, q]
 have hii : i = o.dvs.length := by omega
 subst hii
 exact hS3.pick [1] (by decide) rfl
end Go.Ds
namespace Go.Ds
open Go.Proofs Go.Proofs.Tryz Go.Shelf Go.RowKit Go.Lib Go.Sort
theorem c3d (kc : FuncId) (eg : ∀ args w, (callFunc kc args).run prog w = .ok (.enter kc args) w) (hf : ∀ x y : Sm, Fn prog kc [.agg #[I x.1.1, I x.1.2], .agg #[I y.1.1, I y.1.2]] .nil fun r H' => r = I (cfd x y) ∧ St prog (.nil : Heap) H' []) : a0m prog 82 kc sm :=
 fun kI off cap d w hs hH hblk hsz => by
  have hd : (d.toList.attachWith sm hs).toArray.map (·.1) = d := by
   rw [List.map_toArray, b8a]
  have hl : (d.toList.attachWith sm hs).toArray.size = d.size := by simp
  have hH' : HoldsK (fun x : Sm => jL x.1) 2 w kI off (d.toList.attachWith sm hs).toArray := by
   unfold HoldsK at hH ⊢
   rw [b6f, hd]
   exact hH
  have h := AnyQ.slices_SortFunc_total Tryz.bl 2 Tryz.isAgg61 Tryz.sizeOf61 (fun x : Sm => jL x.1) (fun _ => rfl) (fun x => xV x.1) cfd c5V kc #[] kI off cap (d.toList.attachWith sm hs).toArray w eg (a2c (fun x : Sm => x.1) cfd hf kI off _ w) hH' hblk (by rw [hl]; exact hsz) c4d
  rw [hl] at h
  refine h.mono ?_
  rintro e w' ⟨h1, n, os, h2⟩
  exact ⟨h1, n, os, by rw [h2, b4P, List.toList_toArray, b5K, b8a]⟩
section
variable {H : Heap}
theorem b7I (x y : Sm) : Fn prog 83 [.agg #[I x.1.1, I x.1.2], .agg #[I y.1.1, I y.1.2]] H fun r H' => r = I (cfd x y) ∧ St prog H H' [] := by
 obtain ⟨⟨x1, x2⟩, hx⟩ := x
 obtain ⟨⟨y1, y2⟩, hy⟩ := y
 unfold sm at hx hy
 simp only at hx hy ⊢
 refine .aG func83 rfl (by kernel_rfl) (m := 20) rfl fun l hn g0 g1 => ?_
 simp (disch := omega) only [↓RA, RB, simprocAttr, g0]
 refine (sR H).eNew 2 [I x1, I x2] rfl rfl rfl lQ fun A1 H1 hS1 => ?_
 simp only [RT] at hS1
 simp (disch := omega) only [↓RA, RB, simprocAttr, g1]
 refine hS1.eNew 2 [I y1, I y2] rfl rfl rfl lQ fun A2 H2 hS2 => ?_
 simp only [RT] at hS2
 simp (disch := omega) only [↓RA, RZ, simprocAttr, hn, hS2.ld 0 rfl, hS2.ld 1 rfl]
 refine iA (fun q => ?_) (fun q => ?_)
 ·simp (disch := omega) only [↓RA, RZ, simprocAttr, hn, hS2.ld 0 rfl, hS2.ld 1 rfl, c5L, q]
  exact ⟨by unfold cfd; rw [if_pos q], hS2.forget⟩
 simp (disch := omega) only [↓RA, RZ, simprocAttr, hn, hS2.ld 0 rfl, hS2.ld 1 rfl, c5L, q]
 exact ⟨by unfold cfd; rw [if_neg q], hS2.forget⟩
end
theorem c5I : b1q 82 83 := fun hS i _ _ ho hl hsm _ h => uO (c3d 83 (enters_of func83 (by kernel_rfl) rfl) fun x y => b7I x y) c0Y c0N hS i ho hl hsm h
end Go.Ds
namespace Go.Ds
open Go.Proofs Go.Proofs.Tryz
variable {H : Heap}
set_option maxRecDepth 10000
set_option maxHeartbeats 1000000
theorem Ct.cQ (a b : Ct) : (a.1 = b.1 ∧ a.2 = b.2) ↔ b = a := ⟨fun h => gp h.1.symm h.2.symm, fun h => by rw [h]; exact ⟨rfl, rfl⟩⟩
theorem b0H (v : Value) (xs : List Ct) (hv : Sl 2 jL H v xs) (hl : xs.length < 1000000000) (d : Ct) :
 Fn prog 104 [v, .agg #[I d.1, I d.2]] H fun r H' => r = I (pK (fun j => decide (iB xs j = d)) xs.length) ∧ St prog H H' [] := by
 refine .aG func104 rfl (by kernel_rfl) (m := 19) rfl fun l hn g0 g1 => ?_
 simp (disch := omega) only [↓RA, RB, simprocAttr, g1]
 refine (sR H).eNew 2 [I d.1, I d.2] rfl rfl rfl lQ fun A1 H1 hS1 => ?_
 simp only [RT] at hS1
 simp (disch := omega) only [↓RA, RZ, simprocAttr, hn, g0, (hS1.sl hv).len]
 refine Wp.ak (fun n l H' => l.length = 19 ∧ get l 0 = v ∧ get l 3 = (ptr A1 0 2) ∧ get l 7 = I xs.length ∧ ∃ (j : Nat), (n + j = xs.length ∧ ∀ q, q < j → decide (iB xs q = d) = false) ∧ get l 8 = I j ∧ St prog H H' [⟨ptr A1 0 2, 0, [I d.1, I d.2]⟩]) xs.length ?_ ?_
 ·simp (disch := omega) only [RB, RC, simprocAttr, hn, g0]
  exact ⟨0, ⟨by omega, fun q hq => absurd hq (dO _)⟩, rfl, hS1⟩
 rintro n l H2 ⟨hn, g0, g3, g7, j, ⟨hi,h0⟩, g8, hS2⟩
 simp (disch := omega) only [↓RA, RB, simprocAttr, hn, g7, g8]
 refine iA (fun h => ?_) (fun h => ?_)
 ·simp (disch := omega) only [↓RA, RZ, simprocAttr, hn, g8, h]
  refine Wp.drw jY (by kernel_rfl) ?_
  simp (disch := omega) only [↓RA, RZ, simprocAttr, hn, g0, g3, hS2.ag 0 rfl, (hS2.sl hv).idx, (hS2.sl hv).ag, jL]
  refine iA (fun hp => ?_) (fun hp => ?_)
  ·simp (disch := omega) only [↓RA, RZ, simprocAttr, hn, c0G, hp]
   exact ⟨by rw [zI _ xs.length j (by omega) (by simpa using (Ct.cQ _ _).1 hp) h0], hS2.forget⟩
  simp (disch := omega) only [↓RA, RZ, simprocAttr, hn, g0, g3, g7, g8, hp]
  exact ⟨n - 1, by omega, j + 1, ⟨by omega, fun q hq => by rcases du.1 hq with e | e; (· exact h0 q e); (· rw [e]; simpa using fun hh => hp ((Ct.cQ _ _).2 hh))⟩, by simp, hS2⟩
 simp (disch := omega) only [↓RA, RZ, simprocAttr, hn, c0G, h]
 exact ⟨by rw [xW _ xs.length fun q hq => h0 q (by omega)], hS2.forget⟩
theorem a2O (v : Value) (xs : List Ct) (hv : Sl 2 jL H v xs) (hl : xs.length < 1000000000) (d : Ct) :
 Fn prog 81 [v, .agg #[I d.1, I d.2]] H fun r H' => r = .bool (decide (d ∈ xs)) ∧ St prog H H' [] := by
 have e : decide (0 ≤ pK (fun j => decide (iB xs j = d)) xs.length) = decide (d ∈ xs) := by
  rw [eF, decide_eq_true_iff, decide_eq_true_iff, xS]
  constructor
  ·rintro ⟨j, hj, hp⟩
   rw [← of_decide_eq_true hp]; exact iD hj
  ·intro hx
   obtain ⟨j, hj, rfl⟩ := dQ.1 hx
   exact ⟨j, hj, by rw [jU xs j hj]; simp⟩
 refine .aG func81 rfl (by kernel_rfl) (m := 9) rfl fun l hn g0 g1 => ?_
 simp (disch := omega) only [↓RA, RB, simprocAttr, g1]
 refine (sR H).eNew 2 [I d.1, I d.2] rfl rfl rfl lQ fun A1 H1 hS1 => ?_
 simp only [RT] at hS1
 simp (disch := omega) only [↓RA, RZ, simprocAttr, hn, g0, hS1.ag 0 rfl]
 refine hS1.cF (b0H v xs (hS1.sl hv) hl d) fun H2 hS2 => ?_
 simp (disch := omega) only [↓RA, RB, simprocAttr, hn, c6L]
 rw [← e]
 first | exact hS2.forget | exact ⟨rfl, hS2.forget⟩
theorem a7z {B : Base} (o : Org) (r : Reg) (sv : Value) (c : Ct) (thr : Bool) (AO AR AQ : Nat) (qv : Value) (q : List Ct)
 (hS : St prog B H [⟨ptr AQ 0 1, 0, [qv]⟩, ⟨qv, 2, pr q⟩])
 (hO : ∀ {H1 : Heap} {os : List Ob}, St prog B H1 os → Var H1 AO 4 [.string o.name, o.rv, o.dv, o.cv] ∧ o.In H1 ∧ Var H1 AR 3 [sv, .int .u64 r.cpl, .int .u64 r.off])
 (hq : Que o q) (ho : o.Fine) (hr : r.Ok) :
 Fn prog 102 [.agg #[I c.1, I c.2], .bool thr, ptr AO 0 4, ptr AR 0 3, ptr AQ 0 1] H fun rr H' => ∃ qv', rr = .tuple #[] ∧
  St prog B H' [⟨ptr AQ 0 1, 0, [qv']⟩, ⟨qv', 2, pr (stepF o r.cpl thr c q)⟩] := by
 have hcl := ho.clen
 refine .cR func102 rfl (by kernel_rfl) (m := 64) rfl fun l hn g0 g1 g2 g3 g4 => ?_
 simp (disch := omega) only [↓RA, RB, simprocAttr, g0]
 refine hS.eNew 2 [I c.1, I c.2] rfl rfl rfl lQ fun A1 H1 hS1 => ?_
 simp only [RT] at hS1
 simp (disch := omega) only [↓RA, RZ, simprocAttr, hn, g2, ((hO hS1).1).ld, ((hO hS1).2.1.2.2.2.2.1).len]
 refine Wp.ak (fun n l H' => l.length = 64 ∧ get l 1 = (.bool thr) ∧ get l 2 = (ptr AO 0 4) ∧ get l 3 = (ptr AR 0 3) ∧ get l 4 = (ptr AQ 0 1) ∧ get l 5 = (ptr A1 0 2) ∧ get l 11 = o.cv ∧ get l 12 = I o.cpls.length ∧ ∃ (i : Nat) (qv' : Value), (n + i = o.cpls.length) ∧ get l 13 = I i ∧ St prog B H' [⟨ptr AQ 0 1, 0, [qv']⟩, ⟨qv', 2, pr (stepN o r.cpl thr c q i)⟩, ⟨ptr A1 0 2, 0, [I c.1, I c.2]⟩]) o.cpls.length ?_ ?_
 ·simp (disch := omega) only [RB, RC, simprocAttr, hn, g1, g2, g3, g4]
  exact ⟨0, qv, by omega, rfl, hS1⟩
 rintro n l H2 ⟨hn, g1, g2, g3, g4, g5, g11, g12, i, qv', hi, g13, hS2⟩
 simp (disch := omega) only [↓RA, RB, simprocAttr, hn, g12, g13]
 refine iA (fun q1 => ?_) (fun q1 => ?_)
 ·have hql : (stepN o r.cpl thr c q i).length ≤ 1024 := (hq.stepN r.cpl thr c i).len ho
  have e1 := a0v r.cpl i hr.2.2.1
  have e2 := yV (r.cpl >>> i) (tG i hr.2.2.1)
  have e3 := tb r.cpl i
  have hstay : (tJ r.cpl thr c (iB o.cpls i) i && mG o (to1 (iB o.cpls i) c) && !decide (to1 (iB o.cpls i) c ∈ stepN o r.cpl thr c q i)) = false → stepN o r.cpl thr c q (i + 1) = stepN o r.cpl thr c q i := fun h => by
   rw [lS, step1, if_neg (by rw [h]; simp)]
  simp (disch := omega) only [↓RA, RZ, simprocAttr, hn, g11, g13, ((hO hS2).2.1.2.2.2.2.1).idx, ((hO hS2).2.1.2.2.2.2.1).ag, Cpl.cells, q1]
  refine hS2.eNew 5 [(.string ⟨#[]⟩), I 0, I 0, I 0, (.bool false)] rfl rfl rfl tS fun A2 H3 hS3 => ?_
  simp only [RT] at hS3
  simp (disch := omega) only [↓RA, RZ, simprocAttr, hn, q1]
  refine hS3.aa 3 rfl [(.string (iB o.cpls i).name), I (iB o.cpls i).src, I (iB o.cpls i).dst, I (iB o.cpls i).shift, (.bool (iB o.cpls i).thr)] rfl rfl tS (by simp) fun H4 hS4 => ?_
  simp only [RT] at hS4
  simp (disch := omega) only [↓RA, RZ, simprocAttr, hn, g5, hS4.ld 3 rfl, hS4.ld 2 rfl, q1]
  simp (disch := omega) only [↓RA, RZ, simprocAttr, qX]
  refine hS4.eNew 2 [I 0, I 0] rfl rfl rfl lQ fun A3 H5 hS5 => ?_
  simp only [RT] at hS5
  simp (disch := omega) only [↓RA, RZ, simprocAttr, hn, q1]
  refine hS5.aa 4 rfl [I (iB o.cpls i).dst, I (oE (c.2 + (iB o.cpls i).shift))] rfl rfl lQ (by simp) fun H6 hS6 => ?_
  simp only [RT] at hS6
  simp (disch := omega) only [↓RA, RZ, simprocAttr, hn, g3, ((hO hS6).2.2).ld, q1, e1, e2]
  refine jD (fun b1 => ?_) (fun b1 => ?_)
  ·have hb : r.cpl.testBit i = true := by rw [e3]; exact decide_eq_true (by omega)
   simp (disch := omega) only [↓RA, RZ, simprocAttr, hn, g5, hS6.ld 3 rfl, hS6.ld 2 rfl, q1, b1]
   refine jD (fun b2 => ?_) (fun b2 => ?_)
   ·have hsrc : (iB o.cpls i).src = c.1 := by omega
    have hgg : tJ r.cpl thr c (iB o.cpls i) i = (!thr || (iB o.cpls i).thr) := by unfold tJ; rw [hb, decide_eq_true hsrc]; rfl
    simp (disch := omega) only [↓RA, RZ, simprocAttr, hn, hS6.ld 3 rfl, q1, b1, b2]
    refine pH (fun b3 => ?_) (fun b3 => ?_)
    ·have hg : tJ r.cpl thr c (iB o.cpls i) i = true := by rw [hgg, b3]; simp
     simp (disch := omega) only [↓RA, RZ, simprocAttr, hn, g2, ((hO hS6).1).ag, hS6.ag 4 rfl, q1, b1, b2, b3]
     refine hS6.cF (b1b o (hO hS6).2.1 ((iB o.cpls i).dst, oE (c.2 + (iB o.cpls i).shift))) fun H7 hS7 => ?_
     simp (disch := omega) only [↓RA, RZ, simprocAttr, hn, q1, b1, b2, b3]
     refine pH (fun b5 => ?_) (fun b5 => ?_)
     ·simp (disch := omega) only [↓RA, RZ, simprocAttr, hn, g4, hS7.ld 0 rfl, hS7.ag 4 rfl, q1, b1, b2, b3, b5]
      refine hS7.cF (a2O qv' (stepN o r.cpl thr c q i) (hS7.aw 1 rfl (fun _ => rfl)) (by omega) ((iB o.cpls i).dst, oE (c.2 + (iB o.cpls i).shift))) fun H8 hS8 => ?_
      simp (disch := omega) only [↓RA, RZ, simprocAttr, hn, q1, b1, b2, b3, b5]
      refine jO (fun b6 => ?_) (fun b6 => ?_)
      ·have hs : stepN o r.cpl thr c q (i + 1) = stepN o r.cpl thr c q i ++ [((iB o.cpls i).dst, oE (c.2 + (iB o.cpls i).shift))] := by
        rw [lS]
        unfold step1
        have hnot : ((iB o.cpls i).dst, oE (c.2 + (iB o.cpls i).shift)) ∉ stepN o r.cpl thr c q i := by simpa using b6
        rw [if_pos (by rw [hg]; simp only [to1, b5]; simp [hnot])]
        rfl
       simp (disch := omega) only [↓RA, RZ, simprocAttr, hn, g4, hS8.ld 0 rfl, hS8.ag 4 rfl, q1, b1, b2, b3, b5, b6]
       refine hS8.ae [I (iB o.cpls i).dst, I (oE (c.2 + (iB o.cpls i).shift))] mJ uP rfl rfl (by simp [Value.cells]) rfl rfl (by decide) (by decide) fun w1 H9 hS9 => ?_
       simp only [RT] at hS9
       simp (disch := omega) only [↓RA, RZ, simprocAttr, hn, q1, b1, b2, b3, b5, b6]
       refine hS9.al 1 rfl (hS9.rd 5 rfl) mJ (by rw [iI]; simp; omega) fun w2 H10 hS10 => ?_
       simp only [RT] at hS10
       simp (disch := omega) only [↓RA, RZ, simprocAttr, hn, g4, q1, b1, b2, b3, b5, b6]
       refine hS10.aa 0 rfl [w2] (by rw [(hS10.rd 1 rfl).cells.1]) (by simp [(hS10.rd 1 rfl).cells.2.1]) a1Q (by simp) fun H11 hS11 => ?_
       simp only [RT] at hS11
       simp (disch := omega) only [↓RA, RZ, simprocAttr, hn, g1, g2, g3, g4, g5, g11, g12, g13, q1, b1, b2, b3, b5, b6]
       refine ⟨n - 1, by omega, i + 1, w2, by omega, by simp, ?_⟩
       rw [hs, jI]
       exact hS11.pick [0, 1, 2] (by decide) rfl
      have hin : ((iB o.cpls i).dst, oE (c.2 + (iB o.cpls i).shift)) ∈ stepN o r.cpl thr c q i := by simpa using b6
      have hs := hstay (by simp only [to1]; simp [hin])
      simp (disch := omega) only [↓RA, RZ, simprocAttr, hn, g1, g2, g3, g4, g5, g11, g12, g13, q1, b1, b2, b3, b5, b6]
      exact ⟨n - 1, by omega, i + 1, qv', by omega, by simp, by rw [hs]; exact hS8.pick [0, 1, 2] (by decide) rfl⟩
     have hs := hstay (by rw [eL, eL]; exact .inl (.inr (by simpa [to1] using b5)))
     simp (disch := omega) only [↓RA, RZ, simprocAttr, hn, g1, g2, g3, g4, g5, g11, g12, g13, q1, b1, b2, b3, b5]
     exact ⟨n - 1, by omega, i + 1, qv', by omega, by simp, by rw [hs]; exact hS7.pick [0, 1, 2] (by decide) rfl⟩
    simp (disch := omega) only [↓RA, RZ, simprocAttr, hn, g1, q1, b1, b2, b3]
    refine pH (fun b4 => ?_) (fun b4 => ?_)
    ·have hg : tJ r.cpl thr c (iB o.cpls i) i = true := by
      have : thr = false := by simpa using b4
      rw [hgg, this]; rfl
     simp (disch := omega) only [↓RA, RZ, simprocAttr, hn, g2, ((hO hS6).1).ag, hS6.ag 4 rfl, q1, b1, b2, b3, b4]
     refine hS6.cF (b1b o (hO hS6).2.1 ((iB o.cpls i).dst, oE (c.2 + (iB o.cpls i).shift))) fun H12 hS12 => ?_
     simp (disch := omega) only [↓RA, RZ, simprocAttr, hn, q1, b1, b2, b3, b4]
     refine pH (fun b5 => ?_) (fun b5 => ?_)
     ·simp (disch := omega) only [↓RA, RZ, simprocAttr, hn, g4, hS12.ld 0 rfl, hS12.ag 4 rfl, q1, b1, b2, b3, b4, b5]
      refine hS12.cF (a2O qv' (stepN o r.cpl thr c q i) (hS12.aw 1 rfl (fun _ => rfl)) (by omega) ((iB o.cpls i).dst, oE (c.2 + (iB o.cpls i).shift))) fun H13 hS13 => ?_
      simp (disch := omega) only [↓RA, RZ, simprocAttr, hn, q1, b1, b2, b3, b4, b5]
      refine jO (fun b6 => ?_) (fun b6 => ?_)
      ·have hs : stepN o r.cpl thr c q (i + 1) = stepN o r.cpl thr c q i ++ [((iB o.cpls i).dst, oE (c.2 + (iB o.cpls i).shift))] := by
        rw [lS]
        unfold step1
        have hnot : ((iB o.cpls i).dst, oE (c.2 + (iB o.cpls i).shift)) ∉ stepN o r.cpl thr c q i := by simpa using b6
        rw [if_pos (by rw [hg]; simp only [to1, b5]; simp [hnot])]
        rfl
       simp (disch := omega) only [↓RA, RZ, simprocAttr, hn, g4, hS13.ld 0 rfl, hS13.ag 4 rfl, q1, b1, b2, b3, b4, b5, b6]
       refine hS13.ae [I (iB o.cpls i).dst, I (oE (c.2 + (iB o.cpls i).shift))] mJ uP rfl rfl (by simp [Value.cells]) rfl rfl (by decide) (by decide) fun w3 H14 hS14 => ?_
       simp only [RT] at hS14
       simp (disch := omega) only [↓RA, RZ, simprocAttr, hn, q1, b1, b2, b3, b4, b5, b6]
       refine hS14.al 1 rfl (hS14.rd 5 rfl) mJ (by rw [iI]; simp; omega) fun w4 H15 hS15 => ?_
       simp only [RT] at hS15
       simp (disch := omega) only [↓RA, RZ, simprocAttr, hn, g4, q1, b1, b2, b3, b4, b5, b6]
       refine hS15.aa 0 rfl [w4] (by rw [(hS15.rd 1 rfl).cells.1]) (by simp [(hS15.rd 1 rfl).cells.2.1]) a1Q (by simp) fun H16 hS16 => ?_
       simp only [RT] at hS16
       simp (disch := omega) only [↓RA, RZ, simprocAttr, hn, g1, g2, g3, g4, g5, g11, g12, g13, q1, b1, b2, b3, b4, b5, b6]
       refine ⟨n - 1, by omega, i + 1, w4, by omega, by simp, ?_⟩
       rw [hs, jI]
       exact hS16.pick [0, 1, 2] (by decide) rfl
      have hin : ((iB o.cpls i).dst, oE (c.2 + (iB o.cpls i).shift)) ∈ stepN o r.cpl thr c q i := by simpa using b6
      have hs := hstay (by simp only [to1]; simp [hin])
      simp (disch := omega) only [↓RA, RZ, simprocAttr, hn, g1, g2, g3, g4, g5, g11, g12, g13, q1, b1, b2, b3, b4, b5, b6]
      exact ⟨n - 1, by omega, i + 1, qv', by omega, by simp, by rw [hs]; exact hS13.pick [0, 1, 2] (by decide) rfl⟩
     have hs := hstay (by rw [eL, eL]; exact .inl (.inr (by simpa [to1] using b5)))
     simp (disch := omega) only [↓RA, RZ, simprocAttr, hn, g1, g2, g3, g4, g5, g11, g12, g13, q1, b1, b2, b3, b4, b5]
     exact ⟨n - 1, by omega, i + 1, qv', by omega, by simp, by rw [hs]; exact hS12.pick [0, 1, 2] (by decide) rfl⟩
    have h4 : thr = true := by simpa using b4
    have h3 : (iB o.cpls i).thr = false := by simpa using b3
    have hs := hstay (by rw [hgg, h4, h3]; rfl)
    simp (disch := omega) only [↓RA, RZ, simprocAttr, hn, g1, g2, g3, g4, g5, g11, g12, g13, q1, b1, b2, b3, b4]
    exact ⟨n - 1, by omega, i + 1, qv', by omega, by simp, by rw [hs]; exact hS6.pick [0, 1, 2] (by decide) rfl⟩
   have hs := hstay (by unfold tJ; rw [decide_eq_false (by omega)]; simp)
   simp (disch := omega) only [↓RA, RZ, simprocAttr, hn, g1, g2, g3, g4, g5, g11, g12, g13, q1, b1, b2]
   exact ⟨n - 1, by omega, i + 1, qv', by omega, by simp, by rw [hs]; exact hS6.pick [0, 1, 2] (by decide) rfl⟩
  have hs := hstay (by unfold tJ; rw [e3, decide_eq_false (by omega)]; rfl)
  simp (disch := omega) only [↓RA, RZ, simprocAttr, hn, g1, g2, g3, g4, g5, g11, g12, g13, q1, b1]
  exact ⟨n - 1, by omega, i + 1, qv', by omega, by simp, by rw [hs]; exact hS6.pick [0, 1, 2] (by decide) rfl⟩
 simp (disch := omega) only [↓RA, RZ, simprocAttr, c5i, q1]
 have hii : i = o.cpls.length := by omega
 subst hii
 exact ⟨qv', hS2.pick [0, 1] (by decide) rfl⟩
theorem a5t (o : Org) (ho : o.In H) (hf : o.Fine) (r : Reg) (sv : Value) (hr : r.In H sv) (fv : Value) (first : List Ct) (hfi : Sl 2 jL H fv first) (hfl : first.length ≤ 1024) :
 Fn prog 80 [.agg #[.string o.name, o.rv, o.dv, o.cv], .agg #[sv, .int .u64 r.cpl, .int .u64 r.off], fv] H fun rr H' => St prog H H' [⟨rr, 2, pr (bfs o r.cpl 1100 0 (kK o r.cpl first))⟩] := by
 refine .bd func80 rfl (by kernel_rfl) (m := 36) rfl fun l hn g0 g1 g2 => ?_
 simp (disch := omega) only [↓RA, RB, simprocAttr, g0]
 refine (sR H).eNew 4 [(.string o.name), o.rv, o.dv, o.cv] rfl rfl (by simp [OC, ((sR H).sl ho.1).cells.2.1, ((sR H).sl ho.2.2.1).cells.2.1, ((sR H).sl ho.2.2.2.2.1).cells.2.1]) lO fun A1 H1 hS1 => ?_
 simp only [RT] at hS1
 simp (disch := omega) only [↓RA, RB, simprocAttr, g1]
 refine hS1.eNew 3 [sv, (.int .u64 r.cpl), (.int .u64 r.off)] rfl rfl (by simp [OC, (hS1.sl hr.1).cells.2.1]) nJ fun A2 H2 hS2 => ?_
 simp only [RT] at hS2
 simp (disch := omega) only [↓RA, RZ, simprocAttr]
 refine hS2.eNew 1 [(.slice none 0 0)] rfl rfl rfl a1Q fun A3 H3 hS3 => ?_
 simp only [RT] at hS3
 simp (disch := omega) only [↓RA, RZ, simprocAttr, hn, g2, (hS3.sl hfi).len]
 have hS4 := hS3.nil 1
 simp only [RT] at hS4
 refine Wp.ak (fun n l H' => l.length = 36 ∧ get l 6 = (.slice none 0 0) ∧ get l 7 = (ptr A3 0 1) ∧ get l 8 = (.func (.func 102) #[] #[(ptr A1 0 4), (ptr A2 0 3), (ptr A3 0 1)]) ∧ get l 13 = fv ∧ get l 14 = I first.length ∧ ∃ (i : Nat) (qv : Value), (n + i = first.length) ∧ get l 15 = I i ∧ St prog H H' [⟨ptr A1 0 4, 0, [(.string o.name), o.rv, o.dv, o.cv]⟩, ⟨ptr A2 0 3, 0, [sv, (.int .u64 r.cpl), (.int .u64 r.off)]⟩, ⟨ptr A3 0 1, 0, [qv]⟩, ⟨qv, 2, pr (kK o r.cpl (first.take i))⟩]) first.length ?_ ?_
 ·simp (disch := omega) only [RB, RC, simprocAttr, hn]
  refine ⟨0, .slice none 0 0, by omega, rfl, ?_⟩
  rw [show kK o r.cpl (first.take 0) = [] from rfl]
  exact hS4
 rintro n l H4 ⟨hn, g6, g7, g8, g13, g14, i, qv, hi, g15, hS5⟩
 simp (disch := omega) only [↓RA, RB, simprocAttr, hn, g14, g15]
 refine iA (fun q1 => ?_) (fun q1 => ?_)
 ·have hqu := nW o r.cpl (first.take i)
  have hqs := a0S o r.cpl first i (by omega)
  simp (disch := omega) only [↓RA, RZ, simprocAttr, hn, g13, g15, (hS5.sl hfi).idx, (hS5.sl hfi).ag, jL, q1]
  refine hS5.eNew 2 [I 0, I 0] rfl rfl rfl lQ fun A4 H5 hS6 => ?_
  simp only [RT] at hS6
  simp (disch := omega) only [↓RA, RZ, simprocAttr, hn, q1]
  refine hS6.aa 4 rfl [I (iB first i).1, I (iB first i).2] rfl rfl lQ (by simp) fun H6 hS7 => ?_
  simp only [RT] at hS7
  simp (disch := omega) only [↓RA, RZ, simprocAttr, hn, g8, hS7.ag 4 rfl, q1]
  have hM1 := hS7.pick (os' := [⟨ptr A3 0 1, 0, _⟩, ⟨qv, 2, _⟩]) [2, 3] (by decide) rfl
  have hR1 := hS7.pick (os' := [⟨ptr A3 0 1, 0, _⟩, ⟨qv, 2, _⟩, ⟨ptr A1 0 4, 0, _⟩, ⟨ptr A2 0 3, 0, _⟩, ⟨ptr A4 0 2, 0, _⟩]) [2, 3, 0, 1, 4] (by decide) rfl
  refine iG (a7z o r sv (iB first i) false A1 A2 A3 qv (kK o r.cpl (first.take i)) hM1.aD (fun h => ⟨(hR1.frame h.forget).var 0 rfl, ho.ab (hR1.frame h.forget), (hR1.frame h.forget).var 1 rfl⟩) hqu hf hr.2) ?_
  rintro r H7 ⟨qv', rfl, hT1⟩
  have hS8 := hR1.frame hT1
  simp only [RT] at hS8
  simp (disch := omega) only [↓RA, RZ, simprocAttr, hn, g6, g7, g8, g13, g14, g15, q1]
  refine ⟨n - 1, by omega, i + 1, qv', by omega, by simp, ?_⟩
  rw [hqs]
  exact hS8.pick [2, 3, 0, 1] (by decide) rfl
 simp (disch := omega) only [↓RA, RZ, simprocAttr, q1]
 have hii : i = first.length := by omega
 subst hii
 rw [dM] at hS5
 have hqu := nW o r.cpl first
 refine Wp.ak (fun n l H' => l.length = 36 ∧ get l 6 = (.slice none 0 0) ∧ get l 7 = (ptr A3 0 1) ∧ get l 8 = (.func (.func 102) #[] #[(ptr A1 0 4), (ptr A2 0 3), (ptr A3 0 1)]) ∧ ∃ (j : Nat) (qv : Value) (q : List Ct), (n + j = 1100 ∧ bfs o r.cpl n j q = bfs o r.cpl 1100 0 (kK o r.cpl first) ∧ Que o q) ∧ get l 11 = I j ∧ St prog H H' [⟨ptr A1 0 4, 0, [(.string o.name), o.rv, o.dv, o.cv]⟩, ⟨ptr A2 0 3, 0, [sv, (.int .u64 r.cpl), (.int .u64 r.off)]⟩, ⟨ptr A3 0 1, 0, [qv]⟩, ⟨qv, 2, pr q⟩]) 1100 ?_ ?_
 ·simp (disch := omega) only [RB, RC, simprocAttr, hn, g6, g7, g8]
  exact ⟨0, qv, _, ⟨rfl, rfl, hqu⟩, rfl, hS5⟩
 rintro n l H8 ⟨hn, g6, g7, g8, j, qv, q, ⟨hj,hbf,hqq⟩, g11, hS9⟩
 have hql := hqq.len hf
 simp (disch := omega) only [↓RA, RZ, simprocAttr, hn, g7, g11, hS9.ld 2 rfl, (hS9.aw 3 rfl (fun _ => rfl)).len]
 refine iA (fun q3 => ?_) (fun q3 => ?_)
 ·have hjl : j < q.length := by omega
  simp (disch := omega) only [↓RA, RZ, simprocAttr, hn, g7, g8, g11, hS9.ld 2 rfl, (hS9.aw 3 rfl (fun _ => rfl)).idx, (hS9.aw 3 rfl (fun _ => rfl)).ag, jL, q3]
  have hM2 := hS9.pick (os' := [⟨ptr A3 0 1, 0, _⟩, ⟨qv, 2, _⟩]) [2, 3] (by decide) rfl
  have hR2 := hS9.pick (os' := [⟨ptr A3 0 1, 0, _⟩, ⟨qv, 2, _⟩, ⟨ptr A1 0 4, 0, _⟩, ⟨ptr A2 0 3, 0, _⟩]) [2, 3, 0, 1] (by decide) rfl
  refine iG (a7z o r sv (iB q j) true A1 A2 A3 qv q hM2.aD (fun h => ⟨(hR2.frame h.forget).var 0 rfl, ho.ab (hR2.frame h.forget), (hR2.frame h.forget).var 1 rfl⟩) hqq hf hr.2) ?_
  rintro r H9 ⟨qv', rfl, hT2⟩
  have hS10 := hR2.frame hT2
  simp only [RT] at hS10
  simp (disch := omega) only [↓RA, RZ, simprocAttr, hn, g6, g7, g8, g11, q3]
  obtain ⟨n', rfl⟩ : ∃ n', n = n' + 1 := ⟨n - 1, by omega⟩
  rw [bfs, if_pos hjl] at hbf
  exact ⟨n', by omega, j + 1, qv', _, ⟨by omega, hbf, hqq.stepF _ _ _⟩, by simp, hS10.pick [2, 3, 0, 1] (by decide) rfl⟩
 have hbq : bfs o r.cpl 1100 0 (kK o r.cpl first) = q := by
  rw [← hbf]
  cases n with
  | zero => rfl
  | succ n => rw [bfs, if_neg (by omega)]
 simp (disch := omega) only [↓RA, RZ, simprocAttr, hn, g7, hS9.ld 2 rfl, c6p, q3]
 rw [hbq]
 exact hS9.pick [3] (by decide) rfl
theorem a6o {o : Org} {r : Reg} {l q : List Ct} (hq : Que o q) (hl : ∀ c ∈ l, mG o c = true) : Que o (l.foldl (sB r) q) :=
 ⟨xL hq.1, fun c hc => by
  rcases a2Z.1 hc with h | h
  ·exact hq.2 c h
  ·exact hl c h.1⟩
theorem c2J {o : Org} (hf : o.Fine) {q : List Ct} (hq : Que o q) : ∀ x ∈ q, sm x := fun x hx => by
 have := xX hf (hq.2 x hx)
 unfold sm
 omega
theorem a3o (o : Org) (ho : o.In H) (hf : o.Fine) (rg : Reg) (sv : Value) (hr : rg.In H sv) (kv : Value) (ks : List Nt) (hk : Ks H kv ks) (h0 : mE o ks = 0) :
 Fn prog 56 [.agg #[.string o.name, o.rv, o.dv, o.cv], .agg #[sv, .int .u64 rg.cpl, .int .u64 rg.off], kv] H fun rr H' => St prog H H' [⟨rr, 2, pr (kF o rg (iF ks))⟩] := by
 have hkl := (nY h0).2.1
 have hple := b9I hk.ok h0
 have hpll := qO h0
 have hplc := pM hk.ok h0
 refine .bd func56 rfl (by kernel_rfl) (m := 46) rfl fun l hn g0 g1 g2 => ?_
 simp (disch := omega) only [↓RA, RB, simprocAttr, g0]
 refine (sR H).eNew 4 [(.string o.name), o.rv, o.dv, o.cv] rfl rfl (by simp [OC, ((sR H).sl ho.1).cells.2.1, ((sR H).sl ho.2.2.1).cells.2.1, ((sR H).sl ho.2.2.2.2.1).cells.2.1]) lO fun A1 H1 hS1 => ?_
 simp only [RT] at hS1
 simp (disch := omega) only [↓RA, RB, simprocAttr, g1]
 refine hS1.eNew 3 [sv, (.int .u64 rg.cpl), (.int .u64 rg.off)] rfl rfl (by simp [OC, (hS1.sl hr.1).cells.2.1]) nJ fun A2 H2 hS2 => ?_
 simp only [RT] at hS2
 simp (disch := omega) only [↓RA, RZ, simprocAttr, hn, g2, hS2.ag 0 rfl]
 refine iG ((a7p o (ho.ab hS2) hf kv ks (hk.ab hS2) hkl).tr) ?_
 rintro r H3 ⟨-, hT1⟩
 have hS3 := hS2.trans hT1
 simp only [RT] at hS3
 obtain ⟨pv, rfl⟩ : ∃ w, w = r := ⟨r, rfl⟩
 rw [hple] at hS3
 simp (disch := omega) only [↓RA, RZ, simprocAttr, hn, hS3.ag 0 rfl, hS3.ag 1 rfl]
 refine iG ((a5t o (ho.ab hS3) hf rg sv (hr.ab hS3) pv (iF ks) (hS3.aw 2 rfl jT) hpll).tr) ?_
 rintro r H4 ⟨-, hT2⟩
 have hS4 := hS3.trans hT2
 simp only [RT] at hS4
 obtain ⟨qv, rfl⟩ : ∃ w, w = r := ⟨r, rfl⟩
 have hQ := a4R rg.cpl 1100 0 _ (a2C o rg.cpl (iF ks))
 have hfin : b4s o rg (iF ks) = pA ((iF ks).foldl (sB rg) (bfs o rg.cpl 1100 0 (kK o rg.cpl (iF ks)))) := rfl
 rw [b4M] at hfin
 rw [hfin]
 clear hfin
 simp (disch := omega) only [↓RA, RZ, simprocAttr, hn, (hS4.aw 2 rfl jT).len]
 refine Wp.ak (fun n l H' => l.length = 46 ∧ get l 4 = (ptr A2 0 3) ∧ get l 6 = (.slice none 0 0) ∧ get l 18 = pv ∧ get l 19 = I (iF ks).length ∧ ∃ (i : Nat) (ov : Value), (n + i = (iF ks).length) ∧ get l 20 = I i ∧ get l 8 = ov ∧ St prog H H' [⟨ptr A1 0 4, 0, [(.string o.name), o.rv, o.dv, o.cv]⟩, ⟨ptr A2 0 3, 0, [sv, (.int .u64 rg.cpl), (.int .u64 rg.off)]⟩, ⟨pv, 2, pr (iF ks)⟩, ⟨ov, 2, pr (((iF ks).take i).foldl (sB rg) (bfs o rg.cpl 1100 0 (kK o rg.cpl (iF ks))))⟩]) (iF ks).length ?_ ?_
 ·simp (disch := omega) only [RB, RC, simprocAttr, hn]
  exact ⟨0, qv, by omega, rfl, rfl, hS4⟩
 rintro n l H5 ⟨hn, g4, g6, g18, g19, i, ov, hi, g20, g8, hS5⟩
 simp (disch := omega) only [↓RA, RB, simprocAttr, hn, g19, g20]
 refine iA (fun q1 => ?_) (fun q1 => ?_)
 ·have hci := (mF o _).1 (hplc _ (iD (xs := iF ks) (j := i) (by omega)))
  have hqi : Que o (((iF ks).take i).foldl (sB rg) (bfs o rg.cpl 1100 0 (kK o rg.cpl (iF ks)))) := a6o hQ fun c hc => hplc c (fU hc)
  have hql := hqi.len hf
  have hsu : ((iF ks).take (i + 1)).foldl (sB rg) (bfs o rg.cpl 1100 0 (kK o rg.cpl (iF ks))) = sB rg (((iF ks).take i).foldl (sB rg) (bfs o rg.cpl 1100 0 (kK o rg.cpl (iF ks)))) (iB (iF ks) i) := by
   rw [kG _ i (by omega), fh]
   rfl
  generalize ((iF ks).take i).foldl (sB rg) (bfs o rg.cpl 1100 0 (kK o rg.cpl (iF ks))) = Q at *
  have hd8 := hf.dlen
  obtain ⟨d, hd⟩ : ∃ d : Nat, (iB (iF ks) i).1.toNat = d := ⟨_, rfl⟩
  have hwd : IntKind.wrap .u64 (iB (iF ks) i).1 = ((d : Nat) : Int) := by rw [nP _ (by omega) (by omega)]; omega
  have e1 := a0v rg.off d hr.2.2.2.2
  have e2 := yV (rg.off >>> d) (tG _ hr.2.2.2.2)
  have e3 := tb rg.off d
  simp (disch := omega) only [↓RA, RZ, simprocAttr, hn, g18, g20, (hS5.aw 2 rfl jT).idx, (hS5.aw 2 rfl jT).ag, jL, q1]
  refine hS5.eNew 2 [I 0, I 0] rfl rfl rfl lQ fun A3 H6 hS6 => ?_
  simp only [RT] at hS6
  simp (disch := omega) only [↓RA, RZ, simprocAttr, hn, q1]
  refine hS6.aa 4 rfl [I (iB (iF ks) i).1, I (iB (iF ks) i).2] rfl rfl lQ (by simp) fun H7 hS7 => ?_
  simp only [RT] at hS7
  simp (disch := omega) only [↓RA, RZ, simprocAttr, hn, g4, hS7.ld 1 rfl, hS7.ld 4 rfl, q1, e1, e2, hwd]
  refine jD (fun q2 => ?_) (fun q2 => ?_)
  ·have hb : rg.off.testBit (iB (iF ks) i).1.toNat = false := by rw [hd, e3]; exact decide_eq_false (by omega)
   simp (disch := omega) only [↓RA, RZ, simprocAttr, hn, g8, hS7.ag 4 rfl, q1, q2]
   refine hS7.cF (a2O ov Q (hS7.aw 3 rfl jT) (by omega) (iB (iF ks) i)) fun H8 hS8 => ?_
   simp (disch := omega) only [↓RA, RZ, simprocAttr, hn, q1, q2]
   refine jO (fun q3 => ?_) (fun q3 => ?_)
   ·have hs : sB rg Q (iB (iF ks) i) = Q ++ [iB (iF ks) i] := by unfold sB; rw [if_pos (by rw [hb]; simpa using q3)]
    simp (disch := omega) only [↓RA, RZ, simprocAttr, hn, g8, hS8.ag 4 rfl, q1, q2, q3]
    refine hS8.ae [I (iB (iF ks) i).1, I (iB (iF ks) i).2] mJ uP rfl rfl (by simp [Value.cells]) rfl rfl (by decide) (by decide) fun w1 H9 hS9 => ?_
    simp only [RT] at hS9
    simp (disch := omega) only [↓RA, RZ, simprocAttr, hn, q1, q2, q3]
    refine hS9.al 3 rfl (hS9.rd 5 rfl) mJ (by rw [iI]; simp; omega) fun w2 H10 hS10 => ?_
    simp only [RT] at hS10
    simp (disch := omega) only [↓RA, RZ, simprocAttr, hn, g4, g6, g18, g19, g20, q1, q2, q3]
    refine ⟨n - 1, by omega, i + 1, w2, by omega, by simp, rfl, ?_⟩
    rw [hsu, hs, jI]
    exact hS10.pick [0, 1, 2, 3] (by decide) rfl
   have hs : sB rg Q (iB (iF ks) i) = Q := by unfold sB; rw [if_neg (by rw [hb]; simpa using q3)]
   simp (disch := omega) only [↓RA, RZ, simprocAttr, hn, g4, g6, g18, g19, g20, g8, q1, q2, q3]
   refine ⟨n - 1, by omega, i + 1, ov, by omega, by simp, rfl, ?_⟩
   rw [hsu, hs]
   exact hS8.pick [0, 1, 2, 3] (by decide) rfl
  have hb : rg.off.testBit (iB (iF ks) i).1.toNat = true := by rw [hd, e3]; exact decide_eq_true (by omega)
  have hs : sB rg Q (iB (iF ks) i) = Q := by unfold sB; rw [if_neg (by rw [hb]; simp)]
  simp (disch := omega) only [↓RA, RZ, simprocAttr, hn, g4, g6, g18, g19, g20, g8, q1, q2]
  refine ⟨n - 1, by omega, i + 1, ov, by omega, by simp, rfl, ?_⟩
  rw [hsu, hs]
  exact hS7.pick [0, 1, 2, 3] (by decide) rfl
 simp (disch := omega) only [↓RA, RZ, simprocAttr, hn, g8, q1]
 have hii : i = (iF ks).length := by omega
 rw [hii, dM] at hS5
 have hqn : Que o ((iF ks).foldl (sB rg) (bfs o rg.cpl 1100 0 (kK o rg.cpl (iF ks)))) := a6o hQ hplc
 have hql := hqn.len hf
 refine c5I hS5 3 rfl (by omega) (c2J hf hqn) fun HS hSS => ?_
 simp only [gm, fm] at hSS
 simp (disch := omega) only [↓RA, RZ, simprocAttr, hn, g8, c6x, q1]
 exact hSS.pick [3] (by decide) rfl
theorem a6H {m : Nat} {l : List Drw} (h : kU m l = 0) : l.length ≤ 8 ∧ ∀ q, q < l.length → 0 ≤ (iB l q).rank ∧ (iB l q).rank < m := by
 unfold kU at h
 split at h
 ·omega
 refine ⟨by omega, fun q hq => ?_⟩
 have e := pQ h q hq
 unfold kL at e
 split at e
 ·omega
 ·omega
def vL (o : Org) (rg : Reg) (j i : Nat) (z : Int) (k : Nat) : List Ct := if (iB rg.stops j).testBit i then ((iB (iB o.dvs j).stops i).segs.take k).flatMap fun g => rS o g z else []
def dr3 (o : Org) (z : Int) (l : List Drw) : List Ct := (l.filter fun d => qY o.ranks d z).map fun d => mL o.ranks d z
theorem b5M (o : Org) (z : Int) (l : List Drw) : (dr3 o z l).length ≤ l.length := by
 unfold dr3
 rw [dK]
 exact eh _ _
theorem b6P (o : Org) (z : Int) (l : List Drw) (q : Nat) (h : q < l.length) : dr3 o z (l.take (q + 1)) = dr3 o z (l.take q) ++ (if qY o.ranks (iB l q) z then [mL o.ranks (iB l q) z] else []) := by
 unfold dr3
 rw [kG l q h, eP, dL]
 congr 1
 cases e : qY o.ranks (iB l q) z <;> simp [e]
theorem b5F {o : Org} (g : Seg) (z : Int) (h : g.draws.length ≤ 8) : (rS o g z).length ≤ 8 := by
 unfold rS
 split
 ·exact dA (b5M o z g.draws) h
 ·simp
theorem b1v {o : Org} (z : Int) : ∀ (gs : List Seg), (∀ g ∈ gs, g.draws.length ≤ 8) → (gs.flatMap fun g => rS o g z).length ≤ gs.length * 8
 | [], _ => by simp
 | g :: gs, h => by
   have h1 := b5F (o := o) g z (h g (dJ ..))
   have h2 := b1v (o := o) z gs fun x hx => h x (dV _ hx)
   rw [dz, dj, dT]
   omega
theorem b9U {o : Org} (rg : Reg) (j i : Nat) (z : Int) (k : Nat) (h : ∀ g ∈ (iB (iB o.dvs j).stops i).segs, g.draws.length ≤ 8) (h2 : (iB (iB o.dvs j).stops i).segs.length ≤ 12) : (vL o rg j i z k).length ≤ 96 := by
 unfold vL
 split
 ·have h1 := b1v (o := o) z ((iB (iB o.dvs j).stops i).segs.take k) fun g hg => h g (fU hg)
  have h3 := List.length_take_le k (iB (iB o.dvs j).stops i).segs
  have h4 : ((iB (iB o.dvs j).stops i).segs.take k).length ≤ (iB (iB o.dvs j).stops i).segs.length := by rw [ff]; omega
  omega
 ·simp
theorem a3V (o : Org) (rg : Reg) (j i : Nat) (z : Int) : uY o rg ((j : Int), z) i = vL o rg j i z (iB (iB o.dvs j).stops i).segs.length := by
 unfold uY vL
 simp only [dR]
 rw [dM]
theorem a3J {o : Org} (rg : Reg) (j : Nat) (z : Int) (h : ∀ i, i < (iB o.dvs j).stops.length → (vL o rg j i z (iB (iB o.dvs j).stops i).segs.length).length ≤ 96) : ∀ i, i ≤ (iB o.dvs j).stops.length → ((List.range i).flatMap (uY o rg ((j : Int), z))).length ≤ i * 96
 | 0, _ => by simp
 | i + 1, hi => by
   have h1 := a3J rg j z h i (by omega)
   have h2 := h i (by omega)
   rw [dX, dB, dj, dz, ew, dm, a3V]
   omega
theorem b4r (o : Org) (ho : o.In H) (h0 : organE o = 0) (rg : Reg) (sv : Value) (hr : rg.In H sv) (hrl : rg.stops.length = o.dvs.length) (j : Nat) (z : Int) (hc : mG o ((j : Int), z) = true) :
 Fn prog 57 [.agg #[.string o.name, o.rv, o.dv, o.cv], .agg #[sv, .int .u64 rg.cpl, .int .u64 rg.off], .agg #[I j, I z]] H fun rr H' => Slx 2 jL H' (fun B => H.length ≤ B) rr (dd (pA (pU o rg ((j : Int), z)))) ∧ St prog H H' [] := by
 have hf := Org.aO h0
 have hcc := (mF o _).1 hc
 simp only [dR] at hcc
 have hj : j < o.dvs.length := by omega
 have hky := hf.keys j hj
 have hst := hf.stops j hj
 have hsb : ∀ i, i < (iB o.dvs j).stops.length → iB (iB o.dvs j).stops i ∈ (iB o.dvs j).stops := fun i hi => iD hi
 have hsl : ∀ i, i < (iB o.dvs j).stops.length → ∀ k, (vL o rg j i z k).length ≤ 96 := fun i hi k => b9U rg j i z k (hf.draws j hj _ (hsb i hi)) (a0P h0 hj (hsb i hi)).len
 have hdl := a3J rg j z fun i hi => hsl i hi _
 refine .bd func57 rfl (by kernel_rfl) (m := 108) rfl fun l hn g0 g1 g2 => ?_
 simp (disch := omega) only [↓RA, RB, simprocAttr, g0]
 refine (sR H).eNew 4 [(.string o.name), o.rv, o.dv, o.cv] rfl rfl (by simp [OC, ((sR H).sl ho.1).cells.2.1, ((sR H).sl ho.2.2.1).cells.2.1, ((sR H).sl ho.2.2.2.2.1).cells.2.1]) lO fun A1 H1 hS1 => ?_
 simp only [RT] at hS1
 simp (disch := omega) only [↓RA, RB, simprocAttr, g1]
 refine hS1.eNew 3 [sv, (.int .u64 rg.cpl), (.int .u64 rg.off)] rfl rfl (by simp [OC, (hS1.sl hr.1).cells.2.1]) nJ fun A2 H2 hS2 => ?_
 simp only [RT] at hS2
 simp (disch := omega) only [↓RA, RB, simprocAttr, g2]
 refine hS2.eNew 2 [I j, I z] rfl rfl rfl lQ fun A3 H3 hS3 => ?_
 simp only [RT] at hS3
 simp (disch := omega) only [↓RA, RZ, simprocAttr, hn, hS3.ld 0 rfl, hS3.ld 2 rfl, (hS3.sl ho.2.2.1).idx, (hS3.sl ho.2.2.1).aY, (hS3.sl ho.2.2.1).ld, Dvn.cells, (hS3.sl (ho.2.2.2.1 (iB o.dvs j) (iD (by omega))).1).len]
 have hS4 := hS3.nil 1
 simp only [RT] at hS4
 refine Wp.ak (fun n l H' => l.length = 108 ∧ get l 3 = (ptr A1 0 4) ∧ get l 4 = (ptr A2 0 3) ∧ get l 5 = (ptr A3 0 2) ∧ get l 6 = (.slice none 0 0) ∧ get l 21 = (iB o.dvs j).sv ∧ get l 22 = I (iB o.dvs j).stops.length ∧ ∃ (i : Nat) (ov : Value), (n + i = (iB o.dvs j).stops.length) ∧ get l 23 = I i ∧ get l 7 = ov ∧ St prog H H' [⟨ptr A1 0 4, 0, [(.string o.name), o.rv, o.dv, o.cv]⟩, ⟨ptr A2 0 3, 0, [sv, (.int .u64 rg.cpl), (.int .u64 rg.off)]⟩, ⟨ptr A3 0 2, 0, [I j, I z]⟩, ⟨ov, 2, pr ((List.range i).flatMap (uY o rg ((j : Int), z)))⟩]) (iB o.dvs j).stops.length ?_ ?_
 ·simp (disch := omega) only [RB, RC, simprocAttr, hn]
  exact ⟨0, .slice none 0 0, by omega, rfl, rfl, hS4⟩
 rintro n l H4 ⟨hn, g3, g4, g5, g6, g21, g22, i, ov, hi, g23, g7, hS5⟩
 simp (disch := omega) only [↓RA, RB, simprocAttr, hn, g22, g23]
 refine iA (fun q1 => ?_) (fun q1 => ?_)
 ·have hil : i < (iB o.dvs j).stops.length := by omega
  have hso := a0P h0 hj (hsb i hil)
  have hsu : (List.range (i + 1)).flatMap (uY o rg ((j : Int), z)) = (List.range i).flatMap (uY o rg ((j : Int), z)) ++ vL o rg j i z (iB (iB o.dvs j).stops i).segs.length := by
   rw [dX, dB, dz, ew, dm, a3V]
  have hpl := hdl i (by omega)
  have hsn : (iB (iB o.dvs j).stops i).segs.length < 1000000000 := ((ho.2.2.2.1 _ (iD hj)).2.1 _ (hsb i hil)).2.2
  have e1 := a0v (iB rg.stops j) i (hr.2.2.1 _ (iD (by omega)))
  have e2 := yV ((iB rg.stops j) >>> i) (tG _ (hr.2.2.1 _ (iD (by omega))))
  have e3 := tb (iB rg.stops j) i
  simp (disch := omega) only [↓RA, RZ, simprocAttr, hn, g21, g23, (hS5.sl (ho.2.2.2.1 (iB o.dvs j) (iD (by omega))).1).idx, (hS5.sl (ho.2.2.2.1 (iB o.dvs j) (iD (by omega))).1).ag, Stp.cells, q1]
  refine hS5.eNew 4 [(.string ⟨#[]⟩), I 0, I 0, (.slice none 0 0)] rfl rfl rfl oC fun A4 H5 hS6 => ?_
  simp only [RT] at hS6
  simp (disch := omega) only [↓RA, RZ, simprocAttr, hn, q1]
  refine hS6.aa 4 rfl [(.string (iB (iB o.dvs j).stops i).name), I (iB (iB o.dvs j).stops i).num, I (iB (iB o.dvs j).stops i).den, (iB (iB o.dvs j).stops i).gv] rfl (by simp [OC, (hS6.sl ((ho.2.2.2.1 (iB o.dvs j) (iD (by omega))).2.1 (iB (iB o.dvs j).stops i) (iD (by omega))).1).cells.2.1]) oC (by simp) fun H6 hS7 => ?_
  simp only [RT] at hS7
  simp (disch := omega) only [↓RA, RZ, simprocAttr, hn, hS7.ld 4 rfl, (hS7.sl ((ho.2.2.2.1 (iB o.dvs j) (iD (by omega))).2.1 (iB (iB o.dvs j).stops i) (iD (by omega))).1).len, q1]
  refine Wp.ak (fun n l H' => l.length = 108 ∧ get l 3 = (ptr A1 0 4) ∧ get l 4 = (ptr A2 0 3) ∧ get l 5 = (ptr A3 0 2) ∧ get l 6 = (.slice none 0 0) ∧ get l 8 = I i ∧ get l 21 = (iB o.dvs j).sv ∧ get l 22 = I (iB o.dvs j).stops.length ∧ get l 23 = I i ∧ get l 29 = (iB (iB o.dvs j).stops i).gv ∧ get l 30 = I (iB (iB o.dvs j).stops i).segs.length ∧ ∃ (k : Nat) (ow : Value), (n + k = (iB (iB o.dvs j).stops i).segs.length) ∧ get l 31 = I k ∧ get l 7 = ow ∧ St prog H H' [⟨ptr A1 0 4, 0, [(.string o.name), o.rv, o.dv, o.cv]⟩, ⟨ptr A2 0 3, 0, [sv, (.int .u64 rg.cpl), (.int .u64 rg.off)]⟩, ⟨ptr A3 0 2, 0, [I j, I z]⟩, ⟨ow, 2, pr ((List.range i).flatMap (uY o rg ((j : Int), z)) ++ vL o rg j i z k)⟩, ⟨ptr A4 0 4, 0, [(.string (iB (iB o.dvs j).stops i).name), I (iB (iB o.dvs j).stops i).num, I (iB (iB o.dvs j).stops i).den, (iB (iB o.dvs j).stops i).gv]⟩]) (iB (iB o.dvs j).stops i).segs.length ?_ ?_
  ·simp (disch := omega) only [RB, RC, simprocAttr, hn, g3, g4, g5, g6, g21, g22, g23, g7]
   refine ⟨0, ov, by omega, rfl, rfl, ?_⟩
   rw [show vL o rg j i z 0 = [] from by unfold vL; split <;> rfl, dm]
   exact hS7
  rintro n l H7 ⟨hn, g3, g4, g5, g6, g8, g21, g22, g23, g29, g30, k, ow, hk, g31, g7, hS8⟩
  simp (disch := omega) only [↓RA, RB, simprocAttr, hn, g30, g31]
  refine iA (fun q2 => ?_) (fun q2 => ?_)
  ·have hkl : k < (iB (iB o.dvs j).stops i).segs.length := by omega
   have hsk := hsl i hil k
   have hgd := hso.draws k hkl
   have hgd2 := a6H hgd
   simp (disch := omega) only [↓RA, RZ, simprocAttr, hn, g29, g31, (hS8.sl ((ho.2.2.2.1 (iB o.dvs j) (iD (by omega))).2.1 (iB (iB o.dvs j).stops i) (iD (by omega))).1).idx, (hS8.sl ((ho.2.2.2.1 (iB o.dvs j) (iD (by omega))).2.1 (iB (iB o.dvs j).stops i) (iD (by omega))).1).ag, Seg.cells, q2]
   refine hS8.eNew 3 [I 0, I 0, (.slice none 0 0)] rfl rfl rfl zK fun A5 H8 hS9 => ?_
   simp only [RT] at hS9
   simp (disch := omega) only [↓RA, RZ, simprocAttr, hn, q2]
   refine hS9.aa 5 rfl [I (iB (iB (iB o.dvs j).stops i).segs k).lo, I (iB (iB (iB o.dvs j).stops i).segs k).hi, (iB (iB (iB o.dvs j).stops i).segs k).dv] rfl (by simp [OC, (hS9.sl (((ho.2.2.2.1 (iB o.dvs j) (iD (by omega))).2.1 (iB (iB o.dvs j).stops i) (iD (by omega))).2.1 (iB (iB (iB o.dvs j).stops i).segs k) (iD (by omega))).1).cells.2.1]) zK (by simp) fun H9 hS10 => ?_
   simp only [RT] at hS10
   simp (disch := omega) only [↓RA, RZ, simprocAttr, hn, g4, g5, g8, hS10.ld 1 rfl, hS10.ld 2 rfl, (hS10.sl hr.1).idx, (hS10.sl hr.1).ld, one, u64, q2, e1, e2]
   refine iL (fun q3 => ?_) (fun q3 => ?_)
   ·have hb : (iB rg.stops j).testBit i = false := by rw [e3]; exact decide_eq_false (by omega)
    have hsg : ∀ k, vL o rg j i z k = [] := fun k => by unfold vL; rw [if_neg (by rw [hb]; simp)]
    simp (disch := omega) only [↓RA, RZ, simprocAttr, hn, g3, g4, g5, g6, g8, g21, g22, g23, g29, g30, g31, g7, q2, q3]
    refine ⟨n - 1, by omega, k + 1, ow, by omega, by simp, rfl, ?_⟩
    rw [hsg, ← hsg k]
    exact hS10.pick [0, 1, 2, 3, 4] (by decide) rfl
   have hb : (iB rg.stops j).testBit i = true := by rw [e3]; exact decide_eq_true (by omega)
   have hsg : vL o rg j i z (k + 1) = vL o rg j i z k ++ rS o (iB (iB (iB o.dvs j).stops i).segs k) z := by
    unfold vL
    rw [if_pos hb, if_pos hb, List.take_add_one, dp hkl, Option.toList_some, ← jU _ k hkl, dB, dz, ew, dm]
   simp (disch := omega) only [↓RA, RZ, simprocAttr, hn, g5, hS10.ld 2 rfl, hS10.ld 5 rfl, q2, q3]
   refine iL (fun q4 => ?_) (fun q4 => ?_)
   ·have hd1 : rS o (iB (iB (iB o.dvs j).stops i).segs k) z = [] := by unfold rS; rw [if_neg (by omega)]
    simp (disch := omega) only [↓RA, RZ, simprocAttr, hn, g3, g4, g5, g6, g8, g21, g22, g23, g29, g30, g31, g7, q2, q3, q4]
    refine ⟨n - 1, by omega, k + 1, ow, by omega, by simp, rfl, ?_⟩
    rw [hsg, hd1, dm]
    exact hS10.pick [0, 1, 2, 3, 4] (by decide) rfl
   simp (disch := omega) only [↓RA, RZ, simprocAttr, hn, g5, hS10.ld 2 rfl, hS10.ld 5 rfl, q2, q3, q4]
   refine iA (fun q5 => ?_) (fun q5 => ?_)
   ·have hd1 : rS o (iB (iB (iB o.dvs j).stops i).segs k) z = [] := by unfold rS; rw [if_neg (by omega)]
    simp (disch := omega) only [↓RA, RZ, simprocAttr, hn, g3, g4, g5, g6, g8, g21, g22, g23, g29, g30, g31, g7, q2, q3, q4, q5]
    refine ⟨n - 1, by omega, k + 1, ow, by omega, by simp, rfl, ?_⟩
    rw [hsg, hd1, dm]
    exact hS10.pick [0, 1, 2, 3, 4] (by decide) rfl
   have hd1 : rS o (iB (iB (iB o.dvs j).stops i).segs k) z = dr3 o z (iB (iB (iB o.dvs j).stops i).segs k).draws := by unfold rS; rw [if_pos (by omega)]; rfl
   have hsm2 : (vL o rg j i z k).length ≤ 96 := hsk
   simp (disch := omega) only [↓RA, RZ, simprocAttr, hn, hS10.ld 5 rfl, (hS10.sl (((ho.2.2.2.1 (iB o.dvs j) (iD (by omega))).2.1 (iB (iB o.dvs j).stops i) (iD (by omega))).2.1 (iB (iB (iB o.dvs j).stops i).segs k) (iD (by omega))).1).len, q2, q3, q4, q5]
   refine Wp.ak (fun n l H' => l.length = 108 ∧ get l 3 = (ptr A1 0 4) ∧ get l 4 = (ptr A2 0 3) ∧ get l 5 = (ptr A3 0 2) ∧ get l 6 = (.slice none 0 0) ∧ get l 8 = I i ∧ get l 21 = (iB o.dvs j).sv ∧ get l 22 = I (iB o.dvs j).stops.length ∧ get l 23 = I i ∧ get l 29 = (iB (iB o.dvs j).stops i).gv ∧ get l 30 = I (iB (iB o.dvs j).stops i).segs.length ∧ get l 31 = I k ∧ get l 61 = (iB (iB (iB o.dvs j).stops i).segs k).dv ∧ get l 62 = I (iB (iB (iB o.dvs j).stops i).segs k).draws.length ∧ ∃ (q : Nat) (oy : Value), (n + q = (iB (iB (iB o.dvs j).stops i).segs k).draws.length) ∧ get l 63 = I q ∧ get l 7 = oy ∧ St prog H H' [⟨ptr A1 0 4, 0, [(.string o.name), o.rv, o.dv, o.cv]⟩, ⟨ptr A2 0 3, 0, [sv, (.int .u64 rg.cpl), (.int .u64 rg.off)]⟩, ⟨ptr A3 0 2, 0, [I j, I z]⟩, ⟨oy, 2, pr ((List.range i).flatMap (uY o rg ((j : Int), z)) ++ vL o rg j i z k ++ dr3 o z ((iB (iB (iB o.dvs j).stops i).segs k).draws.take q))⟩, ⟨ptr A4 0 4, 0, [(.string (iB (iB o.dvs j).stops i).name), I (iB (iB o.dvs j).stops i).num, I (iB (iB o.dvs j).stops i).den, (iB (iB o.dvs j).stops i).gv]⟩, ⟨ptr A5 0 3, 0, [I (iB (iB (iB o.dvs j).stops i).segs k).lo, I (iB (iB (iB o.dvs j).stops i).segs k).hi, (iB (iB (iB o.dvs j).stops i).segs k).dv]⟩]) (iB (iB (iB o.dvs j).stops i).segs k).draws.length ?_ ?_
   ·simp (disch := omega) only [RB, RC, simprocAttr, hn, g3, g4, g5, g6, g8, g21, g22, g23, g29, g30, g31, g7]
    refine ⟨0, ow, by omega, rfl, rfl, ?_⟩
    rw [List.take_zero, show dr3 o z [] = [] from rfl, dm]
    exact hS10
   rintro n l H10 ⟨hn, g3, g4, g5, g6, g8, g21, g22, g23, g29, g30, g31, g61, g62, q, oy, hq, g63, g7, hS11⟩
   simp (disch := omega) only [↓RA, RB, simprocAttr, hn, g62, g63]
   refine iA (fun q6 => ?_) (fun q6 => ?_)
   ·have hql : q < (iB (iB (iB o.dvs j).stops i).segs k).draws.length := by omega
    have hdr := hgd2.2 q hql
    obtain ⟨e, he⟩ : ∃ e : Nat, (iB (iB (iB (iB o.dvs j).stops i).segs k).draws q).rank = e := ⟨(iB (iB (iB (iB o.dvs j).stops i).segs k).draws q).rank.toNat, by omega⟩
    have hel : e < o.ranks.length := by omega
    have hd3 := b6P o z (iB (iB (iB o.dvs j).stops i).segs k).draws q hql
    have hd3l := b5M o z ((iB (iB (iB o.dvs j).stops i).segs k).draws.take q)
    have hwl : (iB o.ranks e).wind.length < 1000000000 := (ho.2.1 _ (iD hel)).2
    have htl := List.length_take_le q (iB (iB (iB o.dvs j).stops i).segs k).draws
    have hp1 : mL o.ranks (iB (iB (iB (iB o.dvs j).stops i).segs k).draws q) z = ((e : Int), oE (oE (z + (iB (iB (iB (iB o.dvs j).stops i).segs k).draws q).shift) - (iB o.ranks e).first)) := by
     unfold mL
     rw [if_neg (by omega), he]
     rfl
    have hhp : qY o.ranks (iB (iB (iB (iB o.dvs j).stops i).segs k).draws q) z = (decide (0 ≤ oE (oE (z + (iB (iB (iB (iB o.dvs j).stops i).segs k).draws q).shift) - (iB o.ranks e).first)) && decide (oE (oE (z + (iB (iB (iB (iB o.dvs j).stops i).segs k).draws q).shift) - (iB o.ranks e).first) < (iB o.ranks e).wind.length)) := by
     unfold qY
     rw [hp1, decide_eq_false (by omega), he]
     rfl
    simp (disch := omega) only [↓RA, RZ, simprocAttr, hn, g61, g63, (hS11.sl (((ho.2.2.2.1 (iB o.dvs j) (iD (by omega))).2.1 (iB (iB o.dvs j).stops i) (iD (by omega))).2.1 (iB (iB (iB o.dvs j).stops i).segs k) (iD (by omega))).1).idx, (hS11.sl (((ho.2.2.2.1 (iB o.dvs j) (iD (by omega))).2.1 (iB (iB o.dvs j).stops i) (iD (by omega))).2.1 (iB (iB (iB o.dvs j).stops i).segs k) (iD (by omega))).1).ag, Drw.cells, q6]
    refine hS11.eNew 2 [I 0, I 0] rfl rfl rfl wM fun A6 H11 hS12 => ?_
    simp only [RT] at hS12
    simp (disch := omega) only [↓RA, RZ, simprocAttr, hn, q6]
    refine hS12.aa 6 rfl [I (iB (iB (iB (iB o.dvs j).stops i).segs k).draws q).rank, I (iB (iB (iB (iB o.dvs j).stops i).segs k).draws q).shift] rfl rfl wM (by simp) fun H12 hS13 => ?_
    simp only [RT] at hS13
    simp (disch := omega) only [↓RA, RZ, simprocAttr, q6]
    refine Wp.drw jY (by kernel_rfl) ?_
    simp (disch := omega) only [↓RA, RZ, simprocAttr, hn, g3, g5, hS13.ld 2 rfl, hS13.ld 6 rfl, hS13.ld 0 rfl]
    simp (disch := omega) only [↓RA, RZ, simprocAttr, hn, (hS13.sl ho.1).idx, (hS13.sl ho.1).aY, (hS13.sl ho.1).ld, Rk.cells, he]
    refine jD (fun q7 => ?_) (fun q7 => ?_)
    ·simp (disch := omega) only [↓RA, RZ, simprocAttr, hn, g3, hS13.ld 0 rfl, hS13.ld 6 rfl, (hS13.sl ho.1).idx, (hS13.sl ho.1).aY, (hS13.sl ho.1).ld, Rk.cells, (hS13.sl (ho.2.1 (iB o.ranks e) (iD (by omega))).1).len, he, q7]
     refine iA (fun q8 => ?_) (fun q8 => ?_)
     ·have hht : qY o.ranks (iB (iB (iB (iB o.dvs j).stops i).segs k).draws q) z = true := by rw [hhp, decide_eq_true (by omega), decide_eq_true (by omega)]; rfl
      simp (disch := omega) only [↓RA, RZ, simprocAttr, hn, g7, hS13.ld 6 rfl, a4p, he, q7, q8]
      refine hS13.ae [I e, I (oE (oE (z + (iB (iB (iB (iB o.dvs j).stops i).segs k).draws q).shift) - (iB o.ranks e).first))] a1f b5O rfl rfl (by simp [Value.cells]) rfl rfl (by decide) (by decide) fun w1 H13 hS14 => ?_
      simp only [RT] at hS14
      simp (disch := omega) only [↓RA, RZ, simprocAttr, hn, he, q7, q8]
      refine hS14.al 3 rfl (hS14.rd 7 rfl) a1f (by rw [iI, dj, dj]; simp only [dT, ef]; omega) fun w2 H14 hS15 => ?_
      simp only [RT] at hS15
      simp (disch := omega) only [↓RA, RZ, simprocAttr, hn, g3, g4, g5, g6, g8, g21, g22, g23, g29, g30, g31, g61, g62, g63, he, q7, q8]
      refine ⟨n - 1, by omega, q + 1, w2, by omega, by simp, rfl, ?_⟩
      rw [hd3, hht, if_pos rfl, hp1, ← ek, jI]
      exact hS15.pick [0, 1, 2, 3, 4, 5] (by decide) rfl
     have hhf : qY o.ranks (iB (iB (iB (iB o.dvs j).stops i).segs k).draws q) z = false := by rw [hhp, decide_eq_false (show ¬ oE (oE (z + (iB (iB (iB (iB o.dvs j).stops i).segs k).draws q).shift) - (iB o.ranks e).first) < _ by omega), Bool.and_false]
     simp (disch := omega) only [↓RA, RZ, simprocAttr, hn, g3, g4, g5, g6, g8, g21, g22, g23, g29, g30, g31, g61, g62, g63, g7, he, q7, q8]
     refine ⟨n - 1, by omega, q + 1, oy, by omega, by simp, rfl, ?_⟩
     rw [hd3, hhf, if_neg (by simp), dm]
     exact hS13.pick [0, 1, 2, 3, 4, 5] (by decide) rfl
    have hhf : qY o.ranks (iB (iB (iB (iB o.dvs j).stops i).segs k).draws q) z = false := by rw [hhp, decide_eq_false (show ¬ 0 ≤ oE (oE (z + (iB (iB (iB (iB o.dvs j).stops i).segs k).draws q).shift) - (iB o.ranks e).first) by omega), fz]
    simp (disch := omega) only [↓RA, RZ, simprocAttr, hn, g3, g4, g5, g6, g8, g21, g22, g23, g29, g30, g31, g61, g62, g63, g7, he, q7]
    refine ⟨n - 1, by omega, q + 1, oy, by omega, by simp, rfl, ?_⟩
    rw [hd3, hhf, if_neg (by simp), dm]
    exact hS13.pick [0, 1, 2, 3, 4, 5] (by decide) rfl
   simp (disch := omega) only [↓RA, RZ, simprocAttr, hn, g3, g4, g5, g6, g8, g21, g22, g23, g29, g30, g31, g7, q6]
   have hqq : q = (iB (iB (iB o.dvs j).stops i).segs k).draws.length := by omega
   refine ⟨(iB (iB o.dvs j).stops i).segs.length - (k + 1), by omega, k + 1, oy, by omega, by simp, rfl, ?_⟩
   rw [hsg, hd1, ← ek]
   rw [hqq, dM] at hS11
   exact hS11.pick [0, 1, 2, 3, 4] (by decide) rfl
  simp (disch := omega) only [↓RA, RZ, simprocAttr, hn, g3, g4, g5, g6, g21, g22, g23, g7, q2]
  have hkk : k = (iB (iB o.dvs j).stops i).segs.length := by omega
  refine ⟨(iB o.dvs j).stops.length - (i + 1), by omega, i + 1, ow, by omega, by simp, rfl, ?_⟩
  rw [hsu, ← hkk]
  exact hS8.pick [0, 1, 2, 3] (by decide) rfl
 simp (disch := omega) only [↓RA, RZ, simprocAttr, hn, g7, q1]
 have hii : i = (iB o.dvs j).stops.length := by omega
 rw [hii] at hS5
 have hdl2 := hdl _ (dg _)
 have hc2 : mG o ((j : Int), z) = true := hc
 have hd3e : (List.range (iB o.dvs j).stops.length).flatMap (uY o rg ((j : Int), z)) = pU o rg ((j : Int), z) := by unfold pU; rfl
 rw [hd3e] at hS5
 rw [hd3e] at hdl2
 have hsm : ∀ x ∈ pU o rg ((j : Int), z), sm x := fun x hx => (wY ((vO h0 hc2).1 hx)).small hf ho
 refine c0L hS5 3 rfl (by omega) hsm fun HS hSS => ?_
 simp only [gm, fm] at hSS
 simp (disch := omega) only [↓RA, RZ, simprocAttr, hn, g7, q1]
 have hM1 := hSS.pick (os' := [⟨ov, 2, _⟩]) [3] (by decide) rfl
 have hR1 := hSS.pick (os' := [⟨ov, 2, _⟩, ⟨ptr A1 0 4, 0, _⟩, ⟨ptr A2 0 3, 0, _⟩, ⟨ptr A3 0 2, 0, _⟩]) [3, 0, 1, 2] (by decide) rfl
 refine iG (uT hM1.aD (by rw [lT]; omega)) ?_
 rintro r H15 ⟨rest, hb, hrd, hT1⟩
 have hS16 := hR1.frame hT1
 simp only [RT] at hS16
 have hrr := hrd _ (hS16.rd 0 rfl)
 have hrc := hrr.cells
 simp (disch := omega) only [↓RA, RZ, simprocAttr, hn, c6W, q1]
 refine ⟨⟨⟨hrr, jT, by decide⟩, fun b h => ?_⟩, hS16.forget⟩
 rcases hS16.new _ (dJ ..) b (hb b h) with h | h
 ·exact h
 ·exact h.elim
theorem b0A (o : Org) (ho : o.In H) (h0 : organE o = 0) (rg : Reg) (sv : Value) (hr : rg.In H sv) (hrl : rg.stops.length = o.dvs.length) (c : Ct) (hc : mG o c = true) :
 Fn prog 57 [.agg #[.string o.name, o.rv, o.dv, o.cv], .agg #[sv, .int .u64 rg.cpl, .int .u64 rg.off], .agg #[I c.1, I c.2]] H fun rr H' => Slx 2 jL H' (fun B => H.length ≤ B) rr (dd (pA (pU o rg c))) ∧ St prog H H' [] := by
 obtain ⟨d, z⟩ := c
 have h := (mF o _).1 hc
 obtain ⟨j, rfl⟩ := fL h.1
 exact b4r o ho h0 rg sv hr hrl j z hc
theorem b6W {o : Org} (h0 : organE o = 0) (rg : Reg) {c : Ct} (hc : mG o c = true) : (dd (pA (pU o rg c))).length ≤ 480 := by
 rw [c0n h0 hc]
 have h1 := a7w (pA (mH o rg c))
 rw [lT] at h1
 exact dA h1 (a4k (Org.aO h0) rg hc)
theorem b1A {o : Org} (h0 : organE o = 0) (rg : Reg) : ∀ (l : List Ct), (∀ c ∈ l, mG o c = true) → (l.flatMap fun c => dd (pA (pU o rg c))).length ≤ l.length * 480
 | [], _ => by simp
 | c :: l, h => by
   have h1 := b6W h0 rg (h c (dJ ..))
   have h2 := b1A h0 rg l fun x hx => h x (dV _ hx)
   rw [dz, dj, dT]
   omega
theorem a3n (o : Org) (ho : o.In H) (h0 : organE o = 0) (rg : Reg) (sv : Value) (hr : rg.In H sv) (hrl : rg.stops.length = o.dvs.length) (kv : Value) (ks : List Nt) (hk : Ks H kv ks) (hke : mE o ks = 0) :
 Fn prog 35 [.agg #[.string o.name, o.rv, o.dv, o.cv], .agg #[sv, .int .u64 rg.cpl, .int .u64 rg.off], kv] H fun rr H' => Slx 2 jL H' (fun B => H.length ≤ B) rr (lK o rg (iF ks)) ∧ St prog H H' [] := by
 have hf := Org.aO h0
 have hplc := pM hk.ok hke
 have hpll := qO hke
 have hsc := mT (o := o) (rg := rg) hplc
 have hsl := tL hf (rg := rg) hpll
 have hsp : dd (pA ((kF o rg (iF ks)).flatMap fun c => dd (pA (pU o rg c)))) = lK o rg (iF ks) := b4z h0 hsc
 have hsm : ∀ x ∈ (kF o rg (iF ks)).flatMap (fun c => dd (pA (pU o rg c))), sm x := fun x hx => by
  obtain ⟨c, hc, hx⟩ := dZ.1 hx
  exact (wY ((vO h0 (hsc c hc)).1 (rN.1 hx))).small hf ho
 have hle : ∀ i, (((kF o rg (iF ks)).take i).flatMap fun c => dd (pA (pU o rg c))).length ≤ 2048 * 480 := fun i => by
  have h1 := b1A h0 rg ((kF o rg (iF ks)).take i) fun c hc => hsc c (fU hc)
  have h2 : ((kF o rg (iF ks)).take i).length ≤ (kF o rg (iF ks)).length := by rw [ff]; omega
  exact dA h1 (dH _ (by omega))
 rw [← hsp]
 refine .bd func35 rfl (by kernel_rfl) (m := 30) rfl fun l hn g0 g1 g2 => ?_
 simp (disch := omega) only [↓RA, RB, simprocAttr, g0]
 refine (sR H).eNew 4 [(.string o.name), o.rv, o.dv, o.cv] rfl rfl (by simp [OC, ((sR H).sl ho.1).cells.2.1, ((sR H).sl ho.2.2.1).cells.2.1, ((sR H).sl ho.2.2.2.2.1).cells.2.1]) lO fun A1 H1 hS1 => ?_
 simp only [RT] at hS1
 simp (disch := omega) only [↓RA, RB, simprocAttr, g1]
 refine hS1.eNew 3 [sv, (.int .u64 rg.cpl), (.int .u64 rg.off)] rfl rfl (by simp [OC, (hS1.sl hr.1).cells.2.1]) nJ fun A2 H2 hS2 => ?_
 simp only [RT] at hS2
 simp (disch := omega) only [↓RA, RZ, simprocAttr, hn, g2, hS2.ag 0 rfl, hS2.ag 1 rfl]
 refine iG ((a3o o (ho.ab hS2) hf rg sv (hr.ab hS2) kv ks (hk.ab hS2) hke).tr) ?_
 rintro r H3 ⟨-, hT1⟩
 have hS3 := hS2.trans hT1
 simp only [RT] at hS3
 obtain ⟨cv, rfl⟩ : ∃ w, w = r := ⟨r, rfl⟩
 simp (disch := omega) only [↓RA, RZ, simprocAttr, hn, (hS3.aw 2 rfl jT).len]
 have hS4 := hS3.nil 1
 simp only [RT] at hS4
 refine Wp.ak (fun n l H' => l.length = 30 ∧ get l 3 = (ptr A1 0 4) ∧ get l 4 = (ptr A2 0 3) ∧ get l 6 = (.slice none 0 0) ∧ get l 13 = cv ∧ get l 14 = I (kF o rg (iF ks)).length ∧ ∃ (i : Nat) (ov : Value), (n + i = (kF o rg (iF ks)).length) ∧ get l 15 = I i ∧ get l 7 = ov ∧ St prog H H' [⟨ptr A1 0 4, 0, [(.string o.name), o.rv, o.dv, o.cv]⟩, ⟨ptr A2 0 3, 0, [sv, (.int .u64 rg.cpl), (.int .u64 rg.off)]⟩, ⟨cv, 2, pr (kF o rg (iF ks))⟩, ⟨ov, 2, pr (((kF o rg (iF ks)).take i).flatMap fun c => dd (pA (pU o rg c)))⟩]) (kF o rg (iF ks)).length ?_ ?_
 ·simp (disch := omega) only [RB, RC, simprocAttr, hn]
  exact ⟨0, .slice none 0 0, by omega, rfl, rfl, hS4⟩
 rintro n l H4 ⟨hn, g3, g4, g6, g13, g14, i, ov, hi, g15, g7, hS5⟩
 simp (disch := omega) only [↓RA, RB, simprocAttr, hn, g14, g15]
 refine iA (fun q1 => ?_) (fun q1 => ?_)
 ·have hci := hsc _ (iD (xs := kF o rg (iF ks)) (j := i) (by omega))
  have htk := kG (kF o rg (iF ks)) i (by omega)
  have hli := hle i
  have hl1 := b6W h0 rg hci
  simp (disch := omega) only [↓RA, RZ, simprocAttr, hn, g13, g15, (hS5.aw 2 rfl jT).idx, (hS5.aw 2 rfl jT).ag, jL, q1]
  refine hS5.eNew 2 [I 0, I 0] rfl rfl rfl lQ fun A3 H5 hS6 => ?_
  simp only [RT] at hS6
  simp (disch := omega) only [↓RA, RZ, simprocAttr, hn, q1]
  refine hS6.aa 4 rfl [I (iB (kF o rg (iF ks)) i).1, I (iB (kF o rg (iF ks)) i).2] rfl rfl lQ (by simp) fun H6 hS7 => ?_
  simp only [RT] at hS7
  simp (disch := omega) only [↓RA, RZ, simprocAttr, hn, g3, g4, g7, hS7.ag 0 rfl, hS7.ag 1 rfl, hS7.ag 4 rfl, q1]
  refine iG (b0A o (ho.ab hS7) h0 rg sv (hr.ab hS7) hrl (iB (kF o rg (iF ks)) i) hci) ?_
  rintro r H7 ⟨hqx, hT2⟩
  have hS8 := hS7.trans hT2
  simp only [RT] at hS8
  obtain ⟨qv, rfl⟩ : ∃ w, w = r := ⟨r, rfl⟩
  simp (disch := omega) only [↓RA, RZ, simprocAttr, hn, q1]
  refine hS8.al 3 rfl hqx.1.rd a1f (by rw [iI, show ((dd (pA (pU o rg (iB (kF o rg (iF ks)) i)))).flatMap jL).length = (dd (pA (pU o rg (iB (kF o rg (iF ks)) i)))).length * 2 from iI _]; omega) fun w1 H8 hS9 => ?_
  simp only [RT] at hS9
  simp (disch := omega) only [↓RA, RZ, simprocAttr, hn, g3, g4, g6, g13, g14, g15, q1]
  refine ⟨n - 1, by omega, i + 1, w1, by omega, by simp, rfl, ?_⟩
  rw [htk, dB, jI, dz, ew, dm]
  exact hS9.pick [0, 1, 2, 3] (by decide) rfl
 simp (disch := omega) only [↓RA, RZ, simprocAttr, hn, g7, q1]
 have hii : i = (kF o rg (iF ks)).length := by omega
 have hli := hle i
 rw [hii, dM] at hS5
 rw [hii, dM] at hli
 refine c0L hS5 3 rfl (by omega) hsm fun HS hSS => ?_
 simp only [gm, fm] at hSS
 simp (disch := omega) only [↓RA, RZ, simprocAttr, hn, g7, q1]
 have hM1 := hSS.pick (os' := [⟨ov, 2, _⟩]) [3] (by decide) rfl
 have hR1 := hSS.pick (os' := [⟨ov, 2, _⟩, ⟨ptr A1 0 4, 0, _⟩, ⟨ptr A2 0 3, 0, _⟩, ⟨cv, 2, _⟩]) [3, 0, 1, 2] (by decide) rfl
 refine iG (uT hM1.aD (by rw [lT]; omega)) ?_
 rintro r H9 ⟨rest, hb, hrd, hT3⟩
 have hS10 := hR1.frame hT3
 simp only [RT] at hS10
 have hrr := hrd _ (hS10.rd 0 rfl)
 have hrc := hrr.cells
 simp (disch := omega) only [↓RA, RZ, simprocAttr, hn, c6R, q1]
 refine ⟨⟨⟨hrr, jT, by decide⟩, fun b h => ?_⟩, hS10.forget⟩
 rcases hS10.new _ (dJ ..) b (hb b h) with h | h
 ·exact h
 ·exact h.elim
end Go.Ds
namespace Go.Ds
open Go.Proofs
variable {H : Heap}
set_option maxRecDepth 10000
set_option maxHeartbeats 1000000
end Go.Ds
namespace Go.Ds
open Go.Proofs Go.Proofs.Tryz
variable {H : Heap}
set_option maxRecDepth 10000
set_option maxHeartbeats 1000000
theorem b4N {x y : Int × Int} : cf2 x y < 0 ↔ xE x y := by
 unfold cf2 xE
 split
 ·omega
 ·split
  ·omega
  ·split
   ·omega
   ·split <;> omega
theorem b5p {x y : Int × Int} : cf2 x y = 0 ↔ x = y := by
 unfold cf2
 constructor
 ·intro h
  split at h
  ·omega
  ·split at h
   ·omega
   ·split at h
    ·omega
    ·split at h
     ·omega
     ·exact gp (by omega) (by omega)
 ·rintro rfl
  rw [if_neg (by omega), if_neg (by omega), if_neg (by omega), if_neg (by omega)]
theorem a5h {xs : List Ct} (hs : xs.Pairwise xE) {i j : Nat} (h : i < j) (hj : j < xs.length) : xE (iB xs i) (iB xs j) := by
 rw [jU _ _ (by omega), jU _ _ hj]
 exact eH.1 hs i j (by omega) hj h
theorem c1W (v : Value) (xs : List Ct) (hv : Sl 2 jL H v xs) (hl : xs.length < 1000000000) (hs : xs.Pairwise xE) (t : Ct) :
 Fn prog 90 [v, .agg #[I t.1, I t.2], .func (.func 91) #[] #[]] H fun r H' => ∃ k : Nat, r = .tuple #[I k, .bool (decide (t ∈ xs))] ∧ St prog H H' [] := by
 refine .bd func90 rfl (by kernel_rfl) (m := 49) rfl fun l hn g0 g1 g2 => ?_
 simp (disch := omega) only [↓RA, RB, simprocAttr, g1]
 refine (sR H).eNew 2 [I t.1, I t.2] rfl rfl rfl mM fun A1 H1 hS1 => ?_
 simp only [RT] at hS1
 simp (disch := omega) only [↓RA, RZ, simprocAttr, hn, g0, (hS1.sl hv).len]
 refine Wp.ak (fun n l H' => l.length = 49 ∧ get l 0 = v ∧ get l 2 = (.func (.func 91) #[] #[]) ∧ get l 4 = (ptr A1 0 2) ∧ get l 6 = I 0 ∧ get l 7 = (.bool false) ∧ get l 8 = I xs.length ∧ ∃ (i : Nat) (j : Nat), (n + i = j ∧ j ≤ xs.length ∧ (∀ q, q < i → xE (iB xs q) t) ∧ ∀ q, j ≤ q → q < xs.length → ¬ xE (iB xs q) t) ∧ get l 9 = I i ∧ get l 10 = I j ∧ St prog H H' [⟨ptr A1 0 2, 0, [I t.1, I t.2]⟩]) xs.length ?_ ?_
 ·simp (disch := omega) only [RB, RC, simprocAttr, hn, g0, g2]
  exact ⟨0, xs.length, ⟨by omega, by omega, fun q hq => absurd hq (dO _), fun q h1 h2 => absurd h2 (by omega)⟩, rfl, rfl, hS1⟩
 rintro n l H2 ⟨hn, g0, g2, g4, g6, g7, g8, i, j, ⟨h1,h2,h3,h4⟩, g9, oZ, hS2⟩
 simp (disch := omega) only [↓RA, RB, simprocAttr, hn, g9, oZ]
 refine iA (fun q1 => ?_) (fun q1 => ?_)
 ·obtain ⟨m, hm⟩ : ∃ m : Nat, (i + j) / 2 = m := ⟨_, rfl⟩
  have e1 : ((i : Int) + j).fdiv (2 ^ min 1 (IntKind.bits .u64)) = ((m : Nat) : Int) := by
   have h := a0v (i + j) 1 (by omega)
   rw [eM] at h
   rw [← hm]
   exact h
  simp (disch := omega) only [↓RA, RZ, simprocAttr, hn, g9, oZ, q1, e1]
  refine Wp.drw jY (by kernel_rfl) ?_
  simp (disch := omega) only [↓RA, RZ, simprocAttr, hn, g0, g2]
  simp (disch := omega) only [↓RA, RZ, simprocAttr, hn, g4, (hS2.sl hv).idx, (hS2.sl hv).ag, jL, hS2.ag 0 rfl]
  refine hS2.cF (a4V (iB xs m) t) fun H3 hS3 => ?_
  simp (disch := omega) only [↓RA, RB, simprocAttr, hn]
  refine iA (fun q2 => ?_) (fun q2 => ?_)
  ·have hlt := b4N.1 q2
   simp (disch := omega) only [↓RA, RZ, simprocAttr, hn, g0, g2, g4, g6, g7, g8, oZ, q2]
   refine ⟨j - (m + 1), by omega, m + 1, j, ⟨by omega, h2, fun q hq => ?_, h4⟩, by simp, rfl, hS3⟩
   by_cases e : q = m
   ·rw [e]; exact hlt
   ·exact a0E (a5h hs (show q < m by omega) (by omega)) hlt
  have hnl : ¬ xE (iB xs m) t := fun h => q2 (b4N.2 h)
  simp (disch := omega) only [↓RA, RZ, simprocAttr, hn, g0, g2, g4, g6, g7, g8, g9, q2]
  refine ⟨m - i, by omega, i, m, ⟨by omega, by omega, h3, fun q hq hql h => ?_⟩, rfl, by simp, hS3⟩
  by_cases e : q = m
  ·rw [e] at h; exact hnl h
  ·exact hnl (a0E (a5h hs (show m < q by omega) hql) h)
 have hij : i = j := by omega
 have hno : ∀ q, q < xs.length → q ≠ i → iB xs q ≠ t := fun q hq hne e => by
  by_cases hqi : q < i
  ·have := h3 q hqi
   rw [e] at this
   exact a1F this
  ·have h5 := h4 i (by omega) (by omega)
   have h6 := a5h hs (show i < q by omega) hq
   rw [e] at h6
   exact h5 h6
 simp (disch := omega) only [↓RA, RC, simprocAttr, q1]
 refine Wp.drw jY (by kernel_rfl) ?_
 simp (disch := omega) only [↓RA, RZ, simprocAttr, hn, g8, g9]
 refine jD (fun q3 => ?_) (fun q3 => ?_)
 ·simp (disch := omega) only [↓RA, RZ, simprocAttr, hn, g0, g2, g4, g9, (hS2.sl hv).idx, (hS2.sl hv).ag, jL, hS2.ag 0 rfl, q3]
  refine hS2.cF (a4V (iB xs i) t) fun H4 hS4 => ?_
  simp (disch := omega) only [↓RA, RZ, simprocAttr, hn, c5G, q3]
  have he : decide (cf2 (iB xs i) t = 0) = decide (t ∈ xs) := by
   rw [decide_eq_decide, b5p]
   constructor
   ·intro e
    rw [← e]
    exact iD (by omega)
   ·intro hm
    obtain ⟨q, hq, e⟩ := dQ.1 hm
    rw [← jU _ _ hq] at e
    by_cases hqi : q = i
    ·rw [hqi] at e; exact e
    ·exact absurd e (hno q hq hqi)
  exact ⟨i, by rw [← he], hS4.forget⟩
 have hf : decide (t ∈ xs) = false := by
  rw [decide_eq_false_iff_not]
  intro hm
  obtain ⟨q, hq, e⟩ := dQ.1 hm
  rw [← jU _ _ hq] at e
  exact hno q hq (by omega) e
 simp (disch := omega) only [↓RA, RZ, simprocAttr, hn, c5G, q3]
 exact ⟨i, by rw [hf], hS2.forget⟩
def a2M (xs ys : List Ct) : List Ct := xs.filter fun c => !decide (c ∈ ys)
theorem a6k (xs ys : List Ct) : (a2M xs ys).length ≤ xs.length := eh _ _
theorem b0w (xs ys : List Ct) (i : Nat) (h : i < xs.length) : a2M (xs.take (i + 1)) ys = a2M (xs.take i) ys ++ (if iB xs i ∈ ys then [] else [iB xs i]) := by
 unfold a2M
 rw [kG xs i h, eP]
 congr 1
 by_cases e : iB xs i ∈ ys <;> simp [e]
theorem a7M (v w : Value) (xs ys : List Ct) (hv : Sl 2 jL H v xs) (hw : Sl 2 jL H w ys) (hl : xs.length < 100000000) (hl2 : ys.length < 100000000) (hs : ys.Pairwise xE) :
 Fn prog 67 [v, w] H fun r H' => St prog H H' [⟨r, 2, pr (a2M xs ys)⟩] := by
 refine .aG func67 rfl (by kernel_rfl) (m := 30) rfl fun l hn g0 g1 => ?_
 simp (disch := omega) only [↓RA, RZ, simprocAttr, hn, g0, ((sR H).sl hv).len]
 have hS1 := (sR H).nil 1
 simp only [RT] at hS1
 refine Wp.ak (fun n l H' => l.length = 30 ∧ get l 1 = w ∧ get l 4 = (.slice none 0 0) ∧ get l 10 = v ∧ get l 11 = I xs.length ∧ ∃ (i : Nat) (ov : Value), (n + i = xs.length) ∧ get l 12 = I i ∧ get l 5 = ov ∧ St prog H H' [⟨ov, 2, pr (a2M (xs.take i) ys)⟩]) xs.length ?_ ?_
 ·simp (disch := omega) only [RB, RC, simprocAttr, hn, g1]
  exact ⟨0, .slice none 0 0, by omega, rfl, rfl, hS1⟩
 rintro n l H1 ⟨hn, g1, g4, oZ, g11, i, ov, hi, g12, g5, hS2⟩
 simp (disch := omega) only [↓RA, RB, simprocAttr, hn, g11, g12]
 refine iA (fun q1 => ?_) (fun q1 => ?_)
 ·have hsu := b0w xs ys i (by omega)
  have hle := a6k (xs.take i) ys
  have htl := List.length_take_le i xs
  simp (disch := omega) only [↓RA, RZ, simprocAttr, hn, oZ, g12, (hS2.sl hv).idx, (hS2.sl hv).ag, jL, q1]
  refine hS2.eNew 2 [I 0, I 0] rfl rfl rfl mM fun A1 H2 hS3 => ?_
  simp only [RT] at hS3
  simp (disch := omega) only [↓RA, RZ, simprocAttr, hn, q1]
  refine hS3.aa 1 rfl [I (iB xs i).1, I (iB xs i).2] rfl rfl mM (by simp) fun H3 hS4 => ?_
  simp only [RT] at hS4
  simp (disch := omega) only [↓RA, RZ, simprocAttr, hn, g1, hS4.ag 1 rfl, q1]
  refine iG (c1W w ys (hS4.sl hw) (by omega) hs (iB xs i)) ?_
  rintro r H4 ⟨k, rfl, hT1⟩
  have hS5 := hS4.trans hT1
  simp only [RT] at hS5
  simp (disch := omega) only [↓RA, RZ, simprocAttr, hn, q1]
  refine jO (fun q2 => ?_) (fun q2 => ?_)
  ·have hni : ¬ iB xs i ∈ ys := by simpa using q2
   rw [if_neg hni] at hsu
   simp (disch := omega) only [↓RA, RZ, simprocAttr, hn, g5, hS5.ag 1 rfl, q1, q2]
   refine hS5.ae [I (iB xs i).1, I (iB xs i).2] a1f b5O rfl rfl (by simp [Value.cells]) rfl rfl (by decide) (by decide) fun w1 H5 hS6 => ?_
   simp only [RT] at hS6
   simp (disch := omega) only [↓RA, RZ, simprocAttr, hn, q1, q2]
   refine hS6.al 0 rfl (hS6.rd 2 rfl) a1f (by rw [iI]; simp only [dT, ef]; omega) fun w2 H6 hS7 => ?_
   simp only [RT] at hS7
   simp (disch := omega) only [↓RA, RZ, simprocAttr, hn, g1, g4, oZ, g11, g12, q1, q2]
   refine ⟨n - 1, by omega, i + 1, w2, by omega, by simp, rfl, ?_⟩
   rw [hsu, jI]
   exact hS7.pick [0] (by decide) rfl
  have hni : iB xs i ∈ ys := by simpa using q2
  rw [if_pos hni, dm] at hsu
  simp (disch := omega) only [↓RA, RZ, simprocAttr, hn, g1, g4, oZ, g11, g12, g5, q1, q2]
  refine ⟨n - 1, by omega, i + 1, ov, by omega, by simp, rfl, ?_⟩
  rw [hsu]
  exact hS5.pick [0] (by decide) rfl
 simp (disch := omega) only [↓RA, RZ, simprocAttr, hn, g5, c6D, q1]
 have hii : i = xs.length := by omega
 rw [hii, dM] at hS2
 exact hS2
end Go.Ds
namespace Go.Ds
open Go.Proofs
set_option maxRecDepth 10000
section
variable {o : Org} {b : Nat → Nat} {l : List Ct}
end
def yY (o : Org) (p : Ct) : Int := iB (iB o.ranks p.1.toNat).wind p.2.toNat
def sF (o : Org) (l : List Ct) : Int := l.foldl (fun n p => oE (n + yY o p)) 0
theorem a2V (o : Org) (l : List Ct) (i : Nat) (h : i < l.length) : sF o (l.take (i + 1)) = oE (sF o (l.take i) + yY o (iB l i)) := by
 unfold sF
 rw [kG l i h, fh]
 rfl
end Go.Ds
namespace Go.Ds
open Go.Proofs Go.Proofs.Tryz
variable {H : Heap}
set_option maxRecDepth 10000
set_option maxHeartbeats 1000000
theorem a2T (o : Org) (ho : o.In H) (v : Value) (ps : List Ct) (hv : Sl 2 jL H v ps) (hl : ps.length < 100000000) (hp : ∀ p ∈ ps, IsP o p) :
 Fn prog 39 [.agg #[.string o.name, o.rv, o.dv, o.cv], v] H fun r H' => r = I (sF o ps) ∧ St prog H H' [] := by
 refine .aG func39 rfl (by kernel_rfl) (m := 29) rfl fun l hn g0 g1 => ?_
 simp (disch := omega) only [↓RA, RB, simprocAttr, g0]
 refine (sR H).eNew 4 [(.string o.name), o.rv, o.dv, o.cv] rfl rfl (by simp [OC, ((sR H).sl ho.1).cells.2.1, ((sR H).sl ho.2.2.1).cells.2.1, ((sR H).sl ho.2.2.2.2.1).cells.2.1]) lO fun A1 H1 hS1 => ?_
 simp only [RT] at hS1
 simp (disch := omega) only [↓RA, RZ, simprocAttr, hn, g1, (hS1.sl hv).len]
 refine Wp.ak (fun n l H' => l.length = 29 ∧ get l 2 = (ptr A1 0 4) ∧ get l 4 = I 0 ∧ get l 8 = v ∧ get l 9 = I ps.length ∧ ∃ (i : Nat), (n + i = ps.length) ∧ get l 10 = I i ∧ get l 5 = I (sF o (ps.take i)) ∧ St prog H H' [⟨ptr A1 0 4, 0, [(.string o.name), o.rv, o.dv, o.cv]⟩]) ps.length ?_ ?_
 ·simp (disch := omega) only [RB, RC, simprocAttr, hn]
  exact ⟨0, by omega, rfl, rfl, hS1⟩
 rintro n l H2 ⟨hn, g2, g4, g8, g9, i, hi, oZ, g5, hS2⟩
 simp (disch := omega) only [↓RA, RB, simprocAttr, hn, g9, oZ]
 refine iA (fun q1 => ?_) (fun q1 => ?_)
 ·have hpi := hp _ (iD (xs := ps) (j := i) (by omega))
  obtain ⟨e, he⟩ : ∃ e : Nat, (iB ps i).1 = e := ⟨(iB ps i).1.toNat, by have := hpi.1; omega⟩
  obtain ⟨f, hf⟩ : ∃ f : Nat, (iB ps i).2 = f := ⟨(iB ps i).2.toNat, by have := hpi.2.2.1; omega⟩
  have hel : e < o.ranks.length := by have := hpi.2.1; omega
  have hfl : f < (iB o.ranks e).wind.length := by
   have := hpi.2.2.2
   rw [he, dR] at this
   omega
  have hsu := a2V o ps i (by omega)
  have hwt : yY o (iB ps i) = iB (iB o.ranks e).wind f := by unfold yY; rw [he, hf, dR, dR]
  rw [hwt] at hsu
  simp (disch := omega) only [↓RA, RZ, simprocAttr, hn, g8, oZ, (hS2.sl hv).idx, (hS2.sl hv).ag, jL, q1]
  refine hS2.eNew 2 [I 0, I 0] rfl rfl rfl mM fun A2 H3 hS3 => ?_
  simp only [RT] at hS3
  simp (disch := omega) only [↓RA, RZ, simprocAttr, hn, q1]
  refine hS3.aa 1 rfl [I (iB ps i).1, I (iB ps i).2] rfl rfl mM (by simp) fun H4 hS4 => ?_
  simp only [RT] at hS4
  simp (disch := omega) only [↓RA, RZ, simprocAttr, q1]
  refine Wp.drw jY (by kernel_rfl) ?_
  simp (disch := omega) only [↓RA, RZ, simprocAttr, hn, g2, g5, hS4.ld 0 rfl]
  simp (disch := omega) only [↓RA, RZ, simprocAttr, hn, g2, g4, g8, g9, oZ, hS4.ld 1 rfl, (hS4.sl ho.1).idx, (hS4.sl ho.1).aY, (hS4.sl ho.1).ld, Rk.cells, (hS4.sl (ho.2.1 (iB o.ranks e) (iD (by omega))).1).idx, (hS4.sl (ho.2.1 (iB o.ranks e) (iD (by omega))).1).ld, one, he, hf]
  refine ⟨n - 1, by omega, i + 1, by omega, by simp, ?_, hS4.pick [0] (by decide) rfl⟩
  first | (rw [hsu]; done) | (rw [hsu]; rfl) | (rw [hsu]; simp)
 simp (disch := omega) only [↓RA, RZ, simprocAttr, hn, g5, c6Y, q1]
 have hii : i = ps.length := by omega
 rw [hii, dM]
 exact ⟨rfl, hS2.forget⟩
theorem b7k (o : Org) (ho : o.In H) (v : Value) (ps : List Ct) (hv : Sl 2 jL H v ps) (hl : ps.length < 100000000) (hp : ∀ p ∈ ps, IsP o p) :
 Fn prog 34 [.agg #[.string o.name, o.rv, o.dv, o.cv], v] H fun r H' => r = I (sF o ps) ∧ St prog H H' [] := by
 refine .aG func34 rfl (by kernel_rfl) (m := 29) rfl fun l hn g0 g1 => ?_
 simp (disch := omega) only [↓RA, RB, simprocAttr, g0]
 refine (sR H).eNew 4 [(.string o.name), o.rv, o.dv, o.cv] rfl rfl (by simp [OC, ((sR H).sl ho.1).cells.2.1, ((sR H).sl ho.2.2.1).cells.2.1, ((sR H).sl ho.2.2.2.2.1).cells.2.1]) lO fun A1 H1 hS1 => ?_
 simp only [RT] at hS1
 simp (disch := omega) only [↓RA, RZ, simprocAttr, hn, g1, (hS1.sl hv).len]
 refine Wp.ak (fun n l H' => l.length = 29 ∧ get l 2 = (ptr A1 0 4) ∧ get l 4 = I 0 ∧ get l 8 = v ∧ get l 9 = I ps.length ∧ ∃ (i : Nat), (n + i = ps.length) ∧ get l 10 = I i ∧ get l 5 = I (sF o (ps.take i)) ∧ St prog H H' [⟨ptr A1 0 4, 0, [(.string o.name), o.rv, o.dv, o.cv]⟩]) ps.length ?_ ?_
 ·simp (disch := omega) only [RB, RC, simprocAttr, hn]
  exact ⟨0, by omega, rfl, rfl, hS1⟩
 rintro n l H2 ⟨hn, g2, g4, g8, g9, i, hi, oZ, g5, hS2⟩
 simp (disch := omega) only [↓RA, RB, simprocAttr, hn, g9, oZ]
 refine iA (fun q1 => ?_) (fun q1 => ?_)
 ·have hpi := hp _ (iD (xs := ps) (j := i) (by omega))
  obtain ⟨e, he⟩ : ∃ e : Nat, (iB ps i).1 = e := ⟨(iB ps i).1.toNat, by have := hpi.1; omega⟩
  obtain ⟨f, hf⟩ : ∃ f : Nat, (iB ps i).2 = f := ⟨(iB ps i).2.toNat, by have := hpi.2.2.1; omega⟩
  have hel : e < o.ranks.length := by have := hpi.2.1; omega
  have hfl : f < (iB o.ranks e).wind.length := by
   have := hpi.2.2.2
   rw [he, dR] at this
   omega
  have hsu := a2V o ps i (by omega)
  have hwt : yY o (iB ps i) = iB (iB o.ranks e).wind f := by unfold yY; rw [he, hf, dR, dR]
  rw [hwt] at hsu
  simp (disch := omega) only [↓RA, RZ, simprocAttr, hn, g8, oZ, (hS2.sl hv).idx, (hS2.sl hv).ag, jL, q1]
  refine hS2.eNew 2 [I 0, I 0] rfl rfl rfl mM fun A2 H3 hS3 => ?_
  simp only [RT] at hS3
  simp (disch := omega) only [↓RA, RZ, simprocAttr, hn, q1]
  refine hS3.aa 1 rfl [I (iB ps i).1, I (iB ps i).2] rfl rfl mM (by simp) fun H4 hS4 => ?_
  simp only [RT] at hS4
  simp (disch := omega) only [↓RA, RZ, simprocAttr, q1]
  refine Wp.drw jY (by kernel_rfl) ?_
  simp (disch := omega) only [↓RA, RZ, simprocAttr, hn, g2, g5, hS4.ld 0 rfl]
  simp (disch := omega) only [↓RA, RZ, simprocAttr, hn, g2, g4, g8, g9, oZ, hS4.ld 1 rfl, (hS4.sl ho.1).idx, (hS4.sl ho.1).aY, (hS4.sl ho.1).ld, Rk.cells, (hS4.sl (ho.2.1 (iB o.ranks e) (iD (by omega))).1).idx, (hS4.sl (ho.2.1 (iB o.ranks e) (iD (by omega))).1).ld, one, he, hf]
  refine ⟨n - 1, by omega, i + 1, by omega, by simp, ?_, hS4.pick [0] (by decide) rfl⟩
  first | (rw [hsu]; done) | (rw [hsu]; rfl) | (rw [hsu]; simp)
 simp (disch := omega) only [↓RA, RZ, simprocAttr, hn, g5, c6E, q1]
 have hii : i = ps.length := by omega
 rw [hii, dM]
 exact ⟨rfl, hS2.forget⟩
theorem b0V {o : Org} {rg : Reg} {ks : List Nt} : ∀ p ∈ oF o rg ks, IsP o p := by
 intro p hp
 unfold oF at hp
 split at hp
 ·exact sT hp
 ·exact absurd hp dU
theorem b5J {o : Org} {rg : Reg} {ks : List Nt} (hok : ∀ x ∈ ks, Nt.Ok x) : (oF o rg ks).length ≤ 1000000 := by
 unfold oF
 split
 ·rename_i h
  obtain ⟨h1, h2⟩ := uK h
  exact rZ (Org.aO (mC h1).1) rg (qO h2) (mT (pM hok h2))
 ·simp
def oY (o : Org) (rg : Reg) (ks : List Nt) : Int := sF o (oF o rg ks)
theorem a9E (hG : Glob gH H) (o : Org) (ho : o.In H) (rg : Reg) (sv : Value) (hr : rg.In H sv) (kv : Value) (ks : List Nt) (hk : Ks H kv ks) :
 Fn prog 18 [.agg #[.string o.name, o.rv, o.dv, o.cv], .agg #[sv, .int .u64 rg.cpl, .int .u64 rg.off], kv] H fun r H' => r = .tuple #[I (oY o rg ks), I (rkE o rg ks)] ∧ St prog H H' [] := by
 have hle := b5J (o := o) (rg := rg) hk.ok
 refine .bd func18 rfl (by kernel_rfl) (m := 23) rfl fun l hn g0 g1 g2 => ?_
 simp (disch := omega) only [↓RA, RB, simprocAttr, g0]
 refine (sR H).eNew 4 [(.string o.name), o.rv, o.dv, o.cv] rfl rfl (by simp [OC, ((sR H).sl ho.1).cells.2.1, ((sR H).sl ho.2.2.1).cells.2.1, ((sR H).sl ho.2.2.2.2.1).cells.2.1]) lO fun A1 H1 hS1 => ?_
 simp only [RT] at hS1
 simp (disch := omega) only [↓RA, RB, simprocAttr, g1]
 refine hS1.eNew 3 [sv, (.int .u64 rg.cpl), (.int .u64 rg.off)] rfl rfl (by simp [OC, (hS1.sl hr.1).cells.2.1]) nJ fun A2 H2 hS2 => ?_
 simp only [RT] at hS2
 simp (disch := omega) only [↓RA, RZ, simprocAttr, hn, g2, hS2.ag 0 rfl, hS2.ag 1 rfl]
 refine iG (a1j (hS2.gl hG) o (ho.ab hS2) rg sv (hr.ab hS2) kv ks (hk.ab hS2)) ?_
 rintro r H3 ⟨pv, rfl, hx, hT1⟩
 have hS3 := hS2.trans hT1
 simp only [RT] at hS3
 simp (disch := omega) only [↓RA, RB, simprocAttr, hn]
 refine iA (fun h1 => ?_) (fun h1 => ?_)
 ·have hs : oY o rg ks = 0 := by unfold oY oF; rw [if_neg h1]; rfl
  simp (disch := omega) only [↓RA, RZ, simprocAttr, hn, c4b, h1]
  exact ⟨by rw [hs], hS3.forget⟩
 have h0 := dw.1 h1
 simp (disch := omega) only [↓RA, RZ, simprocAttr, hn, hS3.ag 0 rfl, h1]
 refine hS3.cF (a2T o (ho.ab hS3) pv (oF o rg ks) hx.1 (by omega) b0V) fun H4 hS4 => ?_
 simp (disch := omega) only [↓RA, RZ, simprocAttr, hn, c4b, h1]
 rw [h0]
 exact ⟨rfl, hS4.forget⟩
def uA (o : Org) (rg : Reg) (c : Ct) : Int := sF o (ofF o rg c)
theorem c2g {o : Org} {rg : Reg} {c : Ct} : (ofF o rg c).length ≤ 1000000 := by
 by_cases h : a2f o rg c = 0
 ·exact c3p (Org.aO (mC (a0I h).1).1) rg c
 ·unfold ofF
  rw [if_neg h]
  simp
theorem b8x (o : Org) (ho : o.In H) (rg : Reg) (sv : Value) (hr : rg.In H sv) (c : Ct) :
 Fn prog 22 [.agg #[.string o.name, o.rv, o.dv, o.cv], .agg #[sv, .int .u64 rg.cpl, .int .u64 rg.off], .agg #[I c.1, I c.2]] H fun r H' => r = .tuple #[I (uA o rg c), I (a2f o rg c)] ∧ St prog H H' [] := by
 have hle := c2g (o := o) (rg := rg) (c := c)
 refine .bd func22 rfl (by kernel_rfl) (m := 23) rfl fun l hn g0 g1 g2 => ?_
 simp (disch := omega) only [↓RA, RB, simprocAttr, g0]
 refine (sR H).eNew 4 [(.string o.name), o.rv, o.dv, o.cv] rfl rfl (by simp [OC, ((sR H).sl ho.1).cells.2.1, ((sR H).sl ho.2.2.1).cells.2.1, ((sR H).sl ho.2.2.2.2.1).cells.2.1]) lO fun A1 H1 hS1 => ?_
 simp only [RT] at hS1
 simp (disch := omega) only [↓RA, RB, simprocAttr, g1]
 refine hS1.eNew 3 [sv, (.int .u64 rg.cpl), (.int .u64 rg.off)] rfl rfl (by simp [OC, (hS1.sl hr.1).cells.2.1]) nJ fun A2 H2 hS2 => ?_
 simp only [RT] at hS2
 simp (disch := omega) only [↓RA, RB, simprocAttr, g2]
 refine hS2.eNew 2 [I c.1, I c.2] rfl rfl rfl lQ fun A3 H3 hS3 => ?_
 simp only [RT] at hS3
 simp (disch := omega) only [↓RA, RZ, simprocAttr, hn, hS3.ag 0 rfl, hS3.ag 1 rfl, hS3.ag 2 rfl]
 refine iG (c5g o (ho.ab hS3) rg sv (hr.ab hS3) c) ?_
 rintro r H4 ⟨pv, rfl, hx, hT1⟩
 have hS4 := hS3.trans hT1
 simp only [RT] at hS4
 simp (disch := omega) only [↓RA, RB, simprocAttr, hn]
 refine iA (fun h1 => ?_) (fun h1 => ?_)
 ·have hs : uA o rg c = 0 := by unfold uA ofF; rw [if_neg h1]; rfl
  simp (disch := omega) only [↓RA, RZ, simprocAttr, hn, c4w, h1]
  exact ⟨by rw [hs], hS4.forget⟩
 have h0 := dw.1 h1
 simp (disch := omega) only [↓RA, RZ, simprocAttr, hn, hS4.ag 0 rfl, h1]
 refine hS4.cF (a2T o (ho.ab hS4) pv (ofF o rg c) hx.1 (by omega) (fun p hp => b9o hp)) fun H5 hS5 => ?_
 simp (disch := omega) only [↓RA, RZ, simprocAttr, hn, c4w, h1]
 rw [h0]
 exact ⟨rfl, hS5.forget⟩
theorem b4U (o : Org) (ho : o.In H) (h0 : organE o = 0) (rg : Reg) (sv : Value) (hr : rg.In H sv) (hrl : rg.stops.length = o.dvs.length) (kv : Value) (ks : List Nt) (hk : Ks H kv ks) (hke : mE o ks = 0) :
 Fn prog 14 [.agg #[.string o.name, o.rv, o.dv, o.cv], .agg #[sv, .int .u64 rg.cpl, .int .u64 rg.off], kv] H fun r H' => r = I (sF o (lK o rg (iF ks))) ∧ St prog H H' [] := by
 have hf := Org.aO h0
 have hle := rZ hf rg (qO hke) (mT (pM hk.ok hke))
 refine .bd func14 rfl (by kernel_rfl) (m := 13) rfl fun l hn g0 g1 g2 => ?_
 simp (disch := omega) only [↓RA, RB, simprocAttr, g0]
 refine (sR H).eNew 4 [(.string o.name), o.rv, o.dv, o.cv] rfl rfl (by simp [OC, ((sR H).sl ho.1).cells.2.1, ((sR H).sl ho.2.2.1).cells.2.1, ((sR H).sl ho.2.2.2.2.1).cells.2.1]) lO fun A1 H1 hS1 => ?_
 simp only [RT] at hS1
 simp (disch := omega) only [↓RA, RB, simprocAttr, g1]
 refine hS1.eNew 3 [sv, (.int .u64 rg.cpl), (.int .u64 rg.off)] rfl rfl (by simp [OC, (hS1.sl hr.1).cells.2.1]) nJ fun A2 H2 hS2 => ?_
 simp only [RT] at hS2
 simp (disch := omega) only [↓RA, RB, simprocAttr]
 refine Wp.aT jY [(0, 5)] (by kernel_rfl) (by kernel_rfl) ?_
 simp (disch := omega) only [↓RA, RZ, simprocAttr, hn, g2, hS2.ag 0 rfl, hS2.ag 1 rfl]
 refine iG (a3n o (ho.ab hS2) h0 rg sv (hr.ab hS2) hrl kv ks (hk.ab hS2) hke) ?_
 rintro r H3 ⟨hx, hT1⟩
 have hS3 := hS2.trans hT1
 simp only [RT] at hS3
 obtain ⟨pv, rfl⟩ : ∃ w, w = r := ⟨r, rfl⟩
 simp (disch := omega) only [↓RA, RZ, simprocAttr, hn]
 refine hS3.cF (b7k o (ho.ab hS3) pv (lK o rg (iF ks)) hx.1 (by omega) (fun p hp => sT hp)) fun H4 hS4 => ?_
 simp (disch := omega) only [↓RA, RZ, simprocAttr, hn, hS3.ag 0 rfl, c6O]
 exact hS4.forget
end Go.Ds
namespace Go.Ds
open Go.Proofs
set_option maxRecDepth 10000
def grS (f : Ct → Int) (a : Ct × Int) (c : Ct) : Ct × Int := if f c > a.2 then (c, f c) else a
def grF (f : Ct → Int) (l : List Ct) (a : Ct × Int) : Ct × Int := l.foldl (grS f) a
theorem b8e (f : Ct → Int) (l : List Ct) (c : Ct) (a : Ct × Int) : grF f (l ++ [c]) a = grS f (grF f l a) c := by
 unfold grF
 rw [fh]
 rfl
end Go.Ds
namespace Go.Ds
open Go.Proofs Go.Proofs.Tryz
variable {H : Heap}
set_option maxRecDepth 10000
set_option maxHeartbeats 1000000
structure Kv where
 v : Value
 l : List Nt
 deriving Inhabited
def Kv.cells (k : Kv) : List Value := [k.v]
def Kv.In (H : Heap) (k : Kv) : Prop := Ks H k.v k.l
theorem Kv.In.ab {P : Program} {H' : Heap} {k : Kv} {os : List Ob} (h : k.In H) (hS : St P H H' os) : k.In H' := Ks.ab h hS
def pD (o : Org) (rg : Reg) (l : List Kv) : Int := if organE o ≠ 0 then organE o else if mZ o rg ≠ 0 then mZ o rg else if 200 < l.length then 4 else lD (fun j => mE o (iB l j).l) l.length
theorem a5I (o : Org) (ho : o.In H) (rg : Reg) (sv : Value) (hr : rg.In H sv) (lv : Value) (ls : List Kv) (hl : Sl 1 Kv.cells H lv ls) (hle : ls.length < 1000000000) (hk : ∀ k ∈ ls, k.In H) :
 Fn prog 33 [.agg #[.string o.name, o.rv, o.dv, o.cv], .agg #[sv, .int .u64 rg.cpl, .int .u64 rg.off], lv] H fun r H' => r = I (pD o rg ls) ∧ St prog H H' [] := by
 have hlc := hl.cells
 refine .bd func33 rfl (by kernel_rfl) (m := 39) rfl fun l hn g0 g1 g2 => ?_
 simp (disch := omega) only [↓RA, RB, simprocAttr, g0]
 refine (sR H).eNew 4 [(.string o.name), o.rv, o.dv, o.cv] rfl rfl (by simp [OC, ((sR H).sl ho.1).cells.2.1, ((sR H).sl ho.2.2.1).cells.2.1, ((sR H).sl ho.2.2.2.2.1).cells.2.1]) lO fun A1 H1 hS1 => ?_
 simp only [RT] at hS1
 simp (disch := omega) only [↓RA, RB, simprocAttr, g1]
 refine hS1.eNew 3 [sv, (.int .u64 rg.cpl), (.int .u64 rg.off)] rfl rfl (by simp [OC, (hS1.sl hr.1).cells.2.1]) nJ fun A2 H2 hS2 => ?_
 simp only [RT] at hS2
 simp (disch := omega) only [↓RA, RZ, simprocAttr, hn, hS2.ag 0 rfl]
 refine hS2.cF (zC o (ho.ab hS2)) fun H3 hS3 => ?_
 simp (disch := omega) only [↓RA, RB, simprocAttr, hn]
 refine iA (fun h1 => ?_) (fun h1 => ?_)
 ·simp (disch := omega) only [↓RA, RZ, simprocAttr, hn, b7b, h1]
  exact ⟨by rw [pD, if_pos h1], hS3.forget⟩
 simp (disch := omega) only [↓RA, RZ, simprocAttr, hn, hS3.ag 0 rfl, hS3.ag 1 rfl, h1]
 refine hS3.cF (b7j o (ho.ab hS3) rg sv (hr.ab hS3)) fun H4 hS4 => ?_
 simp (disch := omega) only [↓RA, RZ, simprocAttr, hn, h1]
 refine iA (fun h2 => ?_) (fun h2 => ?_)
 ·simp (disch := omega) only [↓RA, RZ, simprocAttr, hn, b7b, h1, h2]
  exact ⟨by rw [pD, if_neg h1, if_pos h2], hS4.forget⟩
 simp (disch := omega) only [↓RA, RZ, simprocAttr, hn, g2, (hS4.sl hl).len, h1, h2]
 refine iA (fun h3 => ?_) (fun h3 => ?_)
 ·simp (disch := omega) only [↓RA, RZ, simprocAttr, hn, b7b, h1, h2, h3]
  exact ⟨by rw [pD, if_neg h1, if_neg h2, if_pos (by omega)], hS4.forget⟩
 have hE : pD o rg ls = lD (fun j => mE o (iB ls j).l) ls.length := by rw [pD, if_neg h1, if_neg h2, if_neg (by omega)]
 simp (disch := omega) only [↓RA, RZ, simprocAttr, hn, g2, (hS4.sl hl).len, h1, h2, h3]
 refine Wp.ak (fun n l H' => l.length = 39 ∧ get l 3 = (ptr A1 0 4) ∧ get l 26 = lv ∧ get l 27 = I ls.length ∧ ∃ (j : Nat), (n + j = ls.length ∧ ∀ q, q < j → mE o (iB ls q).l = 0) ∧ get l 28 = I j ∧ St prog H H' [⟨ptr A1 0 4, 0, [(.string o.name), o.rv, o.dv, o.cv]⟩, ⟨ptr A2 0 3, 0, [sv, (.int .u64 rg.cpl), (.int .u64 rg.off)]⟩]) ls.length ?_ ?_
 ·simp (disch := omega) only [RB, RC, simprocAttr, hn]
  exact ⟨0, ⟨by omega, fun q hq => absurd hq (dO _)⟩, rfl, hS4⟩
 rintro n l H5 ⟨hn, g3, g26, g27, j, ⟨hj,hz⟩, g28, hS5⟩
 simp (disch := omega) only [↓RA, RB, simprocAttr, hn, g27, g28]
 refine iA (fun q1 => ?_) (fun q1 => ?_)
 ·simp (disch := omega) only [↓RA, RZ, simprocAttr, hn, g3, g26, g28, (hS5.sl hl).idx, (hS5.sl hl).ld, Kv.cells, hS5.ag 0 rfl, q1]
  refine hS5.cF (a8j o (ho.ab hS5) (iB ls j).v (iB ls j).l ((hk _ (iD (by omega))).ab hS5)) fun H6 hS6 => ?_
  simp (disch := omega) only [↓RA, RZ, simprocAttr, hn, q1]
  refine iA (fun q2 => ?_) (fun q2 => ?_)
  ·simp (disch := omega) only [↓RA, RZ, simprocAttr, hn, b7b, q1, q2]
   exact ⟨by rw [hE, nR (fun j => mE o (iB ls j).l) ls.length j (by omega) q2 hz], hS6.forget⟩
  simp (disch := omega) only [↓RA, RZ, simprocAttr, hn, g3, g26, g27, g28, q1, q2]
  exact ⟨n - 1, by omega, j + 1, ⟨by omega, fun q hq => by rcases du.1 hq with e | e; (· exact hz q e); (· rw [e]; exact dw.1 q2)⟩, by simp, hS6.pick [0, 1] (by decide) rfl⟩
 simp (disch := omega) only [↓RA, RZ, simprocAttr, hn, b7b, q1]
 exact ⟨by rw [hE, kH (fun j => mE o (iB ls j).l) ls.length fun q hq => hz q (by omega)], hS5.forget⟩
def wC (o : Org) (rg : Reg) (ls : List Kv) : List Int := if pD o rg ls = 0 then ls.map fun k => oY o rg k.l else []
theorem a8M (hG : Glob gH H) (o : Org) (ho : o.In H) (rg : Reg) (sv : Value) (hr : rg.In H sv) (lv : Value) (ls : List Kv) (hl : Sl 1 Kv.cells H lv ls) (hle : ls.length < 1000000000) (hk : ∀ k ∈ ls, k.In H) :
 Fn prog 12 [.agg #[.string o.name, o.rv, o.dv, o.cv], .agg #[sv, .int .u64 rg.cpl, .int .u64 rg.off], lv] H fun r H' => ∃ v, r = .tuple #[v, I (pD o rg ls)] ∧ St prog H H' [⟨v, 1, (wC o rg ls).flatMap (one I)⟩] := by
 refine .bd func12 rfl (by kernel_rfl) (m := 40) rfl fun l hn g0 g1 g2 => ?_
 simp (disch := omega) only [↓RA, RB, simprocAttr, g0]
 refine (sR H).eNew 4 [(.string o.name), o.rv, o.dv, o.cv] rfl rfl (by simp [OC, ((sR H).sl ho.1).cells.2.1, ((sR H).sl ho.2.2.1).cells.2.1, ((sR H).sl ho.2.2.2.2.1).cells.2.1]) lO fun A1 H1 hS1 => ?_
 simp only [RT] at hS1
 simp (disch := omega) only [↓RA, RB, simprocAttr, g1]
 refine hS1.eNew 3 [sv, (.int .u64 rg.cpl), (.int .u64 rg.off)] rfl rfl (by simp [OC, (hS1.sl hr.1).cells.2.1]) nJ fun A2 H2 hS2 => ?_
 simp only [RT] at hS2
 simp (disch := omega) only [↓RA, RZ, simprocAttr, hn, g2, hS2.ag 0 rfl, hS2.ag 1 rfl]
 refine hS2.cF (a5I o (ho.ab hS2) rg sv (hr.ab hS2) lv ls (hS2.sl hl) hle (fun k h => (hk k h).ab hS2)) fun H3 hS3 => ?_
 simp (disch := omega) only [↓RA, RB, simprocAttr, hn]
 refine iA (fun h1 => ?_) (fun h1 => ?_)
 ·have hp : wC o rg ls = [] := by unfold wC; rw [if_neg h1]
  have hS4 := hS3.nil 0
  simp only [RT] at hS4
  simp (disch := omega) only [↓RA, RZ, simprocAttr, hn, c4n, h1]
  rw [hp]
  exact ⟨.slice none 0 0, rfl, hS4.pick [2] (by decide) rfl⟩
 have h0 := dw.1 h1
 have hp : wC o rg ls = ls.map fun k => oY o rg k.l := by unfold wC; rw [if_pos h0]
 simp (disch := omega) only [↓RA, RZ, simprocAttr, hn, g2, (hS3.sl hl).len, h1]
 have hS5 := hS3.nil 0
 simp only [RT] at hS5
 refine Wp.ak (fun n l H' => l.length = 40 ∧ get l 3 = (ptr A1 0 4) ∧ get l 4 = (ptr A2 0 3) ∧ get l 6 = (.slice none 0 0) ∧ get l 7 = I 0 ∧ get l 21 = lv ∧ get l 22 = I ls.length ∧ ∃ (i : Nat) (ov : Value), (n + i = ls.length) ∧ get l 23 = I i ∧ get l 9 = ov ∧ St prog H H' [⟨ptr A1 0 4, 0, [(.string o.name), o.rv, o.dv, o.cv]⟩, ⟨ptr A2 0 3, 0, [sv, (.int .u64 rg.cpl), (.int .u64 rg.off)]⟩, ⟨ov, 1, ((ls.take i).map fun k => oY o rg k.l).flatMap (one I)⟩]) ls.length ?_ ?_
 ·simp (disch := omega) only [RB, RC, simprocAttr, hn]
  exact ⟨0, .slice none 0 0, by omega, rfl, rfl, hS5⟩
 rintro n l H4 ⟨hn, g3, g4, g6, g7, g21, g22, i, ov, hi, g23, g9, hS6⟩
 simp (disch := omega) only [↓RA, RB, simprocAttr, hn, g22, g23]
 refine iA (fun q1 => ?_) (fun q1 => ?_)
 ·simp (disch := omega) only [↓RA, RZ, simprocAttr, hn, g3, g4, g21, g23, (hS6.sl hl).idx, (hS6.sl hl).ld, Kv.cells, hS6.ag 0 rfl, hS6.ag 1 rfl, q1]
  refine hS6.cF (a9E (hS6.gl hG) o (ho.ab hS6) rg sv (hr.ab hS6) (iB ls i).v (iB ls i).l ((hk _ (iD (by omega))).ab hS6)) fun H5 hS7 => ?_
  simp (disch := omega) only [↓RA, RZ, simprocAttr, hn, g9, q1]
  refine hS7.ae [I (oY o rg (iB ls i).l)] rI xG rfl rfl (by simp [Value.cells]) rfl rfl (by decide) (by decide) fun w1 H6 hS8 => ?_
  simp only [RT] at hS8
  simp (disch := omega) only [↓RA, RZ, simprocAttr, hn, q1]
  refine hS8.al 2 rfl (hS8.rd 3 rfl) rI (by rw [nO, dK, dK, ff]; simp; omega) fun w2 H7 hS9 => ?_
  simp only [RT] at hS9
  simp (disch := omega) only [↓RA, RZ, simprocAttr, hn, g3, g4, g6, g7, g21, g22, g23, q1]
  refine ⟨n - 1, by omega, i + 1, w2, by omega, by simp, rfl, ?_⟩
  rw [pR ls i (by omega), dL, dB]
  exact hS9.pick [0, 1, 2] (by decide) rfl
 have hnt := (hS6.aw (cel := one I) 2 rfl (fun _ => rfl)).br
 simp (disch := omega) only [↓RA, RZ, simprocAttr, hn, g9, c4n, q1, hnt]
 have hii : i = ls.length := by omega
 rw [hp, h0]
 refine ⟨ov, rfl, ?_⟩
 have h9 := hS6.pick (os' := [⟨ov, 1, _⟩]) [2] (by decide) rfl
 rw [hii, dM] at h9
 exact h9
def b9y (f : Nat → Int) (a : Int × Int) (i : Nat) : Int × Int := if i = 0 ∨ a.2 < f i then ((i : Int), f i) else a
def xB (f : Nat → Int) (n : Nat) : Int × Int := (List.range n).foldl (b9y f) (0, 0)
theorem a4g (f : Nat → Int) (n : Nat) : xB f (n + 1) = b9y f (xB f n) n := by
 unfold xB
 rw [dX, fh]
 rfl
def rD (o : Org) (rg : Reg) (ls : List Kv) : Int := if pD o rg ls ≠ 0 then pD o rg ls else if ls.length = 0 then 13 else 0
def oH (o : Org) (rg : Reg) (ls : List Kv) : Int × Int := if rD o rg ls = 0 then xB (fun i => oY o rg (iB ls i).l) ls.length else (0, 0)
theorem b8h (hG : Glob gH H) (o : Org) (ho : o.In H) (rg : Reg) (sv : Value) (hr : rg.In H sv) (lv : Value) (ls : List Kv) (hl : Sl 1 Kv.cells H lv ls) (hle : ls.length < 1000000000) (hk : ∀ k ∈ ls, k.In H) :
 Fn prog 13 [.agg #[.string o.name, o.rv, o.dv, o.cv], .agg #[sv, .int .u64 rg.cpl, .int .u64 rg.off], lv] H fun r H' => r = .tuple #[I (oH o rg ls).1, I (oH o rg ls).2, I (rD o rg ls)] ∧ St prog H H' [] := by
 refine .bd func13 rfl (by kernel_rfl) (m := 50) rfl fun l hn g0 g1 g2 => ?_
 simp (disch := omega) only [↓RA, RB, simprocAttr, g0]
 refine (sR H).eNew 4 [(.string o.name), o.rv, o.dv, o.cv] rfl rfl (by simp [OC, ((sR H).sl ho.1).cells.2.1, ((sR H).sl ho.2.2.1).cells.2.1, ((sR H).sl ho.2.2.2.2.1).cells.2.1]) lO fun A1 H1 hS1 => ?_
 simp only [RT] at hS1
 simp (disch := omega) only [↓RA, RB, simprocAttr, g1]
 refine hS1.eNew 3 [sv, (.int .u64 rg.cpl), (.int .u64 rg.off)] rfl rfl (by simp [OC, (hS1.sl hr.1).cells.2.1]) nJ fun A2 H2 hS2 => ?_
 simp only [RT] at hS2
 simp (disch := omega) only [↓RA, RZ, simprocAttr, hn, g2, hS2.ag 0 rfl, hS2.ag 1 rfl]
 refine hS2.cF (a5I o (ho.ab hS2) rg sv (hr.ab hS2) lv ls (hS2.sl hl) hle (fun k h => (hk k h).ab hS2)) fun H3 hS3 => ?_
 simp (disch := omega) only [↓RA, RB, simprocAttr, hn]
 refine iA (fun h1 => ?_) (fun h1 => ?_)
 ·have e : rD o rg ls = pD o rg ls := by unfold rD; rw [if_pos h1]
  simp (disch := omega) only [↓RA, RZ, simprocAttr, hn, c2L, h1]
  exact ⟨by rw [oH, e, if_neg h1], hS3.forget⟩
 simp (disch := omega) only [↓RA, RZ, simprocAttr, hn, g2, (hS3.sl hl).len, h1]
 refine iA (fun h2 => ?_) (fun h2 => ?_)
 ·have e : rD o rg ls = 13 := by unfold rD; rw [if_neg h1, if_pos (by omega)]
  simp (disch := omega) only [↓RA, RZ, simprocAttr, hn, c2L, h1, h2]
  exact ⟨by rw [oH, e, if_neg (by decide)], hS3.forget⟩
 have e : rD o rg ls = 0 := by unfold rD; rw [if_neg h1, if_neg (by omega)]
 simp (disch := omega) only [↓RA, RZ, simprocAttr, hn, g2, (hS3.sl hl).len, h1, h2]
 refine Wp.ak (fun n l H' => l.length = 50 ∧ get l 3 = (ptr A1 0 4) ∧ get l 4 = (ptr A2 0 3) ∧ get l 8 = I 0 ∧ get l 24 = lv ∧ get l 25 = I ls.length ∧ ∃ (i : Nat), (n + i = ls.length) ∧ get l 26 = I i ∧ get l 6 = I (xB (fun i => oY o rg (iB ls i).l) i).1 ∧ get l 7 = I (xB (fun i => oY o rg (iB ls i).l) i).2 ∧ St prog H H' [⟨ptr A1 0 4, 0, [(.string o.name), o.rv, o.dv, o.cv]⟩, ⟨ptr A2 0 3, 0, [sv, (.int .u64 rg.cpl), (.int .u64 rg.off)]⟩]) ls.length ?_ ?_
 ·simp (disch := omega) only [RB, RC, simprocAttr, hn]
  exact ⟨0, by omega, rfl, rfl, rfl, hS3⟩
 rintro n l H4 ⟨hn, g3, g4, g8, g24, g25, i, hi, g26, g6, g7, hS4⟩
 simp (disch := omega) only [↓RA, RB, simprocAttr, hn, g25, g26]
 refine iA (fun q1 => ?_) (fun q1 => ?_)
 ·simp (disch := omega) only [↓RA, RZ, simprocAttr, hn, g3, g4, g24, g26, (hS4.sl hl).idx, (hS4.sl hl).ld, Kv.cells, hS4.ag 0 rfl, hS4.ag 1 rfl, q1]
  refine hS4.cF (a9E (hS4.gl hG) o (ho.ab hS4) rg sv (hr.ab hS4) (iB ls i).v (iB ls i).l ((hk _ (iD (by omega))).ab hS4)) fun H5 hS5 => ?_
  have hsu := a4g (fun i => oY o rg (iB ls i).l) i
  unfold b9y at hsu
  dsimp only at hsu
  simp (disch := omega) only [↓RA, RZ, simprocAttr, hn, q1]
  refine iL (fun q2 => ?_) (fun q2 => ?_)
  ·simp (disch := omega) only [↓RA, RZ, simprocAttr, hn, g3, g4, g8, g24, g25, g26, q2]
   rw [if_pos (Or.inl (by omega))] at hsu
   have hi0 : i = 0 := by omega
   refine ⟨n - 1, by omega, i + 1, by omega, by rw [hi0]; rfl, by rw [hsu, hi0]; rfl, by rw [hsu], hS5.pick [0, 1] (by decide) rfl⟩
  simp (disch := omega) only [↓RA, RZ, simprocAttr, hn, g7, q1, q2]
  refine iA (fun q3 => ?_) (fun q3 => ?_)
  ·simp (disch := omega) only [↓RA, RZ, simprocAttr, hn, g3, g4, g8, g24, g25, g26, q1, q2, q3]
   rw [if_pos (Or.inr (by omega))] at hsu
   refine ⟨n - 1, by omega, i + 1, by omega, by simp, by rw [hsu], by rw [hsu], hS5.pick [0, 1] (by decide) rfl⟩
  simp (disch := omega) only [↓RA, RZ, simprocAttr, hn, g3, g4, g8, g24, g25, g26, g6, g7, q1, q2, q3]
  rw [if_neg (by omega)] at hsu
  refine ⟨n - 1, by omega, i + 1, by omega, by simp, by rw [hsu], by rw [hsu], hS5.pick [0, 1] (by decide) rfl⟩
 simp (disch := omega) only [↓RA, RZ, simprocAttr, hn, g6, g7, c2L, q1]
 have hii : i = ls.length := by omega
 rw [hii]
 exact ⟨by rw [oH, e, if_pos rfl], hS4.forget⟩
theorem a1r (a : Addr) (m c : Nat) : kW prog .eql 149 149 false true (.slice (some a) m c) (.slice none 0 0) = some (.bool false) := by kernel_rfl
theorem uX {v : Value} {a : Addr} {m c : Nat} (h : v = .slice (some a) m c) (K : Value → Prop) : kZ prog .eql 149 149 false true v (.slice none 0 0) K = oW (.bool false) K := by
 subst h
 show jW (kW prog .eql 149 149 false true (.slice (some a) m c) (.slice none 0 0)) K = _
 rw [a1r]
 rfl
theorem a0d : kW prog .eql 149 149 false true (.slice none 0 0) (.slice none 0 0) = some (.bool true) := by kernel_rfl
theorem pB (K : Value → Prop) : kZ prog .eql 149 149 false true (.slice none 0 0) (.slice none 0 0) K = oW (.bool true) K := by
 show jW (kW prog .eql 149 149 false true (.slice none 0 0) (.slice none 0 0)) K = _
 rw [a0d]
 rfl
theorem a9T (v : Value) (xs : List Ct) (hv : Sl 2 jL H v xs) (hl : xs.length < 100000000) : Fn prog 68 [v] H fun r H' => St prog H H' [⟨r, 2, xs.flatMap jL⟩] := by
 rcases hv.rd with ⟨rfl, h2⟩ | ⟨A, i, e, row, ty, rw', lo, ver, m, _, _, _, _, _, _, hvv⟩
 ·have hx : xs = [] := by
   have := congrArg List.length h2
   rw [show (xs.flatMap jL).length = xs.length * 2 from iO (n := 2) (cel := jL) (fun _ => rfl) xs, ef] at this
   exact fo.1 (by omega)
  subst hx
  refine .aU func68 rfl (by kernel_rfl) (m := 8) rfl fun l hn g0 => ?_
  have hbe := pB
  simp (disch := omega) only [↓RA, RB, simprocAttr, hn, g0, pB]
  have hS1 := (sR H).nil 1
  simp only [RT] at hS1
  simp (disch := omega) only [RB, simprocAttr, hn, c4H]
  exact hS1
 ·refine .aU func68 rfl (by kernel_rfl) (m := 8) rfl fun l hn g0 => ?_
  simp (disch := omega) only [↓RA, RB, simprocAttr, hn, g0, uX hvv]
  refine (sR H).bU mJ fun w1 H1 hS1 => ?_
  simp only [RT] at hS1
  simp (disch := omega) only [↓RA, RZ, simprocAttr, hn, g0]
  refine hS1.al 0 rfl (hS1.sl hv).rd mJ (by rw [show (xs.flatMap jL).length = xs.length * 2 from iO (n := 2) (cel := jL) (fun _ => rfl) xs]; simp; omega) fun w2 H2 hS2 => ?_
  simp only [RT] at hS2
  simp (disch := omega) only [↓RA, RB, simprocAttr, hn, c4H]
  exact hS2
end Go.Ds
namespace Go.Ds
open Go.Proofs
variable {H : Heap}
set_option maxRecDepth 10000
set_option maxHeartbeats 1000000
end Go.Ds
namespace Go.Ds
open Go.Proofs Go.Proofs.Tryz
variable {H : Heap}
set_option maxRecDepth 10000
set_option maxHeartbeats 1000000
def a5J (o : Org) (rg : Reg) (ks : List Nt) (c : Ct) : Int := if rkE o rg ks ≠ 0 then rkE o rg ks else vF o c
def adF (o : Org) (rg : Reg) (ks : List Nt) (c : Ct) : List Ct := if a5J o rg ks c = 0 then a2M (lK o rg (iF ks ++ [c])) (lK o rg (iF ks)) else []
theorem b4m (hG : Glob gH H) (o : Org) (ho : o.In H) (hdv : o.dvs.length ≤ 7) (rg : Reg) (sv : Value) (hr : rg.In H sv) (kv : Value) (ks : List Nt) (hk : Ks H kv ks) (c : Ct) :
 Fn prog 40 [.agg #[.string o.name, o.rv, o.dv, o.cv], .agg #[sv, .int .u64 rg.cpl, .int .u64 rg.off], kv, .agg #[I c.1, I c.2]] H fun r H' => ∃ v, r = .tuple #[v, I (a5J o rg ks c)] ∧ Slx 2 jL H' (fun B => H.length ≤ B) v (adF o rg ks c) ∧ St prog H H' [] := by
 have hnil : ∀ {H' : Heap}, Slx 2 jL H' (fun B => H.length ≤ B) (.slice none 0 0) ([] : List Ct) := fun {H'} => ⟨⟨.inl ⟨rfl, rfl⟩, jT, by decide⟩, fun b h => by simp [kI] at h⟩
 refine .cI func40 rfl (by kernel_rfl) (m := 42) rfl fun l hn g0 g1 g2 g3 => ?_
 simp (disch := omega) only [↓RA, RB, simprocAttr, g0]
 refine (sR H).eNew 4 [(.string o.name), o.rv, o.dv, o.cv] rfl rfl (by simp [OC, ((sR H).sl ho.1).cells.2.1, ((sR H).sl ho.2.2.1).cells.2.1, ((sR H).sl ho.2.2.2.2.1).cells.2.1]) lO fun A1 H1 hS1 => ?_
 simp only [RT] at hS1
 simp (disch := omega) only [↓RA, RB, simprocAttr, g1]
 refine hS1.eNew 3 [sv, (.int .u64 rg.cpl), (.int .u64 rg.off)] rfl rfl (by simp [OC, (hS1.sl hr.1).cells.2.1]) nJ fun A2 H2 hS2 => ?_
 simp only [RT] at hS2
 simp (disch := omega) only [↓RA, RB, simprocAttr, g3]
 refine hS2.eNew 2 [I c.1, I c.2] rfl rfl rfl lQ fun A3 H3 hS3 => ?_
 simp only [RT] at hS3
 simp (disch := omega) only [↓RA, RZ, simprocAttr, hn, hS3.ag 0 rfl, hS3.ag 1 rfl]
 refine hS3.ae [sv, (.int .u64 rg.cpl), (.int .u64 rg.off)] b5S b6A rfl rfl (by first | (simp []; done) | simp [Value.cells]) (by first | (simp []; done) | simp [Value.cells]) (by simp [OC, (hS3.sl hr.1).cells.2.1]) (by decide) (by decide) fun w1 H4 hS4 => ?_
 simp only [RT] at hS4
 simp (disch := omega) only [↓RA, RZ, simprocAttr, hn, g2]
 refine hS4.cF (b5c o (ho.ab hS4) w1 [(sv, rg)] (hS4.aw 3 rfl (fun _ => rfl)) (by simp) (by intro p hp; rw [dC.1 hp]; exact hr.ab hS4) kv ks (hk.ab hS4)) fun H5 hS5 => ?_
 have hsc := a7x o sv rg ks
 simp (disch := omega) only [↓RA, RB, simprocAttr, hn, hsc]
 refine iA (fun h1 => ?_) (fun h1 => ?_)
 ·have hd : a5J o rg ks c = rkE o rg ks := by rw [a5J, if_pos h1]
  simp (disch := omega) only [↓RA, RZ, simprocAttr, hn, c3g, hsc, h1]
  rw [hd, adF, if_neg (by rw [hd]; exact h1)]
  exact ⟨.slice none 0 0, rfl, hnil, hS5.forget⟩
 have hd : a5J o rg ks c = vF o c := by rw [a5J, if_neg h1]
 have h0 := dw.1 h1
 simp (disch := omega) only [↓RA, RZ, simprocAttr, hn, hS5.ag 0 rfl, hS5.ag 2 rfl, hsc, h1]
 refine hS5.cF (tB o (ho.ab hS5) c) fun H6 hS6 => ?_
 simp (disch := omega) only [↓RA, RZ, simprocAttr, hn, hsc, h1]
 refine iA (fun h2 => ?_) (fun h2 => ?_)
 ·simp (disch := omega) only [↓RA, RZ, simprocAttr, hn, c3g, hsc, h1, h2]
  rw [hd, adF, if_neg (by rw [hd]; exact h2)]
  exact ⟨.slice none 0 0, rfl, hnil, hS6.forget⟩
 have h3 := dw.1 h2
 have hc := (rC o c).1 h3
 obtain ⟨hz1, hz2⟩ := uK h0
 obtain ⟨hz3, hz4⟩ := mC hz1
 have hf := Org.aO hz3
 have hplc := pM hk.ok hz2
 have hkl := (nY hz2).2.1
 have hpl := a7V ks ks.length
 have hpl2 : (iF ks).length ≤ 896 := by unfold iF; omega
 have hpll := qO hz2
 have hplc2 : ∀ x ∈ iF ks ++ [c], mG o x = true := fun x hx => by
  rcases dG.1 hx with h | h
  ·exact hplc x h
  ·rw [dC.1 h]; exact hc
 have hpll2 : (iF ks ++ [c]).length ≤ 1024 := by rw [dj, gx]; omega
 rw [hd, h3, adF, if_pos (by rw [hd]; exact h3)]
 simp (disch := omega) only [↓RA, RZ, simprocAttr, hn, g2, hsc, h1]
 refine iG ((a3X (hS6.gl hG) kv ks (hk.ab hS6) (by omega)).tr) ?_
 rintro r H7 ⟨-, hT3⟩
 have hS7 := hS6.trans hT3
 simp only [RT] at hS7
 obtain ⟨pv, rfl⟩ : ∃ w, w = r := ⟨r, rfl⟩
 simp (disch := omega) only [↓RA, RZ, simprocAttr, hn, hsc, h1]
 refine Wp.aT jY [(0, 4), (0, 7), (1, 4), (1, 7), (4, 0), (8, 0), (8, 4), (8, 7), (9, 0), (9, 4), (9, 7)] (by kernel_rfl) (by kernel_rfl) ?_
 simp (disch := omega) only [↓RA, RZ, simprocAttr, hn, hS7.ag 0 rfl, hS7.ag 1 rfl]
 refine iG ((a9T pv (iF ks) (hS7.aw 4 rfl jT) (by omega)).tr) ?_
 rintro r H8 ⟨-, hT4⟩
 have hS8 := hS7.trans hT4
 simp only [RT] at hS8
 obtain ⟨qv, rfl⟩ : ∃ w, w = r := ⟨r, rfl⟩
 simp (disch := omega) only [↓RA, RZ, simprocAttr, hn, hS8.ag 2 rfl]
 refine hS8.ae [I c.1, I c.2] mJ uP rfl rfl (by simp [Value.cells]) rfl rfl (by decide) (by decide) fun w2 H9 hS9 => ?_
 simp only [RT] at hS9
 simp (disch := omega) only [↓RA, RZ, simprocAttr, hn]
 refine hS9.al 5 rfl (hS9.rd 6 rfl) mJ (by rw [show ((iF ks).flatMap jL).length = (iF ks).length * 2 from iI _]; simp only [dT, ef]; omega) fun w3 H10 hS10 => ?_
 simp only [RT] at hS10
 simp (disch := omega) only [↓RA, RZ, simprocAttr, hn]
 have happ : (iF ks).flatMap jL ++ [I c.1, I c.2] = pr (iF ks ++ [c]) := by rw [jI]; rfl
 rw [happ] at hS10
 have hS1 := hS10
 refine iG (uB o (ho.ab hS10) hf rg sv (hr.ab hS10) hz4 w3 (iF ks ++ [c]) (hS10.aw 5 rfl jT) hpll2 hplc2) ?_
 rintro r H11 ⟨hx, hT5⟩
 have hS11 := hS10.trans hT5
 simp only [RT] at hS11
 obtain ⟨av, rfl⟩ : ∃ w, w = r := ⟨r, rfl⟩
 have hx2 := hx.step (hS1.ba (H' := H11))
 obtain ⟨X, hBX, hS12⟩ := hS11.aB (os := [⟨ptr A1 0 4, 0, _⟩, ⟨ptr A2 0 3, 0, _⟩, ⟨ptr A3 0 2, 0, _⟩, ⟨w1, 3, _⟩, ⟨pv, 2, _⟩, ⟨w3, 2, _⟩, ⟨w2, 2, _⟩])
 simp (disch := omega) only [↓RA, RZ, simprocAttr, hn, hS12.ag 0 rfl, hS12.ag 1 rfl]
 have hS2 := hS12
 refine iG (uB o (ho.ab (hS11.aj hBX hS12)) hf rg sv (hr.ab (hS11.aj hBX hS12)) hz4 pv (iF ks) (hS12.aw 4 rfl jT) hpll hplc) ?_
 rintro r H12 ⟨hy, hT6⟩
 have hS13 := hS12.trans hT6
 simp only [RT] at hS13
 obtain ⟨bv, rfl⟩ : ∃ w, w = r := ⟨r, rfl⟩
 have hx3 := hx2.step (hS13.kept hBX)
 have hy2 := hy.step (hS2.ba (H' := H12))
 obtain ⟨Y, hBY, hS14⟩ := hS13.aB (os := [⟨ptr A1 0 4, 0, _⟩, ⟨ptr A2 0 3, 0, _⟩, ⟨ptr A3 0 2, 0, _⟩, ⟨w1, 3, _⟩, ⟨pv, 2, _⟩, ⟨w3, 2, _⟩, ⟨w2, 2, _⟩])
 have hla := rZ hf rg hpll2 (mT hplc2)
 have hlb := rZ hf rg hpll (mT hplc)
 have hsb := b3Y o rg (iF ks)
 have hx4 := hx3.step (hS14.kept hBY)
 have hy3 := hy2.step (hS14.kept hBY)
 simp (disch := omega) only [↓RA, RZ, simprocAttr, hn]
 refine iG ((a7M av bv (lK o rg (iF ks ++ [c])) (lK o rg (iF ks)) hx4.1 hy3.1 (by omega) (by omega) hsb).tr) ?_
 rintro r H13 ⟨-, hT7⟩
 have hS15 := hS14.trans hT7
 simp only [RT] at hS15
 obtain ⟨gv, rfl⟩ : ∃ w, w = r := ⟨r, rfl⟩
 have hnt1 := (hS15.aw (cel := jL) 7 rfl jT).br
 simp (disch := omega) only [↓RA, RZ, simprocAttr, hn, hS8.ag 0 rfl, hS10.ag 0 rfl, hS8.ag 1 rfl, hS10.ag 1 rfl, hS7.ag 2 rfl, hS7.ag 0 rfl, hS7.ag 1 rfl, c3g, hnt1]
 exact ⟨gv, rfl, (hS11.aj hBX (hS13.aj hBY hS15)).cq 7 rfl jT, (hS11.aj hBX (hS13.aj hBY hS15)).forget⟩
theorem b6h (o : Org) (rg : Reg) : pD o rg [] = mZ o rg := by
 unfold pD
 split
 ·rename_i h
  unfold mZ
  rw [if_pos h]
 ·split
  ·rfl
  ·rename_i h
   rw [if_neg (by simp), dw.1 h]
   exact kH _ _ fun j hj => absurd hj (dO _)
theorem c2c {H : Heap} : Sl 1 Kv.cells H (.slice none 0 0) [] := ⟨.inl ⟨rfl, rfl⟩, fun _ => rfl, by decide⟩
theorem b5X (o : Org) (ho : o.In H) (rg : Reg) (sv : Value) (hr : rg.In H sv) :
 Fn prog 33 [.agg #[.string o.name, o.rv, o.dv, o.cv], .agg #[sv, .int .u64 rg.cpl, .int .u64 rg.off], .slice none 0 0] H fun r H' => r = I (mZ o rg) ∧ St prog H H' [] := by
 have h := a5I o ho rg sv hr (.slice none 0 0) [] c2c (by simp) (by simp)
 rw [b6h] at h
 exact h
def c3u (o : Org) (rg : Reg) (ks : List Nt) (c : Ct) : Int := sF o (adF o rg ks c)
theorem b8u {o : Org} {rg : Reg} {ks : List Nt} {c : Ct} : ∀ p ∈ adF o rg ks c, IsP o p := by
 intro p hp
 unfold adF at hp
 split at hp
 ·exact sT (eu.1 hp).1
 ·exact absurd hp dU
theorem c2k {o : Org} (hdv : o.dvs.length ≤ 7) {rg : Reg} {ks : List Nt} {c : Ct} (hok : ∀ x ∈ ks, Nt.Ok x) : (adF o rg ks c).length ≤ 1000000 := by
 unfold adF
 split
 ·rename_i h
  refine dA (a6k _ _) ?_
  have h1 : rkE o rg ks = 0 := by
   unfold a5J at h
   split at h
   ·rename_i h2; exact absurd h h2
   ·rename_i h2; exact dw.1 h2
  have h2 : vF o c = 0 := by
   unfold a5J at h
   rw [if_neg (by rw [h1]; simp)] at h
   exact h
  obtain ⟨z1, z2⟩ := uK h1
  have hf := Org.aO (mC z1).1
  have hcc := (rC o c).1 h2
  have hwl : (iF ks ++ [c]).length ≤ 1024 := by
   have hkl := (nY z2).2.1
   have hd := hf.dlen
   have hpl := a7V ks ks.length
   rw [dj, gx]
   unfold iF
   omega
  exact rZ hf rg hwl (mT fun x hx => by
   rcases dG.1 hx with h | h
   ·exact pM hok z2 x h
   ·rw [dC.1 h]; exact hcc)
 ·simp
theorem c0O (hG : Glob gH H) (o : Org) (ho : o.In H) (hdv : o.dvs.length ≤ 7) (rg : Reg) (sv : Value) (hr : rg.In H sv) (kv : Value) (ks : List Nt) (hk : Ks H kv ks) (c : Ct) :
 Fn prog 21 [.agg #[.string o.name, o.rv, o.dv, o.cv], .agg #[sv, .int .u64 rg.cpl, .int .u64 rg.off], kv, .agg #[I c.1, I c.2]] H fun r H' => r = .tuple #[I (c3u o rg ks c), I (a5J o rg ks c)] ∧ St prog H H' [] := by
 have hle := c2k hdv (rg := rg) (c := c) hk.ok
 refine .cI func21 rfl (by kernel_rfl) (m := 26) rfl fun l hn g0 g1 g2 g3 => ?_
 simp (disch := omega) only [↓RA, RB, simprocAttr, g0]
 refine (sR H).eNew 4 [(.string o.name), o.rv, o.dv, o.cv] rfl rfl (by simp [OC, ((sR H).sl ho.1).cells.2.1, ((sR H).sl ho.2.2.1).cells.2.1, ((sR H).sl ho.2.2.2.2.1).cells.2.1]) lO fun A1 H1 hS1 => ?_
 simp only [RT] at hS1
 simp (disch := omega) only [↓RA, RB, simprocAttr, g1]
 refine hS1.eNew 3 [sv, (.int .u64 rg.cpl), (.int .u64 rg.off)] rfl rfl (by simp [OC, (hS1.sl hr.1).cells.2.1]) nJ fun A2 H2 hS2 => ?_
 simp only [RT] at hS2
 simp (disch := omega) only [↓RA, RB, simprocAttr, g3]
 refine hS2.eNew 2 [I c.1, I c.2] rfl rfl rfl lQ fun A3 H3 hS3 => ?_
 simp only [RT] at hS3
 simp (disch := omega) only [↓RA, RZ, simprocAttr, hn, g2, hS3.ag 0 rfl, hS3.ag 1 rfl, hS3.ag 2 rfl]
 refine iG (b4m (hS3.gl hG) o (ho.ab hS3) hdv rg sv (hr.ab hS3) kv ks (hk.ab hS3) c) ?_
 rintro r H4 ⟨av, rfl, hx, hT1⟩
 have hS4 := hS3.trans hT1
 simp only [RT] at hS4
 simp (disch := omega) only [↓RA, RB, simprocAttr, hn]
 refine iA (fun h1 => ?_) (fun h1 => ?_)
 ·have hs : c3u o rg ks c = 0 := by unfold c3u adF; rw [if_neg h1]; rfl
  simp (disch := omega) only [↓RA, RZ, simprocAttr, hn, c6b, h1]
  exact ⟨by rw [hs], hS4.forget⟩
 have h0 := dw.1 h1
 simp (disch := omega) only [↓RA, RZ, simprocAttr, hn, hS4.ag 0 rfl, h1]
 refine hS4.cF (a2T o (ho.ab hS4) av (adF o rg ks c) hx.1 (by omega) b8u) fun H5 hS5 => ?_
 simp (disch := omega) only [↓RA, RZ, simprocAttr, hn, c6b, h1]
 rw [h0]
 exact ⟨rfl, hS5.forget⟩
def grR (o : Org) (rg : Reg) : Ct × Int := if mZ o rg = 0 then grF (uA o rg) (c0J o) (((0 : Int), (iB o.dvs 0).lo), 0) else ((0, 0), 0)
theorem c5O (l : List Value) (H : Heap) : iC prog Tryz.f23 l H = (pT (jQ prog 61) (iE prog 61) H (get l 4)).bind fun v => if (jC v && (jC (get l 5) && (jC (get l 6) && true))) = true then some (.tuple #[v, get l 5, get l 6]) else none := by
 show (Option.bind (Option.bind (lN prog H 61 (get l 4)) fun v => some [v, get l 5, get l 6]) fun vs => _) = _
 rw [lE]
 cases pT _ _ H (get l 4) <;> rfl
theorem a6z (o : Org) (ho : o.In H) (rg : Reg) (sv : Value) (hr : rg.In H sv) :
 Fn prog 23 [.agg #[.string o.name, o.rv, o.dv, o.cv], .agg #[sv, .int .u64 rg.cpl, .int .u64 rg.off]] H fun r H' => r = .tuple #[.agg #[I (grR o rg).1.1, I (grR o rg).1.2], I (grR o rg).2, I (mZ o rg)] ∧ St prog H H' [] := by
 refine .aG func23 rfl (by kernel_rfl) (m := 64) rfl fun l hn g0 g1 => ?_
 simp (disch := omega) only [↓RA, RB, simprocAttr, g0]
 refine (sR H).eNew 4 [(.string o.name), o.rv, o.dv, o.cv] rfl rfl (by simp [OC, ((sR H).sl ho.1).cells.2.1, ((sR H).sl ho.2.2.1).cells.2.1, ((sR H).sl ho.2.2.2.2.1).cells.2.1]) lO fun A1 H1 hS1 => ?_
 simp only [RT] at hS1
 simp (disch := omega) only [↓RA, RB, simprocAttr, g1]
 refine hS1.eNew 3 [sv, (.int .u64 rg.cpl), (.int .u64 rg.off)] rfl rfl (by simp [OC, (hS1.sl hr.1).cells.2.1]) nJ fun A2 H2 hS2 => ?_
 simp only [RT] at hS2
 simp (disch := omega) only [↓RA, RZ, simprocAttr]
 refine hS2.eNew 2 [I 0, I 0] rfl rfl rfl lQ fun A3 H3 hS3 => ?_
 simp only [RT] at hS3
 simp (disch := omega) only [↓RA, RZ, simprocAttr, hn, hS3.ag 0 rfl, hS3.ag 1 rfl]
 refine hS3.cF (b5X o (ho.ab hS3) rg sv (hr.ab hS3)) fun H4 hS4 => ?_
 simp (disch := omega) only [↓RA, RB, simprocAttr, hn]
 refine iA (fun h1 => ?_) (fun h1 => ?_)
 ·have e : grR o rg = ((0, 0), 0) := by unfold grR; rw [if_neg h1]
  simp (disch := omega) only [↓RA, RZ, simprocAttr, hn, c5U, h1]
  refine hS4.aa 2 rfl [I 0, I 0] rfl rfl lQ (by simp) fun H5 hS5 => ?_
  simp only [RT] at hS5
  simp (disch := omega) only [↓RA, RZ, simprocAttr, hn, c5O, hS5.ag 2 rfl, h1]
  exact ⟨by rw [e], hS5.forget⟩
 have h0 := dw.1 h1
 have hf := Org.aO (mC h0).1
 have hd := hf.dpos
 have hdl := hf.dlen
 have e : grR o rg = grF (uA o rg) (c0J o) (((0 : Int), (iB o.dvs 0).lo), 0) := by unfold grR; rw [if_pos h0]
 simp (disch := omega) only [↓RA, RZ, simprocAttr, hn, hS4.ld 0 rfl, (hS4.sl ho.2.2.1).idx, (hS4.sl ho.2.2.1).aY, (hS4.sl ho.2.2.1).ld, Dvn.cells, h1]
 refine hS4.aa 2 rfl [I (iB o.dvs 0).lo] rfl rfl tS3 (by simp) fun H6 hS6 => ?_
 simp only [RT] at hS6
 simp (disch := omega) only [↓RA, RZ, simprocAttr, hn, hS6.ld 0 rfl, (hS6.sl ho.2.2.1).len, h1]
 refine Wp.ak (fun n l H' => l.length = 64 ∧ get l 2 = (ptr A1 0 4) ∧ get l 3 = (ptr A2 0 3) ∧ get l 4 = (ptr A3 0 2) ∧ get l 6 = I 0 ∧ get l 29 = o.dv ∧ get l 30 = I o.dvs.length ∧ ∃ (i : Nat), (n + i = o.dvs.length) ∧ get l 31 = I i ∧ get l 5 = I (grF (uA o rg) ((List.range i).flatMap (zO o)) (((0 : Int), (iB o.dvs 0).lo), 0)).2 ∧ St prog H H' [⟨ptr A1 0 4, 0, [(.string o.name), o.rv, o.dv, o.cv]⟩, ⟨ptr A2 0 3, 0, [sv, (.int .u64 rg.cpl), (.int .u64 rg.off)]⟩, ⟨ptr A3 0 2, 0, [I (grF (uA o rg) ((List.range i).flatMap (zO o)) (((0 : Int), (iB o.dvs 0).lo), 0)).1.1, I (grF (uA o rg) ((List.range i).flatMap (zO o)) (((0 : Int), (iB o.dvs 0).lo), 0)).1.2]⟩]) o.dvs.length ?_ ?_
 ·simp (disch := omega) only [RB, RC, simprocAttr, hn]
  exact ⟨0, by omega, rfl, rfl, hS6⟩
 rintro n l H7 ⟨hn, g2, g3, g4, g6, g29, g30, i, hi, g31, g5, hS7⟩
 simp (disch := omega) only [↓RA, RB, simprocAttr, hn, g30, g31]
 refine iA (fun q1 => ?_) (fun q1 => ?_)
 ·have hki := hf.keys i (by omega)
  have hcn : (b2H o i : Int) = (iB o.dvs i).hi - (iB o.dvs i).lo + 1 := by unfold b2H; omega
  have hpre : a1m o i 0 = (List.range i).flatMap (zO o) := by unfold a1m; simp
  simp (disch := omega) only [↓RA, RZ, simprocAttr, hn, g29, g31, (hS7.sl ho.2.2.1).idx, (hS7.sl ho.2.2.1).ag, Dvn.cells, q1]
  refine hS7.eNew 5 [(.string ⟨#[]⟩), (.bool false), I 0, I 0, (.slice none 0 0)] rfl rfl rfl yQ fun A4 H8 hS8 => ?_
  simp only [RT] at hS8
  simp (disch := omega) only [↓RA, RZ, simprocAttr, hn, q1]
  refine hS8.aa 3 rfl [(.string (iB o.dvs i).name), (.bool (iB o.dvs i).pedal), I (iB o.dvs i).lo, I (iB o.dvs i).hi, (iB o.dvs i).sv] rfl (by simp [OC, (hS8.sl (ho.2.2.2.1 (iB o.dvs i) (iD (by omega))).1).cells.2.1]) yQ (by simp) fun H9 hS9 => ?_
  simp only [RT] at hS9
  simp (disch := omega) only [↓RA, RZ, simprocAttr, hn, hS9.ld 3 rfl, q1]
  refine Wp.ak (fun n l H' => l.length = 64 ∧ get l 2 = (ptr A1 0 4) ∧ get l 3 = (ptr A2 0 3) ∧ get l 4 = (ptr A3 0 2) ∧ get l 6 = I 0 ∧ get l 8 = I i ∧ get l 9 = (ptr A4 0 5) ∧ get l 29 = o.dv ∧ get l 30 = I o.dvs.length ∧ get l 31 = I i ∧ ∃ (k : Nat), (n + k = b2H o i) ∧ get l 10 = I ((iB o.dvs i).lo + k) ∧ get l 5 = I (grF (uA o rg) (a1m o i k) (((0 : Int), (iB o.dvs 0).lo), 0)).2 ∧ St prog H H' [⟨ptr A1 0 4, 0, [(.string o.name), o.rv, o.dv, o.cv]⟩, ⟨ptr A2 0 3, 0, [sv, (.int .u64 rg.cpl), (.int .u64 rg.off)]⟩, ⟨ptr A3 0 2, 0, [I (grF (uA o rg) (a1m o i k) (((0 : Int), (iB o.dvs 0).lo), 0)).1.1, I (grF (uA o rg) (a1m o i k) (((0 : Int), (iB o.dvs 0).lo), 0)).1.2]⟩, ⟨ptr A4 0 5, 0, [(.string (iB o.dvs i).name), (.bool (iB o.dvs i).pedal), I (iB o.dvs i).lo, I (iB o.dvs i).hi, (iB o.dvs i).sv]⟩]) (b2H o i) ?_ ?_
  ·simp (disch := omega) only [RB, RC, simprocAttr, hn, g2, g3, g4, g6, g29, g30, g31, g5]
   refine ⟨0, by omega, by simp, ?_⟩
   rw [hpre]
   exact ⟨rfl, hS9⟩
  rintro n l H10 ⟨hn, g2, g3, g4, g6, g8, g9, g29, g30, g31, k, hk, oZ, g5, hS10⟩
  simp (disch := omega) only [↓RA, RZ, simprocAttr, hn, g9, oZ, hS10.ld 3 rfl]
  refine iA (fun q2 => ?_) (fun q2 => ?_)
  ·have hsu : grF (uA o rg) (a1m o i (k + 1)) (((0 : Int), (iB o.dvs 0).lo), 0) = grS (uA o rg) (grF (uA o rg) (a1m o i k) (((0 : Int), (iB o.dvs 0).lo), 0)) (kAt o i k) := by rw [b3x, b8e]
   unfold grS at hsu
   simp (disch := omega) only [↓RA, RZ, simprocAttr, hn, g8, oZ, qX, q2]
   refine hS10.eNew 2 [I 0, I 0] rfl rfl rfl lQ fun A5 H11 hS11 => ?_
   simp only [RT] at hS11
   simp (disch := omega) only [↓RA, RZ, simprocAttr, hn, q2]
   refine hS11.aa 4 rfl [I i, I ((iB o.dvs i).lo + k)] rfl rfl lQ (by simp) fun H12 hS12 => ?_
   simp only [RT] at hS12
   simp (disch := omega) only [↓RA, RZ, simprocAttr, hn, g2, g3, hS12.ag 0 rfl, hS12.ag 1 rfl, hS12.ag 4 rfl, q2]
   refine hS12.cF (b8x o (ho.ab hS12) rg sv (hr.ab hS12) (kAt o i k)) fun H13 hS13 => ?_
   simp (disch := omega) only [↓RA, RZ, simprocAttr, hn, g5, q2]
   refine iA (fun q3 => ?_) (fun q3 => ?_)
   ·simp (disch := omega) only [↓RA, RZ, simprocAttr, hn, g4, hS13.ag 4 rfl, q2, q3]
    refine hS13.aa 2 rfl [I i, I ((iB o.dvs i).lo + k)] rfl rfl lQ (by simp) fun H14 hS14 => ?_
    simp only [RT] at hS14
    simp (disch := omega) only [↓RA, RZ, simprocAttr, hn, g2, g3, g4, g6, g8, g9, g29, g30, g31, oZ, q2, q3]
    rw [if_pos q3] at hsu
    refine ⟨n - 1, by omega, k + 1, by omega, by congr 1; omega, by rw [hsu], ?_⟩
    rw [hsu]
    exact hS14.pick [0, 1, 2, 3] (by decide) rfl
   simp (disch := omega) only [↓RA, RZ, simprocAttr, hn, g2, g3, g4, g6, g8, g9, g29, g30, g31, oZ, g5, q2, q3]
   rw [if_neg q3] at hsu
   refine ⟨n - 1, by omega, k + 1, by omega, by congr 1; omega, by rw [hsu], ?_⟩
   rw [hsu]
   exact hS13.pick [0, 1, 2, 3] (by decide) rfl
  simp (disch := omega) only [↓RA, RZ, simprocAttr, hn, g2, g3, g4, g6, g29, g30, g31, g5, q2]
  have hkk : k = b2H o i := by omega
  rw [hkk, a3N] at hS10
  refine ⟨o.dvs.length - (i + 1), by omega, i + 1, by omega, by simp, ?_, ?_⟩
  ·rw [hkk, a3N]
  ·exact hS10.pick [0, 1, 2] (by decide) rfl
 simp (disch := omega) only [↓RA, RZ, simprocAttr, hn, g4, g5, hS7.ag 2 rfl, q1]
 refine hS7.aa 2 rfl [I (grF (uA o rg) ((List.range i).flatMap (zO o)) (((0 : Int), (iB o.dvs 0).lo), 0)).1.1, I (grF (uA o rg) ((List.range i).flatMap (zO o)) (((0 : Int), (iB o.dvs 0).lo), 0)).1.2] rfl rfl lQ (by simp) fun H15 hS15 => ?_
 simp only [RT] at hS15
 simp (disch := omega) only [↓RA, RZ, simprocAttr, hn, g4, c5O, hS15.ag 2 rfl, q1]
 have hii : i = o.dvs.length := by omega
 rw [h0]
 refine ⟨?_, hS15.forget⟩
 rw [hii, e]
 rfl
end Go.Ds
namespace Go.Ds
open Go.Proofs Go.Proofs.Tryz
variable {H : Heap}
set_option maxRecDepth 100000
set_option maxHeartbeats 1000000
def a4t (r : Rs) (n : Int) : Bool := match r with
 | .ok (.tuple vs) _ => (match vs.toList with
   | [.int .u64 a, .int .u64 b] => decide (a = 0) && decide (b = n)
   | _ => false)
 | .th (.tuple vs) _ => (match vs.toList with
   | [.int .u64 a, .int .u64 b] => decide (a = 0) && decide (b = n)
   | _ => false)
 | _ => false
theorem c1k : (sM prog [32, 54, 55] .e fun T => [(25 : Int)].all fun n => a4t (mB T (zX prog T 4000) [] (kO 32) [.int .u64 1, .int .u64 n] gH) n) = true := by kernel_rfl
theorem a7s {T : LT} (hT : TOk prog T) {k : FuncId} {args : List Value} {n : Int} (h : a4t (mB T (zX prog T 4000) [] (kO k) args gH) n = true) : Fn prog k args gH fun r _ => r = .tuple #[.int .u64 0, .int .u64 n] := by
 have hv : ∀ (vs : Array Value), (match vs.toList with
  | [.int .u64 a, .int .u64 b] => decide (a = 0) && decide (b = n)
  | _ => false) = true → Value.tuple vs = .tuple #[.int .u64 0, .int .u64 n] := by
  intro vs h
  split at h
  ·rename_i a b e
   rw [cV, decide_eq_true_eq, decide_eq_true_eq] at h
   obtain ⟨rfl, rfl⟩ := h
   congr 1
   exact gQ e
  ·cases h
 unfold a4t at h
 split at h
 ·rename_i vs H1 e
  rw [← hv vs h]
  exact mA hT (.inl e)
 ·rename_i vs H1 e
  rw [← hv vs h]
  exact mA hT (.inr e)
 ·cases h
theorem b4J (hG : Glob gH H) : Fn prog 32 [.int .u64 1, .int .u64 25] H fun r H' => r = .tuple #[.int .u64 0, .int .u64 25] ∧ St prog H H' [] := by
 obtain ⟨T, hT, h⟩ := pO (ps := [(25 : Int)]) (f := fun T n => a4t (mB T (zX prog T 4000) [] (kO 32) [.int .u64 1, .int .u64 n] gH) n) c1k
 exact qT (by simp [flat, jB, iX]) rfl (a7s hT (h 25 (by simp))) hG
theorem mN (c z : Value) : ∀ (m x n : Nat), x + m ≤ n → iZ (List.replicate x c ++ List.replicate (n - x) z) x (List.replicate m c) = List.replicate (x + m) c ++ List.replicate (n - (x + m)) z := by
 intro m x n h
 have e : List.replicate (n - x) z = List.replicate m z ++ List.replicate (n - (x + m)) z := by
  rw [List.replicate_append_replicate]; congr 1; omega
 have := nC (List.replicate m c) (List.replicate x c) (List.replicate (n - x) z) (by simp; omega)
 rw [eK] at this
 rw [this, List.replicate_append_replicate]
 congr 1
 simp
 omega
theorem b0K {H : Heap} {v : Value} {cs : List Value} (h : RdAt H v 1 cs) (h0 : cs ≠ []) : mR v 1 0 cs.length = v := by
 rcases h with ⟨rfl, rfl⟩ | ⟨A, i, e, row, ty, rw, lo', ver, n, h1, h2, h3, h4, h5, h6, rfl⟩
 ·exact (h0 rfl).elim
 ·simp [mR, h6]
theorem St.bP {P : Program} {H0 : Base} {os : List Ob} (hS : St P H0 H os) (i : Nat) {v : Value} {cs : List Value} (ho : os[i]? = some ⟨v, 1, cs⟩) {x : Value} {ys : List Value} (hx : RdAt H x 1 ys) (h0 : 0 < cs.length) (hy : 0 < ys.length) {t : TypeId} (ht : iR P t = some 1) {K : Value → Heap → Prop}
 (h : ∀ H1, St P H0 H1 (os.set i ⟨v, 1, iZ cs 0 (ys.take (min ys.length cs.length))⟩) → K (.int .i64 ((min ys.length cs.length : Nat) : Int)) H1) : a3S P H t v x K := by
 have e := b0K (hS.rd (size := 0) i ho) (by intro e; simp [e] at h0)
 have := hS.bC i ho hx 0 cs.length (by omega) h0 hy ht h
 rwa [e] at this
theorem a3a (hG : Glob gH H) {c : Int} (v : Value) (hv : Sl 1 (one I) H v [c]) : Fn prog 28 [v, I 25] H fun r H' => St prog H H' [⟨r, 1, List.replicate 25 (I c)⟩] := by
 have h1 : (([c] : List Int).length : Int) = 1 := rfl
 refine .aG func28 rfl (by kernel_rfl) (m := 48) rfl fun l hn g0 g1 => ?_
 simp (disch := omega) only [↓RA, RZ, simprocAttr, hn, g0, g1, ((sR H).sl hv).len]
 refine (sR H).cF (b4J ((sR H).gl hG)) fun H1 hS1 => ?_
 simp (disch := omega) only [↓RA, RZ, simprocAttr, hn]
 refine hS1.bB 25 c5w (by omega) fun w H2 hS2 => ?_
 simp only [RT] at hS2
 simp (disch := omega) only [↓RA, RB, simprocAttr, hn, g0]
 refine hS2.bP 0 rfl (hS2.sl hv).rd (by simp) (by simp [one]) c2Z fun H3 hS3 => ?_
 have e1 : min ([c].flatMap (one I)).length (List.replicate 25 (Value.int .i64 0)).length = 1 := by simp [one]
 rw [e1] at hS3 ⊢
 have e2 := mN (I c) (.int .i64 0) 1 0 25 (by omega)
 simp only [List.replicate_zero, eZ, Nat.sub_zero, fM] at e2
 have hS4 : St prog H H3 [⟨w, 1, List.replicate 1 (I c) ++ List.replicate (25 - 1) (.int .i64 0)⟩] := by
  rw [← e2]
  exact hS3
 simp (disch := omega) only [↓RA, RB, simprocAttr, hn]
 have e3 : ∀ x : Nat, List.replicate x (I c) ++ List.replicate (25 - x) (.int .i64 0) = (List.replicate x (c : Int) ++ List.replicate (25 - x) 0).flatMap (one I) := fun x => by
  rw [nO, dL, fO, fO]
 refine Wp.ak (fun n l H' => l.length = 48 ∧ get l 4 = (.slice none 0 0) ∧ ∃ (x : Nat), (n + x = 25 ∧ 1 ≤ x) ∧ get l 8 = I x ∧ get l 7 = w ∧ St prog H H' [⟨w, 1, (List.replicate x (c : Int) ++ List.replicate (25 - x) 0).flatMap (one I)⟩]) 24 ?_ ?_
 ·simp (disch := omega) only [RB, RC, simprocAttr, hn]
  rw [e3] at hS4
  exact ⟨1, ⟨by omega, by omega⟩, rfl, hS4⟩
 rintro n l H2 ⟨hn, g4, x, ⟨hx,hx1⟩, g8, g7, hS2⟩
 have hln : (List.replicate x (c : Int) ++ List.replicate (25 - x) 0).length = 25 := by simp; omega
 simp (disch := omega) only [↓RA, RZ, simprocAttr, hn, g8, g7, (hS2.aw 0 rfl (fun _ => rfl)).len, hln]
 refine iA (fun q1 => ?_) (fun q1 => ?_)
 ·simp (disch := omega) only [↓RA, RC, simprocAttr, q1]
  refine Wp.drw jY (by kernel_rfl) ?_
  simp (disch := omega) only [↓RA, RZ, simprocAttr, hn, g8, g7, (hS2.aw 0 rfl (fun _ => rfl)).aP, (hS2.aw 0 rfl (fun _ => rfl)).aN, hln]
  have hxt : ((25 : Int) - (x : Int)).toNat = 25 - x := by omega
  rw [hxt]
  have hlc : ((List.replicate x (c : Int) ++ List.replicate (25 - x) 0).flatMap (one I)).length = 25 := by rw [nO, dK, hln]
  have hrd := hS2.rd 0 rfl
  have hsub := hrd.sub 0 x (by rw [hlc]; omega) (by intro e; rw [e] at hlc; simp at hlc)
  have e5 : (((List.replicate x (c : Int) ++ List.replicate (25 - x) 0).flatMap (one I)).drop (0 * (0 + 1))).take (x * (0 + 1)) = List.replicate x (I c) := by
   rw [← e3]
   simp []
  rw [e5] at hsub
  refine hS2.bC 0 rfl hsub x (25 - x) (by rw [hlc]; omega) (by omega) (by simp; omega) c2Z fun H4 hS5 => ?_
  have e6 : (List.replicate x (I c)).take (min (List.replicate x (I c)).length (25 - x)) = List.replicate (min x (25 - x)) (I c) := by simp
  rw [e6] at hS5
  have e7 : min (List.replicate x (I c)).length (25 - x) = min x (25 - x) := by simp
  rw [e7]
  have e8 := mN (I c) (.int .i64 0) (min x (25 - x)) x 25 (by omega)
  have hS6 : St prog H H4 [⟨w, 1, (List.replicate (x + min x (25 - x)) (c : Int) ++ List.replicate (25 - (x + min x (25 - x))) 0).flatMap (one I)⟩] := by
   rw [← e3, ← e8, e3]
   exact hS5
  simp (disch := omega) only [↓RA, RZ, simprocAttr, hn, g4, g7]
  exact ⟨25 - (x + min x (25 - x)), by omega, x + min x (25 - x), ⟨by omega, by omega⟩, by simp, hS6⟩
 simp (disch := omega) only [↓RA, RZ, simprocAttr, hn, g7, c7f, q1]
 have e : x = 25 := by omega
 subst e
 have hfin : ((List.replicate 25 (c : Int) ++ List.replicate (25 - 25) 0).flatMap (one I)) = List.replicate 25 (I c) := by rw [← e3]; rfl
 have h9 := hS2
 rw [hfin] at h9
 exact h9
end Go.Ds
namespace Go.Ds
open Go.Proofs
variable {H : Heap}
set_option maxRecDepth 10000
set_option maxHeartbeats 1000000
section
variable (w1 w2 w3 w4 w5 w6 w7 : Value)
def a8P (x : Int × Int) : List (Int × Int) → List (Int × Int)
 | [] => [x]
 | y :: l => if le2 x y then x :: y :: l else y :: a8P x l
def a3C : List (Int × Int) → List (Int × Int)
 | [] => []
 | x :: l => a8P x (a3C l)
theorem a0k (x : Int × Int) : ∀ l, (a8P x l).Perm (x :: l)
 | [] => .refl _
 | y :: l => by
   unfold a8P
   split
   ·exact .refl _
   ·exact ((a0k x l).cons y).trans (.swap ..)
theorem a4s : ∀ l, (a3C l).Perm l
 | [] => .refl _
 | x :: l => (a0k x _).trans ((a4s l).cons x)
theorem b2f (x y : Int × Int) : le2 x y = false → le2 y x = true := by
 intro h
 rw [← eI] at h
 rw [nT] at h ⊢
 omega
theorem a0X (x : Int × Int) : ∀ l : List (Int × Int), l.Pairwise (fun a b => le2 a b = true) → (a8P x l).Pairwise fun a b => le2 a b = true
 | [], _ => by simp [a8P]
 | y :: l, h => by
   have h1 := gS.1 h
   unfold a8P
   split
   ·rename_i hxy
    refine gS.2 ⟨fun z hz => ?_, h⟩
    rcases dS.1 hz with rfl | hz
    ·exact hxy
    ·have h2 := h1.1 z hz
     rw [nT] at *
     omega
   ·rename_i hxy
    refine gS.2 ⟨fun z hz => ?_, a0X x l h1.2⟩
    rcases dS.1 ((a0k x l).mem_iff.1 hz) with rfl | hz
    ·exact b2f _ _ (by simpa using hxy)
    ·exact h1.1 z hz
theorem a0W : ∀ l : List (Int × Int), (a3C l).Pairwise fun a b => le2 a b = true
 | [] => .nil
 | x :: l => a0X x _ (a0W l)
theorem c1K : pA = a3C := by
 funext l
 refine List.Perm.eq_of_pairwise (le := fun a b => le2 a b = true) (fun a b _ _ h1 h2 => ?_) (tC l) (a0W l) ((mV l).trans (a4s l).symm)
 rw [nT] at h1 h2
 exact gp (by omega) (by omega)
def b7r (s : List Ct → List Ct) (o : Org) (r : Reg) (l : List Ct) : List Ct := dd (s (l.filter (fun c => !r.off.testBit c.1.toNat) ++ bfs o r.cpl 1100 0 (kK o r.cpl l)))
def c2b (s : List Ct → List Ct) (rs : List Rk) (p : Stp) (key : Int) : List Ct := dd (s (((a5N p key).filter fun d => qY rs d key).map fun d => mL rs d key))
def b6I (s : List Ct → List Ct) (o : Org) (r : Reg) (c : Ct) : List Ct := (List.range (iB o.dvs c.1.toNat).stops.length).flatMap fun i => if (iB r.stops c.1.toNat).testBit i then c2b s o.ranks (iB (iB o.dvs c.1.toNat).stops i) c.2 else []
end
end Go.Ds
namespace Go.Ds
open Go.Proofs Go.Proofs.Tryz
variable {H : Heap}
set_option maxRecDepth 10000
set_option maxHeartbeats 1000000
theorem a4l (hG : Glob gH H) (s : ByteArray) : Fn prog 48 [.string s] H fun r H' => ∃ wv, r = .agg #[.string s, .string ⟨#[102, 108, 117, 116, 101]⟩, I 8, I 1, I 36, wv] ∧ St prog H H' [⟨wv, 1, List.replicate 25 (I 1)⟩] := by
 refine .aU func48 rfl (by kernel_rfl) (m := 8) rfl fun l hn g0 => ?_
 simp (disch := omega) only [↓RA, RZ, simprocAttr]
 refine (sR H).eNew 6 [(.string ⟨#[]⟩), (.string ⟨#[]⟩), I 0, I 0, I 0, (.slice none 0 0)] rfl rfl rfl a1p fun A1 H1 hS1 => ?_
 simp only [RT] at hS1
 simp (disch := omega) only [↓RA, RB, simprocAttr, g0, yA]
 refine hS1.ae [I 1] rI xG rfl rfl (by simp [Value.cells]) rfl rfl (by decide) (by decide) fun w1 H2 hS2 => ?_
 simp only [RT] at hS2
 simp (disch := omega) only [↓RA, RZ, simprocAttr, hn]
 refine iG ((a3a (hS2.gl hG) w1 (hS2.aw 1 rfl (fun _ => rfl))).tr) ?_
 rintro r H3 ⟨-, hT1⟩
 have hS3 := hS2.trans hT1
 simp only [RT] at hS3
 obtain ⟨wv, rfl⟩ : ∃ w, w = r := ⟨r, rfl⟩
 simp (disch := omega) only [↓RA, RB, simprocAttr, hn, a2J (hS3.rd 2 rfl).cells]
 refine hS3.aa 0 rfl [(.string s), (.string ⟨#[102, 108, 117, 116, 101]⟩), I 8, I 1, I 36, wv] rfl (by simp [OC, (hS3.rd 2 rfl).cells.2.1]) a1p (by simp) fun H4 hS4 => ?_
 simp only [RT] at hS4
 simp (disch := omega) only [↓RA, RZ, simprocAttr, hn, c6F, hS4.ag 0 rfl]
 exact ⟨wv, rfl, hS4.pick [2] (by decide) rfl⟩
theorem a4a (n feet shift : Int) : Fn prog 47 [I n, I feet, I shift] H fun r H' => ∃ dv gv, St prog H H' [⟨dv, 2, [I n, I shift]⟩, ⟨gv, 3, [I 36, I 48, dv]⟩, ⟨r, 4, [.string ⟨#[97]⟩, I feet, I 1, gv]⟩] := by
 refine .bd func47 rfl (by kernel_rfl) (m := 17) rfl fun l hn g0 g1 g2 => ?_
 simp (disch := omega) only [↓RA, RB, simprocAttr, hn, g0, g1, g2, yA, qP]
 refine (sR H).ae [I n, I shift] a4h a3I rfl rfl (by simp [Value.cells]) rfl rfl (by decide) (by decide) fun w1 H1 hS1 => ?_
 simp only [RT] at hS1
 simp (disch := omega) only [↓RA, RB, simprocAttr, hn, lI (hS1.rd 0 rfl).cells]
 refine hS1.ae [I 36, I 48, w1] qF wI rfl rfl (by first | (simp []; done) | simp [Value.cells]) (by first | (simp []; done) | simp [Value.cells]) (by simp [OC, (hS1.rd 0 rfl).cells.2.1]) (by decide) (by decide) fun w2 H2 hS2 => ?_
 simp only [RT] at hS2
 simp (disch := omega) only [↓RA, RB, simprocAttr, hn, a6v (hS2.rd 1 rfl).cells]
 refine hS2.ae [(.string ⟨#[97]⟩), I feet, I 1, w2] c3t c5u rfl rfl (by first | (simp []; done) | simp [Value.cells]) (by first | (simp []; done) | simp [Value.cells]) (by simp [OC, (hS2.rd 1 rfl).cells.2.1]) (by decide) (by decide) fun w3 H3 hS3 => ?_
 simp only [RT] at hS3
 simp (disch := omega) only [↓RA, RB, simprocAttr, hn, c7K]
 exact ⟨w1, w2, hS3⟩
section
variable (w1 w2 d1 g1 s1 d2 g2 s2 w3 w4 w5 : Value)
end
def a0n (c1 c2 : Int) (w1 w2 : Value) : List Rk := [⟨⟨#[114]⟩, ⟨#[102, 108, 117, 116, 101]⟩, 8, 1, 36, w1, List.replicate 25 c1⟩, ⟨⟨#[115]⟩, ⟨#[102, 108, 117, 116, 101]⟩, 8, 1, 36, w2, List.replicate 25 c2⟩]
def b4i (d1 g1 s1 d2 g2 s2 : Value) : List Dvn := [⟨⟨#[111, 110, 101]⟩, false, 36, 48, s1, [⟨⟨#[97]⟩, 8, 1, g1, [⟨36, 48, d1, [⟨0, 0⟩]⟩]⟩]⟩, ⟨⟨#[116, 119, 111]⟩, false, 36, 48, s2, [⟨⟨#[97]⟩, 4, 1, g2, [⟨36, 48, d2, [⟨1, 12⟩]⟩]⟩]⟩]
def b8W : List Cpl := [⟨⟨#[99]⟩, 0, 1, 0, false⟩]
def exW (c1 c2 : Int) (w1 w2 d1 g1 s1 d2 g2 s2 w3 w4 w5 : Value) : Org := ⟨⟨#[101]⟩, w3, a0n c1 c2 w1 w2, w4, b4i d1 g1 s1 d2 g2 s2, w5, b8W⟩
theorem a7O (hG : Glob gH H) : Fn prog 27 [] H fun r H' => ∃ w1 w2 d1 g1 s1 d2 g2 s2 w3 w4 w5, r = .agg #[.string ⟨#[101]⟩, w3, w4, w5] ∧ St prog H H' [⟨w1, 1, (List.replicate 25 (1 : Int)).flatMap (one I)⟩, ⟨w2, 1, (List.replicate 25 (1 : Int)).flatMap (one I)⟩,
 ⟨d1, 2, [(⟨0, 0⟩ : Drw)].flatMap Drw.cells⟩, ⟨g1, 3, [(⟨36, 48, d1, [⟨0, 0⟩]⟩ : Seg)].flatMap Seg.cells⟩, ⟨s1, 4, [(⟨⟨#[97]⟩, 8, 1, g1, [⟨36, 48, d1, [⟨0, 0⟩]⟩]⟩ : Stp)].flatMap Stp.cells⟩,
 ⟨d2, 2, [(⟨1, 12⟩ : Drw)].flatMap Drw.cells⟩, ⟨g2, 3, [(⟨36, 48, d2, [⟨1, 12⟩]⟩ : Seg)].flatMap Seg.cells⟩, ⟨s2, 4, [(⟨⟨#[97]⟩, 4, 1, g2, [⟨36, 48, d2, [⟨1, 12⟩]⟩]⟩ : Stp)].flatMap Stp.cells⟩,
 ⟨w3, 6, (a0n 1 1 w1 w2).flatMap Rk.cells⟩, ⟨w4, 5, (b4i d1 g1 s1 d2 g2 s2).flatMap Dvn.cells⟩, ⟨w5, 5, b8W.flatMap Cpl.cells⟩] := by
 refine .cO func27 rfl (by kernel_rfl) (m := 19) rfl fun l hn => ?_
 simp (disch := omega) only [↓RA, RZ, simprocAttr]
 refine (sR H).eNew 4 [(.string ⟨#[]⟩), (.slice none 0 0), (.slice none 0 0), (.slice none 0 0)] rfl rfl rfl lO fun A1 H1 hS1 => ?_
 simp only [RT] at hS1
 simp (disch := omega) only [↓RA, RZ, simprocAttr, a6m]
 refine hS1.eNew 2 [I 0, I 0] rfl rfl rfl a1l fun A2 H2 hS2 => ?_
 simp only [RT] at hS2
 simp (disch := omega) only [↓RA, RB, simprocAttr, hn]
 refine hS2.aa 1 rfl [I 36, I 48] rfl rfl a1l (by simp) fun H3 hS3 => ?_
 simp only [RT] at hS3
 simp (disch := omega) only [↓RA, RB, simprocAttr]
 refine Wp.cj jY [0, 1, 4, 5, 8, 9, 2, 3, 6, 7, 10, 11, 12, 13, 14, 15] [0, 1, 6, 7, 2, 3, 8, 9, 4, 5, 10, 11, 12, 13, 14, 15] ⟨true, [35], []⟩ [(7, 0), (7, 1), (7, 2), (7, 4), (7, 6), (9, 0), (9, 1), (9, 2), (9, 4), (9, 6)] (by kernel_rfl) (by kernel_rfl) (by kernel_rfl) ?_
 simp (disch := omega) only [↓RA, RZ, simprocAttr]
 refine iG (a4l (hS3.gl hG) _) ?_
 rintro r H4 ⟨wv1, rfl, hT1⟩
 have hS4 := hS3.trans hT1
 simp only [RT] at hS4
 simp (disch := omega) only [↓RA, RZ, simprocAttr]
 refine iG (a4l (hS4.gl hG) _) ?_
 rintro r H5 ⟨wv2, rfl, hT2⟩
 have hS5 := hS4.trans hT2
 simp only [RT] at hS5
 simp (disch := omega) only [↓RA, RZ, simprocAttr, hn]
 refine iG (a4a 0 8 0) ?_
 rintro r H6 ⟨d1, g1, hT3⟩
 have hS6 := hS5.trans hT3
 simp only [RT] at hS6
 obtain ⟨s1, rfl⟩ : ∃ w, w = r := ⟨r, rfl⟩
 simp (disch := omega) only [↓RA, RZ, simprocAttr, hn]
 refine iG (a4a 1 4 12) ?_
 rintro r H7 ⟨d2, g2, hT4⟩
 have hS7 := hS6.trans hT4
 simp only [RT] at hS7
 obtain ⟨s2, rfl⟩ : ∃ w, w = r := ⟨r, rfl⟩
 simp (disch := omega) only [↓RA, RB, simprocAttr, hn]
 refine hS7.ae [(.string ⟨#[114]⟩), (.string ⟨#[102, 108, 117, 116, 101]⟩), I 8, I 1, I 36, wv1, (.string ⟨#[115]⟩), (.string ⟨#[102, 108, 117, 116, 101]⟩), I 8, I 1, I 36, wv2] c1z c4Y rfl rfl (by first | (simp []; done) | simp [Value.cells]) (by first | (simp []; done) | simp [Value.cells]) (by simp [OC, (hS7.rd 2 rfl).cells.2.1, (hS7.rd 3 rfl).cells.2.1]) (by decide) (by decide) fun w1 H8 hS8 => ?_
 simp only [RT] at hS8
 simp (disch := omega) only [↓RA, RZ, simprocAttr, hn, hS8.ag 1 rfl, a2F (hS8.rd 6 rfl).cells, a2F (hS8.rd 9 rfl).cells]
 refine hS8.ae [(.string ⟨#[111, 110, 101]⟩), (.bool false), I 36, I 48, s1, (.string ⟨#[116, 119, 111]⟩), (.bool false), I 36, I 48, s2] c2l c4j rfl rfl (by first | (simp []; done) | simp [Value.cells]) (by first | (simp []; done) | simp [Value.cells]) (by simp [OC, (hS8.rd 6 rfl).cells.2.1, (hS8.rd 9 rfl).cells.2.1]) (by decide) (by decide) fun w2 H9 hS9 => ?_
 simp only [RT] at hS9
 simp (disch := omega) only [↓RA, RB, simprocAttr, hn, a7G]
 refine hS9.ae [(.string ⟨#[99]⟩), I 0, I 1, I 0, (.bool false)] a8V c0k rfl rfl (by simp [Value.cells]) rfl rfl (by decide) (by decide) fun w3 H10 hS10 => ?_
 simp only [RT] at hS10
 simp (disch := omega) only [↓RA, RB, simprocAttr, hn, a5k (hS10.rd 10 rfl).cells (hS10.rd 11 rfl).cells (hS10.rd 12 rfl).cells]
 refine hS10.aa 0 rfl [(.string ⟨#[101]⟩), w1, w2, w3] rfl (by simp [OC, (hS10.rd 10 rfl).cells.2.1, (hS10.rd 11 rfl).cells.2.1, (hS10.rd 12 rfl).cells.2.1]) lO (by simp) fun H11 hS11 => ?_
 simp only [RT] at hS11
 simp (disch := omega) only [↓RA, RZ, simprocAttr, hn, hS3.ag 1 rfl, hS4.ag 1 rfl, hS5.ag 1 rfl, hS6.ag 1 rfl, hS7.ag 1 rfl, c6G, hS11.ag 0 rfl]
 exact ⟨wv1, wv2, d1, g1, s1, d2, g2, s2, w1, w2, w3, rfl, hS11.pick [2, 3, 4, 5, 6, 7, 8, 9, 10, 11, 12] (by decide) rfl⟩
section
variable (w1 w2 d1 g1 s1 d2 g2 s2 w3 w4 w5 : Value)
theorem a4Q : mZ (exW 7 2 w1 w2 d1 g1 s1 d2 g2 s2 w3 w4 w5) ⟨[1, 1], 1, 0⟩ = 0 := by kernel_rfl
theorem b6H : mE (exW 7 2 w1 w2 d1 g1 s1 d2 g2 s2 w3 w4 w5) [jX [40, 41], (0, 0)] = 0 := by kernel_rfl
theorem b0p : rkE (exW 7 2 w1 w2 d1 g1 s1 d2 g2 s2 w3 w4 w5) ⟨[1, 1], 1, 0⟩ [jX [40, 41], (0, 0)] = 0 := by
 unfold rkE
 rw [a4Q, if_neg (by decide), b6H]
end
def rkS (o : Org) (acc : List Int) (p : Ct) : List Int := acc.set p.1.toNat (oE (iB acc p.1.toNat + yY o p))
def rkF (o : Org) (ps : List Ct) : List Int := ps.foldl (rkS o) (List.replicate o.ranks.length 0)
theorem b1E (o : Org) : ∀ (ps : List Ct) (acc : List Int), (ps.foldl (rkS o) acc).length = acc.length
 | [], _ => rfl
 | p :: ps, acc => by
   rw [eS, b1E o ps]
   unfold rkS
   rw [gP]
theorem c0s (o : Org) (ps : List Ct) : (rkF o ps).length = o.ranks.length := by unfold rkF; rw [b1E, eK]
theorem b6D (o : Org) (ps : List Ct) (i : Nat) (h : i < ps.length) : rkF o (ps.take (i + 1)) = rkS o (rkF o (ps.take i)) (iB ps i) := by
 unfold rkF
 rw [kG ps i h, fh]
 rfl
theorem b5j (acc : List Int) (e : Nat) (x : Int) : ((acc.flatMap (one I)).set e (I x)) = (acc.set e x).flatMap (one I) := by
 rw [nO, nO, gY]
def byF (o : Org) (rg : Reg) (ks : List Nt) : List Int := if rkE o rg ks = 0 then rkF o (oF o rg ks) else []
theorem b2S (hG : Glob gH H) (o : Org) (ho : o.In H) (rg : Reg) (sv : Value) (hr : rg.In H sv) (kv : Value) (ks : List Nt) (hk : Ks H kv ks) :
 Fn prog 19 [.agg #[.string o.name, o.rv, o.dv, o.cv], .agg #[sv, .int .u64 rg.cpl, .int .u64 rg.off], kv] H fun r H' => ∃ v, r = .tuple #[v, I (rkE o rg ks)] ∧ St prog H H' [⟨v, 1, (byF o rg ks).flatMap (one I)⟩] := by
 have hle := b5J (o := o) (rg := rg) hk.ok
 refine .bd func19 rfl (by kernel_rfl) (m := 53) rfl fun l hn g0 g1 g2 => ?_
 simp (disch := omega) only [↓RA, RB, simprocAttr, g0]
 refine (sR H).eNew 4 [(.string o.name), o.rv, o.dv, o.cv] rfl rfl (by simp [OC, ((sR H).sl ho.1).cells.2.1, ((sR H).sl ho.2.2.1).cells.2.1, ((sR H).sl ho.2.2.2.2.1).cells.2.1]) lO fun A1 H1 hS1 => ?_
 simp only [RT] at hS1
 simp (disch := omega) only [↓RA, RB, simprocAttr, g1]
 refine hS1.eNew 3 [sv, (.int .u64 rg.cpl), (.int .u64 rg.off)] rfl rfl (by simp [OC, (hS1.sl hr.1).cells.2.1]) nJ fun A2 H2 hS2 => ?_
 simp only [RT] at hS2
 simp (disch := omega) only [↓RA, RZ, simprocAttr, hn, g2, hS2.ag 0 rfl, hS2.ag 1 rfl]
 have hS1 := hS2
 refine iG (a1j (hS2.gl hG) o (ho.ab hS2) rg sv (hr.ab hS2) kv ks (hk.ab hS2)) ?_
 rintro r H3 ⟨pv, rfl, hx, hT1⟩
 have hS3 := hS2.trans hT1
 simp only [RT] at hS3
 simp (disch := omega) only [↓RA, RB, simprocAttr, hn]
 refine iA (fun h1 => ?_) (fun h1 => ?_)
 ·have hb : byF o rg ks = [] := by unfold byF; rw [if_neg h1]
  have hS4 := hS3.nil 0
  simp only [RT] at hS4
  simp (disch := omega) only [↓RA, RZ, simprocAttr, hn, c4B, h1]
  rw [hb]
  exact ⟨.slice none 0 0, rfl, hS4.pick [2] (by decide) rfl⟩
 have h0 := dw.1 h1
 obtain ⟨hz1, hz2⟩ := uK h0
 have hf := Org.aO (mC hz1).1
 have hrl := hf.rlen
 have hb : byF o rg ks = rkF o (oF o rg ks) := by unfold byF; rw [if_pos h0]
 have hx2 := hx.step (hS1.ba (H' := H3))
 obtain ⟨X, hBX, hS5⟩ := hS3.aB (os := [⟨ptr A1 0 4, 0, _⟩, ⟨ptr A2 0 3, 0, _⟩])
 have hx3 := hx2.step (hS5.kept hBX)
 simp (disch := omega) only [↓RA, RZ, simprocAttr, hn, hS5.ld 0 rfl, ((hS3.aj hBX hS5).sl ho.1).len, h1]
 refine hS5.bB o.ranks.length c5w (by omega) fun w1 H4 hS6 => ?_
 simp only [RT] at hS6
 rw [show List.replicate o.ranks.length (Value.int .i64 0) = (List.replicate o.ranks.length (0 : Int)).flatMap (one I) from by rw [nO, fO]] at hS6
 simp (disch := omega) only [↓RA, RZ, simprocAttr, hn, (hx2.step (hS6.kept hBX)).1.len, h1]
 refine Wp.ak (fun n l H' => l.length = 53 ∧ get l 3 = (ptr A1 0 4) ∧ get l 6 = (.slice none 0 0) ∧ get l 7 = I 0 ∧ get l 27 = pv ∧ get l 28 = I (oF o rg ks).length ∧ ∃ (i : Nat), (n + i = (oF o rg ks).length) ∧ get l 29 = I i ∧ get l 10 = w1 ∧ St prog X H' [⟨ptr A1 0 4, 0, [(.string o.name), o.rv, o.dv, o.cv]⟩, ⟨ptr A2 0 3, 0, [sv, (.int .u64 rg.cpl), (.int .u64 rg.off)]⟩, ⟨w1, 1, (rkF o ((oF o rg ks).take i)).flatMap (one I)⟩]) (oF o rg ks).length ?_ ?_
 ·simp (disch := omega) only [RB, RC, simprocAttr, hn]
  exact ⟨0, by omega, rfl, hS6⟩
 rintro n l H5 ⟨hn, g3, g6, g7, g27, g28, i, hi, g29, oZ, hS7⟩
 simp (disch := omega) only [↓RA, RB, simprocAttr, hn, g28, g29]
 refine iA (fun q1 => ?_) (fun q1 => ?_)
 ·have hpi := b0V (o := o) (rg := rg) (ks := ks) _ (iD (xs := oF o rg ks) (j := i) (by omega))
  obtain ⟨e, he⟩ : ∃ e : Nat, (iB (oF o rg ks) i).1 = e := ⟨(iB (oF o rg ks) i).1.toNat, by have := hpi.1; omega⟩
  obtain ⟨f, hff⟩ : ∃ f : Nat, (iB (oF o rg ks) i).2 = f := ⟨(iB (oF o rg ks) i).2.toNat, by have := hpi.2.2.1; omega⟩
  have hel : e < o.ranks.length := by have := hpi.2.1; omega
  have hfl : f < (iB o.ranks e).wind.length := by
   have := hpi.2.2.2
   rw [he, dR] at this
   omega
  have hlr := c0s o ((oF o rg ks).take i)
  have hsu := b6D o (oF o rg ks) i (by omega)
  have hwt : yY o (iB (oF o rg ks) i) = iB (iB o.ranks e).wind f := by unfold yY; rw [he, hff, dR, dR]
  unfold rkS at hsu
  rw [hwt, he, dR] at hsu
  simp (disch := omega) only [↓RA, RZ, simprocAttr, hn, g27, g29, (hx2.step (hS7.kept hBX)).1.idx, (hx2.step (hS7.kept hBX)).1.ag, jL, q1]
  refine hS7.eNew 2 [I 0, I 0] rfl rfl rfl mM fun A3 H6 hS8 => ?_
  simp only [RT] at hS8
  simp (disch := omega) only [↓RA, RZ, simprocAttr, hn, q1]
  refine hS8.aa 3 rfl [I (iB (oF o rg ks) i).1, I (iB (oF o rg ks) i).2] rfl rfl mM (by simp) fun H7 hS9 => ?_
  simp only [RT] at hS9
  simp (disch := omega) only [↓RA, RZ, simprocAttr, q1]
  refine Wp.drw jY (by kernel_rfl) ?_
  simp (disch := omega) only [↓RA, RZ, simprocAttr, hn, oZ]
  simp (disch := omega) only [↓RA, RZ, simprocAttr, hn, g3, hS9.ld 3 rfl, (hS9.aw 2 rfl (fun _ => rfl)).idx, (hS9.aw 2 rfl (fun _ => rfl)).ld, one, hS9.ld 0 rfl, ((hS3.aj hBX hS9).sl ho.1).idx, ((hS3.aj hBX hS9).sl ho.1).aY, ((hS3.aj hBX hS9).sl ho.1).ld, Rk.cells, ((hS3.aj hBX hS9).sl (ho.2.1 (iB o.ranks e) (iD (by omega))).1).idx, ((hS3.aj hBX hS9).sl (ho.2.1 (iB o.ranks e) (iD (by omega))).1).ld, he, hff]
  refine hS9.aW 2 rfl [_] rfl rfl tS3 (by simp) (by rw [nO, dK, hlr]; simp; omega) fun H8 hS10 => ?_
  simp only [RT] at hS10
  simp (disch := omega) only [↓RA, RZ, simprocAttr, hn, g3, g6, g7, g27, g28, g29, oZ, he, hff]
  refine ⟨n - 1, by omega, i + 1, by omega, by simp, ?_⟩
  rw [hsu, ← b5j]
  exact hS10.pick [0, 1, 2] (by decide) rfl
 have hnt := (hS7.aw (cel := one I) 2 rfl (fun _ => rfl)).br
 simp (disch := omega) only [↓RA, RZ, simprocAttr, hn, oZ, c4B, q1, hnt]
 have hii : i = (oF o rg ks).length := by omega
 rw [hb, h0]
 refine ⟨_, rfl, ?_⟩
 have h9 := (hS3.aj hBX hS7).pick (os' := [⟨w1, 1, _⟩]) [2] (by decide) rfl
 rw [hii, dM] at h9
 exact h9
end Go.Ds
namespace Go.Ds
open Go.Proofs
variable {H : Heap}
set_option maxRecDepth 10000
set_option maxHeartbeats 1000000
theorem a4z (o : Org) (r : Reg) (l : List Ct) : lK o r l = dd (a3C ((b7r a3C o r l).flatMap (b6I a3C o r))) := by
 rw [← c1K]
 rfl
section
variable (w1 w2 d1 g1 s1 d2 g2 s2 w3 w4 w5 : Value)
end
end Go.Ds
