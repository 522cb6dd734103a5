/-
  A part of the proof of SoundRegistrations.
-/
import Derived.Test.YtmhekfhdnednjaaGreatDoorVI
import Derived.Test.YtmhekfhdnednjaaGreatDoorVD
set_option linter.unusedVariables false
set_option linter.unusedSimpArgs false
set_option linter.defProp false
set_option linter.unusedSectionVars false
namespace Go.Ds
open Go.Proofs Go.ChangeShapes Go.WideShapes Go.RowKit Go.Deep
set_option maxRecDepth 10000
section
variable {H0 : Type} {enc : TypeId × Value → H0} {w : World} {base n : Nat} {spare : Nat → Bool} {jW : Bool} {x : DataW H0 × List MemPlace}
end
section
variable {H0 : Type} {enc : TypeId × Value → H0} {w : World} {base : Nat} {jW : Bool}
end
end Go.Ds
namespace Go.Ds
open Go.Proofs Go.Proofs.Tryz
variable {H : Heap}
set_option maxRecDepth 10000
set_option maxHeartbeats 1000000
abbrev Nt := Nat × Nat
def ntc (x : Nt) : List Value := [.int .u64 x.1, .int .u64 x.2]
def Nt.Ok (x : Nt) : Prop := x.1 < 18446744073709551616 ∧ x.2 < 18446744073709551616
def qX (x : Nt) (n : Int) : Nt := if n < 64 then (x.1 ||| 2 ^ n.toNat, x.2) else (x.1, x.2 ||| 2 ^ (n - 64).toNat)
theorem a3y (i : Nat) (h : i < 64) : 2 ^ i < 18446744073709551616 := by
 have : 2 ^ i ≤ 2 ^ 63 := fX (by decide) (by omega)
 have e : 2 ^ 63 = 9223372036854775808 := rfl
 omega
theorem b2k {a b : Nat} (ha : a < 18446744073709551616) (hb : b < 18446744073709551616) : a ||| b < 18446744073709551616 := Nat.or_lt_two_pow (n := 64) ha hb
theorem orB (a b : Nat) (ha : a < 18446744073709551616) (hb : b < 18446744073709551616) : IntKind.wrap .u64 ((BitVec.ofInt (IntKind.bits .u64) (a : Int) ||| BitVec.ofInt (IntKind.bits .u64) (b : Int)).toNat : Int) = ((a ||| b : Nat) : Int) := by
 have e : (BitVec.ofInt (IntKind.bits .u64) (a : Int) ||| BitVec.ofInt (IntKind.bits .u64) (b : Int)).toNat = a ||| b := by
  rw [BitVec.toNat_or, wZ a ha, wZ b hb]
 rw [e]
 have := b2k ha hb
 exact pD _ (by omega) (by omega)
theorem orN (n i : Nat) (hn : n < 18446744073709551616) (hi : i < 64) : IntKind.wrap .u64 ((BitVec.ofInt (IntKind.bits .u64) (n : Int) ||| BitVec.ofInt (IntKind.bits .u64) (IntKind.wrap .u64 (1 * 2 ^ min i (IntKind.bits .u64)))).toNat : Int) = ((n ||| 2 ^ i : Nat) : Int) := by
 rw [c2i i hi]
 exact orB n (2 ^ i) hn (a3y i hi)
theorem b5p {x : Nt} (hx : Nt.Ok x) {z : Int} (h0 : 0 ≤ z) (h1 : z < 128) : Nt.Ok (qX x z) := by
 unfold qX
 split
 ·exact ⟨b2k hx.1 (a3y _ (by omega)), hx.2⟩
 ·exact ⟨hx.1, b2k hx.2 (a3y _ (by omega))⟩
theorem a5x (x : Nt) (hx : Nt.Ok x) (z : Int) (h0 : 0 ≤ z) (h1 : z < 128) : Fn prog 95 [.agg #[.int .u64 x.1, .int .u64 x.2], I z] H fun r H' => r = .agg #[.int .u64 (qX x z).1, .int .u64 (qX x z).2] ∧ St prog H H' [] := by
 obtain ⟨m, rfl⟩ := gu h0
 refine .aM func95 rfl (by kernel_rfl) (m := 21) rfl fun l hn g0 g1 => ?_
 simp (disch := omega) only [↓RA, RB, simprocAttr, g0]
 refine (sR H).eNew 2 [(.int .u64 x.1), (.int .u64 x.2)] rfl rfl rfl nP fun A1 H1 hS1 => ?_
 simp only [RT] at hS1
 simp (disch := omega) only [↓RA, RZ, simprocAttr]
 refine hS1.eNew 2 [(.int .u64 0), (.int .u64 0)] rfl rfl rfl nP fun A2 H2 hS2 => ?_
 simp only [RT] at hS2
 simp (disch := omega) only [↓RA, RB, simprocAttr, hn, g1]
 refine gM (fun q1 => ?_) (fun q1 => ?_)
 ·have e1 := orN x.1 m hx.1 (by omega)
  have e2 : qX x (m : Int) = (x.1 ||| 2 ^ m, x.2) := by unfold qX; rw [if_pos q1]; rfl
  simp (disch := omega) only [↓RA, RC, simprocAttr, q1]
  refine Wp.drw jM (by kernel_rfl) ?_
  simp (disch := omega) only [↓RA, RZ, simprocAttr, hn, g1, hS2.ld 0 rfl, e1]
  refine hS2.aa 0 rfl [(.int .u64 (x.1 ||| 2 ^ m : Nat))] rfl rfl b5N (by simp) fun H3 hS3 => ?_
  simp only [RT] at hS3
  simp (disch := omega) only [↓RA, RZ, simprocAttr, hn, hS3.aj 0 rfl]
  refine hS3.aa 1 rfl [(.int .u64 (x.1 ||| 2 ^ m : Nat)), (.int .u64 x.2)] rfl rfl nP (by simp) fun H4 hS4 => ?_
  simp only [RT] at hS4
  simp (disch := omega) only [↓RA, RZ, simprocAttr, hn, c1S, hS4.aj 1 rfl]
  rw [e2]
  exact ⟨rfl, hS4.forget⟩
 have e1 := orN x.2 (m - 64) hx.2 (by omega)
 have e3 : (m : Int) - 64 = ((m - 64 : Nat) : Int) := by omega
 have e2 : qX x (m : Int) = (x.1, x.2 ||| 2 ^ (m - 64)) := by unfold qX; rw [if_neg q1, e3]; rfl
 simp (disch := omega) only [↓RA, RC, simprocAttr, q1]
 refine Wp.drw jM (by kernel_rfl) ?_
 simp (disch := omega) only [↓RA, RZ, simprocAttr, hn, g1, hS2.ld 0 rfl, e1, e3]
 refine hS2.aa 0 rfl [(.int .u64 (x.2 ||| 2 ^ (m - 64) : Nat))] rfl rfl b5N (by simp) fun H5 hS5 => ?_
 simp only [RT] at hS5
 simp (disch := omega) only [↓RA, RZ, simprocAttr, hn, hS5.aj 0 rfl]
 refine hS5.aa 1 rfl [(.int .u64 x.1), (.int .u64 (x.2 ||| 2 ^ (m - 64) : Nat))] rfl rfl nP (by simp) fun H6 hS6 => ?_
 simp only [RT] at hS6
 simp (disch := omega) only [↓RA, RZ, simprocAttr, hn, c1S, hS6.aj 1 rfl]
 rw [e2]
 exact ⟨rfl, hS6.forget⟩
def iP (xs : List Int) : Nt := xs.foldl qX (0, 0)
def isN (z : Int) : Prop := 0 ≤ z ∧ z < 128
theorem xJ : ∀ (xs : List Int) (x : Nt), (∀ z ∈ xs, isN z) → Nt.Ok x → Nt.Ok (xs.foldl qX x)
 | [], _, _, h => h
 | z :: xs, x, hz, h => by
   rw [eX]
   exact xJ xs _ (fun y hy => hz y (ek _ hy)) (b5p h (hz z (dV ..)).1 (hz z (dV ..)).2)
theorem a5c (xs : List Int) {j : Nat} (hj : j < xs.length) : iP (xs.take (j + 1)) = qX (iP (xs.take j)) (gN xs j) := by
 unfold iP
 rw [List.take_add_one, db hj, Option.toList_some, gC, ← jJ _ j hj]
 rfl
theorem b1G (z : Int) (h : isN z) : Fn prog 94 [I z] H fun r H' => r = .bool true ∧ St prog H H' [] := by
 have h0 := h.1
 have h1 := h.2
 refine .aS func94 rfl (by kernel_rfl) (m := 9) rfl fun l hn g0 => ?_
 simp (disch := omega) only [↓RA, RZ, simprocAttr, hn, g0]
 refine jO (fun q1 => ?_) (fun q1 => ?_)
 rotate_left
 ·exfalso; first | omega | (simp at q1; omega)
 simp (disch := omega) only [↓RA, RZ, simprocAttr, hn, g0, c2I, q1]
 simpa using ⟨(by omega : z ≤ 127), (sR H)⟩
theorem a6N (xs : List Int) (hz : ∀ z ∈ xs, isN z) (v : Value) (hv : Sl 1 (one I) H v xs) (hl : xs.length < 1000000000) :
 Fn prog 45 [v] H fun r H' => r = .tuple #[.agg #[.int .u64 (iP xs).1, .int .u64 (iP xs).2], I 0] ∧ St prog H H' [] := by
 refine .aS func45 rfl (by kernel_rfl) (m := 22) rfl fun l hn g0 => ?_
 simp (disch := omega) only [↓RA, RZ, simprocAttr]
 refine (sR H).eNew 2 [(.int .u64 0), (.int .u64 0)] rfl rfl rfl nP fun A1 H1 hS1 => ?_
 simp only [RT] at hS1
 simp (disch := omega) only [↓RA, RZ, simprocAttr]
 refine hS1.eNew 2 [(.int .u64 0), (.int .u64 0)] rfl rfl rfl nP fun A2 H2 hS2 => ?_
 simp only [RT] at hS2
 simp (disch := omega) only [↓RA, RZ, simprocAttr, hn, g0, (hS2.sl hv).len]
 refine Wp.al (fun n l H' => l.length = 22 ∧ get l 2 = (ptr A1 0 2) ∧ get l 4 = (ptr A2 0 2) ∧ get l 7 = v ∧ get l 8 = I xs.length ∧ ∃ (j : Nat), (n + j = xs.length) ∧ get l 9 = I j ∧ St prog H H' [⟨ptr A1 0 2, 0, [(.int .u64 0), (.int .u64 0)]⟩, ⟨ptr A2 0 2, 0, [.int .u64 (iP (xs.take j)).1, .int .u64 (iP (xs.take j)).2]⟩]) xs.length ?_ ?_
 ·simp (disch := omega) only [RB, RC, simprocAttr, hn]
  exact ⟨0, by omega, rfl, hS2⟩
 rintro n l H3 ⟨hn, g2, g4, g7, g8, j, hj, g9, hS3⟩
 simp (disch := omega) only [↓RA, RB, simprocAttr, hn, g8, g9]
 refine gM (fun q1 => ?_) (fun q1 => ?_)
 ·have hx := hz _ (gS (xs := xs) (j := j) (by omega))
  have hok : Nt.Ok (iP (xs.take j)) := xJ _ _ (fun z h => hz z (List.mem_of_mem_take h)) ⟨by decide, by decide⟩
  simp (disch := omega) only [↓RA, RZ, simprocAttr, hn, g7, g9, (hS3.sl hv).idx, (hS3.sl hv).ld, one, q1]
  refine hS3.cF (b1G (gN xs j) hx) fun H4 hS4 => ?_
  simp (disch := omega) only [↓RA, RZ, simprocAttr, hn, g4, hS4.aj 1 rfl, q1]
  refine hS4.cF (a5x (iP (xs.take j)) hok (gN xs j) hx.1 hx.2) fun H5 hS5 => ?_
  simp (disch := omega) only [↓RA, RZ, simprocAttr, hn, g4, q1]
  refine hS5.aa 1 rfl [(.int .u64 (qX (iP (xs.take j)) (gN xs j)).1), (.int .u64 (qX (iP (xs.take j)) (gN xs j)).2)] rfl rfl nP (by simp) fun H6 hS6 => ?_
  simp only [RT] at hS6
  simp (disch := omega) only [↓RA, RZ, simprocAttr, hn, g2, g4, g7, g8, g9, q1]
  refine ⟨n - 1, by omega, j + 1, by omega, by simp, ?_⟩
  rw [a5c xs (by omega)]
  exact hS6.pick [0, 1] (by decide) rfl
 have hjj : j = xs.length := by omega
 simp (disch := omega) only [↓RA, RZ, simprocAttr, hn, g2, g4, hS3.aj 1 rfl, q1]
 refine hS3.aa 0 rfl [(.int .u64 (iP (xs.take j)).1), (.int .u64 (iP (xs.take j)).2)] rfl rfl nP (by simp) fun H7 hS7 => ?_
 simp only [RT] at hS7
 simp (disch := omega) only [↓RA, RZ, simprocAttr, hn, g2, c2Z, hS7.aj 0 rfl, q1]
 rw [hjj, ee]
 exact ⟨rfl, hS7.forget⟩
end Go.Ds
namespace Go.Ds
open Go.Proofs
variable {H : Heap}
set_option maxRecDepth 10000
set_option maxHeartbeats 1000000
theorem St.perm {P : Program} {H0 : Base} {os os' : List Ob} (h : St P H0 H os) (hp : os.Perm os') : St P H0 H os' where
 len := h.len
 old := h.old
 own o ho := h.own o (hp.mem_iff.2 ho)
 new o ho := h.new o (hp.mem_iff.2 ho)
 sep := (List.Perm.pairwise_iff (fun {_ _} hxy B hB hB2 => hxy B hB2 hB) hp).1 h.sep
theorem Lp.swap {P : Program} {B : Base} {L : Nat} {r : Loop} {xs ys zs : List Ob} (h : Lp P B L r H ((xs ++ ys) ++ zs)) : Lp P B L r H ((xs ++ zs) ++ ys) := by
 have hp : ((xs ++ ys) ++ zs).Perm ((xs ++ zs) ++ ys) := by
  rw [eh, eh]
  exact (List.perm_append_comm).append_left xs
 exact ⟨h.st.perm hp, h.get, h.lo, fun o ho => h.ne o (hp.mem_iff.2 ho)⟩
end Go.Ds
namespace Go.Ds
open Go.Proofs Go.Proofs.Tryz
variable {H : Heap}
set_option maxRecDepth 10000
set_option maxHeartbeats 1000000
def zX (x : Nat) : Nat := ((List.range 64).find? fun i => x.testBit i).getD 64
theorem a1r {x : Nat} (h0 : x ≠ 0) (h1 : x < 18446744073709551616) : zX x < 64 ∧ x.testBit (zX x) = true ∧ ∀ j, j < zX x → x.testBit j = false := by
 have hx : ∃ i, i < 64 ∧ x.testBit i = true := by
  refine fC fun hn => h0 ?_
  refine Nat.eq_of_testBit_eq fun i => ?_
  rw [Nat.zero_testBit]
  by_cases hi : i < 64
  ·by_cases hb : x.testBit i = true
   ·exact absurd ⟨i, hi, hb⟩ hn
   ·simpa using hb
  ·exact Nat.testBit_lt_two_pow (dB (show x < 2 ^ 64 by simpa using h1) (fX (by decide) (by omega)))
 unfold zX
 cases hf : (List.range 64).find? fun i => x.testBit i with
 | none =>
   obtain ⟨i, hi, hb⟩ := hx
   have := fP.1 hf i (dm.2 hi)
   exact absurd hb (by simpa using this)
 | some i =>
   obtain ⟨hb, ys, bs, he, hn⟩ := List.find?_eq_some_iff_append.1 hf
   have hi : i < 64 := dm.1 (he ▸ (by simp : i ∈ ys ++ i :: bs))
   refine ⟨hi, hb, fun j hj0 => ?_⟩
   have hj : j < i := hj0
   have hl : ys.length = i := by
    have h2 : (List.range 64)[ys.length]? = some i := by rw [he]; simp
    have h3 : ys.length < 64 := by
     have := congrArg List.length he
     simp at this
     omega
    rw [gi h3] at h2
    exact cQ h2
   have hm : j ∈ ys := by
    have h2 : (List.range 64)[j]? = some j := gi (by omega)
    rw [he, dR (by simpa using (hl ▸ hj))] at h2
    exact dA h2
   simpa using hn j hm
theorem a2b {x : Nat} (h0 : x ≠ 0) (h1 : x < 18446744073709551616) : ∃ m, x = 2 ^ zX x * (2 * m + 1) := by
 obtain ⟨c1, c2, c3⟩ := a1r h0 h1
 generalize zX x = k at c1 c2 c3
 have hd : x % 2 ^ k = 0 := by
  refine Nat.eq_of_testBit_eq fun i => ?_
  rw [Nat.testBit_mod_two_pow, Nat.zero_testBit]
  by_cases hi : i < k
  ·rw [c3 i hi, Bool.and_false]
  ·rw [decide_eq_false hi, ft]
 have h2 : x / 2 ^ k % 2 = 1 := by
  rw [← ff]
  have := c2
  rw [tb] at this
  exact of_decide_eq_true this
 refine ⟨x / 2 ^ k / 2, ?_⟩
 have h3 := Nat.div_add_mod x (2 ^ k)
 have h4 := Nat.div_add_mod (x / 2 ^ k) 2
 rw [hd, gw] at h3
 rw [← h3]
 congr 1
 rw [h3]
 omega
theorem b6z {x : Nat} (h0 : x ≠ 0) (h1 : x < 18446744073709551616) : x &&& (18446744073709551616 - x) = 2 ^ zX x := by
 obtain ⟨m, hm⟩ := a2b h0 h1
 obtain ⟨c1, _, _⟩ := a1r h0 h1
 generalize zX x = k at hm c1
 have e64 : (18446744073709551616 : Nat) = 2 ^ k * (2 * 2 ^ (63 - k)) := by
  have : 2 ^ k * (2 * 2 ^ (63 - k)) = 2 ^ 64 := by rw [← Nat.pow_succ', ← Nat.pow_add]; congr 1; omega
  rw [this]
 have hml : m < 2 ^ (63 - k) := by
  rw [e64, hm] at h1
  have := Nat.lt_of_mul_lt_mul_left h1
  omega
 have e2 : 18446744073709551616 - x = 2 ^ k * (2 * (2 ^ (63 - k) - (m + 1)) + 1) := by
  rw [e64, hm, ← Nat.mul_sub]
  congr 1
  omega
 rw [e2, hm]
 refine Nat.eq_of_testBit_eq fun i => ?_
 rw [Nat.testBit_and, fI]
 have hs : ∀ y : Nat, (2 ^ k * y).testBit i = (decide (k ≤ i) && y.testBit (i - k)) := fun y => by rw [Nat.mul_comm, Nat.testBit_mul_two_pow]
 rw [hs, hs]
 by_cases hi : k ≤ i
 ·rw [decide_eq_true hi, gm, gm]
  by_cases he : i = k
  ·subst he
   rw [Nat.sub_self, Nat.testBit_zero, Nat.testBit_zero]
   simp
  ·obtain ⟨j, hj⟩ : ∃ j, i - k = j + 1 := ⟨i - k - 1, by omega⟩
   rw [hj, Nat.testBit_succ, Nat.testBit_succ, show (2 * m + 1) / 2 = m by omega, show (2 * (2 ^ (63 - k) - (m + 1)) + 1) / 2 = 2 ^ (63 - k) - (m + 1) by omega, Nat.testBit_two_pow_sub_succ hml, decide_eq_false (by omega : ¬ k = i)]
   cases m.testBit j <;> simp
 ·rw [decide_eq_false hi, ft, decide_eq_false (by omega)]
  rfl
theorem c0J : ((List.range 64).all fun k => decide (2 ^ k * 285870213051353865 % 18446744073709551616 / 288230376151711744 < 64) && decide (t64.getD (2 ^ k * 285870213051353865 % 18446744073709551616 / 288230376151711744) 99 = k)) = true := by kernel_rfl
theorem b4B {P : Program} {t : TypeId} {n : Nat} {elem : TypeId} {size : Nat} (ha : P.underlying t = some (.array n elem)) (hs : gP P elem = some size) (A i : Nat) (k : IntKind) (j : Int) (h0 : 0 ≤ j) (h1 : j < n) :
 uT (iA P t) P t (.pointer (some ⟨A, i, none⟩)) (.int k j) = some (.pointer (some ⟨A, i + j.toNat * size, none⟩)) := by
 have hn : iA P t = none := by simp [iA, gR, ha]
 rw [hn]
 simp only [uT, a0x, ha, hs, cR]
 rw [if_pos (by simp [h0, h1])]
theorem b8L (k : IntKind) (j : Int) (h0 : 0 ≤ j) (h1 : j < 64) : uT (iA prog 320) prog 320 (.pointer (some ⟨0, 0, none⟩)) (.int k j) = some (.pointer (some ⟨0, 0 + j.toNat * 1, none⟩)) :=
 b4B (n := 64) (elem := 5) (size := 1) (by kernel_rfl) (by kernel_rfl) 0 0 k j h0 h1
theorem b1f (g : Nat) (l : List Value) (K : Value → Prop) : iQ (.global g) l K = K (.pointer (some ⟨g, 0, none⟩)) := by simp [iQ, gY, ev]
theorem gld (hG : Glob gH H) (j : Nat) (hj : j < 64) (s : Option Nat) : oQ (some false) s H (.pointer (some ⟨0, j, none⟩)) = some (.int .u8 (t64.getD j 0 : Nat)) := by
 have h0 : hK H 0 = some (.cells (t64.map fun (n : Nat) => Value.int .u8 (.ofNat n)) 5 false 0 1) := by
  rw [hG.same 0 (by decide)]
  rfl
 simp only [oQ, iL, h0]
 have hl : (t64.map fun (n : Nat) => Value.int .u8 (.ofNat n)).length = 64 := by rw [dZ]; rfl
 rw [if_pos (by rw [hl]; simp; omega)]
 simp only [cR]
 rw [dD (by omega), dp, gw, dX, db (show j < t64.length from hj)]
 rw [dy, cV, db (show j < t64.length from hj)]
 rfl
theorem a6Z (m : Int) : IntKind.wrap .u64 m = m % 18446744073709551616 := by
 show (if (false && decide (m % 18446744073709551616 ≥ 9223372036854775808)) = true then m % 18446744073709551616 - 18446744073709551616 else m % 18446744073709551616) = _
 simp
theorem c2j (hG : Glob gH H) (x : Nat) (h0 : x ≠ 0) (h1 : x < 18446744073709551616) : Fn prog 189 [.int .u64 x] H fun r H' => r = I (zX x) ∧ St prog H H' [] := by
 obtain ⟨c1, _, _⟩ := a1r h0 h1
 have hd := dg.1 c0J (zX x) (dm.2 c1)
 rw [cT, decide_eq_true_eq, decide_eq_true_eq] at hd
 have eA : IntKind.wrap .u64 (0 - (x : Int)) = ((18446744073709551616 - x : Nat) : Int) := by
  rw [a6Z]
  omega
 have eB : IntKind.wrap .u64 ((BitVec.ofInt (IntKind.bits .u64) (x : Int) &&& BitVec.ofInt (IntKind.bits .u64) ((18446744073709551616 - x : Nat) : Int)).toNat : Int) = ((2 ^ zX x : Nat) : Int) := by
  rw [BitVec.toNat_and, wZ x h1, wZ _ (by omega), b6z h0 h1]
  exact pD _ (by omega) (by have := a3y (zX x) c1; omega)
 have eC : IntKind.wrap .u64 (((2 ^ zX x : Nat) : Int) * 285870213051353865) = ((2 ^ zX x * 285870213051353865 % 18446744073709551616 : Nat) : Int) := by
  rw [a6Z]
  rfl
 have eD : ((2 ^ zX x * 285870213051353865 % 18446744073709551616 : Nat) : Int).fdiv (2 ^ min 58 (IntKind.bits .u64)) = ((2 ^ zX x * 285870213051353865 % 18446744073709551616 / 288230376151711744 : Nat) : Int) := by
  rw [show (2 : Int) ^ min 58 (IntKind.bits .u64) = ((288230376151711744 : Nat) : Int) from rfl]
  exact Int.fdiv_eq_ediv_of_nonneg _ (by omega)
 have hd1 := hd.1
 have hd2 := hd.2
 generalize 2 ^ zX x * 285870213051353865 % 18446744073709551616 / 288230376151711744 = i at eD hd1 hd2
 refine .aS func189 rfl (by kernel_rfl) (m := 14) rfl fun l hn g0 => ?_
 have hK := gld hG i hd1 (some 1)
 rw [show t64.getD i 0 = zX x from by rw [← hd2, cV, cV, db (show i < t64.length from hd1)]; rfl] at hK
 have hidx := b8L .u64 (i : Int) (by omega) (by omega)
 rw [gx, Nat.mul_one, fL] at hidx
 simp (disch := omega) only [↓RA, RB, simprocAttr, hn, g0]
 refine gM (fun q => ?_) (fun q => ?_)
 ·exfalso; omega
 simp (disch := omega) only [↓RA, RZ, simprocAttr, hn, g0, c0p, eA, eB, eC, eD, b1f, hK, hidx, q]
 first | exact (sR H) | exact ⟨rfl, (sR H)⟩
theorem a2U {x : Nat} (h0 : x ≠ 0) (h1 : x < 18446744073709551616) (j : Nat) : (x &&& (x - 1)).testBit j = (x.testBit j && !decide (j = zX x)) := by
 obtain ⟨m, hm⟩ := a2b h0 h1
 generalize zX x = k at hm
 have hp : 0 < 2 ^ k := Nat.two_pow_pos k
 have e1 : x = 2 ^ (k + 1) * m + 2 ^ k := by rw [hm, Nat.pow_succ, Nat.mul_add, Nat.mul_one, Nat.mul_assoc]
 have e2 : x - 1 = 2 ^ (k + 1) * m + (2 ^ k - 1) := by omega
 have hl : 2 ^ k < 2 ^ (k + 1) := Nat.pow_lt_pow_right (by decide) (by omega)
 rw [Nat.testBit_and, e2]
 rw [e1, Nat.testBit_two_pow_mul_add m hl, Nat.testBit_two_pow_mul_add m (by omega : 2 ^ k - 1 < 2 ^ (k + 1))]
 by_cases hj : j < k + 1
 ·rw [if_pos hj, if_pos hj, fI, Nat.testBit_two_pow_sub_one]
  by_cases he : j = k
  ·simp [he]
  ·simp [show ¬ k = j by omega]
 ·rw [if_neg hj, if_neg hj, show decide (j = k) = false from decide_eq_false (by omega)]
  simp
theorem b1A {x : Nat} (h0 : x ≠ 0) (h1 : x < 18446744073709551616) : nT x = zX x :: nT (x &&& (x - 1)) := by
 obtain ⟨c1, c2, c3⟩ := a1r h0 h1
 have hb := a2U h0 h1
 generalize zX x = k at c1 c2 c3 hb
 obtain ⟨t, ht⟩ := a5K c1
 have hnd : (List.range 64).Nodup := List.nodup_range
 unfold nT
 rw [ht, eP, eP, List.filter_cons_of_pos (by simpa using c2), List.filter_cons_of_neg (by rw [hb]; simp)]
 rw [ht] at hnd
 have e1 : (List.range k).filter (fun i => x.testBit i) = [] := List.filter_eq_nil_iff.2 fun i hi => by simpa using c3 i (dm.1 hi)
 have e2 : (List.range k).filter (fun i => (x &&& (x - 1)).testBit i) = [] := List.filter_eq_nil_iff.2 fun i hi => by rw [hb, c3 i (dm.1 hi)]; simp
 rw [e1, e2, eM, eM]
 congr 1
 refine List.filter_congr fun i hi => ?_
 have hne : i ≠ k := fun e => by
  subst e
  exact (List.nodup_cons.1 (List.nodup_append.1 hnd).2.1).1 hi
 rw [hb, decide_eq_false hne]
 simp
theorem a8l : nT 0 = [] := List.filter_eq_nil_iff.2 fun i _ => by simp
def oK (x : Nt) : List Int := (nT x.1).map (fun (i : Nat) => (i : Int)) ++ (nT x.2).map fun (i : Nat) => 64 + (i : Int)
def a6u (x : Nt) (i : Nat) : Nat := if i = 0 then x.1 else x.2
def a2S (x : Nt) (i : Nat) : List Int := (nT (a6u x i)).map fun (j : Nat) => 64 * (i : Int) + (j : Int)
def a4d (x : Nt) (i : Nat) : List Int := (List.range i).flatMap (a2S x)
theorem yM (x : Nt) (i : Nat) : a4d x (i + 1) = a4d x i ++ a2S x i := by
 unfold a4d
 rw [eZ, dY, dG, fA, dj]
theorem a5z (x : Nt) : a4d x 2 = oK x := by
 rw [yM, yM]
 unfold oK a4d a2S a6u
 simp
theorem b4X {x : Nt} (hx : Nt.Ok x) (i : Nat) : a6u x i < 18446744073709551616 := by
 unfold a6u
 split
 ·exact hx.1
 ·exact hx.2
theorem c2b (a b : Int) : nK prog 277 (.agg #[.int .u64 a, .int .u64 b]) (I 0) = some (.int .u64 a) := by kernel_rfl
theorem c0G (a b : Int) : nK prog 277 (.agg #[.int .u64 a, .int .u64 b]) (I 1) = some (.int .u64 b) := by kernel_rfl
theorem c2W (x : Nt) (i : Nat) (h : i < 2) : a0w (mS prog 277) prog 277 (.agg #[.int .u64 x.1, .int .u64 x.2]) (I i) = some (.int .u64 (a6u x i)) := by
 rw [← a5t]
 rcases (by omega : i = 0 ∨ i = 1) with rfl | rfl
 ·exact c2b _ _
 ·exact c0G _ _
theorem b8u (x : Nt) (hx : Nt.Ok x) (A : Nat) (f : Value) (J : List Int → Heap → Prop) (h0 : J [] H) (hg : ∀ d H1, J d H1 → Var H1 A 2 [.int .u64 x.1, .int .u64 x.2] ∧ Glob gH H1)
 (hst : ∀ d H1 H2, J d H1 → St prog H1 H2 [] → J d H2)
 (hf : ∀ d c e H1, oK x = d ++ c :: e → J d H1 → rH prog f [I c] H1 fun v H2 => v = .bool true ∧ J (d ++ [c]) H2) :
 FnS prog 188 [f, ptr A 0 2] H fun _ H' => J (oK x) H' := by
 have hV0 := (hg _ _ h0).1
 refine FnS.aW func188 rfl (by kernel_rfl) fun l hl => ?_
 have hn : l.length = 29 := by rw [hl]; rfl
 have g0 : get l 0 = f := by rw [hl]; rfl
 have g1 : get l 1 = (ptr A 0 2) := by rw [hl]; rfl
 clear hl
 simp (disch := omega) only [↓RA, RZ, simprocAttr, hn, g1, hV0.ld, b0h]
 refine Wp.al (fun n l H' => l.length = 29 ∧ get l 0 = f ∧ get l 1 = ptr A 0 2 ∧ get l 9 = .agg #[.int .u64 x.1, .int .u64 x.2] ∧ ∃ i : Nat, n + i = 2 ∧ get l 10 = I i ∧ J (a4d x i) H') 2 ?_ ?_
 ·simp (disch := omega) only [RB, RC, simprocAttr, hn, g0, g1]
  exact ⟨0, rfl, rfl, h0⟩
 rintro n l H9 ⟨hn, g0, g1, g9, i, hi, pS, hJ⟩
 simp (disch := omega) only [↓RA, RB, simprocAttr, hn, pS]
 refine gM (fun q1 => ?_) (fun q1 => ?_)
 ·have hix := c2W x i (by omega)
  have hwl := b4X hx i
  simp (disch := omega) only [↓RA, RZ, simprocAttr, hn, g9, pS, q1, hix]
  refine Wp.al (fun n2 l H' => l.length = 29 ∧ get l 0 = f ∧ get l 1 = ptr A 0 2 ∧ get l 9 = .agg #[.int .u64 x.1, .int .u64 x.2] ∧ get l 10 = I i ∧ get l 3 = I i ∧ ∃ (y : Nat) (d : List Nat), (n2 = (nT y).length ∧ y < 18446744073709551616 ∧ nT (a6u x i) = d ++ nT y) ∧ get l 4 = .int .u64 y ∧ J (a4d x i ++ d.map fun (j : Nat) => 64 * (i : Int) + (j : Int)) H') (nT (a6u x i)).length ?_ ?_
  ·simp (disch := omega) only [RB, RC, simprocAttr, hn, g0, g1, g9, pS]
   exact ⟨a6u x i, [], ⟨rfl, hwl, rfl⟩, rfl, by rw [fN, dj]; exact hJ⟩
  rintro n2 l H8 ⟨hn, g0, g1, g9, pS, g3, y, d, ⟨hn2, hy, hbd⟩, g4, hJ2⟩
  simp (disch := omega) only [↓RA, RB, simprocAttr, hn, g4]
  refine gM (fun q2 => ?_) (fun q2 => ?_)
  ·have hy0 : y ≠ 0 := by omega
   have hc := a1r hy0 hy
   have hlow := b1A hy0 hy
   have hGl := (hg _ _ hJ2).2
   have eY1 : IntKind.wrap .u64 ((y : Int) - 1) = ((y - 1 : Nat) : Int) := by
    rw [a6Z]
    omega
   have eY2 : IntKind.wrap .u64 ((BitVec.ofInt (IntKind.bits .u64) (y : Int) &&& BitVec.ofInt (IntKind.bits .u64) ((y - 1 : Nat) : Int)).toNat : Int) = ((y &&& (y - 1) : Nat) : Int) := by
    rw [BitVec.toNat_and, wZ y hy, wZ _ (by omega)]
    have := Nat.and_le_left (n := y) (m := y - 1)
    exact pD _ (by omega) (by omega)
   have hyl : y &&& (y - 1) < 18446744073709551616 := Nat.lt_of_le_of_lt Nat.and_le_left hy
   have hmem : oK x = (a4d x i ++ d.map fun (j : Nat) => 64 * (i : Int) + (j : Int)) ++ (64 * (i : Int) + (zX y : Int)) :: ((nT (y &&& (y - 1))).map (fun (j : Nat) => 64 * (i : Int) + (j : Int)) ++ ((List.range 2).drop (i + 1)).flatMap (a2S x)) := by
    rw [← a5z]
    unfold a4d
    have e : List.range 2 = List.range i ++ i :: (List.range 2).drop (i + 1) := by
     rcases (by omega : i = 0 ∨ i = 1) with rfl | rfl <;> rfl
    rw [congrArg (List.flatMap (a2S x)) e, dY, dG]
    rw [show a2S x i = (d ++ nT y).map (fun (j : Nat) => 64 * (i : Int) + (j : Int)) from by unfold a2S; rw [hbd]]
    rw [hlow, dT, dO]
    simp only [eh, gI]
   have hc1 := hc.1
   simp (disch := omega) only [↓RA, RZ, simprocAttr, hn, g0, g3, g4, q2]
   refine (sR H8).cF (c2j ((sR H8).gl hGl) y hy0 hy) fun H1 hS1 => ?_
   simp (disch := omega) only [↓RA, RZ, simprocAttr, hn, q2]
   refine a8g (hf _ _ _ _ hmem (hst _ _ _ hJ2 hS1)) ?_
   rintro r H10 ⟨rfl, hJ3⟩
   simp (disch := omega) only [↓RA, RZ, simprocAttr, hn, g0, g1, g9, pS, g3, g4, q2, eY1, eY2]
   refine ⟨(nT (y &&& (y - 1))).length, by rw [hn2, hlow]; simp, y &&& (y - 1), d ++ [zX y], ⟨rfl, hyl, by rw [hbd, hlow]; simp⟩, rfl, ?_⟩
   rw [dT, dO, fN, ← eh]
   exact hJ3
  simp (disch := omega) only [↓RA, RZ, simprocAttr, hn, g0, g1, g9, pS, q2]
  have hy0 : y = 0 := by omega
  subst hy0
  refine ⟨n - 1, by omega, i + 1, by omega, by simp, ?_⟩
  rw [yM]
  have : a2S x i = d.map fun (j : Nat) => 64 * (i : Int) + (j : Int) := by
   unfold a2S
   rw [hbd, a8l, dj]
  rw [this]
  exact hJ2
 simp (disch := omega) only [↓RA, RZ, simprocAttr, c1L, q1]
 have e : i = 2 := by omega
 subst e
 rw [← a5z]
 exact hJ
theorem a1i (x : Nt) : (oK x).length ≤ 128 := by
 unfold oK
 rw [dh, dZ, dZ]
 have h1 := a4W x.1 64
 have h2 := a4W x.2 64
 unfold b3a at h1 h2
 unfold nT
 omega
theorem b0j (hG : Glob gH H) (x : Nt) (hx : Nt.Ok x) (A : Nat) (hA : Var H A 2 [.int .u64 x.1, .int .u64 x.2]) :
 Fn prog 187 [.slice none 0 0, .func (.func 188) #[] #[ptr A 0 2]] H fun r H' => St prog H H' [⟨r, 1, (oK x).flatMap (one I)⟩] := by
 refine .aM func187 rfl (by kernel_rfl) (m := 13) rfl fun l hn g0 g1 => ?_
 simp (disch := omega) only [↓RA, RB, simprocAttr, g0]
 refine (sR H).eNew 1 [(.slice none 0 0)] rfl rfl rfl b5F fun A1 H1 hS1 => ?_
 simp only [RT] at hS1
 simp (disch := omega) only [↓RA, RB, simprocAttr, g1]
 have hS2 := hS1.nil 0
 simp only [RT] at hS2
 refine Wp.cD fun lrg1 hlrg1 => ?_
 have hnrg1 : lrg1.length = 13 := by rw [hlrg1]; simp (disch := omega) only [RB, simprocAttr, hn]
 have g2rg1 : get lrg1 2 = (ptr A1 0 1) := by rw [hlrg1]; simp (disch := omega) only [RB, simprocAttr, hn]
 have g4rg1 : get lrg1 4 = (.slice none 0 0) := by rw [hlrg1]; simp (disch := omega) only [RB, simprocAttr, hn]
 have gfrg1 : get lrg1 6 = .func (.func 188) #[] [(ptr A 0 2)].toArray := by rw [hlrg1]; simp (disch := omega) only [RB, simprocAttr, hn]
 clear hlrg1
 refine Wp.ch gfrg1 fun rg1 hstrg1 hpdrg1 htmrg1 hpsrg1 hasrg1 hbdrg1 => ?_
 have hreqrg1 : ({ rg1 with state := .ready, pending := none } : Loop) = rg1 := by
  cases rg1
  simp only at hstrg1 hpdrg1
  subst hstrg1 hpdrg1
  rfl
 have hLprg1 := Lp.enter hS2 rg1
 generalize H1.cons (.loop rg1) = Hcrg1 at hLprg1 ⊢
 generalize H1.length = Lrg1 at hLprg1 ⊢
 refine (b8u x hx A (.func (.yield Lrg1) #[] #[]) (fun d H1 => ∃ ow, Lp prog H Lrg1 rg1 H1 [⟨ptr A1 0 1, 0, [ow]⟩, ⟨ow, 1, d.flatMap (one I)⟩]) ⟨.slice none 0 0, hLprg1⟩ ?_ ?_ ?_).mono ?_
 ·rintro d H1 ⟨ow, h⟩
  exact ⟨hA.ae h.st.ae, h.st.gl hG⟩
 ·rintro d H1 H2 ⟨ow, h⟩ hS
  exact ⟨ow, by simpa using h.ext hS⟩
 ·rintro d c e H20 hm ⟨ow, hLpj⟩
  have hml := a1i x
  have hdl : d.length < 128 := by
   rw [hm, dh, ec] at hml
   omega
  refine yR hLpj.get (by rw [hpsrg1]; rfl) hstrg1 ?_
  refine Wp.bN (l := put lrg1 (some 7) (I c)) hasrg1 (by rw [hpsrg1, htmrg1]; first | exact (lW ..).symm | rfl | simp [put, lW]) ?_
  simp (disch := omega) only [↓RA, RZ, simprocAttr, hnrg1]
  refine ⟨rg1, hLpj.get, hstrg1, ?_⟩
  have hYBs1 := hLpj.set (fun h => h) { rg1 with state := .busy }
  have hKBs1 : ∀ B, B ≠ Lrg1 → hK (hset H20 Lrg1 (.loop { rg1 with state := .busy })) B = hK H20 B := fun B h => iF _ (eH h)
  have hNBs1 : (hset H20 Lrg1 (.loop { rg1 with state := .busy })).length = H20.length := iS ..
  generalize hset H20 Lrg1 (.loop { rg1 with state := .busy }) = HBs1 at hYBs1 hKBs1 hNBs1 ⊢
  refine Wp.bN hbdrg1 rfl ?_
  have hZBs1 := hYBs1.st
  obtain ⟨Bs1, hBBs1, hS3⟩ := hZBs1.aB (os := [⟨ptr A1 0 1, 0, _⟩, ⟨ow, 1, _⟩])
  simp (disch := omega) only [↓RA, RZ, simprocAttr, hnrg1, g2rg1, hS3.ld 0 rfl]
  refine hS3.ai [I c] a3l a7R rfl rfl (by simp [Value.cells]) rfl rfl (by decide) (by decide) fun w1 H2 hS4 => ?_
  simp only [RT] at hS4
  simp (disch := omega) only [↓RA, RZ, simprocAttr, hnrg1]
  refine hS4.ar 1 rfl (hS4.rd 2 rfl) a3l (by rw [wC, dZ]; simp; omega) fun w2 H3 hS5 => ?_
  simp only [RT] at hS5
  simp (disch := omega) only [↓RA, RB, simprocAttr, hnrg1, g2rg1]
  refine hS5.aa 0 rfl [w2] (by rw [(hS5.rd 1 rfl).cells.1]) (by simp [(hS5.rd 1 rfl).cells.2.1]) b5F (by simp) fun H4 hS6 => ?_
  simp only [RT] at hS6
  simp (disch := omega) only [↓RA, simprocAttr]
  have hS7 := hS6.pick (os' := [⟨ptr A1 0 1, 0, _⟩, ⟨w2, 1, _⟩]) [0, 1] (by decide) rfl
  have hWBs1 := (hYBs1.body (hBBs1 ▸ hS7)).set (fun h => h) rg1
  rw [← hreqrg1] at hWBs1
  refine ⟨_, (hYBs1.body (hBBs1 ▸ hS7)).get, rfl, w2, ?_⟩
  rw [dY]
  exact hreqrg1 ▸ hWBs1
 ·rintro _ H21 ⟨ow, hLp2⟩
  refine ⟨_, hLp2.get, (by rw [hstrg1]; exact fun h => by cases h), fun _ => ?_, fun c hc => by rw [hpdrg1] at hc; cases hc⟩
  have hAAf1 := (hLp2.set (fun h => h) { rg1 with state := .exhausted }).st
  have hKAf1 : ∀ B, B ≠ Lrg1 → hK (hset H21 Lrg1 (.loop { rg1 with state := .exhausted })) B = hK H21 B := fun B h => iF _ (eH h)
  generalize hset H21 Lrg1 (.loop { rg1 with state := .exhausted }) = HAf1 at hAAf1 hKAf1 ⊢
  simp (disch := omega) only [↓RA, RZ, simprocAttr, hnrg1, g2rg1, hAAf1.ld 0 rfl, c1h]
  exact hAAf1.pick [1] (by decide) rfl
theorem a7d (hG : Glob gH H) (x : Nt) (hx : Nt.Ok x) (A : Nat) (hA : Var H A 2 [.int .u64 x.1, .int .u64 x.2]) :
 Fn prog 139 [.func (.func 188) #[] #[ptr A 0 2]] H fun r H' => St prog H H' [⟨r, 1, (oK x).flatMap (one I)⟩] := by
 refine .aS func139 rfl (by kernel_rfl) (m := 5) rfl fun l hn g0 => ?_
 simp (disch := omega) only [↓RA, RZ, simprocAttr, hn, g0]
 refine gV ((b0j ((sR H).gl hG) x hx A (hA.ae (sR H).ae)).tr) ?_
 rintro r H1 ⟨-, hT1⟩
 have hS1 := (sR H).trans hT1
 simp only [RT] at hS1
 simp (disch := omega) only [↓RA, RB, simprocAttr, hn, c0Y]
 exact hS1
theorem b6i (x : Nt) : Fn prog 140 [.agg #[.int .u64 x.1, .int .u64 x.2]] H fun r H' => ∃ A, r = .func (.func 188) #[] #[ptr A 0 2] ∧ St prog H H' [⟨ptr A 0 2, 0, [.int .u64 x.1, .int .u64 x.2]⟩] := by
 refine .aS func140 rfl (by kernel_rfl) (m := 4) rfl fun l hn g0 => ?_
 simp (disch := omega) only [↓RA, RB, simprocAttr, g0]
 refine (sR H).eNew 2 [(.int .u64 x.1), (.int .u64 x.2)] rfl rfl rfl nP fun A1 H1 hS1 => ?_
 simp only [RT] at hS1
 simp (disch := omega) only [↓RA, RZ, simprocAttr, hn, c2h]
 exact ⟨A1, rfl, hS1⟩
theorem a6K (hG : Glob gH H) (x : Nt) (hx : Nt.Ok x) :
 Fn prog 101 [.agg #[.int .u64 x.1, .int .u64 x.2]] H fun r H' => St prog H H' [⟨r, 1, (oK x).flatMap (one I)⟩] := by
 refine .aS func101 rfl (by kernel_rfl) (m := 6) rfl fun l hn g0 => ?_
 simp (disch := omega) only [↓RA, RB, simprocAttr, g0]
 refine (sR H).eNew 2 [(.int .u64 x.1), (.int .u64 x.2)] rfl rfl rfl nP fun A1 H1 hS1 => ?_
 simp only [RT] at hS1
 simp (disch := omega) only [↓RA, RZ, simprocAttr, hn, hS1.aj 0 rfl]
 refine gV (b6i x) ?_
 rintro r H2 ⟨A2, rfl, hT1⟩
 have hS2 := hS1.trans hT1
 simp only [RT] at hS2
 simp (disch := omega) only [↓RA, RZ, simprocAttr, hn]
 refine gV ((a7d (hS2.gl hG) x hx A2 (hS2.var 1 rfl)).tr) ?_
 rintro r H3 ⟨-, hT2⟩
 have hS3 := hS2.trans hT2
 simp only [RT] at hS3
 simp (disch := omega) only [↓RA, RB, simprocAttr, hn, c0h]
 exact hS3.pick [2] (by decide) rfl
def a4N (a b : Nat) : Nat := (BitVec.ofNat 64 a &&& ~~~ BitVec.ofNat 64 b).toNat
theorem b5L (a b : Nat) : a4N a b < 18446744073709551616 := (BitVec.ofNat 64 a &&& ~~~ BitVec.ofNat 64 b).isLt
theorem b7J (a b : Nat) : IntKind.wrap .u64 ((BitVec.ofInt (IntKind.bits .u64) (a : Int) &&& ~~~ BitVec.ofInt (IntKind.bits .u64) (b : Int)).toNat : Int) = ((a4N a b : Nat) : Int) := by
 have e : (BitVec.ofInt (IntKind.bits .u64) (a : Int) &&& ~~~ BitVec.ofInt (IntKind.bits .u64) (b : Int)).toNat = a4N a b := by
  unfold a4N
  rw [fY, fY]
  rfl
 rw [e]
 have := b5L a b
 exact pD _ (by omega) (by omega)
theorem a5N (a b j : Nat) (ha : a < 18446744073709551616) (hj : j < 64) : (a4N a b).testBit j = (a.testBit j && !b.testBit j) := by
 unfold a4N
 have h1 : (BitVec.ofNat 64 a &&& ~~~ BitVec.ofNat 64 b).toNat.testBit j = (BitVec.ofNat 64 a &&& ~~~ BitVec.ofNat 64 b).getLsbD j := rfl
 rw [h1, BitVec.getLsbD_and, BitVec.getLsbD_not, BitVec.getLsbD_ofNat, BitVec.getLsbD_ofNat]
 simp [hj]
def woF (x y : Nt) : Nt := (a4N x.1 y.1, a4N x.2 y.2)
theorem b9l (x y : Nt) : Fn prog 99 [.agg #[.int .u64 x.1, .int .u64 x.2], .agg #[.int .u64 y.1, .int .u64 y.2]] H fun r H' => r = .agg #[.int .u64 (woF x y).1, .int .u64 (woF x y).2] ∧ St prog H H' [] := by
 have e1 := b7J x.1 y.1
 have e2 := b7J x.2 y.2
 refine .aM func99 rfl (by kernel_rfl) (m := 16) rfl fun l hn g0 g1 => ?_
 simp (disch := omega) only [↓RA, RB, simprocAttr, g0]
 refine (sR H).eNew 2 [(.int .u64 x.1), (.int .u64 x.2)] rfl rfl rfl nP fun A1 H1 hS1 => ?_
 simp only [RT] at hS1
 simp (disch := omega) only [↓RA, RB, simprocAttr, g1]
 refine hS1.eNew 2 [(.int .u64 y.1), (.int .u64 y.2)] rfl rfl rfl nP fun A2 H2 hS2 => ?_
 simp only [RT] at hS2
 simp (disch := omega) only [↓RA, RZ, simprocAttr]
 refine hS2.eNew 2 [(.int .u64 0), (.int .u64 0)] rfl rfl rfl nP fun A3 H3 hS3 => ?_
 simp only [RT] at hS3
 simp (disch := omega) only [↓RA, RZ, simprocAttr, hn, hS3.ld 0 rfl, hS3.ld 1 rfl, b2T, e1, e2]
 refine hS3.aa 2 rfl [_, _] rfl rfl nP (by simp) fun H4 hS4 => ?_
 simp only [RT] at hS4
 simp (disch := omega) only [↓RA, RZ, simprocAttr, hn, c3z, hS4.aj 2 rfl]
 exact ⟨rfl, hS4.forget⟩
theorem a6F (x y : Nt) : Fn prog 50 [.agg #[.int .u64 x.1, .int .u64 x.2], .agg #[.int .u64 y.1, .int .u64 y.2]] H fun r H' => r = .bool (decide (woF x y = (0, 0))) ∧ St prog H H' [] := by
 refine .aM func50 rfl (by kernel_rfl) (m := 10) rfl fun l hn g0 g1 => ?_
 simp (disch := omega) only [↓RA, RB, simprocAttr, g0]
 refine (sR H).eNew 2 [(.int .u64 x.1), (.int .u64 x.2)] rfl rfl rfl nP fun A1 H1 hS1 => ?_
 simp only [RT] at hS1
 simp (disch := omega) only [↓RA, RB, simprocAttr, g1]
 refine hS1.eNew 2 [(.int .u64 y.1), (.int .u64 y.2)] rfl rfl rfl nP fun A2 H2 hS2 => ?_
 simp only [RT] at hS2
 simp (disch := omega) only [↓RA, RZ, simprocAttr, hn, hS2.aj 0 rfl, hS2.aj 1 rfl]
 refine hS2.cF (b9l x y) fun H3 hS3 => ?_
 simp (disch := omega) only [↓RA, RZ, simprocAttr, hn, b8f, c3a]
 refine ⟨?_, hS3.forget⟩
 congr 1
 rw [decide_eq_decide]
 constructor
 ·rintro ⟨h1, h2⟩
  exact gn (by simpa using h1) (by simpa using h2)
 ·intro h
  rw [h]
  exact ⟨rfl, rfl⟩
def yK (lo hi : Int) : Nt := iP ((List.range (hi - lo + 1).toNat).map fun (k : Nat) => lo + (k : Int))
theorem a9E (lo hi : Int) (h0 : 0 ≤ lo) (h1 : lo ≤ hi) (h2 : hi ≤ 127) : Fn prog 49 [.agg #[I lo, I hi]] H fun r H' => r = .tuple #[.agg #[.int .u64 (yK lo hi).1, .int .u64 (yK lo hi).2], I 0] ∧ St prog H H' [] := by
 have hce : pI lo hi = 0 := by
  unfold pI
  rw [if_neg (by omega), if_neg (by omega)]
 refine .aS func49 rfl (by kernel_rfl) (m := 25) rfl fun l hn g0 => ?_
 simp (disch := omega) only [↓RA, RB, simprocAttr, g0]
 refine (sR H).eNew 2 [I lo, I hi] rfl rfl rfl uB fun A1 H1 hS1 => ?_
 simp only [RT] at hS1
 simp (disch := omega) only [↓RA, RZ, simprocAttr]
 refine hS1.eNew 2 [(.int .u64 0), (.int .u64 0)] rfl rfl rfl nP fun A2 H2 hS2 => ?_
 simp only [RT] at hS2
 simp (disch := omega) only [↓RA, RZ, simprocAttr]
 refine hS2.eNew 2 [(.int .u64 0), (.int .u64 0)] rfl rfl rfl nP fun A3 H3 hS3 => ?_
 simp only [RT] at hS3
 simp (disch := omega) only [↓RA, RZ, simprocAttr, hn, hS3.aj 0 rfl]
 refine hS3.cF (zU lo hi) fun H4 hS4 => ?_
 rw [hce]
 simp (disch := omega) only [↓RA, RZ, simprocAttr, hn, hS4.ld 0 rfl]
 refine Wp.al (fun n l H' => l.length = 25 ∧ get l 1 = (ptr A1 0 2) ∧ get l 2 = (ptr A2 0 2) ∧ get l 3 = I 0 ∧ get l 4 = (ptr A3 0 2) ∧ ∃ (j : Nat), (n + j = (hi - lo + 1).toNat) ∧ get l 6 = I (lo + (j : Int)) ∧ St prog H H' [⟨ptr A1 0 2, 0, [I lo, I hi]⟩, ⟨ptr A2 0 2, 0, [(.int .u64 0), (.int .u64 0)]⟩, ⟨ptr A3 0 2, 0, [.int .u64 (iP ((List.range j).map fun (k : Nat) => lo + (k : Int))).1, .int .u64 (iP ((List.range j).map fun (k : Nat) => lo + (k : Int))).2]⟩]) (hi - lo + 1).toNat ?_ ?_
 ·simp (disch := omega) only [RB, RC, simprocAttr, hn]
  exact ⟨0, by omega, by simp, hS4⟩
 rintro n l H5 ⟨hn, g1, g2, g3, g4, j, hj, g6, hS5⟩
 simp (disch := omega) only [↓RA, RZ, simprocAttr, hn, g1, g6, hS5.ld 0 rfl]
 refine gM (fun q1 => ?_) (fun q1 => ?_)
 ·have hok : Nt.Ok (iP ((List.range j).map fun (k : Nat) => lo + (k : Int))) := xJ _ _ (fun z h => by
   obtain ⟨k, hk, rfl⟩ := dx.1 h
   have := dm.1 hk
   exact ⟨by omega, by omega⟩) ⟨by decide, by decide⟩
  have hsu : iP ((List.range (j + 1)).map fun (k : Nat) => lo + (k : Int)) = qX (iP ((List.range j).map fun (k : Nat) => lo + (k : Int))) (lo + (j : Int)) := by
   unfold iP
   rw [eZ, dT, gC]
   rfl
  simp (disch := omega) only [↓RA, RZ, simprocAttr, hn, g4, g6, hS5.aj 2 rfl, q1]
  refine hS5.cF (a5x (iP ((List.range j).map fun (k : Nat) => lo + (k : Int))) hok (lo + (j : Int)) (by omega) (by omega)) fun H6 hS6 => ?_
  simp (disch := omega) only [↓RA, RZ, simprocAttr, hn, g4, q1]
  refine hS6.aa 2 rfl [(.int .u64 (qX (iP ((List.range j).map fun (k : Nat) => lo + (k : Int))) (lo + (j : Int))).1), (.int .u64 (qX (iP ((List.range j).map fun (k : Nat) => lo + (k : Int))) (lo + (j : Int))).2)] rfl rfl nP (by simp) fun H7 hS7 => ?_
  simp only [RT] at hS7
  simp (disch := omega) only [↓RA, RZ, simprocAttr, hn, g1, g2, g3, g4, g6, q1]
  refine ⟨n - 1, by omega, j + 1, by omega, by congr 1; omega, ?_⟩
  rw [hsu]
  exact hS7.pick [0, 1, 2] (by decide) rfl
 have hjj : j = (hi - lo + 1).toNat := by omega
 simp (disch := omega) only [↓RA, RZ, simprocAttr, hn, g2, g4, hS5.aj 2 rfl, q1]
 refine hS5.aa 1 rfl [(.int .u64 (iP ((List.range j).map fun (k : Nat) => lo + (k : Int))).1), (.int .u64 (iP ((List.range j).map fun (k : Nat) => lo + (k : Int))).2)] rfl rfl nP (by simp) fun H8 hS8 => ?_
 simp only [RT] at hS8
 simp (disch := omega) only [↓RA, RZ, simprocAttr, hn, g2, c2P, hS8.aj 1 rfl, q1]
 rw [hjj]
 exact ⟨rfl, hS8.forget⟩
structure Ks (H : Heap) (kv : Value) (ks : List Nt) : Prop where
 sl : Sl 2 ntc H kv ks
 len : ks.length < 1000000000
 ok : ∀ x ∈ ks, Nt.Ok x
theorem Ks.ae {P : Program} {H' : Heap} {kv : Value} {ks : List Nt} {os : List Ob} (h : Ks H kv ks) (hS : St P H H' os) : Ks H' kv ks := ⟨hS.sl h.sl, h.len, h.ok⟩
def oA (o : Org) (ks : List Nt) : Int := if organE o ≠ 0 then organE o else if ks.length ≠ o.dvs.length then 5 else if ∃ j, j < o.dvs.length ∧ woF (gN ks j) (yK (gN o.dvs j).lo (gN o.dvs j).hi) ≠ (0, 0) then 23 else 0
theorem a5T (o : Org) (ho : o.In H) (kv : Value) (ks : List Nt) (hk : Ks H kv ks) : Fn prog 14 [.agg #[.string o.name, o.rv, o.dv, o.cv], kv] H fun r H' => r = I (oA o ks) ∧ St prog H H' [] := by
 have hkl := hk.len
 have hdl := ho.2.2.2.2.2.2.1
 refine .aM func14 rfl (by kernel_rfl) (m := 43) rfl fun l hn g0 g1 => ?_
 simp (disch := omega) only [↓RA, RB, simprocAttr, g0]
 refine (sR H).eNew 4 [(.string o.name), o.rv, o.dv, o.cv] rfl rfl (by simp [OC, ((sR H).sl ho.1).cells.2.1, ((sR H).sl ho.2.2.1).cells.2.1, ((sR H).sl ho.2.2.2.2.1).cells.2.1]) oD fun A1 H1 hS1 => ?_
 simp only [RT] at hS1
 simp (disch := omega) only [↓RA, RZ, simprocAttr, hn, hS1.aj 0 rfl]
 refine hS1.cF (a0C o (ho.ae hS1)) fun H2 hS2 => ?_
 simp (disch := omega) only [↓RA, RB, simprocAttr, hn]
 refine gM (fun h1 => ?_) (fun h1 => ?_)
 ·simp (disch := omega) only [↓RA, RZ, simprocAttr, hn, b7h, h1]
  exact ⟨by unfold oA; rw [if_pos h1], hS2.forget⟩
 have hz : organE o = 0 := di.1 h1
 have hf := Org.bE hz
 simp (disch := omega) only [↓RA, RZ, simprocAttr, hn, g1, (hS2.sl hk.sl).len, hS2.ld 0 rfl, (hS2.sl ho.2.2.1).len, h1]
 refine gM (fun h2 => ?_) (fun h2 => ?_)
 ·simp (disch := omega) only [↓RA, RZ, simprocAttr, hn, b7h, h1, h2]
  exact ⟨by unfold oA; rw [if_neg h1, if_pos (by omega)], hS2.forget⟩
 have hlen : ks.length = o.dvs.length := by omega
 simp (disch := omega) only [↓RA, RZ, simprocAttr, hn, hS2.ld 0 rfl, (hS2.sl ho.2.2.1).len, h1, h2]
 refine Wp.al (fun n l H' => l.length = 43 ∧ get l 1 = kv ∧ get l 22 = o.dv ∧ get l 23 = I o.dvs.length ∧ ∃ (j : Nat), (n + j = o.dvs.length ∧ ∀ q, q < j → woF (gN ks q) (yK (gN o.dvs q).lo (gN o.dvs q).hi) = (0, 0)) ∧ get l 24 = I j ∧ St prog H H' [⟨ptr A1 0 4, 0, [(.string o.name), o.rv, o.dv, o.cv]⟩]) o.dvs.length ?_ ?_
 ·simp (disch := omega) only [RB, RC, simprocAttr, hn, g1]
  exact ⟨0, ⟨by omega, fun q hq => absurd hq (dz _)⟩, rfl, hS2⟩
 rintro n l H3 ⟨hn, g1, g22, g23, j, ⟨hj,hq⟩, g24, hS3⟩
 simp (disch := omega) only [↓RA, RB, simprocAttr, hn, g23, g24]
 refine gM (fun h3 => ?_) (fun h3 => ?_)
 ·have hky := hf.keys j (by omega)
  simp (disch := omega) only [↓RA, RZ, simprocAttr, hn, g22, g24, (hS3.sl ho.2.2.1).idx, (hS3.sl ho.2.2.1).aj, Dvn.cells, h3]
  refine hS3.eNew 5 [(.string ⟨#[]⟩), (.bool false), I 0, I 0, (.slice none 0 0)] rfl rfl rfl tS fun A2 H4 hS4 => ?_
  simp only [RT] at hS4
  simp (disch := omega) only [↓RA, RZ, simprocAttr, hn, h3]
  refine hS4.aa 1 rfl [(.string (gN o.dvs j).name), (.bool (gN o.dvs j).pedal), I (gN o.dvs j).lo, I (gN o.dvs j).hi, (gN o.dvs j).sv] rfl (by simp [OC, (hS4.sl (ho.2.2.2.1 (gN o.dvs j) (gS (by omega))).1).cells.2.1]) tS (by simp) fun H5 hS5 => ?_
  simp only [RT] at hS5
  simp (disch := omega) only [↓RA, RZ, simprocAttr, hn, hS5.aj 1 rfl, h3]
  refine hS5.cF (a9E (gN o.dvs j).lo (gN o.dvs j).hi hky.1 hky.2.1 hky.2.2) fun H6 hS6 => ?_
  simp (disch := omega) only [↓RA, RZ, simprocAttr, hn, h3]
  refine hS6.eNew 2 [(.int .u64 0), (.int .u64 0)] rfl rfl rfl nP fun A3 H7 hS7 => ?_
  simp only [RT] at hS7
  simp (disch := omega) only [↓RA, RZ, simprocAttr, hn, h3]
  refine hS7.aa 2 rfl [(.int .u64 (yK (gN o.dvs j).lo (gN o.dvs j).hi).1), (.int .u64 (yK (gN o.dvs j).lo (gN o.dvs j).hi).2)] rfl rfl nP (by simp) fun H8 hS8 => ?_
  simp only [RT] at hS8
  simp (disch := omega) only [↓RA, RZ, simprocAttr, hn, h3]
  refine Wp.drw jM (by kernel_rfl) ?_
  simp (disch := omega) only [↓RA, RZ, simprocAttr, hn, g1, (hS8.sl hk.sl).idx, (hS8.sl hk.sl).aj, ntc, hS8.aj 2 rfl]
  refine hS8.cF (a6F (gN ks j) (yK (gN o.dvs j).lo (gN o.dvs j).hi)) fun H9 hS9 => ?_
  simp (disch := omega) only [↓RA, RB, simprocAttr, hn]
  refine jE (fun h4 => ?_) (fun h4 => ?_)
  ·have h5 : ¬ woF (gN ks j) (yK (gN o.dvs j).lo (gN o.dvs j).hi) = (0, 0) := by simpa using h4
   simp (disch := omega) only [↓RA, RB, simprocAttr, hn, b7h, h4]
   exact ⟨by unfold oA; rw [if_neg h1, if_neg (by omega), if_pos ⟨j, by omega, h5⟩], hS9.forget⟩
  have h5 : woF (gN ks j) (yK (gN o.dvs j).lo (gN o.dvs j).hi) = (0, 0) := by simpa using h4
  simp (disch := omega) only [↓RA, RZ, simprocAttr, hn, g1, g22, g23, g24, h4]
  exact ⟨n - 1, by omega, j + 1, ⟨by omega, fun q hq' => by rcases de.1 hq' with e | e; (· exact hq q e); (· rw [e]; exact h5)⟩, by simp, hS9.pick [0] (by decide) rfl⟩
 simp (disch := omega) only [↓RA, RZ, simprocAttr, hn, b7h, h3]
 refine ⟨?_, hS3.forget⟩
 unfold oA
 rw [if_neg h1, if_neg (by omega), if_neg]
 rintro ⟨q, hq1, hq2⟩
 exact hq2 (hq q (by omega))
def plD (ks : List Nt) (i : Nat) : List Ct := (oK (gN ks i)).map fun z => ((i : Int), z)
def jZ (ks : List Nt) : List Ct := (List.range ks.length).flatMap (plD ks)
theorem b9T (ks : List Nt) (i : Nat) : (plD ks i).length ≤ 128 := by
 unfold plD
 rw [dZ]
 exact a1i _
theorem b4J (ks : List Nt) : ∀ i, ((List.range i).flatMap (plD ks)).length ≤ i * 128
 | 0 => by simp
 | i + 1 => by
   have := b4J ks i
   have := b9T ks i
   rw [eZ, dY, dh, dG, fA, dj]
   omega
theorem tP (hG : Glob gH H) (kv : Value) (ks : List Nt) (hk : Ks H kv ks) (h8 : ks.length ≤ 8) : Fn prog 53 [kv] H fun r H' => St prog H H' [⟨r, 2, pr (jZ ks)⟩] := by
 refine .aS func53 rfl (by kernel_rfl) (m := 31) rfl fun l hn g0 => ?_
 simp (disch := omega) only [↓RA, RZ, simprocAttr, hn, g0, ((sR H).sl hk.sl).len]
 have hS1 := (sR H).nil 1
 simp only [RT] at hS1
 refine Wp.al (fun n l H' => l.length = 31 ∧ get l 2 = (.slice none 0 0) ∧ get l 8 = kv ∧ get l 9 = I ks.length ∧ ∃ (i : Nat) (ov : Value), (n + i = ks.length) ∧ get l 10 = I i ∧ get l 3 = ov ∧ St prog H H' [⟨ov, 2, pr ((List.range i).flatMap (plD ks))⟩]) ks.length ?_ ?_
 ·simp (disch := omega) only [RB, RC, simprocAttr, hn]
  exact ⟨0, .slice none 0 0, by omega, rfl, rfl, hS1⟩
 rintro n l H1 ⟨hn, g2, g8, g9, i, ov, hi, pS, g3, hS2⟩
 simp (disch := omega) only [↓RA, RB, simprocAttr, hn, g9, pS]
 refine gM (fun q1 => ?_) (fun q1 => ?_)
 ·have hmo := hk.ok _ (gS (xs := ks) (j := i) (by omega))
  have hml := a1i (gN ks i)
  have hpl := b4J ks i
  simp (disch := omega) only [↓RA, RZ, simprocAttr, hn, g8, pS, (hS2.sl hk.sl).idx, (hS2.sl hk.sl).aj, ntc, q1]
  refine hS2.eNew 2 [(.int .u64 0), (.int .u64 0)] rfl rfl rfl nP fun A1 H2 hS3 => ?_
  simp only [RT] at hS3
  simp (disch := omega) only [↓RA, RZ, simprocAttr, hn, q1]
  refine hS3.aa 1 rfl [(.int .u64 (gN ks i).1), (.int .u64 (gN ks i).2)] rfl rfl nP (by simp) fun H3 hS4 => ?_
  simp only [RT] at hS4
  simp (disch := omega) only [↓RA, RZ, simprocAttr, hn, hS4.aj 1 rfl, q1]
  refine gV ((a6K (hS4.gl hG) (gN ks i) hmo).tr) ?_
  rintro r H4 ⟨-, hT1⟩
  have hS5 := hS4.trans hT1
  simp only [RT] at hS5
  obtain ⟨mw, rfl⟩ : ∃ w, w = r := ⟨r, rfl⟩
  simp (disch := omega) only [↓RA, RZ, simprocAttr, hn, (hS5.ay 2 rfl (fun _ => rfl)).len, q1]
  refine Wp.al (fun n l H' => l.length = 31 ∧ get l 2 = (.slice none 0 0) ∧ get l 4 = I i ∧ get l 8 = kv ∧ get l 9 = I ks.length ∧ get l 10 = I i ∧ get l 16 = mw ∧ get l 17 = I (oK (gN ks i)).length ∧ ∃ (j : Nat) (ow : Value), (n + j = (oK (gN ks i)).length) ∧ get l 18 = I j ∧ get l 3 = ow ∧ St prog H H' [⟨ow, 2, pr ((List.range i).flatMap (plD ks) ++ ((oK (gN ks i)).take j).map fun z => ((i : Int), z))⟩, ⟨ptr A1 0 2, 0, [(.int .u64 (gN ks i).1), (.int .u64 (gN ks i).2)]⟩, ⟨mw, 1, (oK (gN ks i)).flatMap (one I)⟩]) (oK (gN ks i)).length ?_ ?_
  ·simp (disch := omega) only [RB, RC, simprocAttr, hn, g2, g8, g9, pS, g3]
   refine ⟨0, ov, by omega, rfl, rfl, ?_⟩
   rw [List.take_zero, fN, dj]
   exact hS5
  rintro n l H5 ⟨hn, g2, g4, g8, g9, pS, g16, g17, j, ow, hj, g18, g3, hS6⟩
  simp (disch := omega) only [↓RA, RB, simprocAttr, hn, g17, g18]
  refine gM (fun q2 => ?_) (fun q2 => ?_)
  ·have hroom : (pr ((List.range i).flatMap (plD ks) ++ ((oK (gN ks i)).take j).map fun z => ((i : Int), z))).length ≤ 4000 := by
    rw [gT, dh, dZ, gK]
    omega
   simp (disch := omega) only [↓RA, RZ, simprocAttr, hn, g4, g16, g18, g3, (hS6.ay 2 rfl (fun _ => rfl)).idx, (hS6.ay 2 rfl (fun _ => rfl)).ld, one, wT, q2]
   refine hS6.ai [I i, I (gN (oK (gN ks i)) j)] a1K b4E rfl rfl (by simp [Value.cells]) rfl rfl (by decide) (by decide) fun w1 H6 hS7 => ?_
   simp only [RT] at hS7
   simp (disch := omega) only [↓RA, RZ, simprocAttr, hn, q2]
   refine hS7.ar 0 rfl (hS7.rd 3 rfl) a1K (by have h := hroom; simp only [ec, eN]; omega) fun w2 H7 hS8 => ?_
   simp only [RT] at hS8
   simp (disch := omega) only [↓RA, RZ, simprocAttr, hn, g2, g4, g8, g9, pS, g16, g17, g18, q2]
   refine ⟨n - 1, by omega, j + 1, w2, by omega, by simp, rfl, ?_⟩
   rw [List.take_add_one, db (by omega), Option.toList_some, dT, ← eh, jI]
   rw [show (oK (gN ks i))[j] = gN (oK (gN ks i)) j from (jJ _ _ (by omega)).symm]
   exact hS8.pick [0, 1, 2] (by decide) rfl
  simp (disch := omega) only [↓RA, RZ, simprocAttr, hn, g2, g8, g9, pS, g3, q2]
  have hjj : j = (oK (gN ks i)).length := by omega
  refine ⟨ks.length - (i + 1), by omega, i + 1, ow, by omega, by simp, rfl, ?_⟩
  rw [eZ, dY, dG, fA, dj]
  rw [show plD ks i = ((oK (gN ks i)).take j).map (fun z => ((i : Int), z)) from by rw [hjj, ee]; rfl]
  exact hS6.pick [0] (by decide) rfl
 have hii : i = ks.length := by omega
 simp (disch := omega) only [↓RA, RZ, simprocAttr, hn, g3, c3i, q1]
 have hfin := hS2
 rw [hii] at hfin
 exact hfin
end Go.Ds
namespace Go.Ds
open Go.Proofs Go.Proofs.Tryz Go.ChangeShapes Go.WideShapes Go.RowKit Go.Deep
set_option maxRecDepth 10000
theorem b1T : prog.cellsOf 28 = 1 := by kernel_rfl
theorem c2u : prog.cellsOf 96 = 2 := by kernel_rfl
theorem c0E : prog.cellsOf 27 = 1 := by kernel_rfl
theorem b9t : prog.cellsOf 30 = 3 := by kernel_rfl
theorem c1G : gP prog 28 = some 1 := by kernel_rfl
theorem c3K : gP prog 96 = some 2 := by kernel_rfl
structure RgI (H : Heap) (r : Reg) (sv : Value) : Prop where
 sl : Sl 1 (one u64) H sv r.stops
 len : r.stops.length < 9223372036854775808
 ok : ∀ x ∈ r.stops, x < 18446744073709551616
 cpl : r.cpl < 18446744073709551616
 off : r.off < 18446744073709551616
structure KsI (H : Heap) (kv : Value) (ks : List Nt) : Prop where
 sl : Sl 2 ntc H kv ks
 len : ks.length < 9223372036854775808
 ok : ∀ x ∈ ks, Nt.Ok x
theorem RgI.ext {ρ ρ' : Rho} {H H' : Heap} {r : Reg} {sv : Value} (h : RgI H r sv) (e : ExtW ρ H ρ' H') : RgI H' r sv := ⟨h.sl.ext e, h.len, h.ok, h.cpl, h.off⟩
theorem RgI.ae {P : Program} {H H0 : Heap} {os : List Ob} {r : Reg} {sv : Value} (h : RgI H0 r sv) (hS : St P H0 H os) : RgI H r sv := ⟨hS.sl h.sl, h.len, h.ok, h.cpl, h.off⟩
theorem KsI.ae {P : Program} {H H0 : Heap} {os : List Ob} {kv : Value} {ks : List Nt} (h : KsI H0 kv ks) (hS : St P H0 H os) : KsI H kv ks := ⟨hS.sl h.sl, h.len, h.ok⟩
theorem RgI.reg {H : Heap} {r : Reg} {sv : Value} (h : RgI H r sv) (hl : r.stops.length < 1000000000) : r.In H sv := ⟨h.sl, hl, h.ok, h.cpl, h.off⟩
theorem KsI.ks {H : Heap} {kv : Value} {ks : List Nt} (h : KsI H kv ks) (hl : ks.length < 1000000000) : Ks H kv ks := ⟨h.sl, hl, h.ok⟩
theorem Pln.In.ext {ρ ρ' : Rho} {H H' : Heap} {p : Pln} (h : p.In H) (e : ExtW ρ H ρ' H') : p.In H' := ⟨h.1.ext e, h.2.1.ext e, fun b hb => ⟨(h.2.2.1 b hb).1.ext e, (h.2.2.1 b hb).2⟩, h.2.2.2.1.ext e, h.2.2.2.2⟩
section
variable {H0 : Type} {enc : TypeId × Value → H0} {w : World} {base n : Nat} {spare : Nat → Bool} {jW : Bool} {x : DataW H0 × List MemPlace}
theorem a3O {cs : List Value} (h : DataW.trod enc prog w base spare jW n 28 cs = some x) : ∃ m : Nat, cs = one u64 m ∧ m < 18446744073709551616 := by
 obtain ⟨m, hv, _, hw⟩ := DataW.trod_int underlying28 h
 have hm : 0 ≤ m ∧ m ≤ 18446744073709551615 := by simpa [Lit.wf, IntKind.min, IntKind.max, IntKind.signed, IntKind.bits] using hw
 refine ⟨m.toNat, ?_, by omega⟩
 rw [hv]
 show _ = [Value.int .u64 ((m.toNat : Nat) : Int)]
 rw [fx hm.1]
theorem u64_in {v : Value} (h : DataW.trod enc prog w base spare jW n 28 [v] = some x) : ∃ m : Nat, v = .int .u64 m ∧ m < 18446744073709551616 := by
 obtain ⟨m, hv, hm⟩ := a3O h
 exact ⟨m, by simpa [one, u64] using hv, hm⟩
theorem c2k {cs : List Value} (h : DataW.trod enc prog w base spare jW n 96 cs = some x) : ∃ p : Nt, cs = ntc p ∧ Nt.Ok p := by
 obtain ⟨hl, m, hf⟩ := sU underlying96 h
 rw [c2u] at hl
 match cs, hl with
 | [c0, c1], _ =>
   obtain ⟨_, h0⟩ := hf 0 ⟨_, 28, 0, _, _, _, _⟩ rfl
   obtain ⟨_, h1⟩ := hf 1 ⟨_, 28, 1, _, _, _, _⟩ rfl
   simp only [b1T] at h0 h1
   obtain ⟨a, rfl, ha⟩ := u64_in h0
   obtain ⟨b, rfl, hb⟩ := u64_in h1
   exact ⟨(a, b), rfl, ha, hb⟩
end
section
variable {H0 : Type} {enc : TypeId × Value → H0} {w : World} {base fuel : Nat} {jW : Bool} {x : DataW H0 × List MemPlace} {ρ : Rho} {H : Heap}
theorem c2C {v0 : Value} {d0 : DataW H0} {p0 : List MemPlace} {c0 : Nat} (h : InW prog ρ H w) {b0 : Nat} {cur0 : Array Value} {t0 : TypeId} {fr0 : Nat × Nat} (hb0 : w.heap[b0]? = some (.cells cur0 t0 fr0)) (h0 : DataW.Trod enc prog w base (fun _ => true) jW 30 v0 d0 p0) (hval : Value.okWide prog w .any c0 30 v0) :
 ∃ (ρ' : Rho) (H' : Heap) (sv : Value) (rg : Reg), InW prog ρ' H' w ∧ ExtW ρ H ρ' H' ∧ V ρ' (.agg #[sv, .int .u64 rg.cpl, .int .u64 rg.off]) v0 ∧ RgI H' rg sv := by
 obtain ⟨cs, rfl, hsz⟩ := okWide_struct underlying30 hval
 rw [b9t] at hsz
 obtain ⟨fuel, hf⟩ := h0
 obtain ⟨l⟩ := cs
 have hl : l.length = 3 := hsz
 match l, hl with
 | [x, y, z], _ =>
   obtain ⟨_, m, hf⟩ := sU (cs := [x, y, z]) underlying30 hf
   obtain ⟨_, h0⟩ := hf 0 ⟨_, 27, 0, _, _, _, _⟩ rfl
   obtain ⟨_, h1⟩ := hf 1 ⟨_, 28, 1, _, _, _, _⟩ rfl
   obtain ⟨_, h2⟩ := hf 2 ⟨_, 28, 2, _, _, _, _⟩ rfl
   simp only [b1T, c0E] at h0 h1 h2
   obtain ⟨ρ1, H1, v1, xs, i1, i2, i3, i4, i5, i6⟩ := tM underlying27 b1T c1G (by decide) (fun _ => rfl) (fun x c hc => by
    simp only [one, dK, dN, or_false] at hc
    rw [hc]
    rfl) (fun hh => a3O hh) h hb0 h0
   obtain ⟨a, rfl, ha⟩ := u64_in h1
   obtain ⟨b, rfl, hb⟩ := u64_in h2
   exact ⟨ρ1, H1, v1, ⟨xs, a, b⟩, i1, i2, .v1 (.agg ⟨i3, .c0 (.flat rfl), .c0 (.flat rfl), trivial⟩), i4, i6, i5, ha, hb⟩
theorem b3O {t : TypeId} (ht : prog.underlying t = some (.slice 96)) {v0 : Value} {d0 : DataW H0} {p0 : List MemPlace} {c0 : Nat} (h : InW prog ρ H w) {b0 : Nat} {cur0 : Array Value} {t0 : TypeId} {fr0 : Nat × Nat} (hb0 : w.heap[b0]? = some (.cells cur0 t0 fr0)) (h0 : DataW.Trod enc prog w base (fun _ => true) jW t v0 d0 p0) (hval : Value.okWide prog w .any c0 t v0) :
 ∃ (ρ' : Rho) (H' : Heap) (kv : Value) (ks : List Nt), InW prog ρ' H' w ∧ ExtW ρ H ρ' H' ∧ V ρ' kv v0 ∧ KsI H' kv ks := by
 obtain ⟨a, len, cap, rfl⟩ := okWide_slice ht hval
 obtain ⟨fuel, hf⟩ := h0
 obtain ⟨ρ1, H1, v1, xs, i1, i2, i3, i4, i5, i6⟩ := tM ht c2u c3K (by decide) (fun _ => rfl) (fun x c hc => by
  simp only [ntc, dK, dN, or_false] at hc
  rcases hc with rfl | rfl <;> rfl) (fun hh => c2k hh) h hb0 hf
 exact ⟨ρ1, H1, v1, xs, i1, i2, .v1 (.c1 i3), i4, i6, i5⟩
end
section
variable {H0 : Type} {enc : TypeId × Value → H0} {w : World} {base fuel : Nat} {jW : Bool} {x : DataW H0 × List MemPlace} {ρ : Rho} {H : Heap}
theorem a8Z {cs : List Value} (h : InW prog ρ H w) {b0 : Nat} {cur0 : Array Value} {t0 : TypeId} {fr0 : Nat × Nat} (hb0 : w.heap[b0]? = some (.cells cur0 t0 fr0)) (hf : DataW.trod enc prog w base (fun _ => true) jW fuel 30 cs = some x) :
 ∃ (ρ' : Rho) (H' : Heap) (sv : Value) (rg : Reg) (c0 c1 c2 : Value), InW prog ρ' H' w ∧ ExtW ρ H ρ' H' ∧ cs = [c0, c1, c2] ∧ C1 ρ' sv c0 ∧ c1 = .int .u64 rg.cpl ∧ c2 = .int .u64 rg.off ∧ RgI H' rg sv := by
 obtain ⟨hl, m, hf⟩ := sU underlying30 hf
 rw [b9t] at hl
 match cs, hl with
 | [x, y, z], _ =>
   obtain ⟨_, h0⟩ := hf 0 ⟨_, 27, 0, _, _, _, _⟩ rfl
   obtain ⟨_, h1⟩ := hf 1 ⟨_, 28, 1, _, _, _, _⟩ rfl
   obtain ⟨_, h2⟩ := hf 2 ⟨_, 28, 2, _, _, _, _⟩ rfl
   simp only [b1T, c0E] at h0 h1 h2
   obtain ⟨ρ1, H1, v1, xs, i1, i2, i3, i4, i5, i6⟩ := tM underlying27 b1T c1G (by decide) (fun _ => rfl) (fun x c hc => by
    simp only [one, dK, dN, or_false] at hc
    rw [hc]
    rfl) (fun hh => a3O hh) h hb0 h0
   obtain ⟨a, rfl, ha⟩ := u64_in h1
   obtain ⟨b, rfl, hb⟩ := u64_in h2
   exact ⟨ρ1, H1, v1, ⟨xs, a, b⟩, _, _, _, i1, i2, rfl, i3, rfl, rfl, i4, i6, i5, ha, hb⟩
theorem b6I {v0 : Value} {d0 : DataW H0} {p0 : List MemPlace} {c0 : Nat} (h : InW prog ρ H w) {b0 : Nat} {cur0 : Array Value} {t0 : TypeId} {fr0 : Nat × Nat} (hb0 : w.heap[b0]? = some (.cells cur0 t0 fr0)) (h0 : DataW.Trod enc prog w base (fun _ => true) jW 31 v0 d0 p0) (hval : Value.okWide prog w .any c0 31 v0) :
 ∃ (ρ' : Rho) (H' : Heap) (sva : Value) (rga : Reg) (svb : Value) (rgb : Reg), InW prog ρ' H' w ∧ ExtW ρ H ρ' H' ∧ V ρ' (.agg #[sva, .int .u64 rga.cpl, .int .u64 rga.off, svb, .int .u64 rgb.cpl, .int .u64 rgb.off]) v0 ∧ RgI H' rga sva ∧ RgI H' rgb svb := by
 simp only [Value.okWide, underlying31] at hval
 obtain ⟨cs, rfl, hsz, _⟩ := hval
 rw [show prog.cellsOf 31 = 6 by kernel_rfl] at hsz
 obtain ⟨fuel, hh⟩ := h0
 obtain ⟨l⟩ := cs
 have hl : l.length = 6 := hsz
 match l, hl with
 | [x0, x1, x2, x3, x4, x5], _ =>
   obtain ⟨xs, m, _, _, _, hxl, hf⟩ := DataW.trod_array (cs := [x0, x1, x2, x3, x4, x5]) underlying31 hh
   have hy : ∀ i, i < 2 → ∃ y', DataW.trod enc prog w base (fun _ => true) jW m 30 ((([x0, x1, x2, x3, x4, x5] : List Value).drop (i * 3)).take 3) = some y' := fun i hi => by
    have := hf i hi
    rw [b9t] at this
    exact ⟨xs[i], by rw [this, db (by omega)]⟩
   obtain ⟨_, h0⟩ := hy 0 (by decide)
   obtain ⟨_, h1⟩ := hy 1 (by decide)
   obtain ⟨ρ1, H1, sva, rga, a0, a1, a2, i1, i2, ea, i3, i4, i5, i6⟩ := a8Z h hb0 h0
   obtain ⟨ρ2, H2, svb, rgb, b0, b1, b2, j1, j2, eb, j3, j4, j5, j6⟩ := a8Z i1 hb0 h1
   simp only [Nat.zero_mul, List.drop_zero, gh, List.take_zero, eY, and_true] at ea
   simp only [Nat.one_mul, List.drop_succ_cons, List.drop_zero, gh, List.take_zero, eY, and_true] at eb
   obtain ⟨rfl, rfl, rfl⟩ := ea
   obtain ⟨rfl, rfl, rfl⟩ := eb
   subst i4 i5 j4 j5
   exact ⟨ρ2, H2, sva, rga, svb, rgb, j1, i2.trans j2, .v1 (.agg ⟨i3.mono j2.le, .c0 (.flat rfl), .c0 (.flat rfl), j3, .c0 (.flat rfl), .c0 (.flat rfl), trivial⟩), i6.ext j2, j6⟩
end
end Go.Ds
namespace Go.Ds
open Go.Proofs
set_option maxRecDepth 10000
def ltP (x y : Int × Int) : Prop := x.1 < y.1 ∨ (x.1 = y.1 ∧ x.2 < y.2)
theorem b5o {x : Int × Int} : ¬ ltP x x := by unfold ltP; omega
theorem a2l {x y z : Int × Int} (h : ltP x y) (k : ltP y z) : ltP x z := by unfold ltP at *; omega
theorem b2s {es : List (Int × Int)} (h : es.Pairwise fun a b => le2 a b = true) {i j : Nat} (hij : i < j) (hj : j < es.length) : le2 (gN es i) (gN es j) = true := by
 rw [jJ _ _ (by omega), jJ _ _ hj]
 exact dS.1 h i j (by omega) hj hij
theorem b4z {es : List (Int × Int)} (h : es.Pairwise fun a b => le2 a b = true) : ∀ m, m ≤ es.length → (wN es m).Pairwise ltP ∧ ∀ x, x ∈ wN es m ↔ ∃ j, j < m ∧ gN es j = x
 | 0, _ => ⟨by simp [wN], fun x => by simp [wN]⟩
 | m + 1, hm => by
   obtain ⟨h1, h2⟩ := b4z h m (by omega)
   rw [qB]
   by_cases hc : m = 0 ∨ gN es m ≠ gN es (m - 1)
   ·rw [if_pos hc]
    refine ⟨?_, fun x => ?_⟩
    ·rw [fq]
     refine ⟨h1, by simp, fun a ha b hb => ?_⟩
     obtain ⟨j, hj, rfl⟩ := (h2 a).1 ha
     obtain rfl := dC.1 hb
     have h3 := (nD _ _).1 (b2s h hj (by omega))
     rcases hc with hc | hc
     ·omega
     ·by_cases he : j = m - 1
      ·subst he
       have hne : ¬ (gN es (m - 1) = gN es m) := fun e => hc e.symm
       rw [Prod.ext_iff] at hne
       unfold ltP
       omega
      ·have h4 := (nD _ _).1 (b2s h (show j < m - 1 by omega) (by omega))
       have h5 := (nD _ _).1 (b2s h (show m - 1 < m by omega) (by omega))
       have hne : ¬ (gN es (m - 1) = gN es m) := fun e => hc e.symm
       rw [Prod.ext_iff] at hne
       unfold ltP
       omega
    ·rw [dE, h2, dC]
     constructor
     ·rintro (⟨j, hj, e⟩ | e)
      ·exact ⟨j, by omega, e⟩
      ·exact ⟨m, by omega, e.symm⟩
     ·rintro ⟨j, hj, e⟩
      rcases de.1 hj with e2 | e2
      ·exact .inl ⟨j, e2, e⟩
      ·subst e2
       exact .inr e.symm
   ·rw [if_neg hc, dj]
    refine ⟨h1, fun x => ?_⟩
    rw [h2]
    constructor
    ·rintro ⟨j, hj, e⟩
     exact ⟨j, by omega, e⟩
    ·rintro ⟨j, hj, e⟩
     rcases de.1 hj with e2 | e2
     ·exact ⟨j, e2, e⟩
     ·subst e2
      have hc' : ¬ (j = 0) ∧ gN es j = gN es (j - 1) := ⟨fun e => hc (.inl e), fC fun e => hc (.inr e)⟩
      exact ⟨j - 1, by omega, by rw [← hc'.2]; exact e⟩
theorem b9y (l : List (Int × Int)) : (dd (tQ l)).Pairwise ltP := (b4z (a1u l) _ (cZ _)).1
inductive Star {α : Type} (R : α → α → Prop) : α → α → Prop
 | refl (a : α) : Star R a a
 | tail {a b c : α} : Star R a b → R b c → Star R a c
theorem a2c (o : Org) (r : Reg) (l : List Ct) : (lO o r l).Pairwise ltP := b9y _
theorem a2a {o : Org} (hf : o.Fine) (rg : Reg) {l : List Ct} (hl : l.length ≤ 1024) (ho : ∀ c ∈ nB o rg l, pX o c = true) : (lO o rg l).length ≤ 1000000 := by
 have h1 := tN hf rg (nB o rg l) ho
 have h2 := a1o hf (rg := rg) hl
 have h3 := b4t (tQ ((nB o rg l).flatMap (oE o rg)))
 rw [nO] at h3
 have : (lO o rg l).length ≤ (nB o rg l).length * 480 := dq h3 h1
 omega
def sE (x : Nt) (z : Int) : Bool := if z < 64 then x.1.testBit z.toNat else x.2.testBit (z - 64).toNat
theorem tK {x i : Nat} : i ∈ nT x ↔ i < 64 ∧ x.testBit i = true := by
 unfold nT
 rw [fD, dm]
theorem b4y {x : Nt} {z : Int} : z ∈ oK x ↔ isN z ∧ sE x z = true := by
 unfold oK sE isN
 rw [dE, dx, dx]
 constructor
 ·rintro (⟨i, hi, rfl⟩ | ⟨i, hi, rfl⟩)
  ·obtain ⟨h1, h2⟩ := tK.1 hi
   exact ⟨by omega, by rw [if_pos (by omega)]; exact h2⟩
  ·obtain ⟨h1, h2⟩ := tK.1 hi
   refine ⟨by omega, ?_⟩
   rw [if_neg (by omega), show (64 + (i : Int) - 64).toNat = i by omega]
   exact h2
 ·rintro ⟨h1, h2⟩
  by_cases h : z < 64
  ·rw [if_pos h] at h2
   exact .inl ⟨z.toNat, tK.2 ⟨by omega, h2⟩, by omega⟩
  ·rw [if_neg h] at h2
   exact .inr ⟨(z - 64).toNat, tK.2 ⟨by omega, h2⟩, by omega⟩
theorem b3z (x : Nt) (n z : Int) (hn : isN n) (hz : isN z) : sE (qX x n) z = (sE x z || decide (z = n)) := by
 unfold sE qX isN at *
 by_cases h1 : n < 64
 ·rw [if_pos h1]
  by_cases h2 : z < 64
  ·rw [if_pos h2, if_pos h2, Nat.testBit_or, fI]
   congr 1
   rw [decide_eq_decide]
   omega
  ·rw [if_neg h2, if_neg h2, decide_eq_false (by omega), Bool.or_false]
 ·rw [if_neg h1]
  by_cases h2 : z < 64
  ·rw [if_pos h2, if_pos h2, decide_eq_false (by omega), Bool.or_false]
  ·rw [if_neg h2, if_neg h2, Nat.testBit_or, fI]
   congr 1
   rw [decide_eq_decide]
   omega
theorem a2p (z : Int) : sE (0, 0) z = false := by
 unfold sE
 split <;> simp
theorem a2f : ∀ (xs : List Int) (x : Nt) (z : Int), (∀ n ∈ xs, isN n) → isN z → sE (xs.foldl qX x) z = (sE x z || decide (z ∈ xs))
 | [], x, z, _, _ => by simp
 | n :: xs, x, z, h, hz => by
   rw [eX, a2f xs _ z (fun y hy => h y (ek _ hy)) hz, b3z x n z (h n (dV ..)) hz, Bool.or_assoc]
   congr 1
   rw [dM]
   simp
theorem a8v {xs : List Int} {z : Int} (h : ∀ n ∈ xs, isN n) (hz : isN z) : sE (iP xs) z = decide (z ∈ xs) := by
 unfold iP
 rw [a2f xs _ z h hz, a2p, Bool.false_or]
theorem b3m {lo hi z : Int} (h0 : 0 ≤ lo) (h2 : hi ≤ 127) (hz : isN z) : sE (yK lo hi) z = (decide (lo ≤ z) && decide (z ≤ hi)) := by
 unfold yK
 rw [a8v (fun n hn => by
  obtain ⟨k, hk, rfl⟩ := dx.1 hn
  have := dm.1 hk
  exact ⟨by omega, by omega⟩) hz, dM, cT, decide_eq_true_eq, decide_eq_true_eq, decide_eq_true_eq, dx]
 constructor
 ·rintro ⟨k, hk, rfl⟩
  have := dm.1 hk
  omega
 ·rintro ⟨h3, h4⟩
  exact ⟨(z - lo).toNat, dm.2 (by omega), by omega⟩
theorem b7u {x y : Nt} (hx : Nt.Ok x) {z : Int} (hz : isN z) : sE (woF x y) z = (sE x z && !sE y z) := by
 obtain ⟨h1, h2⟩ := hz
 unfold sE woF
 by_cases h : z < 64
 ·rw [if_pos h, if_pos h, if_pos h, a5N _ _ _ hx.1 (by omega)]
 ·rw [if_neg h, if_neg h, if_neg h, a5N _ _ _ hx.2 (by omega)]
theorem a8D {x y : Nt} (hx : Nt.Ok x) (h : woF x y = (0, 0)) {z : Int} (hz : isN z) (hh : sE x z = true) : sE y z = true := by
 have := b7u (y := y) hx hz
 rw [h, a2p, hh] at this
 simpa using this.symm
theorem pH {o : Org} {ks : List Nt} (h : oA o ks = 0) : organE o = 0 ∧ ks.length = o.dvs.length ∧ ∀ j, j < o.dvs.length → woF (gN ks j) (yK (gN o.dvs j).lo (gN o.dvs j).hi) = (0, 0) := by
 unfold oA at h
 split at h
 ·rename_i hh; exact absurd h hh
 rename_i h1
 split at h
 ·omega
 rename_i h2
 split at h
 ·omega
 rename_i h3
 refine ⟨di.1 h1, by omega, fun j hj => ?_⟩
 by_cases hh : woF (gN ks j) (yK (gN o.dvs j).lo (gN o.dvs j).hi) = (0, 0)
 ·exact hh
 ·exact absurd ⟨j, hj, hh⟩ h3
theorem xU {o : Org} {ks : List Nt} (hok : ∀ x ∈ ks, Nt.Ok x) (h : oA o ks = 0) : ∀ c ∈ jZ ks, pX o c = true := by
 obtain ⟨h1, h2, h3⟩ := pH h
 have hf := Org.bE h1
 intro c hc
 unfold jZ at hc
 obtain ⟨i, hi, hc⟩ := fz.1 hc
 have hi := dm.1 hi
 unfold plD at hc
 obtain ⟨z, hz, rfl⟩ := dx.1 hc
 obtain ⟨hz1, hz2⟩ := b4y.1 hz
 have hky := hf.keys i (by omega)
 have hw := a8D (hok _ (gS hi)) (h3 i (by omega)) hz1 hz2
 rw [b3m hky.1 hky.2.2 hz1] at hw
 simp only [cT, decide_eq_true_eq] at hw
 unfold pX
 simp only [cT, decide_eq_true_eq, gx]
 omega
theorem yH {o : Org} {ks : List Nt} (h : oA o ks = 0) : (jZ ks).length ≤ 1024 := by
 obtain ⟨h1, h2, _⟩ := pH h
 have h8 := (Org.bE h1).dlen
 have := b4J ks ks.length
 unfold jZ
 omega
structure SegsOk (m : Nat) (lo hi : Int) (gs : List Seg) : Prop where
 ord : ∀ i, i < gs.length → (gN gs i).lo ≤ (gN gs i).hi
 up : ∀ i, i < gs.length → 0 < i → (gN gs (i - 1)).hi < (gN gs i).lo
 within : ∀ i, i < gs.length → lo ≤ (gN gs i).lo ∧ (gN gs i).hi ≤ hi
 draws : ∀ i, i < gs.length → kL m (gN gs i).draws = 0
 len : gs.length ≤ 12
theorem SegsOk.lt {m : Nat} {lo hi : Int} {gs : List Seg} (h : SegsOk m lo hi gs) {i : Nat} : ∀ k, i + 1 + k < gs.length → (gN gs i).hi < (gN gs (i + 1 + k)).lo
 | 0, hk => h.up (i + 1) hk (by omega)
 | k + 1, hk => by
   have h1 := h.lt (i := i) k (by omega)
   have h2 := h.ord (i + 1 + k) (by omega)
   have h3 := h.up (i + 1 + (k + 1)) hk (by omega)
   rw [show i + 1 + (k + 1) - 1 = i + 1 + k by omega] at h3
   omega
theorem SegsOk.one {m : Nat} {lo hi : Int} {gs : List Seg} (h : SegsOk m lo hi gs) {key : Int} {i j : Nat} (hi' : i < gs.length) (hj : j < gs.length) (h1 : (gN gs i).lo ≤ key ∧ key ≤ (gN gs i).hi) (h2 : (gN gs j).lo ≤ key ∧ key ≤ (gN gs j).hi) : i = j := by
 rcases Nat.lt_trichotomy i j with e | e | e
 ·have := h.lt (i := i) (j - i - 1) (by omega)
  rw [show i + 1 + (j - i - 1) = j by omega] at this
  omega
 ·exact e
 ·have := h.lt (i := j) (i - j - 1) (by omega)
  rw [show j + 1 + (i - j - 1) = i by omega] at this
  omega
end Go.Ds
namespace Go.Ds
open Go.Proofs Go.Proofs.Tryz
variable {H : Heap}
set_option maxRecDepth 10000
set_option maxHeartbeats 1000000
def rX (o : Org) (l : List (Value × Reg)) (ks : List Nt) : Int := if mR o l ≠ 0 then mR o l else oA o ks
theorem a7r (o : Org) (ho : o.In H) (lv : Value) (xs : List (Value × Reg)) (hl : Sl 3 rgc H lv xs) (hle : xs.length < 1000000000) (hr : ∀ p ∈ xs, p.2.In H p.1) (kv : Value) (ks : List Nt) (hk : Ks H kv ks) :
 Fn prog 51 [.agg #[.string o.name, o.rv, o.dv, o.cv], lv, kv] H fun r H' => r = I (rX o xs ks) ∧ St prog H H' [] := by
 refine .bD func51 rfl (by kernel_rfl) (m := 17) rfl fun l hn g0 g1 g2 => ?_
 simp (disch := omega) only [↓RA, RB, simprocAttr, g0]
 refine (sR H).eNew 4 [(.string o.name), o.rv, o.dv, o.cv] rfl rfl (by simp [OC, ((sR H).sl ho.1).cells.2.1, ((sR H).sl ho.2.2.1).cells.2.1, ((sR H).sl ho.2.2.2.2.1).cells.2.1]) oD fun A1 H1 hS1 => ?_
 simp only [RT] at hS1
 simp (disch := omega) only [↓RA, RZ, simprocAttr, hn, g1, hS1.aj 0 rfl]
 refine hS1.cF (b0V o (ho.ae hS1) lv xs (hS1.sl hl) hle (fun p hp => (hr p hp).ae hS1)) fun H2 hS2 => ?_
 simp (disch := omega) only [↓RA, RB, simprocAttr, hn]
 refine gM (fun h1 => ?_) (fun h1 => ?_)
 ·simp (disch := omega) only [↓RA, RZ, simprocAttr, hn, c1P, h1]
  exact ⟨by unfold rX; rw [if_pos h1], hS2.forget⟩
 simp (disch := omega) only [↓RA, RZ, simprocAttr, hn, g2, hS2.aj 0 rfl, h1]
 refine hS2.cF (a5T o (ho.ae hS2) kv ks (hk.ae hS2)) fun H3 hS3 => ?_
 simp (disch := omega) only [↓RA, RZ, simprocAttr, hn, c1P, h1]
 exact ⟨by unfold rX; rw [if_neg h1], hS3.forget⟩
def rkE (o : Org) (rg : Reg) (ks : List Nt) : Int := if lJ o rg ≠ 0 then lJ o rg else oA o ks
theorem a5I (o : Org) (sv : Value) (rg : Reg) (ks : List Nt) : rX o [(sv, rg)] ks = rkE o rg ks := by
 unfold rX rkE
 rw [a5r]
theorem a4x {o : Org} {rg : Reg} {ks : List Nt} (h : rkE o rg ks = 0) : lJ o rg = 0 ∧ oA o ks = 0 := by
 unfold rkE at h
 split at h
 ·rename_i hh; exact absurd h hh
 ·rename_i hh; exact ⟨di.1 hh, h⟩
def a1A (o : Org) (rg : Reg) (ks : List Nt) : List Ct := if rkE o rg ks = 0 then lO o rg (jZ ks) else []
def b0M (o : Org) (rg : Reg) (ks : List Nt) : List Ct := if rkE o rg ks = 0 then nB o rg (jZ ks) else []
theorem rV (hG : Glob gH H) (o : Org) (ho : o.In H) (rg : Reg) (sv : Value) (hr : rg.In H sv) (kv : Value) (ks : List Nt) (hk : Ks H kv ks) :
 Fn prog 15 [.agg #[.string o.name, o.rv, o.dv, o.cv], .agg #[sv, .int .u64 rg.cpl, .int .u64 rg.off], kv] H fun r H' => ∃ pv, r = .tuple #[pv, I (rkE o rg ks)] ∧ Slx 2 jK H' (fun B => H.length ≤ B) pv (a1A o rg ks) ∧ St prog H H' [] := by
 refine .bD func15 rfl (by kernel_rfl) (m := 22) rfl fun l hn g0 g1 g2 => ?_
 simp (disch := omega) only [↓RA, RB, simprocAttr, g0]
 refine (sR H).eNew 4 [(.string o.name), o.rv, o.dv, o.cv] rfl rfl (by simp [OC, ((sR H).sl ho.1).cells.2.1, ((sR H).sl ho.2.2.1).cells.2.1, ((sR H).sl ho.2.2.2.2.1).cells.2.1]) oD fun A1 H1 hS1 => ?_
 simp only [RT] at hS1
 simp (disch := omega) only [↓RA, RB, simprocAttr, g1]
 refine hS1.eNew 3 [sv, (.int .u64 rg.cpl), (.int .u64 rg.off)] rfl rfl (by simp [OC, (hS1.sl hr.1).cells.2.1]) vZ fun A2 H2 hS2 => ?_
 simp only [RT] at hS2
 simp (disch := omega) only [↓RA, RZ, simprocAttr, hn, hS2.aj 0 rfl, hS2.aj 1 rfl]
 refine hS2.ai [sv, (.int .u64 rg.cpl), (.int .u64 rg.off)] b1X b2m rfl rfl (by first | (simp []; done) | simp [Value.cells]) (by first | (simp []; done) | simp [Value.cells]) (by simp [OC, (hS2.sl hr.1).cells.2.1]) (by decide) (by decide) fun w1 H3 hS3 => ?_
 simp only [RT] at hS3
 simp (disch := omega) only [↓RA, RZ, simprocAttr, hn, g2]
 refine hS3.cF (a7r o (ho.ae hS3) w1 [(sv, rg)] (hS3.ay 2 rfl (fun _ => rfl)) (by simp) (by intro p hp; rw [dC.1 hp]; exact hr.ae hS3) kv ks (hk.ae hS3)) fun H4 hS4 => ?_
 have hsc := a5I o sv rg ks
 simp (disch := omega) only [↓RA, RB, simprocAttr, hn, hsc]
 refine gM (fun h1 => ?_) (fun h1 => ?_)
 ·simp (disch := omega) only [↓RA, RZ, simprocAttr, hn, c0s, hsc, h1]
  exact ⟨.slice none 0 0, rfl, ⟨⟨.inl ⟨rfl, by rw [a1A, if_neg h1]; rfl⟩, jT, by decide⟩, fun b h => by simp [jV] at h⟩, hS4.forget⟩
 have h0 := di.1 h1
 obtain ⟨hz1, hk0⟩ := a4x h0
 obtain ⟨hz3, hz4⟩ := qJ hz1
 have hf := Org.bE hz3
 have h8 : ks.length ≤ 8 := by
  have := hf.dlen
  have := (pH hk0).2.1
  omega
 simp (disch := omega) only [↓RA, RC, simprocAttr, hsc, h1]
 refine Wp.aU jM [(0, 4), (1, 4)] (by kernel_rfl) (by kernel_rfl) ?_
 simp (disch := omega) only [↓RA, RZ, simprocAttr, hn, g2, hS4.aj 0 rfl, hS4.aj 1 rfl]
 refine gV ((tP (hS4.gl hG) kv ks (hk.ae hS4) h8).tr) ?_
 rintro r H5 ⟨-, hT2⟩
 have hS5 := hS4.trans hT2
 simp only [RT] at hS5
 obtain ⟨pv, rfl⟩ : ∃ w, w = r := ⟨r, rfl⟩
 simp (disch := omega) only [↓RA, RZ, simprocAttr, hn]
 have hSd := hS5
 refine gV (sA o (ho.ae hS5) hf rg sv (hr.ae hS5) hz4 pv (jZ ks) (hS5.ay 3 rfl jT) (yH hk0) (xU hk.ok hk0)) ?_
 rintro r H6 ⟨hx, hT3⟩
 have hS6 := hS5.trans hT3
 simp only [RT] at hS6
 obtain ⟨qv, rfl⟩ : ∃ w, w = r := ⟨r, rfl⟩
 simp (disch := omega) only [↓RA, RZ, simprocAttr, hn, hS5.aj 0 rfl, hS5.aj 1 rfl, c0s, hx.1.bl]
 rw [h0]
 refine ⟨qv, rfl, ⟨?_, fun b h => ?_⟩, hS6.forget⟩
 ·rw [a1A, if_pos h0]
  exact hx.1
 ·have := hx.2 b h
  have : H.length ≤ _ := hSd.len
  omega
theorem a3I (hG : Glob gH H) (o : Org) (ho : o.In H) (rg : Reg) (sv : Value) (hr : rg.In H sv) (kv : Value) (ks : List Nt) (hk : Ks H kv ks) :
 Fn prog 21 [.agg #[.string o.name, o.rv, o.dv, o.cv], .agg #[sv, .int .u64 rg.cpl, .int .u64 rg.off], kv] H fun r H' => ∃ pv, r = .tuple #[pv, I (rkE o rg ks)] ∧ Slx 2 jK H' (fun B => H.length ≤ B) pv (b0M o rg ks) ∧ St prog H H' [] := by
 refine .bD func21 rfl (by kernel_rfl) (m := 22) rfl fun l hn g0 g1 g2 => ?_
 simp (disch := omega) only [↓RA, RB, simprocAttr, g0]
 refine (sR H).eNew 4 [(.string o.name), o.rv, o.dv, o.cv] rfl rfl (by simp [OC, ((sR H).sl ho.1).cells.2.1, ((sR H).sl ho.2.2.1).cells.2.1, ((sR H).sl ho.2.2.2.2.1).cells.2.1]) oD fun A1 H1 hS1 => ?_
 simp only [RT] at hS1
 simp (disch := omega) only [↓RA, RB, simprocAttr, g1]
 refine hS1.eNew 3 [sv, (.int .u64 rg.cpl), (.int .u64 rg.off)] rfl rfl (by simp [OC, (hS1.sl hr.1).cells.2.1]) vZ fun A2 H2 hS2 => ?_
 simp only [RT] at hS2
 simp (disch := omega) only [↓RA, RZ, simprocAttr, hn, hS2.aj 0 rfl, hS2.aj 1 rfl]
 refine hS2.ai [sv, (.int .u64 rg.cpl), (.int .u64 rg.off)] b1X b2m rfl rfl (by first | (simp []; done) | simp [Value.cells]) (by first | (simp []; done) | simp [Value.cells]) (by simp [OC, (hS2.sl hr.1).cells.2.1]) (by decide) (by decide) fun w1 H3 hS3 => ?_
 simp only [RT] at hS3
 simp (disch := omega) only [↓RA, RZ, simprocAttr, hn, g2]
 refine hS3.cF (a7r o (ho.ae hS3) w1 [(sv, rg)] (hS3.ay 2 rfl (fun _ => rfl)) (by simp) (by intro p hp; rw [dC.1 hp]; exact hr.ae hS3) kv ks (hk.ae hS3)) fun H4 hS4 => ?_
 have hsc := a5I o sv rg ks
 simp (disch := omega) only [↓RA, RB, simprocAttr, hn, hsc]
 refine gM (fun h1 => ?_) (fun h1 => ?_)
 ·simp (disch := omega) only [↓RA, RZ, simprocAttr, hn, c0w, hsc, h1]
  exact ⟨.slice none 0 0, rfl, ⟨⟨.inl ⟨rfl, by rw [b0M, if_neg h1]; rfl⟩, jT, by decide⟩, fun b h => by simp [jV] at h⟩, hS4.forget⟩
 have h0 := di.1 h1
 obtain ⟨hz1, hk0⟩ := a4x h0
 obtain ⟨hz3, hz4⟩ := qJ hz1
 have hf := Org.bE hz3
 have h8 : ks.length ≤ 8 := by
  have := hf.dlen
  have := (pH hk0).2.1
  omega
 simp (disch := omega) only [↓RA, RC, simprocAttr, hsc, h1]
 refine Wp.aU jM [(0, 4), (1, 4)] (by kernel_rfl) (by kernel_rfl) ?_
 simp (disch := omega) only [↓RA, RZ, simprocAttr, hn, g2, hS4.aj 0 rfl, hS4.aj 1 rfl]
 refine gV ((tP (hS4.gl hG) kv ks (hk.ae hS4) h8).tr) ?_
 rintro r H5 ⟨-, hT2⟩
 have hS5 := hS4.trans hT2
 simp only [RT] at hS5
 obtain ⟨pv, rfl⟩ : ∃ w, w = r := ⟨r, rfl⟩
 simp (disch := omega) only [↓RA, RZ, simprocAttr, hn]
 have hSd := hS5
 refine gV (zB o (ho.ae hS5) hf rg sv (hr.ae hS5) pv (jZ ks) (hS5.ay 3 rfl jT) (yH hk0) (xU hk.ok hk0)) ?_
 rintro r H6 ⟨hx, hT3⟩
 have hS6 := hS5.trans hT3
 simp only [RT] at hS6
 obtain ⟨qv, rfl⟩ : ∃ w, w = r := ⟨r, rfl⟩
 simp (disch := omega) only [↓RA, RZ, simprocAttr, hn, hS5.aj 0 rfl, hS5.aj 1 rfl, c0w, hx.1.bl]
 rw [h0]
 refine ⟨qv, rfl, ⟨?_, fun b h => ?_⟩, hS6.forget⟩
 ·rw [b0M, if_pos h0]
  exact hx.1
 ·have := hx.2 b h
  have : H.length ≤ _ := hSd.len
  omega
end Go.Ds
namespace Go.Ds
open Go.Proofs
variable {H : Heap}
set_option maxRecDepth 10000
set_option maxHeartbeats 1000000
end Go.Ds
namespace Go.Ds
open Go.Proofs
set_option maxRecDepth 10000
theorem Star.mono {α : Type} {R R' : α → α → Prop} (h : ∀ a b, R a b → R' a b) {a b : α} (hs : Star R a b) : Star R' a b := by
 induction hs with
 | refl => exact .refl _
 | tail _ h2 ih => exact .tail ih (h _ _ h2)
end Go.Ds
namespace Go.Ds
open Go.Proofs Go.Shelf Go.RowKit Go.Lib Go.Sort
def sm (x : Int × Int) : Prop := -1000000000 ≤ x.1 ∧ x.1 ≤ 1000000000 ∧ -1000000000 ≤ x.2 ∧ x.2 ≤ 1000000000
abbrev Sm := {x : Int × Int // sm x}
instance : Inhabited Sm := ⟨⟨(0, 0), by unfold sm; decide⟩⟩
section
variable {H : Heap}
end
end Go.Ds
namespace Go.Ds
open Go.Proofs
variable {H : Heap}
set_option maxRecDepth 10000
set_option maxHeartbeats 1000000
end Go.Ds
namespace Go.Ds
open Go.Proofs Go.Shelf Go.RowKit Go.Lib Go.Sort
section
variable {H : Heap}
end
end Go.Ds
namespace Go.Ds
open Go.Proofs
variable {H : Heap}
set_option maxRecDepth 10000
set_option maxHeartbeats 1000000
end Go.Ds
namespace Go.Ds
open Go.Proofs Go.Proofs.Tryz
variable {H : Heap}
set_option maxRecDepth 10000
set_option maxHeartbeats 1000000
theorem b3t {x y : Int × Int} : cf2 x y < 0 ↔ ltP x y := by
 unfold cf2 ltP
 split
 ·omega
 ·split
  ·omega
  ·split
   ·omega
   ·split <;> omega
theorem b2X {x y : Int × Int} : cf2 x y = 0 ↔ x = y := by
 unfold cf2
 constructor
 ·intro h
  split at h
  ·omega
  ·split at h
   ·omega
   ·split at h
    ·omega
    ·split at h
     ·omega
     ·exact gn (by omega) (by omega)
 ·rintro rfl
  rw [if_neg (by omega), if_neg (by omega), if_neg (by omega), if_neg (by omega)]
theorem a3L {xs : List Ct} (hs : xs.Pairwise ltP) {i j : Nat} (h : i < j) (hj : j < xs.length) : ltP (gN xs i) (gN xs j) := by
 rw [jJ _ _ (by omega), jJ _ _ hj]
 exact dS.1 hs i j (by omega) hj h
theorem b8X (v : Value) (xs : List Ct) (hv : Sl 2 jK H v xs) (hl : xs.length < 1000000000) (hs : xs.Pairwise ltP) (t : Ct) :
 Fn prog 102 [v, .agg #[I t.1, I t.2], .func (.func 103) #[] #[]] H fun r H' => ∃ k : Nat, r = .tuple #[I k, .bool (decide (t ∈ xs))] ∧ St prog H H' [] := by
 refine .bD func102 rfl (by kernel_rfl) (m := 49) rfl fun l hn g0 g1 g2 => ?_
 simp (disch := omega) only [↓RA, RB, simprocAttr, g1]
 refine (sR H).eNew 2 [I t.1, I t.2] rfl rfl rfl rT fun A1 H1 hS1 => ?_
 simp only [RT] at hS1
 simp (disch := omega) only [↓RA, RZ, simprocAttr, hn, g0, (hS1.sl hv).len]
 refine Wp.al (fun n l H' => l.length = 49 ∧ get l 0 = v ∧ get l 2 = (.func (.func 103) #[] #[]) ∧ get l 4 = (ptr A1 0 2) ∧ get l 6 = I 0 ∧ get l 7 = (.bool false) ∧ get l 8 = I xs.length ∧ ∃ (i : Nat) (j : Nat), (n + i = j ∧ j ≤ xs.length ∧ (∀ q, q < i → ltP (gN xs q) t) ∧ ∀ q, j ≤ q → q < xs.length → ¬ ltP (gN xs q) t) ∧ get l 9 = I i ∧ get l 10 = I j ∧ St prog H H' [⟨ptr A1 0 2, 0, [I t.1, I t.2]⟩]) xs.length ?_ ?_
 ·simp (disch := omega) only [RB, RC, simprocAttr, hn, g0, g2]
  exact ⟨0, xs.length, ⟨by omega, by omega, fun q hq => absurd hq (dz _), fun q h1 h2 => absurd h2 (by omega)⟩, rfl, rfl, hS1⟩
 rintro n l H2 ⟨hn, g0, g2, g4, g6, g7, g8, i, j, ⟨h1,h2,h3,h4⟩, g9, pS, hS2⟩
 simp (disch := omega) only [↓RA, RB, simprocAttr, hn, g9, pS]
 refine gM (fun q1 => ?_) (fun q1 => ?_)
 ·obtain ⟨m, hm⟩ : ∃ m : Nat, (i + j) / 2 = m := ⟨_, rfl⟩
  have e1 : ((i : Int) + j).fdiv (2 ^ min 1 (IntKind.bits .u64)) = ((m : Nat) : Int) := by
   have h := a6a (i + j) 1 (by omega)
   rw [ff] at h
   rw [← hm]
   exact h
  simp (disch := omega) only [↓RA, RZ, simprocAttr, hn, g9, pS, q1, e1]
  refine Wp.drw jM (by kernel_rfl) ?_
  simp (disch := omega) only [↓RA, RZ, simprocAttr, hn, g0, g2]
  simp (disch := omega) only [↓RA, RZ, simprocAttr, hn, g4, (hS2.sl hv).idx, (hS2.sl hv).aj, jK, hS2.aj 0 rfl]
  refine hS2.cF (a3a (gN xs m) t) fun H3 hS3 => ?_
  simp (disch := omega) only [↓RA, RB, simprocAttr, hn]
  refine gM (fun q2 => ?_) (fun q2 => ?_)
  ·have hlt := b3t.1 q2
   simp (disch := omega) only [↓RA, RZ, simprocAttr, hn, g0, g2, g4, g6, g7, g8, pS, q2]
   refine ⟨j - (m + 1), by omega, m + 1, j, ⟨by omega, h2, fun q hq => ?_, h4⟩, by simp, rfl, hS3⟩
   by_cases e : q = m
   ·rw [e]; exact hlt
   ·exact a2l (a3L hs (show q < m by omega) (by omega)) hlt
  have hnl : ¬ ltP (gN xs m) t := fun h => q2 (b3t.2 h)
  simp (disch := omega) only [↓RA, RZ, simprocAttr, hn, g0, g2, g4, g6, g7, g8, g9, q2]
  refine ⟨m - i, by omega, i, m, ⟨by omega, by omega, h3, fun q hq hql h => ?_⟩, rfl, by simp, hS3⟩
  by_cases e : q = m
  ·rw [e] at h; exact hnl h
  ·exact hnl (a2l (a3L hs (show m < q by omega) hql) h)
 have hij : i = j := by omega
 have hno : ∀ q, q < xs.length → q ≠ i → gN xs q ≠ t := fun q hq hne e => by
  by_cases hqi : q < i
  ·have := h3 q hqi
   rw [e] at this
   exact b5o this
  ·have h5 := h4 i (by omega) (by omega)
   have h6 := a3L hs (show i < q by omega) hq
   rw [e] at h6
   exact h5 h6
 simp (disch := omega) only [↓RA, RC, simprocAttr, q1]
 refine Wp.drw jM (by kernel_rfl) ?_
 simp (disch := omega) only [↓RA, RZ, simprocAttr, hn, g8, g9]
 refine jO (fun q3 => ?_) (fun q3 => ?_)
 ·simp (disch := omega) only [↓RA, RZ, simprocAttr, hn, g0, g2, g4, g9, (hS2.sl hv).idx, (hS2.sl hv).aj, jK, hS2.aj 0 rfl, q3]
  refine hS2.cF (a3a (gN xs i) t) fun H4 hS4 => ?_
  simp (disch := omega) only [↓RA, RZ, simprocAttr, hn, b7M, q3]
  have he : decide (cf2 (gN xs i) t = 0) = decide (t ∈ xs) := by
   rw [decide_eq_decide, b2X]
   constructor
   ·intro e
    rw [← e]
    exact gS (by omega)
   ·intro hm
    obtain ⟨q, hq, e⟩ := dI.1 hm
    rw [← jJ _ _ hq] at e
    by_cases hqi : q = i
    ·rw [hqi] at e; exact e
    ·exact absurd e (hno q hq hqi)
  exact ⟨i, by rw [← he], hS4.forget⟩
 have hf : decide (t ∈ xs) = false := by
  rw [decide_eq_false_iff_not]
  intro hm
  obtain ⟨q, hq, e⟩ := dI.1 hm
  rw [← jJ _ _ hq] at e
  exact hno q hq (by omega) e
 simp (disch := omega) only [↓RA, RZ, simprocAttr, hn, b7M, q3]
 exact ⟨i, by rw [hf], hS2.forget⟩
def yZ (xs ys : List Ct) : List Ct := xs.filter fun c => !decide (c ∈ ys)
theorem b3u (xs ys : List Ct) : (yZ xs ys).length ≤ xs.length := dW _ _
theorem a7e (xs ys : List Ct) (i : Nat) (h : i < xs.length) : yZ (xs.take (i + 1)) ys = yZ (xs.take i) ys ++ (if gN xs i ∈ ys then [] else [gN xs i]) := by
 unfold yZ
 rw [lE xs i h, eP]
 congr 1
 by_cases e : gN xs i ∈ ys <;> simp [e]
theorem zI (v w : Value) (xs ys : List Ct) (hv : Sl 2 jK H v xs) (hw : Sl 2 jK H w ys) (hl : xs.length < 100000000) (hl2 : ys.length < 100000000) (hs : ys.Pairwise ltP) :
 Fn prog 54 [v, w] H fun r H' => St prog H H' [⟨r, 2, pr (yZ xs ys)⟩] := by
 refine .aM func54 rfl (by kernel_rfl) (m := 30) rfl fun l hn g0 g1 => ?_
 simp (disch := omega) only [↓RA, RZ, simprocAttr, hn, g0, ((sR H).sl hv).len]
 have hS1 := (sR H).nil 1
 simp only [RT] at hS1
 refine Wp.al (fun n l H' => l.length = 30 ∧ get l 1 = w ∧ get l 4 = (.slice none 0 0) ∧ get l 10 = v ∧ get l 11 = I xs.length ∧ ∃ (i : Nat) (ov : Value), (n + i = xs.length) ∧ get l 12 = I i ∧ get l 5 = ov ∧ St prog H H' [⟨ov, 2, pr (yZ (xs.take i) ys)⟩]) xs.length ?_ ?_
 ·simp (disch := omega) only [RB, RC, simprocAttr, hn, g1]
  exact ⟨0, .slice none 0 0, by omega, rfl, rfl, hS1⟩
 rintro n l H1 ⟨hn, g1, g4, pS, g11, i, ov, hi, g12, g5, hS2⟩
 simp (disch := omega) only [↓RA, RB, simprocAttr, hn, g11, g12]
 refine gM (fun q1 => ?_) (fun q1 => ?_)
 ·have hsu := a7e xs ys i (by omega)
  have hle := b3u (xs.take i) ys
  have htl := List.length_take_le i xs
  simp (disch := omega) only [↓RA, RZ, simprocAttr, hn, pS, g12, (hS2.sl hv).idx, (hS2.sl hv).aj, jK, q1]
  refine hS2.eNew 2 [I 0, I 0] rfl rfl rfl rT fun A1 H2 hS3 => ?_
  simp only [RT] at hS3
  simp (disch := omega) only [↓RA, RZ, simprocAttr, hn, q1]
  refine hS3.aa 1 rfl [I (gN xs i).1, I (gN xs i).2] rfl rfl rT (by simp) fun H3 hS4 => ?_
  simp only [RT] at hS4
  simp (disch := omega) only [↓RA, RZ, simprocAttr, hn, g1, hS4.aj 1 rfl, q1]
  refine gV (b8X w ys (hS4.sl hw) (by omega) hs (gN xs i)) ?_
  rintro r H4 ⟨k, rfl, hT1⟩
  have hS5 := hS4.trans hT1
  simp only [RT] at hS5
  simp (disch := omega) only [↓RA, RZ, simprocAttr, hn, q1]
  refine jE (fun q2 => ?_) (fun q2 => ?_)
  ·have hni : ¬ gN xs i ∈ ys := by simpa using q2
   rw [if_neg hni] at hsu
   simp (disch := omega) only [↓RA, RZ, simprocAttr, hn, g5, hS5.aj 1 rfl, q1, q2]
   refine hS5.ai [I (gN xs i).1, I (gN xs i).2] a9J b9x rfl rfl (by simp [Value.cells]) rfl rfl (by decide) (by decide) fun w1 H5 hS6 => ?_
   simp only [RT] at hS6
   simp (disch := omega) only [↓RA, RZ, simprocAttr, hn, q1, q2]
   refine hS6.ar 0 rfl (hS6.rd 2 rfl) a9J (by rw [gT]; simp only [ec, eN]; omega) fun w2 H6 hS7 => ?_
   simp only [RT] at hS7
   simp (disch := omega) only [↓RA, RZ, simprocAttr, hn, g1, g4, pS, g11, g12, q1, q2]
   refine ⟨n - 1, by omega, i + 1, w2, by omega, by simp, rfl, ?_⟩
   rw [hsu, jI]
   exact hS7.pick [0] (by decide) rfl
  have hni : gN xs i ∈ ys := by simpa using q2
  rw [if_pos hni, dj] at hsu
  simp (disch := omega) only [↓RA, RZ, simprocAttr, hn, g1, g4, pS, g11, g12, g5, q1, q2]
  refine ⟨n - 1, by omega, i + 1, ov, by omega, by simp, rfl, ?_⟩
  rw [hsu]
  exact hS5.pick [0] (by decide) rfl
 simp (disch := omega) only [↓RA, RZ, simprocAttr, hn, g5, c2Q, q1]
 have hii : i = xs.length := by omega
 rw [hii, ee] at hS2
 exact hS2
theorem b0r {o : Org} {l : List (Value × Reg)} {ks : List Nt} (h : rX o l ks = 0) : organE o = 0 ∧ (∀ p ∈ l, lJ o p.2 = 0) ∧ oA o ks = 0 := by
 unfold rX at h
 split at h
 ·rename_i hh; exact absurd h hh
 rename_i h1
 have h1 := di.1 h1
 unfold mR at h1
 split at h1
 ·rename_i hh; exact absurd h1 hh
 rename_i h2
 refine ⟨di.1 h2, fun p hp => ?_, h⟩
 obtain ⟨j, hj, rfl⟩ := dI.1 hp
 have := tD h1 j hj
 rw [jJ _ _ hj] at this
 exact this
def b0O (o : Org) (e : Int) (rg sg : Reg) (ks : List Nt) : List Ct := if e = 0 then yZ (lO o rg (jZ ks)) (lO o sg (jZ ks)) else []
theorem b6U (hG : Glob gH H) (o : Org) (ho : o.In H) (rg : Reg) (sv : Value) (hr : rg.In H sv) (sg : Reg) (tv : Value) (hs : sg.In H tv) (kv : Value) (ks : List Nt) (hk : Ks H kv ks) :
 Fn prog 16 [.agg #[.string o.name, o.rv, o.dv, o.cv], .agg #[sv, .int .u64 rg.cpl, .int .u64 rg.off], .agg #[tv, .int .u64 sg.cpl, .int .u64 sg.off], kv] H fun r H' =>
  ∃ gv cv, r = .tuple #[gv, cv, I (rX o [(sv, rg), (tv, sg)] ks)] ∧ Slx 2 jK H' (fun B => H.length ≤ B) gv (b0O o (rX o [(sv, rg), (tv, sg)] ks) rg sg ks) ∧ Slx 2 jK H' (fun B => H.length ≤ B) cv (b0O o (rX o [(sv, rg), (tv, sg)] ks) sg rg ks) ∧ St prog H H' [] := by
 have hnil : ∀ {H' : Heap}, Slx 2 jK H' (fun B => H.length ≤ B) (.slice none 0 0) ([] : List Ct) := fun {H'} => ⟨⟨.inl ⟨rfl, rfl⟩, jT, by decide⟩, fun b h => by simp [jV] at h⟩
 refine .cE func16 rfl (by kernel_rfl) (m := 39) rfl fun l hn g0 g1 g2 g3 => ?_
 simp (disch := omega) only [↓RA, RB, simprocAttr, g0]
 refine (sR H).eNew 4 [(.string o.name), o.rv, o.dv, o.cv] rfl rfl (by simp [OC, ((sR H).sl ho.1).cells.2.1, ((sR H).sl ho.2.2.1).cells.2.1, ((sR H).sl ho.2.2.2.2.1).cells.2.1]) oD fun A1 H1 hS1 => ?_
 simp only [RT] at hS1
 simp (disch := omega) only [↓RA, RB, simprocAttr, g1]
 refine hS1.eNew 3 [sv, (.int .u64 rg.cpl), (.int .u64 rg.off)] rfl rfl (by simp [OC, (hS1.sl hr.1).cells.2.1]) vZ fun A2 H2 hS2 => ?_
 simp only [RT] at hS2
 simp (disch := omega) only [↓RA, RB, simprocAttr, g2]
 refine hS2.eNew 3 [tv, (.int .u64 sg.cpl), (.int .u64 sg.off)] rfl rfl (by simp [OC, (hS2.sl hs.1).cells.2.1]) vZ fun A3 H3 hS3 => ?_
 simp only [RT] at hS3
 simp (disch := omega) only [↓RA, RZ, simprocAttr, hn, hS3.aj 0 rfl, hS3.aj 1 rfl, hS3.aj 2 rfl]
 refine hS3.ai [sv, (.int .u64 rg.cpl), (.int .u64 rg.off), tv, (.int .u64 sg.cpl), (.int .u64 sg.off)] b1X b2m rfl rfl (by first | (simp []; done) | simp [Value.cells]) (by first | (simp []; done) | simp [Value.cells]) (by simp [OC, (hS3.sl hr.1).cells.2.1, (hS3.sl hs.1).cells.2.1]) (by decide) (by decide) fun w1 H4 hS4 => ?_
 simp only [RT] at hS4
 simp (disch := omega) only [↓RA, RZ, simprocAttr, hn, g3]
 refine hS4.cF (a7r o (ho.ae hS4) w1 [(sv, rg), (tv, sg)] (hS4.ay 3 rfl (fun _ => rfl)) (by simp) (by intro p hp; simp only [dK, dN, or_false] at hp; rcases hp with rfl | rfl; (· exact hr.ae hS4); (· exact hs.ae hS4)) kv ks (hk.ae hS4)) fun H5 hS5 => ?_
 simp (disch := omega) only [↓RA, RB, simprocAttr, hn]
 refine gM (fun h1 => ?_) (fun h1 => ?_)
 ·have hd : ∀ a b, b0O o (rX o [(sv, rg), (tv, sg)] ks) a b ks = [] := fun a b => by unfold b0O; rw [if_neg h1]
  simp (disch := omega) only [↓RA, RZ, simprocAttr, hn, c1J, h1]
  rw [hd, hd]
  exact ⟨.slice none 0 0, .slice none 0 0, rfl, hnil, hnil, hS5.forget⟩
 have h0 := di.1 h1
 obtain ⟨hz1, hz2, hz3⟩ := b0r h0
 have hzr := hz2 (sv, rg) (by simp)
 have hzs := hz2 (tv, sg) (by simp)
 have hrl := (qJ hzr).2
 have hsl := (qJ hzs).2
 have hf := Org.bE hz1
 have hplc := xU hk.ok hz3
 have hpll := yH hz3
 have h8 : ks.length ≤ 8 := by
  have := hf.dlen
  have := (pH hz3).2.1
  omega
 have hd : ∀ a b, b0O o (rX o [(sv, rg), (tv, sg)] ks) a b ks = yZ (lO o a (jZ ks)) (lO o b (jZ ks)) := fun a b => by unfold b0O; rw [if_pos h0]
 rw [hd, hd, h0]
 simp (disch := omega) only [↓RA, RC, simprocAttr]
 refine Wp.aU jM [(0, 4), (1, 4), (5, 0), (5, 4), (5, 9), (6, 0), (6, 4), (6, 9)] (by kernel_rfl) (by kernel_rfl) ?_
 simp (disch := omega) only [↓RA, RZ, simprocAttr, hn, g3, hS5.aj 0 rfl, hS5.aj 1 rfl]
 refine gV ((tP (hS5.gl hG) kv ks (hk.ae hS5) h8).tr) ?_
 rintro r H6 ⟨-, hT2⟩
 have hS6 := hS5.trans hT2
 simp only [RT] at hS6
 obtain ⟨pv, rfl⟩ : ∃ w, w = r := ⟨r, rfl⟩
 simp (disch := omega) only [↓RA, RZ, simprocAttr, hn]
 have hS1 := hS6
 refine gV (sA o (ho.ae hS6) hf rg sv (hr.ae hS6) hrl pv (jZ ks) (hS6.ay 4 rfl jT) hpll hplc) ?_
 rintro r H7 ⟨hx, hT3⟩
 have hS7 := hS6.trans hT3
 simp only [RT] at hS7
 obtain ⟨av, rfl⟩ : ∃ w, w = r := ⟨r, rfl⟩
 have hx2 := hx.step (hS1.aV (H' := H7))
 obtain ⟨X, hBX, hS8⟩ := hS7.aB (os := [⟨ptr A1 0 4, 0, _⟩, ⟨ptr A2 0 3, 0, _⟩, ⟨ptr A3 0 3, 0, _⟩, ⟨w1, 3, _⟩, ⟨pv, 2, _⟩])
 simp (disch := omega) only [↓RA, RZ, simprocAttr, hn, g3, hS8.aj 0 rfl, hS8.aj 2 rfl]
 refine gV ((tP ((hS7.ag hBX hS8).gl hG) kv ks (hk.ae (hS7.ag hBX hS8)) h8).tr) ?_
 rintro r H8 ⟨-, hT4⟩
 have hS9 := hS8.trans hT4
 simp only [RT] at hS9
 obtain ⟨pw, rfl⟩ : ∃ w, w = r := ⟨r, rfl⟩
 simp (disch := omega) only [↓RA, RZ, simprocAttr, hn]
 have hS2 := hS9
 refine gV (sA o (ho.ae (hS7.ag hBX hS9)) hf sg tv (hs.ae (hS7.ag hBX hS9)) hsl pw (jZ ks) (hS9.ay 5 rfl jT) hpll hplc) ?_
 rintro r H9 ⟨hy, hT5⟩
 have hS10 := hS9.trans hT5
 simp only [RT] at hS10
 obtain ⟨bv, rfl⟩ : ∃ w, w = r := ⟨r, rfl⟩
 have hx3 := hx2.step (hS10.kept hBX)
 have hy2 := hy.step (hS2.aV (H' := H9))
 obtain ⟨Y, hBY, hS11⟩ := hS10.aB (os := [⟨ptr A1 0 4, 0, _⟩, ⟨ptr A2 0 3, 0, _⟩, ⟨ptr A3 0 3, 0, _⟩, ⟨w1, 3, _⟩, ⟨pv, 2, _⟩, ⟨pw, 2, _⟩])
 have hla := a2a hf rg hpll (uO hplc)
 have hlb := a2a hf sg hpll (uO hplc)
 have hsa := a2c o rg (jZ ks)
 have hsb := a2c o sg (jZ ks)
 have hx4 := hx3.step (hS11.kept hBY)
 have hy3 := hy2.step (hS11.kept hBY)
 simp (disch := omega) only [↓RA, RZ, simprocAttr, hn, hS6.aj 0 rfl, hS6.aj 1 rfl, hS5.aj 0 rfl, hS9.aj 0 rfl, hS5.aj 2 rfl, hS6.aj 2 rfl, hS9.aj 2 rfl]
 refine gV ((zI av bv (lO o rg (jZ ks)) (lO o sg (jZ ks)) hx4.1 hy3.1 (by omega) (by omega) hsb).tr) ?_
 rintro r H10 ⟨-, hT6⟩
 have hS12 := hS11.trans hT6
 simp only [RT] at hS12
 obtain ⟨gv, rfl⟩ : ∃ w, w = r := ⟨r, rfl⟩
 have hx5 := hx3.step (hS12.kept hBY)
 have hy4 := hy2.step (hS12.kept hBY)
 simp (disch := omega) only [↓RA, RZ, simprocAttr, hn]
 refine gV ((zI bv av (lO o sg (jZ ks)) (lO o rg (jZ ks)) hy4.1 hx5.1 (by omega) (by omega) hsa).tr) ?_
 rintro r H11 ⟨-, hT7⟩
 have hS13 := hS12.trans hT7
 simp only [RT] at hS13
 obtain ⟨cv, rfl⟩ : ∃ w, w = r := ⟨r, rfl⟩
 have hnt1 := (hS13.ay (cel := jK) 6 rfl jT).bl
 have hnt2 := (hS13.ay (cel := jK) 7 rfl jT).bl
 simp (disch := omega) only [↓RA, RZ, simprocAttr, hn, c1J, hnt1, hnt2]
 exact ⟨gv, cv, rfl, (hS7.ag hBX (hS10.ag hBY hS13)).cg 6 rfl jT, (hS7.ag hBX (hS10.ag hBY hS13)).cg 7 rfl jT, (hS7.ag hBX (hS10.ag hBY hS13)).forget⟩
end Go.Ds
namespace Go.Ds
open Go.Proofs Go.Proofs.Tryz
variable {H : Heap}
set_option maxRecDepth 100000
set_option maxHeartbeats 1000000
def a9u (r : Rs) (n : Int) : Bool := match r with
 | .ok (.tuple vs) _ => (match vs.toList with
   | [.int .u64 a, .int .u64 b] => decide (a = 0) && decide (b = n)
   | _ => false)
 | .th (.tuple vs) _ => (match vs.toList with
   | [.int .u64 a, .int .u64 b] => decide (a = 0) && decide (b = n)
   | _ => false)
 | _ => false
theorem b8I : (rM prog [186, 229, 230] .e fun T => [(25 : Int)].all fun n => a9u (lP T (zJ prog T 4000) [] (jX 186) [.int .u64 1, .int .u64 n] gH) n) = true := by kernel_rfl
theorem b1O {T : LT} (hT : TOk prog T) {k : FuncId} {args : List Value} {n : Int} (h : a9u (lP T (zJ prog T 4000) [] (jX k) args gH) n = true) : Fn prog k args gH fun r _ => r = .tuple #[.int .u64 0, .int .u64 n] := by
 have hv : ∀ (vs : Array Value), (match vs.toList with
  | [.int .u64 a, .int .u64 b] => decide (a = 0) && decide (b = n)
  | _ => false) = true → Value.tuple vs = .tuple #[.int .u64 0, .int .u64 n] := by
  intro vs h
  split at h
  ·rename_i a b e
   rw [cT, decide_eq_true_eq, decide_eq_true_eq] at h
   obtain ⟨rfl, rfl⟩ := h
   congr 1
   exact gp e
  ·cases h
 unfold a9u at h
 split at h
 ·rename_i vs H1 e
  rw [← hv vs h]
  exact lC hT (.inl e)
 ·rename_i vs H1 e
  rw [← hv vs h]
  exact lC hT (.inr e)
 ·cases h
theorem b2v (hG : Glob gH H) : Fn prog 186 [.int .u64 1, .int .u64 25] H fun r H' => r = .tuple #[.int .u64 0, .int .u64 25] ∧ St prog H H' [] := by
 obtain ⟨T, hT, h⟩ := oY (ps := [(25 : Int)]) (f := fun T n => a9u (lP T (zJ prog T 4000) [] (jX 186) [.int .u64 1, .int .u64 n] gH) n) b8I
 exact qI (by simp [flat, iJ, iE]) rfl (b1O hT (h 25 (by simp))) hG
theorem pM (c z : Value) : ∀ (m x n : Nat), x + m ≤ n → iG (List.replicate x c ++ List.replicate (n - x) z) x (List.replicate m c) = List.replicate (x + m) c ++ List.replicate (n - (x + m)) z := by
 intro m x n h
 have e : List.replicate (n - x) z = List.replicate m z ++ List.replicate (n - (x + m)) z := by
  rw [List.replicate_append_replicate]; congr 1; omega
 have := lS (List.replicate m c) (List.replicate x c) (List.replicate (n - x) z) (by simp; omega)
 rw [eL] at this
 rw [this, List.replicate_append_replicate]
 congr 1
 simp
 omega
theorem a8k {H : Heap} {v : Value} {cs : List Value} (h : RdAt H v 1 cs) (h0 : cs ≠ []) : lX v 1 0 cs.length = v := by
 rcases h with ⟨rfl, rfl⟩ | ⟨A, i, e, row, ty, rw, lo', ver, n, h1, h2, h3, h4, h5, h6, rfl⟩
 ·exact (h0 rfl).elim
 ·simp [lX, h6]
theorem St.cj {P : Program} {H0 : Base} {os : List Ob} (hS : St P H0 H os) (i : Nat) {v : Value} {cs : List Value} (ho : os[i]? = some ⟨v, 1, cs⟩) {x : Value} {ys : List Value} (hx : RdAt H x 1 ys) (h0 : 0 < cs.length) (hy : 0 < ys.length) {t : TypeId} (ht : iA P t = some 1) {K : Value → Heap → Prop}
 (h : ∀ H1, St P H0 H1 (os.set i ⟨v, 1, iG cs 0 (ys.take (min ys.length cs.length))⟩) → K (.int .i64 ((min ys.length cs.length : Nat) : Int)) H1) : a1U P H t v x K := by
 have e := a8k (hS.rd (size := 0) i ho) (by intro e; simp [e] at h0)
 have := hS.bJ i ho hx 0 cs.length (by omega) h0 hy ht h
 rwa [e] at this
theorem b3X (hG : Glob gH H) {c : Int} (v : Value) (hv : Sl 1 (one I) H v [c]) : Fn prog 138 [v, I 25] H fun r H' => St prog H H' [⟨r, 1, List.replicate 25 (I c)⟩] := by
 have h1 : (([c] : List Int).length : Int) = 1 := rfl
 refine .aM func138 rfl (by kernel_rfl) (m := 48) rfl fun l hn g0 g1 => ?_
 simp (disch := omega) only [↓RA, RZ, simprocAttr, hn, g0, g1, ((sR H).sl hv).len]
 refine (sR H).cF (b2v ((sR H).gl hG)) fun H1 hS1 => ?_
 simp (disch := omega) only [↓RA, RZ, simprocAttr, hn]
 refine hS1.bZ 25 c3A (by omega) fun w H2 hS2 => ?_
 simp only [RT] at hS2
 simp (disch := omega) only [↓RA, RB, simprocAttr, hn, g0]
 refine hS2.cj 0 rfl (hS2.sl hv).rd (by simp) (by simp [one]) b8R fun H3 hS3 => ?_
 have e1 : min ([c].flatMap (one I)).length (List.replicate 25 (Value.int .i64 0)).length = 1 := by simp [one]
 rw [e1] at hS3 ⊢
 have e2 := pM (I c) (.int .i64 0) 1 0 25 (by omega)
 simp only [List.replicate_zero, eM, Nat.sub_zero, fL] at e2
 have hS4 : St prog H H3 [⟨w, 1, List.replicate 1 (I c) ++ List.replicate (25 - 1) (.int .i64 0)⟩] := by
  rw [← e2]
  exact hS3
 simp (disch := omega) only [↓RA, RB, simprocAttr, hn]
 have e3 : ∀ x : Nat, List.replicate x (I c) ++ List.replicate (25 - x) (.int .i64 0) = (List.replicate x (c : Int) ++ List.replicate (25 - x) 0).flatMap (one I) := fun x => by
  rw [wC, dT, List.map_replicate, List.map_replicate]
 refine Wp.al (fun n l H' => l.length = 48 ∧ get l 4 = (.slice none 0 0) ∧ ∃ (x : Nat), (n + x = 25 ∧ 1 ≤ x) ∧ get l 8 = I x ∧ get l 7 = w ∧ St prog H H' [⟨w, 1, (List.replicate x (c : Int) ++ List.replicate (25 - x) 0).flatMap (one I)⟩]) 24 ?_ ?_
 ·simp (disch := omega) only [RB, RC, simprocAttr, hn]
  rw [e3] at hS4
  exact ⟨1, ⟨by omega, by omega⟩, rfl, hS4⟩
 rintro n l H2 ⟨hn, g4, x, ⟨hx,hx1⟩, g8, g7, hS2⟩
 have hln : (List.replicate x (c : Int) ++ List.replicate (25 - x) 0).length = 25 := by simp; omega
 simp (disch := omega) only [↓RA, RZ, simprocAttr, hn, g8, g7, (hS2.ay 0 rfl (fun _ => rfl)).len, hln]
 refine gM (fun q1 => ?_) (fun q1 => ?_)
 ·simp (disch := omega) only [↓RA, RC, simprocAttr, q1]
  refine Wp.drw jM (by kernel_rfl) ?_
  simp (disch := omega) only [↓RA, RZ, simprocAttr, hn, g8, g7, (hS2.ay 0 rfl (fun _ => rfl)).aQ, (hS2.ay 0 rfl (fun _ => rfl)).aR, hln]
  have hxt : ((25 : Int) - (x : Int)).toNat = 25 - x := by omega
  rw [hxt]
  have hlc : ((List.replicate x (c : Int) ++ List.replicate (25 - x) 0).flatMap (one I)).length = 25 := by rw [wC, dZ, hln]
  have hrd := hS2.rd 0 rfl
  have hsub := hrd.sub 0 x (by rw [hlc]; omega) (by intro e; rw [e] at hlc; simp at hlc)
  have e5 : (((List.replicate x (c : Int) ++ List.replicate (25 - x) 0).flatMap (one I)).drop (0 * (0 + 1))).take (x * (0 + 1)) = List.replicate x (I c) := by
   rw [← e3]
   simp []
  rw [e5] at hsub
  refine hS2.bJ 0 rfl hsub x (25 - x) (by rw [hlc]; omega) (by omega) (by simp; omega) b8R fun H4 hS5 => ?_
  have e6 : (List.replicate x (I c)).take (min (List.replicate x (I c)).length (25 - x)) = List.replicate (min x (25 - x)) (I c) := by simp
  rw [e6] at hS5
  have e7 : min (List.replicate x (I c)).length (25 - x) = min x (25 - x) := by simp
  rw [e7]
  have e8 := pM (I c) (.int .i64 0) (min x (25 - x)) x 25 (by omega)
  have hS6 : St prog H H4 [⟨w, 1, (List.replicate (x + min x (25 - x)) (c : Int) ++ List.replicate (25 - (x + min x (25 - x))) 0).flatMap (one I)⟩] := by
   rw [← e3, ← e8, e3]
   exact hS5
  simp (disch := omega) only [↓RA, RZ, simprocAttr, hn, g4, g7]
  exact ⟨25 - (x + min x (25 - x)), by omega, x + min x (25 - x), ⟨by omega, by omega⟩, by simp, hS6⟩
 simp (disch := omega) only [↓RA, RZ, simprocAttr, hn, g7, c0K, q1]
 have e : x = 25 := by omega
 subst e
 have hfin : ((List.replicate 25 (c : Int) ++ List.replicate (25 - 25) 0).flatMap (one I)) = List.replicate 25 (I c) := by rw [← e3]; rfl
 have h9 := hS2
 rw [hfin] at h9
 exact h9
end Go.Ds
namespace Go.Ds
open Go.Proofs
variable {H : Heap}
set_option maxRecDepth 10000
set_option maxHeartbeats 1000000
section
variable (w1 w2 w3 w4 w5 w6 w7 : Value)
def a6M (x : Int × Int) : List (Int × Int) → List (Int × Int)
 | [] => [x]
 | y :: l => if le2 x y then x :: y :: l else y :: a6M x l
def a8b : List (Int × Int) → List (Int × Int)
 | [] => []
 | x :: l => a6M x (a8b l)
theorem xP (x : Int × Int) : ∀ l, (a6M x l).Perm (x :: l)
 | [] => .refl _
 | y :: l => by
   unfold a6M
   split
   ·exact .refl _
   ·exact ((xP x l).cons y).trans (.swap ..)
theorem a2B : ∀ l, (a8b l).Perm l
 | [] => .refl _
 | x :: l => (xP x _).trans ((a2B l).cons x)
theorem b0G (x y : Int × Int) : le2 x y = false → le2 y x = true := by
 intro h
 rw [← ew] at h
 rw [nD] at h ⊢
 omega
theorem yX (x : Int × Int) : ∀ l : List (Int × Int), l.Pairwise (fun a b => le2 a b = true) → (a6M x l).Pairwise fun a b => le2 a b = true
 | [], _ => by simp [a6M]
 | y :: l, h => by
   have h1 := List.pairwise_cons.1 h
   unfold a6M
   split
   ·rename_i hxy
    refine List.pairwise_cons.2 ⟨fun z hz => ?_, h⟩
    rcases dK.1 hz with rfl | hz
    ·exact hxy
    ·have h2 := h1.1 z hz
     rw [nD] at *
     omega
   ·rename_i hxy
    refine List.pairwise_cons.2 ⟨fun z hz => ?_, yX x l h1.2⟩
    rcases dK.1 ((xP x l).mem_iff.1 hz) with rfl | hz
    ·exact b0G _ _ (by simpa using hxy)
    ·exact h1.1 z hz
theorem yY : ∀ l : List (Int × Int), (a8b l).Pairwise fun a b => le2 a b = true
 | [] => .nil
 | x :: l => yX x _ (yY l)
theorem b2D : tQ = a8b := by
 funext l
 refine List.Perm.eq_of_pairwise (le := fun a b => le2 a b = true) (fun a b _ _ h1 h2 => ?_) (a1u l) (yY l) ((nY l).trans (a2B l).symm)
 rw [nD] at h1 h2
 exact gn (by omega) (by omega)
def b8W (s : List Ct → List Ct) (o : Org) (r : Reg) (l : List Ct) : List Ct := dd (s (l.filter (fun c => !r.off.testBit c.1.toNat) ++ bfs o r.cpl 1100 0 (mZ o r.cpl l)))
def b9w (s : List Ct → List Ct) (rs : List Rk) (p : Stp) (key : Int) : List Ct := dd (s (((a6Q p key).filter fun d => xZ rs d key).map fun d => nV rs d key))
def b9Y (s : List Ct → List Ct) (o : Org) (r : Reg) (c : Ct) : List Ct := (List.range (gN o.dvs c.1.toNat).stops.length).flatMap fun i => if (gN r.stops c.1.toNat).testBit i then b9w s o.ranks (gN (gN o.dvs c.1.toNat).stops i) c.2 else []
end
end Go.Ds
namespace Go.Ds
open Go.Proofs Go.Proofs.Tryz
variable {H : Heap}
set_option maxRecDepth 10000
set_option maxHeartbeats 1000000
theorem a2k (hG : Glob gH H) (s : ByteArray) : Fn prog 93 [.string s] H fun r H' => ∃ wv, r = .agg #[.string s, .string ⟨#[102, 108, 117, 116, 101]⟩, I 8, I 1, I 36, wv] ∧ St prog H H' [⟨wv, 1, List.replicate 25 (I 1)⟩] := by
 refine .aS func93 rfl (by kernel_rfl) (m := 8) rfl fun l hn g0 => ?_
 simp (disch := omega) only [↓RA, RZ, simprocAttr]
 refine (sR H).eNew 6 [(.string ⟨#[]⟩), (.string ⟨#[]⟩), I 0, I 0, I 0, (.slice none 0 0)] rfl rfl rfl vX fun A1 H1 hS1 => ?_
 simp only [RT] at hS1
 simp (disch := omega) only [↓RA, RB, simprocAttr, g0, sD]
 refine hS1.ai [I 1] a3l a7R rfl rfl (by simp [Value.cells]) rfl rfl (by decide) (by decide) fun w1 H2 hS2 => ?_
 simp only [RT] at hS2
 simp (disch := omega) only [↓RA, RZ, simprocAttr, hn]
 refine gV ((b3X (hS2.gl hG) w1 (hS2.ay 1 rfl (fun _ => rfl))).tr) ?_
 rintro r H3 ⟨-, hT1⟩
 have hS3 := hS2.trans hT1
 simp only [RT] at hS3
 obtain ⟨wv, rfl⟩ : ∃ w, w = r := ⟨r, rfl⟩
 simp (disch := omega) only [↓RA, RB, simprocAttr, hn, a0T (hS3.rd 2 rfl).cells]
 refine hS3.aa 0 rfl [(.string s), (.string ⟨#[102, 108, 117, 116, 101]⟩), I 8, I 1, I 36, wv] rfl (by simp [OC, (hS3.rd 2 rfl).cells.2.1]) vX (by simp) fun H4 hS4 => ?_
 simp only [RT] at hS4
 simp (disch := omega) only [↓RA, RZ, simprocAttr, hn, c3G, hS4.aj 0 rfl]
 exact ⟨wv, rfl, hS4.pick [2] (by decide) rfl⟩
theorem a2N (n feet shift : Int) : Fn prog 92 [I n, I feet, I shift] H fun r H' => ∃ dv gv, St prog H H' [⟨dv, 2, [I n, I shift]⟩, ⟨gv, 3, [I 36, I 48, dv]⟩, ⟨r, 4, [.string ⟨#[97]⟩, I feet, I 1, gv]⟩] := by
 refine .bD func92 rfl (by kernel_rfl) (m := 17) rfl fun l hn g0 g1 g2 => ?_
 simp (disch := omega) only [↓RA, RB, simprocAttr, hn, g0, g1, g2, sD, oT]
 refine (sR H).ai [I n, I shift] a2y a2v rfl rfl (by simp [Value.cells]) rfl rfl (by decide) (by decide) fun w1 H1 hS1 => ?_
 simp only [RT] at hS1
 simp (disch := omega) only [↓RA, RB, simprocAttr, hn, kM (hS1.rd 0 rfl).cells]
 refine hS1.ai [I 36, I 48, w1] oH uE rfl rfl (by first | (simp []; done) | simp [Value.cells]) (by first | (simp []; done) | simp [Value.cells]) (by simp [OC, (hS1.rd 0 rfl).cells.2.1]) (by decide) (by decide) fun w2 H2 hS2 => ?_
 simp only [RT] at hS2
 simp (disch := omega) only [↓RA, RB, simprocAttr, hn, a4I (hS2.rd 1 rfl).cells]
 refine hS2.ai [(.string ⟨#[97]⟩), I feet, I 1, w2] b3L b7N rfl rfl (by first | (simp []; done) | simp [Value.cells]) (by first | (simp []; done) | simp [Value.cells]) (by simp [OC, (hS2.rd 1 rfl).cells.2.1]) (by decide) (by decide) fun w3 H3 hS3 => ?_
 simp only [RT] at hS3
 simp (disch := omega) only [↓RA, RB, simprocAttr, hn, c2F]
 exact ⟨w1, w2, hS3⟩
def exE (w1 w2 : Value) (d1 g1 s1 d2 g2 s2 : Value) (w3 w4 w5 : Value) : Org := ⟨⟨#[101]⟩, w3, [⟨⟨#[114]⟩, ⟨#[102, 108, 117, 116, 101]⟩, 8, 1, 36, w1, List.replicate 25 1⟩, ⟨⟨#[115]⟩, ⟨#[102, 108, 117, 116, 101]⟩, 8, 1, 36, w2, List.replicate 25 1⟩], w4,
 [⟨⟨#[111, 110, 101]⟩, false, 36, 48, s1, [⟨⟨#[97]⟩, 8, 1, g1, [⟨36, 48, d1, [⟨0, 0⟩]⟩]⟩]⟩, ⟨⟨#[116, 119, 111]⟩, false, 36, 48, s2, [⟨⟨#[97]⟩, 4, 1, g2, [⟨36, 48, d2, [⟨1, 12⟩]⟩]⟩]⟩], w5, [⟨⟨#[99]⟩, 0, 1, 0, false⟩]⟩
theorem a6b (hG : Glob gH H) : Fn prog 44 [] H fun r H' => ∃ w1 w2 d1 g1 s1 d2 g2 s2 w3 w4 w5, r = .agg #[.string (exE w1 w2 d1 g1 s1 d2 g2 s2 w3 w4 w5).name, w3, w4, w5] ∧ (exE w1 w2 d1 g1 s1 d2 g2 s2 w3 w4 w5).In H' ∧ St prog H H' [] := by
 refine .cK func44 rfl (by kernel_rfl) (m := 19) rfl fun l hn => ?_
 simp (disch := omega) only [↓RA, RZ, simprocAttr]
 refine (sR H).eNew 4 [(.string ⟨#[]⟩), (.slice none 0 0), (.slice none 0 0), (.slice none 0 0)] rfl rfl rfl oD fun A1 H1 hS1 => ?_
 simp only [RT] at hS1
 simp (disch := omega) only [↓RA, RZ, simprocAttr, a1Y]
 refine hS1.eNew 2 [I 0, I 0] rfl rfl rfl uB fun A2 H2 hS2 => ?_
 simp only [RT] at hS2
 simp (disch := omega) only [↓RA, RB, simprocAttr, hn]
 refine hS2.aa 1 rfl [I 36, I 48] rfl rfl uB (by simp) fun H3 hS3 => ?_
 simp only [RT] at hS3
 simp (disch := omega) only [↓RA, RB, simprocAttr]
 refine Wp.cd jM [0, 1, 4, 5, 8, 9, 2, 3, 6, 7, 10, 11, 12, 13, 14, 15] [0, 1, 6, 7, 2, 3, 8, 9, 4, 5, 10, 11, 12, 13, 14, 15] ⟨true, [40], []⟩ [(7, 0), (7, 1), (7, 2), (7, 4), (7, 6), (9, 0), (9, 1), (9, 2), (9, 4), (9, 6)] (by kernel_rfl) (by kernel_rfl) (by kernel_rfl) ?_
 simp (disch := omega) only [↓RA, RZ, simprocAttr]
 refine gV (a2k (hS3.gl hG) _) ?_
 rintro r H4 ⟨wv1, rfl, hT1⟩
 have hS4 := hS3.trans hT1
 simp only [RT] at hS4
 simp (disch := omega) only [↓RA, RZ, simprocAttr]
 refine gV (a2k (hS4.gl hG) _) ?_
 rintro r H5 ⟨wv2, rfl, hT2⟩
 have hS5 := hS4.trans hT2
 simp only [RT] at hS5
 simp (disch := omega) only [↓RA, RZ, simprocAttr, hn]
 refine gV (a2N 0 8 0) ?_
 rintro r H6 ⟨d1, g1, hT3⟩
 have hS6 := hS5.trans hT3
 simp only [RT] at hS6
 obtain ⟨s1, rfl⟩ : ∃ w, w = r := ⟨r, rfl⟩
 simp (disch := omega) only [↓RA, RZ, simprocAttr, hn]
 refine gV (a2N 1 4 12) ?_
 rintro r H7 ⟨d2, g2, hT4⟩
 have hS7 := hS6.trans hT4
 simp only [RT] at hS7
 obtain ⟨s2, rfl⟩ : ∃ w, w = r := ⟨r, rfl⟩
 simp (disch := omega) only [↓RA, RB, simprocAttr, hn]
 refine hS7.ai [(.string ⟨#[114]⟩), (.string ⟨#[102, 108, 117, 116, 101]⟩), I 8, I 1, I 36, wv1, (.string ⟨#[115]⟩), (.string ⟨#[102, 108, 117, 116, 101]⟩), I 8, I 1, I 36, wv2] b8U c0o rfl rfl (by first | (simp []; done) | simp [Value.cells]) (by first | (simp []; done) | simp [Value.cells]) (by simp [OC, (hS7.rd 2 rfl).cells.2.1, (hS7.rd 3 rfl).cells.2.1]) (by decide) (by decide) fun w1 H8 hS8 => ?_
 simp only [RT] at hS8
 simp (disch := omega) only [↓RA, RZ, simprocAttr, hn, hS8.aj 1 rfl, zE (hS8.rd 6 rfl).cells, zE (hS8.rd 9 rfl).cells]
 refine hS8.ai [(.string ⟨#[111, 110, 101]⟩), (.bool false), I 36, I 48, s1, (.string ⟨#[116, 119, 111]⟩), (.bool false), I 36, I 48, s2] b8K c1k rfl rfl (by first | (simp []; done) | simp [Value.cells]) (by first | (simp []; done) | simp [Value.cells]) (by simp [OC, (hS8.rd 6 rfl).cells.2.1, (hS8.rd 9 rfl).cells.2.1]) (by decide) (by decide) fun w2 H9 hS9 => ?_
 simp only [RT] at hS9
 simp (disch := omega) only [↓RA, RB, simprocAttr, hn, a4H]
 refine hS9.ai [(.string ⟨#[99]⟩), I 0, I 1, I 0, (.bool false)] a7x b7e rfl rfl (by simp [Value.cells]) rfl rfl (by decide) (by decide) fun w3 H10 hS10 => ?_
 simp only [RT] at hS10
 simp (disch := omega) only [↓RA, RB, simprocAttr, hn, a3z (hS10.rd 10 rfl).cells (hS10.rd 11 rfl).cells (hS10.rd 12 rfl).cells]
 refine hS10.aa 0 rfl [(.string ⟨#[101]⟩), w1, w2, w3] rfl (by simp [OC, (hS10.rd 10 rfl).cells.2.1, (hS10.rd 11 rfl).cells.2.1, (hS10.rd 12 rfl).cells.2.1]) oD (by simp) fun H11 hS11 => ?_
 simp only [RT] at hS11
 simp (disch := omega) only [↓RA, RZ, simprocAttr, hn, hS3.aj 1 rfl, hS4.aj 1 rfl, hS5.aj 1 rfl, hS6.aj 1 rfl, hS7.aj 1 rfl, c3L, hS11.aj 0 rfl]
 have h1 : Sl 1 (one I) H11 wv1 (List.replicate 25 1) := hS11.ay 2 rfl (fun _ => rfl)
 have h2 : Sl 1 (one I) H11 wv2 (List.replicate 25 1) := hS11.ay 3 rfl (fun _ => rfl)
 have h3 : Sl 2 Drw.cells H11 d1 [⟨0, 0⟩] := hS11.ay 4 rfl (fun _ => rfl)
 have h4 : Sl 3 Seg.cells H11 g1 [⟨36, 48, d1, [⟨0, 0⟩]⟩] := hS11.ay 5 rfl (fun _ => rfl)
 have h5 : Sl 4 Stp.cells H11 s1 [⟨⟨#[97]⟩, 8, 1, g1, [⟨36, 48, d1, [⟨0, 0⟩]⟩]⟩] := hS11.ay 6 rfl (fun _ => rfl)
 have h6 : Sl 2 Drw.cells H11 d2 [⟨1, 12⟩] := hS11.ay 7 rfl (fun _ => rfl)
 have h7 : Sl 3 Seg.cells H11 g2 [⟨36, 48, d2, [⟨1, 12⟩]⟩] := hS11.ay 8 rfl (fun _ => rfl)
 have h8 : Sl 4 Stp.cells H11 s2 [⟨⟨#[97]⟩, 4, 1, g2, [⟨36, 48, d2, [⟨1, 12⟩]⟩]⟩] := hS11.ay 9 rfl (fun _ => rfl)
 have h9 : Sl 6 Rk.cells H11 w1 (exE wv1 wv2 d1 g1 s1 d2 g2 s2 w1 w2 w3).ranks := hS11.ay 10 rfl (fun _ => rfl)
 have h10 : Sl 5 Dvn.cells H11 w2 (exE wv1 wv2 d1 g1 s1 d2 g2 s2 w1 w2 w3).dvs := hS11.ay 11 rfl (fun _ => rfl)
 have h11 : Sl 5 Cpl.cells H11 w3 (exE wv1 wv2 d1 g1 s1 d2 g2 s2 w1 w2 w3).cpls := hS11.ay 12 rfl (fun _ => rfl)
 refine ⟨wv1, wv2, d1, g1, s1, d2, g2, s2, w1, w2, w3, rfl, ⟨h9, ?_, h10, ?_, h11, by simp [exE], by simp [exE], by simp [exE]⟩, hS11.forget⟩
 ·intro r hr
  simp only [exE, dK, dN, or_false] at hr
  rcases hr with rfl | rfl
  ·exact ⟨h1, by simp⟩
  ·exact ⟨h2, by simp⟩
 ·intro d hd
  simp only [exE, dK, dN, or_false] at hd
  rcases hd with rfl | rfl
  ·exact ⟨h5, fun s hs => by rw [dC.1 hs]; exact ⟨h4, fun g hg => by rw [dC.1 hg]; exact ⟨h3, by simp⟩, by simp⟩, by simp⟩
  ·exact ⟨h8, fun s hs => by rw [dC.1 hs]; exact ⟨h7, fun g hg => by rw [dC.1 hg]; exact ⟨h6, by simp⟩, by simp⟩, by simp⟩
section
variable (w1 w2 d1 g1 s1 d2 g2 s2 w3 w4 w5 : Value)
theorem b6x (off : Nat) (h : off < 2) : lJ (exE w1 w2 d1 g1 s1 d2 g2 s2 w3 w4 w5) ⟨[1, 1], 1, off⟩ = 0 := by
 rcases (by omega : off = 0 ∨ off = 1) with rfl | rfl
 ·kernel_rfl
 ·kernel_rfl
theorem b2i : oA (exE w1 w2 d1 g1 s1 d2 g2 s2 w3 w4 w5) [iP [40], (0, 0)] = 0 := by kernel_rfl
theorem b6W : nB (exE w1 w2 d1 g1 s1 d2 g2 s2 w3 w4 w5) ⟨[1, 1], 1, 0⟩ (jZ [iP [40], (0, 0)]) = [(0, 40), (1, 40)] := by
 unfold nB
 rw [b2D]
 kernel_rfl
end
theorem b5r (v : Value) (k : FuncId) : Fn prog 128 [v, I 0, I 1, .func (.func k) #[] #[]] H fun r H' => r = .tuple #[] ∧ St prog H H' [] := by
 refine .cE func128 rfl (by kernel_rfl) (m := 53) rfl fun l hn g0 g1 g2 g3 => ?_
 simp (disch := omega) only [↓RA, RB, simprocAttr, hn, g1]
 refine Wp.al (fun n l H' => l.length = 53 ∧ get l 8 = I 1 ∧ get l 2 = I 1 ∧ St prog H H' []) 1 ?_ ?_
 ·simp (disch := omega) only [RB, RC, simprocAttr, hn, g2]
  exact (sR H)
 rintro n l H9 ⟨hn, g8, g2, hS9⟩
 simp (disch := omega) only [↓RA, RZ, simprocAttr, hn, g8, g2, c1W]
 first | exact hS9 | exact ⟨rfl, hS9⟩
theorem a7f (v : Value) (k : FuncId) : Fn prog 74 [v, I 1, .func (.func k) #[] #[]] H fun r H' => r = .tuple #[] ∧ St prog H H' [] := by
 refine .bD func74 rfl (by kernel_rfl) (m := 63) rfl fun l hn g0 g1 g2 => ?_
 simp (disch := omega) only [↓RA, RB, simprocAttr, hn]
 refine Wp.al (fun n l H' => l.length = 63 ∧ get l 0 = v ∧ get l 1 = I 1 ∧ get l 2 = .func (.func k) #[] #[] ∧ get l 6 = I 20 ∧ get l 7 = I 0 ∧ get l 8 = I 20 ∧ St prog H H' []) 1 ?_ ?_
 ·simp (disch := omega) only [RB, RC, simprocAttr, hn, g0, g1, g2]
  exact (sR H)
 rintro n l H9 ⟨hn, g0, g1, g2, g6, g7, g8, hS9⟩
 simp (disch := omega) only [↓RA, RZ, simprocAttr, hn, g0, g1, g2, g7, g8]
 refine (sR H9).cF (b5r v k) fun H1 hS1 => ?_
 simp (disch := omega) only [↓RA, simprocAttr]
 have hS8 := hS9.trans hS1
 refine Wp.al (fun n l H' => l.length = 63 ∧ get l 1 = I 1 ∧ get l 6 = I 20 ∧ St prog H H' []) 1 ?_ ?_
 ·simp (disch := omega) only [RB, RC, simprocAttr, hn, g1, g6]
  exact hS8
 rintro n l H7 ⟨hn, g1, g6, hS7⟩
 simp (disch := omega) only [↓RA, RZ, simprocAttr, hn, g1, g6, c2K]
 first | exact hS7 | exact ⟨rfl, hS7⟩
def a4g (x : Ct × Int) : List Value := [I x.1.1, I x.1.2, I x.2]
theorem a4M (v : Value) (x : Ct × Int) (hv : Sl 3 a4g H v [x]) (k : FuncId) : Fn prog 29 [v, .func (.func k) #[] #[]] H fun r H' => r = .tuple #[] ∧ St prog H H' [] := by
 have h1 : (([x] : List (Ct × Int)).length : Int) = 1 := rfl
 refine .aM func29 rfl (by kernel_rfl) (m := 9) rfl fun l hn g0 g1 => ?_
 simp (disch := omega) only [↓RA, RZ, simprocAttr, hn, g0, g1, ((sR H).sl hv).len]
 refine (sR H).cF (a7f v k) fun H1 hS1 => ?_
 simp (disch := omega) only [↓RA, RZ, simprocAttr, c3e]
 first | exact hS1 | exact ⟨rfl, hS1⟩
theorem b0D (hG : Glob gH H) : Fn prog 61 [.agg #[I 8, I 1], .agg #[I 8, I 1]] H fun r H' => r = .tuple #[I 0, I 0] ∧ St prog H H' [] := by
 have h := a1f hG (a := (8, 1)) (b := (8, 1)) (by simp [kD]) (by simp [kV])
 rw [show shF (8, 1) (8, 1) = 0 from by kernel_rfl] at h
 exact h.mono fun _ _ h => ⟨h.1.1, h.2⟩
def a5a (o : Org) (p : Ct) : Ct × Int := (p, (gN o.ranks p.1.toNat).first + p.2 + 0)
theorem a7O (hG : Glob gH H) (o : Org) (ho : o.In H) (rg : Reg) (sv : Value) (hr : rg.In H sv) (kv : Value) (ks : List Nt) (hk : Ks H kv ks) (h0 : rkE o rg ks = 0) (i m : Nat) (hsp : a1A o rg ks = [((i : Int), (m : Int))]) (hi : i < o.ranks.length) (hm : m < 1000)
 (hf : (gN o.ranks i).num = 8 ∧ (gN o.ranks i).den = 1 ∧ -1000 ≤ (gN o.ranks i).first ∧ (gN o.ranks i).first ≤ 1000) :
 Fn prog 22 [.agg #[.string o.name, o.rv, o.dv, o.cv], .agg #[sv, .int .u64 rg.cpl, .int .u64 rg.off], kv] H fun r H' => ∃ hv, r = .tuple #[hv, I 0] ∧ St prog H H' [⟨hv, 3, a4g (a5a o ((i : Int), (m : Int)))⟩] := by
 obtain ⟨f1, f2, f3, f4⟩ := hf
 refine .bD func22 rfl (by kernel_rfl) (m := 61) rfl fun l hn g0 g1 g2 => ?_
 simp (disch := omega) only [↓RA, RB, simprocAttr, g0]
 refine (sR H).eNew 4 [(.string o.name), o.rv, o.dv, o.cv] rfl rfl (by simp [OC, ((sR H).sl ho.1).cells.2.1, ((sR H).sl ho.2.2.1).cells.2.1, ((sR H).sl ho.2.2.2.2.1).cells.2.1]) oD fun A1 H1 hS1 => ?_
 simp only [RT] at hS1
 simp (disch := omega) only [↓RA, RB, simprocAttr, g1]
 refine hS1.eNew 3 [sv, (.int .u64 rg.cpl), (.int .u64 rg.off)] rfl rfl (by simp [OC, (hS1.sl hr.1).cells.2.1]) vZ fun A2 H2 hS2 => ?_
 simp only [RT] at hS2
 simp (disch := omega) only [↓RA, RZ, simprocAttr, hn, g2, hS2.aj 0 rfl, hS2.aj 1 rfl]
 refine gV (rV (hS2.gl hG) o (ho.ae hS2) rg sv (hr.ae hS2) kv ks (hk.ae hS2)) ?_
 rintro r H3 ⟨pv, rfl, hx, hT1⟩
 have hS3 := hS2.trans hT1
 simp only [RT] at hS3
 rw [h0]
 rw [hsp] at hx
 have hl1 : (([((i : Int), (m : Int))] : List Ct).length : Int) = 1 := rfl
 have hS0 := hS3
 have ho2 := ho.ae hS0
 have hG2 := hS0.gl hG
 simp (disch := omega) only [↓RA, RZ, simprocAttr, hn, ((sR H3).sl hx.1).len]
 have hS4 := (sR H3).nil 2
 simp only [RT] at hS4
 refine Wp.al (fun n l H' => l.length = 61 ∧ get l 3 = (ptr A1 0 4) ∧ get l 6 = (.slice none 0 0) ∧ get l 7 = I 0 ∧ get l 26 = pv ∧ ∃ (j : Nat) (ov : Value), (n + j = 1) ∧ get l 28 = I j ∧ get l 10 = ov ∧ get l 27 = I 1 ∧ St prog H3 H' [⟨ov, 3, ([a5a o ((i : Int), (m : Int))].take j).flatMap a4g⟩]) 1 ?_ ?_
 ·simp (disch := omega) only [RB, RC, simprocAttr, hn]
  exact ⟨0, .slice none 0 0, by omega, rfl, rfl, hS4⟩
 rintro n l H4 ⟨hn, g3, g6, g7, g26, j, ov, hj, g28, pS, g27, hS5⟩
 simp (disch := omega) only [↓RA, RB, simprocAttr, hn, g28, g27]
 refine gM (fun q1 => ?_) (fun q1 => ?_)
 ·have hj0 : j = 0 := by omega
  have hn0 : gN ([((i : Int), (m : Int))] : List Ct) j = ((i : Int), (m : Int)) := by rw [hj0]; rfl
  simp (disch := omega) only [↓RA, RZ, simprocAttr, hn, g26, g28, (hS5.sl hx.1).idx, (hS5.sl hx.1).aj, jK, q1, hn0]
  refine hS5.eNew 2 [I 0, I 0] rfl rfl rfl rT fun A3 H5 hS6 => ?_
  simp only [RT] at hS6
  simp (disch := omega) only [↓RA, RZ, simprocAttr, hn, q1]
  refine hS6.aa 1 rfl [I i, I m] rfl rfl rT (by simp) fun H6 hS7 => ?_
  simp only [RT] at hS7
  simp (disch := omega) only [↓RA, RZ, simprocAttr, hn, g3, ((hS0.var 0 rfl).ae hS7.ae).ld, hS7.ld 1 rfl, (hS7.sl ho2.1).idx, (hS7.sl ho2.1).aj, Rk.cells, q1]
  refine hS7.eNew 6 [(.string ⟨#[]⟩), (.string ⟨#[]⟩), I 0, I 0, I 0, (.slice none 0 0)] rfl rfl rfl vX fun A4 H7 hS8 => ?_
  simp only [RT] at hS8
  simp (disch := omega) only [↓RA, RZ, simprocAttr, hn, q1]
  refine hS8.aa 2 rfl [(.string (gN o.ranks i).name), (.string (gN o.ranks i).tone), I (gN o.ranks i).num, I (gN o.ranks i).den, I (gN o.ranks i).first, (gN o.ranks i).wv] rfl (by simp [OC, (hS8.sl (ho2.2.1 (gN o.ranks i) (gS (by omega))).1).cells.2.1]) vX (by simp) fun H8 hS9 => ?_
  simp only [RT] at hS9
  simp (disch := omega) only [↓RA, RZ, simprocAttr, hn, hS9.aj 2 rfl, sD, q1]
  rw [f1, f2]
  refine hS9.cF (b0D (hS9.gl hG2)) fun H9 hS10 => ?_
  simp (disch := omega) only [↓RA, RZ, simprocAttr, hn, pS, hS10.aj 1 rfl, hS10.ld 2 rfl, hS10.ld 1 rfl, a4X, q1]
  refine hS10.ai [I i, I m, _] b8s c0P rfl rfl (by simp [Value.cells]) rfl rfl (by decide) (by decide) fun w1 H10 hS11 => ?_
  simp only [RT] at hS11
  simp (disch := omega) only [↓RA, RZ, simprocAttr, hn, q1]
  refine hS11.ar 0 rfl (hS11.rd 3 rfl) b8s (by rw [hj0]; simp) fun w2 H11 hS12 => ?_
  simp only [RT] at hS12
  simp (disch := omega) only [↓RA, RZ, simprocAttr, hn, g3, g6, g7, g26, g28, g27, q1]
  refine ⟨0, by omega, 1, w2, by omega, by rw [hj0]; rfl, rfl, ?_⟩
  have h9 := hS12.pick (os' := [⟨w2, 3, _⟩]) [0] (by decide) rfl
  rw [hj0] at h9
  exact h9
 have hj1 : j = 1 := by omega
 simp (disch := omega) only [↓RA, RZ, simprocAttr, hn, pS, q1]
 have hnt := (hS5.ay (cel := a4g) (xs := [a5a o ((i : Int), (m : Int))].take j) 0 rfl (fun _ => rfl)).bl
 refine hS5.cF (a4M ov (a5a o ((i : Int), (m : Int))) (by have h := hS5.ay (cel := a4g) (xs := [a5a o ((i : Int), (m : Int))].take j) 0 rfl (fun _ => rfl); rw [hj1] at h; exact h) 62) fun H12 hS13 => ?_
 simp (disch := omega) only [↓RA, RZ, simprocAttr, hn, pS, c3D, q1, hnt]
 refine ⟨ov, rfl, ?_⟩
 have hfin := hS13
 rw [hj1] at hfin
 exact hS0.forget.trans hfin
theorem a8u (v w : Value) (xs ys : List Ct) (hv : Sl 2 jK H v xs) (hw : Sl 2 jK H w ys) (hl : xs.length < 1000000000) (hl2 : ys.length < 1000000000) :
 Fn prog 46 [v, w] H fun r H' => r = .bool (decide (xs = ys)) ∧ St prog H H' [] := by
 refine .aM func46 rfl (by kernel_rfl) (m := 26) rfl fun l hn g0 g1 => ?_
 simp (disch := omega) only [↓RA, RZ, simprocAttr, hn, g0, g1, ((sR H).sl hv).len, ((sR H).sl hw).len]
 refine gM (fun h1 => ?_) (fun h1 => ?_)
 ·simp (disch := omega) only [↓RA, RZ, simprocAttr, hn, b9j, h1]
  exact ⟨by rw [decide_eq_false]; intro e; rw [e] at h1; exact h1 rfl, (sR H)⟩
 simp (disch := omega) only [↓RA, RZ, simprocAttr, hn, g0, ((sR H).sl hv).len, h1]
 refine Wp.al (fun n l H' => l.length = 26 ∧ get l 0 = v ∧ get l 1 = w ∧ get l 12 = I xs.length ∧ ∃ (j : Nat), (n + j = xs.length ∧ ∀ q, q < j → gN xs q = gN ys q) ∧ get l 13 = I j ∧ St prog H H' []) xs.length ?_ ?_
 ·simp (disch := omega) only [RB, RC, simprocAttr, hn, g0, g1]
  exact ⟨0, ⟨by omega, fun q hq => absurd hq (dz _)⟩, rfl, (sR H)⟩
 rintro n l H1 ⟨hn, g0, g1, g12, j, ⟨hj,hz⟩, g13, hS1⟩
 simp (disch := omega) only [↓RA, RB, simprocAttr, hn, g12, g13]
 refine gM (fun q1 => ?_) (fun q1 => ?_)
 ·simp (disch := omega) only [↓RA, RZ, simprocAttr, hn, g13, q1]
  refine Wp.drw jM (by kernel_rfl) ?_
  simp (disch := omega) only [↓RA, RZ, simprocAttr, hn, g0, g1, (hS1.sl hv).idx, (hS1.sl hv).aj, jK, (hS1.sl hw).idx, (hS1.sl hw).aj]
  refine gM (fun q2 => ?_) (fun q2 => ?_)
  ·simp (disch := omega) only [↓RA, RZ, simprocAttr, hn, b9j, q2]
   refine ⟨?_, hS1⟩
   rw [decide_eq_false]
   intro e
   rw [e] at q2
   exact q2 ⟨rfl, rfl⟩
  have q3 := di.1 q2
  simp (disch := omega) only [↓RA, RZ, simprocAttr, hn, g0, g1, g12, g13, q2]
  exact ⟨n - 1, by omega, j + 1, ⟨by omega, fun q hq => by rcases de.1 hq with e | e; (· exact hz q e); (· rw [e]; exact gn q3.1 q3.2)⟩, by simp, hS1⟩
 simp (disch := omega) only [↓RA, RZ, simprocAttr, hn, b9j, q1]
 exact ⟨by rw [decide_eq_true]; exact uR (by omega) fun q hq => hz q (by omega), hS1⟩
theorem b3V (a b c : Int) : gU prog (part 74 #[I a, I b, I c] 0) = some (.agg #[I a, I b]) := by kernel_rfl
theorem b7x (a b c : Int) : gU prog (part 3 #[I a, I b, I c] 2) = some (I c) := by kernel_rfl
theorem c2q (x y : Ct × Int) : gU prog (Op.equalIn (9999 + 1) 82 (.agg [I x.1.1, I x.1.2, I x.2].toArray) (.agg [I y.1.1, I y.1.2, I y.2].toArray)) = some (decide (x = y)) := by
 have h52 : gU prog (Op.equalIn (9997 + 2) 74 (.agg [I x.1.1, I x.1.2].toArray) (.agg [I y.1.1, I y.1.2].toArray)) = some ((List.range [I x.1.1, I x.1.2].length).all fun j => zR ([I x.1.1, I x.1.2].getD j undef) ([I y.1.1, I y.1.2].getD j undef)) :=
  wV 9997 (by kernel_rfl) (by kernel_rfl) (by kernel_rfl) rfl (by kernel_rfl)
 rw [a4l (fs := rR prog 82) (by kernel_rfl) (by kernel_rfl) (fun f => if f.offset = 0 then decide (x.1 = y.1) else decide (x.2 = y.2))]
 ·congr 1
  have hfl : (rR prog 82).map (·.offset) = [0, 2] := by kernel_rfl
  have e : (rR prog 82).all (fun f => if f.offset = 0 then decide (x.1 = y.1) else decide (x.2 = y.2)) = ((rR prog 82).map (·.offset)).all fun n => if n = 0 then decide (x.1 = y.1) else decide (x.2 = y.2) := by
   rw [List.all_map]
   rfl
  rw [e, hfl, dM]
  simp [Prod.ext_iff]
 ·intro f hf
  have hfs : (rR prog 82).map (fun f => (f.name != "_", f.type, f.offset)) = [(true, 74, 0), (true, 3, 2)] := by kernel_rfl
  have hm : (f.name != "_", f.type, f.offset) ∈ [(true, 74, 0), (true, 3, 2)] := by
   rw [← hfs]
   exact fy hf
  simp only [dK, dN, or_false, gj] at hm
  rcases hm with ⟨h1, h2, h3⟩ | ⟨h1, h2, h3⟩
  ·refine ⟨by simpa using h1, ?_⟩
   rw [h2, h3, if_pos rfl, gQ, b3V, cR, gQ, b3V, cR]
   refine h52.trans ?_
   congr 1
   show ((x.1.1 == y.1.1) && ((x.1.2 == y.1.2) && true)) = _
   rw [dM]
   first | done | simp [Prod.ext_iff]
  ·refine ⟨by simpa using h1, ?_⟩
   rw [h2, h3, if_neg (by decide), gQ, b7x, cR, gQ, b7x, cR]
   exact eq1 (P := prog) (t := 3) 9998 (by kernel_rfl)
theorem c0R (x y : Ct × Int) (t2 : TypeId) (cx cy : Bool) : kH prog .neq 82 t2 cx cy (.agg #[I x.1.1, I x.1.2, I x.2]) (.agg #[I y.1.1, I y.1.2, I y.2]) = some (.bool (decide (¬ x = y))) := by
 have h := a5G (t2 := t2) (cx := cx) (cy := cy) (decide (x = y)) (by kernel_rfl) (by rfl) (by rfl) (c2q x y)
 rw [h]
 simp
theorem a8a (v w : Value) (xs ys : List (Ct × Int)) (hv : Sl 3 a4g H v xs) (hw : Sl 3 a4g H w ys) (hl : xs.length < 1000000000) (hl2 : ys.length < 1000000000) :
 Fn prog 31 [v, w] H fun r H' => r = .bool (decide (xs = ys)) ∧ St prog H H' [] := by
 refine .aM func31 rfl (by kernel_rfl) (m := 26) rfl fun l hn g0 g1 => ?_
 simp (disch := omega) only [↓RA, RZ, simprocAttr, hn, g0, g1, ((sR H).sl hv).len, ((sR H).sl hw).len]
 refine gM (fun h1 => ?_) (fun h1 => ?_)
 ·simp (disch := omega) only [↓RA, RZ, simprocAttr, hn, b8m, h1]
  exact ⟨by rw [decide_eq_false]; intro e; rw [e] at h1; exact h1 rfl, (sR H)⟩
 simp (disch := omega) only [↓RA, RZ, simprocAttr, hn, g0, ((sR H).sl hv).len, h1]
 refine Wp.al (fun n l H' => l.length = 26 ∧ get l 0 = v ∧ get l 1 = w ∧ get l 12 = I xs.length ∧ ∃ (j : Nat), (n + j = xs.length ∧ ∀ q, q < j → gN xs q = gN ys q) ∧ get l 13 = I j ∧ St prog H H' []) xs.length ?_ ?_
 ·simp (disch := omega) only [RB, RC, simprocAttr, hn, g0, g1]
  exact ⟨0, ⟨by omega, fun q hq => absurd hq (dz _)⟩, rfl, (sR H)⟩
 rintro n l H1 ⟨hn, g0, g1, g12, j, ⟨hj,hz⟩, g13, hS1⟩
 simp (disch := omega) only [↓RA, RB, simprocAttr, hn, g12, g13]
 refine gM (fun q1 => ?_) (fun q1 => ?_)
 ·have hne := fun t2 cx cy => c0R (gN xs j) (gN ys j) t2 cx cy
  simp (disch := omega) only [↓RA, RZ, simprocAttr, hn, g13, q1]
  refine Wp.drw jM (by kernel_rfl) ?_
  simp (disch := omega) only [↓RA, RZ, simprocAttr, hn, g0, g1, (hS1.sl hv).idx, (hS1.sl hv).aj, a4g, (hS1.sl hw).idx, (hS1.sl hw).aj, hne]
  refine gM (fun q2 => ?_) (fun q2 => ?_)
  ·simp (disch := omega) only [↓RA, RZ, simprocAttr, hn, b8m, q2]
   refine ⟨?_, hS1⟩
   rw [decide_eq_false]
   intro e
   rw [e] at q2
   exact q2 rfl
  have q3 := di.1 q2
  simp (disch := omega) only [↓RA, RZ, simprocAttr, hn, g0, g1, g12, g13, q2]
  exact ⟨n - 1, by omega, j + 1, ⟨by omega, fun q hq => by rcases de.1 hq with e | e; (· exact hz q e); (· rw [e]; exact q3)⟩, by simp, hS1⟩
 simp (disch := omega) only [↓RA, RZ, simprocAttr, hn, b8m, q1]
 exact ⟨by rw [decide_eq_true]; exact uR (by omega) fun q hq => hz q (by omega), hS1⟩
theorem a2C (o : Org) (r : Reg) (l : List Ct) : lO o r l = dd (a8b ((b8W a8b o r l).flatMap (b9Y a8b o r))) := by
 rw [← b2D]
 rfl
section
variable (w1 w2 d1 g1 s1 d2 g2 s2 w3 w4 w5 : Value)
theorem a0V (off : Nat) (h : off < 2) : rkE (exE w1 w2 d1 g1 s1 d2 g2 s2 w3 w4 w5) ⟨[1, 1], 1, off⟩ [iP [40], (0, 0)] = 0 := by
 unfold rkE
 rw [b6x _ _ _ _ _ _ _ _ _ _ _ off h, if_neg (by decide), b2i]
theorem b3W : b0M (exE w1 w2 d1 g1 s1 d2 g2 s2 w3 w4 w5) ⟨[1, 1], 1, 0⟩ [iP [40], (0, 0)] = [(0, 40), (1, 40)] := by
 unfold b0M
 rw [a0V _ _ _ _ _ _ _ _ _ _ _ 0 (by decide), if_pos rfl, b6W]
theorem b1Y : a1A (exE w1 w2 d1 g1 s1 d2 g2 s2 w3 w4 w5) ⟨[1, 1], 1, 0⟩ [iP [40], (0, 0)] = [(0, 4), (1, 16)] := by
 unfold a1A
 rw [a0V _ _ _ _ _ _ _ _ _ _ _ 0 (by decide), if_pos rfl, a2C]
 kernel_rfl
theorem b2p : a1A (exE w1 w2 d1 g1 s1 d2 g2 s2 w3 w4 w5) ⟨[1, 1], 1, 1⟩ [iP [40], (0, 0)] = [(1, 16)] := by
 unfold a1A
 rw [a0V _ _ _ _ _ _ _ _ _ _ _ 1 (by decide), if_pos rfl, a2C]
 kernel_rfl
end
theorem a3i (hG : Glob gH H) : Fn prog 44 [] H fun r H' => ∃ o : Org, r = .agg #[.string o.name, o.rv, o.dv, o.cv] ∧ (∃ w1 w2 d1 g1 s1 d2 g2 s2 w3 w4 w5, o = exE w1 w2 d1 g1 s1 d2 g2 s2 w3 w4 w5) ∧ o.In H' ∧ St prog H H' [] := by
 obtain ⟨h1, v, H1, h2, w1, w2, d1, g1, s1, d2, g2, s2, w3, w4, w5, h3, h4, h5⟩ := a6b hG
 exact ⟨h1, v, H1, h2, _, h3, ⟨w1, w2, d1, g1, s1, d2, g2, s2, w3, w4, w5, rfl⟩, h4, h5⟩
theorem pA (hG : Glob gH H) : Fn prog 10 [] H fun r H' => r = .bool true ∧ St prog H H' [] := by
 refine .cK func10 rfl (by kernel_rfl) (m := 80) rfl fun l hn => ?_
 simp (disch := omega) only [↓RA, RZ, simprocAttr]
 refine gV (a3i ((sR H).gl hG)) ?_
 rintro r H1 ⟨o, rfl, ⟨v1, v2, v3, v4, v5, v6, v7, v8, v9, v10, v11, hoe⟩, ho, hT1⟩
 have hS1 := (sR H).trans hT1
 simp only [RT] at hS1
 have q1 : rkE o ⟨[1, 1], 1, 0⟩ [iP [40], (0, 0)] = 0 := by subst hoe; exact a0V _ _ _ _ _ _ _ _ _ _ _ 0 (by decide)
 have q2 : rkE o ⟨[1, 1], 1, 1⟩ [iP [40], (0, 0)] = 0 := by subst hoe; exact a0V _ _ _ _ _ _ _ _ _ _ _ 1 (by decide)
 have q3 : b0M o ⟨[1, 1], 1, 0⟩ [iP [40], (0, 0)] = [(0, 40), (1, 40)] := by subst hoe; exact b3W _ _ _ _ _ _ _ _ _ _ _
 have q4 : a1A o ⟨[1, 1], 1, 0⟩ [iP [40], (0, 0)] = [(0, 4), (1, 16)] := by subst hoe; exact b1Y _ _ _ _ _ _ _ _ _ _ _
 have q5 : a1A o ⟨[1, 1], 1, 1⟩ [iP [40], (0, 0)] = [(1, 16)] := by subst hoe; exact b2p _ _ _ _ _ _ _ _ _ _ _
 have q6 : o.ranks.length = 2 ∧ (gN o.ranks 1).num = 8 ∧ (gN o.ranks 1).den = 1 ∧ (gN o.ranks 1).first = 36 := by subst hoe; exact ⟨rfl, rfl, rfl, rfl⟩
 clear hoe
 have hG1 : ∀ z ∈ [(40 : Int)], isN z := fun z hz => by rw [dC.1 hz]; exact ⟨by decide, by decide⟩
 have hS0 := hS1
 have hG2 := hS0.gl hG
 simp (disch := omega) only [↓RA, RZ, simprocAttr]
 refine (sR H1).eNew 4 [(.string ⟨#[]⟩), (.slice none 0 0), (.slice none 0 0), (.slice none 0 0)] rfl rfl rfl oD fun A1 H2 hS2 => ?_
 simp only [RT] at hS2
 simp (disch := omega) only [↓RA, RB, simprocAttr, hn]
 refine hS2.aa 0 rfl [(.string o.name), o.rv, o.dv, o.cv] rfl (by simp [OC, (hS2.sl ho.1).cells.2.1, (hS2.sl ho.2.2.1).cells.2.1, (hS2.sl ho.2.2.2.2.1).cells.2.1]) oD (by simp) fun H3 hS3 => ?_
 simp only [RT] at hS3
 simp (disch := omega) only [↓RA, RB, simprocAttr]
 refine hS3.ai [I 40] a3l a7R rfl rfl (by simp [Value.cells]) rfl rfl (by decide) (by decide) fun w1 H4 hS4 => ?_
 simp only [RT] at hS4
 simp (disch := omega) only [↓RA, RZ, simprocAttr, hn]
 refine hS4.cF (a6N [40] hG1 w1 (hS4.ay 1 rfl (fun _ => rfl)) (by simp)) fun H5 hS5 => ?_
 have hKo : ∀ x ∈ ([iP [40], (0, 0)] : List Nt), Nt.Ok x := by
  intro x hx
  simp only [dK, dN, or_false] at hx
  rcases hx with rfl | rfl <;> exact ⟨by decide, by decide⟩
 have hRo : (⟨[1, 1], 1, 0⟩ : Reg).Ok := ⟨by decide, by decide, by decide, by decide⟩
 have hRo1 : (⟨[1, 1], 1, 1⟩ : Reg).Ok := ⟨by decide, by decide, by decide, by decide⟩
 simp (disch := omega) only [↓RA, RZ, simprocAttr, hn]
 refine hS5.eNew 2 [(.int .u64 0), (.int .u64 0)] rfl rfl rfl nP fun A2 H6 hS6 => ?_
 simp only [RT] at hS6
 simp (disch := omega) only [↓RA, RB, simprocAttr, hn]
 refine hS6.aa 2 rfl [(.int .u64 (iP [40]).1), (.int .u64 (iP [40]).2)] rfl rfl nP (by simp) fun H7 hS7 => ?_
 simp only [RT] at hS7
 simp (disch := omega) only [↓RA, RZ, simprocAttr, hn, hS7.aj 2 rfl, b8f]
 refine hS7.ai [(.int .u64 (iP [40]).1), (.int .u64 (iP [40]).2), (.int .u64 0), (.int .u64 0)] c3F c3v rfl rfl (by simp [Value.cells]) rfl rfl (by decide) (by decide) fun w2 H8 hS8 => ?_
 simp only [RT] at hS8
 simp (disch := omega) only [↓RA, RB, simprocAttr, hn]
 refine hS8.ai [(.int .u64 1), (.int .u64 1)] c3k c3l rfl rfl (by simp [Value.cells]) rfl rfl (by decide) (by decide) fun w3 H9 hS9 => ?_
 simp only [RT] at hS9
 simp (disch := omega) only [↓RA, RZ, simprocAttr, hn, b2Z (hS9.rd 4 rfl).cells]
 refine hS9.eNew 3 [(.slice none 0 0), (.int .u64 0), (.int .u64 0)] rfl rfl rfl vZ fun A3 H10 hS10 => ?_
 simp only [RT] at hS10
 simp (disch := omega) only [↓RA, RB, simprocAttr, hn]
 refine hS10.aa 5 rfl [w3, (.int .u64 1), (.int .u64 0)] rfl (by simp [OC, (hS10.rd 4 rfl).cells.2.1]) vZ (by simp) fun H11 hS11 => ?_
 simp only [RT] at hS11
 simp (disch := omega) only [↓RA, RZ, simprocAttr, hn, hS11.aj 0 rfl, hS11.aj 5 rfl]
 have hS2 := hS11
 refine gV (a3I (hS11.gl hG2) o (ho.ae hS11) ⟨[1, 1], 1, 0⟩ w3 ⟨hS11.ay 4 rfl (fun _ => rfl), hRo⟩ w2 [iP [40], (0, 0)] ⟨hS11.ay 3 rfl (fun _ => rfl), by simp, hKo⟩) ?_
 rintro r H12 ⟨cv, rfl, hcx, hT3⟩
 have hS12 := hS11.trans hT3
 simp only [RT] at hS12
 rw [q3] at hcx
 rw [q1]
 have hcx2 := hcx.step (hS2.aV (H' := H12))
 obtain ⟨X, hBX, hS13⟩ := hS12.aB (os := [⟨ptr A1 0 4, 0, _⟩, ⟨w1, 1, _⟩, ⟨ptr A2 0 2, 0, _⟩, ⟨w2, 2, _⟩, ⟨w3, 1, _⟩, ⟨ptr A3 0 3, 0, _⟩])
 simp (disch := omega) only [↓RA, RZ, simprocAttr, hn, hS13.aj 0 rfl, hS13.aj 5 rfl]
 have hS3 := hS13
 refine gV (rV ((hS12.ag hBX hS13).gl hG2) o (ho.ae (hS12.ag hBX hS13)) ⟨[1, 1], 1, 0⟩ w3 ⟨hS13.ay 4 rfl (fun _ => rfl), hRo⟩ w2 [iP [40], (0, 0)] ⟨hS13.ay 3 rfl (fun _ => rfl), by simp, hKo⟩) ?_
 rintro r H13 ⟨pv, rfl, hpx, hT4⟩
 have hS14 := hS13.trans hT4
 simp only [RT] at hS14
 rw [q4] at hpx
 rw [q1]
 have hcx3 := hcx2.step (hS14.kept hBX)
 have hpx2 := hpx.step (hS3.aV (H' := H13))
 obtain ⟨Y, hBY, hS15⟩ := hS14.aB (os := [⟨ptr A1 0 4, 0, _⟩, ⟨w1, 1, _⟩, ⟨ptr A2 0 2, 0, _⟩, ⟨w2, 2, _⟩, ⟨w3, 1, _⟩, ⟨ptr A3 0 3, 0, _⟩])
 simp (disch := omega) only [↓RA, RZ, simprocAttr, hn]
 refine hS15.aa 5 rfl [(.int .u64 1)] rfl rfl b5N (by simp) fun H14 hS16 => ?_
 simp only [RT] at hS16
 simp (disch := omega) only [↓RA, RZ, simprocAttr, hn, hS16.aj 0 rfl, hS16.aj 5 rfl]
 refine gV (a7O ((hS12.ag hBX (hS14.ag hBY hS16)).gl hG2) o (ho.ae (hS12.ag hBX (hS14.ag hBY hS16))) ⟨[1, 1], 1, 1⟩ w3 ⟨hS16.ay 4 rfl (fun _ => rfl), hRo1⟩ w2 [iP [40], (0, 0)] ⟨hS16.ay 3 rfl (fun _ => rfl), by simp, hKo⟩ q2 1 16 q5 (by rw [q6.1]; decide) (by decide) ⟨q6.2.1, q6.2.2.1, by rw [q6.2.2.2]; decide, by rw [q6.2.2.2]; decide⟩) ?_
 rintro r H15 ⟨dv, rfl, hT5⟩
 have hS17 := hS16.trans hT5
 simp only [RT] at hS17
 have hcx4 := hcx3.step (hS17.kept hBY)
 have hpx4 := hpx2.step (hS17.kept hBY)
 simp (disch := omega) only [↓RA, RZ, simprocAttr, hn, wT]
 refine hS17.ai [I 0, I 40, I 1, I 40] a1K b4E rfl rfl (by simp [Value.cells]) rfl rfl (by decide) (by decide) fun w4 H16 hS18 => ?_
 simp only [RT] at hS18
 simp (disch := omega) only [↓RA, RZ, simprocAttr, hn]
 refine hS18.cF (a8u cv w4 [(0, 40), (1, 40)] [(0, 40), (1, 40)] (hcx3.step (hS18.kept hBY)).1 (hS18.ay 7 rfl jT) (by simp) (by simp)) fun H17 hS19 => ?_
 rw [decide_eq_true rfl]
 simp (disch := omega) only [↓RA, RZ, simprocAttr, hn, a0A]
 refine hS19.ai [I 0, I 4, I 1, I 16] a9J b9x rfl rfl (by simp [Value.cells]) rfl rfl (by decide) (by decide) fun w5 H18 hS20 => ?_
 simp only [RT] at hS20
 simp (disch := omega) only [↓RA, RZ, simprocAttr, hn]
 refine hS20.cF (b2M pv w5 [(0, 4), (1, 16)] [(0, 4), (1, 16)] (hpx2.step (hS20.kept hBY)).1 (hS20.ay 8 rfl jT) (by simp) (by simp)) fun H19 hS21 => ?_
 rw [decide_eq_true rfl]
 simp (disch := omega) only [↓RA, RZ, simprocAttr, hn, a0A, a4X]
 refine hS21.ai [I 1, I 16, I 52] b8s c0P rfl rfl (by simp [Value.cells]) rfl rfl (by decide) (by decide) fun w6 H20 hS22 => ?_
 simp only [RT] at hS22
 simp (disch := omega) only [↓RA, RZ, simprocAttr, hn]
 have hhe : [a5a o (1, 16)] = [((1, 16), (52 : Int))] := by
  unfold a5a
  rw [show ((1, 16) : Ct).1.toNat = 1 from rfl, q6.2.2.2]
  rfl
 refine hS22.cF (a8a dv w6 [a5a o (1, 16)] [((1, 16), 52)] (hS22.ay 6 rfl (fun _ => rfl)) (hS22.ay 9 rfl (fun _ => rfl)) (by simp) (by simp)) fun H21 hS23 => ?_
 rw [decide_eq_true hhe]
 simp (disch := omega) only [↓RA, RZ, simprocAttr, hn, c3P]
 exact hS0.forget.trans (hS12.ag hBX (hS14.ag hBY hS23)).forget
theorem b3I (o : Org) (h0 : organE o = 0) (sv tv : Value) (rg sg : Reg) (ks : List Nt) : rX o [(sv, rg), (tv, sg)] ks = if lJ o rg ≠ 0 then lJ o rg else if lJ o sg ≠ 0 then lJ o sg else oA o ks := by
 have hs : mR o [(sv, rg), (tv, sg)] = if lJ o rg ≠ 0 then lJ o rg else lJ o sg := by
  unfold mR
  rw [if_neg (by rw [h0]; simp)]
  by_cases h : lJ o rg ≠ 0
  ·rw [if_pos h]
   exact lL (fun j => lJ o (gN [(sv, rg), (tv, sg)] j).2) 2 0 (by decide) h fun j hj => absurd hj (dz _)
  ·rw [if_neg h]
   have h' := di.1 h
   by_cases h2 : lJ o sg ≠ 0
   ·exact lL (fun j => lJ o (gN [(sv, rg), (tv, sg)] j).2) 2 1 (by decide) h2 fun j hj => by
     have : j = 0 := by omega
     subst this
     exact h'
   ·have h2' := di.1 h2
    rw [h2']
    refine jP _ _ fun j hj => ?_
    have : j = 0 ∨ j = 1 := by simp at hj; omega
    rcases this with rfl | rfl
    ·exact h'
    ·exact h2'
 unfold rX
 rw [hs]
 by_cases h : lJ o rg = 0
 ·simp [h]
 ·simp [h]
theorem a7E (hG : Glob gH H) (p : Pln) (hp : p.In H) (hk : p.Ok) (sv : Value) (rg : Reg) (hri : RgI H rg sv) (tv : Value) (sg : Reg) (hsi : RgI H sg tv) (kv : Value) (ks : List Nt) (hki : KsI H kv ks) :
 Fn prog 3 [.agg #[p.rv, p.dv, p.cv], .agg #[sv, .int .u64 rg.cpl, .int .u64 rg.off, tv, .int .u64 sg.cpl, .int .u64 sg.off], kv] H fun r H' => r = .bool true ∧ St prog H H' [] := by
 have hl1 := hri.len
 have hl2 := hsi.len
 have hl3 := hki.len
 refine .bD func3 rfl (by kernel_rfl) (m := 96) rfl fun l hn g0 g1 g2 => ?_
 simp (disch := omega) only [↓RA, RB, simprocAttr, g0]
 refine (sR H).eNew 3 [p.rv, p.dv, p.cv] rfl rfl (by simp [((sR H).sl hp.1).cells.2.1, ((sR H).sl hp.2.1).cells.2.1, ((sR H).sl hp.2.2.2.1).cells.2.1]) b5z fun A1 H1 hS1 => ?_
 simp only [RT] at hS1
 simp (disch := omega) only [↓RA, RB, simprocAttr, g1]
 refine hS1.eNew 6 [sv, (.int .u64 rg.cpl), (.int .u64 rg.off), tv, (.int .u64 sg.cpl), (.int .u64 sg.off)] rfl rfl (by simp [OC, (hS1.sl hri.sl).cells.2.1, (hS1.sl hsi.sl).cells.2.1]) c1r fun A2 H2 hS2 => ?_
 simp only [RT] at hS2
 simp (disch := omega) only [↓RA, RZ, simprocAttr]
 refine hS2.cF (pA (hS2.gl hG)) fun H3 hS3 => ?_
 simp (disch := omega) only [↓RA, RZ, simprocAttr, hn, hS3.aj 0 rfl]
 refine hS3.cF (b5Y p (hp.ae hS3)) fun H4 hS4 => ?_
 simp (disch := omega) only [↓RA, RZ, simprocAttr, hn]
 refine xA (fun h1 => ?_) (fun h1 => ?_)
 ·simp (disch := omega) only [↓RA, RZ, simprocAttr, hn, h1]
  refine hS4.cF (pA (hS4.gl hG)) fun H5 hS5 => ?_
  simp (disch := omega) only [↓RA, RZ, simprocAttr, hn, tR3, h1]
  exact hS5.forget
 have hf : zG p = true := by simpa using h1
 simp (disch := omega) only [↓RA, RZ, simprocAttr, hn, g2, (hS4.sl hki.sl).len, h1]
 refine gW (fun h2 => ?_) (fun h2 => ?_)
 ·simp (disch := omega) only [↓RA, RZ, simprocAttr, hn, h1, h2]
  refine hS4.cF (pA (hS4.gl hG)) fun H6 hS6 => ?_
  simp (disch := omega) only [↓RA, RZ, simprocAttr, hn, tR3, h1, h2]
  exact hS6.forget
 simp (disch := omega) only [↓RA, RZ, simprocAttr, hn, hS4.ld 1 rfl, (hS4.sl hri.sl).len, h1, h2]
 refine gW (fun h3 => ?_) (fun h3 => ?_)
 ·simp (disch := omega) only [↓RA, RZ, simprocAttr, hn, h1, h2, h3]
  refine hS4.cF (pA (hS4.gl hG)) fun H7 hS7 => ?_
  simp (disch := omega) only [↓RA, RZ, simprocAttr, hn, tR3, h1, h2, h3]
  exact hS7.forget
 simp (disch := omega) only [↓RA, RZ, simprocAttr, hn, hS4.ld 1 rfl, (hS4.sl hsi.sl).len, h1, h2, h3]
 refine gM (fun h4 => ?_) (fun h4 => ?_)
 ·simp (disch := omega) only [↓RA, RZ, simprocAttr]
  refine hS4.cF (pA (hS4.gl hG)) fun H8 hS8 => ?_
  simp (disch := omega) only [↓RA, RZ, simprocAttr, hn, tR3, h1, h2, h3, h4]
  exact hS8.forget
 have hri5 : rg.stops.length < 1000000000 := by omega
 have hsi5 : sg.stops.length < 1000000000 := by omega
 have hki5 : ks.length < 1000000000 := by omega
 simp (disch := omega) only [↓RA, RZ, simprocAttr, hn, hS4.aj 0 rfl, h1, h2, h3, h4]
 refine gV (b0X (hS4.gl hG) p (hp.ae hS4) hk hf) ?_
 rintro r H9 ⟨o, rfl, ho, hm, hT7⟩
 have hS9 := hS4.trans hT7
 simp only [RT] at hS9
 have hS0 := hS9
 have hG2 := hS0.gl hG
 have hrI : rg.In H9 sv := (hri.ae hS0).reg hri5
 have hsI : sg.In H9 tv := (hsi.ae hS0).reg hsi5
 have hkI : Ks H9 kv ks := (hki.ae hS0).ks hki5
 have hoe := hm.ok.organE
 have hall := b3I o hoe sv tv rg sg ks
 simp (disch := omega) only [↓RA, RZ, simprocAttr]
 refine (sR H9).eNew 4 [(.string ⟨#[]⟩), (.slice none 0 0), (.slice none 0 0), (.slice none 0 0)] rfl rfl rfl oD fun A3 H10 hS10 => ?_
 simp only [RT] at hS10
 simp (disch := omega) only [↓RA, RZ, simprocAttr, hn, h1, h2, h3, h4]
 refine hS10.aa 0 rfl [(.string o.name), o.rv, o.dv, o.cv] rfl (by simp [OC, (hS10.sl ho.1).cells.2.1, (hS10.sl ho.2.2.1).cells.2.1, (hS10.sl ho.2.2.2.2.1).cells.2.1]) oD (by simp) fun H11 hS11 => ?_
 simp only [RT] at hS11
 simp (disch := omega) only [↓RA, RZ, simprocAttr, h1, h2, h3, h4]
 refine Wp.aU jM [(4, 0), (6, 0), (8, 0), (8, 4)] (by kernel_rfl) (by kernel_rfl) ?_
 simp (disch := omega) only [↓RA, RZ, simprocAttr, hn, hS11.aj 0 rfl, ((hS0.var 1 rfl).ae hS11.ae).aj]
 refine hS11.cF (a8m o (ho.ae hS11) rg sv (hrI.ae hS11)) fun H12 hS12 => ?_
 simp (disch := omega) only [↓RA, RZ, simprocAttr, hn, hS12.aj 0 rfl, ((hS0.var 1 rfl).ae hS12.ae).aj]
 refine hS12.cF (a8m o (ho.ae hS12) sg tv (hsI.ae hS12)) fun H13 hS13 => ?_
 simp (disch := omega) only [↓RA, RZ, simprocAttr, hn, g2, hS13.aj 0 rfl]
 refine hS13.cF (a5T o (ho.ae hS13) kv ks (hkI.ae hS13)) fun H14 hS14 => ?_
 simp (disch := omega) only [↓RA, RZ, simprocAttr, hn, g2, hS11.aj 0 rfl, hS14.aj 0 rfl, ((hS0.var 1 rfl).ae hS11.ae).aj, ((hS0.var 1 rfl).ae hS14.ae).aj, hS12.aj 0 rfl]
 refine gV (rV (hS14.gl hG2) o (ho.ae hS14) rg sv (hrI.ae hS14) kv ks (hkI.ae hS14)) ?_
 rintro r H15 ⟨pv, rfl, hx, hT11⟩
 have hS15 := hS14.trans hT11
 simp only [RT] at hS15
 simp (disch := omega) only [↓RA, RZ, simprocAttr, hn, g2, hS15.aj 0 rfl, ((hS0.var 1 rfl).ae hS15.ae).aj]
 refine gV (b6U (hS15.gl hG2) o (ho.ae hS15) rg sv (hrI.ae hS15) sg tv (hsI.ae hS15) kv ks (hkI.ae hS15)) ?_
 rintro r H16 ⟨gv, cv, rfl, hg, hc, hT12⟩
 have hS16 := hS15.trans hT12
 simp only [RT] at hS16
 simp (disch := omega) only [↓RA, RB, simprocAttr, hn]
 refine gM (fun q1 => ?_) (fun q1 => ?_)
 ·have e1 : rkE o rg ks = oA o ks := by unfold rkE; rw [if_neg (by rw [q1]; simp)]
  rw [e1]
  simp (disch := omega) only [↓RA, RZ, simprocAttr, hn, q1]
  refine gM (fun q2 => ?_) (fun q2 => ?_)
  ·have e2 : rX o [(sv, rg), (tv, sg)] ks = oA o ks := by rw [hall, if_neg (by rw [q1]; simp), if_neg (by rw [q2]; simp)]
   rw [e2]
   simp (disch := omega) only [↓RA, RZ, simprocAttr, hn, q1, q2]
   simp (disch := omega) only [RB, RC, simprocAttr, hn, tR3]
   exact hS0.forget.trans hS16.forget
  have e2 : rX o [(sv, rg), (tv, sg)] ks = lJ o sg := by rw [hall, if_neg (by rw [q1]; simp), if_pos q2]
  rw [e2]
  simp (disch := omega) only [↓RA, RZ, simprocAttr, hn, q1, q2]
  simp (disch := omega) only [RB, RC, simprocAttr, hn, tR3]
  exact hS0.forget.trans hS16.forget
 have e1 : rkE o rg ks = lJ o rg := by unfold rkE; rw [if_pos q1]
 have e2 : rX o [(sv, rg), (tv, sg)] ks = lJ o rg := by rw [hall, if_pos q1]
 rw [e1, e2]
 simp (disch := omega) only [↓RA, RZ, simprocAttr, hn, q1]
 simp (disch := omega) only [RB, RC, simprocAttr, hn, tR3]
 exact hS0.forget.trans hS16.forget
end Go.Ds
