/-
  A part of the proof of SoundUnions.
-/
import Derived.Test.YtabfngimnibecaaGreatDoorVJ
import Derived.Test.YtabfngimnibecaaGreatDoorVE
import Derived.Test.YtabfngimnibecaaGreatDoorVD
set_option linter.unusedVariables false
set_option linter.unusedSimpArgs false
set_option linter.defProp false
set_option linter.unusedSectionVars false
namespace Go.Ds
open Go.Proofs Go.ChangeShapes Go.WideShapes Go.RowKit Go.Deep
set_option maxRecDepth 10000
theorem c0n : Tryz.prog.cellsOf 122 = 1 := by kernel_rfl
theorem c2l : Tryz.prog.cellsOf 123 = 3 := by kernel_rfl
section
variable {H0 : Type} {enc : TypeId × Value → H0} {w : World} {base n : Nat} {spare : Nat → Bool} {cT : Bool} {x : DataW H0 × List MemPlace}
theorem a4f {v : Value} (h : DataW.trod enc Tryz.prog w base spare cT n 122 [v] = some x) : ∃ m : Nat, v = .int .u16 m ∧ m < 65536 := by
 obtain ⟨m, hv, _, hw⟩ := DataW.trod_int Tryz.underlying122 h
 have hv : v = .int .u16 m := by simpa using hv
 have hm : 0 ≤ m ∧ m ≤ 65535 := by simpa [Lit.wf, IntKind.min, IntKind.max, IntKind.signed, IntKind.bits] using hw
 exact ⟨m.toNat, by rw [hv, Int.toNat_of_nonneg hm.1], by omega⟩
theorem b8j {cs : List Value} (h : DataW.trod enc Tryz.prog w base spare cT n 123 cs = some x) : ∃ b : Nat → Nat, (∀ i, b i < 65536) ∧ cs = [.int .u16 (b 0), .int .u16 (b 1), .int .u16 (b 2)] := by
 obtain ⟨xs, m, _, _, hl, hxl, hf⟩ := DataW.trod_array Tryz.underlying123 h
 rw [c2l] at hl
 match cs, hl with
 | [c0, c1, c2], _ =>
   have hy : ∀ i, i < 3 → ∃ y, DataW.trod enc Tryz.prog w base spare cT m 122 ((([c0, c1, c2] : List Value).drop (i * 1)).take 1) = some y := fun i hi => by
    have := hf i hi
    rw [c0n] at this
    exact ⟨xs[i], by rw [this, List.getElem?_eq_getElem (by omega)]⟩
   obtain ⟨_, h0⟩ := hy 0 (by decide)
   obtain ⟨_, h1⟩ := hy 1 (by decide)
   obtain ⟨_, h2⟩ := hy 2 (by decide)
   obtain ⟨b0, rfl, k0⟩ := a4f h0
   obtain ⟨b1, rfl, k1⟩ := a4f h1
   obtain ⟨b2, rfl, k2⟩ := a4f h2
   exact ⟨fun i => match i with | 0 => b0 | 1 => b1 | _ => b2, fun i => by
    match i with
    | 0 => exact k0
    | 1 => exact k1
    | _ + 2 => exact k2, rfl⟩
end
section
variable {H0 : Type} {enc : TypeId × Value → H0} {w : World} {base : Nat} {cT : Bool}
theorem c1y {v0 : Value} {d0 : DataW H0} {p0 : List MemPlace} {c0 : Nat} (h0 : DataW.Trod enc Tryz.prog w base (fun _ => true) cT 123 v0 d0 p0) (hval : Value.okWide Tryz.prog w .any c0 123 v0) :
 ∃ b : Nat → Nat, (∀ i, b i < 65536) ∧ v0 = .agg #[.int .u16 (b 0), .int .u16 (b 1), .int .u16 (b 2)] := by
 simp only [Value.okWide, Tryz.underlying123] at hval
 obtain ⟨cs, rfl, _, _⟩ := hval
 obtain ⟨fuel, hf⟩ := h0
 obtain ⟨b, hb, he⟩ := b8j hf
 obtain ⟨l⟩ := cs
 have he : l = _ := he
 exact ⟨b, hb, by rw [he]⟩
end
end Go.Ds
namespace Go.Ds
open Go.Proofs
variable {H : Heap}
set_option maxRecDepth 10000
set_option maxHeartbeats 1000000
abbrev Nt := Nat × Nat
def ntc (x : Nt) : List Value := [.int .u64 x.1, .int .u64 x.2]
def Nt.Ok (x : Nt) : Prop := x.1 < 18446744073709551616 ∧ x.2 < 18446744073709551616
def lB (x : Nt) (n : Int) : Nt := if n < 64 then (x.1 ||| 2 ^ n.toNat, x.2) else (x.1, x.2 ||| 2 ^ (n - 64).toNat)
theorem a0E (i : Nat) (h : i < 64) : 2 ^ i < 18446744073709551616 := by
 have : 2 ^ i ≤ 2 ^ 63 := Nat.pow_le_pow_right (by decide) (by omega)
 have e : 2 ^ 63 = 9223372036854775808 := rfl
 omega
theorem b1D {a b : Nat} (ha : a < 18446744073709551616) (hb : b < 18446744073709551616) : a ||| b < 18446744073709551616 := Nat.or_lt_two_pow (n := 64) ha hb
theorem orB (a b : Nat) (ha : a < 18446744073709551616) (hb : b < 18446744073709551616) : IntKind.wrap .u64 ((BitVec.ofInt (IntKind.bits .u64) (a : Int) ||| BitVec.ofInt (IntKind.bits .u64) (b : Int)).toNat : Int) = ((a ||| b : Nat) : Int) := by
 have e : (BitVec.ofInt (IntKind.bits .u64) (a : Int) ||| BitVec.ofInt (IntKind.bits .u64) (b : Int)).toNat = a ||| b := by
  rw [BitVec.toNat_or, mB a ha, mB b hb]
 rw [e]
 have := b1D ha hb
 exact gR _ (by omega) (by omega)
theorem orN (n i : Nat) (hn : n < 18446744073709551616) (hi : i < 64) : IntKind.wrap .u64 ((BitVec.ofInt (IntKind.bits .u64) (n : Int) ||| BitVec.ofInt (IntKind.bits .u64) (IntKind.wrap .u64 (1 * 2 ^ min i (IntKind.bits .u64)))).toNat : Int) = ((n ||| 2 ^ i : Nat) : Int) := by
 rw [c1E i hi]
 exact orB n (2 ^ i) hn (a0E i hi)
theorem b4t {x : Nt} (hx : Nt.Ok x) {z : Int} (h0 : 0 ≤ z) (h1 : z < 128) : Nt.Ok (lB x z) := by
 unfold lB
 split
 ·exact ⟨b1D hx.1 (a0E _ (by omega)), hx.2⟩
 ·exact ⟨hx.1, b1D hx.2 (a0E _ (by omega))⟩
theorem a1W (x : Nt) (hx : Nt.Ok x) (z : Int) (h0 : 0 ≤ z) (h1 : z < 128) : Fn Tryz.prog 176 [.agg #[.int .u64 x.1, .int .u64 x.2], I z] H fun r H' => r = .agg #[.int .u64 (lB x z).1, .int .u64 (lB x z).2] ∧ St Tryz.prog H H' [] := by
 obtain ⟨m, rfl⟩ := Int.eq_ofNat_of_zero_le h0
 refine Fn.of_sw Tryz.func176 rfl (by kernel_rfl) fun l hl => ?_
 have hn : l.length = 21 := by rw [hl]; rfl
 have g0 : get l 0 = (.agg #[(.int .u64 x.1), (.int .u64 x.2)]) := by rw [hl]; rfl
 have g1 : get l 1 = I m := by rw [hl]; rfl
 clear hl
 simp (disch := omega) only [↓RA, RB, simprocAttr, g0]
 refine (St.refl Tryz.prog H).eNew 2 [(.int .u64 x.1), (.int .u64 x.2)] rfl rfl rfl eU fun A1 H1 hS1 => ?_
 simp only [RT] at hS1
 simp (disch := omega) only [↓RA, RZ, simprocAttr]
 refine hS1.eNew 2 [(.int .u64 0), (.int .u64 0)] rfl rfl rfl eU fun A2 H2 hS2 => ?_
 simp only [RT] at hS2
 simp (disch := omega) only [↓RA, RB, simprocAttr, hn, g1]
 refine aA (fun q1 => ?_) (fun q1 => ?_)
 ·have e1 := orN x.1 m hx.1 (by omega)
  have e2 : lB x (m : Int) = (x.1 ||| 2 ^ m, x.2) := by unfold lB; rw [if_pos q1]; rfl
  simp (disch := omega) only [↓RA, RC, simprocAttr, q1]
  refine Wp.drw cD (by kernel_rfl) ?_
  simp (disch := omega) only [↓RA, RZ, simprocAttr, hn, g1, hS2.ld 0 rfl, e1]
  refine hS2.eStore 0 rfl [(.int .u64 (x.1 ||| 2 ^ m : Nat))] rfl rfl b2L (by simp) fun H3 hS3 => ?_
  simp only [RT] at hS3
  simp (disch := omega) only [↓RA, RZ, simprocAttr, hn, hS3.ldA 0 rfl]
  refine hS3.eStore 1 rfl [(.int .u64 (x.1 ||| 2 ^ m : Nat)), (.int .u64 x.2)] rfl rfl eU (by simp) fun H4 hS4 => ?_
  simp only [RT] at hS4
  simp (disch := omega) only [↓RA, RZ, simprocAttr, hn, b5F, hS4.ldA 1 rfl]
  rw [e2]
  exact ⟨rfl, hS4.forget⟩
 have e1 := orN x.2 (m - 64) hx.2 (by omega)
 have e3 : (m : Int) - 64 = ((m - 64 : Nat) : Int) := by omega
 have e2 : lB x (m : Int) = (x.1, x.2 ||| 2 ^ (m - 64)) := by unfold lB; rw [if_neg q1, e3]; rfl
 simp (disch := omega) only [↓RA, RC, simprocAttr, q1]
 refine Wp.drw cD (by kernel_rfl) ?_
 simp (disch := omega) only [↓RA, RZ, simprocAttr, hn, g1, hS2.ld 0 rfl, e1, e3]
 refine hS2.eStore 0 rfl [(.int .u64 (x.2 ||| 2 ^ (m - 64) : Nat))] rfl rfl b2L (by simp) fun H5 hS5 => ?_
 simp only [RT] at hS5
 simp (disch := omega) only [↓RA, RZ, simprocAttr, hn, hS5.ldA 0 rfl]
 refine hS5.eStore 1 rfl [(.int .u64 x.1), (.int .u64 (x.2 ||| 2 ^ (m - 64) : Nat))] rfl rfl eU (by simp) fun H6 hS6 => ?_
 simp only [RT] at hS6
 simp (disch := omega) only [↓RA, RZ, simprocAttr, hn, b5F, hS6.ldA 1 rfl]
 rw [e2]
 exact ⟨rfl, hS6.forget⟩
end Go.Ds
namespace Go.Ds
open Go.Proofs
variable {H : Heap}
set_option maxRecDepth 10000
set_option maxHeartbeats 1000000
def bD (xs : List Int) : Nt := xs.foldl lB (0, 0)
def isN (z : Int) : Prop := 0 ≤ z ∧ z < 128
theorem mZ : ∀ (xs : List Int) (x : Nt), (∀ z ∈ xs, isN z) → Nt.Ok x → Nt.Ok (xs.foldl lB x)
 | [], _, _, h => h
 | z :: xs, x, hz, h => by
   rw [List.foldl_cons]
   exact mZ xs _ (fun y hy => hz y (List.mem_cons_of_mem _ hy)) (b4t h (hz z (List.mem_cons_self ..)).1 (hz z (List.mem_cons_self ..)).2)
theorem a2t (xs : List Int) {j : Nat} (hj : j < xs.length) : bD (xs.take (j + 1)) = lB (bD (xs.take j)) (aC xs j) := by
 unfold bD
 rw [List.take_add_one, List.getElem?_eq_getElem hj, Option.toList_some, List.foldl_append, ← bV _ j hj]
 rfl
theorem a7r (z : Int) (h : isN z) : Fn Tryz.prog 175 [I z] H fun r H' => r = .bool true ∧ St Tryz.prog H H' [] := by
 have h0 := h.1
 have h1 := h.2
 refine Fn.of_sw Tryz.func175 rfl (by kernel_rfl) fun l hl => ?_
 have hn : l.length = 9 := by rw [hl]; rfl
 have g0 : get l 0 = I z := by rw [hl]; rfl
 clear hl
 simp (disch := omega) only [↓RA, RZ, simprocAttr, hn, g0]
 refine cK (fun q1 => ?_) (fun q1 => ?_)
 rotate_left
 ·exfalso; first | omega | (simp at q1; omega)
 simp (disch := omega) only [↓RA, RZ, simprocAttr, hn, g0, c2q, q1]
 simpa using ⟨(by omega : z ≤ 127), (St.refl Tryz.prog H)⟩
theorem oP (xs : List Int) (hz : ∀ z ∈ xs, isN z) (v : Value) (hv : Sl 1 (one I) H v xs) (hl : xs.length < 1000000000) :
 Fn Tryz.prog 107 [v] H fun r H' => r = .tuple #[.agg #[.int .u64 (bD xs).1, .int .u64 (bD xs).2], I 0] ∧ St Tryz.prog H H' [] := by
 refine Fn.of_sw Tryz.func107 rfl (by kernel_rfl) fun l hl => ?_
 have hn : l.length = 22 := by rw [hl]; rfl
 have g0 : get l 0 = v := by rw [hl]; rfl
 clear hl
 simp (disch := omega) only [↓RA, RZ, simprocAttr]
 refine (St.refl Tryz.prog H).eNew 2 [(.int .u64 0), (.int .u64 0)] rfl rfl rfl eU fun A1 H1 hS1 => ?_
 simp only [RT] at hS1
 simp (disch := omega) only [↓RA, RZ, simprocAttr]
 refine hS1.eNew 2 [(.int .u64 0), (.int .u64 0)] rfl rfl rfl eU fun A2 H2 hS2 => ?_
 simp only [RT] at hS2
 simp (disch := omega) only [↓RA, RZ, simprocAttr, hn, g0, (hS2.sl hv).len]
 refine Wp.loopS (fun n l H' => l.length = 22 ∧ get l 2 = (ptr A1 0 2) ∧ get l 4 = (ptr A2 0 2) ∧ get l 7 = v ∧ get l 8 = I xs.length ∧ ∃ (j : Nat), (n + j = xs.length) ∧ get l 9 = I j ∧ St Tryz.prog H H' [⟨ptr A1 0 2, 0, [(.int .u64 0), (.int .u64 0)]⟩, ⟨ptr A2 0 2, 0, [.int .u64 (bD (xs.take j)).1, .int .u64 (bD (xs.take j)).2]⟩]) xs.length ?_ ?_
 ·simp (disch := omega) only [RB, RC, simprocAttr, hn]
  exact ⟨0, by omega, rfl, hS2⟩
 rintro n l H3 ⟨hn, g2, g4, g7, g8, j, hj, g9, hS3⟩
 simp (disch := omega) only [↓RA, RB, simprocAttr, hn, g8, g9]
 refine aA (fun q1 => ?_) (fun q1 => ?_)
 ·have hx := hz _ (aF (xs := xs) (j := j) (by omega))
  have hok : Nt.Ok (bD (xs.take j)) := mZ _ _ (fun z h => hz z (List.mem_of_mem_take h)) ⟨by decide, by decide⟩
  simp (disch := omega) only [↓RA, RZ, simprocAttr, hn, g7, g9, (hS3.sl hv).idx, (hS3.sl hv).ld, one, q1]
  refine aB (a7r (aC xs j) hx) ?_
  rintro r H4 ⟨rfl, hT1⟩
  have hS4 := hS3.trans hT1
  simp only [RT] at hS4
  simp (disch := omega) only [↓RA, RZ, simprocAttr, hn, g4, hS4.ldA 1 rfl, q1]
  refine aB (a1W (bD (xs.take j)) hok (aC xs j) hx.1 hx.2) ?_
  rintro r H5 ⟨rfl, hT2⟩
  have hS5 := hS4.trans hT2
  simp only [RT] at hS5
  simp (disch := omega) only [↓RA, RZ, simprocAttr, hn, g4, q1]
  refine hS5.eStore 1 rfl [(.int .u64 (lB (bD (xs.take j)) (aC xs j)).1), (.int .u64 (lB (bD (xs.take j)) (aC xs j)).2)] rfl rfl eU (by simp) fun H6 hS6 => ?_
  simp only [RT] at hS6
  simp (disch := omega) only [↓RA, RZ, simprocAttr, hn, g2, g4, g7, g8, g9, q1]
  refine ⟨n - 1, by omega, j + 1, by omega, by simp, ?_⟩
  rw [a2t xs (by omega)]
  exact hS6.pick [0, 1] (by decide) rfl
 have hjj : j = xs.length := by omega
 simp (disch := omega) only [↓RA, RZ, simprocAttr, hn, g2, g4, hS3.ldA 1 rfl, q1]
 refine hS3.eStore 0 rfl [(.int .u64 (bD (xs.take j)).1), (.int .u64 (bD (xs.take j)).2)] rfl rfl eU (by simp) fun H7 hS7 => ?_
 simp only [RT] at hS7
 simp (disch := omega) only [↓RA, RZ, simprocAttr, hn, g2, c2y, hS7.ldA 0 rfl, q1]
 rw [hjj, List.take_length]
 exact ⟨rfl, hS7.forget⟩
end Go.Ds
namespace Go.Ds
open Go.Proofs
variable {H : Heap}
set_option maxRecDepth 10000
set_option maxHeartbeats 1000000
theorem St.perm {P : Program} {H0 : Base} {os os' : List Ob} (h : St P H0 H os) (hp : os.Perm os') : St P H0 H os' where
 len := h.len
 old := h.old
 own o ho := h.own o (hp.mem_iff.2 ho)
 new o ho := h.new o (hp.mem_iff.2 ho)
 sep := (List.Perm.pairwise_iff (fun {_ _} hxy B hB hB2 => hxy B hB2 hB) hp).1 h.sep
theorem Lp.swap {P : Program} {B : Base} {L : Nat} {r : Loop} {xs ys zs : List Ob} (h : Lp P B L r H ((xs ++ ys) ++ zs)) : Lp P B L r H ((xs ++ zs) ++ ys) := by
 have hp : ((xs ++ ys) ++ zs).Perm ((xs ++ zs) ++ ys) := by
  rw [List.append_assoc, List.append_assoc]
  exact (List.perm_append_comm).append_left xs
 exact ⟨h.st.perm hp, h.get, h.lo, fun o ho => h.ne o (hp.mem_iff.2 ho)⟩
end Go.Ds
namespace Go.Ds
open Go.Proofs
variable {H : Heap}
set_option maxRecDepth 10000
set_option maxHeartbeats 1000000
end Go.Ds
namespace Go.Ds
open Go.Proofs
variable {H : Heap}
set_option maxRecDepth 10000
set_option maxHeartbeats 1000000
def tW (x : Nat) : Nat := ((List.range 64).find? fun i => x.testBit i).getD 64
theorem wP {x : Nat} (h0 : x ≠ 0) (h1 : x < 18446744073709551616) : tW x < 64 ∧ x.testBit (tW x) = true ∧ ∀ j, j < tW x → x.testBit j = false := by
 have hx : ∃ i, i < 64 ∧ x.testBit i = true := by
  refine Classical.byContradiction fun hn => h0 ?_
  refine Nat.eq_of_testBit_eq fun i => ?_
  rw [Nat.zero_testBit]
  by_cases hi : i < 64
  ·by_cases hb : x.testBit i = true
   ·exact absurd ⟨i, hi, hb⟩ hn
   ·simpa using hb
  ·exact Nat.testBit_lt_two_pow (Nat.lt_of_lt_of_le (show x < 2 ^ 64 by simpa using h1) (Nat.pow_le_pow_right (by decide) (by omega)))
 unfold tW
 cases hf : (List.range 64).find? fun i => x.testBit i with
 | none =>
   obtain ⟨i, hi, hb⟩ := hx
   have := List.find?_eq_none.1 hf i (List.mem_range.2 hi)
   exact absurd hb (by simpa using this)
 | some i =>
   obtain ⟨hb, ys, bs, he, hn⟩ := List.find?_eq_some_iff_append.1 hf
   have hi : i < 64 := List.mem_range.1 (he ▸ (by simp : i ∈ ys ++ i :: bs))
   refine ⟨hi, hb, fun j hj0 => ?_⟩
   have hj : j < i := hj0
   have hl : ys.length = i := by
    have h2 : (List.range 64)[ys.length]? = some i := by rw [he]; simp
    have h3 : ys.length < 64 := by
     have := congrArg List.length he
     simp at this
     omega
    rw [List.getElem?_range h3] at h2
    exact Option.some.inj h2
   have hm : j ∈ ys := by
    have h2 : (List.range 64)[j]? = some j := List.getElem?_range (by omega)
    rw [he, List.getElem?_append_left (by simpa using (hl ▸ hj))] at h2
    exact List.mem_of_getElem? h2
   simpa using hn j hm
theorem yG {x : Nat} (h0 : x ≠ 0) (h1 : x < 18446744073709551616) : ∃ m, x = 2 ^ tW x * (2 * m + 1) := by
 obtain ⟨c1, c2, c3⟩ := wP h0 h1
 generalize tW x = k at c1 c2 c3
 have hd : x % 2 ^ k = 0 := by
  refine Nat.eq_of_testBit_eq fun i => ?_
  rw [Nat.testBit_mod_two_pow, Nat.zero_testBit]
  by_cases hi : i < k
  ·rw [c3 i hi, Bool.and_false]
  ·rw [decide_eq_false hi, Bool.false_and]
 have h2 : x / 2 ^ k % 2 = 1 := by
  rw [← Nat.shiftRight_eq_div_pow]
  have := c2
  rw [tb] at this
  exact of_decide_eq_true this
 refine ⟨x / 2 ^ k / 2, ?_⟩
 have h3 := Nat.div_add_mod x (2 ^ k)
 have h4 := Nat.div_add_mod (x / 2 ^ k) 2
 rw [hd, Nat.add_zero] at h3
 rw [← h3]
 congr 1
 rw [h3]
 omega
theorem b4f {x : Nat} (h0 : x ≠ 0) (h1 : x < 18446744073709551616) : x &&& (18446744073709551616 - x) = 2 ^ tW x := by
 obtain ⟨m, hm⟩ := yG h0 h1
 obtain ⟨c1, _, _⟩ := wP h0 h1
 generalize tW x = k at hm c1
 have e64 : (18446744073709551616 : Nat) = 2 ^ k * (2 * 2 ^ (63 - k)) := by
  have : 2 ^ k * (2 * 2 ^ (63 - k)) = 2 ^ 64 := by rw [← Nat.pow_succ', ← Nat.pow_add]; congr 1; omega
  rw [this]
 have hml : m < 2 ^ (63 - k) := by
  rw [e64, hm] at h1
  have := Nat.lt_of_mul_lt_mul_left h1
  omega
 have e2 : 18446744073709551616 - x = 2 ^ k * (2 * (2 ^ (63 - k) - (m + 1)) + 1) := by
  rw [e64, hm, ← Nat.mul_sub]
  congr 1
  omega
 rw [e2, hm]
 refine Nat.eq_of_testBit_eq fun i => ?_
 rw [Nat.testBit_and, Nat.testBit_two_pow]
 have hs : ∀ y : Nat, (2 ^ k * y).testBit i = (decide (k ≤ i) && y.testBit (i - k)) := fun y => by rw [Nat.mul_comm, Nat.testBit_mul_two_pow]
 rw [hs, hs]
 by_cases hi : k ≤ i
 ·rw [decide_eq_true hi, Bool.true_and, Bool.true_and]
  by_cases he : i = k
  ·subst he
   rw [Nat.sub_self, Nat.testBit_zero, Nat.testBit_zero]
   simp
  ·obtain ⟨j, hj⟩ : ∃ j, i - k = j + 1 := ⟨i - k - 1, by omega⟩
   rw [hj, Nat.testBit_succ, Nat.testBit_succ, show (2 * m + 1) / 2 = m by omega, show (2 * (2 ^ (63 - k) - (m + 1)) + 1) / 2 = 2 ^ (63 - k) - (m + 1) by omega, Nat.testBit_two_pow_sub_succ hml, decide_eq_false (by omega : ¬ k = i)]
   cases m.testBit j <;> simp
 ·rw [decide_eq_false hi, Bool.false_and, decide_eq_false (by omega)]
  rfl
theorem c0w : ((List.range 64).all fun k => decide (2 ^ k * 285870213051353865 % 18446744073709551616 / 288230376151711744 < 64) && decide (t64.getD (2 ^ k * 285870213051353865 % 18446744073709551616 / 288230376151711744) 99 = k)) = true := by kernel_rfl
theorem a9F {P : Program} {t : TypeId} {n : Nat} {elem : TypeId} {size : Nat} (ha : P.underlying t = some (.array n elem)) (hs : aE P elem = some size) (A i : Nat) (k : IntKind) (j : Int) (h0 : 0 ≤ j) (h1 : j < n) :
 oR (aP P t) P t (.pointer (some ⟨A, i, none⟩)) (.int k j) = some (.pointer (some ⟨A, i + j.toNat * size, none⟩)) := by
 have hn : aP P t = none := by simp [aP, aH, ha]
 rw [hn]
 simp only [oR, vJ, ha, hs, Option.bind_some]
 rw [if_pos (by simp [h0, h1])]
theorem b6s (k : IntKind) (j : Int) (h0 : 0 ≤ j) (h1 : j < 64) : oR (aP Tryz.prog 394) Tryz.prog 394 (.pointer (some ⟨0, 0, none⟩)) (.int k j) = some (.pointer (some ⟨0, 0 + j.toNat * 1, none⟩)) :=
 a9F (n := 64) (elem := 5) (size := 1) (by kernel_rfl) (by kernel_rfl) 0 0 k j h0 h1
theorem a8E (g : Nat) (l : List Value) (K : Value → Prop) : bH (.global g) l K = K (.pointer (some ⟨g, 0, none⟩)) := by simp [bH, aM, ev]
theorem gld (hG : Glob gH H) (j : Nat) (hj : j < 64) (s : Option Nat) : gY (some false) s H (.pointer (some ⟨0, j, none⟩)) = some (.int .u8 (t64.getD j 0 : Nat)) := by
 have h0 : aQ H 0 = some (.cells (t64.map fun (n : Nat) => Value.int .u8 (.ofNat n)) 5 false 0 1) := by
  rw [hG.same 0 (by decide)]
  rfl
 simp only [gY, bA, h0]
 have hl : (t64.map fun (n : Nat) => Value.int .u8 (.ofNat n)).length = 64 := by rw [List.length_map]; rfl
 rw [if_pos (by rw [hl]; simp; omega)]
 simp only [Option.bind_some]
 rw [List.getElem?_take_of_lt (by omega), List.getElem?_drop, Nat.add_zero, List.getElem?_map, List.getElem?_eq_getElem (show j < t64.length from hj)]
 rw [Option.map_some, List.getD_eq_getElem?_getD, List.getElem?_eq_getElem (show j < t64.length from hj)]
 rfl
theorem a3V (m : Int) : IntKind.wrap .u64 m = m % 18446744073709551616 := by
 show (if (false && decide (m % 18446744073709551616 ≥ 9223372036854775808)) = true then m % 18446744073709551616 - 18446744073709551616 else m % 18446744073709551616) = _
 simp
theorem b8X (hG : Glob gH H) (x : Nat) (h0 : x ≠ 0) (h1 : x < 18446744073709551616) : Fn Tryz.prog 239 [.int .u64 x] H fun r H' => r = I (tW x) ∧ St Tryz.prog H H' [] := by
 obtain ⟨c1, _, _⟩ := wP h0 h1
 have hd := List.all_eq_true.1 c0w (tW x) (List.mem_range.2 c1)
 rw [Bool.and_eq_true, decide_eq_true_eq, decide_eq_true_eq] at hd
 have eA : IntKind.wrap .u64 (0 - (x : Int)) = ((18446744073709551616 - x : Nat) : Int) := by
  rw [a3V]
  omega
 have eB : IntKind.wrap .u64 ((BitVec.ofInt (IntKind.bits .u64) (x : Int) &&& BitVec.ofInt (IntKind.bits .u64) ((18446744073709551616 - x : Nat) : Int)).toNat : Int) = ((2 ^ tW x : Nat) : Int) := by
  rw [BitVec.toNat_and, mB x h1, mB _ (by omega), b4f h0 h1]
  exact gR _ (by omega) (by have := a0E (tW x) c1; omega)
 have eC : IntKind.wrap .u64 (((2 ^ tW x : Nat) : Int) * 285870213051353865) = ((2 ^ tW x * 285870213051353865 % 18446744073709551616 : Nat) : Int) := by
  rw [a3V]
  rfl
 have eD : ((2 ^ tW x * 285870213051353865 % 18446744073709551616 : Nat) : Int).fdiv (2 ^ min 58 (IntKind.bits .u64)) = ((2 ^ tW x * 285870213051353865 % 18446744073709551616 / 288230376151711744 : Nat) : Int) := by
  rw [show (2 : Int) ^ min 58 (IntKind.bits .u64) = ((288230376151711744 : Nat) : Int) from rfl]
  exact Int.fdiv_eq_ediv_of_nonneg _ (by omega)
 have hd1 := hd.1
 have hd2 := hd.2
 generalize 2 ^ tW x * 285870213051353865 % 18446744073709551616 / 288230376151711744 = i at eD hd1 hd2
 refine Fn.of_sw Tryz.func239 rfl (by kernel_rfl) fun l hl => ?_
 have hn : l.length = 14 := by rw [hl]; rfl
 have g0 : get l 0 = (.int .u64 x) := by rw [hl]; rfl
 clear hl
 have aQ := gld hG i hd1 (some 1)
 rw [show t64.getD i 0 = tW x from by rw [← hd2, List.getD_eq_getElem?_getD, List.getD_eq_getElem?_getD, List.getElem?_eq_getElem (show i < t64.length from hd1)]; rfl] at aQ
 have hidx := b6s .u64 (i : Int) (by omega) (by omega)
 rw [Int.toNat_natCast, Nat.mul_one, Nat.zero_add] at hidx
 simp (disch := omega) only [↓RA, RB, simprocAttr, hn, g0]
 refine aA (fun q => ?_) (fun q => ?_)
 ·exfalso; omega
 simp (disch := omega) only [↓RA, RZ, simprocAttr, hn, g0, c0E, eA, eB, eC, eD, a8E, aQ, hidx, q]
 first | exact (St.refl Tryz.prog H) | exact ⟨rfl, (St.refl Tryz.prog H)⟩
end Go.Ds
namespace Go.Ds
open Go.Proofs
variable {H : Heap}
set_option maxRecDepth 10000
set_option maxHeartbeats 1000000
theorem a0H {x : Nat} (h0 : x ≠ 0) (h1 : x < 18446744073709551616) (j : Nat) : (x &&& (x - 1)).testBit j = (x.testBit j && !decide (j = tW x)) := by
 obtain ⟨m, hm⟩ := yG h0 h1
 generalize tW x = k at hm
 have hp : 0 < 2 ^ k := Nat.two_pow_pos k
 have e1 : x = 2 ^ (k + 1) * m + 2 ^ k := by rw [hm, Nat.pow_succ, Nat.mul_add, Nat.mul_one, Nat.mul_assoc]
 have e2 : x - 1 = 2 ^ (k + 1) * m + (2 ^ k - 1) := by omega
 have hl : 2 ^ k < 2 ^ (k + 1) := Nat.pow_lt_pow_right (by decide) (by omega)
 rw [Nat.testBit_and, e2]
 rw [e1, Nat.testBit_two_pow_mul_add m hl, Nat.testBit_two_pow_mul_add m (by omega : 2 ^ k - 1 < 2 ^ (k + 1))]
 by_cases hj : j < k + 1
 ·rw [if_pos hj, if_pos hj, Nat.testBit_two_pow, Nat.testBit_two_pow_sub_one]
  by_cases he : j = k
  ·simp [he]
  ·simp [show ¬ k = j by omega]
 ·rw [if_neg hj, if_neg hj, show decide (j = k) = false from decide_eq_false (by omega)]
  simp
theorem a7k {x : Nat} (h0 : x ≠ 0) (h1 : x < 18446744073709551616) : gS x = tW x :: gS (x &&& (x - 1)) := by
 obtain ⟨c1, c2, c3⟩ := wP h0 h1
 have hb := a0H h0 h1
 generalize tW x = k at c1 c2 c3 hb
 obtain ⟨t, ht⟩ := a1D c1
 have hnd : (List.range 64).Nodup := List.nodup_range
 unfold gS
 rw [ht, List.filter_append, List.filter_append, List.filter_cons_of_pos (by simpa using c2), List.filter_cons_of_neg (by rw [hb]; simp)]
 rw [ht] at hnd
 have e1 : (List.range k).filter (fun i => x.testBit i) = [] := List.filter_eq_nil_iff.2 fun i hi => by simpa using c3 i (List.mem_range.1 hi)
 have e2 : (List.range k).filter (fun i => (x &&& (x - 1)).testBit i) = [] := List.filter_eq_nil_iff.2 fun i hi => by rw [hb, c3 i (List.mem_range.1 hi)]; simp
 rw [e1, e2, List.nil_append, List.nil_append]
 congr 1
 refine List.filter_congr fun i hi => ?_
 have hne : i ≠ k := fun e => by
  subst e
  exact (List.nodup_cons.1 (List.nodup_append.1 hnd).2.1).1 hi
 rw [hb, decide_eq_false hne]
 simp
theorem a4L : gS 0 = [] := List.filter_eq_nil_iff.2 fun i _ => by simp
def eL (x : Nt) : List Int := (gS x.1).map (fun (i : Nat) => (i : Int)) ++ (gS x.2).map fun (i : Nat) => 64 + (i : Int)
def a1K (x : Nt) (i : Nat) : Nat := if i = 0 then x.1 else x.2
def a1e (x : Nt) (i : Nat) : List Int := (gS (a1K x i)).map fun (j : Nat) => 64 * (i : Int) + (j : Int)
def a0v (x : Nt) (i : Nat) : List Int := (List.range i).flatMap (a1e x)
theorem rW (x : Nt) (i : Nat) : a0v x (i + 1) = a0v x i ++ a1e x i := by
 unfold a0v
 rw [List.range_succ, List.flatMap_append, List.flatMap_cons, List.flatMap_nil, List.append_nil]
theorem a1y (x : Nt) : a0v x 2 = eL x := by
 rw [rW, rW]
 unfold eL a0v a1e a1K
 simp
theorem b2r {x : Nt} (hx : Nt.Ok x) (i : Nat) : a1K x i < 18446744073709551616 := by
 unfold a1K
 split
 ·exact hx.1
 ·exact hx.2
theorem c0y (a b : Int) : gI Tryz.prog 354 (.agg #[.int .u64 a, .int .u64 b]) (I 0) = some (.int .u64 a) := by kernel_rfl
theorem b8O (a b : Int) : gI Tryz.prog 354 (.agg #[.int .u64 a, .int .u64 b]) (I 1) = some (.int .u64 b) := by kernel_rfl
theorem c4j (x : Nt) (i : Nat) (h : i < 2) : wN (gB Tryz.prog 354) Tryz.prog 354 (.agg #[.int .u64 x.1, .int .u64 x.2]) (I i) = some (.int .u64 (a1K x i)) := by
 rw [← a2s]
 rcases (by omega : i = 0 ∨ i = 1) with rfl | rfl
 ·exact c0y _ _
 ·exact b8O _ _
theorem b8v (x : Nt) (hx : Nt.Ok x) (A : Nat) (f : Value) (J : List Int → Heap → Prop) (h0 : J [] H) (hg : ∀ d H1, J d H1 → Var H1 A 2 [.int .u64 x.1, .int .u64 x.2] ∧ Glob gH H1)
 (hst : ∀ d H1 H2, J d H1 → St Tryz.prog H1 H2 [] → J d H2)
 (hf : ∀ d c e H1, eL x = d ++ c :: e → J d H1 → lD Tryz.prog f [I c] H1 fun v H2 => v = .bool true ∧ J (d ++ [c]) H2) :
 FnS Tryz.prog 238 [f, ptr A 0 2] H fun _ H' => J (eL x) H' := by
 have hV0 := (hg _ _ h0).1
 refine FnS.of_sw Tryz.func238 rfl (by kernel_rfl) fun l hl => ?_
 have hn : l.length = 29 := by rw [hl]; rfl
 have g0 : get l 0 = f := by rw [hl]; rfl
 have g1 : get l 1 = (ptr A 0 2) := by rw [hl]; rfl
 clear hl
 simp (disch := omega) only [↓RA, RZ, simprocAttr, hn, g1, hV0.ld, a7I]
 refine Wp.loopS (fun n l H' => l.length = 29 ∧ get l 0 = f ∧ get l 1 = ptr A 0 2 ∧ get l 9 = .agg #[.int .u64 x.1, .int .u64 x.2] ∧ ∃ i : Nat, n + i = 2 ∧ get l 10 = I i ∧ J (a0v x i) H') 2 ?_ ?_
 ·simp (disch := omega) only [RB, RC, simprocAttr, hn, g0, g1]
  exact ⟨0, rfl, rfl, h0⟩
 rintro n l H9 ⟨hn, g0, g1, g9, i, hi, kV, hJ⟩
 simp (disch := omega) only [↓RA, RB, simprocAttr, hn, kV]
 refine aA (fun q1 => ?_) (fun q1 => ?_)
 ·have hix := c4j x i (by omega)
  have hwl := b2r hx i
  simp (disch := omega) only [↓RA, RZ, simprocAttr, hn, g9, kV, q1, hix]
  refine Wp.loopS (fun n2 l H' => l.length = 29 ∧ get l 0 = f ∧ get l 1 = ptr A 0 2 ∧ get l 9 = .agg #[.int .u64 x.1, .int .u64 x.2] ∧ get l 10 = I i ∧ get l 3 = I i ∧ ∃ (y : Nat) (d : List Nat), (n2 = (gS y).length ∧ y < 18446744073709551616 ∧ gS (a1K x i) = d ++ gS y) ∧ get l 4 = .int .u64 y ∧ J (a0v x i ++ d.map fun (j : Nat) => 64 * (i : Int) + (j : Int)) H') (gS (a1K x i)).length ?_ ?_
  ·simp (disch := omega) only [RB, RC, simprocAttr, hn, g0, g1, g9, kV]
   exact ⟨a1K x i, [], ⟨rfl, hwl, rfl⟩, rfl, by rw [List.map_nil, List.append_nil]; exact hJ⟩
  rintro n2 l H8 ⟨hn, g0, g1, g9, kV, g3, y, d, ⟨hn2, hy, hbd⟩, g4, hJ2⟩
  simp (disch := omega) only [↓RA, RB, simprocAttr, hn, g4]
  refine aA (fun q2 => ?_) (fun q2 => ?_)
  ·have hy0 : y ≠ 0 := by omega
   have hc := wP hy0 hy
   have hlow := a7k hy0 hy
   have hGl := (hg _ _ hJ2).2
   have eY1 : IntKind.wrap .u64 ((y : Int) - 1) = ((y - 1 : Nat) : Int) := by
    rw [a3V]
    omega
   have eY2 : IntKind.wrap .u64 ((BitVec.ofInt (IntKind.bits .u64) (y : Int) &&& BitVec.ofInt (IntKind.bits .u64) ((y - 1 : Nat) : Int)).toNat : Int) = ((y &&& (y - 1) : Nat) : Int) := by
    rw [BitVec.toNat_and, mB y hy, mB _ (by omega)]
    have := Nat.and_le_left (n := y) (m := y - 1)
    exact gR _ (by omega) (by omega)
   have hyl : y &&& (y - 1) < 18446744073709551616 := Nat.lt_of_le_of_lt Nat.and_le_left hy
   have hmem : eL x = (a0v x i ++ d.map fun (j : Nat) => 64 * (i : Int) + (j : Int)) ++ (64 * (i : Int) + (tW y : Int)) :: ((gS (y &&& (y - 1))).map (fun (j : Nat) => 64 * (i : Int) + (j : Int)) ++ ((List.range 2).drop (i + 1)).flatMap (a1e x)) := by
    rw [← a1y]
    unfold a0v
    have e : List.range 2 = List.range i ++ i :: (List.range 2).drop (i + 1) := by
     rcases (by omega : i = 0 ∨ i = 1) with rfl | rfl <;> rfl
    rw [congrArg (List.flatMap (a1e x)) e, List.flatMap_append, List.flatMap_cons]
    rw [show a1e x i = (d ++ gS y).map (fun (j : Nat) => 64 * (i : Int) + (j : Int)) from by unfold a1e; rw [hbd]]
    rw [hlow, List.map_append, List.map_cons]
    simp only [List.append_assoc, List.cons_append]
   have hc1 := hc.1
   simp (disch := omega) only [↓RA, RZ, simprocAttr, hn, g0, g3, g4, q2]
   refine aB (b8X ((St.refl Tryz.prog H8).gl hGl) y hy0 hy) ?_
   rintro r H1 ⟨rfl, hT1⟩
   have hS1 := (St.refl Tryz.prog H8).trans hT1
   simp only [RT] at hS1
   simp (disch := omega) only [↓RA, RZ, simprocAttr, hn, q2]
   refine a4F (hf _ _ _ _ hmem (hst _ _ _ hJ2 hS1)) ?_
   rintro r H10 ⟨rfl, hJ3⟩
   simp (disch := omega) only [↓RA, RZ, simprocAttr, hn, g0, g1, g9, kV, g3, g4, q2, eY1, eY2]
   refine ⟨(gS (y &&& (y - 1))).length, by rw [hn2, hlow]; simp, y &&& (y - 1), d ++ [tW y], ⟨rfl, hyl, by rw [hbd, hlow]; simp⟩, rfl, ?_⟩
   rw [List.map_append, List.map_cons, List.map_nil, ← List.append_assoc]
   exact hJ3
  simp (disch := omega) only [↓RA, RZ, simprocAttr, hn, g0, g1, g9, kV, q2]
  have hy0 : y = 0 := by omega
  subst hy0
  refine ⟨n - 1, by omega, i + 1, by omega, by simp, ?_⟩
  rw [rW]
  have : a1e x i = d.map fun (j : Nat) => 64 * (i : Int) + (j : Int) := by
   unfold a1e
   rw [hbd, a4L, List.append_nil]
  rw [this]
  exact hJ2
 simp (disch := omega) only [↓RA, RZ, simprocAttr, c0U, q1]
 have e : i = 2 := by omega
 subst e
 rw [← a1y]
 exact hJ
end Go.Ds
namespace Go.Ds
open Go.Proofs
variable {H : Heap}
set_option maxRecDepth 10000
set_option maxHeartbeats 1000000
theorem pA (x : Nt) : (eL x).length ≤ 128 := by
 unfold eL
 rw [List.length_append, List.length_map, List.length_map]
 have h1 := a1E x.1 64
 have h2 := a1E x.2 64
 unfold b0c at h1 h2
 unfold gS
 omega
theorem a7a (hG : Glob gH H) (x : Nt) (hx : Nt.Ok x) (A : Nat) (hA : Var H A 2 [.int .u64 x.1, .int .u64 x.2]) :
 Fn Tryz.prog 237 [.slice none 0 0, .func (.func 238) #[] #[ptr A 0 2]] H fun r H' => St Tryz.prog H H' [⟨r, 1, (eL x).flatMap (one I)⟩] := by
 refine Fn.of_sw Tryz.func237 rfl (by kernel_rfl) fun l hl => ?_
 have hn : l.length = 13 := by rw [hl]; rfl
 have g0 : get l 0 = (.slice none 0 0) := by rw [hl]; rfl
 have g1 : get l 1 = (.func (.func 238) #[] #[(ptr A 0 2)]) := by rw [hl]; rfl
 clear hl
 simp (disch := omega) only [↓RA, RB, simprocAttr, g0]
 refine (St.refl Tryz.prog H).eNew 1 [(.slice none 0 0)] rfl rfl rfl b3n fun A1 H1 hS1 => ?_
 simp only [RT] at hS1
 simp (disch := omega) only [↓RA, RB, simprocAttr, g1]
 have hS2 := hS1.nil 0
 simp only [RT] at hS2
 refine Wp.slots fun lrg1 hlrg1 => ?_
 have hnrg1 : lrg1.length = 13 := by rw [hlrg1]; simp (disch := omega) only [RB, simprocAttr, hn]
 have g2rg1 : get lrg1 2 = (ptr A1 0 1) := by rw [hlrg1]; simp (disch := omega) only [RB, simprocAttr, hn]
 have g4rg1 : get lrg1 4 = (.slice none 0 0) := by rw [hlrg1]; simp (disch := omega) only [RB, simprocAttr, hn]
 have gfrg1 : get lrg1 6 = .func (.func 238) #[] [(ptr A 0 2)].toArray := by rw [hlrg1]; simp (disch := omega) only [RB, simprocAttr, hn]
 clear hlrg1
 refine Wp.rangeR gfrg1 fun rg1 hstrg1 hpdrg1 htmrg1 hpsrg1 hasrg1 hbdrg1 => ?_
 have hreqrg1 : ({ rg1 with state := .ready, pending := none } : Loop) = rg1 := by
  cases rg1
  simp only at hstrg1 hpdrg1
  subst hstrg1 hpdrg1
  rfl
 have hLprg1 := Lp.enter hS2 rg1
 generalize H1.cons (.loop rg1) = Hcrg1 at hLprg1 ⊢
 generalize H1.length = Lrg1 at hLprg1 ⊢
 refine (b8v x hx A (.func (.yield Lrg1) #[] #[]) (fun d H1 => ∃ ow, Lp Tryz.prog H Lrg1 rg1 H1 [⟨ptr A1 0 1, 0, [ow]⟩, ⟨ow, 1, d.flatMap (one I)⟩]) ⟨.slice none 0 0, hLprg1⟩ ?_ ?_ ?_).mono ?_
 ·rintro d H1 ⟨ow, h⟩
  exact ⟨hA.keep h.st.keep, h.st.gl hG⟩
 ·rintro d H1 H2 ⟨ow, h⟩ hS
  exact ⟨ow, by simpa using h.ext hS⟩
 ·rintro d c e H20 hm ⟨ow, hLpj⟩
  have hml := pA x
  have hdl : d.length < 128 := by
   rw [hm, List.length_append, List.length_cons] at hml
   omega
  refine sL hLpj.get (by rw [hpsrg1]; rfl) hstrg1 ?_
  refine Wp.of_eqS (l := put lrg1 (some 7) (I c)) hasrg1 (by rw [hpsrg1, htmrg1]; first | exact (eO ..).symm | rfl | simp [put, eO]) ?_
  simp (disch := omega) only [↓RA, RZ, simprocAttr, hnrg1]
  refine ⟨rg1, hLpj.get, hstrg1, ?_⟩
  have hYBs1 := hLpj.set (fun h => h) { rg1 with state := .busy }
  have hKBs1 : ∀ B, B ≠ Lrg1 → aQ (hset H20 Lrg1 (.loop { rg1 with state := .busy })) B = aQ H20 B := fun B h => aW _ (Ne.symm h)
  have hNBs1 : (hset H20 Lrg1 (.loop { rg1 with state := .busy })).length = H20.length := bI ..
  generalize hset H20 Lrg1 (.loop { rg1 with state := .busy }) = HBs1 at hYBs1 hKBs1 hNBs1 ⊢
  refine Wp.of_eqS hbdrg1 rfl ?_
  have hZBs1 := hYBs1.st
  obtain ⟨Bs1, hBBs1, hS3⟩ := hZBs1.rebaseE (os := [⟨ptr A1 0 1, 0, _⟩, ⟨ow, 1, _⟩])
  simp (disch := omega) only [↓RA, RZ, simprocAttr, hnrg1, g2rg1, hS3.ld 0 rfl]
  refine hS3.eSlice [I c] wX a2G rfl rfl (by simp [Value.cells]) rfl rfl (by decide) (by decide) fun w1 H2 hS4 => ?_
  simp only [RT] at hS4
  simp (disch := omega) only [↓RA, RZ, simprocAttr, hnrg1]
  refine hS4.eAppend 1 rfl (hS4.rd 2 rfl) wX (by rw [qE, List.length_map]; simp; omega) fun w2 H3 hS5 => ?_
  simp only [RT] at hS5
  simp (disch := omega) only [↓RA, RB, simprocAttr, hnrg1, g2rg1]
  refine hS5.eStore 0 rfl [w2] (by rw [(hS5.rd 1 rfl).cells.1]) (by simp [(hS5.rd 1 rfl).cells.2.1]) b3n (by simp) fun H4 hS6 => ?_
  simp only [RT] at hS6
  simp (disch := omega) only [↓RA, simprocAttr]
  have hS7 := hS6.pick (os' := [⟨ptr A1 0 1, 0, _⟩, ⟨w2, 1, _⟩]) [0, 1] (by decide) rfl
  have hWBs1 := (hYBs1.body (hBBs1 ▸ hS7)).set (fun h => h) rg1
  rw [← hreqrg1] at hWBs1
  refine ⟨_, (hYBs1.body (hBBs1 ▸ hS7)).get, rfl, w2, ?_⟩
  rw [List.flatMap_append]
  exact hreqrg1 ▸ hWBs1
 ·rintro _ H21 ⟨ow, hLp2⟩
  refine ⟨_, hLp2.get, (by rw [hstrg1]; exact fun h => by cases h), fun _ => ?_, fun c hc => by rw [hpdrg1] at hc; cases hc⟩
  have hAAf1 := (hLp2.set (fun h => h) { rg1 with state := .exhausted }).st
  have hKAf1 : ∀ B, B ≠ Lrg1 → aQ (hset H21 Lrg1 (.loop { rg1 with state := .exhausted })) B = aQ H21 B := fun B h => aW _ (Ne.symm h)
  generalize hset H21 Lrg1 (.loop { rg1 with state := .exhausted }) = HAf1 at hAAf1 hKAf1 ⊢
  simp (disch := omega) only [↓RA, RZ, simprocAttr, hnrg1, g2rg1, hAAf1.ld 0 rfl, c1N]
  exact hAAf1.pick [1] (by decide) rfl
theorem a3I (hG : Glob gH H) (x : Nt) (hx : Nt.Ok x) (A : Nat) (hA : Var H A 2 [.int .u64 x.1, .int .u64 x.2]) :
 Fn Tryz.prog 187 [.func (.func 238) #[] #[ptr A 0 2]] H fun r H' => St Tryz.prog H H' [⟨r, 1, (eL x).flatMap (one I)⟩] := by
 refine Fn.of_sw Tryz.func187 rfl (by kernel_rfl) fun l hl => ?_
 have hn : l.length = 5 := by rw [hl]; rfl
 have g0 : get l 0 = (.func (.func 238) #[] #[(ptr A 0 2)]) := by rw [hl]; rfl
 clear hl
 simp (disch := omega) only [↓RA, RZ, simprocAttr, hn, g0]
 refine aB ((a7a ((St.refl Tryz.prog H).gl hG) x hx A (hA.keep (St.refl Tryz.prog H).keep)).tr) ?_
 rintro r H1 ⟨-, hT1⟩
 have hS1 := (St.refl Tryz.prog H).trans hT1
 simp only [RT] at hS1
 simp (disch := omega) only [↓RA, RB, simprocAttr, hn, c2r]
 exact hS1
theorem b3d (x : Nt) : Fn Tryz.prog 188 [.agg #[.int .u64 x.1, .int .u64 x.2]] H fun r H' => ∃ A, r = .func (.func 238) #[] #[ptr A 0 2] ∧ St Tryz.prog H H' [⟨ptr A 0 2, 0, [.int .u64 x.1, .int .u64 x.2]⟩] := by
 refine Fn.of_sw Tryz.func188 rfl (by kernel_rfl) fun l hl => ?_
 have hn : l.length = 4 := by rw [hl]; rfl
 have g0 : get l 0 = (.agg #[(.int .u64 x.1), (.int .u64 x.2)]) := by rw [hl]; rfl
 clear hl
 simp (disch := omega) only [↓RA, RB, simprocAttr, g0]
 refine (St.refl Tryz.prog H).eNew 2 [(.int .u64 x.1), (.int .u64 x.2)] rfl rfl rfl eU fun A1 H1 hS1 => ?_
 simp only [RT] at hS1
 simp (disch := omega) only [↓RA, RZ, simprocAttr, hn, c1L]
 exact ⟨A1, rfl, hS1⟩
theorem uN (hG : Glob gH H) (x : Nt) (hx : Nt.Ok x) :
 Fn Tryz.prog 128 [.agg #[.int .u64 x.1, .int .u64 x.2]] H fun r H' => St Tryz.prog H H' [⟨r, 1, (eL x).flatMap (one I)⟩] := by
 refine Fn.of_sw Tryz.func128 rfl (by kernel_rfl) fun l hl => ?_
 have hn : l.length = 6 := by rw [hl]; rfl
 have g0 : get l 0 = (.agg #[(.int .u64 x.1), (.int .u64 x.2)]) := by rw [hl]; rfl
 clear hl
 simp (disch := omega) only [↓RA, RB, simprocAttr, g0]
 refine (St.refl Tryz.prog H).eNew 2 [(.int .u64 x.1), (.int .u64 x.2)] rfl rfl rfl eU fun A1 H1 hS1 => ?_
 simp only [RT] at hS1
 simp (disch := omega) only [↓RA, RZ, simprocAttr, hn, hS1.ldA 0 rfl]
 refine aB (b3d x) ?_
 rintro r H2 ⟨A2, rfl, hT1⟩
 have hS2 := hS1.trans hT1
 simp only [RT] at hS2
 simp (disch := omega) only [↓RA, RZ, simprocAttr, hn]
 refine aB ((a3I (hS2.gl hG) x hx A2 (hS2.var 1 rfl)).tr) ?_
 rintro r H3 ⟨-, hT2⟩
 have hS3 := hS2.trans hT2
 simp only [RT] at hS3
 simp (disch := omega) only [↓RA, RB, simprocAttr, hn, c1C]
 exact hS3.pick [2] (by decide) rfl
end Go.Ds
namespace Go.Ds
open Go.Proofs
variable {H : Heap}
set_option maxRecDepth 10000
set_option maxHeartbeats 1000000
def a3j (a b : Nat) : Nat := (BitVec.ofNat 64 a &&& ~~~ BitVec.ofNat 64 b).toNat
theorem a0s (a b : Nat) : a3j a b < 18446744073709551616 := (BitVec.ofNat 64 a &&& ~~~ BitVec.ofNat 64 b).isLt
theorem b5M (a b : Nat) : IntKind.wrap .u64 ((BitVec.ofInt (IntKind.bits .u64) (a : Int) &&& ~~~ BitVec.ofInt (IntKind.bits .u64) (b : Int)).toNat : Int) = ((a3j a b : Nat) : Int) := by
 have e : (BitVec.ofInt (IntKind.bits .u64) (a : Int) &&& ~~~ BitVec.ofInt (IntKind.bits .u64) (b : Int)).toNat = a3j a b := by
  unfold a3j
  rw [BitVec.ofInt_natCast, BitVec.ofInt_natCast]
  rfl
 rw [e]
 have := a0s a b
 exact gR _ (by omega) (by omega)
theorem a1w (a b j : Nat) (ha : a < 18446744073709551616) (hj : j < 64) : (a3j a b).testBit j = (a.testBit j && !b.testBit j) := by
 unfold a3j
 have h1 : (BitVec.ofNat 64 a &&& ~~~ BitVec.ofNat 64 b).toNat.testBit j = (BitVec.ofNat 64 a &&& ~~~ BitVec.ofNat 64 b).getLsbD j := rfl
 rw [h1, BitVec.getLsbD_and, BitVec.getLsbD_not, BitVec.getLsbD_ofNat, BitVec.getLsbD_ofNat]
 simp [hj]
def woF (x y : Nt) : Nt := (a3j x.1 y.1, a3j x.2 y.2)
theorem b8E (x y : Nt) : Nt.Ok (woF x y) := ⟨a0s _ _, a0s _ _⟩
theorem b7v (x y : Nt) : Fn Tryz.prog 179 [.agg #[.int .u64 x.1, .int .u64 x.2], .agg #[.int .u64 y.1, .int .u64 y.2]] H fun r H' => r = .agg #[.int .u64 (woF x y).1, .int .u64 (woF x y).2] ∧ St Tryz.prog H H' [] := by
 have e1 := b5M x.1 y.1
 have e2 := b5M x.2 y.2
 refine Fn.of_sw Tryz.func179 rfl (by kernel_rfl) fun l hl => ?_
 have hn : l.length = 16 := by rw [hl]; rfl
 have g0 : get l 0 = (.agg #[(.int .u64 x.1), (.int .u64 x.2)]) := by rw [hl]; rfl
 have g1 : get l 1 = (.agg #[(.int .u64 y.1), (.int .u64 y.2)]) := by rw [hl]; rfl
 clear hl
 simp (disch := omega) only [↓RA, RB, simprocAttr, g0]
 refine (St.refl Tryz.prog H).eNew 2 [(.int .u64 x.1), (.int .u64 x.2)] rfl rfl rfl eU fun A1 H1 hS1 => ?_
 simp only [RT] at hS1
 simp (disch := omega) only [↓RA, RB, simprocAttr, g1]
 refine hS1.eNew 2 [(.int .u64 y.1), (.int .u64 y.2)] rfl rfl rfl eU fun A2 H2 hS2 => ?_
 simp only [RT] at hS2
 simp (disch := omega) only [↓RA, RZ, simprocAttr]
 refine hS2.eNew 2 [(.int .u64 0), (.int .u64 0)] rfl rfl rfl eU fun A3 H3 hS3 => ?_
 simp only [RT] at hS3
 simp (disch := omega) only [↓RA, RZ, simprocAttr, hn, hS3.ld 0 rfl, hS3.ld 1 rfl, b1r, e1, e2]
 refine hS3.eStore 2 rfl [_, _] rfl rfl eU (by simp) fun H4 hS4 => ?_
 simp only [RT] at hS4
 simp (disch := omega) only [↓RA, RZ, simprocAttr, hn, c1w, hS4.ldA 2 rfl]
 exact ⟨rfl, hS4.forget⟩
theorem a3D (x y : Nt) : Fn Tryz.prog 119 [.agg #[.int .u64 x.1, .int .u64 x.2], .agg #[.int .u64 y.1, .int .u64 y.2]] H fun r H' => r = .bool (decide (woF x y = (0, 0))) ∧ St Tryz.prog H H' [] := by
 refine Fn.of_sw Tryz.func119 rfl (by kernel_rfl) fun l hl => ?_
 have hn : l.length = 10 := by rw [hl]; rfl
 have g0 : get l 0 = (.agg #[(.int .u64 x.1), (.int .u64 x.2)]) := by rw [hl]; rfl
 have g1 : get l 1 = (.agg #[(.int .u64 y.1), (.int .u64 y.2)]) := by rw [hl]; rfl
 clear hl
 simp (disch := omega) only [↓RA, RB, simprocAttr, g0]
 refine (St.refl Tryz.prog H).eNew 2 [(.int .u64 x.1), (.int .u64 x.2)] rfl rfl rfl eU fun A1 H1 hS1 => ?_
 simp only [RT] at hS1
 simp (disch := omega) only [↓RA, RB, simprocAttr, g1]
 refine hS1.eNew 2 [(.int .u64 y.1), (.int .u64 y.2)] rfl rfl rfl eU fun A2 H2 hS2 => ?_
 simp only [RT] at hS2
 simp (disch := omega) only [↓RA, RZ, simprocAttr, hn, hS2.ldA 0 rfl, hS2.ldA 1 rfl]
 refine aB (b7v x y) ?_
 rintro r H3 ⟨rfl, hT1⟩
 have hS3 := hS2.trans hT1
 simp only [RT] at hS3
 simp (disch := omega) only [↓RA, RZ, simprocAttr, hn, b5R, c2u]
 refine ⟨?_, hS3.forget⟩
 congr 1
 rw [decide_eq_decide]
 constructor
 ·rintro ⟨h1, h2⟩
  exact Prod.ext (by simpa using h1) (by simpa using h2)
 ·intro h
  rw [h]
  exact ⟨rfl, rfl⟩
def rD (lo hi : Int) : Nt := bD ((List.range (hi - lo + 1).toNat).map fun (k : Nat) => lo + (k : Int))
theorem a7t (lo hi : Int) (h0 : 0 ≤ lo) (h1 : lo ≤ hi) (h2 : hi ≤ 127) : Fn Tryz.prog 118 [.agg #[I lo, I hi]] H fun r H' => r = .tuple #[.agg #[.int .u64 (rD lo hi).1, .int .u64 (rD lo hi).2], I 0] ∧ St Tryz.prog H H' [] := by
 have hce : iS lo hi = 0 := by
  unfold iS
  rw [if_neg (by omega), if_neg (by omega)]
 refine Fn.of_sw Tryz.func118 rfl (by kernel_rfl) fun l hl => ?_
 have hn : l.length = 25 := by rw [hl]; rfl
 have g0 : get l 0 = (.agg #[I lo, I hi]) := by rw [hl]; rfl
 clear hl
 simp (disch := omega) only [↓RA, RB, simprocAttr, g0]
 refine (St.refl Tryz.prog H).eNew 2 [I lo, I hi] rfl rfl rfl tF fun A1 H1 hS1 => ?_
 simp only [RT] at hS1
 simp (disch := omega) only [↓RA, RZ, simprocAttr]
 refine hS1.eNew 2 [(.int .u64 0), (.int .u64 0)] rfl rfl rfl eU fun A2 H2 hS2 => ?_
 simp only [RT] at hS2
 simp (disch := omega) only [↓RA, RZ, simprocAttr]
 refine hS2.eNew 2 [(.int .u64 0), (.int .u64 0)] rfl rfl rfl eU fun A3 H3 hS3 => ?_
 simp only [RT] at hS3
 simp (disch := omega) only [↓RA, RZ, simprocAttr, hn, hS3.ldA 0 rfl]
 refine aB (tT lo hi) ?_
 rintro r H4 ⟨rfl, hT1⟩
 have hS4 := hS3.trans hT1
 simp only [RT] at hS4
 rw [hce]
 simp (disch := omega) only [↓RA, RZ, simprocAttr, hn, hS4.ld 0 rfl]
 refine Wp.loopS (fun n l H' => l.length = 25 ∧ get l 1 = (ptr A1 0 2) ∧ get l 2 = (ptr A2 0 2) ∧ get l 3 = I 0 ∧ get l 4 = (ptr A3 0 2) ∧ ∃ (j : Nat), (n + j = (hi - lo + 1).toNat) ∧ get l 6 = I (lo + (j : Int)) ∧ St Tryz.prog H H' [⟨ptr A1 0 2, 0, [I lo, I hi]⟩, ⟨ptr A2 0 2, 0, [(.int .u64 0), (.int .u64 0)]⟩, ⟨ptr A3 0 2, 0, [.int .u64 (bD ((List.range j).map fun (k : Nat) => lo + (k : Int))).1, .int .u64 (bD ((List.range j).map fun (k : Nat) => lo + (k : Int))).2]⟩]) (hi - lo + 1).toNat ?_ ?_
 ·simp (disch := omega) only [RB, RC, simprocAttr, hn]
  exact ⟨0, by omega, by simp, hS4⟩
 rintro n l H5 ⟨hn, g1, g2, g3, g4, j, hj, g6, hS5⟩
 simp (disch := omega) only [↓RA, RZ, simprocAttr, hn, g1, g6, hS5.ld 0 rfl]
 refine aA (fun q1 => ?_) (fun q1 => ?_)
 ·have hok : Nt.Ok (bD ((List.range j).map fun (k : Nat) => lo + (k : Int))) := mZ _ _ (fun z h => by
   obtain ⟨k, hk, rfl⟩ := List.mem_map.1 h
   have := List.mem_range.1 hk
   exact ⟨by omega, by omega⟩) ⟨by decide, by decide⟩
  have hsu : bD ((List.range (j + 1)).map fun (k : Nat) => lo + (k : Int)) = lB (bD ((List.range j).map fun (k : Nat) => lo + (k : Int))) (lo + (j : Int)) := by
   unfold bD
   rw [List.range_succ, List.map_append, List.foldl_append]
   rfl
  simp (disch := omega) only [↓RA, RZ, simprocAttr, hn, g4, g6, hS5.ldA 2 rfl, q1]
  refine aB (a1W (bD ((List.range j).map fun (k : Nat) => lo + (k : Int))) hok (lo + (j : Int)) (by omega) (by omega)) ?_
  rintro r H6 ⟨rfl, hT2⟩
  have hS6 := hS5.trans hT2
  simp only [RT] at hS6
  simp (disch := omega) only [↓RA, RZ, simprocAttr, hn, g4, q1]
  refine hS6.eStore 2 rfl [(.int .u64 (lB (bD ((List.range j).map fun (k : Nat) => lo + (k : Int))) (lo + (j : Int))).1), (.int .u64 (lB (bD ((List.range j).map fun (k : Nat) => lo + (k : Int))) (lo + (j : Int))).2)] rfl rfl eU (by simp) fun H7 hS7 => ?_
  simp only [RT] at hS7
  simp (disch := omega) only [↓RA, RZ, simprocAttr, hn, g1, g2, g3, g4, g6, q1]
  refine ⟨n - 1, by omega, j + 1, by omega, by congr 1; omega, ?_⟩
  rw [hsu]
  exact hS7.pick [0, 1, 2] (by decide) rfl
 have hjj : j = (hi - lo + 1).toNat := by omega
 simp (disch := omega) only [↓RA, RZ, simprocAttr, hn, g2, g4, hS5.ldA 2 rfl, q1]
 refine hS5.eStore 1 rfl [(.int .u64 (bD ((List.range j).map fun (k : Nat) => lo + (k : Int))).1), (.int .u64 (bD ((List.range j).map fun (k : Nat) => lo + (k : Int))).2)] rfl rfl eU (by simp) fun H8 hS8 => ?_
 simp only [RT] at hS8
 simp (disch := omega) only [↓RA, RZ, simprocAttr, hn, g2, b9N, hS8.ldA 1 rfl, q1]
 rw [hjj]
 exact ⟨rfl, hS8.forget⟩
end Go.Ds
namespace Go.Ds
open Go.Proofs
variable {H : Heap}
set_option maxRecDepth 10000
set_option maxHeartbeats 1000000
structure Ks (H : Heap) (kv : Value) (ks : List Nt) : Prop where
 sl : Sl 2 ntc H kv ks
 len : ks.length < 1000000000
 ok : ∀ x ∈ ks, Nt.Ok x
theorem Ks.keep {P : Program} {H' : Heap} {kv : Value} {ks : List Nt} {os : List Ob} (h : Ks H kv ks) (hS : St P H H' os) : Ks H' kv ks := ⟨hS.sl h.sl, h.len, h.ok⟩
def iA (o : Org) (ks : List Nt) : Int := if organE o ≠ 0 then organE o else if ks.length ≠ o.dvs.length then 5 else if ∃ j, j < o.dvs.length ∧ woF (aC ks j) (rD (aC o.dvs j).lo (aC o.dvs j).hi) ≠ (0, 0) then 23 else 0
theorem a1P (o : Org) (ho : o.In H) (kv : Value) (ks : List Nt) (hk : Ks H kv ks) : Fn Tryz.prog 62 [.agg #[.string o.name, o.rv, o.dv, o.cv], kv] H fun r H' => r = I (iA o ks) ∧ St Tryz.prog H H' [] := by
 have hkl := hk.len
 have hdl := ho.2.2.2.2.2.2.1
 refine Fn.of_sw Tryz.func62 rfl (by kernel_rfl) fun l hl => ?_
 have hn : l.length = 43 := by rw [hl]; rfl
 have g0 : get l 0 = (.agg #[(.string o.name), o.rv, o.dv, o.cv]) := by rw [hl]; rfl
 have g1 : get l 1 = kv := by rw [hl]; rfl
 clear hl
 simp (disch := omega) only [↓RA, RB, simprocAttr, g0]
 refine (St.refl Tryz.prog H).eNew 4 [(.string o.name), o.rv, o.dv, o.cv] rfl rfl (by simp [OC, ((St.refl Tryz.prog H).sl ho.1).cells.2.1, ((St.refl Tryz.prog H).sl ho.2.2.1).cells.2.1, ((St.refl Tryz.prog H).sl ho.2.2.2.2.1).cells.2.1]) fW fun A1 H1 hS1 => ?_
 simp only [RT] at hS1
 simp (disch := omega) only [↓RA, RZ, simprocAttr, hn, hS1.ldA 0 rfl]
 refine aB (wT o (ho.keep hS1)) ?_
 rintro r H2 ⟨rfl, hT1⟩
 have hS2 := hS1.trans hT1
 simp only [RT] at hS2
 simp (disch := omega) only [↓RA, RB, simprocAttr, hn]
 refine aA (fun h1 => ?_) (fun h1 => ?_)
 ·simp (disch := omega) only [↓RA, RZ, simprocAttr, hn, b3W, h1]
  exact ⟨by unfold iA; rw [if_pos h1], hS2.forget⟩
 have hz : organE o = 0 := Classical.not_not.1 h1
 have hf := Org.fine hz
 simp (disch := omega) only [↓RA, RZ, simprocAttr, hn, g1, (hS2.sl hk.sl).len, hS2.ld 0 rfl, (hS2.sl ho.2.2.1).len, h1]
 refine aA (fun h2 => ?_) (fun h2 => ?_)
 ·simp (disch := omega) only [↓RA, RZ, simprocAttr, hn, b3W, h1, h2]
  exact ⟨by unfold iA; rw [if_neg h1, if_pos (by omega)], hS2.forget⟩
 have hlen : ks.length = o.dvs.length := by omega
 simp (disch := omega) only [↓RA, RZ, simprocAttr, hn, hS2.ld 0 rfl, (hS2.sl ho.2.2.1).len, h1, h2]
 refine Wp.loopS (fun n l H' => l.length = 43 ∧ get l 1 = kv ∧ get l 22 = o.dv ∧ get l 23 = I o.dvs.length ∧ ∃ (j : Nat), (n + j = o.dvs.length ∧ ∀ q, q < j → woF (aC ks q) (rD (aC o.dvs q).lo (aC o.dvs q).hi) = (0, 0)) ∧ get l 24 = I j ∧ St Tryz.prog H H' [⟨ptr A1 0 4, 0, [(.string o.name), o.rv, o.dv, o.cv]⟩]) o.dvs.length ?_ ?_
 ·simp (disch := omega) only [RB, RC, simprocAttr, hn, g1]
  exact ⟨0, ⟨by omega, fun q hq => absurd hq (Nat.not_lt_zero _)⟩, rfl, hS2⟩
 rintro n l H3 ⟨hn, g1, g22, g23, j, ⟨hj,hq⟩, g24, hS3⟩
 simp (disch := omega) only [↓RA, RB, simprocAttr, hn, g23, g24]
 refine aA (fun h3 => ?_) (fun h3 => ?_)
 ·have hky := hf.keys j (by omega)
  simp (disch := omega) only [↓RA, RZ, simprocAttr, hn, g22, g24, (hS3.sl ho.2.2.1).idx, (hS3.sl ho.2.2.1).ldA, Dvn.cells, h3]
  refine hS3.eNew 5 [(.string ⟨#[]⟩), (.bool false), I 0, I 0, (.slice none 0 0)] rfl rfl rfl wY fun A2 H4 hS4 => ?_
  simp only [RT] at hS4
  simp (disch := omega) only [↓RA, RZ, simprocAttr, hn, h3]
  refine hS4.eStore 1 rfl [(.string (aC o.dvs j).name), (.bool (aC o.dvs j).pedal), I (aC o.dvs j).lo, I (aC o.dvs j).hi, (aC o.dvs j).sv] rfl (by simp [OC, (hS4.sl (ho.2.2.2.1 (aC o.dvs j) (aF (by omega))).1).cells.2.1]) wY (by simp) fun H5 hS5 => ?_
  simp only [RT] at hS5
  simp (disch := omega) only [↓RA, RZ, simprocAttr, hn, hS5.ldA 1 rfl, h3]
  refine aB (a7t (aC o.dvs j).lo (aC o.dvs j).hi hky.1 hky.2.1 hky.2.2) ?_
  rintro r H6 ⟨rfl, hT2⟩
  have hS6 := hS5.trans hT2
  simp only [RT] at hS6
  simp (disch := omega) only [↓RA, RZ, simprocAttr, hn, h3]
  refine hS6.eNew 2 [(.int .u64 0), (.int .u64 0)] rfl rfl rfl eU fun A3 H7 hS7 => ?_
  simp only [RT] at hS7
  simp (disch := omega) only [↓RA, RZ, simprocAttr, hn, h3]
  refine hS7.eStore 2 rfl [(.int .u64 (rD (aC o.dvs j).lo (aC o.dvs j).hi).1), (.int .u64 (rD (aC o.dvs j).lo (aC o.dvs j).hi).2)] rfl rfl eU (by simp) fun H8 hS8 => ?_
  simp only [RT] at hS8
  simp (disch := omega) only [↓RA, RZ, simprocAttr, hn, h3]
  refine Wp.drw cD (by kernel_rfl) ?_
  simp (disch := omega) only [↓RA, RZ, simprocAttr, hn, g1, (hS8.sl hk.sl).idx, (hS8.sl hk.sl).ldA, ntc, hS8.ldA 2 rfl]
  refine aB (a3D (aC ks j) (rD (aC o.dvs j).lo (aC o.dvs j).hi)) ?_
  rintro r H9 ⟨rfl, hT3⟩
  have hS9 := hS8.trans hT3
  simp only [RT] at hS9
  simp (disch := omega) only [↓RA, RB, simprocAttr, hn]
  refine bU (fun h4 => ?_) (fun h4 => ?_)
  ·have h5 : ¬ woF (aC ks j) (rD (aC o.dvs j).lo (aC o.dvs j).hi) = (0, 0) := by simpa using h4
   simp (disch := omega) only [↓RA, RB, simprocAttr, hn, b3W, h4]
   exact ⟨by unfold iA; rw [if_neg h1, if_neg (by omega), if_pos ⟨j, by omega, h5⟩], hS9.forget⟩
  have h5 : woF (aC ks j) (rD (aC o.dvs j).lo (aC o.dvs j).hi) = (0, 0) := by simpa using h4
  simp (disch := omega) only [↓RA, RZ, simprocAttr, hn, g1, g22, g23, g24, h4]
  exact ⟨n - 1, by omega, j + 1, ⟨by omega, fun q hq' => by rcases Nat.lt_succ_iff_lt_or_eq.1 hq' with e | e; (· exact hq q e); (· rw [e]; exact h5)⟩, by simp, hS9.pick [0] (by decide) rfl⟩
 simp (disch := omega) only [↓RA, RZ, simprocAttr, hn, b3W, h3]
 refine ⟨?_, hS3.forget⟩
 unfold iA
 rw [if_neg h1, if_neg (by omega), if_neg]
 rintro ⟨q, hq1, hq2⟩
 exact hq2 (hq q (by omega))
def plD (ks : List Nt) (i : Nat) : List Ct := (eL (aC ks i)).map fun z => ((i : Int), z)
def bC (ks : List Nt) : List Ct := (List.range ks.length).flatMap (plD ks)
theorem b7y (ks : List Nt) (i : Nat) : (plD ks i).length ≤ 128 := by
 unfold plD
 rw [List.length_map]
 exact pA _
theorem a6d (ks : List Nt) : ∀ i, ((List.range i).flatMap (plD ks)).length ≤ i * 128
 | 0 => by simp
 | i + 1 => by
   have := a6d ks i
   have := b7y ks i
   rw [List.range_succ, List.flatMap_append, List.length_append, List.flatMap_cons, List.flatMap_nil, List.append_nil]
   omega
theorem yZ (hG : Glob gH H) (kv : Value) (ks : List Nt) (hk : Ks H kv ks) (h8 : ks.length ≤ 8) : Fn Tryz.prog 122 [kv] H fun r H' => St Tryz.prog H H' [⟨r, 2, pr (bC ks)⟩] := by
 refine Fn.of_sw Tryz.func122 rfl (by kernel_rfl) fun l hl => ?_
 have hn : l.length = 31 := by rw [hl]; rfl
 have g0 : get l 0 = kv := by rw [hl]; rfl
 clear hl
 simp (disch := omega) only [↓RA, RZ, simprocAttr, hn, g0, ((St.refl Tryz.prog H).sl hk.sl).len]
 have hS1 := (St.refl Tryz.prog H).nil 1
 simp only [RT] at hS1
 refine Wp.loopS (fun n l H' => l.length = 31 ∧ get l 2 = (.slice none 0 0) ∧ get l 8 = kv ∧ get l 9 = I ks.length ∧ ∃ (i : Nat) (ov : Value), (n + i = ks.length) ∧ get l 10 = I i ∧ get l 3 = ov ∧ St Tryz.prog H H' [⟨ov, 2, pr ((List.range i).flatMap (plD ks))⟩]) ks.length ?_ ?_
 ·simp (disch := omega) only [RB, RC, simprocAttr, hn]
  exact ⟨0, .slice none 0 0, by omega, rfl, rfl, hS1⟩
 rintro n l H1 ⟨hn, g2, g8, g9, i, ov, hi, kV, g3, hS2⟩
 simp (disch := omega) only [↓RA, RB, simprocAttr, hn, g9, kV]
 refine aA (fun q1 => ?_) (fun q1 => ?_)
 ·have hmo := hk.ok _ (aF (xs := ks) (j := i) (by omega))
  have hml := pA (aC ks i)
  have hpl := a6d ks i
  simp (disch := omega) only [↓RA, RZ, simprocAttr, hn, g8, kV, (hS2.sl hk.sl).idx, (hS2.sl hk.sl).ldA, ntc, q1]
  refine hS2.eNew 2 [(.int .u64 0), (.int .u64 0)] rfl rfl rfl eU fun A1 H2 hS3 => ?_
  simp only [RT] at hS3
  simp (disch := omega) only [↓RA, RZ, simprocAttr, hn, q1]
  refine hS3.eStore 1 rfl [(.int .u64 (aC ks i).1), (.int .u64 (aC ks i).2)] rfl rfl eU (by simp) fun H3 hS4 => ?_
  simp only [RT] at hS4
  simp (disch := omega) only [↓RA, RZ, simprocAttr, hn, hS4.ldA 1 rfl, q1]
  refine aB ((uN (hS4.gl hG) (aC ks i) hmo).tr) ?_
  rintro r H4 ⟨-, hT1⟩
  have hS5 := hS4.trans hT1
  simp only [RT] at hS5
  obtain ⟨mw, rfl⟩ : ∃ w, w = r := ⟨r, rfl⟩
  simp (disch := omega) only [↓RA, RZ, simprocAttr, hn, (hS5.slo 2 rfl (fun _ => rfl)).len, q1]
  refine Wp.loopS (fun n l H' => l.length = 31 ∧ get l 2 = (.slice none 0 0) ∧ get l 4 = I i ∧ get l 8 = kv ∧ get l 9 = I ks.length ∧ get l 10 = I i ∧ get l 16 = mw ∧ get l 17 = I (eL (aC ks i)).length ∧ ∃ (j : Nat) (ow : Value), (n + j = (eL (aC ks i)).length) ∧ get l 18 = I j ∧ get l 3 = ow ∧ St Tryz.prog H H' [⟨ow, 2, pr ((List.range i).flatMap (plD ks) ++ ((eL (aC ks i)).take j).map fun z => ((i : Int), z))⟩, ⟨ptr A1 0 2, 0, [(.int .u64 (aC ks i).1), (.int .u64 (aC ks i).2)]⟩, ⟨mw, 1, (eL (aC ks i)).flatMap (one I)⟩]) (eL (aC ks i)).length ?_ ?_
  ·simp (disch := omega) only [RB, RC, simprocAttr, hn, g2, g8, g9, kV, g3]
   refine ⟨0, ov, by omega, rfl, rfl, ?_⟩
   rw [List.take_zero, List.map_nil, List.append_nil]
   exact hS5
  rintro n l H5 ⟨hn, g2, g4, g8, g9, kV, g16, g17, j, ow, hj, g18, g3, hS6⟩
  simp (disch := omega) only [↓RA, RB, simprocAttr, hn, g17, g18]
  refine aA (fun q2 => ?_) (fun q2 => ?_)
  ·have hroom : (pr ((List.range i).flatMap (plD ks) ++ ((eL (aC ks i)).take j).map fun z => ((i : Int), z))).length ≤ 4000 := by
    rw [aJ, List.length_append, List.length_map, List.length_take]
    omega
   simp (disch := omega) only [↓RA, RZ, simprocAttr, hn, g4, g16, g18, g3, (hS6.slo 2 rfl (fun _ => rfl)).idx, (hS6.slo 2 rfl (fun _ => rfl)).ld, one, lZ, q2]
   refine hS6.eSlice [I i, I (aC (eL (aC ks i)) j)] jR vR rfl rfl (by simp [Value.cells]) rfl rfl (by decide) (by decide) fun w1 H6 hS7 => ?_
   simp only [RT] at hS7
   simp (disch := omega) only [↓RA, RZ, simprocAttr, hn, q2]
   refine hS7.eAppend 0 rfl (hS7.rd 3 rfl) jR (by have h := hroom; simp only [List.length_cons, List.length_nil]; omega) fun w2 H7 hS8 => ?_
   simp only [RT] at hS8
   simp (disch := omega) only [↓RA, RZ, simprocAttr, hn, g2, g4, g8, g9, kV, g16, g17, g18, q2]
   refine ⟨n - 1, by omega, j + 1, w2, by omega, by simp, rfl, ?_⟩
   rw [List.take_add_one, List.getElem?_eq_getElem (by omega), Option.toList_some, List.map_append, ← List.append_assoc, bW]
   rw [show (eL (aC ks i))[j] = aC (eL (aC ks i)) j from (bV _ _ (by omega)).symm]
   exact hS8.pick [0, 1, 2] (by decide) rfl
  simp (disch := omega) only [↓RA, RZ, simprocAttr, hn, g2, g8, g9, kV, g3, q2]
  have hjj : j = (eL (aC ks i)).length := by omega
  refine ⟨ks.length - (i + 1), by omega, i + 1, ow, by omega, by simp, rfl, ?_⟩
  rw [List.range_succ, List.flatMap_append, List.flatMap_cons, List.flatMap_nil, List.append_nil]
  rw [show plD ks i = ((eL (aC ks i)).take j).map (fun z => ((i : Int), z)) from by rw [hjj, List.take_length]; rfl]
  exact hS6.pick [0] (by decide) rfl
 have hii : i = ks.length := by omega
 simp (disch := omega) only [↓RA, RZ, simprocAttr, hn, g3, c1R, q1]
 have hfin := hS2
 rw [hii] at hfin
 exact hfin
end Go.Ds
namespace Go.Ds
open Go.Proofs
set_option maxRecDepth 10000
def iQ (x : Nt) (z : Int) : Bool := if z < 64 then x.1.testBit z.toNat else x.2.testBit (z - 64).toNat
theorem mY {x i : Nat} : i ∈ gS x ↔ i < 64 ∧ x.testBit i = true := by
 unfold gS
 rw [List.mem_filter, List.mem_range]
theorem a9I {x : Nt} {z : Int} : z ∈ eL x ↔ isN z ∧ iQ x z = true := by
 unfold eL iQ isN
 rw [List.mem_append, List.mem_map, List.mem_map]
 constructor
 ·rintro (⟨i, hi, rfl⟩ | ⟨i, hi, rfl⟩)
  ·obtain ⟨h1, h2⟩ := mY.1 hi
   exact ⟨by omega, by rw [if_pos (by omega)]; exact h2⟩
  ·obtain ⟨h1, h2⟩ := mY.1 hi
   refine ⟨by omega, ?_⟩
   rw [if_neg (by omega), show (64 + (i : Int) - 64).toNat = i by omega]
   exact h2
 ·rintro ⟨h1, h2⟩
  by_cases h : z < 64
  ·rw [if_pos h] at h2
   exact .inl ⟨z.toNat, mY.2 ⟨by omega, h2⟩, by omega⟩
  ·rw [if_neg h] at h2
   exact .inr ⟨(z - 64).toNat, mY.2 ⟨by omega, h2⟩, by omega⟩
theorem a9k (x : Nt) (n z : Int) (hn : isN n) (hz : isN z) : iQ (lB x n) z = (iQ x z || decide (z = n)) := by
 unfold iQ lB isN at *
 by_cases h1 : n < 64
 ·rw [if_pos h1]
  by_cases h2 : z < 64
  ·rw [if_pos h2, if_pos h2, Nat.testBit_or, Nat.testBit_two_pow]
   congr 1
   rw [decide_eq_decide]
   omega
  ·rw [if_neg h2, if_neg h2, decide_eq_false (by omega), Bool.or_false]
 ·rw [if_neg h1]
  by_cases h2 : z < 64
  ·rw [if_pos h2, if_pos h2, decide_eq_false (by omega), Bool.or_false]
  ·rw [if_neg h2, if_neg h2, Nat.testBit_or, Nat.testBit_two_pow]
   congr 1
   rw [decide_eq_decide]
   omega
theorem zH (z : Int) : iQ (0, 0) z = false := by
 unfold iQ
 split <;> simp
theorem zA : ∀ (xs : List Int) (x : Nt) (z : Int), (∀ n ∈ xs, isN n) → isN z → iQ (xs.foldl lB x) z = (iQ x z || decide (z ∈ xs))
 | [], x, z, _, _ => by simp
 | n :: xs, x, z, h, hz => by
   rw [List.foldl_cons, zA xs _ z (fun y hy => h y (List.mem_cons_of_mem _ hy)) hz, a9k x n z (h n (List.mem_cons_self ..)) hz, Bool.or_assoc]
   congr 1
   rw [Bool.eq_iff_iff]
   simp
theorem wQ {xs : List Int} {z : Int} (h : ∀ n ∈ xs, isN n) (hz : isN z) : iQ (bD xs) z = decide (z ∈ xs) := by
 unfold bD
 rw [zA xs _ z h hz, zH, Bool.false_or]
theorem a2u {lo hi z : Int} (h0 : 0 ≤ lo) (h2 : hi ≤ 127) (hz : isN z) : iQ (rD lo hi) z = (decide (lo ≤ z) && decide (z ≤ hi)) := by
 unfold rD
 rw [wQ (fun n hn => by
  obtain ⟨k, hk, rfl⟩ := List.mem_map.1 hn
  have := List.mem_range.1 hk
  exact ⟨by omega, by omega⟩) hz, Bool.eq_iff_iff, Bool.and_eq_true, decide_eq_true_eq, decide_eq_true_eq, decide_eq_true_eq, List.mem_map]
 constructor
 ·rintro ⟨k, hk, rfl⟩
  have := List.mem_range.1 hk
  omega
 ·rintro ⟨h3, h4⟩
  exact ⟨(z - lo).toNat, List.mem_range.2 (by omega), by omega⟩
theorem a6I {x y : Nt} (hx : Nt.Ok x) {z : Int} (hz : isN z) : iQ (woF x y) z = (iQ x z && !iQ y z) := by
 obtain ⟨h1, h2⟩ := hz
 unfold iQ woF
 by_cases h : z < 64
 ·rw [if_pos h, if_pos h, if_pos h, a1w _ _ _ hx.1 (by omega)]
 ·rw [if_neg h, if_neg h, if_neg h, a1w _ _ _ hx.2 (by omega)]
theorem a4u {x y : Nt} (hx : Nt.Ok x) (h : woF x y = (0, 0)) {z : Int} (hz : isN z) (hh : iQ x z = true) : iQ y z = true := by
 have := a6I (y := y) hx hz
 rw [h, zH, hh] at this
 simpa using this.symm
theorem iX {o : Org} {ks : List Nt} (h : iA o ks = 0) : organE o = 0 ∧ ks.length = o.dvs.length ∧ ∀ j, j < o.dvs.length → woF (aC ks j) (rD (aC o.dvs j).lo (aC o.dvs j).hi) = (0, 0) := by
 unfold iA at h
 split at h
 ·rename_i hh; exact absurd h hh
 rename_i h1
 split at h
 ·omega
 rename_i h2
 split at h
 ·omega
 rename_i h3
 refine ⟨Classical.not_not.1 h1, by omega, fun j hj => ?_⟩
 by_cases hh : woF (aC ks j) (rD (aC o.dvs j).lo (aC o.dvs j).hi) = (0, 0)
 ·exact hh
 ·exact absurd ⟨j, hj, hh⟩ h3
theorem rJ {o : Org} {ks : List Nt} (hok : ∀ x ∈ ks, Nt.Ok x) (h : iA o ks = 0) : ∀ c ∈ bC ks, gZ o c = true := by
 obtain ⟨h1, h2, h3⟩ := iX h
 have hf := Org.fine h1
 intro c hc
 unfold bC at hc
 obtain ⟨i, hi, hc⟩ := List.mem_flatMap.1 hc
 have hi := List.mem_range.1 hi
 unfold plD at hc
 obtain ⟨z, hz, rfl⟩ := List.mem_map.1 hc
 obtain ⟨hz1, hz2⟩ := a9I.1 hz
 have hky := hf.keys i (by omega)
 have hw := a4u (hok _ (aF hi)) (h3 i (by omega)) hz1 hz2
 rw [a2u hky.1 hky.2.2 hz1] at hw
 simp only [Bool.and_eq_true, decide_eq_true_eq] at hw
 unfold gZ
 simp only [Bool.and_eq_true, decide_eq_true_eq, Int.toNat_natCast]
 omega
theorem rA {o : Org} {ks : List Nt} (h : iA o ks = 0) : (bC ks).length ≤ 1024 := by
 obtain ⟨h1, h2, _⟩ := iX h
 have h8 := (Org.fine h1).dlen
 have := a6d ks ks.length
 unfold bC
 omega
end Go.Ds
namespace Go.Ds
open Go.Proofs
variable {H : Heap}
set_option maxRecDepth 10000
set_option maxHeartbeats 1000000
def a9h (o : Org) (l : List (Value × Reg)) (ks : List Nt) : Int := if jI o l ≠ 0 then jI o l else iA o ks
theorem b1t (o : Org) (ho : o.In H) (lv : Value) (xs : List (Value × Reg)) (hl : Sl 3 rgc H lv xs) (hle : xs.length < 1000000000) (hr : ∀ p ∈ xs, p.2.In H p.1) (kv : Value) (ks : List Nt) (hk : Ks H kv ks) :
 Fn Tryz.prog 120 [.agg #[.string o.name, o.rv, o.dv, o.cv], lv, kv] H fun r H' => r = I (a9h o xs ks) ∧ St Tryz.prog H H' [] := by
 refine Fn.of_sw Tryz.func120 rfl (by kernel_rfl) fun l hl => ?_
 have hn : l.length = 17 := by rw [hl]; rfl
 have g0 : get l 0 = (.agg #[(.string o.name), o.rv, o.dv, o.cv]) := by rw [hl]; rfl
 have g1 : get l 1 = lv := by rw [hl]; rfl
 have g2 : get l 2 = kv := by rw [hl]; rfl
 clear hl
 simp (disch := omega) only [↓RA, RB, simprocAttr, g0]
 refine (St.refl Tryz.prog H).eNew 4 [(.string o.name), o.rv, o.dv, o.cv] rfl rfl (by simp [OC, ((St.refl Tryz.prog H).sl ho.1).cells.2.1, ((St.refl Tryz.prog H).sl ho.2.2.1).cells.2.1, ((St.refl Tryz.prog H).sl ho.2.2.2.2.1).cells.2.1]) fW fun A1 H1 hS1 => ?_
 simp only [RT] at hS1
 simp (disch := omega) only [↓RA, RZ, simprocAttr, hn, g1, hS1.ldA 0 rfl]
 refine aB (zR o (ho.keep hS1) lv xs (hS1.sl hl) hle (fun p hp => (hr p hp).keep hS1)) ?_
 rintro r H2 ⟨rfl, hT1⟩
 have hS2 := hS1.trans hT1
 simp only [RT] at hS2
 simp (disch := omega) only [↓RA, RB, simprocAttr, hn]
 refine aA (fun h1 => ?_) (fun h1 => ?_)
 ·simp (disch := omega) only [↓RA, RZ, simprocAttr, hn, b5v, h1]
  exact ⟨by unfold a9h; rw [if_pos h1], hS2.forget⟩
 simp (disch := omega) only [↓RA, RZ, simprocAttr, hn, g2, hS2.ldA 0 rfl, h1]
 refine aB (a1P o (ho.keep hS2) kv ks (hk.keep hS2)) ?_
 rintro r H3 ⟨rfl, hT2⟩
 have hS3 := hS2.trans hT2
 simp only [RT] at hS3
 simp (disch := omega) only [↓RA, RZ, simprocAttr, hn, b5v, h1]
 exact ⟨by unfold a9h; rw [if_neg h1], hS3.forget⟩
def rkE (o : Org) (rg : Reg) (ks : List Nt) : Int := if gX o rg ≠ 0 then gX o rg else iA o ks
theorem a1M (o : Org) (sv : Value) (rg : Reg) (ks : List Nt) : a9h o [(sv, rg)] ks = rkE o rg ks := by
 unfold a9h rkE
 rw [sV]
theorem a2d {o : Org} {rg : Reg} {ks : List Nt} (h : rkE o rg ks = 0) : gX o rg = 0 ∧ iA o ks = 0 := by
 unfold rkE at h
 split at h
 ·rename_i hh; exact absurd h hh
 ·rename_i hh; exact ⟨Classical.not_not.1 hh, h⟩
def tD (o : Org) (rg : Reg) (ks : List Nt) : List Ct := if rkE o rg ks = 0 then dT o rg (bC ks) else []
def a8j (o : Org) (rg : Reg) (ks : List Nt) : List Ct := if rkE o rg ks = 0 then eI o rg (bC ks) else []
theorem mH (hG : Glob gH H) (o : Org) (ho : o.In H) (rg : Reg) (sv : Value) (hr : rg.In H sv) (kv : Value) (ks : List Nt) (hk : Ks H kv ks) :
 Fn Tryz.prog 63 [.agg #[.string o.name, o.rv, o.dv, o.cv], .agg #[sv, .int .u64 rg.cpl, .int .u64 rg.off], kv] H fun r H' => ∃ pv, r = .tuple #[pv, I (rkE o rg ks)] ∧ Slx 2 cC H' (fun B => H.length ≤ B) pv (tD o rg ks) ∧ St Tryz.prog H H' [] := by
 refine Fn.of_sw Tryz.func63 rfl (by kernel_rfl) fun l hl => ?_
 have hn : l.length = 22 := by rw [hl]; rfl
 have g0 : get l 0 = (.agg #[(.string o.name), o.rv, o.dv, o.cv]) := by rw [hl]; rfl
 have g1 : get l 1 = (.agg #[sv, (.int .u64 rg.cpl), (.int .u64 rg.off)]) := by rw [hl]; rfl
 have g2 : get l 2 = kv := by rw [hl]; rfl
 clear hl
 simp (disch := omega) only [↓RA, RB, simprocAttr, g0]
 refine (St.refl Tryz.prog H).eNew 4 [(.string o.name), o.rv, o.dv, o.cv] rfl rfl (by simp [OC, ((St.refl Tryz.prog H).sl ho.1).cells.2.1, ((St.refl Tryz.prog H).sl ho.2.2.1).cells.2.1, ((St.refl Tryz.prog H).sl ho.2.2.2.2.1).cells.2.1]) fW fun A1 H1 hS1 => ?_
 simp only [RT] at hS1
 simp (disch := omega) only [↓RA, RB, simprocAttr, g1]
 refine hS1.eNew 3 [sv, (.int .u64 rg.cpl), (.int .u64 rg.off)] rfl rfl (by simp [OC, (hS1.sl hr.1).cells.2.1]) kD fun A2 H2 hS2 => ?_
 simp only [RT] at hS2
 simp (disch := omega) only [↓RA, RZ, simprocAttr, hn, hS2.ldA 0 rfl, hS2.ldA 1 rfl]
 refine hS2.eSlice [sv, (.int .u64 rg.cpl), (.int .u64 rg.off)] b0L b0B rfl rfl (by first | (simp []; done) | simp [Value.cells]) (by first | (simp []; done) | simp [Value.cells]) (by simp [OC, (hS2.sl hr.1).cells.2.1]) (by decide) (by decide) fun w1 H3 hS3 => ?_
 simp only [RT] at hS3
 simp (disch := omega) only [↓RA, RZ, simprocAttr, hn, g2]
 refine aB (b1t o (ho.keep hS3) w1 [(sv, rg)] (hS3.slo 2 rfl (fun _ => rfl)) (by simp) (by intro p hp; rw [List.mem_singleton.1 hp]; exact hr.keep hS3) kv ks (hk.keep hS3)) ?_
 rintro r H4 ⟨rfl, hT1⟩
 have hS4 := hS3.trans hT1
 simp only [RT] at hS4
 have hsc := a1M o sv rg ks
 simp (disch := omega) only [↓RA, RB, simprocAttr, hn, hsc]
 refine aA (fun h1 => ?_) (fun h1 => ?_)
 ·simp (disch := omega) only [↓RA, RZ, simprocAttr, hn, b9B, hsc, h1]
  exact ⟨.slice none 0 0, rfl, ⟨⟨.inl ⟨rfl, by rw [tD, if_neg h1]; rfl⟩, cH, by decide⟩, fun b h => by simp [cA] at h⟩, hS4.forget⟩
 have h0 := Classical.not_not.1 h1
 obtain ⟨hz1, hk0⟩ := a2d h0
 obtain ⟨hz3, hz4⟩ := nZ hz1
 have hf := Org.fine hz3
 have h8 : ks.length ≤ 8 := by
  have := hf.dlen
  have := (iX hk0).2.1
  omega
 simp (disch := omega) only [↓RA, RC, simprocAttr, hsc, h1]
 refine Wp.drwT cD [(0, 4), (1, 4)] (by kernel_rfl) (by kernel_rfl) ?_
 simp (disch := omega) only [↓RA, RZ, simprocAttr, hn, g2, hS4.ldA 0 rfl, hS4.ldA 1 rfl]
 refine aB ((yZ (hS4.gl hG) kv ks (hk.keep hS4) h8).tr) ?_
 rintro r H5 ⟨-, hT2⟩
 have hS5 := hS4.trans hT2
 simp only [RT] at hS5
 obtain ⟨pv, rfl⟩ : ∃ w, w = r := ⟨r, rfl⟩
 simp (disch := omega) only [↓RA, RZ, simprocAttr, hn]
 have hSd := hS5
 refine aB (sT o (ho.keep hS5) hf rg sv (hr.keep hS5) hz4 pv (bC ks) (hS5.slo 3 rfl cH) (rA hk0) (rJ hk.ok hk0)) ?_
 rintro r H6 ⟨hx, hT3⟩
 have hS6 := hS5.trans hT3
 simp only [RT] at hS6
 obtain ⟨qv, rfl⟩ : ∃ w, w = r := ⟨r, rfl⟩
 simp (disch := omega) only [↓RA, RZ, simprocAttr, hn, hS5.ldA 0 rfl, hS5.ldA 1 rfl, b9B, hx.1.noTup]
 rw [h0]
 refine ⟨qv, rfl, ⟨?_, fun b h => ?_⟩, hS6.forget⟩
 ·rw [tD, if_pos h0]
  exact hx.1
 ·have := hx.2 b h
  have : H.length ≤ _ := hSd.len
  omega
theorem a0x (hG : Glob gH H) (o : Org) (ho : o.In H) (rg : Reg) (sv : Value) (hr : rg.In H sv) (kv : Value) (ks : List Nt) (hk : Ks H kv ks) :
 Fn Tryz.prog 124 [.agg #[.string o.name, o.rv, o.dv, o.cv], .agg #[sv, .int .u64 rg.cpl, .int .u64 rg.off], kv] H fun r H' => ∃ pv, r = .tuple #[pv, I (rkE o rg ks)] ∧ Slx 2 cC H' (fun B => H.length ≤ B) pv (a8j o rg ks) ∧ St Tryz.prog H H' [] := by
 refine Fn.of_sw Tryz.func124 rfl (by kernel_rfl) fun l hl => ?_
 have hn : l.length = 22 := by rw [hl]; rfl
 have g0 : get l 0 = (.agg #[(.string o.name), o.rv, o.dv, o.cv]) := by rw [hl]; rfl
 have g1 : get l 1 = (.agg #[sv, (.int .u64 rg.cpl), (.int .u64 rg.off)]) := by rw [hl]; rfl
 have g2 : get l 2 = kv := by rw [hl]; rfl
 clear hl
 simp (disch := omega) only [↓RA, RB, simprocAttr, g0]
 refine (St.refl Tryz.prog H).eNew 4 [(.string o.name), o.rv, o.dv, o.cv] rfl rfl (by simp [OC, ((St.refl Tryz.prog H).sl ho.1).cells.2.1, ((St.refl Tryz.prog H).sl ho.2.2.1).cells.2.1, ((St.refl Tryz.prog H).sl ho.2.2.2.2.1).cells.2.1]) fW fun A1 H1 hS1 => ?_
 simp only [RT] at hS1
 simp (disch := omega) only [↓RA, RB, simprocAttr, g1]
 refine hS1.eNew 3 [sv, (.int .u64 rg.cpl), (.int .u64 rg.off)] rfl rfl (by simp [OC, (hS1.sl hr.1).cells.2.1]) kD fun A2 H2 hS2 => ?_
 simp only [RT] at hS2
 simp (disch := omega) only [↓RA, RZ, simprocAttr, hn, hS2.ldA 0 rfl, hS2.ldA 1 rfl]
 refine hS2.eSlice [sv, (.int .u64 rg.cpl), (.int .u64 rg.off)] b0L b0B rfl rfl (by first | (simp []; done) | simp [Value.cells]) (by first | (simp []; done) | simp [Value.cells]) (by simp [OC, (hS2.sl hr.1).cells.2.1]) (by decide) (by decide) fun w1 H3 hS3 => ?_
 simp only [RT] at hS3
 simp (disch := omega) only [↓RA, RZ, simprocAttr, hn, g2]
 refine aB (b1t o (ho.keep hS3) w1 [(sv, rg)] (hS3.slo 2 rfl (fun _ => rfl)) (by simp) (by intro p hp; rw [List.mem_singleton.1 hp]; exact hr.keep hS3) kv ks (hk.keep hS3)) ?_
 rintro r H4 ⟨rfl, hT1⟩
 have hS4 := hS3.trans hT1
 simp only [RT] at hS4
 have hsc := a1M o sv rg ks
 simp (disch := omega) only [↓RA, RB, simprocAttr, hn, hsc]
 refine aA (fun h1 => ?_) (fun h1 => ?_)
 ·simp (disch := omega) only [↓RA, RZ, simprocAttr, hn, b5S, hsc, h1]
  exact ⟨.slice none 0 0, rfl, ⟨⟨.inl ⟨rfl, by rw [a8j, if_neg h1]; rfl⟩, cH, by decide⟩, fun b h => by simp [cA] at h⟩, hS4.forget⟩
 have h0 := Classical.not_not.1 h1
 obtain ⟨hz1, hk0⟩ := a2d h0
 obtain ⟨hz3, hz4⟩ := nZ hz1
 have hf := Org.fine hz3
 have h8 : ks.length ≤ 8 := by
  have := hf.dlen
  have := (iX hk0).2.1
  omega
 simp (disch := omega) only [↓RA, RC, simprocAttr, hsc, h1]
 refine Wp.drwT cD [(0, 4), (1, 4)] (by kernel_rfl) (by kernel_rfl) ?_
 simp (disch := omega) only [↓RA, RZ, simprocAttr, hn, g2, hS4.ldA 0 rfl, hS4.ldA 1 rfl]
 refine aB ((yZ (hS4.gl hG) kv ks (hk.keep hS4) h8).tr) ?_
 rintro r H5 ⟨-, hT2⟩
 have hS5 := hS4.trans hT2
 simp only [RT] at hS5
 obtain ⟨pv, rfl⟩ : ∃ w, w = r := ⟨r, rfl⟩
 simp (disch := omega) only [↓RA, RZ, simprocAttr, hn]
 have hSd := hS5
 refine aB (sX o (ho.keep hS5) hf rg sv (hr.keep hS5) pv (bC ks) (hS5.slo 3 rfl cH) (rA hk0) (rJ hk.ok hk0)) ?_
 rintro r H6 ⟨hx, hT3⟩
 have hS6 := hS5.trans hT3
 simp only [RT] at hS6
 obtain ⟨qv, rfl⟩ : ∃ w, w = r := ⟨r, rfl⟩
 simp (disch := omega) only [↓RA, RZ, simprocAttr, hn, hS5.ldA 0 rfl, hS5.ldA 1 rfl, b5S, hx.1.noTup]
 rw [h0]
 refine ⟨qv, rfl, ⟨?_, fun b h => ?_⟩, hS6.forget⟩
 ·rw [a8j, if_pos h0]
  exact hx.1
 ·have := hx.2 b h
  have : H.length ≤ _ := hSd.len
  omega
end Go.Ds
namespace Go.Ds
open Go.Proofs
variable {H : Heap}
set_option maxRecDepth 10000
set_option maxHeartbeats 1000000
theorem a0h (hG : Glob gH H) (o : Org) (ho : o.In H) (kv : Value) (ks : List Nt) (hk : Ks H kv ks) (h0 : iA o ks = 0) :
 Fn Tryz.prog 65 [.agg #[.string o.name, o.rv, o.dv, o.cv], kv] H fun r H' => ∃ cv, r = .tuple #[cv, I 0] ∧ St Tryz.prog H H' [⟨cv, 2, pr (bC ks)⟩] := by
 have h8 : ks.length ≤ 8 := by
  obtain ⟨h1, h2, _⟩ := iX h0
  have := (Org.fine h1).dlen
  omega
 refine Fn.of_sw Tryz.func65 rfl (by kernel_rfl) fun l hl => ?_
 have hn : l.length = 41 := by rw [hl]; rfl
 have g0 : get l 0 = (.agg #[(.string o.name), o.rv, o.dv, o.cv]) := by rw [hl]; rfl
 have g1 : get l 1 = kv := by rw [hl]; rfl
 clear hl
 simp (disch := omega) only [↓RA, RB, simprocAttr, g0]
 refine (St.refl Tryz.prog H).eNew 4 [(.string o.name), o.rv, o.dv, o.cv] rfl rfl (by simp [OC, ((St.refl Tryz.prog H).sl ho.1).cells.2.1, ((St.refl Tryz.prog H).sl ho.2.2.1).cells.2.1, ((St.refl Tryz.prog H).sl ho.2.2.2.2.1).cells.2.1]) fW fun A1 H1 hS1 => ?_
 simp only [RT] at hS1
 simp (disch := omega) only [↓RA, RZ, simprocAttr, hn, g1, hS1.ldA 0 rfl]
 refine aB (a1P o (ho.keep hS1) kv ks (hk.keep hS1)) ?_
 rintro r H2 ⟨rfl, hT1⟩
 have hS2 := hS1.trans hT1
 simp only [RT] at hS2
 rw [h0]
 simp (disch := omega) only [↓RA, RZ, simprocAttr, hn, g1, (hS2.sl hk.sl).len]
 have hS3 := hS2.nil 1
 simp only [RT] at hS3
 refine Wp.loopS (fun n l H' => l.length = 41 ∧ get l 4 = (.slice none 0 0) ∧ get l 5 = I 0 ∧ get l 18 = kv ∧ get l 19 = I ks.length ∧ ∃ (i : Nat) (ov : Value), (n + i = ks.length) ∧ get l 20 = I i ∧ get l 7 = ov ∧ St Tryz.prog H H' [⟨ptr A1 0 4, 0, [(.string o.name), o.rv, o.dv, o.cv]⟩, ⟨ov, 2, pr ((List.range i).flatMap (plD ks))⟩]) ks.length ?_ ?_
 ·simp (disch := omega) only [RB, RC, simprocAttr, hn]
  exact ⟨0, .slice none 0 0, by omega, rfl, rfl, hS3⟩
 rintro n l H3 ⟨hn, g4, g5, g18, g19, i, ov, hi, g20, g7, hS4⟩
 simp (disch := omega) only [↓RA, RB, simprocAttr, hn, g19, g20]
 refine aA (fun q1 => ?_) (fun q1 => ?_)
 ·have hmo := hk.ok _ (aF (xs := ks) (j := i) (by omega))
  have hml := pA (aC ks i)
  have hpl := a6d ks i
  simp (disch := omega) only [↓RA, RZ, simprocAttr, hn, g18, g20, (hS4.sl hk.sl).idx, (hS4.sl hk.sl).ldA, ntc, q1]
  refine hS4.eNew 2 [(.int .u64 0), (.int .u64 0)] rfl rfl rfl eU fun A2 H4 hS5 => ?_
  simp only [RT] at hS5
  simp (disch := omega) only [↓RA, RZ, simprocAttr, hn, q1]
  refine hS5.eStore 2 rfl [(.int .u64 (aC ks i).1), (.int .u64 (aC ks i).2)] rfl rfl eU (by simp) fun H5 hS6 => ?_
  simp only [RT] at hS6
  simp (disch := omega) only [↓RA, RZ, simprocAttr, hn, hS6.ldA 2 rfl, q1]
  refine aB ((uN (hS6.gl hG) (aC ks i) hmo).tr) ?_
  rintro r H6 ⟨-, hT2⟩
  have hS7 := hS6.trans hT2
  simp only [RT] at hS7
  obtain ⟨mw, rfl⟩ : ∃ w, w = r := ⟨r, rfl⟩
  simp (disch := omega) only [↓RA, RZ, simprocAttr, hn, (hS7.slo 3 rfl (fun _ => rfl)).len, q1]
  refine Wp.loopS (fun n l H' => l.length = 41 ∧ get l 4 = (.slice none 0 0) ∧ get l 5 = I 0 ∧ get l 8 = I i ∧ get l 18 = kv ∧ get l 19 = I ks.length ∧ get l 20 = I i ∧ get l 26 = mw ∧ get l 27 = I (eL (aC ks i)).length ∧ ∃ (j : Nat) (ow : Value), (n + j = (eL (aC ks i)).length) ∧ get l 28 = I j ∧ get l 7 = ow ∧ St Tryz.prog H H' [⟨ptr A1 0 4, 0, [(.string o.name), o.rv, o.dv, o.cv]⟩, ⟨ow, 2, pr ((List.range i).flatMap (plD ks) ++ ((eL (aC ks i)).take j).map fun z => ((i : Int), z))⟩, ⟨ptr A2 0 2, 0, [(.int .u64 (aC ks i).1), (.int .u64 (aC ks i).2)]⟩, ⟨mw, 1, (eL (aC ks i)).flatMap (one I)⟩]) (eL (aC ks i)).length ?_ ?_
  ·simp (disch := omega) only [RB, RC, simprocAttr, hn, g4, g5, g18, g19, g20, g7]
   refine ⟨0, ov, by omega, rfl, rfl, ?_⟩
   rw [List.take_zero, List.map_nil, List.append_nil]
   exact hS7
  rintro n l H7 ⟨hn, g4, g5, g8, g18, g19, g20, g26, g27, j, ow, hj, g28, g7, hS8⟩
  simp (disch := omega) only [↓RA, RB, simprocAttr, hn, g27, g28]
  refine aA (fun q2 => ?_) (fun q2 => ?_)
  ·have hroom : (pr ((List.range i).flatMap (plD ks) ++ ((eL (aC ks i)).take j).map fun z => ((i : Int), z))).length ≤ 4000 := by
    rw [aJ, List.length_append, List.length_map, List.length_take]
    omega
   simp (disch := omega) only [↓RA, RZ, simprocAttr, hn, g8, g26, g28, g7, (hS8.slo 3 rfl (fun _ => rfl)).idx, (hS8.slo 3 rfl (fun _ => rfl)).ld, one, lZ, q2]
   refine hS8.eSlice [I i, I (aC (eL (aC ks i)) j)] jR vR rfl rfl (by simp [Value.cells]) rfl rfl (by decide) (by decide) fun w1 H8 hS9 => ?_
   simp only [RT] at hS9
   simp (disch := omega) only [↓RA, RZ, simprocAttr, hn, q2]
   refine hS9.eAppend 1 rfl (hS9.rd 4 rfl) jR (by have h := hroom; simp only [List.length_cons, List.length_nil]; omega) fun w2 H9 hS10 => ?_
   simp only [RT] at hS10
   simp (disch := omega) only [↓RA, RZ, simprocAttr, hn, g4, g5, g8, g18, g19, g20, g26, g27, g28, q2]
   refine ⟨n - 1, by omega, j + 1, w2, by omega, by simp, rfl, ?_⟩
   rw [List.take_add_one, List.getElem?_eq_getElem (by omega), Option.toList_some, List.map_append, ← List.append_assoc, bW]
   rw [show (eL (aC ks i))[j] = aC (eL (aC ks i)) j from (bV _ _ (by omega)).symm]
   exact hS10.pick [0, 1, 2, 3] (by decide) rfl
  simp (disch := omega) only [↓RA, RZ, simprocAttr, hn, g4, g5, g18, g19, g20, g7, q2]
  have hjj : j = (eL (aC ks i)).length := by omega
  refine ⟨ks.length - (i + 1), by omega, i + 1, ow, by omega, by simp, rfl, ?_⟩
  rw [List.range_succ, List.flatMap_append, List.flatMap_cons, List.flatMap_nil, List.append_nil]
  rw [show plD ks i = ((eL (aC ks i)).take j).map (fun z => ((i : Int), z)) from by rw [hjj, List.take_length]; rfl]
  exact hS8.pick [0, 1] (by decide) rfl
 have hii : i = ks.length := by omega
 have hnt := (hS4.slo (cel := cC) 1 rfl cH).noTup
 simp (disch := omega) only [↓RA, RZ, simprocAttr, hn, g7, c4l, q1, hnt]
 have hfin := hS4.pick (os' := [⟨ov, 2, pr ((List.range i).flatMap (plD ks))⟩]) [1] (by decide) rfl
 rw [hii] at hfin
 exact ⟨ov, rfl, hfin⟩
end Go.Ds
namespace Go.Ds
open Go.Proofs
variable {H : Heap}
set_option maxRecDepth 10000
set_option maxHeartbeats 1000000
def uT (lo : Int) (w m : Nat) : List Int := ((List.range m).filter fun j => w.testBit j).map fun (j : Nat) => lo + (j : Int)
def nM (lo hi : Int) : Nat := min 16 (hi - lo + 1).toNat
def qP (o : Org) (b : Nat → Nat) (i : Nat) : Nt := bD (uT (aC o.dvs i).lo (b (i % 3)) (nM (aC o.dvs i).lo (aC o.dvs i).hi))
def gO (o : Org) (b : Nat → Nat) : List Nt := (List.range o.dvs.length).map (qP o b)
theorem b7Q (a b : Nat) (h : a < 65536) : ((a : Nat) : Int).fdiv (2 ^ min b (IntKind.bits .u16)) = ((a >>> b : Nat) : Int) := by
 have e : IntKind.bits .u16 = 16 := rfl
 rw [e]
 have h1 : ((a : Nat) : Int).fdiv (2 ^ min b 16) = ((a / 2 ^ min b 16 : Nat) : Int) := by
  rw [Int.fdiv_eq_ediv_of_nonneg _ (by exact Int.le_of_lt (Int.pow_pos (by decide)))]
  simp
 rw [h1, Nat.shiftRight_eq_div_pow]
 by_cases hb : b ≤ 16
 ·rw [Nat.min_eq_left hb]
 ·rw [Nat.min_eq_right (by omega)]
  have h2 : a / 2 ^ 16 = 0 := Nat.div_eq_of_lt (by simpa using h)
  have h3 : a / 2 ^ b = 0 := Nat.div_eq_of_lt (Nat.lt_of_lt_of_le (by simpa using h) (Nat.pow_le_pow_right (by decide) (show 16 ≤ b by omega)))
  rw [h2, h3]
theorem b4S (n : Nat) (h : n < 65536) : IntKind.wrap .u16 ((BitVec.ofInt (IntKind.bits .u16) (n : Int) &&& BitVec.ofInt (IntKind.bits .u16) 1).toNat : Int) = ((n % 2 : Nat) : Int) := by
 have e : (BitVec.ofInt (IntKind.bits .u16) (n : Int) &&& BitVec.ofInt (IntKind.bits .u16) 1).toNat = n % 2 := by
  show (BitVec.ofInt 16 (n : Int) &&& BitVec.ofInt 16 1).toNat = n % 2
  rw [BitVec.toNat_and]
  have h1 : (BitVec.ofInt 16 (n : Int)).toNat = n := by
   rw [BitVec.ofInt_natCast, BitVec.toNat_ofNat]
   exact Nat.mod_eq_of_lt (by simpa using h)
  have h2 : (BitVec.ofInt 16 1).toNat = 1 := rfl
  rw [h1, h2, Nat.and_one_is_mod]
 rw [e]
 have : n % 2 < 2 := Nat.mod_lt _ (by decide)
 have hh : n % 2 = 0 ∨ n % 2 = 1 := by omega
 rcases hh with h | h <;> rw [h] <;> rfl
theorem b1l {a : Nat} (b : Nat) (h : a < 65536) : a >>> b < 65536 := by
 rw [Nat.shiftRight_eq_div_pow]
 exact Nat.lt_of_le_of_lt (Nat.div_le_self _ _) h
theorem a9b (lo : Int) (w m : Nat) : uT lo w (m + 1) = uT lo w m ++ (if w.testBit m then [lo + (m : Int)] else []) := by
 unfold uT
 rw [List.range_succ, List.filter_append, List.map_append]
 congr 1
 cases h : w.testBit m <;> simp [h]
theorem b1e (lo : Int) (w m : Nat) : (uT lo w m).length ≤ m := by
 unfold uT
 rw [List.length_map]
 exact Nat.le_trans (List.length_filter_le _ _) (by simp)
theorem b2E (lo hi : Int) : nM lo hi ≤ 16 := Nat.min_le_left _ _
theorem mI {o : Org} (hf : o.Fine) (w : Nat) {i : Nat} (hi : i < o.dvs.length) : ∀ z ∈ uT (aC o.dvs i).lo w (nM (aC o.dvs i).lo (aC o.dvs i).hi), isN z ∧ (aC o.dvs i).lo ≤ z ∧ z ≤ (aC o.dvs i).hi := by
 intro z hz
 have hk := hf.keys i hi
 unfold uT nM at hz
 obtain ⟨j, hj, rfl⟩ := List.mem_map.1 hz
 have hj := List.mem_range.1 (List.mem_filter.1 hj).1
 exact ⟨⟨by omega, by omega⟩, by omega, by omega⟩
theorem a5b (o : Org) (ho : o.In H) (hf : o.Fine) (b : Nat → Nat) (hb : ∀ i, b i < 65536) :
 Fn Tryz.prog 57 [.agg #[.string o.name, o.rv, o.dv, o.cv], .agg #[.int .u16 (b 0), .int .u16 (b 1), .int .u16 (b 2)]] H fun r H' =>
  St Tryz.prog H H' [⟨r, 2, (gO o b).flatMap ntc⟩] := by
 have hd8 := hf.dlen
 refine Fn.of_sw Tryz.func57 rfl (by kernel_rfl) fun l hl => ?_
 have hn : l.length = 66 := by rw [hl]; rfl
 have g0 : get l 0 = (.agg #[(.string o.name), o.rv, o.dv, o.cv]) := by rw [hl]; rfl
 have g1 : get l 1 = (.agg #[(.int .u16 (b 0)), (.int .u16 (b 1)), (.int .u16 (b 2))]) := by rw [hl]; rfl
 clear hl
 simp (disch := omega) only [↓RA, RB, simprocAttr, g0]
 refine (St.refl Tryz.prog H).eNew 4 [(.string o.name), o.rv, o.dv, o.cv] rfl rfl (by simp [OC, ((St.refl Tryz.prog H).sl ho.1).cells.2.1, ((St.refl Tryz.prog H).sl ho.2.2.1).cells.2.1, ((St.refl Tryz.prog H).sl ho.2.2.2.2.1).cells.2.1]) fW fun A1 H1 hS1 => ?_
 simp only [RT] at hS1
 simp (disch := omega) only [↓RA, RB, simprocAttr, g1]
 refine hS1.eNew 3 [(.int .u16 (b 0)), (.int .u16 (b 1)), (.int .u16 (b 2))] rfl rfl rfl b1Y fun A2 H2 hS2 => ?_
 simp only [RT] at hS2
 simp (disch := omega) only [↓RA, RB, simprocAttr]
 have hS3 := hS2.nil 1
 simp only [RT] at hS3
 refine Wp.loopS (fun n l H' => l.length = 66 ∧ get l 2 = (ptr A1 0 4) ∧ get l 3 = (ptr A2 0 3) ∧ get l 4 = (.slice none 0 0) ∧ ∃ (i : Nat) (kv : Value), (n + i = o.dvs.length) ∧ get l 6 = I i ∧ get l 5 = kv ∧ St Tryz.prog H H' [⟨ptr A1 0 4, 0, [(.string o.name), o.rv, o.dv, o.cv]⟩, ⟨ptr A2 0 3, 0, [(.int .u16 (b 0)), (.int .u16 (b 1)), (.int .u16 (b 2))]⟩, ⟨kv, 2, ((List.range i).map (qP o b)).flatMap ntc⟩]) o.dvs.length ?_ ?_
 ·simp (disch := omega) only [RB, RC, simprocAttr, hn]
  exact ⟨0, .slice none 0 0, by omega, rfl, rfl, hS3⟩
 rintro n l H3 ⟨hn, g2, g3, g4, i, kv, hi, g6, g5, hS4⟩
 simp (disch := omega) only [↓RA, RZ, simprocAttr, hn, g2, g6, hS4.ld 0 rfl, (hS4.sl ho.2.2.1).len]
 refine aA (fun q => ?_) (fun q => ?_)
 ·have hk := hf.keys i (by omega)
  simp (disch := omega) only [↓RA, RZ, simprocAttr, hn, g2, g6, hS4.ld 0 rfl, (hS4.sl ho.2.2.1).idx, (hS4.sl ho.2.2.1).fld, (hS4.sl ho.2.2.1).ldP 2, Dvn.cells, q]
  refine hS4.eNew 2 [I 0, I 0] rfl rfl rfl tF fun A3 H4 hS5 => ?_
  simp only [RT] at hS5
  simp (disch := omega) only [↓RA, RZ, simprocAttr, hn, q]
  refine hS5.eStore 3 rfl [I (aC o.dvs i).lo, I (aC o.dvs i).hi] rfl rfl tF (by simp) fun H5 hS6 => ?_
  simp only [RT] at hS6
  simp (disch := omega) only [↓RA, RZ, simprocAttr, hn, hS6.ld 3 rfl, q]
  have hS7 := hS6.nil 0
  simp only [RT] at hS7
  refine Wp.loopS (fun n l H' => l.length = 66 ∧ get l 2 = (ptr A1 0 4) ∧ get l 3 = (ptr A2 0 3) ∧ get l 4 = (.slice none 0 0) ∧ get l 5 = kv ∧ get l 6 = I i ∧ get l 8 = (ptr A3 0 2) ∧ ∃ (m : Nat) (lv : Value), (n + m = nM (aC o.dvs i).lo (aC o.dvs i).hi) ∧ get l 9 = I ((aC o.dvs i).lo + m) ∧ get l 7 = lv ∧ St Tryz.prog H H' [⟨ptr A1 0 4, 0, [(.string o.name), o.rv, o.dv, o.cv]⟩, ⟨ptr A2 0 3, 0, [(.int .u16 (b 0)), (.int .u16 (b 1)), (.int .u16 (b 2))]⟩, ⟨kv, 2, ((List.range i).map (qP o b)).flatMap ntc⟩, ⟨ptr A3 0 2, 0, [I (aC o.dvs i).lo, I (aC o.dvs i).hi]⟩, ⟨lv, 1, (uT (aC o.dvs i).lo (b (i % 3)) m).flatMap (one I)⟩]) (nM (aC o.dvs i).lo (aC o.dvs i).hi) ?_ ?_
  ·simp (disch := omega) only [RB, RC, simprocAttr, hn, g2, g3, g4, g6, g5]
   exact ⟨0, .slice none 0 0, by omega, by simp, rfl, hS7⟩
  rintro n l H6 ⟨hn, g2, g3, g4, g5, g6, g8, m, lv, hm, g9, g7, hS8⟩
  simp (disch := omega) only [↓RA, RZ, simprocAttr, hn, g8, g9, hS8.ld 3 rfl]
  have hM := b2E (aC o.dvs i).lo (aC o.dvs i).hi
  have hi3 : (i : Int).tmod 3 = ((i % 3 : Nat) : Int) := (Int.ofNat_tmod i 3).symm
  have hw : ([Value.int .u16 (b 0), .int .u16 (b 1), .int .u16 (b 2)] : List Value)[i % 3]? = some (.int .u16 (b (i % 3))) := by
   have : i % 3 = 0 ∨ i % 3 = 1 ∨ i % 3 = 2 := by omega
   rcases this with e | e | e <;> rw [e] <;> rfl
  have hsub : (aC o.dvs i).lo + (m : Int) - (aC o.dvs i).lo = (m : Int) := by omega
  have e1 := b7Q (b (i % 3)) m (hb _)
  have e2 := b4S (b (i % 3) >>> m) (b1l m (hb _))
  have e3 := tb (b (i % 3)) m
  have hsu := a9b (aC o.dvs i).lo (b (i % 3)) m
  have hpl := b1e (aC o.dvs i).lo (b (i % 3)) m
  refine cK (fun q1 => ?_) (fun q1 => ?_)
  ·simp (disch := omega) only [↓RA, RZ, simprocAttr, hn, g8, g9, hS8.ld 3 rfl, q1]
   refine aA (fun q2 => ?_) (fun q2 => ?_)
   ·skip
    simp (disch := omega) only [↓RA, RC, simprocAttr, q1, q2]
    refine Wp.drw cD (by kernel_rfl) ?_
    simp (disch := omega) only [↓RA, RZ, simprocAttr, hn, g3, g6, g8, g9, hS8.ld 1 rfl, hw, hS8.ld 3 rfl, hi3, hsub, e1, e2]
    refine aA (fun q3 => ?_) (fun q3 => ?_)
    ·rw [e3, decide_eq_true (by omega), if_pos rfl] at hsu
     simp (disch := omega) only [↓RA, RZ, simprocAttr, hn, g9, g7, q3]
     refine hS8.eSlice [I ((aC o.dvs i).lo + m)] wX a2G rfl rfl (by simp [Value.cells]) rfl rfl (by decide) (by decide) fun w1 H7 hS9 => ?_
     simp only [RT] at hS9
     simp (disch := omega) only [↓RA, RZ, simprocAttr, hn, q3]
     refine hS9.eAppend 4 rfl (hS9.rd 5 rfl) wX (by rw [aR (n := 1) (cel := one I) (fun _ => rfl)]; simp; omega) fun w2 H8 hS10 => ?_
     simp only [RT] at hS10
     simp (disch := omega) only [↓RA, RZ, simprocAttr, hn, g2, g3, g4, g5, g6, g8, g9, q3]
     refine ⟨n - 1, by unfold nM at hm; omega, m + 1, w2, by unfold nM at hm ⊢; omega, by simp; omega, rfl, ?_⟩
     rw [hsu, List.flatMap_append]
     exact hS10.pick [0, 1, 2, 3, 4] (by decide) rfl
    rw [e3, decide_eq_false (by omega), if_neg (by simp), List.append_nil] at hsu
    simp (disch := omega) only [↓RA, RZ, simprocAttr, hn, g2, g3, g4, g5, g6, g8, g9, g7, q3]
    refine ⟨n - 1, by unfold nM at hm; omega, m + 1, lv, by unfold nM at hm ⊢; omega, by simp; omega, rfl, ?_⟩
    rw [hsu]
    exact hS8.pick [0, 1, 2, 3, 4] (by decide) rfl
   have hmM : m = nM (aC o.dvs i).lo (aC o.dvs i).hi := by unfold nM at hm hM ⊢; omega
   have hz := mI hf (b (i % 3)) (show i < o.dvs.length by omega)
   subst hmM
   simp (disch := omega) only [↓RA, RZ, simprocAttr, hn, g7, q1, q2]
   refine aB (oP (uT (aC o.dvs i).lo (b (i % 3)) (nM (aC o.dvs i).lo (aC o.dvs i).hi)) (fun z h => (hz z h).1) lv (hS8.slo 4 rfl (kH _)) (by omega)) ?_
   rintro r H9 ⟨rfl, hT1⟩
   have hS11 := hS8.trans hT1
   simp only [RT] at hS11
   simp (disch := omega) only [↓RA, RZ, simprocAttr, hn, q1, q2]
   refine hS11.eNew 2 [(.int .u64 0), (.int .u64 0)] rfl rfl rfl eU fun A4 H10 hS12 => ?_
   simp only [RT] at hS12
   simp (disch := omega) only [↓RA, RZ, simprocAttr, hn, q1, q2]
   refine hS12.eStore 5 rfl [(.int .u64 (qP o b i).1), (.int .u64 (qP o b i).2)] rfl rfl eU (by simp) fun H11 hS13 => ?_
   simp only [RT] at hS13
   simp (disch := omega) only [↓RA, RZ, simprocAttr, hn, g5, hS13.ldA 5 rfl, q1, q2]
   refine hS13.eSlice [(.int .u64 (qP o b i).1), (.int .u64 (qP o b i).2)] a2q b0z rfl rfl (by simp [Value.cells]) rfl rfl (by decide) (by decide) fun w3 H12 hS14 => ?_
   simp only [RT] at hS14
   simp (disch := omega) only [↓RA, RZ, simprocAttr, hn, q1, q2]
   refine hS14.eAppend 2 rfl (hS14.rd 6 rfl) a2q (by rw [aR (n := 2) (cel := ntc) (fun _ => rfl)]; simp; omega) fun w4 H13 hS15 => ?_
   simp only [RT] at hS15
   simp (disch := omega) only [↓RA, RZ, simprocAttr, hn, g2, g3, g4, g6, q1, q2]
   refine ⟨o.dvs.length - (i + 1), by omega, i + 1, w4, by omega, by simp, rfl, ?_⟩
   rw [List.range_succ, List.map_append, List.flatMap_append]
   exact hS15.pick [0, 1, 2] (by decide) rfl
  have hmM : m = nM (aC o.dvs i).lo (aC o.dvs i).hi := by unfold nM at hm hM ⊢; omega
  have hz := mI hf (b (i % 3)) (show i < o.dvs.length by omega)
  subst hmM
  simp (disch := omega) only [↓RA, RZ, simprocAttr, hn, g7, q1]
  refine aB (oP (uT (aC o.dvs i).lo (b (i % 3)) (nM (aC o.dvs i).lo (aC o.dvs i).hi)) (fun z h => (hz z h).1) lv (hS8.slo 4 rfl (kH _)) (by omega)) ?_
  rintro r H14 ⟨rfl, hT2⟩
  have hS16 := hS8.trans hT2
  simp only [RT] at hS16
  simp (disch := omega) only [↓RA, RZ, simprocAttr, hn, q1]
  refine hS16.eNew 2 [(.int .u64 0), (.int .u64 0)] rfl rfl rfl eU fun A5 H15 hS17 => ?_
  simp only [RT] at hS17
  simp (disch := omega) only [↓RA, RZ, simprocAttr, hn, q1]
  refine hS17.eStore 5 rfl [(.int .u64 (qP o b i).1), (.int .u64 (qP o b i).2)] rfl rfl eU (by simp) fun H16 hS18 => ?_
  simp only [RT] at hS18
  simp (disch := omega) only [↓RA, RZ, simprocAttr, hn, g5, hS18.ldA 5 rfl, q1]
  refine hS18.eSlice [(.int .u64 (qP o b i).1), (.int .u64 (qP o b i).2)] a2q b0z rfl rfl (by simp [Value.cells]) rfl rfl (by decide) (by decide) fun w5 H17 hS19 => ?_
  simp only [RT] at hS19
  simp (disch := omega) only [↓RA, RZ, simprocAttr, hn, q1]
  refine hS19.eAppend 2 rfl (hS19.rd 6 rfl) a2q (by rw [aR (n := 2) (cel := ntc) (fun _ => rfl)]; simp; omega) fun w6 H18 hS20 => ?_
  simp only [RT] at hS20
  simp (disch := omega) only [↓RA, RZ, simprocAttr, hn, g2, g3, g4, g6, q1]
  refine ⟨o.dvs.length - (i + 1), by omega, i + 1, w6, by omega, by simp, rfl, ?_⟩
  rw [List.range_succ, List.map_append, List.flatMap_append]
  exact hS20.pick [0, 1, 2] (by decide) rfl
 simp (disch := omega) only [↓RA, RZ, simprocAttr, hn, g5, c3e, q]
 have hii : i = o.dvs.length := by omega
 subst hii
 exact hS4.pick [2] (by decide) rfl
theorem kS (o : Org) (b : Nat → Nat) : (gO o b).length = o.dvs.length := by simp [gO]
theorem a0A {o : Org} {b : Nat → Nat} {i : Nat} (hi : i < o.dvs.length) : aC (gO o b) i = qP o b i := by
 rw [bV _ i (by rw [kS]; exact hi)]
 simp [gO]
theorem a6o {o : Org} (hf : o.Fine) (b : Nat → Nat) {i : Nat} (hi : i < o.dvs.length) : Nt.Ok (qP o b i) := mZ _ _ (fun z h => (mI hf (b (i % 3)) hi z h).1) ⟨by decide, by decide⟩
theorem a2W {o : Org} (hf : o.Fine) (b : Nat → Nat) : ∀ x ∈ gO o b, Nt.Ok x := by
 intro x hx
 obtain ⟨i, hi, rfl⟩ := List.mem_map.1 hx
 exact a6o hf b (List.mem_range.1 hi)
theorem b0K {x y : Nt} (hx : Nt.Ok x) (h : ∀ z, isN z → iQ x z = true → iQ y z = true) : woF x y = (0, 0) := by
 have k : ∀ z, isN z → iQ (woF x y) z = false := fun z hz => by
  rw [a6I hx hz]
  cases e : iQ x z with
  | false => rfl
  | true => rw [h z hz e]; rfl
 have big : ∀ a : Nat, a < 18446744073709551616 → ∀ j, 64 ≤ j → a.testBit j = false := fun a ha j hj =>
  Nat.testBit_lt_two_pow (Nat.lt_of_lt_of_le (show a < 2 ^ 64 from ha) (Nat.pow_le_pow_right (by decide) hj))
 obtain ⟨h1, h2⟩ := b8E x y
 apply Prod.ext
 ·apply Nat.eq_of_testBit_eq
  intro j
  rw [Nat.zero_testBit]
  by_cases hj : 64 ≤ j
  ·exact big _ h1 j hj
  ·have := k (j : Int) ⟨by omega, by omega⟩
   unfold iQ at this
   rw [if_pos (by omega)] at this
   exact this
 ·apply Nat.eq_of_testBit_eq
  intro j
  rw [Nat.zero_testBit]
  by_cases hj : 64 ≤ j
  ·exact big _ h2 j hj
  ·have := k (64 + j : Int) ⟨by omega, by omega⟩
   unfold iQ at this
   rw [if_neg (by omega), show (64 + (j : Int) - 64).toNat = j by omega] at this
   exact this
theorem a4i {o : Org} (h0 : organE o = 0) (b : Nat → Nat) : iA o (gO o b) = 0 := by
 have hf := Org.fine h0
 unfold iA
 rw [if_neg (by rw [h0]; simp), if_neg (by rw [kS]; simp), if_neg]
 rintro ⟨j, hj, hne⟩
 apply hne
 have hk := hf.keys j hj
 rw [a0A hj]
 refine b0K (a6o hf b hj) fun z hz hh => ?_
 rw [qP, wQ (fun n hn => (mI hf (b (j % 3)) hj n hn).1) hz] at hh
 have := mI hf (b (j % 3)) hj z (of_decide_eq_true hh)
 rw [a2u hk.1 hk.2.2 hz, decide_eq_true this.2.1, decide_eq_true this.2.2]
 rfl
end Go.Ds
namespace Go.Ds
open Go.Proofs
set_option maxRecDepth 10000
def ltP (x y : Int × Int) : Prop := x.1 < y.1 ∨ (x.1 = y.1 ∧ x.2 < y.2)
theorem a0T {x : Int × Int} : ¬ ltP x x := by unfold ltP; omega
theorem a7w {x y z : Int × Int} (h : ltP x y) (k : ltP y z) : ltP x z := by unfold ltP at *; omega
theorem zQ : ∀ (l m : List (Int × Int)), l.Pairwise ltP → m.Pairwise ltP → (∀ x, x ∈ l ↔ x ∈ m) → l = m
 | [], [], _, _, _ => rfl
 | [], b :: m, _, _, h => absurd ((h b).2 (List.mem_cons_self ..)) List.not_mem_nil
 | a :: l, [], _, _, h => absurd ((h a).1 (List.mem_cons_self ..)) List.not_mem_nil
 | a :: l, b :: m, hl, hm, h => by
   rw [List.pairwise_cons] at hl hm
   have hab : a = b := by
    rcases List.mem_cons.1 ((h a).1 (List.mem_cons_self ..)) with e | e
    ·exact e
    ·rcases List.mem_cons.1 ((h b).2 (List.mem_cons_self ..)) with e2 | e2
     ·exact e2.symm
     ·exact absurd (a7w (hm.1 a e) (hl.1 b e2)) a0T
   subst hab
   congr 1
   refine zQ l m hl.2 hm.2 fun x => ?_
   constructor
   ·intro hx
    rcases List.mem_cons.1 ((h x).1 (List.mem_cons_of_mem _ hx)) with e | e
    ·subst e
     exact absurd (hl.1 x hx) a0T
    ·exact e
   ·intro hx
    rcases List.mem_cons.1 ((h x).2 (List.mem_cons_of_mem _ hx)) with e | e
    ·subst e
     exact absurd (hm.1 x hx) a0T
    ·exact e
theorem b2a {es : List (Int × Int)} (h : es.Pairwise fun a b => tV a b = true) {i j : Nat} (hij : i < j) (hj : j < es.length) : tV (aC es i) (aC es j) = true := by
 rw [bV _ _ (by omega), bV _ _ hj]
 exact List.pairwise_iff_getElem.1 h i j (by omega) hj hij
theorem a5g {es : List (Int × Int)} (h : es.Pairwise fun a b => tV a b = true) : ∀ m, m ≤ es.length → (pC es m).Pairwise ltP ∧ ∀ x, x ∈ pC es m ↔ ∃ j, j < m ∧ aC es j = x
 | 0, _ => ⟨by simp [pC], fun x => by simp [pC]⟩
 | m + 1, hm => by
   obtain ⟨h1, h2⟩ := a5g h m (by omega)
   rw [kA]
   by_cases hc : m = 0 ∨ aC es m ≠ aC es (m - 1)
   ·rw [if_pos hc]
    refine ⟨?_, fun x => ?_⟩
    ·rw [List.pairwise_append]
     refine ⟨h1, by simp, fun a ha b hb => ?_⟩
     obtain ⟨j, hj, rfl⟩ := (h2 a).1 ha
     obtain rfl := List.mem_singleton.1 hb
     have h3 := (fM _ _).1 (b2a h hj (by omega))
     rcases hc with hc | hc
     ·omega
     ·by_cases he : j = m - 1
      ·subst he
       have hne : ¬ (aC es (m - 1) = aC es m) := fun e => hc e.symm
       rw [Prod.ext_iff] at hne
       unfold ltP
       omega
      ·have h4 := (fM _ _).1 (b2a h (show j < m - 1 by omega) (by omega))
       have h5 := (fM _ _).1 (b2a h (show m - 1 < m by omega) (by omega))
       have hne : ¬ (aC es (m - 1) = aC es m) := fun e => hc e.symm
       rw [Prod.ext_iff] at hne
       unfold ltP
       omega
    ·rw [List.mem_append, h2, List.mem_singleton]
     constructor
     ·rintro (⟨j, hj, e⟩ | e)
      ·exact ⟨j, by omega, e⟩
      ·exact ⟨m, by omega, e.symm⟩
     ·rintro ⟨j, hj, e⟩
      rcases Nat.lt_succ_iff_lt_or_eq.1 hj with e2 | e2
      ·exact .inl ⟨j, e2, e⟩
      ·subst e2
       exact .inr e.symm
   ·rw [if_neg hc, List.append_nil]
    refine ⟨h1, fun x => ?_⟩
    rw [h2]
    constructor
    ·rintro ⟨j, hj, e⟩
     exact ⟨j, by omega, e⟩
    ·rintro ⟨j, hj, e⟩
     rcases Nat.lt_succ_iff_lt_or_eq.1 hj with e2 | e2
     ·exact ⟨j, e2, e⟩
     ·subst e2
      have hc' : ¬ (j = 0) ∧ aC es j = aC es (j - 1) := ⟨fun e => hc (.inl e), Classical.byContradiction fun e => hc (.inr e)⟩
      exact ⟨j - 1, by omega, by rw [← hc'.2]; exact e⟩
theorem b0Y (l : List (Int × Int)) : (dd (mN l)).Pairwise ltP := (a5g (nX l) _ (Nat.le_refl _)).1
theorem pB {l : List (Int × Int)} {x : Int × Int} : x ∈ dd (mN l) ↔ x ∈ l := by
 unfold dd
 rw [(a5g (nX l) _ (Nat.le_refl _)).2 x, ← (gA l).mem_iff]
 constructor
 ·rintro ⟨j, hj, rfl⟩
  exact aF hj
 ·intro hx
  obtain ⟨j, hj, e⟩ := List.mem_iff_getElem.1 hx
  exact ⟨j, hj, by rw [bV _ _ hj]; exact e⟩
def a1g (o : Org) (cp : Nat) (thr : Bool) (c x : Ct) : Prop := ∃ i, i < o.cpls.length ∧ oK cp thr c (aC o.cpls i) i = true ∧ gZ o (to1 (aC o.cpls i) c) = true ∧ x = to1 (aC o.cpls i) c
theorem zL {o : Org} {cp : Nat} {thr : Bool} {c x : Ct} {q : List Ct} : ∀ n, x ∈ stepN o cp thr c q n ↔ x ∈ q ∨ ∃ i, i < n ∧ oK cp thr c (aC o.cpls i) i = true ∧ gZ o (to1 (aC o.cpls i) c) = true ∧ x = to1 (aC o.cpls i) c
 | 0 => by
   unfold stepN
   simp
 | n + 1 => by
   rw [dS]
   have ih := zL (o := o) (cp := cp) (thr := thr) (c := c) (x := x) (q := q) n
   have hs : x ∈ step1 o cp thr c (stepN o cp thr c q n) n ↔ x ∈ stepN o cp thr c q n ∨ (oK cp thr c (aC o.cpls n) n = true ∧ gZ o (to1 (aC o.cpls n) c) = true ∧ x = to1 (aC o.cpls n) c) := by
    unfold step1
    split
    ·rename_i hh
     simp only [Bool.and_eq_true] at hh
     rw [List.mem_append, List.mem_singleton]
     constructor
     ·rintro (h | h)
      ·exact .inl h
      ·exact .inr ⟨hh.1.1, hh.1.2, h⟩
     ·rintro (h | ⟨_, _, h⟩)
      ·exact .inl h
      ·exact .inr h
    ·rename_i hh
     simp only [Bool.and_eq_true, Bool.not_eq_true', decide_eq_false_iff_not, not_and, Classical.not_not] at hh
     constructor
     ·exact fun h => .inl h
     ·rintro (h | ⟨h1, h2, h3⟩)
      ·exact h
      ·rw [h3]
       exact hh ⟨h1, h2⟩
   rw [hs, ih]
   constructor
   ·rintro ((h | ⟨i, hi, h⟩) | h)
    ·exact .inl h
    ·exact .inr ⟨i, by omega, h⟩
    ·exact .inr ⟨n, by omega, h⟩
   ·rintro (h | ⟨i, hi, h⟩)
    ·exact .inl (.inl h)
    ·rcases Nat.lt_succ_iff_lt_or_eq.1 hi with e | e
     ·exact .inl (.inr ⟨i, e, h⟩)
     ·subst e
      exact .inr h
theorem jQ {o : Org} {cp : Nat} {thr : Bool} {c x : Ct} {q : List Ct} : x ∈ stepF o cp thr c q ↔ x ∈ q ∨ a1g o cp thr c x := zL _
end Go.Ds
namespace Go.Ds
open Go.Proofs
set_option maxRecDepth 10000
inductive Star {α : Type} (R : α → α → Prop) : α → α → Prop
 | refl (a : α) : Star R a a
 | tail {a b c : α} : Star R a b → R b c → Star R a c
theorem Star.stay {α : Type} {R : α → α → Prop} {p : α → Prop} (hc : ∀ a, p a → ∀ b, R a b → p b) {a b : α} (ha : p a) (h : Star R a b) : p b := by
 induction h with
 | refl => exact ha
 | tail _ h2 ih => exact hc _ ih _ h2
theorem uL {o : Org} {cp : Nat} {l : List Ct} {x : Ct} : x ∈ dX o cp l ↔ ∃ c, c ∈ l ∧ a1g o cp false c x := by
 unfold dX
 have h : ∀ (l : List Ct) (q : List Ct), x ∈ l.foldl (fun q c => stepF o cp false c q) q ↔ x ∈ q ∨ ∃ c, c ∈ l ∧ a1g o cp false c x := by
  intro l
  induction l with
  | nil => intro q; simp
  | cons a l ih =>
    intro q
    rw [List.foldl_cons, ih, jQ]
    constructor
    ·rintro ((h | h) | ⟨c, hc, h⟩)
     ·exact .inl h
     ·exact .inr ⟨a, List.mem_cons_self .., h⟩
     ·exact .inr ⟨c, List.mem_cons_of_mem _ hc, h⟩
    ·rintro (h | ⟨c, hc, h⟩)
     ·exact .inl (.inl h)
     ·rcases List.mem_cons.1 hc with e | e
      ·subst e
       exact .inl (.inr h)
      ·exact .inr ⟨c, e, h⟩
 rw [h]
 simp
theorem yI {o : Org} {cp : Nat} {thr : Bool} {c : Ct} {q : List Ct} : ∀ n, ∃ t, stepN o cp thr c q n = q ++ t
 | 0 => ⟨[], by simp [stepN]⟩
 | n + 1 => by
   obtain ⟨t, ht⟩ := yI (o := o) (cp := cp) (thr := thr) (c := c) (q := q) n
   rw [dS, ht]
   unfold step1
   split
   ·exact ⟨t ++ [to1 (aC o.cpls n) c], by rw [List.append_assoc]⟩
   ·exact ⟨t, rfl⟩
theorem a3g {α : Type} [Inhabited α] (q t : List α) {j : Nat} (h : j < q.length) : aC (q ++ t) j = aC q j := by
 rw [bV _ _ (by simp; omega), bV _ _ h, List.getElem_append_left h]
theorem a6s {o : Org} (hf : o.Fine) (cp : Nat) : ∀ (n i : Nat) (q : List Ct), Que o q → 1025 ≤ n + i → (∀ j, j < i → j < q.length → ∀ y, a1g o cp true (aC q j) y → y ∈ q) →
 ∀ x, x ∈ bfs o cp n i q ↔ ∃ a, a ∈ q ∧ Star (a1g o cp true) a x
 | 0, i, q, hq, hn, hc, x => by
   have hl := hq.len hf
   have hcl : ∀ a, a ∈ q → ∀ y, a1g o cp true a y → y ∈ q := fun a ha y hy => by
    obtain ⟨j, hj, e⟩ := List.mem_iff_getElem.1 ha
    exact hc j (by omega) hj y (by rw [bV _ _ hj, e]; exact hy)
   unfold bfs
   exact ⟨fun h => ⟨x, h, .refl x⟩, fun ⟨a, ha, hs⟩ => hs.stay hcl ha⟩
 | n + 1, i, q, hq, hn, hc, x => by
   rw [bfs]
   split
   ·rename_i hi
    obtain ⟨t, ht⟩ := yI (o := o) (cp := cp) (thr := true) (c := aC q i) (q := q) o.cpls.length
    have ht : stepF o cp true (aC q i) q = q ++ t := ht
    rw [a6s hf cp n (i + 1) _ (hq.stepF cp true _) (by omega) (fun j hj hjl y hy => ?_)]
    ·constructor
     ·rintro ⟨a, ha, hs⟩
      rcases jQ.1 ha with h | h
      ·exact ⟨a, h, hs⟩
      ·refine ⟨aC q i, aF hi, ?_⟩
       clear ha
       induction hs with
       | refl => exact .tail (.refl _) h
       | tail _ h2 ih => exact .tail ih h2
     ·rintro ⟨a, ha, hs⟩
      exact ⟨a, jQ.2 (.inl ha), hs⟩
    ·rcases Nat.lt_succ_iff_lt_or_eq.1 hj with e | e
     ·rw [ht, a3g _ _ (by omega)] at hy
      exact jQ.2 (.inl (hc j e (by omega) y hy))
     ·subst e
      rw [ht, a3g _ _ hi] at hy
      exact jQ.2 (.inr hy)
   ·rename_i hi
    have hcl : ∀ a, a ∈ q → ∀ y, a1g o cp true a y → y ∈ q := fun a ha y hy => by
     obtain ⟨j, hj, e⟩ := List.mem_iff_getElem.1 ha
     exact hc j (by omega) hj y (by rw [bV _ _ hj, e]; exact hy)
    exact ⟨fun h => ⟨x, h, .refl x⟩, fun ⟨a, ha, hs⟩ => hs.stay hcl ha⟩
def Snd (o : Org) (r : Reg) (c x : Ct) : Prop := (x = c ∧ r.off.testBit c.1.toNat = false) ∨ ∃ a, a1g o r.cpl false c a ∧ Star (a1g o r.cpl true) a x
theorem a4J (o : Org) (cp : Nat) (l : List Ct) : Que o (dX o cp l) := by
 unfold dX
 have h : ∀ (l : List Ct) (q : List Ct), Que o q → Que o (l.foldl (fun q c => stepF o cp false c q) q) := by
  intro l
  induction l with
  | nil => exact fun q h => h
  | cons a l ih => exact fun q h => ih _ (h.stepF cp false a)
 exact h l [] (Que.nil o)
theorem vI {o : Org} (hf : o.Fine) {r : Reg} {l : List Ct} {x : Ct} : x ∈ eI o r l ↔ ∃ c, c ∈ l ∧ Snd o r c x := by
 unfold eI
 rw [pB, List.mem_append, List.mem_filter, a6s hf r.cpl 1100 0 _ (a4J o r.cpl l) (by decide) (fun j hj => absurd hj (Nat.not_lt_zero _))]
 constructor
 ·rintro (⟨h1, h2⟩ | ⟨a, ha, hs⟩)
  ·exact ⟨x, h1, .inl ⟨rfl, by simpa using h2⟩⟩
  ·obtain ⟨c, hc, h⟩ := uL.1 ha
   exact ⟨c, hc, .inr ⟨a, h, hs⟩⟩
 ·rintro ⟨c, hc, h⟩
  rcases h with ⟨rfl, h2⟩ | ⟨a, h, hs⟩
  ·exact .inl ⟨hc, by simpa using h2⟩
  ·exact .inr ⟨a, uL.2 ⟨c, hc, h⟩, hs⟩
theorem uD {o : Org} (hf : o.Fine) {r : Reg} {l : List Ct} {p : Ct} : p ∈ dT o r l ↔ ∃ c, c ∈ l ∧ ∃ x, Snd o r c x ∧ p ∈ fQ o r x := by
 unfold dT rF
 rw [pB, List.mem_flatMap]
 constructor
 ·rintro ⟨x, hx, hp⟩
  obtain ⟨c, hc, h⟩ := (vI hf).1 hx
  exact ⟨c, hc, x, h, hp⟩
 ·rintro ⟨c, hc, x, h, hp⟩
  exact ⟨x, (vI hf).2 ⟨c, hc, h⟩, hp⟩
theorem a7O (o : Org) (r : Reg) (l : List Ct) : (dT o r l).Pairwise ltP := b0Y _
theorem wK {o : Org} (hf : o.Fine) {r : Reg} {c p : Ct} : p ∈ dT o r [c] ↔ ∃ x, Snd o r c x ∧ p ∈ fQ o r x := by
 rw [uD hf]
 constructor
 ·rintro ⟨c', hc, h⟩
  rw [List.mem_singleton.1 hc] at h
  exact h
 ·rintro h
  exact ⟨c, List.mem_singleton.2 rfl, h⟩
theorem a1b {o : Org} (hf : o.Fine) (r : Reg) (l : List Ct) : dd (mN (l.flatMap fun c => dT o r [c])) = dT o r l := by
 refine zQ _ _ (b0Y _) (a7O o r l) fun p => ?_
 rw [pB, List.mem_flatMap, uD hf]
 constructor
 ·rintro ⟨c, hc, hp⟩
  exact ⟨c, hc, (wK hf).1 hp⟩
 ·rintro ⟨c, hc, hp⟩
  exact ⟨c, hc, (wK hf).2 hp⟩
end Go.Ds
namespace Go.Ds
open Go.Proofs
set_option maxRecDepth 10000
def IsP (o : Org) (p : Ct) : Prop := 0 ≤ p.1 ∧ p.1 < o.ranks.length ∧ 0 ≤ p.2 ∧ p.2 < (aC o.ranks p.1.toNat).wind.length
theorem a4n {rs : List Rk} {s : Stp} {key : Int} {p : Ct} (h : p ∈ iP rs s key) : 0 ≤ p.1 ∧ p.1 < rs.length ∧ 0 ≤ p.2 ∧ p.2 < (aC rs p.1.toNat).wind.length := by
 unfold iP at h
 obtain ⟨d, hd, rfl⟩ := List.mem_map.1 (pB.1 h)
 have hh := (List.mem_filter.1 hd).2
 unfold pM at hh
 rw [Bool.and_eq_true, Bool.and_eq_true, Bool.not_eq_true', decide_eq_true_eq, decide_eq_true_eq, decide_eq_false_iff_not] at hh
 obtain ⟨⟨h1, h2⟩, h3⟩ := hh
 have e : (fX rs d key).1 = d.rank := by unfold fX; rw [if_neg h1]
 rw [e]
 exact ⟨by omega, by omega, h2, h3⟩
theorem a4m {o : Org} {r : Reg} {c p : Ct} (h : p ∈ fQ o r c) : IsP o p := by
 unfold fQ at h
 obtain ⟨i, _, h⟩ := List.mem_flatMap.1 h
 split at h
 ·exact a4n h
 ·exact absurd h List.not_mem_nil
theorem a3k {o : Org} {r : Reg} {l : List Ct} {p : Ct} (h : p ∈ rF o r l) : IsP o p := by
 unfold rF at h
 obtain ⟨c, _, h⟩ := List.mem_flatMap.1 (pB.1 h)
 exact a4m h
theorem a5m {o : Org} {r : Reg} {l : List Ct} {p : Ct} (h : p ∈ dT o r l) : IsP o p := a3k h
theorem b3H {o : Org} {r : Reg} {c p : Ct} (h : p ∈ ofF o r c) : IsP o p := by
 unfold ofF at h
 split at h
 ·exact a5m h
 ·exact absurd h List.not_mem_nil
theorem IsP.small {o : Org} {H : Heap} (hf : o.Fine) (ho : o.In H) {p : Ct} (h : IsP o p) : -1000000000 ≤ p.1 ∧ p.1 ≤ 1000000000 ∧ -1000000000 ≤ p.2 ∧ p.2 ≤ 1000000000 := by
 obtain ⟨h1, h2, h3, h4⟩ := h
 have hr := (ho.2.1 _ (aF (xs := o.ranks) (j := p.1.toNat) (by omega))).2
 have := hf.rlen
 exact ⟨by omega, by omega, by omega, by omega⟩
theorem a8p {o : Org} (hf : o.Fine) (rg : Reg) {l : List Ct} (hl : l.length ≤ 1024) (ho : ∀ c ∈ eI o rg l, gZ o c = true) : (dT o rg l).length ≤ 1000000 := by
 have h1 := jU hf rg (eI o rg l) ho
 have h2 := oT hf (rg := rg) hl
 have h3 := a5V (mN ((eI o rg l).flatMap (fQ o rg)))
 rw [eK] at h3
 have : (dT o rg l).length ≤ (eI o rg l).length * 480 := Nat.le_trans h3 h1
 omega
end Go.Ds
namespace Go.Ds
open Go.Proofs
variable {H : Heap}
set_option maxRecDepth 100000
set_option maxHeartbeats 1000000
def a5Z (r : Rs) (n : Int) : Bool := match r with
 | .ok (.tuple vs) _ => (match vs.toList with
   | [.int .u64 a, .int .u64 b] => decide (a = 0) && decide (b = n)
   | _ => false)
 | .th (.tuple vs) _ => (match vs.toList with
   | [.int .u64 a, .int .u64 b] => decide (a = 0) && decide (b = n)
   | _ => false)
 | _ => false
theorem b6m : (lF Tryz.prog [213, 263, 264] .e fun T => [(25 : Int)].all fun n => a5Z (eN T (sP Tryz.prog T 4000) [] (cM 213) [.int .u64 1, .int .u64 n] gH) n) = true := by kernel_rfl
theorem b1v {T : LT} (hT : TOk Tryz.prog T) {k : FuncId} {args : List Value} {n : Int} (h : a5Z (eN T (sP Tryz.prog T 4000) [] (cM k) args gH) n = true) : Fn Tryz.prog k args gH fun r _ => r = .tuple #[.int .u64 0, .int .u64 n] := by
 have hv : ∀ (vs : Array Value), (match vs.toList with
  | [.int .u64 a, .int .u64 b] => decide (a = 0) && decide (b = n)
  | _ => false) = true → Value.tuple vs = .tuple #[.int .u64 0, .int .u64 n] := by
  intro vs h
  split at h
  ·rename_i a b e
   rw [Bool.and_eq_true, decide_eq_true_eq, decide_eq_true_eq] at h
   obtain ⟨rfl, rfl⟩ := h
   congr 1
   exact Array.ext' e
  ·cases h
 unfold a5Z at h
 split at h
 ·rename_i vs H1 e
  rw [← hv vs h]
  exact dR hT (.inl e)
 ·rename_i vs H1 e
  rw [← hv vs h]
  exact dR hT (.inr e)
 ·cases h
theorem a9q (hG : Glob gH H) : Fn Tryz.prog 213 [.int .u64 1, .int .u64 25] H fun r H' => r = .tuple #[.int .u64 0, .int .u64 25] ∧ St Tryz.prog H H' [] := by
 obtain ⟨T, hT, h⟩ := jC (ps := [(25 : Int)]) (f := fun T n => a5Z (eN T (sP Tryz.prog T 4000) [] (cM 213) [.int .u64 1, .int .u64 n] gH) n) b6m
 exact kB (by simp [flat, aY, aV]) rfl (b1v hT (h 25 (by simp))) hG
theorem jE (c z : Value) : ∀ (m x n : Nat), x + m ≤ n → aX (List.replicate x c ++ List.replicate (n - x) z) x (List.replicate m c) = List.replicate (x + m) c ++ List.replicate (n - (x + m)) z := by
 intro m x n h
 have e : List.replicate (n - x) z = List.replicate m z ++ List.replicate (n - (x + m)) z := by
  rw [List.replicate_append_replicate]; congr 1; omega
 have := eP (List.replicate m c) (List.replicate x c) (List.replicate (n - x) z) (by simp; omega)
 rw [List.length_replicate] at this
 rw [this, List.replicate_append_replicate]
 congr 1
 simp
 omega
theorem a3N {H : Heap} {v : Value} {cs : List Value} (h : RdAt H v 1 cs) (h0 : cs ≠ []) : iU v 1 0 cs.length = v := by
 rcases h with ⟨rfl, rfl⟩ | ⟨A, i, e, row, ty, rw, lo', ver, n, h1, h2, h3, h4, h5, h6, rfl⟩
 ·exact (h0 rfl).elim
 ·simp [iU, h6]
theorem St.eCopyW {P : Program} {H0 : Base} {os : List Ob} (hS : St P H0 H os) (i : Nat) {v : Value} {cs : List Value} (ho : os[i]? = some ⟨v, 1, cs⟩) {x : Value} {ys : List Value} (hx : RdAt H x 1 ys) (h0 : 0 < cs.length) (hy : 0 < ys.length) {t : TypeId} (ht : aP P t = some 1) {K : Value → Heap → Prop}
 (h : ∀ H1, St P H0 H1 (os.set i ⟨v, 1, aX cs 0 (ys.take (min ys.length cs.length))⟩) → K (.int .i64 ((min ys.length cs.length : Nat) : Int)) H1) : yH P H t v x K := by
 have e := a3N (hS.rd (size := 0) i ho) (by intro e; simp [e] at h0)
 have := hS.eCopy1 i ho hx 0 cs.length (by omega) h0 hy ht h
 rwa [e] at this
theorem b0q (hG : Glob gH H) {c : Int} (v : Value) (hv : Sl 1 (one I) H v [c]) : Fn Tryz.prog 149 [v, I 25] H fun r H' => St Tryz.prog H H' [⟨r, 1, List.replicate 25 (I c)⟩] := by
 have h1 : (([c] : List Int).length : Int) = 1 := rfl
 refine Fn.of_sw Tryz.func149 rfl (by kernel_rfl) fun l hl => ?_
 have hn : l.length = 48 := by rw [hl]; rfl
 have g0 : get l 0 = v := by rw [hl]; rfl
 have g1 : get l 1 = I 25 := by rw [hl]; rfl
 clear hl
 simp (disch := omega) only [↓RA, RZ, simprocAttr, hn, g0, g1, ((St.refl Tryz.prog H).sl hv).len]
 refine aB (a9q ((St.refl Tryz.prog H).gl hG)) ?_
 rintro r H1 ⟨rfl, hT1⟩
 have hS1 := (St.refl Tryz.prog H).trans hT1
 simp only [RT] at hS1
 simp (disch := omega) only [↓RA, RZ, simprocAttr, hn]
 refine hS1.eMake1 25 c4F (by omega) fun w H2 hS2 => ?_
 simp only [RT] at hS2
 simp (disch := omega) only [↓RA, RB, simprocAttr, hn, g0]
 refine hS2.eCopyW 0 rfl (hS2.sl hv).rd (by simp) (by simp [one]) b6P fun H3 hS3 => ?_
 have e1 : min ([c].flatMap (one I)).length (List.replicate 25 (Value.int .i64 0)).length = 1 := by simp [one]
 rw [e1] at hS3 ⊢
 have e2 := jE (I c) (.int .i64 0) 1 0 25 (by omega)
 simp only [List.replicate_zero, List.nil_append, Nat.sub_zero, Nat.zero_add] at e2
 have hS4 : St Tryz.prog H H3 [⟨w, 1, List.replicate 1 (I c) ++ List.replicate (25 - 1) (.int .i64 0)⟩] := by
  rw [← e2]
  exact hS3
 simp (disch := omega) only [↓RA, RB, simprocAttr, hn]
 have e3 : ∀ x : Nat, List.replicate x (I c) ++ List.replicate (25 - x) (.int .i64 0) = (List.replicate x (c : Int) ++ List.replicate (25 - x) 0).flatMap (one I) := fun x => by
  rw [qE, List.map_append, List.map_replicate, List.map_replicate]
 refine Wp.loopS (fun n l H' => l.length = 48 ∧ get l 4 = (.slice none 0 0) ∧ ∃ (x : Nat), (n + x = 25 ∧ 1 ≤ x) ∧ get l 8 = I x ∧ get l 7 = w ∧ St Tryz.prog H H' [⟨w, 1, (List.replicate x (c : Int) ++ List.replicate (25 - x) 0).flatMap (one I)⟩]) 24 ?_ ?_
 ·simp (disch := omega) only [RB, RC, simprocAttr, hn]
  rw [e3] at hS4
  exact ⟨1, ⟨by omega, by omega⟩, rfl, hS4⟩
 rintro n l H2 ⟨hn, g4, x, ⟨hx,hx1⟩, g8, g7, hS2⟩
 have hln : (List.replicate x (c : Int) ++ List.replicate (25 - x) 0).length = 25 := by simp; omega
 simp (disch := omega) only [↓RA, RZ, simprocAttr, hn, g8, g7, (hS2.slo 0 rfl (fun _ => rfl)).len, hln]
 refine aA (fun q1 => ?_) (fun q1 => ?_)
 ·simp (disch := omega) only [↓RA, RC, simprocAttr, q1]
  refine Wp.drw cD (by kernel_rfl) ?_
  simp (disch := omega) only [↓RA, RZ, simprocAttr, hn, g8, g7, (hS2.slo 0 rfl (fun _ => rfl)).sliceL, (hS2.slo 0 rfl (fun _ => rfl)).sliceH, hln]
  have hxt : ((25 : Int) - (x : Int)).toNat = 25 - x := by omega
  rw [hxt]
  have hlc : ((List.replicate x (c : Int) ++ List.replicate (25 - x) 0).flatMap (one I)).length = 25 := by rw [qE, List.length_map, hln]
  have hrd := hS2.rd 0 rfl
  have hsub := hrd.sub 0 x (by rw [hlc]; omega) (by intro e; rw [e] at hlc; simp at hlc)
  have e5 : (((List.replicate x (c : Int) ++ List.replicate (25 - x) 0).flatMap (one I)).drop (0 * (0 + 1))).take (x * (0 + 1)) = List.replicate x (I c) := by
   rw [← e3]
   simp []
  rw [e5] at hsub
  refine hS2.eCopy1 0 rfl hsub x (25 - x) (by rw [hlc]; omega) (by omega) (by simp; omega) b6P fun H4 hS5 => ?_
  have e6 : (List.replicate x (I c)).take (min (List.replicate x (I c)).length (25 - x)) = List.replicate (min x (25 - x)) (I c) := by simp
  rw [e6] at hS5
  have e7 : min (List.replicate x (I c)).length (25 - x) = min x (25 - x) := by simp
  rw [e7]
  have e8 := jE (I c) (.int .i64 0) (min x (25 - x)) x 25 (by omega)
  have hS6 : St Tryz.prog H H4 [⟨w, 1, (List.replicate (x + min x (25 - x)) (c : Int) ++ List.replicate (25 - (x + min x (25 - x))) 0).flatMap (one I)⟩] := by
   rw [← e3, ← e8, e3]
   exact hS5
  simp (disch := omega) only [↓RA, RZ, simprocAttr, hn, g4, g7]
  exact ⟨25 - (x + min x (25 - x)), by omega, x + min x (25 - x), ⟨by omega, by omega⟩, by simp, hS6⟩
 simp (disch := omega) only [↓RA, RZ, simprocAttr, hn, g7, c1i, q1]
 have e : x = 25 := by omega
 subst e
 have hfin : ((List.replicate 25 (c : Int) ++ List.replicate (25 - 25) 0).flatMap (one I)) = List.replicate 25 (I c) := by rw [← e3]; rfl
 have h9 := hS2
 rw [hfin] at h9
 exact h9
end Go.Ds
namespace Go.Ds
open Go.Proofs
variable {H : Heap}
set_option maxRecDepth 10000
set_option maxHeartbeats 1000000
section
variable (w1 w2 w3 w4 w5 w6 w7 : Value)
def a5F (x : Int × Int) : List (Int × Int) → List (Int × Int)
 | [] => [x]
 | y :: l => if tV x y then x :: y :: l else y :: a5F x l
def a5q : List (Int × Int) → List (Int × Int)
 | [] => []
 | x :: l => a5F x (a5q l)
theorem qX (x : Int × Int) : ∀ l, (a5F x l).Perm (x :: l)
 | [] => .refl _
 | y :: l => by
   unfold a5F
   split
   ·exact .refl _
   ·exact ((qX x l).cons y).trans (.swap ..)
theorem xZ : ∀ l, (a5q l).Perm l
 | [] => .refl _
 | x :: l => (qX x _).trans ((xZ l).cons x)
theorem a7K (x y : Int × Int) : tV x y = false → tV y x = true := by
 intro h
 rw [← Bool.not_eq_true] at h
 rw [fM] at h ⊢
 omega
theorem tB (x : Int × Int) : ∀ l : List (Int × Int), l.Pairwise (fun a b => tV a b = true) → (a5F x l).Pairwise fun a b => tV a b = true
 | [], _ => by simp [a5F]
 | y :: l, h => by
   have h1 := List.pairwise_cons.1 h
   unfold a5F
   split
   ·rename_i hxy
    refine List.pairwise_cons.2 ⟨fun z hz => ?_, h⟩
    rcases List.mem_cons.1 hz with rfl | hz
    ·exact hxy
    ·have h2 := h1.1 z hz
     rw [fM] at *
     omega
   ·rename_i hxy
    refine List.pairwise_cons.2 ⟨fun z hz => ?_, tB x l h1.2⟩
    rcases List.mem_cons.1 ((qX x l).mem_iff.1 hz) with rfl | hz
    ·exact a7K _ _ (by simpa using hxy)
    ·exact h1.1 z hz
theorem sQ : ∀ l : List (Int × Int), (a5q l).Pairwise fun a b => tV a b = true
 | [] => .nil
 | x :: l => tB x _ (sQ l)
theorem a9Y : mN = a5q := by
 funext l
 refine List.Perm.eq_of_pairwise (le := fun a b => tV a b = true) (fun a b _ _ h1 h2 => ?_) (nX l) (sQ l) ((gA l).trans (xZ l).symm)
 rw [fM] at h1 h2
 exact Prod.ext (by omega) (by omega)
def b8a (s : List Ct → List Ct) (o : Org) (r : Reg) (l : List Ct) : List Ct := dd (s (l.filter (fun c => !r.off.testBit c.1.toNat) ++ bfs o r.cpl 1100 0 (dX o r.cpl l)))
def b7l (s : List Ct → List Ct) (rs : List Rk) (p : Stp) (key : Int) : List Ct := dd (s (((a5l p key).filter fun d => pM rs d key).map fun d => fX rs d key))
def b8D (s : List Ct → List Ct) (o : Org) (r : Reg) (c : Ct) : List Ct := (List.range (aC o.dvs c.1.toNat).stops.length).flatMap fun i => if (aC r.stops c.1.toNat).testBit i then b7l s o.ranks (aC (aC o.dvs c.1.toNat).stops i) c.2 else []
end
end Go.Ds
namespace Go.Ds
open Go.Proofs
variable {H : Heap}
set_option maxRecDepth 10000
set_option maxHeartbeats 1000000
theorem zJ (hG : Glob gH H) (s : ByteArray) : Fn Tryz.prog 184 [.string s] H fun r H' => ∃ wv, r = .agg #[.string s, .string ⟨#[102, 108, 117, 116, 101]⟩, I 8, I 1, I 36, wv] ∧ St Tryz.prog H H' [⟨wv, 1, List.replicate 25 (I 1)⟩] := by
 refine Fn.of_sw Tryz.func184 rfl (by kernel_rfl) fun l hl => ?_
 have hn : l.length = 8 := by rw [hl]; rfl
 have g0 : get l 0 = (.string s) := by rw [hl]; rfl
 clear hl
 simp (disch := omega) only [↓RA, RZ, simprocAttr]
 refine (St.refl Tryz.prog H).eNew 6 [(.string ⟨#[]⟩), (.string ⟨#[]⟩), I 0, I 0, I 0, (.slice none 0 0)] rfl rfl rfl jF fun A1 H1 hS1 => ?_
 simp only [RT] at hS1
 simp (disch := omega) only [↓RA, RB, simprocAttr, g0, mA]
 refine hS1.eSlice [I 1] wX a2G rfl rfl (by simp [Value.cells]) rfl rfl (by decide) (by decide) fun w1 H2 hS2 => ?_
 simp only [RT] at hS2
 simp (disch := omega) only [↓RA, RZ, simprocAttr, hn]
 refine aB ((b0q (hS2.gl hG) w1 (hS2.slo 1 rfl (fun _ => rfl))).tr) ?_
 rintro r H3 ⟨-, hT1⟩
 have hS3 := hS2.trans hT1
 simp only [RT] at hS3
 obtain ⟨wv, rfl⟩ : ∃ w, w = r := ⟨r, rfl⟩
 simp (disch := omega) only [↓RA, RB, simprocAttr, hn, tL (hS3.rd 2 rfl).cells]
 refine hS3.eStore 0 rfl [(.string s), (.string ⟨#[102, 108, 117, 116, 101]⟩), I 8, I 1, I 36, wv] rfl (by simp [OC, (hS3.rd 2 rfl).cells.2.1]) jF (by simp) fun H4 hS4 => ?_
 simp only [RT] at hS4
 simp (disch := omega) only [↓RA, RZ, simprocAttr, hn, b9G, hS4.ldA 0 rfl]
 exact ⟨wv, rfl, hS4.pick [2] (by decide) rfl⟩
theorem zP (n feet shift : Int) : Fn Tryz.prog 183 [I n, I feet, I shift] H fun r H' => ∃ dv gv, St Tryz.prog H H' [⟨dv, 2, [I n, I shift]⟩, ⟨gv, 3, [I 36, I 48, dv]⟩, ⟨r, 4, [.string ⟨#[97]⟩, I feet, I 1, gv]⟩] := by
 refine Fn.of_sw Tryz.func183 rfl (by kernel_rfl) fun l hl => ?_
 have hn : l.length = 17 := by rw [hl]; rfl
 have g0 : get l 0 = I n := by rw [hl]; rfl
 have g1 : get l 1 = I feet := by rw [hl]; rfl
 have g2 : get l 2 = I shift := by rw [hl]; rfl
 clear hl
 simp (disch := omega) only [↓RA, RB, simprocAttr, hn, g0, g1, g2, mA, iN]
 refine (St.refl Tryz.prog H).eSlice [I n, I shift] a8n a7d rfl rfl (by simp [Value.cells]) rfl rfl (by decide) (by decide) fun w1 H1 hS1 => ?_
 simp only [RT] at hS1
 simp (disch := omega) only [↓RA, RB, simprocAttr, hn, dJ (hS1.rd 0 rfl).cells]
 refine hS1.eSlice [I 36, I 48, w1] nJ xA rfl rfl (by first | (simp []; done) | simp [Value.cells]) (by first | (simp []; done) | simp [Value.cells]) (by simp [OC, (hS1.rd 0 rfl).cells.2.1]) (by decide) (by decide) fun w2 H2 hS2 => ?_
 simp only [RT] at hS2
 simp (disch := omega) only [↓RA, RB, simprocAttr, hn, a5A (hS2.rd 1 rfl).cells]
 refine hS2.eSlice [(.string ⟨#[97]⟩), I feet, I 1, w2] b6N c1r rfl rfl (by first | (simp []; done) | simp [Value.cells]) (by first | (simp []; done) | simp [Value.cells]) (by simp [OC, (hS2.rd 1 rfl).cells.2.1]) (by decide) (by decide) fun w3 H3 hS3 => ?_
 simp only [RT] at hS3
 simp (disch := omega) only [↓RA, RB, simprocAttr, hn, b9H]
 exact ⟨w1, w2, hS3⟩
def exE (w1 w2 : Value) (d1 g1 s1 d2 g2 s2 : Value) (w3 w4 w5 : Value) : Org := ⟨⟨#[101]⟩, w3, [⟨⟨#[114]⟩, ⟨#[102, 108, 117, 116, 101]⟩, 8, 1, 36, w1, List.replicate 25 1⟩, ⟨⟨#[115]⟩, ⟨#[102, 108, 117, 116, 101]⟩, 8, 1, 36, w2, List.replicate 25 1⟩], w4,
 [⟨⟨#[111, 110, 101]⟩, false, 36, 48, s1, [⟨⟨#[97]⟩, 8, 1, g1, [⟨36, 48, d1, [⟨0, 0⟩]⟩]⟩]⟩, ⟨⟨#[116, 119, 111]⟩, false, 36, 48, s2, [⟨⟨#[97]⟩, 4, 1, g2, [⟨36, 48, d2, [⟨1, 12⟩]⟩]⟩]⟩], w5, [⟨⟨#[99]⟩, 0, 1, 0, false⟩]⟩
theorem a1o (hG : Glob gH H) : Fn Tryz.prog 123 [] H fun r H' => ∃ w1 w2 d1 g1 s1 d2 g2 s2 w3 w4 w5, r = .agg #[.string (exE w1 w2 d1 g1 s1 d2 g2 s2 w3 w4 w5).name, w3, w4, w5] ∧ (exE w1 w2 d1 g1 s1 d2 g2 s2 w3 w4 w5).In H' ∧ St Tryz.prog H H' [] := by
 refine Fn.of_sw Tryz.func123 rfl (by kernel_rfl) fun l hl => ?_
 have hn : l.length = 19 := by rw [hl]; rfl
 clear hl
 simp (disch := omega) only [↓RA, RZ, simprocAttr]
 refine (St.refl Tryz.prog H).eNew 4 [(.string ⟨#[]⟩), (.slice none 0 0), (.slice none 0 0), (.slice none 0 0)] rfl rfl rfl fW fun A1 H1 hS1 => ?_
 simp only [RT] at hS1
 simp (disch := omega) only [↓RA, RZ, simprocAttr, a3B]
 refine hS1.eNew 2 [I 0, I 0] rfl rfl rfl tF fun A2 H2 hS2 => ?_
 simp only [RT] at hS2
 simp (disch := omega) only [↓RA, RB, simprocAttr, hn]
 refine hS2.eStore 1 rfl [I 36, I 48] rfl rfl tF (by simp) fun H3 hS3 => ?_
 simp only [RT] at hS3
 simp (disch := omega) only [↓RA, RB, simprocAttr]
 refine Wp.drwM cD [0, 1, 4, 5, 8, 9, 2, 3, 6, 7, 10, 11, 12, 13, 14, 15] [0, 1, 6, 7, 2, 3, 8, 9, 4, 5, 10, 11, 12, 13, 14, 15] ⟨true, [40], []⟩ [(7, 0), (7, 1), (7, 2), (7, 4), (7, 6), (9, 0), (9, 1), (9, 2), (9, 4), (9, 6)] (by kernel_rfl) (by kernel_rfl) (by kernel_rfl) ?_
 simp (disch := omega) only [↓RA, RZ, simprocAttr]
 refine aB (zJ (hS3.gl hG) _) ?_
 rintro r H4 ⟨wv1, rfl, hT1⟩
 have hS4 := hS3.trans hT1
 simp only [RT] at hS4
 simp (disch := omega) only [↓RA, RZ, simprocAttr]
 refine aB (zJ (hS4.gl hG) _) ?_
 rintro r H5 ⟨wv2, rfl, hT2⟩
 have hS5 := hS4.trans hT2
 simp only [RT] at hS5
 simp (disch := omega) only [↓RA, RZ, simprocAttr, hn]
 refine aB (zP 0 8 0) ?_
 rintro r H6 ⟨d1, g1, hT3⟩
 have hS6 := hS5.trans hT3
 simp only [RT] at hS6
 obtain ⟨s1, rfl⟩ : ∃ w, w = r := ⟨r, rfl⟩
 simp (disch := omega) only [↓RA, RZ, simprocAttr, hn]
 refine aB (zP 1 4 12) ?_
 rintro r H7 ⟨d2, g2, hT4⟩
 have hS7 := hS6.trans hT4
 simp only [RT] at hS7
 obtain ⟨s2, rfl⟩ : ∃ w, w = r := ⟨r, rfl⟩
 simp (disch := omega) only [↓RA, RB, simprocAttr, hn]
 refine hS7.eSlice [(.string ⟨#[114]⟩), (.string ⟨#[102, 108, 117, 116, 101]⟩), I 8, I 1, I 36, wv1, (.string ⟨#[115]⟩), (.string ⟨#[102, 108, 117, 116, 101]⟩), I 8, I 1, I 36, wv2] b7J c0N rfl rfl (by first | (simp []; done) | simp [Value.cells]) (by first | (simp []; done) | simp [Value.cells]) (by simp [OC, (hS7.rd 2 rfl).cells.2.1, (hS7.rd 3 rfl).cells.2.1]) (by decide) (by decide) fun w1 H8 hS8 => ?_
 simp only [RT] at hS8
 simp (disch := omega) only [↓RA, RZ, simprocAttr, hn, hS8.ldA 1 rfl, vQ (hS8.rd 6 rfl).cells, vQ (hS8.rd 9 rfl).cells]
 refine hS8.eSlice [(.string ⟨#[111, 110, 101]⟩), (.bool false), I 36, I 48, s1, (.string ⟨#[116, 119, 111]⟩), (.bool false), I 36, I 48, s2] b6o b9O rfl rfl (by first | (simp []; done) | simp [Value.cells]) (by first | (simp []; done) | simp [Value.cells]) (by simp [OC, (hS8.rd 6 rfl).cells.2.1, (hS8.rd 9 rfl).cells.2.1]) (by decide) (by decide) fun w2 H9 hS9 => ?_
 simp only [RT] at hS9
 simp (disch := omega) only [↓RA, RB, simprocAttr, hn, a2J]
 refine hS9.eSlice [(.string ⟨#[99]⟩), I 0, I 1, I 0, (.bool false)] a5o b4j rfl rfl (by simp [Value.cells]) rfl rfl (by decide) (by decide) fun w3 H10 hS10 => ?_
 simp only [RT] at hS10
 simp (disch := omega) only [↓RA, RB, simprocAttr, hn, a0L (hS10.rd 10 rfl).cells (hS10.rd 11 rfl).cells (hS10.rd 12 rfl).cells]
 refine hS10.eStore 0 rfl [(.string ⟨#[101]⟩), w1, w2, w3] rfl (by simp [OC, (hS10.rd 10 rfl).cells.2.1, (hS10.rd 11 rfl).cells.2.1, (hS10.rd 12 rfl).cells.2.1]) fW (by simp) fun H11 hS11 => ?_
 simp only [RT] at hS11
 simp (disch := omega) only [↓RA, RZ, simprocAttr, hn, hS3.ldA 1 rfl, hS4.ldA 1 rfl, hS5.ldA 1 rfl, hS6.ldA 1 rfl, hS7.ldA 1 rfl, c1n, hS11.ldA 0 rfl]
 have h1 : Sl 1 (one I) H11 wv1 (List.replicate 25 1) := hS11.slo 2 rfl (fun _ => rfl)
 have h2 : Sl 1 (one I) H11 wv2 (List.replicate 25 1) := hS11.slo 3 rfl (fun _ => rfl)
 have h3 : Sl 2 Drw.cells H11 d1 [⟨0, 0⟩] := hS11.slo 4 rfl (fun _ => rfl)
 have h4 : Sl 3 Seg.cells H11 g1 [⟨36, 48, d1, [⟨0, 0⟩]⟩] := hS11.slo 5 rfl (fun _ => rfl)
 have h5 : Sl 4 Stp.cells H11 s1 [⟨⟨#[97]⟩, 8, 1, g1, [⟨36, 48, d1, [⟨0, 0⟩]⟩]⟩] := hS11.slo 6 rfl (fun _ => rfl)
 have h6 : Sl 2 Drw.cells H11 d2 [⟨1, 12⟩] := hS11.slo 7 rfl (fun _ => rfl)
 have h7 : Sl 3 Seg.cells H11 g2 [⟨36, 48, d2, [⟨1, 12⟩]⟩] := hS11.slo 8 rfl (fun _ => rfl)
 have h8 : Sl 4 Stp.cells H11 s2 [⟨⟨#[97]⟩, 4, 1, g2, [⟨36, 48, d2, [⟨1, 12⟩]⟩]⟩] := hS11.slo 9 rfl (fun _ => rfl)
 have h9 : Sl 6 Rk.cells H11 w1 (exE wv1 wv2 d1 g1 s1 d2 g2 s2 w1 w2 w3).ranks := hS11.slo 10 rfl (fun _ => rfl)
 have h10 : Sl 5 Dvn.cells H11 w2 (exE wv1 wv2 d1 g1 s1 d2 g2 s2 w1 w2 w3).dvs := hS11.slo 11 rfl (fun _ => rfl)
 have h11 : Sl 5 Cpl.cells H11 w3 (exE wv1 wv2 d1 g1 s1 d2 g2 s2 w1 w2 w3).cpls := hS11.slo 12 rfl (fun _ => rfl)
 refine ⟨wv1, wv2, d1, g1, s1, d2, g2, s2, w1, w2, w3, rfl, ⟨h9, ?_, h10, ?_, h11, by simp [exE], by simp [exE], by simp [exE]⟩, hS11.forget⟩
 ·intro r hr
  simp only [exE, List.mem_cons, List.not_mem_nil, or_false] at hr
  rcases hr with rfl | rfl
  ·exact ⟨h1, by simp⟩
  ·exact ⟨h2, by simp⟩
 ·intro d hd
  simp only [exE, List.mem_cons, List.not_mem_nil, or_false] at hd
  rcases hd with rfl | rfl
  ·exact ⟨h5, fun s hs => by rw [List.mem_singleton.1 hs]; exact ⟨h4, fun g hg => by rw [List.mem_singleton.1 hg]; exact ⟨h3, by simp⟩, by simp⟩, by simp⟩
  ·exact ⟨h8, fun s hs => by rw [List.mem_singleton.1 hs]; exact ⟨h7, fun g hg => by rw [List.mem_singleton.1 hg]; exact ⟨h6, by simp⟩, by simp⟩, by simp⟩
section
variable (w1 w2 d1 g1 s1 d2 g2 s2 w3 w4 w5 : Value)
theorem b2I (off : Nat) (h : off < 2) : gX (exE w1 w2 d1 g1 s1 d2 g2 s2 w3 w4 w5) ⟨[1, 1], 1, off⟩ = 0 := by
 rcases (by omega : off = 0 ∨ off = 1) with rfl | rfl
 ·kernel_rfl
 ·kernel_rfl
theorem b2l : iA (exE w1 w2 d1 g1 s1 d2 g2 s2 w3 w4 w5) [bD [40], (0, 0)] = 0 := by kernel_rfl
theorem b3b : eI (exE w1 w2 d1 g1 s1 d2 g2 s2 w3 w4 w5) ⟨[1, 1], 1, 0⟩ (bC [bD [40], (0, 0)]) = [(0, 40), (1, 40)] := by
 unfold eI
 rw [a9Y]
 kernel_rfl
end
end Go.Ds
namespace Go.Ds
open Go.Proofs
variable {H : Heap}
set_option maxRecDepth 10000
set_option maxHeartbeats 1000000
theorem b4W (v : Value) (k : FuncId) : Fn Tryz.prog 278 [v, I 0, I 1, .func (.func k) #[] #[]] H fun r H' => r = .tuple #[] ∧ St Tryz.prog H H' [] := by
 refine Fn.of_sw Tryz.func278 rfl (by kernel_rfl) fun l hl => ?_
 have hn : l.length = 53 := by rw [hl]; rfl
 have g0 : get l 0 = v := by rw [hl]; rfl
 have g1 : get l 1 = I 0 := by rw [hl]; rfl
 have g2 : get l 2 = I 1 := by rw [hl]; rfl
 have g3 : get l 3 = .func (.func k) #[] #[] := by rw [hl]; rfl
 clear hl
 simp (disch := omega) only [↓RA, RB, simprocAttr, hn, g1]
 refine Wp.loopS (fun n l H' => l.length = 53 ∧ get l 8 = I 1 ∧ get l 2 = I 1 ∧ St Tryz.prog H H' []) 1 ?_ ?_
 ·simp (disch := omega) only [RB, RC, simprocAttr, hn, g2]
  exact (St.refl Tryz.prog H)
 rintro n l H9 ⟨hn, g8, g2, hS9⟩
 simp (disch := omega) only [↓RA, RZ, simprocAttr, hn, g8, g2, c2i]
 first | exact hS9 | exact ⟨rfl, hS9⟩
theorem a4D (v : Value) (k : FuncId) : Fn Tryz.prog 236 [v, I 1, .func (.func k) #[] #[]] H fun r H' => r = .tuple #[] ∧ St Tryz.prog H H' [] := by
 refine Fn.of_sw Tryz.func236 rfl (by kernel_rfl) fun l hl => ?_
 have hn : l.length = 63 := by rw [hl]; rfl
 have g0 : get l 0 = v := by rw [hl]; rfl
 have g1 : get l 1 = I 1 := by rw [hl]; rfl
 have g2 : get l 2 = .func (.func k) #[] #[] := by rw [hl]; rfl
 clear hl
 simp (disch := omega) only [↓RA, RB, simprocAttr, hn]
 refine Wp.loopS (fun n l H' => l.length = 63 ∧ get l 0 = v ∧ get l 1 = I 1 ∧ get l 2 = .func (.func k) #[] #[] ∧ get l 6 = I 20 ∧ get l 7 = I 0 ∧ get l 8 = I 20 ∧ St Tryz.prog H H' []) 1 ?_ ?_
 ·simp (disch := omega) only [RB, RC, simprocAttr, hn, g0, g1, g2]
  exact (St.refl Tryz.prog H)
 rintro n l H9 ⟨hn, g0, g1, g2, g6, g7, g8, hS9⟩
 simp (disch := omega) only [↓RA, RZ, simprocAttr, hn, g0, g1, g2, g7, g8]
 refine aB (b4W v k) ?_
 rintro r H1 ⟨rfl, hT1⟩
 have hS1 := (St.refl Tryz.prog H9).trans hT1
 simp only [RT] at hS1
 simp (disch := omega) only [↓RA, simprocAttr]
 have hS8 := hS9.trans hS1
 refine Wp.loopS (fun n l H' => l.length = 63 ∧ get l 1 = I 1 ∧ get l 6 = I 20 ∧ St Tryz.prog H H' []) 1 ?_ ?_
 ·simp (disch := omega) only [RB, RC, simprocAttr, hn, g1, g6]
  exact hS8
 rintro n l H7 ⟨hn, g1, g6, hS7⟩
 simp (disch := omega) only [↓RA, RZ, simprocAttr, hn, g1, g6, c1g]
 first | exact hS7 | exact ⟨rfl, hS7⟩
def a2H (x : Ct × Int) : List Value := [I x.1.1, I x.1.2, I x.2]
theorem a3y (v : Value) (x : Ct × Int) (hv : Sl 3 a2H H v [x]) (k : FuncId) : Fn Tryz.prog 185 [v, .func (.func k) #[] #[]] H fun r H' => r = .tuple #[] ∧ St Tryz.prog H H' [] := by
 have h1 : (([x] : List (Ct × Int)).length : Int) = 1 := rfl
 refine Fn.of_sw Tryz.func185 rfl (by kernel_rfl) fun l hl => ?_
 have hn : l.length = 9 := by rw [hl]; rfl
 have g0 : get l 0 = v := by rw [hl]; rfl
 have g1 : get l 1 = .func (.func k) #[] #[] := by rw [hl]; rfl
 clear hl
 simp (disch := omega) only [↓RA, RZ, simprocAttr, hn, g0, g1, ((St.refl Tryz.prog H).sl hv).len]
 refine aB (a4D v k) ?_
 rintro r H1 ⟨rfl, hT1⟩
 have hS1 := (St.refl Tryz.prog H).trans hT1
 simp only [RT] at hS1
 simp (disch := omega) only [↓RA, RZ, simprocAttr, b9j]
 first | exact hS1 | exact ⟨rfl, hS1⟩
theorem a8M (hG : Glob gH H) : Fn Tryz.prog 98 [.agg #[I 8, I 1], .agg #[I 8, I 1]] H fun r H' => r = .tuple #[I 0, I 0] ∧ St Tryz.prog H H' [] := by
 have h := uP hG (a := (8, 1)) (b := (8, 1)) (by simp [cQ]) (by simp [dL])
 rw [show shF (8, 1) (8, 1) = 0 from by kernel_rfl] at h
 exact h.mono fun _ _ h => ⟨h.1.1, h.2⟩
def a2P (o : Org) (p : Ct) : Ct × Int := (p, (aC o.ranks p.1.toNat).first + p.2 + 0)
theorem a4N (hG : Glob gH H) (o : Org) (ho : o.In H) (rg : Reg) (sv : Value) (hr : rg.In H sv) (kv : Value) (ks : List Nt) (hk : Ks H kv ks) (h0 : rkE o rg ks = 0) (i m : Nat) (hsp : tD o rg ks = [((i : Int), (m : Int))]) (hi : i < o.ranks.length) (hm : m < 1000)
 (hf : (aC o.ranks i).num = 8 ∧ (aC o.ranks i).den = 1 ∧ -1000 ≤ (aC o.ranks i).first ∧ (aC o.ranks i).first ≤ 1000) :
 Fn Tryz.prog 125 [.agg #[.string o.name, o.rv, o.dv, o.cv], .agg #[sv, .int .u64 rg.cpl, .int .u64 rg.off], kv] H fun r H' => ∃ hv, r = .tuple #[hv, I 0] ∧ St Tryz.prog H H' [⟨hv, 3, a2H (a2P o ((i : Int), (m : Int)))⟩] := by
 obtain ⟨f1, f2, f3, f4⟩ := hf
 refine Fn.of_sw Tryz.func125 rfl (by kernel_rfl) fun l hl => ?_
 have hn : l.length = 61 := by rw [hl]; rfl
 have g0 : get l 0 = (.agg #[(.string o.name), o.rv, o.dv, o.cv]) := by rw [hl]; rfl
 have g1 : get l 1 = (.agg #[sv, (.int .u64 rg.cpl), (.int .u64 rg.off)]) := by rw [hl]; rfl
 have g2 : get l 2 = kv := by rw [hl]; rfl
 clear hl
 simp (disch := omega) only [↓RA, RB, simprocAttr, g0]
 refine (St.refl Tryz.prog H).eNew 4 [(.string o.name), o.rv, o.dv, o.cv] rfl rfl (by simp [OC, ((St.refl Tryz.prog H).sl ho.1).cells.2.1, ((St.refl Tryz.prog H).sl ho.2.2.1).cells.2.1, ((St.refl Tryz.prog H).sl ho.2.2.2.2.1).cells.2.1]) fW fun A1 H1 hS1 => ?_
 simp only [RT] at hS1
 simp (disch := omega) only [↓RA, RB, simprocAttr, g1]
 refine hS1.eNew 3 [sv, (.int .u64 rg.cpl), (.int .u64 rg.off)] rfl rfl (by simp [OC, (hS1.sl hr.1).cells.2.1]) kD fun A2 H2 hS2 => ?_
 simp only [RT] at hS2
 simp (disch := omega) only [↓RA, RZ, simprocAttr, hn, g2, hS2.ldA 0 rfl, hS2.ldA 1 rfl]
 refine aB (mH (hS2.gl hG) o (ho.keep hS2) rg sv (hr.keep hS2) kv ks (hk.keep hS2)) ?_
 rintro r H3 ⟨pv, rfl, hx, hT1⟩
 have hS3 := hS2.trans hT1
 simp only [RT] at hS3
 rw [h0]
 rw [hsp] at hx
 have hl1 : (([((i : Int), (m : Int))] : List Ct).length : Int) = 1 := rfl
 have hS0 := hS3
 have ho2 := ho.keep hS0
 have hG2 := hS0.gl hG
 simp (disch := omega) only [↓RA, RZ, simprocAttr, hn, ((St.refl Tryz.prog H3).sl hx.1).len]
 have hS4 := (St.refl Tryz.prog H3).nil 2
 simp only [RT] at hS4
 refine Wp.loopS (fun n l H' => l.length = 61 ∧ get l 3 = (ptr A1 0 4) ∧ get l 6 = (.slice none 0 0) ∧ get l 7 = I 0 ∧ get l 26 = pv ∧ ∃ (j : Nat) (ov : Value), (n + j = 1) ∧ get l 28 = I j ∧ get l 10 = ov ∧ get l 27 = I 1 ∧ St Tryz.prog H3 H' [⟨ov, 3, ([a2P o ((i : Int), (m : Int))].take j).flatMap a2H⟩]) 1 ?_ ?_
 ·simp (disch := omega) only [RB, RC, simprocAttr, hn]
  exact ⟨0, .slice none 0 0, by omega, rfl, rfl, hS4⟩
 rintro n l H4 ⟨hn, g3, g6, g7, g26, j, ov, hj, g28, kV, g27, hS5⟩
 simp (disch := omega) only [↓RA, RB, simprocAttr, hn, g28, g27]
 refine aA (fun q1 => ?_) (fun q1 => ?_)
 ·have hj0 : j = 0 := by omega
  have hn0 : aC ([((i : Int), (m : Int))] : List Ct) j = ((i : Int), (m : Int)) := by rw [hj0]; rfl
  simp (disch := omega) only [↓RA, RZ, simprocAttr, hn, g26, g28, (hS5.sl hx.1).idx, (hS5.sl hx.1).ldA, cC, q1, hn0]
  refine hS5.eNew 2 [I 0, I 0] rfl rfl rfl mV fun A3 H5 hS6 => ?_
  simp only [RT] at hS6
  simp (disch := omega) only [↓RA, RZ, simprocAttr, hn, q1]
  refine hS6.eStore 1 rfl [I i, I m] rfl rfl mV (by simp) fun H6 hS7 => ?_
  simp only [RT] at hS7
  simp (disch := omega) only [↓RA, RZ, simprocAttr, hn, g3, ((hS0.var 0 rfl).keep hS7.keep).ld, hS7.ld 1 rfl, (hS7.sl ho2.1).idx, (hS7.sl ho2.1).ldA, Rk.cells, q1]
  refine hS7.eNew 6 [(.string ⟨#[]⟩), (.string ⟨#[]⟩), I 0, I 0, I 0, (.slice none 0 0)] rfl rfl rfl jF fun A4 H7 hS8 => ?_
  simp only [RT] at hS8
  simp (disch := omega) only [↓RA, RZ, simprocAttr, hn, q1]
  refine hS8.eStore 2 rfl [(.string (aC o.ranks i).name), (.string (aC o.ranks i).tone), I (aC o.ranks i).num, I (aC o.ranks i).den, I (aC o.ranks i).first, (aC o.ranks i).wv] rfl (by simp [OC, (hS8.sl (ho2.2.1 (aC o.ranks i) (aF (by omega))).1).cells.2.1]) jF (by simp) fun H8 hS9 => ?_
  simp only [RT] at hS9
  simp (disch := omega) only [↓RA, RZ, simprocAttr, hn, hS9.ldA 2 rfl, mA, q1]
  rw [f1, f2]
  refine aB (a8M (hS9.gl hG2)) ?_
  rintro r H9 ⟨rfl, hT2⟩
  have hS10 := hS9.trans hT2
  simp only [RT] at hS10
  simp (disch := omega) only [↓RA, RZ, simprocAttr, hn, kV, hS10.ldA 1 rfl, hS10.ld 2 rfl, hS10.ld 1 rfl, xY, q1]
  refine hS10.eSlice [I i, I m, _] a9V b5V rfl rfl (by simp [Value.cells]) rfl rfl (by decide) (by decide) fun w1 H10 hS11 => ?_
  simp only [RT] at hS11
  simp (disch := omega) only [↓RA, RZ, simprocAttr, hn, q1]
  refine hS11.eAppend 0 rfl (hS11.rd 3 rfl) a9V (by rw [hj0]; simp) fun w2 H11 hS12 => ?_
  simp only [RT] at hS12
  simp (disch := omega) only [↓RA, RZ, simprocAttr, hn, g3, g6, g7, g26, g28, g27, q1]
  refine ⟨0, by omega, 1, w2, by omega, by rw [hj0]; rfl, rfl, ?_⟩
  have h9 := hS12.pick (os' := [⟨w2, 3, _⟩]) [0] (by decide) rfl
  rw [hj0] at h9
  exact h9
 have hj1 : j = 1 := by omega
 simp (disch := omega) only [↓RA, RZ, simprocAttr, hn, kV, q1]
 have hnt := (hS5.slo (cel := a2H) (xs := [a2P o ((i : Int), (m : Int))].take j) 0 rfl (fun _ => rfl)).noTup
 refine aB (a3y ov (a2P o ((i : Int), (m : Int))) (by have h := hS5.slo (cel := a2H) (xs := [a2P o ((i : Int), (m : Int))].take j) 0 rfl (fun _ => rfl); rw [hj1] at h; exact h) 186) ?_
 rintro r H12 ⟨rfl, hT3⟩
 have hS13 := hS5.trans hT3
 simp only [RT] at hS13
 simp (disch := omega) only [↓RA, RZ, simprocAttr, hn, kV, b9s, q1, hnt]
 refine ⟨ov, rfl, ?_⟩
 have hfin := hS13
 rw [hj1] at hfin
 exact hS0.forget.trans hfin
end Go.Ds
namespace Go.Ds
open Go.Proofs
variable {H : Heap}
set_option maxRecDepth 10000
set_option maxHeartbeats 1000000
theorem a4U (v w : Value) (xs ys : List Ct) (hv : Sl 2 cC H v xs) (hw : Sl 2 cC H w ys) (hl : xs.length < 1000000000) (hl2 : ys.length < 1000000000) :
 Fn Tryz.prog 126 [v, w] H fun r H' => r = .bool (decide (xs = ys)) ∧ St Tryz.prog H H' [] := by
 refine Fn.of_sw Tryz.func126 rfl (by kernel_rfl) fun l hl => ?_
 have hn : l.length = 26 := by rw [hl]; rfl
 have g0 : get l 0 = v := by rw [hl]; rfl
 have g1 : get l 1 = w := by rw [hl]; rfl
 clear hl
 simp (disch := omega) only [↓RA, RZ, simprocAttr, hn, g0, g1, ((St.refl Tryz.prog H).sl hv).len, ((St.refl Tryz.prog H).sl hw).len]
 refine aA (fun h1 => ?_) (fun h1 => ?_)
 ·simp (disch := omega) only [↓RA, RZ, simprocAttr, hn, b1u, h1]
  exact ⟨by rw [decide_eq_false]; intro e; rw [e] at h1; exact h1 rfl, (St.refl Tryz.prog H)⟩
 simp (disch := omega) only [↓RA, RZ, simprocAttr, hn, g0, ((St.refl Tryz.prog H).sl hv).len, h1]
 refine Wp.loopS (fun n l H' => l.length = 26 ∧ get l 0 = v ∧ get l 1 = w ∧ get l 12 = I xs.length ∧ ∃ (j : Nat), (n + j = xs.length ∧ ∀ q, q < j → aC xs q = aC ys q) ∧ get l 13 = I j ∧ St Tryz.prog H H' []) xs.length ?_ ?_
 ·simp (disch := omega) only [RB, RC, simprocAttr, hn, g0, g1]
  exact ⟨0, ⟨by omega, fun q hq => absurd hq (Nat.not_lt_zero _)⟩, rfl, (St.refl Tryz.prog H)⟩
 rintro n l H1 ⟨hn, g0, g1, g12, j, ⟨hj,hz⟩, g13, hS1⟩
 simp (disch := omega) only [↓RA, RB, simprocAttr, hn, g12, g13]
 refine aA (fun q1 => ?_) (fun q1 => ?_)
 ·simp (disch := omega) only [↓RA, RZ, simprocAttr, hn, g13, q1]
  refine Wp.drw cD (by kernel_rfl) ?_
  simp (disch := omega) only [↓RA, RZ, simprocAttr, hn, g0, g1, (hS1.sl hv).idx, (hS1.sl hv).ldA, cC, (hS1.sl hw).idx, (hS1.sl hw).ldA]
  refine aA (fun q2 => ?_) (fun q2 => ?_)
  ·simp (disch := omega) only [↓RA, RZ, simprocAttr, hn, b1u, q2]
   refine ⟨?_, hS1⟩
   rw [decide_eq_false]
   intro e
   rw [e] at q2
   exact q2 ⟨rfl, rfl⟩
  have q3 := Classical.not_not.1 q2
  simp (disch := omega) only [↓RA, RZ, simprocAttr, hn, g0, g1, g12, g13, q2]
  exact ⟨n - 1, by omega, j + 1, ⟨by omega, fun q hq => by rcases Nat.lt_succ_iff_lt_or_eq.1 hq with e | e; (· exact hz q e); (· rw [e]; exact Prod.ext q3.1 q3.2)⟩, by simp, hS1⟩
 simp (disch := omega) only [↓RA, RZ, simprocAttr, hn, b1u, q1]
 exact ⟨by rw [decide_eq_true]; exact oI (by omega) fun q hq => hz q (by omega), hS1⟩
theorem a9i (a b c : Int) : aI Tryz.prog (part 52 #[I a, I b, I c] 0) = some (.agg #[I a, I b]) := by kernel_rfl
theorem b5Z (a b c : Int) : aI Tryz.prog (part 3 #[I a, I b, I c] 2) = some (I c) := by kernel_rfl
theorem c1z (x y : Ct × Int) : aI Tryz.prog (Op.equalIn (9999 + 1) 233 (.agg [I x.1.1, I x.1.2, I x.2].toArray) (.agg [I y.1.1, I y.1.2, I y.2].toArray)) = some (decide (x = y)) := by
 have h52 : aI Tryz.prog (Op.equalIn (9997 + 2) 52 (.agg [I x.1.1, I x.1.2].toArray) (.agg [I y.1.1, I y.1.2].toArray)) = some ((List.range [I x.1.1, I x.1.2].length).all fun j => tY ([I x.1.1, I x.1.2].getD j undef) ([I y.1.1, I y.1.2].getD j undef)) :=
  pT 9997 (by kernel_rfl) (by kernel_rfl) (by kernel_rfl) rfl (by kernel_rfl)
 rw [a2B (fs := lO Tryz.prog 233) (by kernel_rfl) (by kernel_rfl) (fun f => if f.offset = 0 then decide (x.1 = y.1) else decide (x.2 = y.2))]
 ·congr 1
  have hfl : (lO Tryz.prog 233).map (·.offset) = [0, 2] := by kernel_rfl
  have e : (lO Tryz.prog 233).all (fun f => if f.offset = 0 then decide (x.1 = y.1) else decide (x.2 = y.2)) = ((lO Tryz.prog 233).map (·.offset)).all fun n => if n = 0 then decide (x.1 = y.1) else decide (x.2 = y.2) := by
   rw [List.all_map]
   rfl
  rw [e, hfl, Bool.eq_iff_iff]
  simp [Prod.ext_iff]
 ·intro f hf
  have hfs : (lO Tryz.prog 233).map (fun f => (f.name != "_", f.type, f.offset)) = [(true, 52, 0), (true, 3, 2)] := by kernel_rfl
  have hm : (f.name != "_", f.type, f.offset) ∈ [(true, 52, 0), (true, 3, 2)] := by
   rw [← hfs]
   exact List.mem_map_of_mem hf
  simp only [List.mem_cons, List.not_mem_nil, or_false, Prod.mk.injEq] at hm
  rcases hm with ⟨h1, h2, h3⟩ | ⟨h1, h2, h3⟩
  ·refine ⟨by simpa using h1, ?_⟩
   rw [h2, h3, if_pos rfl, aG, a9i, Option.bind_some, aG, a9i, Option.bind_some]
   refine h52.trans ?_
   congr 1
   show ((x.1.1 == y.1.1) && ((x.1.2 == y.1.2) && true)) = _
   rw [Bool.eq_iff_iff]
   first | done | simp [Prod.ext_iff]
  ·refine ⟨by simpa using h1, ?_⟩
   rw [h2, h3, if_neg (by decide), aG, b5Z, Option.bind_some, aG, b5Z, Option.bind_some]
   exact eq1 (P := Tryz.prog) (t := 3) 9998 (by kernel_rfl)
theorem c1m (x y : Ct × Int) (t2 : TypeId) (cx cy : Bool) : cW Tryz.prog .neq 233 t2 cx cy (.agg #[I x.1.1, I x.1.2, I x.2]) (.agg #[I y.1.1, I y.1.2, I y.2]) = some (.bool (decide (¬ x = y))) := by
 have h := a2m (t2 := t2) (cx := cx) (cy := cy) (decide (x = y)) (by kernel_rfl) (by rfl) (by rfl) (c1z x y)
 rw [h]
 simp
theorem a5S (v w : Value) (xs ys : List (Ct × Int)) (hv : Sl 3 a2H H v xs) (hw : Sl 3 a2H H w ys) (hl : xs.length < 1000000000) (hl2 : ys.length < 1000000000) :
 Fn Tryz.prog 127 [v, w] H fun r H' => r = .bool (decide (xs = ys)) ∧ St Tryz.prog H H' [] := by
 refine Fn.of_sw Tryz.func127 rfl (by kernel_rfl) fun l hl => ?_
 have hn : l.length = 26 := by rw [hl]; rfl
 have g0 : get l 0 = v := by rw [hl]; rfl
 have g1 : get l 1 = w := by rw [hl]; rfl
 clear hl
 simp (disch := omega) only [↓RA, RZ, simprocAttr, hn, g0, g1, ((St.refl Tryz.prog H).sl hv).len, ((St.refl Tryz.prog H).sl hw).len]
 refine aA (fun h1 => ?_) (fun h1 => ?_)
 ·simp (disch := omega) only [↓RA, RZ, simprocAttr, hn, a9B, h1]
  exact ⟨by rw [decide_eq_false]; intro e; rw [e] at h1; exact h1 rfl, (St.refl Tryz.prog H)⟩
 simp (disch := omega) only [↓RA, RZ, simprocAttr, hn, g0, ((St.refl Tryz.prog H).sl hv).len, h1]
 refine Wp.loopS (fun n l H' => l.length = 26 ∧ get l 0 = v ∧ get l 1 = w ∧ get l 12 = I xs.length ∧ ∃ (j : Nat), (n + j = xs.length ∧ ∀ q, q < j → aC xs q = aC ys q) ∧ get l 13 = I j ∧ St Tryz.prog H H' []) xs.length ?_ ?_
 ·simp (disch := omega) only [RB, RC, simprocAttr, hn, g0, g1]
  exact ⟨0, ⟨by omega, fun q hq => absurd hq (Nat.not_lt_zero _)⟩, rfl, (St.refl Tryz.prog H)⟩
 rintro n l H1 ⟨hn, g0, g1, g12, j, ⟨hj,hz⟩, g13, hS1⟩
 simp (disch := omega) only [↓RA, RB, simprocAttr, hn, g12, g13]
 refine aA (fun q1 => ?_) (fun q1 => ?_)
 ·have hne := fun t2 cx cy => c1m (aC xs j) (aC ys j) t2 cx cy
  simp (disch := omega) only [↓RA, RZ, simprocAttr, hn, g13, q1]
  refine Wp.drw cD (by kernel_rfl) ?_
  simp (disch := omega) only [↓RA, RZ, simprocAttr, hn, g0, g1, (hS1.sl hv).idx, (hS1.sl hv).ldA, a2H, (hS1.sl hw).idx, (hS1.sl hw).ldA, hne]
  refine aA (fun q2 => ?_) (fun q2 => ?_)
  ·simp (disch := omega) only [↓RA, RZ, simprocAttr, hn, a9B, q2]
   refine ⟨?_, hS1⟩
   rw [decide_eq_false]
   intro e
   rw [e] at q2
   exact q2 rfl
  have q3 := Classical.not_not.1 q2
  simp (disch := omega) only [↓RA, RZ, simprocAttr, hn, g0, g1, g12, g13, q2]
  exact ⟨n - 1, by omega, j + 1, ⟨by omega, fun q hq => by rcases Nat.lt_succ_iff_lt_or_eq.1 hq with e | e; (· exact hz q e); (· rw [e]; exact q3)⟩, by simp, hS1⟩
 simp (disch := omega) only [↓RA, RZ, simprocAttr, hn, a9B, q1]
 exact ⟨by rw [decide_eq_true]; exact oI (by omega) fun q hq => hz q (by omega), hS1⟩
theorem yE (o : Org) (r : Reg) (l : List Ct) : dT o r l = dd (a5q ((b8a a5q o r l).flatMap (b8D a5q o r))) := by
 rw [← a9Y]
 rfl
section
variable (w1 w2 d1 g1 s1 d2 g2 s2 w3 w4 w5 : Value)
theorem uO (off : Nat) (h : off < 2) : rkE (exE w1 w2 d1 g1 s1 d2 g2 s2 w3 w4 w5) ⟨[1, 1], 1, off⟩ [bD [40], (0, 0)] = 0 := by
 unfold rkE
 rw [b2I _ _ _ _ _ _ _ _ _ _ _ off h, if_neg (by decide), b2l]
theorem b1S : a8j (exE w1 w2 d1 g1 s1 d2 g2 s2 w3 w4 w5) ⟨[1, 1], 1, 0⟩ [bD [40], (0, 0)] = [(0, 40), (1, 40)] := by
 unfold a8j
 rw [uO _ _ _ _ _ _ _ _ _ _ _ 0 (by decide), if_pos rfl, b3b]
theorem a9z : tD (exE w1 w2 d1 g1 s1 d2 g2 s2 w3 w4 w5) ⟨[1, 1], 1, 0⟩ [bD [40], (0, 0)] = [(0, 4), (1, 16)] := by
 unfold tD
 rw [uO _ _ _ _ _ _ _ _ _ _ _ 0 (by decide), if_pos rfl, yE]
 kernel_rfl
theorem b0R : tD (exE w1 w2 d1 g1 s1 d2 g2 s2 w3 w4 w5) ⟨[1, 1], 1, 1⟩ [bD [40], (0, 0)] = [(1, 16)] := by
 unfold tD
 rw [uO _ _ _ _ _ _ _ _ _ _ _ 1 (by decide), if_pos rfl, yE]
 kernel_rfl
end
end Go.Ds
namespace Go.Ds
open Go.Proofs
variable {H : Heap}
set_option maxRecDepth 10000
set_option maxHeartbeats 1000000
theorem a1h (hG : Glob gH H) : Fn Tryz.prog 123 [] H fun r H' => ∃ o : Org, r = .agg #[.string o.name, o.rv, o.dv, o.cv] ∧ (∃ w1 w2 d1 g1 s1 d2 g2 s2 w3 w4 w5, o = exE w1 w2 d1 g1 s1 d2 g2 s2 w3 w4 w5) ∧ o.In H' ∧ St Tryz.prog H H' [] := by
 obtain ⟨h1, v, H1, h2, w1, w2, d1, g1, s1, d2, g2, s2, w3, w4, w5, h3, h4, h5⟩ := a1o hG
 exact ⟨h1, v, H1, h2, _, h3, ⟨w1, w2, d1, g1, s1, d2, g2, s2, w3, w4, w5, rfl⟩, h4, h5⟩
theorem wH (hG : Glob gH H) : Fn Tryz.prog 64 [] H fun r H' => r = .bool true ∧ St Tryz.prog H H' [] := by
 refine Fn.of_sw Tryz.func64 rfl (by kernel_rfl) fun l hl => ?_
 have hn : l.length = 80 := by rw [hl]; rfl
 clear hl
 simp (disch := omega) only [↓RA, RZ, simprocAttr]
 refine aB (a1h ((St.refl Tryz.prog H).gl hG)) ?_
 rintro r H1 ⟨o, rfl, ⟨v1, v2, v3, v4, v5, v6, v7, v8, v9, v10, v11, hoe⟩, ho, hT1⟩
 have hS1 := (St.refl Tryz.prog H).trans hT1
 simp only [RT] at hS1
 have q1 : rkE o ⟨[1, 1], 1, 0⟩ [bD [40], (0, 0)] = 0 := by subst hoe; exact uO _ _ _ _ _ _ _ _ _ _ _ 0 (by decide)
 have q2 : rkE o ⟨[1, 1], 1, 1⟩ [bD [40], (0, 0)] = 0 := by subst hoe; exact uO _ _ _ _ _ _ _ _ _ _ _ 1 (by decide)
 have q3 : a8j o ⟨[1, 1], 1, 0⟩ [bD [40], (0, 0)] = [(0, 40), (1, 40)] := by subst hoe; exact b1S _ _ _ _ _ _ _ _ _ _ _
 have q4 : tD o ⟨[1, 1], 1, 0⟩ [bD [40], (0, 0)] = [(0, 4), (1, 16)] := by subst hoe; exact a9z _ _ _ _ _ _ _ _ _ _ _
 have q5 : tD o ⟨[1, 1], 1, 1⟩ [bD [40], (0, 0)] = [(1, 16)] := by subst hoe; exact b0R _ _ _ _ _ _ _ _ _ _ _
 have q6 : o.ranks.length = 2 ∧ (aC o.ranks 1).num = 8 ∧ (aC o.ranks 1).den = 1 ∧ (aC o.ranks 1).first = 36 := by subst hoe; exact ⟨rfl, rfl, rfl, rfl⟩
 clear hoe
 have hG1 : ∀ z ∈ [(40 : Int)], isN z := fun z hz => by rw [List.mem_singleton.1 hz]; exact ⟨by decide, by decide⟩
 have hS0 := hS1
 have hG2 := hS0.gl hG
 simp (disch := omega) only [↓RA, RZ, simprocAttr]
 refine (St.refl Tryz.prog H1).eNew 4 [(.string ⟨#[]⟩), (.slice none 0 0), (.slice none 0 0), (.slice none 0 0)] rfl rfl rfl fW fun A1 H2 hS2 => ?_
 simp only [RT] at hS2
 simp (disch := omega) only [↓RA, RB, simprocAttr, hn]
 refine hS2.eStore 0 rfl [(.string o.name), o.rv, o.dv, o.cv] rfl (by simp [OC, (hS2.sl ho.1).cells.2.1, (hS2.sl ho.2.2.1).cells.2.1, (hS2.sl ho.2.2.2.2.1).cells.2.1]) fW (by simp) fun H3 hS3 => ?_
 simp only [RT] at hS3
 simp (disch := omega) only [↓RA, RB, simprocAttr]
 refine hS3.eSlice [I 40] wX a2G rfl rfl (by simp [Value.cells]) rfl rfl (by decide) (by decide) fun w1 H4 hS4 => ?_
 simp only [RT] at hS4
 simp (disch := omega) only [↓RA, RZ, simprocAttr, hn]
 refine aB (oP [40] hG1 w1 (hS4.slo 1 rfl (fun _ => rfl)) (by simp)) ?_
 rintro r H5 ⟨rfl, hT2⟩
 have hS5 := hS4.trans hT2
 simp only [RT] at hS5
 have hKo : ∀ x ∈ ([bD [40], (0, 0)] : List Nt), Nt.Ok x := by
  intro x hx
  simp only [List.mem_cons, List.not_mem_nil, or_false] at hx
  rcases hx with rfl | rfl <;> exact ⟨by decide, by decide⟩
 have hRo : (⟨[1, 1], 1, 0⟩ : Reg).Ok := ⟨by decide, by decide, by decide, by decide⟩
 have hRo1 : (⟨[1, 1], 1, 1⟩ : Reg).Ok := ⟨by decide, by decide, by decide, by decide⟩
 simp (disch := omega) only [↓RA, RZ, simprocAttr, hn]
 refine hS5.eNew 2 [(.int .u64 0), (.int .u64 0)] rfl rfl rfl eU fun A2 H6 hS6 => ?_
 simp only [RT] at hS6
 simp (disch := omega) only [↓RA, RB, simprocAttr, hn]
 refine hS6.eStore 2 rfl [(.int .u64 (bD [40]).1), (.int .u64 (bD [40]).2)] rfl rfl eU (by simp) fun H7 hS7 => ?_
 simp only [RT] at hS7
 simp (disch := omega) only [↓RA, RZ, simprocAttr, hn, hS7.ldA 2 rfl, b5R]
 refine hS7.eSlice [(.int .u64 (bD [40]).1), (.int .u64 (bD [40]).2), (.int .u64 0), (.int .u64 0)] a2q b0z rfl rfl (by simp [Value.cells]) rfl rfl (by decide) (by decide) fun w2 H8 hS8 => ?_
 simp only [RT] at hS8
 simp (disch := omega) only [↓RA, RB, simprocAttr, hn]
 refine hS8.eSlice [(.int .u64 1), (.int .u64 1)] b8h c2p rfl rfl (by simp [Value.cells]) rfl rfl (by decide) (by decide) fun w3 H9 hS9 => ?_
 simp only [RT] at hS9
 simp (disch := omega) only [↓RA, RZ, simprocAttr, hn, b0h (hS9.rd 4 rfl).cells]
 refine hS9.eNew 3 [(.slice none 0 0), (.int .u64 0), (.int .u64 0)] rfl rfl rfl kD fun A3 H10 hS10 => ?_
 simp only [RT] at hS10
 simp (disch := omega) only [↓RA, RB, simprocAttr, hn]
 refine hS10.eStore 5 rfl [w3, (.int .u64 1), (.int .u64 0)] rfl (by simp [OC, (hS10.rd 4 rfl).cells.2.1]) kD (by simp) fun H11 hS11 => ?_
 simp only [RT] at hS11
 simp (disch := omega) only [↓RA, RZ, simprocAttr, hn, hS11.ldA 0 rfl, hS11.ldA 5 rfl]
 have hS2 := hS11
 refine aB (a0x (hS11.gl hG2) o (ho.keep hS11) ⟨[1, 1], 1, 0⟩ w3 ⟨hS11.slo 4 rfl (fun _ => rfl), hRo⟩ w2 [bD [40], (0, 0)] ⟨hS11.slo 3 rfl (fun _ => rfl), by simp, hKo⟩) ?_
 rintro r H12 ⟨cv, rfl, hcx, hT3⟩
 have hS12 := hS11.trans hT3
 simp only [RT] at hS12
 rw [q3] at hcx
 rw [q1]
 have hcx2 := hcx.step (hS2.keptNew (H' := H12))
 obtain ⟨X, hBX, hS13⟩ := hS12.rebaseE (os := [⟨ptr A1 0 4, 0, _⟩, ⟨w1, 1, _⟩, ⟨ptr A2 0 2, 0, _⟩, ⟨w2, 2, _⟩, ⟨w3, 1, _⟩, ⟨ptr A3 0 3, 0, _⟩])
 simp (disch := omega) only [↓RA, RZ, simprocAttr, hn, hS13.ldA 0 rfl, hS13.ldA 5 rfl]
 have hS3 := hS13
 refine aB (mH ((hS12.unbaseE hBX hS13).gl hG2) o (ho.keep (hS12.unbaseE hBX hS13)) ⟨[1, 1], 1, 0⟩ w3 ⟨hS13.slo 4 rfl (fun _ => rfl), hRo⟩ w2 [bD [40], (0, 0)] ⟨hS13.slo 3 rfl (fun _ => rfl), by simp, hKo⟩) ?_
 rintro r H13 ⟨pv, rfl, hpx, hT4⟩
 have hS14 := hS13.trans hT4
 simp only [RT] at hS14
 rw [q4] at hpx
 rw [q1]
 have hcx3 := hcx2.step (hS14.kept hBX)
 have hpx2 := hpx.step (hS3.keptNew (H' := H13))
 obtain ⟨Y, hBY, hS15⟩ := hS14.rebaseE (os := [⟨ptr A1 0 4, 0, _⟩, ⟨w1, 1, _⟩, ⟨ptr A2 0 2, 0, _⟩, ⟨w2, 2, _⟩, ⟨w3, 1, _⟩, ⟨ptr A3 0 3, 0, _⟩])
 simp (disch := omega) only [↓RA, RZ, simprocAttr, hn]
 refine hS15.eStore 5 rfl [(.int .u64 1)] rfl rfl b2L (by simp) fun H14 hS16 => ?_
 simp only [RT] at hS16
 simp (disch := omega) only [↓RA, RZ, simprocAttr, hn, hS16.ldA 0 rfl, hS16.ldA 5 rfl]
 refine aB (a4N ((hS12.unbaseE hBX (hS14.unbaseE hBY hS16)).gl hG2) o (ho.keep (hS12.unbaseE hBX (hS14.unbaseE hBY hS16))) ⟨[1, 1], 1, 1⟩ w3 ⟨hS16.slo 4 rfl (fun _ => rfl), hRo1⟩ w2 [bD [40], (0, 0)] ⟨hS16.slo 3 rfl (fun _ => rfl), by simp, hKo⟩ q2 1 16 q5 (by rw [q6.1]; decide) (by decide) ⟨q6.2.1, q6.2.2.1, by rw [q6.2.2.2]; decide, by rw [q6.2.2.2]; decide⟩) ?_
 rintro r H15 ⟨dv, rfl, hT5⟩
 have hS17 := hS16.trans hT5
 simp only [RT] at hS17
 have hcx4 := hcx3.step (hS17.kept hBY)
 have hpx4 := hpx2.step (hS17.kept hBY)
 simp (disch := omega) only [↓RA, RZ, simprocAttr, hn, lZ]
 refine hS17.eSlice [I 0, I 40, I 1, I 40] jR vR rfl rfl (by simp [Value.cells]) rfl rfl (by decide) (by decide) fun w4 H16 hS18 => ?_
 simp only [RT] at hS18
 simp (disch := omega) only [↓RA, RZ, simprocAttr, hn]
 refine aB (a4U cv w4 [(0, 40), (1, 40)] [(0, 40), (1, 40)] (hcx3.step (hS18.kept hBY)).1 (hS18.slo 7 rfl cH) (by simp) (by simp)) ?_
 rintro r H17 ⟨rfl, hT6⟩
 have hS19 := hS18.trans hT6
 simp only [RT] at hS19
 rw [decide_eq_true rfl]
 simp (disch := omega) only [↓RA, RZ, simprocAttr, hn, vY]
 refine hS19.eSlice [I 0, I 4, I 1, I 16] b1H c1x rfl rfl (by simp [Value.cells]) rfl rfl (by decide) (by decide) fun w5 H18 hS20 => ?_
 simp only [RT] at hS20
 simp (disch := omega) only [↓RA, RZ, simprocAttr, hn]
 refine aB (a1q pv w5 [(0, 4), (1, 16)] [(0, 4), (1, 16)] (hpx2.step (hS20.kept hBY)).1 (hS20.slo 8 rfl cH) (by simp) (by simp)) ?_
 rintro r H19 ⟨rfl, hT7⟩
 have hS21 := hS20.trans hT7
 simp only [RT] at hS21
 rw [decide_eq_true rfl]
 simp (disch := omega) only [↓RA, RZ, simprocAttr, hn, vY, xY]
 refine hS21.eSlice [I 1, I 16, I 52] a9V b5V rfl rfl (by simp [Value.cells]) rfl rfl (by decide) (by decide) fun w6 H20 hS22 => ?_
 simp only [RT] at hS22
 simp (disch := omega) only [↓RA, RZ, simprocAttr, hn]
 have hhe : [a2P o (1, 16)] = [((1, 16), (52 : Int))] := by
  unfold a2P
  rw [show ((1, 16) : Ct).1.toNat = 1 from rfl, q6.2.2.2]
  rfl
 refine aB (a5S dv w6 [a2P o (1, 16)] [((1, 16), 52)] (hS22.slo 6 rfl (fun _ => rfl)) (hS22.slo 9 rfl (fun _ => rfl)) (by simp) (by simp)) ?_
 rintro r H21 ⟨rfl, hT8⟩
 have hS23 := hS22.trans hT8
 simp only [RT] at hS23
 rw [decide_eq_true hhe]
 simp (disch := omega) only [↓RA, RZ, simprocAttr, hn, c3f]
 exact hS0.forget.trans (hS12.unbaseE hBX (hS14.unbaseE hBY hS23)).forget
end Go.Ds
namespace Go.Ds
open Go.Proofs Go.Shelf Go.RowKit Go.Lib Go.Sort
def sm (x : Int × Int) : Prop := -1000000000 ≤ x.1 ∧ x.1 ≤ 1000000000 ∧ -1000000000 ≤ x.2 ∧ x.2 ≤ 1000000000
abbrev Sm := {x : Int × Int // sm x}
instance : Inhabited Sm := ⟨⟨(0, 0), by unfold sm; decide⟩⟩
def cfd (x y : Sm) : Int := if x.1.1 ≠ y.1.1 then x.1.1 - y.1.1 else x.1.2 - y.1.2
theorem ltd (x y : Sm) : ltOf cfd x y = decide (x.1.1 < y.1.1 ∨ (x.1.1 = y.1.1 ∧ x.1.2 < y.1.2)) := by
 unfold ltOf cfd
 congr 1
 apply propext
 split <;> omega
theorem c3d : SWO (ltOf cfd) where
 irrefl x := by rw [ltd]; simp
 trans x y z h1 h2 := by rw [ltd] at *; simp at *; omega
 ntrans x y z h1 h2 := by rw [ltd] at *; simp at *; omega
theorem c3n (x y : Sm) (h1 : ltOf cfd x y = false) (h2 : ltOf cfd y x = false) : x = y := by
 rw [ltd] at *
 simp at h1 h2
 apply Subtype.ext
 apply Prod.ext <;> omega
theorem b7F (x y : Sm) : (!(ltOf cfd) y x) = tV x.1 y.1 := by
 rw [ltd, ← a4C]
 simp only [lt2]
theorem b6c (l : Array Sm) : flatK (fun x : Sm => cC x.1) 2 l = flatK cC 2 (l.map (·.1)) := by
 unfold flatK
 rw [Array.size_map]
 congr 1
 funext t
 congr 2
 by_cases h : t / 2 < l.size
 ·simp [h]
 ·simp [h]
  rfl
theorem b7Z (w : World) (cA off n : Nat) (l : List Sm) (os : Array Obj) : sortWorldK (fun x : Sm => cC x.1) 2 w cA off n l.toArray os = sortWorldK cC 2 w cA off n (l.map (·.1)).toArray os := by
 unfold sortWorldK putRowK
 rw [b6c, List.map_toArray]
theorem c1K (l : List (Int × Int)) (h : ∀ x ∈ l, sm x) : (l.attachWith sm h).map (·.1) = l := by
 rw [List.map_attachWith]
 exact List.attach_map_subtype_val l
theorem b6L (l : List Sm) : (l.mergeSort fun x y => !(ltOf cfd) y x).map (·.1) = (l.map (·.1)).mergeSort tV :=
 List.map_mergeSort fun x _ y _ => b7F x y
theorem c2c (kc : FuncId) (eg : ∀ args w, (callFunc kc args).run Tryz.prog w = .ok (.enter kc args) w) (hf : ∀ x y : Sm, Fn Tryz.prog kc [.agg #[I x.1.1, I x.1.2], .agg #[I y.1.1, I y.1.2]] .nil fun r H' => r = I (cfd x y) ∧ St Tryz.prog (.nil : Heap) H' []) : wO Tryz.prog 67 kc sm :=
 fun cA off cap d w hs hH hblk hsz => by
  have hd : (d.toList.attachWith sm hs).toArray.map (·.1) = d := by
   rw [List.map_toArray, c1K]
  have hl : (d.toList.attachWith sm hs).toArray.size = d.size := by simp
  have hH' : HoldsK (fun x : Sm => cC x.1) 2 w cA off (d.toList.attachWith sm hs).toArray := by
   unfold HoldsK at hH ⊢
   rw [b6c, hd]
   exact hH
  have h := AnyQ.slices_SortFunc_total Tryz.sort67 2 Tryz.isAgg52 Tryz.sizeOf52 (fun x : Sm => cC x.1) (fun _ => rfl) (fun x => tZ x.1) cfd c3d kc #[] cA off cap (d.toList.attachWith sm hs).toArray w eg (a2b (fun x : Sm => x.1) cfd hf cA off _ w) hH' hblk (by rw [hl]; exact hsz) c3n
  rw [hl] at h
  refine h.mono ?_
  rintro e w' ⟨h1, n, os, h2⟩
  exact ⟨h1, n, os, by rw [h2, b7Z, List.toList_toArray, b6L, c1K]⟩
def b3G (K kc : FuncId) : Prop := ∀ {H : Heap} {B : Base} {os : List Ob} (hS : St Tryz.prog B H os) (i : Nat) {v : Value} {es : List (Int × Int)} (ho : os[i]? = some ⟨v, 2, pr es⟩) (hl : es.length < 100000000000) (hsm : ∀ x ∈ es, sm x) {Q : Value → Heap → Prop}
    (h : ∀ H1, St Tryz.prog B H1 (os.set i ⟨v, 2, pr (mN es)⟩) → Q (.tuple #[]) H1), oM Tryz.prog K [v, .func (.func kc) #[] #[]] H Q
section
variable {H : Heap}
theorem b2y (x y : Sm) : Fn Tryz.prog 68 [.agg #[I x.1.1, I x.1.2], .agg #[I y.1.1, I y.1.2]] H fun r H' => r = I (cfd x y) ∧ St Tryz.prog H H' [] := by
 obtain ⟨⟨x1, x2⟩, hx⟩ := x
 obtain ⟨⟨y1, y2⟩, hy⟩ := y
 unfold sm at hx hy
 simp only at hx hy ⊢
 refine Fn.of_sw Tryz.func68 rfl (by kernel_rfl) fun l hl => ?_
 have hn : l.length = 20 := by rw [hl]; rfl
 have g0 : get l 0 = (.agg #[I x1, I x2]) := by rw [hl]; rfl
 have g1 : get l 1 = (.agg #[I y1, I y2]) := by rw [hl]; rfl
 clear hl
 simp (disch := omega) only [↓RA, RB, simprocAttr, g0]
 refine (St.refl Tryz.prog H).eNew 2 [I x1, I x2] rfl rfl rfl mV fun A1 H1 hS1 => ?_
 simp only [RT] at hS1
 simp (disch := omega) only [↓RA, RB, simprocAttr, g1]
 refine hS1.eNew 2 [I y1, I y2] rfl rfl rfl mV fun A2 H2 hS2 => ?_
 simp only [RT] at hS2
 simp (disch := omega) only [↓RA, RZ, simprocAttr, hn, hS2.ld 0 rfl, hS2.ld 1 rfl]
 refine aA (fun q => ?_) (fun q => ?_)
 ·simp (disch := omega) only [↓RA, RZ, simprocAttr, hn, hS2.ld 0 rfl, hS2.ld 1 rfl, c0X, q]
  exact ⟨by unfold cfd; rw [if_pos q], hS2.forget⟩
 simp (disch := omega) only [↓RA, RZ, simprocAttr, hn, hS2.ld 0 rfl, hS2.ld 1 rfl, c0X, q]
 exact ⟨by unfold cfd; rw [if_neg q], hS2.forget⟩
end
theorem b9p : b3G 67 68 := fun hS i _ _ ho hl hsm _ h => qD (c2c 68 (enters_of Tryz.func68 (by kernel_rfl) rfl) fun x y => b2y x y) b6A b8d hS i ho hl hsm h
end Go.Ds
namespace Go.Ds
open Go.Proofs
variable {H : Heap}
set_option maxRecDepth 10000
set_option maxHeartbeats 1000000
theorem a5M {o : Org} (hf : o.Fine) (rg : Reg) : ∀ l : List Ct, (l.flatMap (ofF o rg)).length ≤ l.length * 1000000
 | [] => by simp
 | c :: l => by
   have h1 := b0n hf rg c
   have h2 := a5M hf rg l
   rw [List.flatMap_cons, List.length_append, List.length_cons]
   omega
theorem uA {α β : Type} {f g : α → List β} : ∀ {l : List α}, (∀ c ∈ l, f c = g c) → l.flatMap f = l.flatMap g
 | [], _ => rfl
 | c :: l, h => by
   rw [List.flatMap_cons, List.flatMap_cons, h c (List.mem_cons_self ..), uA fun x hx => h x (List.mem_cons_of_mem _ hx)]
theorem b0C (hG : Glob gH H) (p : Pln) (hp : p.In H) (hk : p.Ok) (b : Nat → Nat) (hb : ∀ i, b i < 256) (c : Nat → Nat) (hc : ∀ i, c i < 65536) :
 Fn Tryz.prog 14 [.agg #[p.rv, p.dv, p.cv], .agg #[.int .u8 (b 0), .int .u8 (b 1), .int .u8 (b 2), .int .u8 (b 3), .int .u8 (b 4)], .agg #[.int .u16 (c 0), .int .u16 (c 1), .int .u16 (c 2)]] H fun r H' => r = .bool true ∧ St Tryz.prog H H' [] := by
 refine Fn.of_sw Tryz.func14 rfl (by kernel_rfl) fun l hl => ?_
 have hn : l.length = 79 := by rw [hl]; rfl
 have g0 : get l 0 = (.agg #[p.rv, p.dv, p.cv]) := by rw [hl]; rfl
 have g1 : get l 1 = (.agg #[(.int .u8 (b 0)), (.int .u8 (b 1)), (.int .u8 (b 2)), (.int .u8 (b 3)), (.int .u8 (b 4))]) := by rw [hl]; rfl
 have g2 : get l 2 = (.agg #[(.int .u16 (c 0)), (.int .u16 (c 1)), (.int .u16 (c 2))]) := by rw [hl]; rfl
 clear hl
 simp (disch := omega) only [↓RA, RB, simprocAttr, g0]
 refine (St.refl Tryz.prog H).eNew 3 [p.rv, p.dv, p.cv] rfl rfl (by simp [((St.refl Tryz.prog H).sl hp.1).cells.2.1, ((St.refl Tryz.prog H).sl hp.2.1).cells.2.1, ((St.refl Tryz.prog H).sl hp.2.2.2.1).cells.2.1]) b4T fun A1 H1 hS1 => ?_
 simp only [RT] at hS1
 simp (disch := omega) only [↓RA, RB, simprocAttr, g1]
 refine hS1.eNew 5 [(.int .u8 (b 0)), (.int .u8 (b 1)), (.int .u8 (b 2)), (.int .u8 (b 3)), (.int .u8 (b 4))] rfl rfl rfl b7z fun A2 H2 hS2 => ?_
 simp only [RT] at hS2
 simp (disch := omega) only [↓RA, RB, simprocAttr, g2]
 refine hS2.eNew 3 [(.int .u16 (c 0)), (.int .u16 (c 1)), (.int .u16 (c 2))] rfl rfl rfl b1Y fun A3 H3 hS3 => ?_
 simp only [RT] at hS3
 simp (disch := omega) only [↓RA, RZ, simprocAttr]
 refine aB (wH (hS3.gl hG)) ?_
 rintro r H4 ⟨rfl, hT1⟩
 have hS4 := hS3.trans hT1
 simp only [RT] at hS4
 simp (disch := omega) only [↓RA, RZ, simprocAttr, hn, hS4.ldA 0 rfl]
 refine aB (b4x p (hp.keep hS4)) ?_
 rintro r H5 ⟨rfl, hT2⟩
 have hS5 := hS4.trans hT2
 simp only [RT] at hS5
 simp (disch := omega) only [↓RA, RZ, simprocAttr, hn]
 refine bU (fun h1 => ?_) (fun h1 => ?_)
 ·simp (disch := omega) only [↓RA, RZ, simprocAttr]
  refine aB (wH (hS5.gl hG)) ?_
  rintro r H6 ⟨rfl, hT3⟩
  have hS6 := hS5.trans hT3
  simp only [RT] at hS6
  simp (disch := omega) only [↓RA, RZ, simprocAttr, hn, b9S, h1]
  exact hS6.forget
 have hf : nV p = true := by simpa using h1
 simp (disch := omega) only [↓RA, RZ, simprocAttr, hn, hS5.ldA 0 rfl, h1]
 refine aB (a8v (hS5.gl hG) p (hp.keep hS5) hk hf) ?_
 rintro r H7 ⟨o, rfl, ho, hm, hT4⟩
 have hS7 := hS5.trans hT4
 simp only [RT] at hS7
 have hS0 := hS7
 have hG2 := hS0.gl hG
 have hoe := hm.ok.organE
 have hrg := a7X b hoe
 have hf0 := Org.fine hoe
 obtain ⟨k1, k2, k3⟩ := hm.small hf
 have hok := a6Y (o := o) hb k2
 have hkl := kS o c
 have hkO := a2W hf0 c
 have hkE := a4i hoe c
 simp (disch := omega) only [↓RA, RZ, simprocAttr]
 refine (St.refl Tryz.prog H7).eNew 4 [(.string ⟨#[]⟩), (.slice none 0 0), (.slice none 0 0), (.slice none 0 0)] rfl rfl rfl fW fun A4 H8 hS8 => ?_
 simp only [RT] at hS8
 simp (disch := omega) only [↓RA, RB, simprocAttr, hn, h1]
 refine hS8.eStore 0 rfl [(.string o.name), o.rv, o.dv, o.cv] rfl (by simp [OC, (hS8.sl ho.1).cells.2.1, (hS8.sl ho.2.2.1).cells.2.1, (hS8.sl ho.2.2.2.2.1).cells.2.1]) fW (by simp) fun H9 hS9 => ?_
 simp only [RT] at hS9
 simp (disch := omega) only [↓RA, RB, simprocAttr, h1]
 refine Wp.drwT cD [(3, 0), (4, 0)] (by kernel_rfl) (by kernel_rfl) ?_
 simp (disch := omega) only [↓RA, RZ, simprocAttr, hn, hS9.ldA 0 rfl, ((hS0.var 1 rfl).keep hS9.keep).ldA]
 have hD := a4e o (ho.keep hS9) k1 k2 k3 b hb
 generalize mO o b = rg at hrg hok hD
 refine aB (hD) ?_
 rintro r H10 ⟨sv, rfl, hT5⟩
 have hS10 := hS9.trans hT5
 simp only [RT] at hS10
 simp (disch := omega) only [↓RA, RZ, simprocAttr, hn, hS10.ldA 0 rfl, ((hS0.var 2 rfl).keep hS10.keep).ldA]
 have hP := a5b o (ho.keep hS10) hf0 c hc
 generalize gO o c = ks at hkl hkO hkE hP
 refine aB (hP.tr) ?_
 rintro r H11 ⟨-, hT6⟩
 have hS11 := hS10.trans hT6
 simp only [RT] at hS11
 obtain ⟨kv, rfl⟩ : ∃ w, w = r := ⟨r, rfl⟩
 simp (disch := omega) only [↓RA, RZ, simprocAttr]
 refine hS11.eNew 3 [(.slice none 0 0), (.int .u64 0), (.int .u64 0)] rfl rfl rfl kD fun A5 H12 hS12 => ?_
 simp only [RT] at hS12
 simp (disch := omega) only [↓RA, RB, simprocAttr, hn]
 refine hS12.eStore 3 rfl [sv, (.int .u64 rg.cpl), (.int .u64 rg.off)] rfl (by simp [OC, (hS12.rd 1 rfl).cells.2.1]) kD (by simp) fun H13 hS13 => ?_
 simp only [RT] at hS13
 simp (disch := omega) only [↓RA, RZ, simprocAttr, hn, hS9.ldA 0 rfl, hS13.ldA 0 rfl, ((hS0.var 2 rfl).keep hS9.keep).ldA, hS13.ldA 3 rfl]
 have hrk : rkE o rg ks = 0 := by unfold rkE; rw [if_neg (by rw [hrg]; simp)]; exact hkE
 have hS1 := hS13
 refine aB (mH (hS13.gl hG2) o (ho.keep hS13) rg sv ⟨hS13.slo 1 rfl (fun _ => rfl), hok⟩ kv ks ⟨hS13.slo 2 rfl (fun _ => rfl), by omega, hkO⟩) ?_
 rintro r H14 ⟨pv, rfl, hpx, hT7⟩
 have hS14 := hS13.trans hT7
 simp only [RT] at hS14
 rw [hrk]
 have hpx2 := hpx.step (hS1.keptNew (H' := H14))
 obtain ⟨X, hBX, hS15⟩ := hS14.rebaseE (os := [⟨ptr A4 0 4, 0, _⟩, ⟨sv, 1, _⟩, ⟨kv, 2, _⟩, ⟨ptr A5 0 3, 0, _⟩])
 simp (disch := omega) only [↓RA, RZ, simprocAttr, hn, hS15.ldA 0 rfl]
 refine aB (a0h ((hS14.unbaseE hBX hS15).gl hG2) o (ho.keep (hS14.unbaseE hBX hS15)) kv ks ⟨hS15.slo 2 rfl (fun _ => rfl), by omega, hkO⟩ hkE) ?_
 rintro r H15 ⟨cv, rfl, hT8⟩
 have hS16 := hS15.trans hT8
 simp only [RT] at hS16
 simp (disch := omega) only [↓RA, RZ, simprocAttr, hn, (hS16.slo 4 rfl cH).len]
 have hplc := rJ hkO hkE
 have hpll := rA hkE
 have hsp : tD o rg ks = dT o rg (bC ks) := by unfold tD; rw [if_pos hrk]
 have hS17 := hS16.nil 1
 simp only [RT] at hS17
 refine Wp.loopS (fun n l H' => l.length = 79 ∧ get l 7 = (ptr A4 0 4) ∧ get l 8 = (ptr A5 0 3) ∧ get l 10 = pv ∧ get l 54 = cv ∧ get l 55 = I (bC ks).length ∧ ∃ (i : Nat) (ov : Value), (n + i = (bC ks).length) ∧ get l 56 = I i ∧ get l 14 = ov ∧ St Tryz.prog X H' [⟨ptr A4 0 4, 0, [(.string o.name), o.rv, o.dv, o.cv]⟩, ⟨sv, 1, rg.stops.flatMap (one u64)⟩, ⟨kv, 2, ks.flatMap ntc⟩, ⟨ptr A5 0 3, 0, [sv, (.int .u64 rg.cpl), (.int .u64 rg.off)]⟩, ⟨cv, 2, pr (bC ks)⟩, ⟨ov, 2, pr (((bC ks).take i).flatMap (ofF o rg))⟩]) (bC ks).length ?_ ?_
 ·simp (disch := omega) only [RB, RC, simprocAttr, hn]
  exact ⟨0, .slice none 0 0, by omega, rfl, rfl, hS17⟩
 rintro n l H16 ⟨hn, g7, g8, kV, g54, g55, i, ov, hi, g56, g14, hS18⟩
 simp (disch := omega) only [↓RA, RB, simprocAttr, hn, g55, g56]
 refine aA (fun q1 => ?_) (fun q1 => ?_)
 ·simp (disch := omega) only [↓RA, RZ, simprocAttr, hn, g54, g56, (hS18.slo 4 rfl cH).idx, (hS18.slo 4 rfl cH).ldA, cC, q1]
  refine hS18.eNew 2 [I 0, I 0] rfl rfl rfl kP fun A6 H17 hS19 => ?_
  simp only [RT] at hS19
  simp (disch := omega) only [↓RA, RZ, simprocAttr, hn, q1]
  refine hS19.eStore 6 rfl [I (aC (bC ks) i).1, I (aC (bC ks) i).2] rfl rfl kP (by simp) fun H18 hS20 => ?_
  simp only [RT] at hS20
  simp (disch := omega) only [↓RA, RZ, simprocAttr, hn, g7, g8, hS20.ldA 0 rfl, hS20.ldA 3 rfl, hS20.ldA 6 rfl, q1]
  have hci := hplc _ (aF (xs := (bC ks)) (j := i) (by omega))
  have h1e : uU o rg (aC (bC ks) i) = 0 := by unfold uU; rw [if_neg (by rw [hrg]; simp)]; exact (iZ o _).2 hci
  have htk := dW (bC ks) i (by omega)
  have hacc := a5M hf0 rg ((bC ks).take i)
  have hof := b0n hf0 rg (aC (bC ks) i)
  have hlt := List.length_take_le i (bC ks)
  refine aB (c0s o (ho.keep (hS14.unbaseE hBX hS20)) rg sv ⟨hS20.slo 1 rfl (fun _ => rfl), hok⟩ (aC (bC ks) i)) ?_
  rintro r H19 ⟨qv, rfl, hqx, hT9⟩
  have hS21 := hS20.trans hT9
  simp only [RT] at hS21
  rw [h1e]
  simp (disch := omega) only [↓RA, RZ, simprocAttr, hn, g14, q1]
  refine hS21.eAppend 5 rfl hqx.1.rd b1H (by rw [aJ, show ((ofF o rg (aC (bC ks) i)).flatMap cC).length = (ofF o rg (aC (bC ks) i)).length * 2 from aJ _]; omega) fun w1 H20 hS22 => ?_
  simp only [RT] at hS22
  simp (disch := omega) only [↓RA, RZ, simprocAttr, hn, g7, g8, kV, g54, g55, g56, q1]
  refine ⟨n - 1, by omega, i + 1, w1, by omega, by simp, rfl, ?_⟩
  rw [htk, List.flatMap_append, bW, List.flatMap_cons, List.flatMap_nil, List.append_nil]
  exact hS22.pick [0, 1, 2, 3, 4, 5] (by decide) rfl
 simp (disch := omega) only [↓RA, RZ, simprocAttr, hn, g14, q1]
 have hii : i = (bC ks).length := by omega
 rw [hii, List.take_length] at hS18
 have hacc := a5M hf0 rg (bC ks)
 have hLL : ((bC ks).flatMap (ofF o rg)).length < 100000000000 := by omega
 have hsm : ∀ x ∈ (bC ks).flatMap (ofF o rg), sm x := fun x hx => by
  obtain ⟨c, _, hx⟩ := List.mem_flatMap.1 hx
  exact (b3H hx).small hf0 ho
 refine b9p hS18 5 rfl hLL hsm fun HS hSS => ?_
 simp only [List.set_cons_succ, List.set_cons_zero] at hSS
 simp (disch := omega) only [↓RA, RZ, simprocAttr, hn, kV, g14, q1]
 have hM1 := hSS.pick (os' := [⟨ov, 2, _⟩]) [5] (by decide) rfl
 have hR1 := hSS.pick (os' := [⟨ov, 2, _⟩, ⟨ptr A4 0 4, 0, _⟩, ⟨sv, 1, _⟩, ⟨kv, 2, _⟩, ⟨ptr A5 0 3, 0, _⟩, ⟨cv, 2, _⟩]) [5, 0, 1, 2, 3, 4] (by decide) rfl
 refine aB (lR hM1.rebase (by rw [eK]; exact hLL)) ?_
 rintro r H21 ⟨rest, hb, hrd, hT10⟩
 have hS23 := hR1.frame hT10
 simp only [RT] at hS23
 have hrr := hrd _ (hS23.rd 0 rfl)
 have hrc := hrr.cells
 simp (disch := omega) only [↓RA, RZ, simprocAttr, hn, q1]
 have hone : ∀ c ∈ (bC ks), uU o rg c = 0 := fun c hc => by unfold uU; rw [if_neg (by rw [hrg]; simp)]; exact (iZ o c).2 (hplc c hc)
 have hun : dd (mN ((bC ks).flatMap (ofF o rg))) = dT o rg (bC ks) := by
  rw [uA (g := fun c => dT o rg [c]) fun c hc => by unfold ofF; rw [if_pos (hone c hc)]]
  exact a1b hf0 rg (bC ks)
 rw [hun] at hrr
 rw [hsp] at hpx2
 have hspl := a8p hf0 rg hpll (oY hplc)
 refine aB (a1q pv r (dT o rg (bC ks)) (dT o rg (bC ks)) (hpx2.step (hS23.kept hBX)).1 ⟨hrr, cH, by decide⟩ (by omega) (by omega)) ?_
 rintro r H22 ⟨rfl, hT11⟩
 have hS24 := hS23.trans hT11
 simp only [RT] at hS24
 rw [decide_eq_true rfl]
 simp (disch := omega) only [↓RA, RZ, simprocAttr, hn, b9S, q1]
 exact hS0.forget.trans (hS14.unbaseE hBX hS24).forget
end Go.Ds
