/-
  A part of the proof of SoundDiffers.
-/
import Derived.Test.YtnokpoinacbjiaaGreatDoorVJ
import Derived.Test.YtnokpoinacbjiaaGreatDoorVD
import Derived.Test.YtnokpoinacbjiaaGreatDoorVE
set_option linter.unusedVariables false
set_option linter.unusedSimpArgs false
set_option linter.defProp false
set_option linter.unusedSectionVars false
namespace Go.Ds
open Go.Proofs Go.ChangeShapes Go.WideShapes Go.RowKit Go.Deep
set_option maxRecDepth 10000
section
variable {H0 : Type} {enc : TypeId × Value → H0} {w : World} {base n : Nat} {spare : Nat → Bool} {lG : Bool} {x : DataW H0 × List MemPlace}
end
section
variable {H0 : Type} {enc : TypeId × Value → H0} {w : World} {base : Nat} {lG : Bool}
end
end Go.Ds
namespace Go.Ds
open Go.Proofs
set_option maxRecDepth 10000
def wZ (x y : Int × Int) : Prop := x.1 < y.1 ∨ (x.1 = y.1 ∧ x.2 < y.2)
theorem a1b {x : Int × Int} : ¬ wZ x x := by unfold wZ; omega
theorem a0n {x y z : Int × Int} (h : wZ x y) (k : wZ y z) : wZ x z := by unfold wZ at *; omega
theorem vP : ∀ (l m : List (Int × Int)), l.Pairwise wZ → m.Pairwise wZ → (∀ x, x ∈ l ↔ x ∈ m) → l = m
 | [], [], _, _, _ => rfl
 | [], b :: m, _, _, h => absurd ((h b).2 (dE ..)) dZ
 | a :: l, [], _, _, h => absurd ((h a).1 (dE ..)) dZ
 | a :: l, b :: m, hl, hm, h => by
   rw [gL] at hl hm
   have hab : a = b := by
    rcases dN.1 ((h a).1 (dE ..)) with e | e
    ·exact e
    ·rcases dN.1 ((h b).2 (dE ..)) with e2 | e2
     ·exact e2.symm
     ·exact absurd (a0n (hm.1 a e) (hl.1 b e2)) a1b
   subst hab
   congr 1
   refine vP l m hl.2 hm.2 fun x => ?_
   constructor
   ·intro hx
    rcases dN.1 ((h x).1 (dM _ hx)) with e | e
    ·subst e
     exact absurd (hl.1 x hx) a1b
    ·exact e
   ·intro hx
    rcases dN.1 ((h x).2 (dM _ hx)) with e | e
    ·subst e
     exact absurd (hm.1 x hx) a1b
    ·exact e
theorem b4V {es : List (Int × Int)} (h : es.Pairwise fun a b => le2 a b = true) {i j : Nat} (hij : i < j) (hj : j < es.length) : le2 (iA es i) (iA es j) = true := by
 rw [jN _ _ (by omega), jN _ _ hj]
 exact eF.1 h i j (by omega) hj hij
theorem a8R {es : List (Int × Int)} (h : es.Pairwise fun a b => le2 a b = true) : ∀ m, m ≤ es.length → (yU es m).Pairwise wZ ∧ ∀ x, x ∈ yU es m ↔ ∃ j, j < m ∧ iA es j = x
 | 0, _ => ⟨by simp [yU], fun x => by simp [yU]⟩
 | m + 1, hm => by
   obtain ⟨h1, h2⟩ := a8R h m (by omega)
   rw [rU]
   by_cases hc : m = 0 ∨ iA es m ≠ iA es (m - 1)
   ·rw [if_pos hc]
    refine ⟨?_, fun x => ?_⟩
    ·rw [eX]
     refine ⟨h1, by simp, fun a ha b hb => ?_⟩
     obtain ⟨j, hj, rfl⟩ := (h2 a).1 ha
     obtain rfl := dJ.1 hb
     have h3 := (nE _ _).1 (b4V h hj (by omega))
     rcases hc with hc | hc
     ·omega
     ·by_cases he : j = m - 1
      ·subst he
       have hne : ¬ (iA es (m - 1) = iA es m) := fun e => hc e.symm
       rw [Prod.ext_iff] at hne
       unfold wZ
       omega
      ·have h4 := (nE _ _).1 (b4V h (show j < m - 1 by omega) (by omega))
       have h5 := (nE _ _).1 (b4V h (show m - 1 < m by omega) (by omega))
       have hne : ¬ (iA es (m - 1) = iA es m) := fun e => hc e.symm
       rw [Prod.ext_iff] at hne
       unfold wZ
       omega
    ·rw [dG, h2, dJ]
     constructor
     ·rintro (⟨j, hj, e⟩ | e)
      ·exact ⟨j, by omega, e⟩
      ·exact ⟨m, by omega, e.symm⟩
     ·rintro ⟨j, hj, e⟩
      rcases dm.1 hj with e2 | e2
      ·exact .inl ⟨j, e2, e⟩
      ·subst e2
       exact .inr e.symm
   ·rw [if_neg hc, dh]
    refine ⟨h1, fun x => ?_⟩
    rw [h2]
    constructor
    ·rintro ⟨j, hj, e⟩
     exact ⟨j, by omega, e⟩
    ·rintro ⟨j, hj, e⟩
     rcases dm.1 hj with e2 | e2
     ·exact ⟨j, e2, e⟩
     ·subst e2
      have hc' : ¬ (j = 0) ∧ iA es j = iA es (j - 1) := ⟨fun e => hc (.inl e), fN fun e => hc (.inr e)⟩
      exact ⟨j - 1, by omega, by rw [← hc'.2]; exact e⟩
theorem a5z (l : List (Int × Int)) : (dd (oT l)).Pairwise wZ := (a8R (sM l) _ (de _)).1
theorem sY {l : List (Int × Int)} {x : Int × Int} : x ∈ dd (oT l) ↔ x ∈ l := by
 unfold dd
 rw [(a8R (sM l) _ (de _)).2 x, ← (mP l).mem_iff]
 constructor
 ·rintro ⟨j, hj, rfl⟩
  exact iC hj
 ·intro hx
  obtain ⟨j, hj, e⟩ := dA.1 hx
  exact ⟨j, hj, by rw [jN _ _ hj]; exact e⟩
theorem b1e {l m : List (Int × Int)} (h : ∀ x, x ∈ l ↔ x ∈ m) : dd (oT l) = dd (oT m) :=
 vP _ _ (a5z l) (a5z m) fun x => by rw [sY, sY, h]
inductive Star {α : Type} (R : α → α → Prop) : α → α → Prop
 | refl (a : α) : Star R a a
 | tail {a b c : α} : Star R a b → R b c → Star R a c
theorem a1Y (o : Org) (cp : Nat) (l : List Ct) : Que o (kJ o cp l) := by
 unfold kJ
 have h : ∀ (l : List Ct) (q : List Ct), Que o q → Que o (l.foldl (fun q c => stepF o cp false c q) q) := by
  intro l
  induction l with
  | nil => exact fun q h => h
  | cons a l ih => exact fun q h => ih _ (h.stepF cp false a)
 exact h l [] (Que.nil o)
theorem a3Q (o : Org) (r : Reg) (l : List Ct) : (kD o r l).Pairwise wZ := a5z _
def IsP (o : Org) (p : Ct) : Prop := 0 ≤ p.1 ∧ p.1 < o.ranks.length ∧ 0 ≤ p.2 ∧ p.2 < (iA o.ranks p.1.toNat).wind.length
theorem a8F {rs : List Rk} {s : Stp} {key : Int} {p : Ct} (h : p ∈ pN rs s key) : 0 ≤ p.1 ∧ p.1 < rs.length ∧ 0 ≤ p.2 ∧ p.2 < (iA rs p.1.toNat).wind.length := by
 unfold pN at h
 obtain ⟨d, hd, rfl⟩ := du.1 (sY.1 h)
 have hh := (ey.1 hd).2
 unfold qP at hh
 rw [cW, cW, dC, decide_eq_true_eq, decide_eq_true_eq, decide_eq_false_iff_not] at hh
 obtain ⟨⟨h1, h2⟩, h3⟩ := hh
 have e : (mD rs d key).1 = d.rank := by unfold mD; rw [if_neg h1]
 rw [e]
 exact ⟨by omega, by omega, h2, h3⟩
theorem a1t {o : Org} {r : Reg} {c p : Ct} (h : p ∈ mV o r c) : IsP o p := by
 unfold mV at h
 obtain ⟨i, _, h⟩ := dS.1 h
 split at h
 ·exact a8F h
 ·exact absurd h dZ
theorem IsP.small {o : Org} {H : Heap} (hf : o.Fine) (ho : o.In H) {p : Ct} (h : IsP o p) : -1000000000 ≤ p.1 ∧ p.1 ≤ 1000000000 ∧ -1000000000 ≤ p.2 ∧ p.2 ≤ 1000000000 := by
 obtain ⟨h1, h2, h3, h4⟩ := h
 have hr := (ho.2.1 _ (iC (xs := o.ranks) (j := p.1.toNat) (by omega))).2
 have := hf.rlen
 exact ⟨by omega, by omega, by omega, by omega⟩
theorem vG {o : Org} (hf : o.Fine) (rg : Reg) {l : List Ct} (hl : l.length ≤ 1024) (ho : ∀ c ∈ jX o rg l, mX o c = true) : (kD o rg l).length ≤ 1000000 := by
 have h1 := vO hf rg (jX o rg l) ho
 have h2 := wS hf (rg := rg) hl
 have h3 := b1b (oT ((jX o rg l).flatMap (mV o rg)))
 rw [lZ] at h3
 have : (kD o rg l).length ≤ (jX o rg l).length * 480 := dw h3 h1
 omega
end Go.Ds
namespace Go.Ds
open Go.Proofs Go.Proofs.Tryz
variable {H : Heap}
set_option maxRecDepth 10000
set_option maxHeartbeats 1000000
abbrev Nt := Nat × Nat
def ntc (x : Nt) : List Value := [.int .u64 x.1, .int .u64 x.2]
def Nt.Ok (x : Nt) : Prop := x.1 < 18446744073709551616 ∧ x.2 < 18446744073709551616
def sH (x : Nt) (n : Int) : Nt := if n < 64 then (x.1 ||| 2 ^ n.toNat, x.2) else (x.1, x.2 ||| 2 ^ (n - 64).toNat)
theorem a4S (i : Nat) (h : i < 64) : 2 ^ i < 18446744073709551616 := by
 have : 2 ^ i ≤ 2 ^ 63 := fp (by decide) (by omega)
 have e : 2 ^ 63 = 9223372036854775808 := rfl
 omega
theorem b5q {a b : Nat} (ha : a < 18446744073709551616) (hb : b < 18446744073709551616) : a ||| b < 18446744073709551616 := Nat.or_lt_two_pow (n := 64) ha hb
theorem orB (a b : Nat) (ha : a < 18446744073709551616) (hb : b < 18446744073709551616) : IntKind.wrap .u64 ((BitVec.ofInt (IntKind.bits .u64) (a : Int) ||| BitVec.ofInt (IntKind.bits .u64) (b : Int)).toNat : Int) = ((a ||| b : Nat) : Int) := by
 have e : (BitVec.ofInt (IntKind.bits .u64) (a : Int) ||| BitVec.ofInt (IntKind.bits .u64) (b : Int)).toNat = a ||| b := by
  rw [BitVec.toNat_or, uL a ha, uL b hb]
 rw [e]
 have := b5q ha hb
 exact oC _ (by omega) (by omega)
theorem orN (n i : Nat) (hn : n < 18446744073709551616) (hi : i < 64) : IntKind.wrap .u64 ((BitVec.ofInt (IntKind.bits .u64) (n : Int) ||| BitVec.ofInt (IntKind.bits .u64) (IntKind.wrap .u64 (1 * 2 ^ min i (IntKind.bits .u64)))).toNat : Int) = ((n ||| 2 ^ i : Nat) : Int) := by
 rw [c2y i hi]
 exact orB n (2 ^ i) hn (a4S i hi)
theorem b7x {x : Nt} (hx : Nt.Ok x) {z : Int} (h0 : 0 ≤ z) (h1 : z < 128) : Nt.Ok (sH x z) := by
 unfold sH
 split
 ·exact ⟨b5q hx.1 (a4S _ (by omega)), hx.2⟩
 ·exact ⟨hx.1, b5q hx.2 (a4S _ (by omega))⟩
theorem a6u (x : Nt) (hx : Nt.Ok x) (z : Int) (h0 : 0 ≤ z) (h1 : z < 128) : Fn prog 86 [.agg #[.int .u64 x.1, .int .u64 x.2], I z] H fun r H' => r = .agg #[.int .u64 (sH x z).1, .int .u64 (sH x z).2] ∧ St prog H H' [] := by
 obtain ⟨m, rfl⟩ := fG h0
 refine .aF func86 rfl (by kernel_rfl) (m := 21) rfl fun l hn g0 g1 => ?_
 simp (disch := omega) only [↓RA, RB, simprocAttr, g0]
 refine (sR H).eNew 2 [(.int .u64 x.1), (.int .u64 x.2)] rfl rfl rfl lK fun A1 H1 hS1 => ?_
 simp only [RT] at hS1
 simp (disch := omega) only [↓RA, RZ, simprocAttr]
 refine hS1.eNew 2 [(.int .u64 0), (.int .u64 0)] rfl rfl rfl lK fun A2 H2 hS2 => ?_
 simp only [RT] at hS2
 simp (disch := omega) only [↓RA, RB, simprocAttr, hn, g1]
 refine hK (fun q1 => ?_) (fun q1 => ?_)
 ·have e1 := orN x.1 m hx.1 (by omega)
  have e2 : sH x (m : Int) = (x.1 ||| 2 ^ m, x.2) := by unfold sH; rw [if_pos q1]; rfl
  simp (disch := omega) only [↓RA, RC, simprocAttr, q1]
  refine Wp.drw kF (by kernel_rfl) ?_
  simp (disch := omega) only [↓RA, RZ, simprocAttr, hn, g1, hS2.ld 0 rfl, e1]
  refine hS2.aa 0 rfl [(.int .u64 (x.1 ||| 2 ^ m : Nat))] rfl rfl b9q (by simp) fun H3 hS3 => ?_
  simp only [RT] at hS3
  simp (disch := omega) only [↓RA, RZ, simprocAttr, hn, hS3.ai 0 rfl]
  refine hS3.aa 1 rfl [(.int .u64 (x.1 ||| 2 ^ m : Nat)), (.int .u64 x.2)] rfl rfl lK (by simp) fun H4 hS4 => ?_
  simp only [RT] at hS4
  simp (disch := omega) only [↓RA, RZ, simprocAttr, hn, c2M, hS4.ai 1 rfl]
  rw [e2]
  exact ⟨rfl, hS4.forget⟩
 have e1 := orN x.2 (m - 64) hx.2 (by omega)
 have e3 : (m : Int) - 64 = ((m - 64 : Nat) : Int) := by omega
 have e2 : sH x (m : Int) = (x.1, x.2 ||| 2 ^ (m - 64)) := by unfold sH; rw [if_neg q1, e3]; rfl
 simp (disch := omega) only [↓RA, RC, simprocAttr, q1]
 refine Wp.drw kF (by kernel_rfl) ?_
 simp (disch := omega) only [↓RA, RZ, simprocAttr, hn, g1, hS2.ld 0 rfl, e1, e3]
 refine hS2.aa 0 rfl [(.int .u64 (x.2 ||| 2 ^ (m - 64) : Nat))] rfl rfl b9q (by simp) fun H5 hS5 => ?_
 simp only [RT] at hS5
 simp (disch := omega) only [↓RA, RZ, simprocAttr, hn, hS5.ai 0 rfl]
 refine hS5.aa 1 rfl [(.int .u64 x.1), (.int .u64 (x.2 ||| 2 ^ (m - 64) : Nat))] rfl rfl lK (by simp) fun H6 hS6 => ?_
 simp only [RT] at hS6
 simp (disch := omega) only [↓RA, RZ, simprocAttr, hn, c2M, hS6.ai 1 rfl]
 rw [e2]
 exact ⟨rfl, hS6.forget⟩
def jI (xs : List Int) : Nt := xs.foldl sH (0, 0)
def isN (z : Int) : Prop := 0 ≤ z ∧ z < 128
theorem vF : ∀ (xs : List Int) (x : Nt), (∀ z ∈ xs, isN z) → Nt.Ok x → Nt.Ok (xs.foldl sH x)
 | [], _, _, h => h
 | z :: xs, x, hz, h => by
   rw [eY]
   exact vF xs _ (fun y hy => hz y (dM _ hy)) (b7x h (hz z (dE ..)).1 (hz z (dE ..)).2)
theorem a7p (xs : List Int) {j : Nat} (hj : j < xs.length) : jI (xs.take (j + 1)) = sH (jI (xs.take j)) (iA xs j) := by
 unfold jI
 rw [List.take_add_one, dj hj, Option.toList_some, gr, ← jN _ j hj]
 rfl
theorem b1W (z : Int) (h : isN z) : Fn prog 85 [I z] H fun r H' => r = .bool true ∧ St prog H H' [] := by
 have h0 := h.1
 have h1 := h.2
 refine .aU func85 rfl (by kernel_rfl) (m := 9) rfl fun l hn g0 => ?_
 simp (disch := omega) only [↓RA, RZ, simprocAttr, hn, g0]
 refine jH (fun q1 => ?_) (fun q1 => ?_)
 rotate_left
 ·exfalso; first | omega | (simp at q1; omega)
 simp (disch := omega) only [↓RA, RZ, simprocAttr, hn, g0, c5e, q1]
 simpa using ⟨(by omega : z ≤ 127), (sR H)⟩
theorem xA (xs : List Int) (hz : ∀ z ∈ xs, isN z) (v : Value) (hv : Sl 1 (one I) H v xs) (hl : xs.length < 1000000000) :
 Fn prog 42 [v] H fun r H' => r = .tuple #[.agg #[.int .u64 (jI xs).1, .int .u64 (jI xs).2], I 0] ∧ St prog H H' [] := by
 refine .aU func42 rfl (by kernel_rfl) (m := 22) rfl fun l hn g0 => ?_
 simp (disch := omega) only [↓RA, RZ, simprocAttr]
 refine (sR H).eNew 2 [(.int .u64 0), (.int .u64 0)] rfl rfl rfl lK fun A1 H1 hS1 => ?_
 simp only [RT] at hS1
 simp (disch := omega) only [↓RA, RZ, simprocAttr]
 refine hS1.eNew 2 [(.int .u64 0), (.int .u64 0)] rfl rfl rfl lK fun A2 H2 hS2 => ?_
 simp only [RT] at hS2
 simp (disch := omega) only [↓RA, RZ, simprocAttr, hn, g0, (hS2.sl hv).len]
 refine Wp.ak (fun n l H' => l.length = 22 ∧ get l 2 = (ptr A1 0 2) ∧ get l 4 = (ptr A2 0 2) ∧ get l 7 = v ∧ get l 8 = I xs.length ∧ ∃ (j : Nat), (n + j = xs.length) ∧ get l 9 = I j ∧ St prog H H' [⟨ptr A1 0 2, 0, [(.int .u64 0), (.int .u64 0)]⟩, ⟨ptr A2 0 2, 0, [.int .u64 (jI (xs.take j)).1, .int .u64 (jI (xs.take j)).2]⟩]) xs.length ?_ ?_
 ·simp (disch := omega) only [RB, RC, simprocAttr, hn]
  exact ⟨0, by omega, rfl, hS2⟩
 rintro n l H3 ⟨hn, g2, g4, g7, g8, j, hj, g9, hS3⟩
 simp (disch := omega) only [↓RA, RB, simprocAttr, hn, g8, g9]
 refine hK (fun q1 => ?_) (fun q1 => ?_)
 ·have hx := hz _ (iC (xs := xs) (j := j) (by omega))
  have hok : Nt.Ok (jI (xs.take j)) := vF _ _ (fun z h => hz z (fS h)) ⟨by decide, by decide⟩
  simp (disch := omega) only [↓RA, RZ, simprocAttr, hn, g7, g9, (hS3.sl hv).idx, (hS3.sl hv).ld, one, q1]
  refine hS3.cF (b1W (iA xs j) hx) fun H4 hS4 => ?_
  simp (disch := omega) only [↓RA, RZ, simprocAttr, hn, g4, hS4.ai 1 rfl, q1]
  refine hS4.cF (a6u (jI (xs.take j)) hok (iA xs j) hx.1 hx.2) fun H5 hS5 => ?_
  simp (disch := omega) only [↓RA, RZ, simprocAttr, hn, g4, q1]
  refine hS5.aa 1 rfl [(.int .u64 (sH (jI (xs.take j)) (iA xs j)).1), (.int .u64 (sH (jI (xs.take j)) (iA xs j)).2)] rfl rfl lK (by simp) fun H6 hS6 => ?_
  simp only [RT] at hS6
  simp (disch := omega) only [↓RA, RZ, simprocAttr, hn, g2, g4, g7, g8, g9, q1]
  refine ⟨n - 1, by omega, j + 1, by omega, by simp, ?_⟩
  rw [a7p xs (by omega)]
  exact hS6.pick [0, 1] (by decide) rfl
 have hjj : j = xs.length := by omega
 simp (disch := omega) only [↓RA, RZ, simprocAttr, hn, g2, g4, hS3.ai 1 rfl, q1]
 refine hS3.aa 0 rfl [(.int .u64 (jI (xs.take j)).1), (.int .u64 (jI (xs.take j)).2)] rfl rfl lK (by simp) fun H7 hS7 => ?_
 simp only [RT] at hS7
 simp (disch := omega) only [↓RA, RZ, simprocAttr, hn, g2, c5a, hS7.ai 0 rfl, q1]
 rw [hjj, dT]
 exact ⟨rfl, hS7.forget⟩
end Go.Ds
namespace Go.Ds
open Go.Proofs
variable {H : Heap}
set_option maxRecDepth 10000
set_option maxHeartbeats 1000000
theorem St.perm {P : Program} {H0 : Base} {os os' : List Ob} (h : St P H0 H os) (hp : os.Perm os') : St P H0 H os' where
 len := h.len
 old := h.old
 own o ho := h.own o (hp.mem_iff.2 ho)
 new o ho := h.new o (hp.mem_iff.2 ho)
 sep := (List.Perm.pairwise_iff (fun {_ _} hxy B hB hB2 => hxy B hB2 hB) hp).1 h.sep
theorem Lp.swap {P : Program} {B : Base} {L : Nat} {r : Loop} {xs ys zs : List Ob} (h : Lp P B L r H ((xs ++ ys) ++ zs)) : Lp P B L r H ((xs ++ zs) ++ ys) := by
 have hp : ((xs ++ ys) ++ zs).Perm ((xs ++ zs) ++ ys) := by
  rw [ed, ed]
  exact (List.perm_append_comm).append_left xs
 exact ⟨h.st.perm hp, h.get, h.lo, fun o ho => h.ne o (hp.mem_iff.2 ho)⟩
end Go.Ds
namespace Go.Ds
open Go.Proofs Go.Proofs.Tryz
variable {H : Heap}
set_option maxRecDepth 10000
set_option maxHeartbeats 1000000
def ctz (x : Nat) : Nat := ((List.range 64).find? fun i => x.testBit i).getD 64
theorem a2I {x : Nat} (h0 : x ≠ 0) (h1 : x < 18446744073709551616) : ctz x < 64 ∧ x.testBit (ctz x) = true ∧ ∀ j, j < ctz x → x.testBit j = false := by
 have hx : ∃ i, i < 64 ∧ x.testBit i = true := by
  refine fN fun hn => h0 ?_
  refine fT fun i => ?_
  rw [gY]
  by_cases hi : i < 64
  ·by_cases hb : x.testBit i = true
   ·exact absurd ⟨i, hi, hb⟩ hn
   ·simpa using hb
  ·exact Nat.testBit_lt_two_pow (dI (show x < 2 ^ 64 by simpa using h1) (fp (by decide) (by omega)))
 unfold ctz
 cases hf : (List.range 64).find? fun i => x.testBit i with
 | none =>
   obtain ⟨i, hi, hb⟩ := hx
   have := gf.1 hf i (dr.2 hi)
   exact absurd hb (by simpa using this)
 | some i =>
   obtain ⟨hb, ys, bs, he, hn⟩ := List.find?_eq_some_iff_append.1 hf
   have hi : i < 64 := dr.1 (he ▸ (by simp : i ∈ ys ++ i :: bs))
   refine ⟨hi, hb, fun j hj0 => ?_⟩
   have hj : j < i := hj0
   have hl : ys.length = i := by
    have h2 : (List.range 64)[ys.length]? = some i := by rw [he]; simp
    have h3 : ys.length < 64 := by
     have := congrArg List.length he
     simp at this
     omega
    rw [gF h3] at h2
    exact cU h2
   have hm : j ∈ ys := by
    have h2 : (List.range 64)[j]? = some j := gF (by omega)
    rw [he, eE (by simpa using (hl ▸ hj))] at h2
    exact dL h2
   simpa using hn j hm
theorem a3P {x : Nat} (h0 : x ≠ 0) (h1 : x < 18446744073709551616) : ∃ m, x = 2 ^ ctz x * (2 * m + 1) := by
 obtain ⟨c1, c2, c3⟩ := a2I h0 h1
 generalize ctz x = k at c1 c2 c3
 have hd : x % 2 ^ k = 0 := by
  refine fT fun i => ?_
  rw [Nat.testBit_mod_two_pow, gY]
  by_cases hi : i < k
  ·rw [c3 i hi, Bool.and_false]
  ·rw [decide_eq_false hi, fx]
 have h2 : x / 2 ^ k % 2 = 1 := by
  rw [← eI]
  have := c2
  rw [tb] at this
  exact of_decide_eq_true this
 refine ⟨x / 2 ^ k / 2, ?_⟩
 have h3 := Nat.div_add_mod x (2 ^ k)
 have h4 := Nat.div_add_mod (x / 2 ^ k) 2
 rw [hd, gN] at h3
 rw [← h3]
 congr 1
 rw [h3]
 omega
theorem b8I {x : Nat} (h0 : x ≠ 0) (h1 : x < 18446744073709551616) : x &&& (18446744073709551616 - x) = 2 ^ ctz x := by
 obtain ⟨m, hm⟩ := a3P h0 h1
 obtain ⟨c1, _, _⟩ := a2I h0 h1
 generalize ctz x = k at hm c1
 have e64 : (18446744073709551616 : Nat) = 2 ^ k * (2 * 2 ^ (63 - k)) := by
  have : 2 ^ k * (2 * 2 ^ (63 - k)) = 2 ^ 64 := by rw [← Nat.pow_succ', ← Nat.pow_add]; congr 1; omega
  rw [this]
 have hml : m < 2 ^ (63 - k) := by
  rw [e64, hm] at h1
  have := Nat.lt_of_mul_lt_mul_left h1
  omega
 have e2 : 18446744073709551616 - x = 2 ^ k * (2 * (2 ^ (63 - k) - (m + 1)) + 1) := by
  rw [e64, hm, ← Nat.mul_sub]
  congr 1
  omega
 rw [e2, hm]
 refine fT fun i => ?_
 rw [Nat.testBit_and, fX]
 have hs : ∀ y : Nat, (2 ^ k * y).testBit i = (decide (k ≤ i) && y.testBit (i - k)) := fun y => by rw [Nat.mul_comm, Nat.testBit_mul_two_pow]
 rw [hs, hs]
 by_cases hi : k ≤ i
 ·rw [decide_eq_true hi, gI, gI]
  by_cases he : i = k
  ·subst he
   rw [gR, Nat.testBit_zero, Nat.testBit_zero]
   simp
  ·obtain ⟨j, hj⟩ : ∃ j, i - k = j + 1 := ⟨i - k - 1, by omega⟩
   rw [hj, Nat.testBit_succ, Nat.testBit_succ, show (2 * m + 1) / 2 = m by omega, show (2 * (2 ^ (63 - k) - (m + 1)) + 1) / 2 = 2 ^ (63 - k) - (m + 1) by omega, Nat.testBit_two_pow_sub_succ hml, decide_eq_false (by omega : ¬ k = i)]
   cases m.testBit j <;> simp
 ·rw [decide_eq_false hi, fx, decide_eq_false (by omega)]
  rfl
theorem c3O : ((List.range 64).all fun k => decide (2 ^ k * 285870213051353865 % 18446744073709551616 / 288230376151711744 < 64) && decide (t64.getD (2 ^ k * 285870213051353865 % 18446744073709551616 / 288230376151711744) 99 = k)) = true := by kernel_rfl
theorem b4Z {P : Program} {t : TypeId} {n : Nat} {elem : TypeId} {size : Nat} (ha : P.underlying t = some (.array n elem)) (hs : iD P elem = some size) (A i : Nat) (k : IntKind) (j : Int) (h0 : 0 ≤ j) (h1 : j < n) :
 wO (iR P t) P t (.pointer (some ⟨A, i, none⟩)) (.int k j) = some (.pointer (some ⟨A, i + j.toNat * size, none⟩)) := by
 have hn : iR P t = none := by simp [iR, iJ, ha]
 rw [hn]
 simp only [wO, a1K, ha, hs, cV]
 rw [if_pos (by simp [h0, h1])]
theorem c0Q (k : IntKind) (j : Int) (h0 : 0 ≤ j) (h1 : j < 64) : wO (iR prog 251) prog 251 (.pointer (some ⟨0, 0, none⟩)) (.int k j) = some (.pointer (some ⟨0, 0 + j.toNat * 1, none⟩)) :=
 b4Z (n := 64) (elem := 5) (size := 1) (by kernel_rfl) (by kernel_rfl) 0 0 k j h0 h1
theorem b1Y (g : Nat) (l : List Value) (K : Value → Prop) : jK (.global g) l K = K (.pointer (some ⟨g, 0, none⟩)) := by simp [jK, iN, ev]
theorem gld (hG : Glob gH H) (j : Nat) (hj : j < 64) (s : Option Nat) : pL (some false) s H (.pointer (some ⟨0, j, none⟩)) = some (.int .u8 (t64.getD j 0 : Nat)) := by
 have h0 : iP H 0 = some (.cells (t64.map fun (n : Nat) => Value.int .u8 (.ofNat n)) 5 false 0 1) := by
  rw [hG.same 0 (by decide)]
  rfl
 simp only [pL, jB, h0]
 have hl : (t64.map fun (n : Nat) => Value.int .u8 (.ofNat n)).length = 64 := by rw [ee]; rfl
 rw [if_pos (by rw [hl]; simp; omega)]
 simp only [cV]
 rw [dO (by omega), dz, gN, eJ, dj (show j < t64.length from hj)]
 rw [dK, cZ, dj (show j < t64.length from hj)]
 rfl
theorem a9W (m : Int) : IntKind.wrap .u64 m = m % 18446744073709551616 := by
 show (if (false && decide (m % 18446744073709551616 ≥ 9223372036854775808)) = true then m % 18446744073709551616 - 18446744073709551616 else m % 18446744073709551616) = _
 simp
theorem c4g (hG : Glob gH H) (x : Nat) (h0 : x ≠ 0) (h1 : x < 18446744073709551616) : Fn prog 136 [.int .u64 x] H fun r H' => r = I (ctz x) ∧ St prog H H' [] := by
 obtain ⟨c1, _, _⟩ := a2I h0 h1
 have hd := dp.1 c3O (ctz x) (dr.2 c1)
 rw [cW, decide_eq_true_eq, decide_eq_true_eq] at hd
 have eA : IntKind.wrap .u64 (0 - (x : Int)) = ((18446744073709551616 - x : Nat) : Int) := by
  rw [a9W]
  omega
 have eB : IntKind.wrap .u64 ((BitVec.ofInt (IntKind.bits .u64) (x : Int) &&& BitVec.ofInt (IntKind.bits .u64) ((18446744073709551616 - x : Nat) : Int)).toNat : Int) = ((2 ^ ctz x : Nat) : Int) := by
  rw [gD, uL x h1, uL _ (by omega), b8I h0 h1]
  exact oC _ (by omega) (by have := a4S (ctz x) c1; omega)
 have eC : IntKind.wrap .u64 (((2 ^ ctz x : Nat) : Int) * 285870213051353865) = ((2 ^ ctz x * 285870213051353865 % 18446744073709551616 : Nat) : Int) := by
  rw [a9W]
  rfl
 have eD : ((2 ^ ctz x * 285870213051353865 % 18446744073709551616 : Nat) : Int).fdiv (2 ^ min 58 (IntKind.bits .u64)) = ((2 ^ ctz x * 285870213051353865 % 18446744073709551616 / 288230376151711744 : Nat) : Int) := by
  rw [show (2 : Int) ^ min 58 (IntKind.bits .u64) = ((288230376151711744 : Nat) : Int) from rfl]
  exact gw _ (by omega)
 have hd1 := hd.1
 have hd2 := hd.2
 generalize 2 ^ ctz x * 285870213051353865 % 18446744073709551616 / 288230376151711744 = i at eD hd1 hd2
 refine .aU func136 rfl (by kernel_rfl) (m := 14) rfl fun l hn g0 => ?_
 have iP := gld hG i hd1 (some 1)
 rw [show t64.getD i 0 = ctz x from by rw [← hd2, cZ, cZ, dj (show i < t64.length from hd1)]; rfl] at iP
 have hidx := c0Q .u64 (i : Int) (by omega) (by omega)
 rw [eT, Nat.mul_one, fZ] at hidx
 simp (disch := omega) only [↓RA, RB, simprocAttr, hn, g0]
 refine hK (fun q => ?_) (fun q => ?_)
 ·exfalso; omega
 simp (disch := omega) only [↓RA, RZ, simprocAttr, hn, g0, c2Y, eA, eB, eC, eD, b1Y, iP, hidx, q]
 first | exact (sR H) | exact ⟨rfl, (sR H)⟩
theorem a5a {x : Nat} (h0 : x ≠ 0) (h1 : x < 18446744073709551616) (j : Nat) : (x &&& (x - 1)).testBit j = (x.testBit j && !decide (j = ctz x)) := by
 obtain ⟨m, hm⟩ := a3P h0 h1
 generalize ctz x = k at hm
 have hp : 0 < 2 ^ k := Nat.two_pow_pos k
 have e1 : x = 2 ^ (k + 1) * m + 2 ^ k := by rw [hm, Nat.pow_succ, Nat.mul_add, Nat.mul_one, Nat.mul_assoc]
 have e2 : x - 1 = 2 ^ (k + 1) * m + (2 ^ k - 1) := by omega
 have hl : 2 ^ k < 2 ^ (k + 1) := Nat.pow_lt_pow_right (by decide) (by omega)
 rw [Nat.testBit_and, e2]
 rw [e1, Nat.testBit_two_pow_mul_add m hl, Nat.testBit_two_pow_mul_add m (by omega : 2 ^ k - 1 < 2 ^ (k + 1))]
 by_cases hj : j < k + 1
 ·rw [if_pos hj, if_pos hj, fX, Nat.testBit_two_pow_sub_one]
  by_cases he : j = k
  ·simp [he]
  ·simp [show ¬ k = j by omega]
 ·rw [if_neg hj, if_neg hj, show decide (j = k) = false from decide_eq_false (by omega)]
  simp
theorem b1F {x : Nat} (h0 : x ≠ 0) (h1 : x < 18446744073709551616) : oP x = ctz x :: oP (x &&& (x - 1)) := by
 obtain ⟨c1, c2, c3⟩ := a2I h0 h1
 have hb := a5a h0 h1
 generalize ctz x = k at c1 c2 c3 hb
 obtain ⟨t, ht⟩ := a7v c1
 have hnd : (List.range 64).Nodup := List.nodup_range
 unfold oP
 rw [ht, ez, ez, List.filter_cons_of_pos (by simpa using c2), List.filter_cons_of_neg (by rw [hb]; simp)]
 rw [ht] at hnd
 have e1 : (List.range k).filter (fun i => x.testBit i) = [] := List.filter_eq_nil_iff.2 fun i hi => by simpa using c3 i (dr.1 hi)
 have e2 : (List.range k).filter (fun i => (x &&& (x - 1)).testBit i) = [] := List.filter_eq_nil_iff.2 fun i hi => by rw [hb, c3 i (dr.1 hi)]; simp
 rw [e1, e2, fi, fi]
 congr 1
 refine List.filter_congr fun i hi => ?_
 have hne : i ≠ k := fun e => by
  subst e
  exact (List.nodup_cons.1 (List.nodup_append.1 hnd).2.1).1 hi
 rw [hb, decide_eq_false hne]
 simp
theorem a9f : oP 0 = [] := List.filter_eq_nil_iff.2 fun i _ => by simp
def pK (x : Nt) : List Int := (oP x.1).map (fun (i : Nat) => (i : Int)) ++ (oP x.2).map fun (i : Nat) => 64 + (i : Int)
def a7J (x : Nt) (i : Nat) : Nat := if i = 0 then x.1 else x.2
def a4u (x : Nt) (i : Nat) : List Int := (oP (a7J x i)).map fun (j : Nat) => 64 * (i : Int) + (j : Int)
def a5n (x : Nt) (i : Nat) : List Int := (List.range i).flatMap (a4u x)
theorem a0m (x : Nt) (i : Nat) : a5n x (i + 1) = a5n x i ++ a4u x i := by
 unfold a5n
 rw [dW, dD, dx, eG, dh]
theorem a6t (x : Nt) : a5n x 2 = pK x := by
 rw [a0m, a0m]
 unfold pK a5n a4u a7J
 simp
theorem b7T {x : Nt} (hx : Nt.Ok x) (i : Nat) : a7J x i < 18446744073709551616 := by
 unfold a7J
 split
 ·exact hx.1
 ·exact hx.2
theorem c2J (a b : Int) : oW prog 219 (.agg #[.int .u64 a, .int .u64 b]) (I 0) = some (.int .u64 a) := by kernel_rfl
theorem c4s (a b : Int) : oW prog 219 (.agg #[.int .u64 a, .int .u64 b]) (I 1) = some (.int .u64 b) := by kernel_rfl
theorem c5j (x : Nt) (i : Nat) (h : i < 2) : a2G (oI prog 219) prog 219 (.agg #[.int .u64 x.1, .int .u64 x.2]) (I i) = some (.int .u64 (a7J x i)) := by
 rw [← a6W]
 rcases (by omega : i = 0 ∨ i = 1) with rfl | rfl
 ·exact c2J _ _
 ·exact c4s _ _
theorem c2p (x : Nt) (hx : Nt.Ok x) (A : Nat) (f : Value) (J : List Int → Heap → Prop) (h0 : J [] H) (hg : ∀ d H1, J d H1 → Var H1 A 2 [.int .u64 x.1, .int .u64 x.2] ∧ Glob gH H1)
 (hst : ∀ d H1 H2, J d H1 → St prog H1 H2 [] → J d H2)
 (hf : ∀ d c e H1, pK x = d ++ c :: e → J d H1 → tQ prog f [I c] H1 fun v H2 => v = .bool true ∧ J (d ++ [c]) H2) :
 FnS prog 135 [f, ptr A 0 2] H fun _ H' => J (pK x) H' := by
 have hV0 := (hg _ _ h0).1
 refine FnS.aW func135 rfl (by kernel_rfl) fun l hl => ?_
 have hn : l.length = 29 := by rw [hl]; rfl
 have g0 : get l 0 = f := by rw [hl]; rfl
 have g1 : get l 1 = (ptr A 0 2) := by rw [hl]; rfl
 clear hl
 simp (disch := omega) only [↓RA, RZ, simprocAttr, hn, g1, hV0.ld, b2H]
 refine Wp.ak (fun n l H' => l.length = 29 ∧ get l 0 = f ∧ get l 1 = ptr A 0 2 ∧ get l 9 = .agg #[.int .u64 x.1, .int .u64 x.2] ∧ ∃ i : Nat, n + i = 2 ∧ get l 10 = I i ∧ J (a5n x i) H') 2 ?_ ?_
 ·simp (disch := omega) only [RB, RC, simprocAttr, hn, g0, g1]
  exact ⟨0, rfl, rfl, h0⟩
 rintro n l H9 ⟨hn, g0, g1, g9, i, hi, qX, hJ⟩
 simp (disch := omega) only [↓RA, RB, simprocAttr, hn, qX]
 refine hK (fun q1 => ?_) (fun q1 => ?_)
 ·have hix := c5j x i (by omega)
  have hwl := b7T hx i
  simp (disch := omega) only [↓RA, RZ, simprocAttr, hn, g9, qX, q1, hix]
  refine Wp.ak (fun n2 l H' => l.length = 29 ∧ get l 0 = f ∧ get l 1 = ptr A 0 2 ∧ get l 9 = .agg #[.int .u64 x.1, .int .u64 x.2] ∧ get l 10 = I i ∧ get l 3 = I i ∧ ∃ (y : Nat) (d : List Nat), (n2 = (oP y).length ∧ y < 18446744073709551616 ∧ oP (a7J x i) = d ++ oP y) ∧ get l 4 = .int .u64 y ∧ J (a5n x i ++ d.map fun (j : Nat) => 64 * (i : Int) + (j : Int)) H') (oP (a7J x i)).length ?_ ?_
  ·simp (disch := omega) only [RB, RC, simprocAttr, hn, g0, g1, g9, qX]
   exact ⟨a7J x i, [], ⟨rfl, hwl, rfl⟩, rfl, by rw [gb, dh]; exact hJ⟩
  rintro n2 l H8 ⟨hn, g0, g1, g9, qX, g3, y, d, ⟨hn2, hy, hbd⟩, g4, hJ2⟩
  simp (disch := omega) only [↓RA, RB, simprocAttr, hn, g4]
  refine hK (fun q2 => ?_) (fun q2 => ?_)
  ·have hy0 : y ≠ 0 := by omega
   have hc := a2I hy0 hy
   have hlow := b1F hy0 hy
   have hGl := (hg _ _ hJ2).2
   have eY1 : IntKind.wrap .u64 ((y : Int) - 1) = ((y - 1 : Nat) : Int) := by
    rw [a9W]
    omega
   have eY2 : IntKind.wrap .u64 ((BitVec.ofInt (IntKind.bits .u64) (y : Int) &&& BitVec.ofInt (IntKind.bits .u64) ((y - 1 : Nat) : Int)).toNat : Int) = ((y &&& (y - 1) : Nat) : Int) := by
    rw [gD, uL y hy, uL _ (by omega)]
    have := Nat.and_le_left (n := y) (m := y - 1)
    exact oC _ (by omega) (by omega)
   have hyl : y &&& (y - 1) < 18446744073709551616 := Nat.lt_of_le_of_lt Nat.and_le_left hy
   have hmem : pK x = (a5n x i ++ d.map fun (j : Nat) => 64 * (i : Int) + (j : Int)) ++ (64 * (i : Int) + (ctz y : Int)) :: ((oP (y &&& (y - 1))).map (fun (j : Nat) => 64 * (i : Int) + (j : Int)) ++ ((List.range 2).drop (i + 1)).flatMap (a4u x)) := by
    rw [← a6t]
    unfold a5n
    have e : List.range 2 = List.range i ++ i :: (List.range 2).drop (i + 1) := by
     rcases (by omega : i = 0 ∨ i = 1) with rfl | rfl <;> rfl
    rw [congrArg (List.flatMap (a4u x)) e, dD, dx]
    rw [show a4u x i = (d ++ oP y).map (fun (j : Nat) => 64 * (i : Int) + (j : Int)) from by unfold a4u; rw [hbd]]
    rw [hlow, dQ, eo]
    simp only [ed, gW]
   have hc1 := hc.1
   simp (disch := omega) only [↓RA, RZ, simprocAttr, hn, g0, g3, g4, q2]
   refine (sR H8).cF (c4g ((sR H8).gl hGl) y hy0 hy) fun H1 hS1 => ?_
   simp (disch := omega) only [↓RA, RZ, simprocAttr, hn, q2]
   refine a9n (hf _ _ _ _ hmem (hst _ _ _ hJ2 hS1)) ?_
   rintro r H10 ⟨rfl, hJ3⟩
   simp (disch := omega) only [↓RA, RZ, simprocAttr, hn, g0, g1, g9, qX, g3, g4, q2, eY1, eY2]
   refine ⟨(oP (y &&& (y - 1))).length, by rw [hn2, hlow]; simp, y &&& (y - 1), d ++ [ctz y], ⟨rfl, hyl, by rw [hbd, hlow]; simp⟩, rfl, ?_⟩
   rw [dQ, eo, gb, ← ed]
   exact hJ3
  simp (disch := omega) only [↓RA, RZ, simprocAttr, hn, g0, g1, g9, qX, q2]
  have hy0 : y = 0 := by omega
  subst hy0
  refine ⟨n - 1, by omega, i + 1, by omega, by simp, ?_⟩
  rw [a0m]
  have : a4u x i = d.map fun (j : Nat) => 64 * (i : Int) + (j : Int) := by
   unfold a4u
   rw [hbd, a9f, dh]
  rw [this]
  exact hJ2
 simp (disch := omega) only [↓RA, RZ, simprocAttr, c3C, q1]
 have e : i = 2 := by omega
 subst e
 rw [← a6t]
 exact hJ
theorem a1M (x : Nt) : (pK x).length ≤ 128 := by
 unfold pK
 rw [di, ee, ee]
 have h1 := a7r x.1 64
 have h2 := a7r x.2 64
 unfold b5Y at h1 h2
 unfold oP
 omega
theorem b1D (hG : Glob gH H) (x : Nt) (hx : Nt.Ok x) (A : Nat) (hA : Var H A 2 [.int .u64 x.1, .int .u64 x.2]) :
 Fn prog 134 [.slice none 0 0, .func (.func 135) #[] #[ptr A 0 2]] H fun r H' => St prog H H' [⟨r, 1, (pK x).flatMap (one I)⟩] := by
 refine .aF func134 rfl (by kernel_rfl) (m := 13) rfl fun l hn g0 g1 => ?_
 simp (disch := omega) only [↓RA, RB, simprocAttr, g0]
 refine (sR H).eNew 1 [(.slice none 0 0)] rfl rfl rfl b8D fun A1 H1 hS1 => ?_
 simp only [RT] at hS1
 simp (disch := omega) only [↓RA, RB, simprocAttr, g1]
 have hS2 := hS1.nil 0
 simp only [RT] at hS2
 refine Wp.cG fun lrg1 hlrg1 => ?_
 have hnrg1 : lrg1.length = 13 := by rw [hlrg1]; simp (disch := omega) only [RB, simprocAttr, hn]
 have g2rg1 : get lrg1 2 = (ptr A1 0 1) := by rw [hlrg1]; simp (disch := omega) only [RB, simprocAttr, hn]
 have g4rg1 : get lrg1 4 = (.slice none 0 0) := by rw [hlrg1]; simp (disch := omega) only [RB, simprocAttr, hn]
 have gfrg1 : get lrg1 6 = .func (.func 135) #[] [(ptr A 0 2)].toArray := by rw [hlrg1]; simp (disch := omega) only [RB, simprocAttr, hn]
 clear hlrg1
 refine Wp.cj gfrg1 fun rg1 hstrg1 hpdrg1 htmrg1 hpsrg1 hasrg1 hbdrg1 => ?_
 have hreqrg1 : ({ rg1 with state := .ready, pending := none } : Loop) = rg1 := by
  cases rg1
  simp only at hstrg1 hpdrg1
  subst hstrg1 hpdrg1
  rfl
 have hLprg1 := Lp.enter hS2 rg1
 generalize H1.cons (.loop rg1) = Hcrg1 at hLprg1 ⊢
 generalize H1.length = Lrg1 at hLprg1 ⊢
 refine (c2p x hx A (.func (.yield Lrg1) #[] #[]) (fun d H1 => ∃ ow, Lp prog H Lrg1 rg1 H1 [⟨ptr A1 0 1, 0, [ow]⟩, ⟨ow, 1, d.flatMap (one I)⟩]) ⟨.slice none 0 0, hLprg1⟩ ?_ ?_ ?_).mono ?_
 ·rintro d H1 ⟨ow, h⟩
  exact ⟨hA.ag h.st.ag, h.st.gl hG⟩
 ·rintro d H1 H2 ⟨ow, h⟩ hS
  exact ⟨ow, by simpa using h.ext hS⟩
 ·rintro d c e H20 hm ⟨ow, hLpj⟩
  have hml := a1M x
  have hdl : d.length < 128 := by
   rw [hm, di, dY] at hml
   omega
  refine a0K hLpj.get (by rw [hpsrg1]; rfl) hstrg1 ?_
  refine Wp.bN (l := put lrg1 (some 7) (I c)) hasrg1 (by rw [hpsrg1, htmrg1]; first | exact (mQ ..).symm | rfl | simp [put, mQ]) ?_
  simp (disch := omega) only [↓RA, RZ, simprocAttr, hnrg1]
  refine ⟨rg1, hLpj.get, hstrg1, ?_⟩
  have hYBs1 := hLpj.set (fun h => h) { rg1 with state := .busy }
  have hKBs1 : ∀ B, B ≠ Lrg1 → iP (hset H20 Lrg1 (.loop { rg1 with state := .busy })) B = iP H20 B := fun B h => iY _ (eZ h)
  have hNBs1 : (hset H20 Lrg1 (.loop { rg1 with state := .busy })).length = H20.length := jO ..
  generalize hset H20 Lrg1 (.loop { rg1 with state := .busy }) = HBs1 at hYBs1 hKBs1 hNBs1 ⊢
  refine Wp.bN hbdrg1 rfl ?_
  have hZBs1 := hYBs1.st
  obtain ⟨Bs1, hBBs1, hS3⟩ := hZBs1.az (os := [⟨ptr A1 0 1, 0, _⟩, ⟨ow, 1, _⟩])
  simp (disch := omega) only [↓RA, RZ, simprocAttr, hnrg1, g2rg1, hS3.ld 0 rfl]
  refine hS3.aj [I c] a1G a7w rfl rfl (by simp [Value.cells]) rfl rfl (by decide) (by decide) fun w1 H2 hS4 => ?_
  simp only [RT] at hS4
  simp (disch := omega) only [↓RA, RZ, simprocAttr, hnrg1]
  refine hS4.aq 1 rfl (hS4.rd 2 rfl) a1G (by rw [yF, ee]; simp; omega) fun w2 H3 hS5 => ?_
  simp only [RT] at hS5
  simp (disch := omega) only [↓RA, RB, simprocAttr, hnrg1, g2rg1]
  refine hS5.aa 0 rfl [w2] (by rw [(hS5.rd 1 rfl).cells.1]) (by simp [(hS5.rd 1 rfl).cells.2.1]) b8D (by simp) fun H4 hS6 => ?_
  simp only [RT] at hS6
  simp (disch := omega) only [↓RA, simprocAttr]
  have hS7 := hS6.pick (os' := [⟨ptr A1 0 1, 0, _⟩, ⟨w2, 1, _⟩]) [0, 1] (by decide) rfl
  have hWBs1 := (hYBs1.body (hBBs1 ▸ hS7)).set (fun h => h) rg1
  rw [← hreqrg1] at hWBs1
  refine ⟨_, (hYBs1.body (hBBs1 ▸ hS7)).get, rfl, w2, ?_⟩
  rw [dD]
  exact hreqrg1 ▸ hWBs1
 ·rintro _ H21 ⟨ow, hLp2⟩
  refine ⟨_, hLp2.get, (by rw [hstrg1]; exact fun h => by cases h), fun _ => ?_, fun c hc => by rw [hpdrg1] at hc; cases hc⟩
  have hAAf1 := (hLp2.set (fun h => h) { rg1 with state := .exhausted }).st
  have hKAf1 : ∀ B, B ≠ Lrg1 → iP (hset H21 Lrg1 (.loop { rg1 with state := .exhausted })) B = iP H21 B := fun B h => iY _ (eZ h)
  generalize hset H21 Lrg1 (.loop { rg1 with state := .exhausted }) = HAf1 at hAAf1 hKAf1 ⊢
  simp (disch := omega) only [↓RA, RZ, simprocAttr, hnrg1, g2rg1, hAAf1.ld 0 rfl, c2I]
  exact hAAf1.pick [1] (by decide) rfl
theorem a9C (hG : Glob gH H) (x : Nt) (hx : Nt.Ok x) (A : Nat) (hA : Var H A 2 [.int .u64 x.1, .int .u64 x.2]) :
 Fn prog 101 [.func (.func 135) #[] #[ptr A 0 2]] H fun r H' => St prog H H' [⟨r, 1, (pK x).flatMap (one I)⟩] := by
 refine .aU func101 rfl (by kernel_rfl) (m := 5) rfl fun l hn g0 => ?_
 simp (disch := omega) only [↓RA, RZ, simprocAttr, hn, g0]
 refine iF ((b1D ((sR H).gl hG) x hx A (hA.ag (sR H).ag)).tr) ?_
 rintro r H1 ⟨-, hT1⟩
 have hS1 := (sR H).trans hT1
 simp only [RT] at hS1
 simp (disch := omega) only [↓RA, RB, simprocAttr, hn, c3l]
 exact hS1
theorem b8N (x : Nt) : Fn prog 102 [.agg #[.int .u64 x.1, .int .u64 x.2]] H fun r H' => ∃ A, r = .func (.func 135) #[] #[ptr A 0 2] ∧ St prog H H' [⟨ptr A 0 2, 0, [.int .u64 x.1, .int .u64 x.2]⟩] := by
 refine .aU func102 rfl (by kernel_rfl) (m := 4) rfl fun l hn g0 => ?_
 simp (disch := omega) only [↓RA, RB, simprocAttr, g0]
 refine (sR H).eNew 2 [(.int .u64 x.1), (.int .u64 x.2)] rfl rfl rfl lK fun A1 H1 hS1 => ?_
 simp only [RT] at hS1
 simp (disch := omega) only [↓RA, RZ, simprocAttr, hn, c4p]
 exact ⟨A1, rfl, hS1⟩
theorem b0m (hG : Glob gH H) (x : Nt) (hx : Nt.Ok x) :
 Fn prog 57 [.agg #[.int .u64 x.1, .int .u64 x.2]] H fun r H' => St prog H H' [⟨r, 1, (pK x).flatMap (one I)⟩] := by
 refine .aU func57 rfl (by kernel_rfl) (m := 6) rfl fun l hn g0 => ?_
 simp (disch := omega) only [↓RA, RB, simprocAttr, g0]
 refine (sR H).eNew 2 [(.int .u64 x.1), (.int .u64 x.2)] rfl rfl rfl lK fun A1 H1 hS1 => ?_
 simp only [RT] at hS1
 simp (disch := omega) only [↓RA, RZ, simprocAttr, hn, hS1.ai 0 rfl]
 refine iF (b8N x) ?_
 rintro r H2 ⟨A2, rfl, hT1⟩
 have hS2 := hS1.trans hT1
 simp only [RT] at hS2
 simp (disch := omega) only [↓RA, RZ, simprocAttr, hn]
 refine iF ((a9C (hS2.gl hG) x hx A2 (hS2.var 1 rfl)).tr) ?_
 rintro r H3 ⟨-, hT2⟩
 have hS3 := hS2.trans hT2
 simp only [RT] at hS3
 simp (disch := omega) only [↓RA, RB, simprocAttr, hn, c4X]
 exact hS3.pick [2] (by decide) rfl
def a7L (a b : Nat) : Nat := (BitVec.ofNat 64 a &&& ~~~ BitVec.ofNat 64 b).toNat
theorem a4q (a b : Nat) : a7L a b < 18446744073709551616 := (BitVec.ofNat 64 a &&& ~~~ BitVec.ofNat 64 b).isLt
theorem b9I (a b : Nat) : IntKind.wrap .u64 ((BitVec.ofInt (IntKind.bits .u64) (a : Int) &&& ~~~ BitVec.ofInt (IntKind.bits .u64) (b : Int)).toNat : Int) = ((a7L a b : Nat) : Int) := by
 have e : (BitVec.ofInt (IntKind.bits .u64) (a : Int) &&& ~~~ BitVec.ofInt (IntKind.bits .u64) (b : Int)).toNat = a7L a b := by
  unfold a7L
  rw [fR, fR]
  rfl
 rw [e]
 have := a4q a b
 exact oC _ (by omega) (by omega)
theorem a6M (a b j : Nat) (ha : a < 18446744073709551616) (hj : j < 64) : (a7L a b).testBit j = (a.testBit j && !b.testBit j) := by
 unfold a7L
 have h1 : (BitVec.ofNat 64 a &&& ~~~ BitVec.ofNat 64 b).toNat.testBit j = (BitVec.ofNat 64 a &&& ~~~ BitVec.ofNat 64 b).getLsbD j := rfl
 rw [h1, BitVec.getLsbD_and, BitVec.getLsbD_not, BitVec.getLsbD_ofNat, BitVec.getLsbD_ofNat]
 simp [hj]
def woF (x y : Nt) : Nt := (a7L x.1 y.1, a7L x.2 y.2)
theorem c0W (x y : Nt) : Nt.Ok (woF x y) := ⟨a4q _ _, a4q _ _⟩
theorem c1P (x y : Nt) : Fn prog 98 [.agg #[.int .u64 x.1, .int .u64 x.2], .agg #[.int .u64 y.1, .int .u64 y.2]] H fun r H' => r = .agg #[.int .u64 (woF x y).1, .int .u64 (woF x y).2] ∧ St prog H H' [] := by
 have e1 := b9I x.1 y.1
 have e2 := b9I x.2 y.2
 refine .aF func98 rfl (by kernel_rfl) (m := 16) rfl fun l hn g0 g1 => ?_
 simp (disch := omega) only [↓RA, RB, simprocAttr, g0]
 refine (sR H).eNew 2 [(.int .u64 x.1), (.int .u64 x.2)] rfl rfl rfl lK fun A1 H1 hS1 => ?_
 simp only [RT] at hS1
 simp (disch := omega) only [↓RA, RB, simprocAttr, g1]
 refine hS1.eNew 2 [(.int .u64 y.1), (.int .u64 y.2)] rfl rfl rfl lK fun A2 H2 hS2 => ?_
 simp only [RT] at hS2
 simp (disch := omega) only [↓RA, RZ, simprocAttr]
 refine hS2.eNew 2 [(.int .u64 0), (.int .u64 0)] rfl rfl rfl lK fun A3 H3 hS3 => ?_
 simp only [RT] at hS3
 simp (disch := omega) only [↓RA, RZ, simprocAttr, hn, hS3.ld 0 rfl, hS3.ld 1 rfl, b1P, e1, e2]
 refine hS3.aa 2 rfl [_, _] rfl rfl lK (by simp) fun H4 hS4 => ?_
 simp only [RT] at hS4
 simp (disch := omega) only [↓RA, RZ, simprocAttr, hn, c5p, hS4.ai 2 rfl]
 exact ⟨rfl, hS4.forget⟩
theorem a8m (x y : Nt) : Fn prog 54 [.agg #[.int .u64 x.1, .int .u64 x.2], .agg #[.int .u64 y.1, .int .u64 y.2]] H fun r H' => r = .bool (decide (woF x y = (0, 0))) ∧ St prog H H' [] := by
 refine .aF func54 rfl (by kernel_rfl) (m := 10) rfl fun l hn g0 g1 => ?_
 simp (disch := omega) only [↓RA, RB, simprocAttr, g0]
 refine (sR H).eNew 2 [(.int .u64 x.1), (.int .u64 x.2)] rfl rfl rfl lK fun A1 H1 hS1 => ?_
 simp only [RT] at hS1
 simp (disch := omega) only [↓RA, RB, simprocAttr, g1]
 refine hS1.eNew 2 [(.int .u64 y.1), (.int .u64 y.2)] rfl rfl rfl lK fun A2 H2 hS2 => ?_
 simp only [RT] at hS2
 simp (disch := omega) only [↓RA, RZ, simprocAttr, hn, hS2.ai 0 rfl, hS2.ai 1 rfl]
 refine hS2.cF (c1P x y) fun H3 hS3 => ?_
 simp (disch := omega) only [↓RA, RZ, simprocAttr, hn, b5R, c6s]
 refine ⟨?_, hS3.forget⟩
 congr 1
 rw [decide_eq_decide]
 constructor
 ·rintro ⟨h1, h2⟩
  exact fQ (by simpa using h1) (by simpa using h2)
 ·intro h
  rw [h]
  exact ⟨rfl, rfl⟩
def a0d (lo hi : Int) : Nt := jI ((List.range (hi - lo + 1).toNat).map fun (k : Nat) => lo + (k : Int))
theorem b3u (lo hi : Int) (h0 : 0 ≤ lo) (h1 : lo ≤ hi) (h2 : hi ≤ 127) : Fn prog 53 [.agg #[I lo, I hi]] H fun r H' => r = .tuple #[.agg #[.int .u64 (a0d lo hi).1, .int .u64 (a0d lo hi).2], I 0] ∧ St prog H H' [] := by
 have hce : qU lo hi = 0 := by
  unfold qU
  rw [if_neg (by omega), if_neg (by omega)]
 refine .aU func53 rfl (by kernel_rfl) (m := 25) rfl fun l hn g0 => ?_
 simp (disch := omega) only [↓RA, RB, simprocAttr, g0]
 refine (sR H).eNew 2 [I lo, I hi] rfl rfl rfl tN fun A1 H1 hS1 => ?_
 simp only [RT] at hS1
 simp (disch := omega) only [↓RA, RZ, simprocAttr]
 refine hS1.eNew 2 [(.int .u64 0), (.int .u64 0)] rfl rfl rfl lK fun A2 H2 hS2 => ?_
 simp only [RT] at hS2
 simp (disch := omega) only [↓RA, RZ, simprocAttr]
 refine hS2.eNew 2 [(.int .u64 0), (.int .u64 0)] rfl rfl rfl lK fun A3 H3 hS3 => ?_
 simp only [RT] at hS3
 simp (disch := omega) only [↓RA, RZ, simprocAttr, hn, hS3.ai 0 rfl]
 refine hS3.cF (a0X lo hi) fun H4 hS4 => ?_
 rw [hce]
 simp (disch := omega) only [↓RA, RZ, simprocAttr, hn, hS4.ld 0 rfl]
 refine Wp.ak (fun n l H' => l.length = 25 ∧ get l 1 = (ptr A1 0 2) ∧ get l 2 = (ptr A2 0 2) ∧ get l 3 = I 0 ∧ get l 4 = (ptr A3 0 2) ∧ ∃ (j : Nat), (n + j = (hi - lo + 1).toNat) ∧ get l 6 = I (lo + (j : Int)) ∧ St prog H H' [⟨ptr A1 0 2, 0, [I lo, I hi]⟩, ⟨ptr A2 0 2, 0, [(.int .u64 0), (.int .u64 0)]⟩, ⟨ptr A3 0 2, 0, [.int .u64 (jI ((List.range j).map fun (k : Nat) => lo + (k : Int))).1, .int .u64 (jI ((List.range j).map fun (k : Nat) => lo + (k : Int))).2]⟩]) (hi - lo + 1).toNat ?_ ?_
 ·simp (disch := omega) only [RB, RC, simprocAttr, hn]
  exact ⟨0, by omega, by simp, hS4⟩
 rintro n l H5 ⟨hn, g1, g2, g3, g4, j, hj, g6, hS5⟩
 simp (disch := omega) only [↓RA, RZ, simprocAttr, hn, g1, g6, hS5.ld 0 rfl]
 refine hK (fun q1 => ?_) (fun q1 => ?_)
 ·have hok : Nt.Ok (jI ((List.range j).map fun (k : Nat) => lo + (k : Int))) := vF _ _ (fun z h => by
   obtain ⟨k, hk, rfl⟩ := du.1 h
   have := dr.1 hk
   exact ⟨by omega, by omega⟩) ⟨by decide, by decide⟩
  have hsu : jI ((List.range (j + 1)).map fun (k : Nat) => lo + (k : Int)) = sH (jI ((List.range j).map fun (k : Nat) => lo + (k : Int))) (lo + (j : Int)) := by
   unfold jI
   rw [dW, dQ, gr]
   rfl
  simp (disch := omega) only [↓RA, RZ, simprocAttr, hn, g4, g6, hS5.ai 2 rfl, q1]
  refine hS5.cF (a6u (jI ((List.range j).map fun (k : Nat) => lo + (k : Int))) hok (lo + (j : Int)) (by omega) (by omega)) fun H6 hS6 => ?_
  simp (disch := omega) only [↓RA, RZ, simprocAttr, hn, g4, q1]
  refine hS6.aa 2 rfl [(.int .u64 (sH (jI ((List.range j).map fun (k : Nat) => lo + (k : Int))) (lo + (j : Int))).1), (.int .u64 (sH (jI ((List.range j).map fun (k : Nat) => lo + (k : Int))) (lo + (j : Int))).2)] rfl rfl lK (by simp) fun H7 hS7 => ?_
  simp only [RT] at hS7
  simp (disch := omega) only [↓RA, RZ, simprocAttr, hn, g1, g2, g3, g4, g6, q1]
  refine ⟨n - 1, by omega, j + 1, by omega, by congr 1; omega, ?_⟩
  rw [hsu]
  exact hS7.pick [0, 1, 2] (by decide) rfl
 have hjj : j = (hi - lo + 1).toNat := by omega
 simp (disch := omega) only [↓RA, RZ, simprocAttr, hn, g2, g4, hS5.ai 2 rfl, q1]
 refine hS5.aa 1 rfl [(.int .u64 (jI ((List.range j).map fun (k : Nat) => lo + (k : Int))).1), (.int .u64 (jI ((List.range j).map fun (k : Nat) => lo + (k : Int))).2)] rfl rfl lK (by simp) fun H8 hS8 => ?_
 simp only [RT] at hS8
 simp (disch := omega) only [↓RA, RZ, simprocAttr, hn, g2, c5F, hS8.ai 1 rfl, q1]
 rw [hjj]
 exact ⟨rfl, hS8.forget⟩
structure Ks (H : Heap) (kv : Value) (ks : List Nt) : Prop where
 sl : Sl 2 ntc H kv ks
 len : ks.length < 1000000000
 ok : ∀ x ∈ ks, Nt.Ok x
theorem Ks.ag {P : Program} {H' : Heap} {kv : Value} {ks : List Nt} {os : List Ob} (h : Ks H kv ks) (hS : St P H H' os) : Ks H' kv ks := ⟨hS.sl h.sl, h.len, h.ok⟩
def nY (o : Org) (ks : List Nt) : Int := if organE o ≠ 0 then organE o else if ks.length ≠ o.dvs.length then 5 else if ∃ j, j < o.dvs.length ∧ woF (iA ks j) (a0d (iA o.dvs j).lo (iA o.dvs j).hi) ≠ (0, 0) then 23 else 0
theorem b4B (o : Org) (ho : o.In H) (kv : Value) (ks : List Nt) (hk : Ks H kv ks) : Fn prog 19 [.agg #[.string o.name, o.rv, o.dv, o.cv], kv] H fun r H' => r = I (nY o ks) ∧ St prog H H' [] := by
 have hkl := hk.len
 have hdl := ho.2.2.2.2.2.2.1
 refine .aF func19 rfl (by kernel_rfl) (m := 43) rfl fun l hn g0 g1 => ?_
 simp (disch := omega) only [↓RA, RB, simprocAttr, g0]
 refine (sR H).eNew 4 [(.string o.name), o.rv, o.dv, o.cv] rfl rfl (by simp [OC, ((sR H).sl ho.1).cells.2.1, ((sR H).sl ho.2.2.1).cells.2.1, ((sR H).sl ho.2.2.2.2.1).cells.2.1]) mR fun A1 H1 hS1 => ?_
 simp only [RT] at hS1
 simp (disch := omega) only [↓RA, RZ, simprocAttr, hn, hS1.ai 0 rfl]
 refine hS1.cF (a1S o (ho.ag hS1)) fun H2 hS2 => ?_
 simp (disch := omega) only [↓RA, RB, simprocAttr, hn]
 refine hK (fun h1 => ?_) (fun h1 => ?_)
 ·simp (disch := omega) only [↓RA, RZ, simprocAttr, hn, b8f, h1]
  exact ⟨by unfold nY; rw [if_pos h1], hS2.forget⟩
 have hz : organE o = 0 := dy.1 h1
 have hf := Org.aX hz
 simp (disch := omega) only [↓RA, RZ, simprocAttr, hn, g1, (hS2.sl hk.sl).len, hS2.ld 0 rfl, (hS2.sl ho.2.2.1).len, h1]
 refine hK (fun h2 => ?_) (fun h2 => ?_)
 ·simp (disch := omega) only [↓RA, RZ, simprocAttr, hn, b8f, h1, h2]
  exact ⟨by unfold nY; rw [if_neg h1, if_pos (by omega)], hS2.forget⟩
 have hlen : ks.length = o.dvs.length := by omega
 simp (disch := omega) only [↓RA, RZ, simprocAttr, hn, hS2.ld 0 rfl, (hS2.sl ho.2.2.1).len, h1, h2]
 refine Wp.ak (fun n l H' => l.length = 43 ∧ get l 1 = kv ∧ get l 22 = o.dv ∧ get l 23 = I o.dvs.length ∧ ∃ (j : Nat), (n + j = o.dvs.length ∧ ∀ q, q < j → woF (iA ks q) (a0d (iA o.dvs q).lo (iA o.dvs q).hi) = (0, 0)) ∧ get l 24 = I j ∧ St prog H H' [⟨ptr A1 0 4, 0, [(.string o.name), o.rv, o.dv, o.cv]⟩]) o.dvs.length ?_ ?_
 ·simp (disch := omega) only [RB, RC, simprocAttr, hn, g1]
  exact ⟨0, ⟨by omega, fun q hq => absurd hq (dH _)⟩, rfl, hS2⟩
 rintro n l H3 ⟨hn, g1, g22, g23, j, ⟨hj,hq⟩, g24, hS3⟩
 simp (disch := omega) only [↓RA, RB, simprocAttr, hn, g23, g24]
 refine hK (fun h3 => ?_) (fun h3 => ?_)
 ·have hky := hf.keys j (by omega)
  simp (disch := omega) only [↓RA, RZ, simprocAttr, hn, g22, g24, (hS3.sl ho.2.2.1).idx, (hS3.sl ho.2.2.1).ai, Dvn.cells, h3]
  refine hS3.eNew 5 [(.string ⟨#[]⟩), (.bool false), I 0, I 0, (.slice none 0 0)] rfl rfl rfl tO fun A2 H4 hS4 => ?_
  simp only [RT] at hS4
  simp (disch := omega) only [↓RA, RZ, simprocAttr, hn, h3]
  refine hS4.aa 1 rfl [(.string (iA o.dvs j).name), (.bool (iA o.dvs j).pedal), I (iA o.dvs j).lo, I (iA o.dvs j).hi, (iA o.dvs j).sv] rfl (by simp [OC, (hS4.sl (ho.2.2.2.1 (iA o.dvs j) (iC (by omega))).1).cells.2.1]) tO (by simp) fun H5 hS5 => ?_
  simp only [RT] at hS5
  simp (disch := omega) only [↓RA, RZ, simprocAttr, hn, hS5.ai 1 rfl, h3]
  refine hS5.cF (b3u (iA o.dvs j).lo (iA o.dvs j).hi hky.1 hky.2.1 hky.2.2) fun H6 hS6 => ?_
  simp (disch := omega) only [↓RA, RZ, simprocAttr, hn, h3]
  refine hS6.eNew 2 [(.int .u64 0), (.int .u64 0)] rfl rfl rfl lK fun A3 H7 hS7 => ?_
  simp only [RT] at hS7
  simp (disch := omega) only [↓RA, RZ, simprocAttr, hn, h3]
  refine hS7.aa 2 rfl [(.int .u64 (a0d (iA o.dvs j).lo (iA o.dvs j).hi).1), (.int .u64 (a0d (iA o.dvs j).lo (iA o.dvs j).hi).2)] rfl rfl lK (by simp) fun H8 hS8 => ?_
  simp only [RT] at hS8
  simp (disch := omega) only [↓RA, RZ, simprocAttr, hn, h3]
  refine Wp.drw kF (by kernel_rfl) ?_
  simp (disch := omega) only [↓RA, RZ, simprocAttr, hn, g1, (hS8.sl hk.sl).idx, (hS8.sl hk.sl).ai, ntc, hS8.ai 2 rfl]
  refine hS8.cF (a8m (iA ks j) (a0d (iA o.dvs j).lo (iA o.dvs j).hi)) fun H9 hS9 => ?_
  simp (disch := omega) only [↓RA, RB, simprocAttr, hn]
  refine jF (fun h4 => ?_) (fun h4 => ?_)
  ·have h5 : ¬ woF (iA ks j) (a0d (iA o.dvs j).lo (iA o.dvs j).hi) = (0, 0) := by simpa using h4
   simp (disch := omega) only [↓RA, RB, simprocAttr, hn, b8f, h4]
   exact ⟨by unfold nY; rw [if_neg h1, if_neg (by omega), if_pos ⟨j, by omega, h5⟩], hS9.forget⟩
  have h5 : woF (iA ks j) (a0d (iA o.dvs j).lo (iA o.dvs j).hi) = (0, 0) := by simpa using h4
  simp (disch := omega) only [↓RA, RZ, simprocAttr, hn, g1, g22, g23, g24, h4]
  exact ⟨n - 1, by omega, j + 1, ⟨by omega, fun q hq' => by rcases dm.1 hq' with e | e; (· exact hq q e); (· rw [e]; exact h5)⟩, by simp, hS9.pick [0] (by decide) rfl⟩
 simp (disch := omega) only [↓RA, RZ, simprocAttr, hn, b8f, h3]
 refine ⟨?_, hS3.forget⟩
 unfold nY
 rw [if_neg h1, if_neg (by omega), if_neg]
 rintro ⟨q, hq1, hq2⟩
 exact hq2 (hq q (by omega))
def plD (ks : List Nt) (i : Nat) : List Ct := (pK (iA ks i)).map fun z => ((i : Int), z)
def iE (ks : List Nt) : List Ct := (List.range ks.length).flatMap (plD ks)
theorem c1E (ks : List Nt) (i : Nat) : (plD ks i).length ≤ 128 := by
 unfold plD
 rw [ee]
 exact a1M _
theorem b4z (ks : List Nt) : ∀ i, ((List.range i).flatMap (plD ks)).length ≤ i * 128
 | 0 => by simp
 | i + 1 => by
   have := b4z ks i
   have := c1E ks i
   rw [dW, dD, di, dx, eG, dh]
   omega
theorem vB (hG : Glob gH H) (kv : Value) (ks : List Nt) (hk : Ks H kv ks) (h8 : ks.length ≤ 8) : Fn prog 47 [kv] H fun r H' => St prog H H' [⟨r, 2, pr (iE ks)⟩] := by
 refine .aU func47 rfl (by kernel_rfl) (m := 31) rfl fun l hn g0 => ?_
 simp (disch := omega) only [↓RA, RZ, simprocAttr, hn, g0, ((sR H).sl hk.sl).len]
 have hS1 := (sR H).nil 1
 simp only [RT] at hS1
 refine Wp.ak (fun n l H' => l.length = 31 ∧ get l 2 = (.slice none 0 0) ∧ get l 8 = kv ∧ get l 9 = I ks.length ∧ ∃ (i : Nat) (ov : Value), (n + i = ks.length) ∧ get l 10 = I i ∧ get l 3 = ov ∧ St prog H H' [⟨ov, 2, pr ((List.range i).flatMap (plD ks))⟩]) ks.length ?_ ?_
 ·simp (disch := omega) only [RB, RC, simprocAttr, hn]
  exact ⟨0, .slice none 0 0, by omega, rfl, rfl, hS1⟩
 rintro n l H1 ⟨hn, g2, g8, g9, i, ov, hi, qX, g3, hS2⟩
 simp (disch := omega) only [↓RA, RB, simprocAttr, hn, g9, qX]
 refine hK (fun q1 => ?_) (fun q1 => ?_)
 ·have hmo := hk.ok _ (iC (xs := ks) (j := i) (by omega))
  have hml := a1M (iA ks i)
  have hpl := b4z ks i
  simp (disch := omega) only [↓RA, RZ, simprocAttr, hn, g8, qX, (hS2.sl hk.sl).idx, (hS2.sl hk.sl).ai, ntc, q1]
  refine hS2.eNew 2 [(.int .u64 0), (.int .u64 0)] rfl rfl rfl lK fun A1 H2 hS3 => ?_
  simp only [RT] at hS3
  simp (disch := omega) only [↓RA, RZ, simprocAttr, hn, q1]
  refine hS3.aa 1 rfl [(.int .u64 (iA ks i).1), (.int .u64 (iA ks i).2)] rfl rfl lK (by simp) fun H3 hS4 => ?_
  simp only [RT] at hS4
  simp (disch := omega) only [↓RA, RZ, simprocAttr, hn, hS4.ai 1 rfl, q1]
  refine iF ((b0m (hS4.gl hG) (iA ks i) hmo).tr) ?_
  rintro r H4 ⟨-, hT1⟩
  have hS5 := hS4.trans hT1
  simp only [RT] at hS5
  obtain ⟨mw, rfl⟩ : ∃ w, w = r := ⟨r, rfl⟩
  simp (disch := omega) only [↓RA, RZ, simprocAttr, hn, (hS5.aw 2 rfl (fun _ => rfl)).len, q1]
  refine Wp.ak (fun n l H' => l.length = 31 ∧ get l 2 = (.slice none 0 0) ∧ get l 4 = I i ∧ get l 8 = kv ∧ get l 9 = I ks.length ∧ get l 10 = I i ∧ get l 16 = mw ∧ get l 17 = I (pK (iA ks i)).length ∧ ∃ (j : Nat) (ow : Value), (n + j = (pK (iA ks i)).length) ∧ get l 18 = I j ∧ get l 3 = ow ∧ St prog H H' [⟨ow, 2, pr ((List.range i).flatMap (plD ks) ++ ((pK (iA ks i)).take j).map fun z => ((i : Int), z))⟩, ⟨ptr A1 0 2, 0, [(.int .u64 (iA ks i).1), (.int .u64 (iA ks i).2)]⟩, ⟨mw, 1, (pK (iA ks i)).flatMap (one I)⟩]) (pK (iA ks i)).length ?_ ?_
  ·simp (disch := omega) only [RB, RC, simprocAttr, hn, g2, g8, g9, qX, g3]
   refine ⟨0, ov, by omega, rfl, rfl, ?_⟩
   rw [List.take_zero, gb, dh]
   exact hS5
  rintro n l H5 ⟨hn, g2, g4, g8, g9, qX, g16, g17, j, ow, hj, g18, g3, hS6⟩
  simp (disch := omega) only [↓RA, RB, simprocAttr, hn, g17, g18]
  refine hK (fun q2 => ?_) (fun q2 => ?_)
  ·have hroom : (pr ((List.range i).flatMap (plD ks) ++ ((pK (iA ks i)).take j).map fun z => ((i : Int), z))).length ≤ 4000 := by
    rw [iG, di, ee, fc]
    omega
   simp (disch := omega) only [↓RA, RZ, simprocAttr, hn, g4, g16, g18, g3, (hS6.aw 2 rfl (fun _ => rfl)).idx, (hS6.aw 2 rfl (fun _ => rfl)).ld, one, qK, q2]
   refine hS6.aj [I i, I (iA (pK (iA ks i)) j)] rT a2N rfl rfl (by simp [Value.cells]) rfl rfl (by decide) (by decide) fun w1 H6 hS7 => ?_
   simp only [RT] at hS7
   simp (disch := omega) only [↓RA, RZ, simprocAttr, hn, q2]
   refine hS7.aq 0 rfl (hS7.rd 3 rfl) rT (by have h := hroom; simp only [dY, eK]; omega) fun w2 H7 hS8 => ?_
   simp only [RT] at hS8
   simp (disch := omega) only [↓RA, RZ, simprocAttr, hn, g2, g4, g8, g9, qX, g16, g17, g18, q2]
   refine ⟨n - 1, by omega, j + 1, w2, by omega, by simp, rfl, ?_⟩
   rw [List.take_add_one, dj (by omega), Option.toList_some, dQ, ← ed, jC]
   rw [show (pK (iA ks i))[j] = iA (pK (iA ks i)) j from (jN _ _ (by omega)).symm]
   exact hS8.pick [0, 1, 2] (by decide) rfl
  simp (disch := omega) only [↓RA, RZ, simprocAttr, hn, g2, g8, g9, qX, g3, q2]
  have hjj : j = (pK (iA ks i)).length := by omega
  refine ⟨ks.length - (i + 1), by omega, i + 1, ow, by omega, by simp, rfl, ?_⟩
  rw [dW, dD, dx, eG, dh]
  rw [show plD ks i = ((pK (iA ks i)).take j).map (fun z => ((i : Int), z)) from by rw [hjj, dT]; rfl]
  exact hS6.pick [0] (by decide) rfl
 have hii : i = ks.length := by omega
 simp (disch := omega) only [↓RA, RZ, simprocAttr, hn, g3, c5v, q1]
 have hfin := hS2
 rw [hii] at hfin
 exact hfin
end Go.Ds
namespace Go.Ds
open Go.Proofs
set_option maxRecDepth 10000
def nF (x : Nt) (z : Int) : Bool := if z < 64 then x.1.testBit z.toNat else x.2.testBit (z - 64).toNat
theorem rR {x i : Nat} : i ∈ oP x ↔ i < 64 ∧ x.testBit i = true := by
 unfold oP
 rw [ey, dr]
theorem a1l {x : Nt} {z : Int} : z ∈ pK x ↔ isN z ∧ nF x z = true := by
 unfold pK nF isN
 rw [dG, du, du]
 constructor
 ·rintro (⟨i, hi, rfl⟩ | ⟨i, hi, rfl⟩)
  ·obtain ⟨h1, h2⟩ := rR.1 hi
   exact ⟨by omega, by rw [if_pos (by omega)]; exact h2⟩
  ·obtain ⟨h1, h2⟩ := rR.1 hi
   refine ⟨by omega, ?_⟩
   rw [if_neg (by omega), show (64 + (i : Int) - 64).toNat = i by omega]
   exact h2
 ·rintro ⟨h1, h2⟩
  by_cases h : z < 64
  ·rw [if_pos h] at h2
   exact .inl ⟨z.toNat, rR.2 ⟨by omega, h2⟩, by omega⟩
  ·rw [if_neg h] at h2
   exact .inr ⟨(z - 64).toNat, rR.2 ⟨by omega, h2⟩, by omega⟩
theorem b6h (x : Nt) (n z : Int) (hn : isN n) (hz : isN z) : nF (sH x n) z = (nF x z || decide (z = n)) := by
 unfold nF sH isN at *
 by_cases h1 : n < 64
 ·rw [if_pos h1]
  by_cases h2 : z < 64
  ·rw [if_pos h2, if_pos h2, Nat.testBit_or, fX]
   congr 1
   rw [decide_eq_decide]
   omega
  ·rw [if_neg h2, if_neg h2, decide_eq_false (by omega), Bool.or_false]
 ·rw [if_neg h1]
  by_cases h2 : z < 64
  ·rw [if_pos h2, if_pos h2, decide_eq_false (by omega), Bool.or_false]
  ·rw [if_neg h2, if_neg h2, Nat.testBit_or, fX]
   congr 1
   rw [decide_eq_decide]
   omega
theorem a3l (z : Int) : nF (0, 0) z = false := by
 unfold nF
 split <;> simp
theorem a3y : ∀ (xs : List Int) (x : Nt) (z : Int), (∀ n ∈ xs, isN n) → isN z → nF (xs.foldl sH x) z = (nF x z || decide (z ∈ xs))
 | [], x, z, _, _ => by simp
 | n :: xs, x, z, h, hz => by
   rw [eY, a3y xs _ z (fun y hy => h y (dM _ hy)) hz, b6h x n z (h n (dE ..)) hz, Bool.or_assoc]
   congr 1
   rw [dV]
   simp
theorem a2F {xs : List Int} {z : Int} (h : ∀ n ∈ xs, isN n) (hz : isN z) : nF (jI xs) z = decide (z ∈ xs) := by
 unfold jI
 rw [a3y xs _ z h hz, a3l, Bool.false_or]
theorem a1V {lo hi z : Int} (h0 : 0 ≤ lo) (h2 : hi ≤ 127) (hz : isN z) : nF (a0d lo hi) z = (decide (lo ≤ z) && decide (z ≤ hi)) := by
 unfold a0d
 rw [a2F (fun n hn => by
  obtain ⟨k, hk, rfl⟩ := du.1 hn
  have := dr.1 hk
  exact ⟨by omega, by omega⟩) hz, dV, cW, decide_eq_true_eq, decide_eq_true_eq, decide_eq_true_eq, du]
 constructor
 ·rintro ⟨k, hk, rfl⟩
  have := dr.1 hk
  omega
 ·rintro ⟨h3, h4⟩
  exact ⟨(z - lo).toNat, dr.2 (by omega), by omega⟩
theorem b0r {x y : Nt} (hx : Nt.Ok x) {z : Int} (hz : isN z) : nF (woF x y) z = (nF x z && !nF y z) := by
 obtain ⟨h1, h2⟩ := hz
 unfold nF woF
 by_cases h : z < 64
 ·rw [if_pos h, if_pos h, if_pos h, a6M _ _ _ hx.1 (by omega)]
 ·rw [if_neg h, if_neg h, if_neg h, a6M _ _ _ hx.2 (by omega)]
theorem a2j {x y : Nt} (hx : Nt.Ok x) (h : woF x y = (0, 0)) {z : Int} (hz : isN z) (hh : nF x z = true) : nF y z = true := by
 have := b0r (y := y) hx hz
 rw [h, a3l, hh] at this
 simpa using this.symm
theorem nM {o : Org} {ks : List Nt} (h : nY o ks = 0) : organE o = 0 ∧ ks.length = o.dvs.length ∧ ∀ j, j < o.dvs.length → woF (iA ks j) (a0d (iA o.dvs j).lo (iA o.dvs j).hi) = (0, 0) := by
 unfold nY at h
 split at h
 ·rename_i hh; exact absurd h hh
 rename_i h1
 split at h
 ·omega
 rename_i h2
 split at h
 ·omega
 rename_i h3
 refine ⟨dy.1 h1, by omega, fun j hj => ?_⟩
 by_cases hh : woF (iA ks j) (a0d (iA o.dvs j).lo (iA o.dvs j).hi) = (0, 0)
 ·exact hh
 ·exact absurd ⟨j, hj, hh⟩ h3
theorem qE {o : Org} {ks : List Nt} (hok : ∀ x ∈ ks, Nt.Ok x) (h : nY o ks = 0) : ∀ c ∈ iE ks, mX o c = true := by
 obtain ⟨h1, h2, h3⟩ := nM h
 have hf := Org.aX h1
 intro c hc
 unfold iE at hc
 obtain ⟨i, hi, hc⟩ := dS.1 hc
 have hi := dr.1 hi
 unfold plD at hc
 obtain ⟨z, hz, rfl⟩ := du.1 hc
 obtain ⟨hz1, hz2⟩ := a1l.1 hz
 have hky := hf.keys i (by omega)
 have hw := a2j (hok _ (iC hi)) (h3 i (by omega)) hz1 hz2
 rw [a1V hky.1 hky.2.2 hz1] at hw
 simp only [cW, decide_eq_true_eq] at hw
 unfold mX
 simp only [cW, decide_eq_true_eq, eT]
 omega
theorem qD {o : Org} {ks : List Nt} (h : nY o ks = 0) : (iE ks).length ≤ 1024 := by
 obtain ⟨h1, h2, _⟩ := nM h
 have h8 := (Org.aX h1).dlen
 have := b4z ks ks.length
 unfold iE
 omega
structure SegsOk (m : Nat) (lo hi : Int) (gs : List Seg) : Prop where
 ord : ∀ i, i < gs.length → (iA gs i).lo ≤ (iA gs i).hi
 up : ∀ i, i < gs.length → 0 < i → (iA gs (i - 1)).hi < (iA gs i).lo
 within : ∀ i, i < gs.length → lo ≤ (iA gs i).lo ∧ (iA gs i).hi ≤ hi
 draws : ∀ i, i < gs.length → kU m (iA gs i).draws = 0
 len : gs.length ≤ 12
theorem zN {o : Org} (h : organE o = 0) {j : Nat} (hj : j < o.dvs.length) {s : Stp} (hs : s ∈ (iA o.dvs j).stops) : SegsOk o.ranks.length (iA o.dvs j).lo (iA o.dvs j).hi s.segs := by
 unfold organE at h
 split at h
 ·omega
 split at h
 ·omega
 split at h
 ·rename_i hh; exact absurd h hh
 split at h
 ·omega
 split at h
 ·omega
 split at h
 ·rename_i hh; exact absurd h hh
 rename_i h6
 have h6 := dy.1 h6
 have e := nQ h6 j hj
 unfold sD at e
 split at e
 ·omega
 split at e
 ·omega
 unfold divE at e
 split at e
 ·rename_i hh; exact absurd e hh
 split at e
 ·omega
 obtain ⟨k, hk, rfl⟩ := dA.1 hs
 have e2 := nQ e k hk
 unfold oD at e2
 rw [jN _ k hk] at e2
 split at e2
 ·rename_i hh; exact absurd e2 hh
 rename_i e3
 have e3 := dy.1 e3
 unfold stopE at e3
 split at e3
 ·rename_i hh; exact absurd e3 hh
 split at e3
 ·omega
 split at e3
 ·rename_i hh; exact absurd e3 hh
 split at e3
 ·omega
 split at e3
 ·omega
 have key : ∀ i, i < ((iA o.dvs j).stops[k]).segs.length → (iA ((iA o.dvs j).stops[k]).segs i).lo ≤ (iA ((iA o.dvs j).stops[k]).segs i).hi ∧ (0 < i → (iA ((iA o.dvs j).stops[k]).segs (i - 1)).hi < (iA ((iA o.dvs j).stops[k]).segs i).lo) ∧ ((iA o.dvs j).lo ≤ (iA ((iA o.dvs j).stops[k]).segs i).lo ∧ (iA ((iA o.dvs j).stops[k]).segs i).hi ≤ (iA o.dvs j).hi) ∧ kU o.ranks.length (iA ((iA o.dvs j).stops[k]).segs i).draws = 0 := by
  intro i hi
  have e4 := nQ e3 i hi
  unfold kW at e4
  split at e4
  ·omega
  split at e4
  ·omega
  exact ⟨by omega, fun h0 => by omega, ⟨by omega, by omega⟩, e4⟩
 exact ⟨fun i hi => (key i hi).1, fun i hi => (key i hi).2.1, fun i hi => (key i hi).2.2.1, fun i hi => (key i hi).2.2.2, by omega⟩
theorem SegsOk.lt {m : Nat} {lo hi : Int} {gs : List Seg} (h : SegsOk m lo hi gs) {i : Nat} : ∀ k, i + 1 + k < gs.length → (iA gs i).hi < (iA gs (i + 1 + k)).lo
 | 0, hk => h.up (i + 1) hk (by omega)
 | k + 1, hk => by
   have h1 := h.lt (i := i) k (by omega)
   have h2 := h.ord (i + 1 + k) (by omega)
   have h3 := h.up (i + 1 + (k + 1)) hk (by omega)
   rw [show i + 1 + (k + 1) - 1 = i + 1 + k by omega] at h3
   omega
theorem SegsOk.one {m : Nat} {lo hi : Int} {gs : List Seg} (h : SegsOk m lo hi gs) {key : Int} {i j : Nat} (hi' : i < gs.length) (hj : j < gs.length) (h1 : (iA gs i).lo ≤ key ∧ key ≤ (iA gs i).hi) (h2 : (iA gs j).lo ≤ key ∧ key ≤ (iA gs j).hi) : i = j := by
 rcases Nat.lt_trichotomy i j with e | e | e
 ·have := h.lt (i := i) (j - i - 1) (by omega)
  rw [show i + 1 + (j - i - 1) = j by omega] at this
  omega
 ·exact e
 ·have := h.lt (i := j) (i - j - 1) (by omega)
  rw [show j + 1 + (i - j - 1) = i by omega] at this
  omega
theorem a7o {m : Nat} {lo hi : Int} {s : Stp} (h : SegsOk m lo hi s.segs) {key : Int} {d : Drw} : d ∈ a5l s key ↔ ∃ i, i < s.segs.length ∧ uQ s key i = true ∧ d ∈ (iA s.segs i).draws := by
 unfold a5l
 by_cases hf : mI (uQ s key) s.segs.length < 0
 ·rw [if_pos hf]
  constructor
  ·intro hd; exact absurd hd dZ
  ·rintro ⟨i, hi', hp, _⟩
   have := (sI (uQ s key) s.segs.length).2 ⟨i, hi', hp⟩
   omega
 ·rw [if_neg hf]
  obtain ⟨k, hk⟩ : ∃ k : Nat, mI (uQ s key) s.segs.length = k := ⟨(mI (uQ s key) s.segs.length).toNat, by omega⟩
  have hkl := xK hk
  have hkp : uQ s key k = true := by
   unfold mI at hk
   cases e : (List.range s.segs.length).find? (uQ s key) with
   | none => rw [e] at hk; simp only at hk; omega
   | some j =>
     rw [e] at hk
     have hk : (j : Int) = k := hk
     have := List.find?_some e
     rw [show k = j by omega]
     exact this
  rw [hk, eT]
  constructor
  ·intro hd; exact ⟨k, hkl, hkp, hd⟩
  ·rintro ⟨i, hi', hp, hd⟩
   unfold uQ at hp hkp
   rw [cW, decide_eq_true_eq, decide_eq_true_eq] at hp hkp
   rw [h.one hkl hi' hkp hp]
   exact hd
def qZ (o : Org) (g : Seg) (key : Int) : List Ct := if g.lo ≤ key ∧ key ≤ g.hi then (g.draws.filter fun d => qP o.ranks d key).map fun d => mD o.ranks d key else []
def tZ (o : Org) (r : Reg) (c : Ct) (i : Nat) : List Ct := if (iA r.stops c.1.toNat).testBit i then (iA (iA o.dvs c.1.toNat).stops i).segs.flatMap fun g => qZ o g c.2 else []
def pG (o : Org) (r : Reg) (c : Ct) : List Ct := (List.range (iA o.dvs c.1.toNat).stops.length).flatMap (tZ o r c)
theorem vM {o : Org} (h : organE o = 0) {r : Reg} {c : Ct} (hc : mX o c = true) {p : Ct} : p ∈ pG o r c ↔ p ∈ mV o r c := by
 have hc' := (mB o c).1 hc
 unfold pG mV
 rw [dS, dS]
 refine exists_congr fun i => and_congr_right fun hi => ?_
 have hi := dr.1 hi
 unfold tZ
 split
 ·have hso := zN h (j := c.1.toNat) (by omega) (iC hi)
  unfold pN
  rw [sY, du, dS]
  constructor
  ·rintro ⟨g, hg, hp⟩
   unfold qZ at hp
   split at hp
   ·rename_i hk
    obtain ⟨d, hd, rfl⟩ := du.1 hp
    obtain ⟨hd1, hd2⟩ := ey.1 hd
    obtain ⟨k, hk', rfl⟩ := dA.1 hg
    refine ⟨d, ey.2 ⟨(a7o hso).2 ⟨k, hk', ?_, by rw [jN _ k hk']; exact hd1⟩, hd2⟩, rfl⟩
    unfold uQ
    rw [jN _ k hk', decide_eq_true hk.1, decide_eq_true hk.2]
    rfl
   ·exact absurd hp dZ
  ·rintro ⟨d, hd, rfl⟩
   obtain ⟨hd1, hd2⟩ := ey.1 hd
   obtain ⟨k, hk, hp, hd1⟩ := (a7o hso).1 hd1
   refine ⟨iA _ k, iC hk, ?_⟩
   unfold qZ
   unfold uQ at hp
   rw [cW, decide_eq_true_eq, decide_eq_true_eq] at hp
   rw [if_pos hp]
   exact du.2 ⟨d, ey.2 ⟨hd1, hd2⟩, rfl⟩
 ·exact Iff.rfl
theorem b7W {o : Org} (h : organE o = 0) {r : Reg} {c : Ct} (hc : mX o c = true) : dd (oT (pG o r c)) = dd (oT (mV o r c)) := b1e fun _ => vM h hc
theorem b6j {o : Org} (h : organE o = 0) {r : Reg} {l : List Ct} (hl : ∀ c ∈ l, mX o c = true) : dd (oT (l.flatMap fun c => dd (oT (pG o r c)))) = a5s o r l := by
 unfold a5s
 refine b1e fun p => ?_
 rw [dS, dS]
 refine exists_congr fun c => and_congr_right fun hc => ?_
 rw [sY, vM h (hl c hc)]
def rW (r : Reg) (q : List Ct) (c : Ct) : List Ct := if !r.off.testBit c.1.toNat && !decide (c ∈ q) then q ++ [c] else q
def b5p (o : Org) (r : Reg) (l : List Ct) : List Ct := oT (l.foldl (rW r) (bfs o r.cpl 1100 0 (kJ o r.cpl l)))
theorem a2a {r : Reg} : ∀ {l q : List Ct} {x : Ct}, x ∈ l.foldl (rW r) q ↔ x ∈ q ∨ (x ∈ l ∧ r.off.testBit x.1.toNat = false)
 | [], q, x => by simp
 | c :: l, q, x => by
   rw [eY, a2a]
   unfold rW
   by_cases h1 : r.off.testBit c.1.toNat = false
   ·by_cases h2 : c ∈ q
    ·rw [if_neg (by simp [h2])]
     constructor
     ·rintro (h | ⟨h, k⟩)
      ·exact .inl h
      ·exact .inr ⟨dM _ h, k⟩
     ·rintro (h | ⟨h, k⟩)
      ·exact .inl h
      ·rcases dN.1 h with e | e
       ·exact .inl (by rw [e]; exact h2)
       ·exact .inr ⟨e, k⟩
    ·rw [if_pos (by simp [h1, h2])]
     constructor
     ·rintro (h | ⟨h, k⟩)
      ·rcases dG.1 h with h | h
       ·exact .inl h
       ·have := dJ.1 h
        subst this
        exact .inr ⟨dE .., h1⟩
      ·exact .inr ⟨dM _ h, k⟩
     ·rintro (h | ⟨h, k⟩)
      ·exact .inl (dG.2 (.inl h))
      ·rcases dN.1 h with e | e
       ·exact .inl (dG.2 (.inr (by rw [e]; simp)))
       ·exact .inr ⟨e, k⟩
   ·rw [if_neg (by simp [h1])]
    constructor
    ·rintro (h | ⟨h, k⟩)
     ·exact .inl h
     ·exact .inr ⟨dM _ h, k⟩
    ·rintro (h | ⟨h, k⟩)
     ·exact .inl h
     ·rcases dN.1 h with e | e
      ·subst e; exact absurd k h1
      ·exact .inr ⟨e, k⟩
theorem wW {r : Reg} : ∀ {l q : List Ct}, q.Nodup → (l.foldl (rW r) q).Nodup
 | [], _, h => h
 | c :: l, q, h => by
   rw [eY]
   refine wW ?_
   unfold rW
   split
   ·rename_i hh
    simp only [cW, dC, decide_eq_false_iff_not] at hh
    rw [List.nodup_append]
    exact ⟨h, by simp, fun a ha b hb e => hh.2 (by simp at hb; rw [← hb, ← e]; exact ha)⟩
   ·exact h
theorem c0F {l : List Ct} (h : l.Nodup) : (oT l).Pairwise wZ := by
 have h1 : (oT l).Nodup := (mP l).nodup_iff.2 h
 refine List.Pairwise.imp₂ ?_ (sM l) h1
 intro a b h2 h3
 rw [nE] at h2
 unfold wZ
 by_cases e : a.1 = b.1
 ·by_cases e2 : a.2 = b.2
  ·exact absurd (fQ e e2) h3
  ·omega
 ·omega
theorem a5v {o : Org} (cp : Nat) : ∀ (n i : Nat) (q : List Ct), Que o q → Que o (bfs o cp n i q)
 | 0, _, _, h => h
 | n + 1, i, q, h => by
   rw [bfs]
   split
   ·exact a5v cp n (i + 1) _ (h.stepF cp true _)
   ·exact h
theorem b4T (o : Org) (r : Reg) (l : List Ct) : b5p o r l = jX o r l := by
 unfold b5p jX
 refine vP _ _ (c0F (wW (a5v r.cpl 1100 0 _ (a1Y o r.cpl l)).1)) (a5z _) fun x => ?_
 rw [sY, (mP _).mem_iff, a2a, dG, ey]
 constructor
 ·rintro (h | ⟨h, k⟩)
  ·exact .inr h
  ·exact .inl ⟨h, by simpa using k⟩
 ·rintro (⟨h, k⟩ | h)
  ·exact .inr ⟨h, by simpa using k⟩
  ·exact .inl h
def a1j (o : Org) (ks : List Nt) (i : Nat) : List Ct := ((List.range ((iA o.dvs i).hi - (iA o.dvs i).lo + 1).toNat).filter fun (j : Nat) => nF (iA ks i) ((iA o.dvs i).lo + (j : Int))).map fun (j : Nat) => ((i : Int), (iA o.dvs i).lo + (j : Int))
def a9S (o : Org) (ks : List Nt) : List Ct := (List.range o.dvs.length).flatMap (a1j o ks)
theorem wN {f : Nat → List Ct} (h1 : ∀ i, (f i).Pairwise wZ) (h2 : ∀ i, ∀ c ∈ f i, c.1 = (i : Int)) : ∀ n, ((List.range n).flatMap f).Pairwise wZ
 | 0 => .nil
 | n + 1 => by
   rw [dW, dD, dx, eG, dh, eX]
   refine ⟨wN h1 h2 n, h1 n, fun a ha b hb => ?_⟩
   obtain ⟨i, hi, ha⟩ := dS.1 ha
   have hi := dr.1 hi
   unfold wZ
   rw [h2 i a ha, h2 n b hb]
   omega
theorem b7Z (o : Org) (ks : List Nt) (i : Nat) : (a1j o ks i).Pairwise wZ := by
 unfold a1j
 rw [gu]
 refine List.Pairwise.imp ?_ (List.Pairwise.filter _ List.pairwise_lt_range)
 intro a b h
 unfold wZ
 omega
theorem a5I (x : Nt) : (pK x).Pairwise (· < ·) := by
 unfold pK
 rw [eX, gu, gu]
 have h : ∀ n, (oP n).Pairwise (· < ·) := fun n => List.Pairwise.filter _ List.pairwise_lt_range
 refine ⟨(h _).imp (by intro a b h; omega), (h _).imp (by intro a b h; omega), fun a ha b hb => ?_⟩
 obtain ⟨i, hi, rfl⟩ := du.1 ha
 obtain ⟨j, _, rfl⟩ := du.1 hb
 have := (rR.1 hi).1
 omega
theorem c0z (ks : List Nt) (i : Nat) : (plD ks i).Pairwise wZ := by
 unfold plD
 rw [gu]
 exact (a5I _).imp fun h => .inr ⟨rfl, h⟩
theorem b3r (ks : List Nt) : (iE ks).Pairwise wZ := wN (c0z ks) (fun i c hc => by
 unfold plD at hc
 obtain ⟨z, _, rfl⟩ := du.1 hc
 rfl) _
theorem b9e {o : Org} {ks : List Nt} (hok : ∀ x ∈ ks, Nt.Ok x) (h : nY o ks = 0) : a9S o ks = iE ks := by
 obtain ⟨h1, h2, h3⟩ := nM h
 have hf := Org.aX h1
 refine vP _ _ (wN (b7Z o ks) (fun i c hc => by
  unfold a1j at hc
  obtain ⟨z, _, rfl⟩ := du.1 hc
  rfl) _) (b3r ks) fun x => ?_
 constructor
 ·intro hx
  obtain ⟨i, hi, hx⟩ := dS.1 hx
  have hi := dr.1 hi
  have hk := hf.keys i hi
  unfold a1j at hx
  obtain ⟨z, hz, rfl⟩ := du.1 hx
  obtain ⟨hz1, hz2⟩ := ey.1 hz
  have hz1 := dr.1 hz1
  unfold iE
  refine dS.2 ⟨i, dr.2 (by omega), ?_⟩
  unfold plD
  exact du.2 ⟨_, a1l.2 ⟨⟨by omega, by omega⟩, hz2⟩, rfl⟩
 ·intro hx
  unfold iE at hx
  obtain ⟨i, hi, hx⟩ := dS.1 hx
  have hi := dr.1 hi
  have hk := hf.keys i (by omega)
  unfold plD at hx
  obtain ⟨z, hz, rfl⟩ := du.1 hx
  obtain ⟨hz1, hz2⟩ := a1l.1 hz
  have hw := a2j (hok _ (iC hi)) (h3 i (by omega)) hz1 hz2
  rw [a1V hk.1 hk.2.2 hz1, cW, decide_eq_true_eq, decide_eq_true_eq] at hw
  unfold a9S
  refine dS.2 ⟨i, dr.2 (by omega), ?_⟩
  unfold a1j
  refine du.2 ⟨(z - (iA o.dvs i).lo).toNat, ey.2 ⟨dr.2 (by omega), ?_⟩, ?_⟩
  ·rw [show (iA o.dvs i).lo + ((z - (iA o.dvs i).lo).toNat : Int) = z by omega]
   exact hz2
  ·rw [show (iA o.dvs i).lo + ((z - (iA o.dvs i).lo).toNat : Int) = z by omega]
end Go.Ds
namespace Go.Ds
open Go.Proofs Go.Proofs.Tryz
variable {H : Heap}
set_option maxRecDepth 10000
set_option maxHeartbeats 1000000
def yT (o : Org) (l : List (Value × Reg)) (ks : List Nt) : Int := if nZ o l ≠ 0 then nZ o l else nY o ks
theorem a9B (o : Org) (ho : o.In H) (lv : Value) (xs : List (Value × Reg)) (hl : Sl 3 rgc H lv xs) (hle : xs.length < 1000000000) (hr : ∀ p ∈ xs, p.2.In H p.1) (kv : Value) (ks : List Nt) (hk : Ks H kv ks) :
 Fn prog 45 [.agg #[.string o.name, o.rv, o.dv, o.cv], lv, kv] H fun r H' => r = I (yT o xs ks) ∧ St prog H H' [] := by
 refine .bp func45 rfl (by kernel_rfl) (m := 17) rfl fun l hn g0 g1 g2 => ?_
 simp (disch := omega) only [↓RA, RB, simprocAttr, g0]
 refine (sR H).eNew 4 [(.string o.name), o.rv, o.dv, o.cv] rfl rfl (by simp [OC, ((sR H).sl ho.1).cells.2.1, ((sR H).sl ho.2.2.1).cells.2.1, ((sR H).sl ho.2.2.2.2.1).cells.2.1]) mR fun A1 H1 hS1 => ?_
 simp only [RT] at hS1
 simp (disch := omega) only [↓RA, RZ, simprocAttr, hn, g1, hS1.ai 0 rfl]
 refine hS1.cF (b3m o (ho.ag hS1) lv xs (hS1.sl hl) hle (fun p hp => (hr p hp).ag hS1)) fun H2 hS2 => ?_
 simp (disch := omega) only [↓RA, RB, simprocAttr, hn]
 refine hK (fun h1 => ?_) (fun h1 => ?_)
 ·simp (disch := omega) only [↓RA, RZ, simprocAttr, hn, c3r, h1]
  exact ⟨by unfold yT; rw [if_pos h1], hS2.forget⟩
 simp (disch := omega) only [↓RA, RZ, simprocAttr, hn, g2, hS2.ai 0 rfl, h1]
 refine hS2.cF (b4B o (ho.ag hS2) kv ks (hk.ag hS2)) fun H3 hS3 => ?_
 simp (disch := omega) only [↓RA, RZ, simprocAttr, hn, c3r, h1]
 exact ⟨by unfold yT; rw [if_neg h1], hS3.forget⟩
def rkE (o : Org) (rg : Reg) (ks : List Nt) : Int := if qM o rg ≠ 0 then qM o rg else nY o ks
theorem a5W (o : Org) (sv : Value) (rg : Reg) (ks : List Nt) : yT o [(sv, rg)] ks = rkE o rg ks := by
 unfold yT rkE
 rw [a6c]
theorem a7X {o : Org} {rg : Reg} {ks : List Nt} (h : rkE o rg ks = 0) : qM o rg = 0 ∧ nY o ks = 0 := by
 unfold rkE at h
 split at h
 ·rename_i hh; exact absurd h hh
 ·rename_i hh; exact ⟨dy.1 hh, h⟩
def a3f (o : Org) (rg : Reg) (ks : List Nt) : List Ct := if rkE o rg ks = 0 then kD o rg (iE ks) else []
def b3b (o : Org) (rg : Reg) (ks : List Nt) : List Ct := if rkE o rg ks = 0 then jX o rg (iE ks) else []
theorem a0x (hG : Glob gH H) (o : Org) (ho : o.In H) (rg : Reg) (sv : Value) (hr : rg.In H sv) (kv : Value) (ks : List Nt) (hk : Ks H kv ks) :
 Fn prog 20 [.agg #[.string o.name, o.rv, o.dv, o.cv], .agg #[sv, .int .u64 rg.cpl, .int .u64 rg.off], kv] H fun r H' => ∃ pv, r = .tuple #[pv, I (rkE o rg ks)] ∧ Slx 2 jJ H' (fun B => H.length ≤ B) pv (a3f o rg ks) ∧ St prog H H' [] := by
 refine .bp func20 rfl (by kernel_rfl) (m := 22) rfl fun l hn g0 g1 g2 => ?_
 simp (disch := omega) only [↓RA, RB, simprocAttr, g0]
 refine (sR H).eNew 4 [(.string o.name), o.rv, o.dv, o.cv] rfl rfl (by simp [OC, ((sR H).sl ho.1).cells.2.1, ((sR H).sl ho.2.2.1).cells.2.1, ((sR H).sl ho.2.2.2.2.1).cells.2.1]) mR fun A1 H1 hS1 => ?_
 simp only [RT] at hS1
 simp (disch := omega) only [↓RA, RB, simprocAttr, g1]
 refine hS1.eNew 3 [sv, (.int .u64 rg.cpl), (.int .u64 rg.off)] rfl rfl (by simp [OC, (hS1.sl hr.1).cells.2.1]) pE fun A2 H2 hS2 => ?_
 simp only [RT] at hS2
 simp (disch := omega) only [↓RA, RZ, simprocAttr, hn, hS2.ai 0 rfl, hS2.ai 1 rfl]
 refine hS2.aj [sv, (.int .u64 rg.cpl), (.int .u64 rg.off)] b5f b6k rfl rfl (by first | (simp []; done) | simp [Value.cells]) (by first | (simp []; done) | simp [Value.cells]) (by simp [OC, (hS2.sl hr.1).cells.2.1]) (by decide) (by decide) fun w1 H3 hS3 => ?_
 simp only [RT] at hS3
 simp (disch := omega) only [↓RA, RZ, simprocAttr, hn, g2]
 refine hS3.cF (a9B o (ho.ag hS3) w1 [(sv, rg)] (hS3.aw 2 rfl (fun _ => rfl)) (by simp) (by intro p hp; rw [dJ.1 hp]; exact hr.ag hS3) kv ks (hk.ag hS3)) fun H4 hS4 => ?_
 have hsc := a5W o sv rg ks
 simp (disch := omega) only [↓RA, RB, simprocAttr, hn, hsc]
 refine hK (fun h1 => ?_) (fun h1 => ?_)
 ·simp (disch := omega) only [↓RA, RZ, simprocAttr, hn, c3z, hsc, h1]
  exact ⟨.slice none 0 0, rfl, ⟨⟨.inl ⟨rfl, by rw [a3f, if_neg h1]; rfl⟩, jL, by decide⟩, fun b h => by simp [kG] at h⟩, hS4.forget⟩
 have h0 := dy.1 h1
 obtain ⟨hz1, hk0⟩ := a7X h0
 obtain ⟨hz3, hz4⟩ := oX hz1
 have hf := Org.aX hz3
 have h8 : ks.length ≤ 8 := by
  have := hf.dlen
  have := (nM hk0).2.1
  omega
 simp (disch := omega) only [↓RA, RC, simprocAttr, hsc, h1]
 refine Wp.aT kF [(0, 4), (1, 4)] (by kernel_rfl) (by kernel_rfl) ?_
 simp (disch := omega) only [↓RA, RZ, simprocAttr, hn, g2, hS4.ai 0 rfl, hS4.ai 1 rfl]
 refine iF ((vB (hS4.gl hG) kv ks (hk.ag hS4) h8).tr) ?_
 rintro r H5 ⟨-, hT2⟩
 have hS5 := hS4.trans hT2
 simp only [RT] at hS5
 obtain ⟨pv, rfl⟩ : ∃ w, w = r := ⟨r, rfl⟩
 simp (disch := omega) only [↓RA, RZ, simprocAttr, hn]
 have hSd := hS5
 refine iF (uU o (ho.ag hS5) hf rg sv (hr.ag hS5) hz4 pv (iE ks) (hS5.aw 3 rfl jL) (qD hk0) (qE hk.ok hk0)) ?_
 rintro r H6 ⟨hx, hT3⟩
 have hS6 := hS5.trans hT3
 simp only [RT] at hS6
 obtain ⟨qv, rfl⟩ : ∃ w, w = r := ⟨r, rfl⟩
 simp (disch := omega) only [↓RA, RZ, simprocAttr, hn, hS5.ai 0 rfl, hS5.ai 1 rfl, c3z, hx.1.br]
 rw [h0]
 refine ⟨qv, rfl, ⟨?_, fun b h => ?_⟩, hS6.forget⟩
 ·rw [a3f, if_pos h0]
  exact hx.1
 ·have := hx.2 b h
  have : H.length ≤ _ := hSd.len
  omega
theorem a4H (hG : Glob gH H) (o : Org) (ho : o.In H) (rg : Reg) (sv : Value) (hr : rg.In H sv) (kv : Value) (ks : List Nt) (hk : Ks H kv ks) :
 Fn prog 15 [.agg #[.string o.name, o.rv, o.dv, o.cv], .agg #[sv, .int .u64 rg.cpl, .int .u64 rg.off], kv] H fun r H' => ∃ pv, r = .tuple #[pv, I (rkE o rg ks)] ∧ Slx 2 jJ H' (fun B => H.length ≤ B) pv (b3b o rg ks) ∧ St prog H H' [] := by
 refine .bp func15 rfl (by kernel_rfl) (m := 22) rfl fun l hn g0 g1 g2 => ?_
 simp (disch := omega) only [↓RA, RB, simprocAttr, g0]
 refine (sR H).eNew 4 [(.string o.name), o.rv, o.dv, o.cv] rfl rfl (by simp [OC, ((sR H).sl ho.1).cells.2.1, ((sR H).sl ho.2.2.1).cells.2.1, ((sR H).sl ho.2.2.2.2.1).cells.2.1]) mR fun A1 H1 hS1 => ?_
 simp only [RT] at hS1
 simp (disch := omega) only [↓RA, RB, simprocAttr, g1]
 refine hS1.eNew 3 [sv, (.int .u64 rg.cpl), (.int .u64 rg.off)] rfl rfl (by simp [OC, (hS1.sl hr.1).cells.2.1]) pE fun A2 H2 hS2 => ?_
 simp only [RT] at hS2
 simp (disch := omega) only [↓RA, RZ, simprocAttr, hn, hS2.ai 0 rfl, hS2.ai 1 rfl]
 refine hS2.aj [sv, (.int .u64 rg.cpl), (.int .u64 rg.off)] b5f b6k rfl rfl (by first | (simp []; done) | simp [Value.cells]) (by first | (simp []; done) | simp [Value.cells]) (by simp [OC, (hS2.sl hr.1).cells.2.1]) (by decide) (by decide) fun w1 H3 hS3 => ?_
 simp only [RT] at hS3
 simp (disch := omega) only [↓RA, RZ, simprocAttr, hn, g2]
 refine hS3.cF (a9B o (ho.ag hS3) w1 [(sv, rg)] (hS3.aw 2 rfl (fun _ => rfl)) (by simp) (by intro p hp; rw [dJ.1 hp]; exact hr.ag hS3) kv ks (hk.ag hS3)) fun H4 hS4 => ?_
 have hsc := a5W o sv rg ks
 simp (disch := omega) only [↓RA, RB, simprocAttr, hn, hsc]
 refine hK (fun h1 => ?_) (fun h1 => ?_)
 ·simp (disch := omega) only [↓RA, RZ, simprocAttr, hn, c3Z, hsc, h1]
  exact ⟨.slice none 0 0, rfl, ⟨⟨.inl ⟨rfl, by rw [b3b, if_neg h1]; rfl⟩, jL, by decide⟩, fun b h => by simp [kG] at h⟩, hS4.forget⟩
 have h0 := dy.1 h1
 obtain ⟨hz1, hk0⟩ := a7X h0
 obtain ⟨hz3, hz4⟩ := oX hz1
 have hf := Org.aX hz3
 have h8 : ks.length ≤ 8 := by
  have := hf.dlen
  have := (nM hk0).2.1
  omega
 simp (disch := omega) only [↓RA, RC, simprocAttr, hsc, h1]
 refine Wp.aT kF [(0, 4), (1, 4)] (by kernel_rfl) (by kernel_rfl) ?_
 simp (disch := omega) only [↓RA, RZ, simprocAttr, hn, g2, hS4.ai 0 rfl, hS4.ai 1 rfl]
 refine iF ((vB (hS4.gl hG) kv ks (hk.ag hS4) h8).tr) ?_
 rintro r H5 ⟨-, hT2⟩
 have hS5 := hS4.trans hT2
 simp only [RT] at hS5
 obtain ⟨pv, rfl⟩ : ∃ w, w = r := ⟨r, rfl⟩
 simp (disch := omega) only [↓RA, RZ, simprocAttr, hn]
 have hSd := hS5
 refine iF (a0G o (ho.ag hS5) hf rg sv (hr.ag hS5) pv (iE ks) (hS5.aw 3 rfl jL) (qD hk0) (qE hk.ok hk0)) ?_
 rintro r H6 ⟨hx, hT3⟩
 have hS6 := hS5.trans hT3
 simp only [RT] at hS6
 obtain ⟨qv, rfl⟩ : ∃ w, w = r := ⟨r, rfl⟩
 simp (disch := omega) only [↓RA, RZ, simprocAttr, hn, hS5.ai 0 rfl, hS5.ai 1 rfl, c3Z, hx.1.br]
 rw [h0]
 refine ⟨qv, rfl, ⟨?_, fun b h => ?_⟩, hS6.forget⟩
 ·rw [b3b, if_pos h0]
  exact hx.1
 ·have := hx.2 b h
  have : H.length ≤ _ := hSd.len
  omega
end Go.Ds
namespace Go.Ds
open Go.Proofs
variable {H : Heap}
set_option maxRecDepth 10000
set_option maxHeartbeats 1000000
end Go.Ds
namespace Go.Ds
open Go.Proofs Go.Proofs.Tryz
variable {H : Heap}
set_option maxRecDepth 10000
set_option maxHeartbeats 1000000
def a1O (lo : Int) (w m : Nat) : List Int := ((List.range m).filter fun j => w.testBit j).map fun (j : Nat) => lo + (j : Int)
def vQ (lo hi : Int) : Nat := min 16 (hi - lo + 1).toNat
def xZ (o : Org) (b : Nat → Nat) (i : Nat) : Nt := jI (a1O (iA o.dvs i).lo (b (i % 3)) (vQ (iA o.dvs i).lo (iA o.dvs i).hi))
def pD (o : Org) (b : Nat → Nat) : List Nt := (List.range o.dvs.length).map (xZ o b)
theorem c1I (a b : Nat) (h : a < 65536) : ((a : Nat) : Int).fdiv (2 ^ min b (IntKind.bits .u16)) = ((a >>> b : Nat) : Int) := by
 have e : IntKind.bits .u16 = 16 := rfl
 rw [e]
 have h1 : ((a : Nat) : Int).fdiv (2 ^ min b 16) = ((a / 2 ^ min b 16 : Nat) : Int) := by
  rw [gw _ (by exact Int.le_of_lt (Int.pow_pos (by decide)))]
  simp
 rw [h1, eI]
 by_cases hb : b ≤ 16
 ·rw [fz hb]
 ·rw [Nat.min_eq_right (by omega)]
  have h2 : a / 2 ^ 16 = 0 := gC (by simpa using h)
  have h3 : a / 2 ^ b = 0 := gC (dI (by simpa using h) (fp (by decide) (show 16 ≤ b by omega)))
  rw [h2, h3]
theorem b6Z (n : Nat) (h : n < 65536) : IntKind.wrap .u16 ((BitVec.ofInt (IntKind.bits .u16) (n : Int) &&& BitVec.ofInt (IntKind.bits .u16) 1).toNat : Int) = ((n % 2 : Nat) : Int) := by
 have e : (BitVec.ofInt (IntKind.bits .u16) (n : Int) &&& BitVec.ofInt (IntKind.bits .u16) 1).toNat = n % 2 := by
  show (BitVec.ofInt 16 (n : Int) &&& BitVec.ofInt 16 1).toNat = n % 2
  rw [gD]
  have h1 : (BitVec.ofInt 16 (n : Int)).toNat = n := by
   rw [fR, BitVec.toNat_ofNat]
   exact gx (by simpa using h)
  have h2 : (BitVec.ofInt 16 1).toNat = 1 := rfl
  rw [h1, h2, Nat.and_one_is_mod]
 rw [e]
 have : n % 2 < 2 := eN _ (by decide)
 have hh : n % 2 = 0 ∨ n % 2 = 1 := by omega
 rcases hh with h | h <;> rw [h] <;> rfl
theorem b5B {a : Nat} (b : Nat) (h : a < 65536) : a >>> b < 65536 := by
 rw [eI]
 exact Nat.lt_of_le_of_lt (Nat.div_le_self _ _) h
theorem b1y (lo : Int) (w m : Nat) : a1O lo w (m + 1) = a1O lo w m ++ (if w.testBit m then [lo + (m : Int)] else []) := by
 unfold a1O
 rw [dW, ez, dQ]
 congr 1
 cases h : w.testBit m <;> simp [h]
theorem b5Z (lo : Int) (w m : Nat) : (a1O lo w m).length ≤ m := by
 unfold a1O
 rw [ee]
 exact dw (dX _ _) (by simp)
theorem b9l (lo hi : Int) : vQ lo hi ≤ 16 := Nat.min_le_left _ _
theorem tY {o : Org} (hf : o.Fine) (w : Nat) {i : Nat} (hi : i < o.dvs.length) : ∀ z ∈ a1O (iA o.dvs i).lo w (vQ (iA o.dvs i).lo (iA o.dvs i).hi), isN z ∧ (iA o.dvs i).lo ≤ z ∧ z ≤ (iA o.dvs i).hi := by
 intro z hz
 have hk := hf.keys i hi
 unfold a1O vQ at hz
 obtain ⟨j, hj, rfl⟩ := du.1 hz
 have hj := dr.1 (ey.1 hj).1
 exact ⟨⟨by omega, by omega⟩, by omega, by omega⟩
theorem a9z (o : Org) (ho : o.In H) (hf : o.Fine) (b : Nat → Nat) (hb : ∀ i, b i < 65536) :
 Fn prog 14 [.agg #[.string o.name, o.rv, o.dv, o.cv], .agg #[.int .u16 (b 0), .int .u16 (b 1), .int .u16 (b 2)]] H fun r H' =>
  St prog H H' [⟨r, 2, (pD o b).flatMap ntc⟩] := by
 have hd8 := hf.dlen
 refine .aF func14 rfl (by kernel_rfl) (m := 66) rfl fun l hn g0 g1 => ?_
 simp (disch := omega) only [↓RA, RB, simprocAttr, g0]
 refine (sR H).eNew 4 [(.string o.name), o.rv, o.dv, o.cv] rfl rfl (by simp [OC, ((sR H).sl ho.1).cells.2.1, ((sR H).sl ho.2.2.1).cells.2.1, ((sR H).sl ho.2.2.2.2.1).cells.2.1]) mR fun A1 H1 hS1 => ?_
 simp only [RT] at hS1
 simp (disch := omega) only [↓RA, RB, simprocAttr, g1]
 refine hS1.eNew 3 [(.int .u16 (b 0)), (.int .u16 (b 1)), (.int .u16 (b 2))] rfl rfl rfl c2R fun A2 H2 hS2 => ?_
 simp only [RT] at hS2
 simp (disch := omega) only [↓RA, RB, simprocAttr]
 have hS3 := hS2.nil 1
 simp only [RT] at hS3
 refine Wp.ak (fun n l H' => l.length = 66 ∧ get l 2 = (ptr A1 0 4) ∧ get l 3 = (ptr A2 0 3) ∧ get l 4 = (.slice none 0 0) ∧ ∃ (i : Nat) (kv : Value), (n + i = o.dvs.length) ∧ get l 6 = I i ∧ get l 5 = kv ∧ St prog H H' [⟨ptr A1 0 4, 0, [(.string o.name), o.rv, o.dv, o.cv]⟩, ⟨ptr A2 0 3, 0, [(.int .u16 (b 0)), (.int .u16 (b 1)), (.int .u16 (b 2))]⟩, ⟨kv, 2, ((List.range i).map (xZ o b)).flatMap ntc⟩]) o.dvs.length ?_ ?_
 ·simp (disch := omega) only [RB, RC, simprocAttr, hn]
  exact ⟨0, .slice none 0 0, by omega, rfl, rfl, hS3⟩
 rintro n l H3 ⟨hn, g2, g3, g4, i, kv, hi, g6, g5, hS4⟩
 simp (disch := omega) only [↓RA, RZ, simprocAttr, hn, g2, g6, hS4.ld 0 rfl, (hS4.sl ho.2.2.1).len]
 refine hK (fun q => ?_) (fun q => ?_)
 ·have hk := hf.keys i (by omega)
  simp (disch := omega) only [↓RA, RZ, simprocAttr, hn, g2, g6, hS4.ld 0 rfl, (hS4.sl ho.2.2.1).idx, (hS4.sl ho.2.2.1).bb, (hS4.sl ho.2.2.1).cH 2, Dvn.cells, q]
  refine hS4.eNew 2 [I 0, I 0] rfl rfl rfl tN fun A3 H4 hS5 => ?_
  simp only [RT] at hS5
  simp (disch := omega) only [↓RA, RZ, simprocAttr, hn, q]
  refine hS5.aa 3 rfl [I (iA o.dvs i).lo, I (iA o.dvs i).hi] rfl rfl tN (by simp) fun H5 hS6 => ?_
  simp only [RT] at hS6
  simp (disch := omega) only [↓RA, RZ, simprocAttr, hn, hS6.ld 3 rfl, q]
  have hS7 := hS6.nil 0
  simp only [RT] at hS7
  refine Wp.ak (fun n l H' => l.length = 66 ∧ get l 2 = (ptr A1 0 4) ∧ get l 3 = (ptr A2 0 3) ∧ get l 4 = (.slice none 0 0) ∧ get l 5 = kv ∧ get l 6 = I i ∧ get l 8 = (ptr A3 0 2) ∧ ∃ (m : Nat) (lv : Value), (n + m = vQ (iA o.dvs i).lo (iA o.dvs i).hi) ∧ get l 9 = I ((iA o.dvs i).lo + m) ∧ get l 7 = lv ∧ St prog H H' [⟨ptr A1 0 4, 0, [(.string o.name), o.rv, o.dv, o.cv]⟩, ⟨ptr A2 0 3, 0, [(.int .u16 (b 0)), (.int .u16 (b 1)), (.int .u16 (b 2))]⟩, ⟨kv, 2, ((List.range i).map (xZ o b)).flatMap ntc⟩, ⟨ptr A3 0 2, 0, [I (iA o.dvs i).lo, I (iA o.dvs i).hi]⟩, ⟨lv, 1, (a1O (iA o.dvs i).lo (b (i % 3)) m).flatMap (one I)⟩]) (vQ (iA o.dvs i).lo (iA o.dvs i).hi) ?_ ?_
  ·simp (disch := omega) only [RB, RC, simprocAttr, hn, g2, g3, g4, g6, g5]
   exact ⟨0, .slice none 0 0, by omega, by simp, rfl, hS7⟩
  rintro n l H6 ⟨hn, g2, g3, g4, g5, g6, g8, m, lv, hm, g9, g7, hS8⟩
  simp (disch := omega) only [↓RA, RZ, simprocAttr, hn, g8, g9, hS8.ld 3 rfl]
  have hM := b9l (iA o.dvs i).lo (iA o.dvs i).hi
  have hi3 : (i : Int).tmod 3 = ((i % 3 : Nat) : Int) := (eh i 3).symm
  have hw : ([Value.int .u16 (b 0), .int .u16 (b 1), .int .u16 (b 2)] : List Value)[i % 3]? = some (.int .u16 (b (i % 3))) := by
   have : i % 3 = 0 ∨ i % 3 = 1 ∨ i % 3 = 2 := by omega
   rcases this with e | e | e <;> rw [e] <;> rfl
  have hsub : (iA o.dvs i).lo + (m : Int) - (iA o.dvs i).lo = (m : Int) := by omega
  have e1 := c1I (b (i % 3)) m (hb _)
  have e2 := b6Z (b (i % 3) >>> m) (b5B m (hb _))
  have e3 := tb (b (i % 3)) m
  have hsu := b1y (iA o.dvs i).lo (b (i % 3)) m
  have hpl := b5Z (iA o.dvs i).lo (b (i % 3)) m
  refine jH (fun q1 => ?_) (fun q1 => ?_)
  ·simp (disch := omega) only [↓RA, RZ, simprocAttr, hn, g8, g9, hS8.ld 3 rfl, q1]
   refine hK (fun q2 => ?_) (fun q2 => ?_)
   ·skip
    simp (disch := omega) only [↓RA, RC, simprocAttr, q1, q2]
    refine Wp.drw kF (by kernel_rfl) ?_
    simp (disch := omega) only [↓RA, RZ, simprocAttr, hn, g3, g6, g8, g9, hS8.ld 1 rfl, hw, hS8.ld 3 rfl, hi3, hsub, e1, e2]
    refine hK (fun q3 => ?_) (fun q3 => ?_)
    ·rw [e3, decide_eq_true (by omega), if_pos rfl] at hsu
     simp (disch := omega) only [↓RA, RZ, simprocAttr, hn, g9, g7, q3]
     refine hS8.aj [I ((iA o.dvs i).lo + m)] a1G a7w rfl rfl (by simp [Value.cells]) rfl rfl (by decide) (by decide) fun w1 H7 hS9 => ?_
     simp only [RT] at hS9
     simp (disch := omega) only [↓RA, RZ, simprocAttr, hn, q3]
     refine hS9.aq 4 rfl (hS9.rd 5 rfl) a1G (by rw [iS (n := 1) (cel := one I) (fun _ => rfl)]; simp; omega) fun w2 H8 hS10 => ?_
     simp only [RT] at hS10
     simp (disch := omega) only [↓RA, RZ, simprocAttr, hn, g2, g3, g4, g5, g6, g8, g9, q3]
     refine ⟨n - 1, by unfold vQ at hm; omega, m + 1, w2, by unfold vQ at hm ⊢; omega, by simp; omega, rfl, ?_⟩
     rw [hsu, dD]
     exact hS10.pick [0, 1, 2, 3, 4] (by decide) rfl
    rw [e3, decide_eq_false (by omega), if_neg (by simp), dh] at hsu
    simp (disch := omega) only [↓RA, RZ, simprocAttr, hn, g2, g3, g4, g5, g6, g8, g9, g7, q3]
    refine ⟨n - 1, by unfold vQ at hm; omega, m + 1, lv, by unfold vQ at hm ⊢; omega, by simp; omega, rfl, ?_⟩
    rw [hsu]
    exact hS8.pick [0, 1, 2, 3, 4] (by decide) rfl
   have hmM : m = vQ (iA o.dvs i).lo (iA o.dvs i).hi := by unfold vQ at hm hM ⊢; omega
   have hz := tY hf (b (i % 3)) (show i < o.dvs.length by omega)
   subst hmM
   simp (disch := omega) only [↓RA, RZ, simprocAttr, hn, g7, q1, q2]
   refine hS8.cF (xA (a1O (iA o.dvs i).lo (b (i % 3)) (vQ (iA o.dvs i).lo (iA o.dvs i).hi)) (fun z h => (hz z h).1) lv (hS8.aw 4 rfl (sP _)) (by omega)) fun H9 hS11 => ?_
   simp (disch := omega) only [↓RA, RZ, simprocAttr, hn, q1, q2]
   refine hS11.eNew 2 [(.int .u64 0), (.int .u64 0)] rfl rfl rfl lK fun A4 H10 hS12 => ?_
   simp only [RT] at hS12
   simp (disch := omega) only [↓RA, RZ, simprocAttr, hn, q1, q2]
   refine hS12.aa 5 rfl [(.int .u64 (xZ o b i).1), (.int .u64 (xZ o b i).2)] rfl rfl lK (by simp) fun H11 hS13 => ?_
   simp only [RT] at hS13
   simp (disch := omega) only [↓RA, RZ, simprocAttr, hn, g5, hS13.ai 5 rfl, q1, q2]
   refine hS13.aj [(.int .u64 (xZ o b i).1), (.int .u64 (xZ o b i).2)] b3V c1k rfl rfl (by simp [Value.cells]) rfl rfl (by decide) (by decide) fun w3 H12 hS14 => ?_
   simp only [RT] at hS14
   simp (disch := omega) only [↓RA, RZ, simprocAttr, hn, q1, q2]
   refine hS14.aq 2 rfl (hS14.rd 6 rfl) b3V (by rw [iS (n := 2) (cel := ntc) (fun _ => rfl)]; simp; omega) fun w4 H13 hS15 => ?_
   simp only [RT] at hS15
   simp (disch := omega) only [↓RA, RZ, simprocAttr, hn, g2, g3, g4, g6, q1, q2]
   refine ⟨o.dvs.length - (i + 1), by omega, i + 1, w4, by omega, by simp, rfl, ?_⟩
   rw [dW, dQ, dD]
   exact hS15.pick [0, 1, 2] (by decide) rfl
  have hmM : m = vQ (iA o.dvs i).lo (iA o.dvs i).hi := by unfold vQ at hm hM ⊢; omega
  have hz := tY hf (b (i % 3)) (show i < o.dvs.length by omega)
  subst hmM
  simp (disch := omega) only [↓RA, RZ, simprocAttr, hn, g7, q1]
  refine hS8.cF (xA (a1O (iA o.dvs i).lo (b (i % 3)) (vQ (iA o.dvs i).lo (iA o.dvs i).hi)) (fun z h => (hz z h).1) lv (hS8.aw 4 rfl (sP _)) (by omega)) fun H14 hS16 => ?_
  simp (disch := omega) only [↓RA, RZ, simprocAttr, hn, q1]
  refine hS16.eNew 2 [(.int .u64 0), (.int .u64 0)] rfl rfl rfl lK fun A5 H15 hS17 => ?_
  simp only [RT] at hS17
  simp (disch := omega) only [↓RA, RZ, simprocAttr, hn, q1]
  refine hS17.aa 5 rfl [(.int .u64 (xZ o b i).1), (.int .u64 (xZ o b i).2)] rfl rfl lK (by simp) fun H16 hS18 => ?_
  simp only [RT] at hS18
  simp (disch := omega) only [↓RA, RZ, simprocAttr, hn, g5, hS18.ai 5 rfl, q1]
  refine hS18.aj [(.int .u64 (xZ o b i).1), (.int .u64 (xZ o b i).2)] b3V c1k rfl rfl (by simp [Value.cells]) rfl rfl (by decide) (by decide) fun w5 H17 hS19 => ?_
  simp only [RT] at hS19
  simp (disch := omega) only [↓RA, RZ, simprocAttr, hn, q1]
  refine hS19.aq 2 rfl (hS19.rd 6 rfl) b3V (by rw [iS (n := 2) (cel := ntc) (fun _ => rfl)]; simp; omega) fun w6 H18 hS20 => ?_
  simp only [RT] at hS20
  simp (disch := omega) only [↓RA, RZ, simprocAttr, hn, g2, g3, g4, g6, q1]
  refine ⟨o.dvs.length - (i + 1), by omega, i + 1, w6, by omega, by simp, rfl, ?_⟩
  rw [dW, dQ, dD]
  exact hS20.pick [0, 1, 2] (by decide) rfl
 simp (disch := omega) only [↓RA, RZ, simprocAttr, hn, g5, c5C, q]
 have hii : i = o.dvs.length := by omega
 subst hii
 exact hS4.pick [2] (by decide) rfl
theorem tC (o : Org) (b : Nat → Nat) : (pD o b).length = o.dvs.length := by simp [pD]
theorem a4Z {o : Org} {b : Nat → Nat} {i : Nat} (hi : i < o.dvs.length) : iA (pD o b) i = xZ o b i := by
 rw [jN _ i (by rw [tC]; exact hi)]
 simp [pD]
theorem b0M {o : Org} (hf : o.Fine) (b : Nat → Nat) {i : Nat} (hi : i < o.dvs.length) : Nt.Ok (xZ o b i) := vF _ _ (fun z h => (tY hf (b (i % 3)) hi z h).1) ⟨by decide, by decide⟩
theorem a6n {o : Org} (hf : o.Fine) (b : Nat → Nat) : ∀ x ∈ pD o b, Nt.Ok x := by
 intro x hx
 obtain ⟨i, hi, rfl⟩ := du.1 hx
 exact b0M hf b (dr.1 hi)
theorem b6c {x y : Nt} (hx : Nt.Ok x) (h : ∀ z, isN z → nF x z = true → nF y z = true) : woF x y = (0, 0) := by
 have k : ∀ z, isN z → nF (woF x y) z = false := fun z hz => by
  rw [b0r hx hz]
  cases e : nF x z with
  | false => rfl
  | true => rw [h z hz e]; rfl
 have big : ∀ a : Nat, a < 18446744073709551616 → ∀ j, 64 ≤ j → a.testBit j = false := fun a ha j hj =>
  Nat.testBit_lt_two_pow (dI (show a < 2 ^ 64 from ha) (fp (by decide) hj))
 obtain ⟨h1, h2⟩ := c0W x y
 apply fQ
 ·apply fT
  intro j
  rw [gY]
  by_cases hj : 64 ≤ j
  ·exact big _ h1 j hj
  ·have := k (j : Int) ⟨by omega, by omega⟩
   unfold nF at this
   rw [if_pos (by omega)] at this
   exact this
 ·apply fT
  intro j
  rw [gY]
  by_cases hj : 64 ≤ j
  ·exact big _ h2 j hj
  ·have := k (64 + j : Int) ⟨by omega, by omega⟩
   unfold nF at this
   rw [if_neg (by omega), show (64 + (j : Int) - 64).toNat = j by omega] at this
   exact this
theorem a8k {o : Org} (h0 : organE o = 0) (b : Nat → Nat) : nY o (pD o b) = 0 := by
 have hf := Org.aX h0
 unfold nY
 rw [if_neg (by rw [h0]; simp), if_neg (by rw [tC]; simp), if_neg]
 rintro ⟨j, hj, hne⟩
 apply hne
 have hk := hf.keys j hj
 rw [a4Z hj]
 refine b6c (b0M hf b hj) fun z hz hh => ?_
 rw [xZ, a2F (fun n hn => (tY hf (b (j % 3)) hj n hn).1) hz] at hh
 have := tY hf (b (j % 3)) hj z (of_decide_eq_true hh)
 rw [a1V hk.1 hk.2.2 hz, decide_eq_true this.2.1, decide_eq_true this.2.2]
 rfl
end Go.Ds
namespace Go.Ds
open Go.Proofs
set_option maxRecDepth 10000
theorem Star.mono {α : Type} {R R' : α → α → Prop} (h : ∀ a b, R a b → R' a b) {a b : α} (hs : Star R a b) : Star R' a b := by
 induction hs with
 | refl => exact .refl _
 | tail _ h2 ih => exact .tail ih (h _ _ h2)
end Go.Ds
namespace Go.Ds
open Go.Proofs Go.Proofs.Tryz Go.Shelf Go.RowKit Go.Lib Go.Sort
def sm (x : Int × Int) : Prop := -1000000000 ≤ x.1 ∧ x.1 ≤ 1000000000 ∧ -1000000000 ≤ x.2 ∧ x.2 ≤ 1000000000
abbrev Sm := {x : Int × Int // sm x}
instance : Inhabited Sm := ⟨⟨(0, 0), by unfold sm; decide⟩⟩
def cfd (x y : Sm) : Int := if x.1.1 ≠ y.1.1 then x.1.1 - y.1.1 else x.1.2 - y.1.2
theorem ltd (x y : Sm) : ltOf cfd x y = decide (x.1.1 < y.1.1 ∨ (x.1.1 = y.1.1 ∧ x.1.2 < y.1.2)) := by
 unfold ltOf cfd
 congr 1
 apply propext
 split <;> omega
theorem c2P : SWO (ltOf cfd) where
 irrefl x := by rw [ltd]; simp
 trans x y z h1 h2 := by rw [ltd] at *; simp at *; omega
 ntrans x y z h1 h2 := by rw [ltd] at *; simp at *; omega
theorem c4t (x y : Sm) (h1 : ltOf cfd x y = false) (h2 : ltOf cfd y x = false) : x = y := by
 rw [ltd] at *
 simp at h1 h2
 apply Subtype.ext
 apply fQ <;> omega
theorem c0X (x y : Sm) : (!(ltOf cfd) y x) = le2 x.1 y.1 := by
 rw [ltd, ← a9Z]
 simp only [lt2]
theorem b6M (l : Array Sm) : flatK (fun x : Sm => jJ x.1) 2 l = flatK jJ 2 (l.map (·.1)) := by
 unfold flatK
 rw [Array.size_map]
 congr 1
 funext t
 congr 2
 by_cases h : t / 2 < l.size
 ·simp [h]
 ·simp [h]
  rfl
theorem b3Q (w : World) (kG off n : Nat) (l : List Sm) (os : Array Obj) : sortWorldK (fun x : Sm => jJ x.1) 2 w kG off n l.toArray os = sortWorldK jJ 2 w kG off n (l.map (·.1)).toArray os := by
 unfold sortWorldK putRowK
 rw [b6M, List.map_toArray]
theorem b9v (l : List (Int × Int)) (h : ∀ x ∈ l, sm x) : (l.attachWith sm h).map (·.1) = l := by
 rw [List.map_attachWith]
 exact List.attach_map_subtype_val l
theorem b4l (l : List Sm) : (l.mergeSort fun x y => !(ltOf cfd) y x).map (·.1) = (l.map (·.1)).mergeSort le2 :=
 List.map_mergeSort fun x _ y _ => c0X x y
theorem c3D (kc : FuncId) (eg : ∀ args w, (callFunc kc args).run prog w = .ok (.enter kc args) w) (hf : ∀ x y : Sm, Fn prog kc [.agg #[I x.1.1, I x.1.2], .agg #[I y.1.1, I y.1.2]] .nil fun r H' => r = I (cfd x y) ∧ St prog (.nil : Heap) H' []) : a0j prog 62 kc sm :=
 fun kG off cap d w hs hH hblk hsz => by
  have hd : (d.toList.attachWith sm hs).toArray.map (·.1) = d := by
   rw [List.map_toArray, b9v]
  have hl : (d.toList.attachWith sm hs).toArray.size = d.size := by simp
  have hH' : HoldsK (fun x : Sm => jJ x.1) 2 w kG off (d.toList.attachWith sm hs).toArray := by
   unfold HoldsK at hH ⊢
   rw [b6M, hd]
   exact hH
  have h := AnyQ.slices_SortFunc_total Tryz.bD 2 Tryz.isAgg70 Tryz.sizeOf70 (fun x : Sm => jJ x.1) (fun _ => rfl) (fun x => xR x.1) cfd c2P kc #[] kG off cap (d.toList.attachWith sm hs).toArray w eg (a1C (fun x : Sm => x.1) cfd hf kG off _ w) hH' hblk (by rw [hl]; exact hsz) c4t
  rw [hl] at h
  refine h.mono ?_
  rintro e w' ⟨h1, n, os, h2⟩
  exact ⟨h1, n, os, by rw [h2, b3Q, List.toList_toArray, b4l, b9v]⟩
def b1l (K kc : FuncId) : Prop := ∀ {H : Heap} {B : Base} {os : List Ob} (hS : St prog B H os) (i : Nat) {v : Value} {es : List (Int × Int)} (ho : os[i]? = some ⟨v, 2, pr es⟩) (hl : es.length < 100000000000) (hsm : ∀ x ∈ es, sm x) {Q : Value → Heap → Prop}
    (h : ∀ H1, St prog B H1 (os.set i ⟨v, 2, pr (oT es)⟩) → Q (.tuple #[]) H1), uR prog K [v, .func (.func kc) #[] #[]] H Q
section
variable {H : Heap}
theorem b7j (x y : Sm) : Fn prog 63 [.agg #[I x.1.1, I x.1.2], .agg #[I y.1.1, I y.1.2]] H fun r H' => r = I (cfd x y) ∧ St prog H H' [] := by
 obtain ⟨⟨x1, x2⟩, hx⟩ := x
 obtain ⟨⟨y1, y2⟩, hy⟩ := y
 unfold sm at hx hy
 simp only at hx hy ⊢
 refine .aF func63 rfl (by kernel_rfl) (m := 20) rfl fun l hn g0 g1 => ?_
 simp (disch := omega) only [↓RA, RB, simprocAttr, g0]
 refine (sR H).eNew 2 [I x1, I x2] rfl rfl rfl pH fun A1 H1 hS1 => ?_
 simp only [RT] at hS1
 simp (disch := omega) only [↓RA, RB, simprocAttr, g1]
 refine hS1.eNew 2 [I y1, I y2] rfl rfl rfl pH fun A2 H2 hS2 => ?_
 simp only [RT] at hS2
 simp (disch := omega) only [↓RA, RZ, simprocAttr, hn, hS2.ld 0 rfl, hS2.ld 1 rfl]
 refine hK (fun q => ?_) (fun q => ?_)
 ·simp (disch := omega) only [↓RA, RZ, simprocAttr, hn, hS2.ld 0 rfl, hS2.ld 1 rfl, c3E, q]
  exact ⟨by unfold cfd; rw [if_pos q], hS2.forget⟩
 simp (disch := omega) only [↓RA, RZ, simprocAttr, hn, hS2.ld 0 rfl, hS2.ld 1 rfl, c3E, q]
 exact ⟨by unfold cfd; rw [if_neg q], hS2.forget⟩
end
theorem b9Y : b1l 62 63 := fun hS i _ _ ho hl hsm _ h => tV (c3D 63 (enters_of func63 (by kernel_rfl) rfl) fun x y => b7j x y) c1J c2h hS i ho hl hsm h
end Go.Ds
namespace Go.Ds
open Go.Proofs Go.Proofs.Tryz
variable {H : Heap}
set_option maxRecDepth 10000
set_option maxHeartbeats 1000000
theorem c3R (o : Org) (ho : o.In H) (d z : Int) : Fn prog 69 [.agg #[.string o.name, o.rv, o.dv, o.cv], .agg #[I d, I z]] H fun r H' => r = .bool (mX o (d, z)) ∧ St prog H H' [] := by
 have hl := ho.2.2.2.2.2.2.1
 by_cases hd : 0 ≤ d
 ·obtain ⟨j, rfl⟩ := fG hd
  refine .aF func69 rfl (by kernel_rfl) (m := 42) rfl fun l hn g0 g1 => ?_
  simp (disch := omega) only [↓RA, RB, simprocAttr, g0]
  refine (sR H).eNew 4 [(.string o.name), o.rv, o.dv, o.cv] rfl rfl (by simp [OC, ((sR H).sl ho.1).cells.2.1, ((sR H).sl ho.2.2.1).cells.2.1, ((sR H).sl ho.2.2.2.2.1).cells.2.1]) mR fun A1 H1 hS1 => ?_
  simp only [RT] at hS1
  simp (disch := omega) only [↓RA, RB, simprocAttr, g1]
  refine hS1.eNew 2 [I j, I z] rfl rfl rfl nI fun A2 H2 hS2 => ?_
  simp only [RT] at hS2
  simp (disch := omega) only [↓RA, RB, simprocAttr]
  refine Wp.drw kF (by kernel_rfl) ?_
  simp (disch := omega) only [↓RA, RZ, simprocAttr, hn, hS2.ld 1 rfl]
  refine jH (fun g1 => ?_) (fun g1 => ?_)
  rotate_left
  ·exfalso; first | omega | (simp at g1; omega)
  simp (disch := omega) only [↓RA, RZ, simprocAttr, hn, hS2.ld 1 rfl, hS2.ld 0 rfl, (hS2.sl ho.2.2.1).len, g1]
  refine jH (fun g2 => ?_) (fun g2 => ?_)
  ·simp (disch := omega) only [↓RA, RZ, simprocAttr, hn, hS2.ld 1 rfl, hS2.ld 0 rfl, (hS2.sl ho.2.2.1).idx, (hS2.sl ho.2.2.1).bb, (hS2.sl ho.2.2.1).ld, Dvn.cells, g1, g2]
   refine jH (fun g3 => ?_) (fun g3 => ?_)
   ·simp (disch := omega) only [↓RA, RZ, simprocAttr, hn, hS2.ld 1 rfl, hS2.ld 0 rfl, (hS2.sl ho.2.2.1).idx, (hS2.sl ho.2.2.1).bb, (hS2.sl ho.2.2.1).ld, Dvn.cells, b8x, g1, g2, g3]
    exact ⟨by unfold mX; simp only [eT]; congr 1; simp; omega, hS2.forget⟩
   simp (disch := omega) only [↓RA, RZ, simprocAttr, hn, b8x, g1, g2, g3]
   exact ⟨by congr 1; symm; rw [← ek, mB]; simp only [eT]; omega, hS2.forget⟩
  simp (disch := omega) only [↓RA, RZ, simprocAttr, hn, b8x, g1, g2]
  exact ⟨by congr 1; symm; rw [← ek, mB]; simp only [eT]; omega, hS2.forget⟩
 ·refine .aF func69 rfl (by kernel_rfl) (m := 42) rfl fun l hn g0 g1 => ?_
  simp (disch := omega) only [↓RA, RB, simprocAttr, g0]
  refine (sR H).eNew 4 [(.string o.name), o.rv, o.dv, o.cv] rfl rfl (by simp [OC, ((sR H).sl ho.1).cells.2.1, ((sR H).sl ho.2.2.1).cells.2.1, ((sR H).sl ho.2.2.2.2.1).cells.2.1]) mR fun A1 H1 hS1 => ?_
  simp only [RT] at hS1
  simp (disch := omega) only [↓RA, RB, simprocAttr, g1]
  refine hS1.eNew 2 [I d, I z] rfl rfl rfl nI fun A2 H2 hS2 => ?_
  simp only [RT] at hS2
  simp (disch := omega) only [↓RA, RB, simprocAttr]
  refine Wp.drw kF (by kernel_rfl) ?_
  simp (disch := omega) only [↓RA, RZ, simprocAttr, hn, hS2.ld 1 rfl]
  refine jH (fun g1 => ?_) (fun g1 => ?_)
  ·exfalso; first | omega | (simp at g1; omega)
  simp (disch := omega) only [↓RA, RZ, simprocAttr, hn, b8x, g1]
  exact ⟨by congr 1; symm; rw [← ek, mB]; simp only; omega, hS2.forget⟩
theorem b0D (o : Org) (ho : o.In H) (c : Ct) : Fn prog 69 [.agg #[.string o.name, o.rv, o.dv, o.cv], .agg #[I c.1, I c.2]] H fun r H' => r = .bool (mX o c) ∧ St prog H H' [] := c3R o ho c.1 c.2
def a7n (o : Org) (ks : List Nt) (i n : Nat) : List Ct := ((List.range n).filter fun (j : Nat) => nF (iA ks i) ((iA o.dvs i).lo + (j : Int))).map fun (j : Nat) => ((i : Int), (iA o.dvs i).lo + (j : Int))
theorem b1w (o : Org) (ks : List Nt) (i n : Nat) : a7n o ks i (n + 1) = a7n o ks i n ++ (if nF (iA ks i) ((iA o.dvs i).lo + (n : Int)) then [((i : Int), (iA o.dvs i).lo + (n : Int))] else []) := by
 unfold a7n
 rw [dW, ez, dQ]
 congr 1
 cases h : nF (iA ks i) ((iA o.dvs i).lo + (n : Int)) <;> simp [h]
theorem b0G (o : Org) (ks : List Nt) (i n : Nat) : (a7n o ks i n).length ≤ n := by
 unfold a7n
 rw [ee]
 exact dw (dX _ _) (by simp)
theorem a6r {o : Org} (hf : o.Fine) (ks : List Nt) : ∀ i, i ≤ o.dvs.length → ((List.range i).flatMap (a1j o ks)).length ≤ i * 128
 | 0, _ => by simp
 | i + 1, h => by
   have h1 := a6r hf ks i (by omega)
   have h2 := b0G o ks i ((iA o.dvs i).hi - (iA o.dvs i).lo + 1).toNat
   have hk := hf.keys i (by omega)
   have h3 : (a1j o ks i).length ≤ 128 := dw h2 (by omega)
   rw [dW, dD, di, dx, eG, dh]
   omega
theorem a7Q (o : Org) (ho : o.In H) (hf : o.Fine) (kv : Value) (ks : List Nt) (hk : Ks H kv ks) (hl : ks.length = o.dvs.length) :
 Fn prog 48 [.agg #[.string o.name, o.rv, o.dv, o.cv], kv] H fun r H' => St prog H H' [⟨r, 2, pr (a9S o ks)⟩] := by
 have hd8 := hf.dlen
 refine .aF func48 rfl (by kernel_rfl) (m := 55) rfl fun l hn g0 g1 => ?_
 simp (disch := omega) only [↓RA, RB, simprocAttr, g0]
 refine (sR H).eNew 4 [(.string o.name), o.rv, o.dv, o.cv] rfl rfl (by simp [OC, ((sR H).sl ho.1).cells.2.1, ((sR H).sl ho.2.2.1).cells.2.1, ((sR H).sl ho.2.2.2.2.1).cells.2.1]) mR fun A1 H1 hS1 => ?_
 simp only [RT] at hS1
 simp (disch := omega) only [↓RA, RZ, simprocAttr, hn, hS1.ld 0 rfl, (hS1.sl ho.2.2.1).len]
 have hS2 := hS1.nil 1
 simp only [RT] at hS2
 refine Wp.ak (fun n l H' => l.length = 55 ∧ get l 1 = kv ∧ get l 4 = (.slice none 0 0) ∧ get l 11 = o.dv ∧ get l 12 = I o.dvs.length ∧ ∃ (i : Nat) (ov : Value), (n + i = o.dvs.length) ∧ get l 13 = I i ∧ get l 5 = ov ∧ St prog H H' [⟨ptr A1 0 4, 0, [(.string o.name), o.rv, o.dv, o.cv]⟩, ⟨ov, 2, pr ((List.range i).flatMap (a1j o ks))⟩]) o.dvs.length ?_ ?_
 ·simp (disch := omega) only [RB, RC, simprocAttr, hn, g1]
  exact ⟨0, .slice none 0 0, by omega, rfl, rfl, hS2⟩
 rintro n l H2 ⟨hn, g1, g4, g11, g12, i, ov, hi, g13, g5, hS3⟩
 simp (disch := omega) only [↓RA, RB, simprocAttr, hn, g12, g13]
 refine hK (fun q => ?_) (fun q => ?_)
 ·have hky := hf.keys i (by omega)
  have hx := hk.ok _ (iC (xs := ks) (j := i) (by omega))
  have hpl := a6r hf ks i (by omega)
  simp (disch := omega) only [↓RA, RZ, simprocAttr, hn, g11, g13, (hS3.sl ho.2.2.1).idx, (hS3.sl ho.2.2.1).ai, Dvn.cells, q]
  refine hS3.eNew 5 [(.string ⟨#[]⟩), (.bool false), I 0, I 0, (.slice none 0 0)] rfl rfl rfl tO fun A2 H3 hS4 => ?_
  simp only [RT] at hS4
  simp (disch := omega) only [↓RA, RZ, simprocAttr, hn, q]
  refine hS4.aa 2 rfl [(.string (iA o.dvs i).name), (.bool (iA o.dvs i).pedal), I (iA o.dvs i).lo, I (iA o.dvs i).hi, (iA o.dvs i).sv] rfl (by simp [OC, (hS4.sl (ho.2.2.2.1 (iA o.dvs i) (iC (by omega))).1).cells.2.1]) tO (by simp) fun H4 hS5 => ?_
  simp only [RT] at hS5
  simp (disch := omega) only [↓RA, RZ, simprocAttr, hn, hS5.ld 2 rfl, q]
  refine Wp.ak (fun n l H' => l.length = 55 ∧ get l 1 = kv ∧ get l 4 = (.slice none 0 0) ∧ get l 6 = I i ∧ get l 7 = (ptr A2 0 5) ∧ get l 11 = o.dv ∧ get l 12 = I o.dvs.length ∧ get l 13 = I i ∧ ∃ (j : Nat) (ow : Value), (n + j = ((iA o.dvs i).hi - (iA o.dvs i).lo + 1).toNat) ∧ get l 8 = I ((iA o.dvs i).lo + j) ∧ get l 5 = ow ∧ St prog H H' [⟨ptr A1 0 4, 0, [(.string o.name), o.rv, o.dv, o.cv]⟩, ⟨ow, 2, pr ((List.range i).flatMap (a1j o ks) ++ a7n o ks i j)⟩, ⟨ptr A2 0 5, 0, [(.string (iA o.dvs i).name), (.bool (iA o.dvs i).pedal), I (iA o.dvs i).lo, I (iA o.dvs i).hi, (iA o.dvs i).sv]⟩]) ((iA o.dvs i).hi - (iA o.dvs i).lo + 1).toNat ?_ ?_
  ·simp (disch := omega) only [RB, RC, simprocAttr, hn, g1, g4, g11, g12, g13, g5]
   refine ⟨0, ov, by omega, by simp, rfl, ?_⟩
   rw [show a7n o ks i 0 = [] from rfl, dh]
   exact hS5
  rintro n l H5 ⟨hn, g1, g4, g6, g7, g11, g12, g13, j, ow, hj, g8, g5, hS6⟩
  simp (disch := omega) only [↓RA, RZ, simprocAttr, hn, g7, g8, hS6.ld 2 rfl]
  refine hK (fun q2 => ?_) (fun q2 => ?_)
  ·have hsu := b1w o ks i j
   have hpj := b0G o ks i j
   obtain ⟨m, hm⟩ : ∃ m : Nat, (iA o.dvs i).lo + (j : Int) = m := ⟨((iA o.dvs i).lo + (j : Int)).toNat, by omega⟩
   rw [hm] at hsu
   simp (disch := omega) only [↓RA, RZ, simprocAttr, hn, g1, g6, g8, (hS6.sl hk.sl).idx, (hS6.sl hk.sl).bb, (hS6.sl hk.sl).ld, ntc, hm]
   refine hK (fun q3 => ?_) (fun q3 => ?_)
   ·have e0 : (m : Int).tmod 64 = ((m - 64 : Nat) : Int) := by rw [show (m : Int).tmod 64 = ((m % 64 : Nat) : Int) from (eh m 64).symm]; omega
    have e1 := zX (iA ks i).2 (m - 64) hx.2
    have e2 := yJ ((iA ks i).2 >>> (m - 64)) (tD _ hx.2)
    have e3 := tb (iA ks i).2 (m - 64)
    have e4 : nF (iA ks i) (m : Int) = (iA ks i).2.testBit (m - 64) := by unfold nF; rw [if_neg (by omega), show ((m : Int) - 64).toNat = m - 64 by omega]
    simp (disch := omega) only [↓RA, RZ, simprocAttr, hn, g1, g6, g8, (hS6.sl hk.sl).idx, (hS6.sl hk.sl).bb, (hS6.sl hk.sl).ld, ntc, hm, q3, e0, e1, e2]
    refine hK (fun q4 => ?_) (fun q4 => ?_)
    ·rw [e4, e3, decide_eq_true (by omega), if_pos rfl] at hsu
     simp (disch := omega) only [↓RA, RZ, simprocAttr, hn, g6, g8, g5, qK, hm, q3, q4]
     refine hS6.aj [I i, I m] rT a2N rfl rfl (by simp [Value.cells]) rfl rfl (by decide) (by decide) fun w1 H6 hS7 => ?_
     simp only [RT] at hS7
     simp (disch := omega) only [↓RA, RZ, simprocAttr, hn, hm, q3, q4]
     refine hS7.aq 1 rfl (hS7.rd 3 rfl) rT (by rw [iG, di]; simp only [dY, eK]; omega) fun w2 H7 hS8 => ?_
     simp only [RT] at hS8
     simp (disch := omega) only [↓RA, RZ, simprocAttr, hn, g1, g4, g6, g7, g11, g12, g13, g8, hm, q3, q4]
     refine ⟨n - 1, by omega, j + 1, w2, by omega, by simp; omega, rfl, ?_⟩
     rw [hsu, ← ed, jC]
     exact hS8.pick [0, 1, 2] (by decide) rfl
    rw [e4, e3, decide_eq_false (by omega), if_neg (by simp), dh] at hsu
    simp (disch := omega) only [↓RA, RZ, simprocAttr, hn, g1, g4, g6, g7, g11, g12, g13, g8, g5, hm, q3, q4]
    refine ⟨n - 1, by omega, j + 1, ow, by omega, by simp; omega, rfl, ?_⟩
    rw [hsu]
    exact hS6.pick [0, 1, 2] (by decide) rfl
   have e0 : (m : Int).tmod 64 = ((m : Nat) : Int) := by rw [show (m : Int).tmod 64 = ((m % 64 : Nat) : Int) from (eh m 64).symm]; omega
   have e1 := zX (iA ks i).1 m hx.1
   have e2 := yJ ((iA ks i).1 >>> m) (tD _ hx.1)
   have e3 := tb (iA ks i).1 m
   have e4 : nF (iA ks i) (m : Int) = (iA ks i).1.testBit m := by unfold nF; rw [if_pos (by omega)]; rfl
   simp (disch := omega) only [↓RA, RZ, simprocAttr, hn, g8, hm, q3, e0, e1, e2]
   refine hK (fun q4 => ?_) (fun q4 => ?_)
   ·rw [e4, e3, decide_eq_true (by omega), if_pos rfl] at hsu
    simp (disch := omega) only [↓RA, RZ, simprocAttr, hn, g6, g8, g5, qK, hm, q3, q4]
    refine hS6.aj [I i, I m] rT a2N rfl rfl (by simp [Value.cells]) rfl rfl (by decide) (by decide) fun w3 H8 hS9 => ?_
    simp only [RT] at hS9
    simp (disch := omega) only [↓RA, RZ, simprocAttr, hn, hm, q3, q4]
    refine hS9.aq 1 rfl (hS9.rd 3 rfl) rT (by rw [iG, di]; simp only [dY, eK]; omega) fun w4 H9 hS10 => ?_
    simp only [RT] at hS10
    simp (disch := omega) only [↓RA, RZ, simprocAttr, hn, g1, g4, g6, g7, g11, g12, g13, g8, hm, q3, q4]
    refine ⟨n - 1, by omega, j + 1, w4, by omega, by simp; omega, rfl, ?_⟩
    rw [hsu, ← ed, jC]
    exact hS10.pick [0, 1, 2] (by decide) rfl
   rw [e4, e3, decide_eq_false (by omega), if_neg (by simp), dh] at hsu
   simp (disch := omega) only [↓RA, RZ, simprocAttr, hn, g1, g4, g6, g7, g11, g12, g13, g8, g5, hm, q3, q4]
   refine ⟨n - 1, by omega, j + 1, ow, by omega, by simp; omega, rfl, ?_⟩
   rw [hsu]
   exact hS6.pick [0, 1, 2] (by decide) rfl
  simp (disch := omega) only [↓RA, RZ, simprocAttr, hn, g1, g4, g11, g12, g13, g5, q2]
  refine ⟨o.dvs.length - (i + 1), by omega, i + 1, ow, by omega, by simp, rfl, ?_⟩
  have hjj : j = ((iA o.dvs i).hi - (iA o.dvs i).lo + 1).toNat := by omega
  rw [dW, dD, dx, eG, dh]
  rw [show a1j o ks i = a7n o ks i j from by rw [hjj]; rfl]
  exact hS6.pick [0, 1] (by decide) rfl
 simp (disch := omega) only [↓RA, RZ, simprocAttr, hn, g5, c5B, q]
 have hii : i = o.dvs.length := by omega
 subst hii
 exact hS3.pick [1] (by decide) rfl
end Go.Ds
namespace Go.Ds
open Go.Proofs Go.Proofs.Tryz Go.Shelf Go.RowKit Go.Lib Go.Sort
theorem c1p (kc : FuncId) (eg : ∀ args w, (callFunc kc args).run prog w = .ok (.enter kc args) w) (hf : ∀ x y : Sm, Fn prog kc [.agg #[I x.1.1, I x.1.2], .agg #[I y.1.1, I y.1.2]] .nil fun r H' => r = I (cfd x y) ∧ St prog (.nil : Heap) H' []) : a0j prog 51 kc sm :=
 fun kG off cap d w hs hH hblk hsz => by
  have hd : (d.toList.attachWith sm hs).toArray.map (·.1) = d := by
   rw [List.map_toArray, b9v]
  have hl : (d.toList.attachWith sm hs).toArray.size = d.size := by simp
  have hH' : HoldsK (fun x : Sm => jJ x.1) 2 w kG off (d.toList.attachWith sm hs).toArray := by
   unfold HoldsK at hH ⊢
   rw [b6M, hd]
   exact hH
  have h := AnyQ.slices_SortFunc_total Tryz.bk 2 Tryz.isAgg52 Tryz.sizeOf52 (fun x : Sm => jJ x.1) (fun _ => rfl) (fun x => xR x.1) cfd c2P kc #[] kG off cap (d.toList.attachWith sm hs).toArray w eg (a1C (fun x : Sm => x.1) cfd hf kG off _ w) hH' hblk (by rw [hl]; exact hsz) c4t
  rw [hl] at h
  refine h.mono ?_
  rintro e w' ⟨h1, n, os, h2⟩
  exact ⟨h1, n, os, by rw [h2, b3Q, List.toList_toArray, b4l, b9v]⟩
section
variable {H : Heap}
theorem b7d (x y : Sm) : Fn prog 52 [.agg #[I x.1.1, I x.1.2], .agg #[I y.1.1, I y.1.2]] H fun r H' => r = I (cfd x y) ∧ St prog H H' [] := by
 obtain ⟨⟨x1, x2⟩, hx⟩ := x
 obtain ⟨⟨y1, y2⟩, hy⟩ := y
 unfold sm at hx hy
 simp only at hx hy ⊢
 refine .aF func52 rfl (by kernel_rfl) (m := 20) rfl fun l hn g0 g1 => ?_
 simp (disch := omega) only [↓RA, RB, simprocAttr, g0]
 refine (sR H).eNew 2 [I x1, I x2] rfl rfl rfl nI fun A1 H1 hS1 => ?_
 simp only [RT] at hS1
 simp (disch := omega) only [↓RA, RB, simprocAttr, g1]
 refine hS1.eNew 2 [I y1, I y2] rfl rfl rfl nI fun A2 H2 hS2 => ?_
 simp only [RT] at hS2
 simp (disch := omega) only [↓RA, RZ, simprocAttr, hn, hS2.ld 0 rfl, hS2.ld 1 rfl]
 refine hK (fun q => ?_) (fun q => ?_)
 ·simp (disch := omega) only [↓RA, RZ, simprocAttr, hn, hS2.ld 0 rfl, hS2.ld 1 rfl, c4y, q]
  exact ⟨by unfold cfd; rw [if_pos q], hS2.forget⟩
 simp (disch := omega) only [↓RA, RZ, simprocAttr, hn, hS2.ld 0 rfl, hS2.ld 1 rfl, c4y, q]
 exact ⟨by unfold cfd; rw [if_neg q], hS2.forget⟩
end
theorem c4n : b1l 51 52 := fun hS i _ _ ho hl hsm _ h => tV (c1p 52 (enters_of func52 (by kernel_rfl) rfl) fun x y => b7d x y) b9F b9M hS i ho hl hsm h
end Go.Ds
namespace Go.Ds
open Go.Proofs Go.Proofs.Tryz
variable {H : Heap}
set_option maxRecDepth 10000
set_option maxHeartbeats 1000000
theorem Ct.cI (a b : Ct) : (a.1 = b.1 ∧ a.2 = b.2) ↔ b = a := ⟨fun h => fQ h.1.symm h.2.symm, fun h => by rw [h]; exact ⟨rfl, rfl⟩⟩
theorem a8C (v : Value) (xs : List Ct) (hv : Sl 2 jJ H v xs) (hl : xs.length < 1000000000) (d : Ct) :
 Fn prog 94 [v, .agg #[I d.1, I d.2]] H fun r H' => r = I (mI (fun j => decide (iA xs j = d)) xs.length) ∧ St prog H H' [] := by
 refine .aF func94 rfl (by kernel_rfl) (m := 19) rfl fun l hn g0 g1 => ?_
 simp (disch := omega) only [↓RA, RB, simprocAttr, g1]
 refine (sR H).eNew 2 [I d.1, I d.2] rfl rfl rfl nI fun A1 H1 hS1 => ?_
 simp only [RT] at hS1
 simp (disch := omega) only [↓RA, RZ, simprocAttr, hn, g0, (hS1.sl hv).len]
 refine Wp.ak (fun n l H' => l.length = 19 ∧ get l 0 = v ∧ get l 3 = (ptr A1 0 2) ∧ get l 7 = I xs.length ∧ ∃ (j : Nat), (n + j = xs.length ∧ ∀ q, q < j → decide (iA xs q = d) = false) ∧ get l 8 = I j ∧ St prog H H' [⟨ptr A1 0 2, 0, [I d.1, I d.2]⟩]) xs.length ?_ ?_
 ·simp (disch := omega) only [RB, RC, simprocAttr, hn, g0]
  exact ⟨0, ⟨by omega, fun q hq => absurd hq (dH _)⟩, rfl, hS1⟩
 rintro n l H2 ⟨hn, g0, g3, g7, j, ⟨hi,h0⟩, g8, hS2⟩
 simp (disch := omega) only [↓RA, RB, simprocAttr, hn, g7, g8]
 refine hK (fun h => ?_) (fun h => ?_)
 ·simp (disch := omega) only [↓RA, RZ, simprocAttr, hn, g8, h]
  refine Wp.drw kF (by kernel_rfl) ?_
  simp (disch := omega) only [↓RA, RZ, simprocAttr, hn, g0, g3, hS2.ai 0 rfl, (hS2.sl hv).idx, (hS2.sl hv).ai, jJ]
  refine hK (fun hp => ?_) (fun hp => ?_)
  ·simp (disch := omega) only [↓RA, RZ, simprocAttr, hn, c3K, hp]
   exact ⟨by rw [sZ _ xs.length j (by omega) (by simpa using (Ct.cI _ _).1 hp) h0], hS2.forget⟩
  simp (disch := omega) only [↓RA, RZ, simprocAttr, hn, g0, g3, g7, g8, hp]
  exact ⟨n - 1, by omega, j + 1, ⟨by omega, fun q hq => by rcases dm.1 hq with e | e; (· exact h0 q e); (· rw [e]; simpa using fun hh => hp ((Ct.cI _ _).2 hh))⟩, by simp, hS2⟩
 simp (disch := omega) only [↓RA, RZ, simprocAttr, hn, c3K, h]
 exact ⟨by rw [sS _ xs.length fun q hq => h0 q (by omega)], hS2.forget⟩
theorem a2b (v : Value) (xs : List Ct) (hv : Sl 2 jJ H v xs) (hl : xs.length < 1000000000) (d : Ct) :
 Fn prog 50 [v, .agg #[I d.1, I d.2]] H fun r H' => r = .bool (decide (d ∈ xs)) ∧ St prog H H' [] := by
 have e : decide (0 ≤ mI (fun j => decide (iA xs j = d)) xs.length) = decide (d ∈ xs) := by
  rw [dV, decide_eq_true_iff, decide_eq_true_iff, sI]
  constructor
  ·rintro ⟨j, hj, hp⟩
   rw [← of_decide_eq_true hp]; exact iC hj
  ·intro hx
   obtain ⟨j, hj, rfl⟩ := dA.1 hx
   exact ⟨j, hj, by rw [jN xs j hj]; simp⟩
 refine .aF func50 rfl (by kernel_rfl) (m := 9) rfl fun l hn g0 g1 => ?_
 simp (disch := omega) only [↓RA, RB, simprocAttr, g1]
 refine (sR H).eNew 2 [I d.1, I d.2] rfl rfl rfl nI fun A1 H1 hS1 => ?_
 simp only [RT] at hS1
 simp (disch := omega) only [↓RA, RZ, simprocAttr, hn, g0, hS1.ai 0 rfl]
 refine hS1.cF (a8C v xs (hS1.sl hv) hl d) fun H2 hS2 => ?_
 simp (disch := omega) only [↓RA, RB, simprocAttr, hn, c5Q]
 rw [← e]
 first | exact hS2.forget | exact ⟨rfl, hS2.forget⟩
theorem a6G {B : Base} (o : Org) (r : Reg) (sv : Value) (c : Ct) (thr : Bool) (AO AR AQ : Nat) (qv : Value) (q : List Ct)
 (hS : St prog B H [⟨ptr AQ 0 1, 0, [qv]⟩, ⟨qv, 2, pr q⟩])
 (hO : ∀ {H1 : Heap} {os : List Ob}, St prog B H1 os → Var H1 AO 4 [.string o.name, o.rv, o.dv, o.cv] ∧ o.In H1 ∧ Var H1 AR 3 [sv, .int .u64 r.cpl, .int .u64 r.off])
 (hq : Que o q) (ho : o.Fine) (hr : r.Ok) :
 Fn prog 93 [.agg #[I c.1, I c.2], .bool thr, ptr AO 0 4, ptr AR 0 3, ptr AQ 0 1] H fun rr H' => ∃ qv', rr = .tuple #[] ∧
  St prog B H' [⟨ptr AQ 0 1, 0, [qv']⟩, ⟨qv', 2, pr (stepF o r.cpl thr c q)⟩] := by
 have hcl := ho.clen
 refine .cR func93 rfl (by kernel_rfl) (m := 64) rfl fun l hn g0 g1 g2 g3 g4 => ?_
 simp (disch := omega) only [↓RA, RB, simprocAttr, g0]
 refine hS.eNew 2 [I c.1, I c.2] rfl rfl rfl nI fun A1 H1 hS1 => ?_
 simp only [RT] at hS1
 simp (disch := omega) only [↓RA, RZ, simprocAttr, hn, g2, ((hO hS1).1).ld, ((hO hS1).2.1.2.2.2.2.1).len]
 refine Wp.ak (fun n l H' => l.length = 64 ∧ get l 1 = (.bool thr) ∧ get l 2 = (ptr AO 0 4) ∧ get l 3 = (ptr AR 0 3) ∧ get l 4 = (ptr AQ 0 1) ∧ get l 5 = (ptr A1 0 2) ∧ get l 11 = o.cv ∧ get l 12 = I o.cpls.length ∧ ∃ (i : Nat) (qv' : Value), (n + i = o.cpls.length) ∧ get l 13 = I i ∧ St prog B H' [⟨ptr AQ 0 1, 0, [qv']⟩, ⟨qv', 2, pr (stepN o r.cpl thr c q i)⟩, ⟨ptr A1 0 2, 0, [I c.1, I c.2]⟩]) o.cpls.length ?_ ?_
 ·simp (disch := omega) only [RB, RC, simprocAttr, hn, g1, g2, g3, g4]
  exact ⟨0, qv, by omega, rfl, hS1⟩
 rintro n l H2 ⟨hn, g1, g2, g3, g4, g5, g11, g12, i, qv', hi, g13, hS2⟩
 simp (disch := omega) only [↓RA, RB, simprocAttr, hn, g12, g13]
 refine hK (fun q1 => ?_) (fun q1 => ?_)
 ·have hql : (stepN o r.cpl thr c q i).length ≤ 1024 := (hq.stepN r.cpl thr c i).len ho
  have e1 := zX r.cpl i hr.2.2.1
  have e2 := yJ (r.cpl >>> i) (tD i hr.2.2.1)
  have e3 := tb r.cpl i
  have hstay : (sU r.cpl thr c (iA o.cpls i) i && mX o (to1 (iA o.cpls i) c) && !decide (to1 (iA o.cpls i) c ∈ stepN o r.cpl thr c q i)) = false → stepN o r.cpl thr c q (i + 1) = stepN o r.cpl thr c q i := fun h => by
   rw [lP, step1, if_neg (by rw [h]; simp)]
  simp (disch := omega) only [↓RA, RZ, simprocAttr, hn, g11, g13, ((hO hS2).2.1.2.2.2.2.1).idx, ((hO hS2).2.1.2.2.2.2.1).ai, Cpl.cells, q1]
  refine hS2.eNew 5 [(.string ⟨#[]⟩), I 0, I 0, I 0, (.bool false)] rfl rfl rfl tG fun A2 H3 hS3 => ?_
  simp only [RT] at hS3
  simp (disch := omega) only [↓RA, RZ, simprocAttr, hn, q1]
  refine hS3.aa 3 rfl [(.string (iA o.cpls i).name), I (iA o.cpls i).src, I (iA o.cpls i).dst, I (iA o.cpls i).shift, (.bool (iA o.cpls i).thr)] rfl rfl tG (by simp) fun H4 hS4 => ?_
  simp only [RT] at hS4
  simp (disch := omega) only [↓RA, RZ, simprocAttr, hn, g5, hS4.ld 3 rfl, hS4.ld 2 rfl, q1]
  simp (disch := omega) only [↓RA, RZ, simprocAttr, qK]
  refine hS4.eNew 2 [I 0, I 0] rfl rfl rfl nI fun A3 H5 hS5 => ?_
  simp only [RT] at hS5
  simp (disch := omega) only [↓RA, RZ, simprocAttr, hn, q1]
  refine hS5.aa 4 rfl [I (iA o.cpls i).dst, I (oK (c.2 + (iA o.cpls i).shift))] rfl rfl nI (by simp) fun H6 hS6 => ?_
  simp only [RT] at hS6
  simp (disch := omega) only [↓RA, RZ, simprocAttr, hn, g3, ((hO hS6).2.2).ld, q1, e1, e2]
  refine jH (fun b1 => ?_) (fun b1 => ?_)
  ·have hb : r.cpl.testBit i = true := by rw [e3]; exact decide_eq_true (by omega)
   simp (disch := omega) only [↓RA, RZ, simprocAttr, hn, g5, hS6.ld 3 rfl, hS6.ld 2 rfl, q1, b1]
   refine jH (fun b2 => ?_) (fun b2 => ?_)
   ·have hsrc : (iA o.cpls i).src = c.1 := by omega
    have hgg : sU r.cpl thr c (iA o.cpls i) i = (!thr || (iA o.cpls i).thr) := by unfold sU; rw [hb, decide_eq_true hsrc]; rfl
    simp (disch := omega) only [↓RA, RZ, simprocAttr, hn, hS6.ld 3 rfl, q1, b1, b2]
    refine qC (fun b3 => ?_) (fun b3 => ?_)
    ·have hg : sU r.cpl thr c (iA o.cpls i) i = true := by rw [hgg, b3]; simp
     simp (disch := omega) only [↓RA, RZ, simprocAttr, hn, g2, ((hO hS6).1).ai, hS6.ai 4 rfl, q1, b1, b2, b3]
     refine hS6.cF (b0D o (hO hS6).2.1 ((iA o.cpls i).dst, oK (c.2 + (iA o.cpls i).shift))) fun H7 hS7 => ?_
     simp (disch := omega) only [↓RA, RZ, simprocAttr, hn, q1, b1, b2, b3]
     refine qC (fun b5 => ?_) (fun b5 => ?_)
     ·simp (disch := omega) only [↓RA, RZ, simprocAttr, hn, g4, hS7.ld 0 rfl, hS7.ai 4 rfl, q1, b1, b2, b3, b5]
      refine hS7.cF (a2b qv' (stepN o r.cpl thr c q i) (hS7.aw 1 rfl (fun _ => rfl)) (by omega) ((iA o.cpls i).dst, oK (c.2 + (iA o.cpls i).shift))) fun H8 hS8 => ?_
      simp (disch := omega) only [↓RA, RZ, simprocAttr, hn, q1, b1, b2, b3, b5]
      refine jF (fun b6 => ?_) (fun b6 => ?_)
      ·have hs : stepN o r.cpl thr c q (i + 1) = stepN o r.cpl thr c q i ++ [((iA o.cpls i).dst, oK (c.2 + (iA o.cpls i).shift))] := by
        rw [lP]
        unfold step1
        have hnot : ((iA o.cpls i).dst, oK (c.2 + (iA o.cpls i).shift)) ∉ stepN o r.cpl thr c q i := by simpa using b6
        rw [if_pos (by rw [hg]; simp only [to1, b5]; simp [hnot])]
        rfl
       simp (disch := omega) only [↓RA, RZ, simprocAttr, hn, g4, hS8.ld 0 rfl, hS8.ai 4 rfl, q1, b1, b2, b3, b5, b6]
       refine hS8.aj [I (iA o.cpls i).dst, I (oK (c.2 + (iA o.cpls i).shift))] rT a2N rfl rfl (by simp [Value.cells]) rfl rfl (by decide) (by decide) fun w1 H9 hS9 => ?_
       simp only [RT] at hS9
       simp (disch := omega) only [↓RA, RZ, simprocAttr, hn, q1, b1, b2, b3, b5, b6]
       refine hS9.aq 1 rfl (hS9.rd 5 rfl) rT (by rw [iG]; simp; omega) fun w2 H10 hS10 => ?_
       simp only [RT] at hS10
       simp (disch := omega) only [↓RA, RZ, simprocAttr, hn, g4, q1, b1, b2, b3, b5, b6]
       refine hS10.aa 0 rfl [w2] (by rw [(hS10.rd 1 rfl).cells.1]) (by simp [(hS10.rd 1 rfl).cells.2.1]) a8o (by simp) fun H11 hS11 => ?_
       simp only [RT] at hS11
       simp (disch := omega) only [↓RA, RZ, simprocAttr, hn, g1, g2, g3, g4, g5, g11, g12, g13, q1, b1, b2, b3, b5, b6]
       refine ⟨n - 1, by omega, i + 1, w2, by omega, by simp, ?_⟩
       rw [hs, jC]
       exact hS11.pick [0, 1, 2] (by decide) rfl
      have hin : ((iA o.cpls i).dst, oK (c.2 + (iA o.cpls i).shift)) ∈ stepN o r.cpl thr c q i := by simpa using b6
      have hs := hstay (by simp only [to1]; simp [hin])
      simp (disch := omega) only [↓RA, RZ, simprocAttr, hn, g1, g2, g3, g4, g5, g11, g12, g13, q1, b1, b2, b3, b5, b6]
      exact ⟨n - 1, by omega, i + 1, qv', by omega, by simp, by rw [hs]; exact hS8.pick [0, 1, 2] (by decide) rfl⟩
     have hs := hstay (by rw [eH, eH]; exact .inl (.inr (by simpa [to1] using b5)))
     simp (disch := omega) only [↓RA, RZ, simprocAttr, hn, g1, g2, g3, g4, g5, g11, g12, g13, q1, b1, b2, b3, b5]
     exact ⟨n - 1, by omega, i + 1, qv', by omega, by simp, by rw [hs]; exact hS7.pick [0, 1, 2] (by decide) rfl⟩
    simp (disch := omega) only [↓RA, RZ, simprocAttr, hn, g1, q1, b1, b2, b3]
    refine qC (fun b4 => ?_) (fun b4 => ?_)
    ·have hg : sU r.cpl thr c (iA o.cpls i) i = true := by
      have : thr = false := by simpa using b4
      rw [hgg, this]; rfl
     simp (disch := omega) only [↓RA, RZ, simprocAttr, hn, g2, ((hO hS6).1).ai, hS6.ai 4 rfl, q1, b1, b2, b3, b4]
     refine hS6.cF (b0D o (hO hS6).2.1 ((iA o.cpls i).dst, oK (c.2 + (iA o.cpls i).shift))) fun H12 hS12 => ?_
     simp (disch := omega) only [↓RA, RZ, simprocAttr, hn, q1, b1, b2, b3, b4]
     refine qC (fun b5 => ?_) (fun b5 => ?_)
     ·simp (disch := omega) only [↓RA, RZ, simprocAttr, hn, g4, hS12.ld 0 rfl, hS12.ai 4 rfl, q1, b1, b2, b3, b4, b5]
      refine hS12.cF (a2b qv' (stepN o r.cpl thr c q i) (hS12.aw 1 rfl (fun _ => rfl)) (by omega) ((iA o.cpls i).dst, oK (c.2 + (iA o.cpls i).shift))) fun H13 hS13 => ?_
      simp (disch := omega) only [↓RA, RZ, simprocAttr, hn, q1, b1, b2, b3, b4, b5]
      refine jF (fun b6 => ?_) (fun b6 => ?_)
      ·have hs : stepN o r.cpl thr c q (i + 1) = stepN o r.cpl thr c q i ++ [((iA o.cpls i).dst, oK (c.2 + (iA o.cpls i).shift))] := by
        rw [lP]
        unfold step1
        have hnot : ((iA o.cpls i).dst, oK (c.2 + (iA o.cpls i).shift)) ∉ stepN o r.cpl thr c q i := by simpa using b6
        rw [if_pos (by rw [hg]; simp only [to1, b5]; simp [hnot])]
        rfl
       simp (disch := omega) only [↓RA, RZ, simprocAttr, hn, g4, hS13.ld 0 rfl, hS13.ai 4 rfl, q1, b1, b2, b3, b4, b5, b6]
       refine hS13.aj [I (iA o.cpls i).dst, I (oK (c.2 + (iA o.cpls i).shift))] rT a2N rfl rfl (by simp [Value.cells]) rfl rfl (by decide) (by decide) fun w3 H14 hS14 => ?_
       simp only [RT] at hS14
       simp (disch := omega) only [↓RA, RZ, simprocAttr, hn, q1, b1, b2, b3, b4, b5, b6]
       refine hS14.aq 1 rfl (hS14.rd 5 rfl) rT (by rw [iG]; simp; omega) fun w4 H15 hS15 => ?_
       simp only [RT] at hS15
       simp (disch := omega) only [↓RA, RZ, simprocAttr, hn, g4, q1, b1, b2, b3, b4, b5, b6]
       refine hS15.aa 0 rfl [w4] (by rw [(hS15.rd 1 rfl).cells.1]) (by simp [(hS15.rd 1 rfl).cells.2.1]) a8o (by simp) fun H16 hS16 => ?_
       simp only [RT] at hS16
       simp (disch := omega) only [↓RA, RZ, simprocAttr, hn, g1, g2, g3, g4, g5, g11, g12, g13, q1, b1, b2, b3, b4, b5, b6]
       refine ⟨n - 1, by omega, i + 1, w4, by omega, by simp, ?_⟩
       rw [hs, jC]
       exact hS16.pick [0, 1, 2] (by decide) rfl
      have hin : ((iA o.cpls i).dst, oK (c.2 + (iA o.cpls i).shift)) ∈ stepN o r.cpl thr c q i := by simpa using b6
      have hs := hstay (by simp only [to1]; simp [hin])
      simp (disch := omega) only [↓RA, RZ, simprocAttr, hn, g1, g2, g3, g4, g5, g11, g12, g13, q1, b1, b2, b3, b4, b5, b6]
      exact ⟨n - 1, by omega, i + 1, qv', by omega, by simp, by rw [hs]; exact hS13.pick [0, 1, 2] (by decide) rfl⟩
     have hs := hstay (by rw [eH, eH]; exact .inl (.inr (by simpa [to1] using b5)))
     simp (disch := omega) only [↓RA, RZ, simprocAttr, hn, g1, g2, g3, g4, g5, g11, g12, g13, q1, b1, b2, b3, b4, b5]
     exact ⟨n - 1, by omega, i + 1, qv', by omega, by simp, by rw [hs]; exact hS12.pick [0, 1, 2] (by decide) rfl⟩
    have h4 : thr = true := by simpa using b4
    have h3 : (iA o.cpls i).thr = false := by simpa using b3
    have hs := hstay (by rw [hgg, h4, h3]; rfl)
    simp (disch := omega) only [↓RA, RZ, simprocAttr, hn, g1, g2, g3, g4, g5, g11, g12, g13, q1, b1, b2, b3, b4]
    exact ⟨n - 1, by omega, i + 1, qv', by omega, by simp, by rw [hs]; exact hS6.pick [0, 1, 2] (by decide) rfl⟩
   have hs := hstay (by unfold sU; rw [decide_eq_false (by omega)]; simp)
   simp (disch := omega) only [↓RA, RZ, simprocAttr, hn, g1, g2, g3, g4, g5, g11, g12, g13, q1, b1, b2]
   exact ⟨n - 1, by omega, i + 1, qv', by omega, by simp, by rw [hs]; exact hS6.pick [0, 1, 2] (by decide) rfl⟩
  have hs := hstay (by unfold sU; rw [e3, decide_eq_false (by omega)]; rfl)
  simp (disch := omega) only [↓RA, RZ, simprocAttr, hn, g1, g2, g3, g4, g5, g11, g12, g13, q1, b1]
  exact ⟨n - 1, by omega, i + 1, qv', by omega, by simp, by rw [hs]; exact hS6.pick [0, 1, 2] (by decide) rfl⟩
 simp (disch := omega) only [↓RA, RZ, simprocAttr, c5d, q1]
 have hii : i = o.cpls.length := by omega
 subst hii
 exact ⟨qv', hS2.pick [0, 1] (by decide) rfl⟩
theorem a5w (o : Org) (ho : o.In H) (hf : o.Fine) (r : Reg) (sv : Value) (hr : r.In H sv) (fv : Value) (first : List Ct) (hfi : Sl 2 jJ H fv first) (hfl : first.length ≤ 1024) :
 Fn prog 49 [.agg #[.string o.name, o.rv, o.dv, o.cv], .agg #[sv, .int .u64 r.cpl, .int .u64 r.off], fv] H fun rr H' => St prog H H' [⟨rr, 2, pr (bfs o r.cpl 1100 0 (kJ o r.cpl first))⟩] := by
 refine .bp func49 rfl (by kernel_rfl) (m := 36) rfl fun l hn g0 g1 g2 => ?_
 simp (disch := omega) only [↓RA, RB, simprocAttr, g0]
 refine (sR H).eNew 4 [(.string o.name), o.rv, o.dv, o.cv] rfl rfl (by simp [OC, ((sR H).sl ho.1).cells.2.1, ((sR H).sl ho.2.2.1).cells.2.1, ((sR H).sl ho.2.2.2.2.1).cells.2.1]) mR fun A1 H1 hS1 => ?_
 simp only [RT] at hS1
 simp (disch := omega) only [↓RA, RB, simprocAttr, g1]
 refine hS1.eNew 3 [sv, (.int .u64 r.cpl), (.int .u64 r.off)] rfl rfl (by simp [OC, (hS1.sl hr.1).cells.2.1]) pE fun A2 H2 hS2 => ?_
 simp only [RT] at hS2
 simp (disch := omega) only [↓RA, RZ, simprocAttr]
 refine hS2.eNew 1 [(.slice none 0 0)] rfl rfl rfl a8o fun A3 H3 hS3 => ?_
 simp only [RT] at hS3
 simp (disch := omega) only [↓RA, RZ, simprocAttr, hn, g2, (hS3.sl hfi).len]
 have hS4 := hS3.nil 1
 simp only [RT] at hS4
 refine Wp.ak (fun n l H' => l.length = 36 ∧ get l 6 = (.slice none 0 0) ∧ get l 7 = (ptr A3 0 1) ∧ get l 8 = (.func (.func 93) #[] #[(ptr A1 0 4), (ptr A2 0 3), (ptr A3 0 1)]) ∧ get l 13 = fv ∧ get l 14 = I first.length ∧ ∃ (i : Nat) (qv : Value), (n + i = first.length) ∧ get l 15 = I i ∧ St prog H H' [⟨ptr A1 0 4, 0, [(.string o.name), o.rv, o.dv, o.cv]⟩, ⟨ptr A2 0 3, 0, [sv, (.int .u64 r.cpl), (.int .u64 r.off)]⟩, ⟨ptr A3 0 1, 0, [qv]⟩, ⟨qv, 2, pr (kJ o r.cpl (first.take i))⟩]) first.length ?_ ?_
 ·simp (disch := omega) only [RB, RC, simprocAttr, hn]
  refine ⟨0, .slice none 0 0, by omega, rfl, ?_⟩
  rw [show kJ o r.cpl (first.take 0) = [] from rfl]
  exact hS4
 rintro n l H4 ⟨hn, g6, g7, g8, g13, g14, i, qv, hi, g15, hS5⟩
 simp (disch := omega) only [↓RA, RB, simprocAttr, hn, g14, g15]
 refine hK (fun q1 => ?_) (fun q1 => ?_)
 ·have hqu := nN o r.cpl (first.take i)
  have hqs := a0E o r.cpl first i (by omega)
  simp (disch := omega) only [↓RA, RZ, simprocAttr, hn, g13, g15, (hS5.sl hfi).idx, (hS5.sl hfi).ai, jJ, q1]
  refine hS5.eNew 2 [I 0, I 0] rfl rfl rfl nI fun A4 H5 hS6 => ?_
  simp only [RT] at hS6
  simp (disch := omega) only [↓RA, RZ, simprocAttr, hn, q1]
  refine hS6.aa 4 rfl [I (iA first i).1, I (iA first i).2] rfl rfl nI (by simp) fun H6 hS7 => ?_
  simp only [RT] at hS7
  simp (disch := omega) only [↓RA, RZ, simprocAttr, hn, g8, hS7.ai 4 rfl, q1]
  have hM1 := hS7.pick (os' := [⟨ptr A3 0 1, 0, _⟩, ⟨qv, 2, _⟩]) [2, 3] (by decide) rfl
  have hR1 := hS7.pick (os' := [⟨ptr A3 0 1, 0, _⟩, ⟨qv, 2, _⟩, ⟨ptr A1 0 4, 0, _⟩, ⟨ptr A2 0 3, 0, _⟩, ⟨ptr A4 0 2, 0, _⟩]) [2, 3, 0, 1, 4] (by decide) rfl
  refine iF (a6G o r sv (iA first i) false A1 A2 A3 qv (kJ o r.cpl (first.take i)) hM1.aD (fun h => ⟨(hR1.frame h.forget).var 0 rfl, ho.ag (hR1.frame h.forget), (hR1.frame h.forget).var 1 rfl⟩) hqu hf hr.2) ?_
  rintro r H7 ⟨qv', rfl, hT1⟩
  have hS8 := hR1.frame hT1
  simp only [RT] at hS8
  simp (disch := omega) only [↓RA, RZ, simprocAttr, hn, g6, g7, g8, g13, g14, g15, q1]
  refine ⟨n - 1, by omega, i + 1, qv', by omega, by simp, ?_⟩
  rw [hqs]
  exact hS8.pick [2, 3, 0, 1] (by decide) rfl
 simp (disch := omega) only [↓RA, RZ, simprocAttr, q1]
 have hii : i = first.length := by omega
 subst hii
 rw [dT] at hS5
 have hqu := nN o r.cpl first
 refine Wp.ak (fun n l H' => l.length = 36 ∧ get l 6 = (.slice none 0 0) ∧ get l 7 = (ptr A3 0 1) ∧ get l 8 = (.func (.func 93) #[] #[(ptr A1 0 4), (ptr A2 0 3), (ptr A3 0 1)]) ∧ ∃ (j : Nat) (qv : Value) (q : List Ct), (n + j = 1100 ∧ bfs o r.cpl n j q = bfs o r.cpl 1100 0 (kJ o r.cpl first) ∧ Que o q) ∧ get l 11 = I j ∧ St prog H H' [⟨ptr A1 0 4, 0, [(.string o.name), o.rv, o.dv, o.cv]⟩, ⟨ptr A2 0 3, 0, [sv, (.int .u64 r.cpl), (.int .u64 r.off)]⟩, ⟨ptr A3 0 1, 0, [qv]⟩, ⟨qv, 2, pr q⟩]) 1100 ?_ ?_
 ·simp (disch := omega) only [RB, RC, simprocAttr, hn, g6, g7, g8]
  exact ⟨0, qv, _, ⟨rfl, rfl, hqu⟩, rfl, hS5⟩
 rintro n l H8 ⟨hn, g6, g7, g8, j, qv, q, ⟨hj,hbf,hqq⟩, g11, hS9⟩
 have hql := hqq.len hf
 simp (disch := omega) only [↓RA, RZ, simprocAttr, hn, g7, g11, hS9.ld 2 rfl, (hS9.aw 3 rfl (fun _ => rfl)).len]
 refine hK (fun q3 => ?_) (fun q3 => ?_)
 ·have hjl : j < q.length := by omega
  simp (disch := omega) only [↓RA, RZ, simprocAttr, hn, g7, g8, g11, hS9.ld 2 rfl, (hS9.aw 3 rfl (fun _ => rfl)).idx, (hS9.aw 3 rfl (fun _ => rfl)).ai, jJ, q3]
  have hM2 := hS9.pick (os' := [⟨ptr A3 0 1, 0, _⟩, ⟨qv, 2, _⟩]) [2, 3] (by decide) rfl
  have hR2 := hS9.pick (os' := [⟨ptr A3 0 1, 0, _⟩, ⟨qv, 2, _⟩, ⟨ptr A1 0 4, 0, _⟩, ⟨ptr A2 0 3, 0, _⟩]) [2, 3, 0, 1] (by decide) rfl
  refine iF (a6G o r sv (iA q j) true A1 A2 A3 qv q hM2.aD (fun h => ⟨(hR2.frame h.forget).var 0 rfl, ho.ag (hR2.frame h.forget), (hR2.frame h.forget).var 1 rfl⟩) hqq hf hr.2) ?_
  rintro r H9 ⟨qv', rfl, hT2⟩
  have hS10 := hR2.frame hT2
  simp only [RT] at hS10
  simp (disch := omega) only [↓RA, RZ, simprocAttr, hn, g6, g7, g8, g11, q3]
  obtain ⟨n', rfl⟩ : ∃ n', n = n' + 1 := ⟨n - 1, by omega⟩
  rw [bfs, if_pos hjl] at hbf
  exact ⟨n', by omega, j + 1, qv', _, ⟨by omega, hbf, hqq.stepF _ _ _⟩, by simp, hS10.pick [2, 3, 0, 1] (by decide) rfl⟩
 have hbq : bfs o r.cpl 1100 0 (kJ o r.cpl first) = q := by
  rw [← hbf]
  cases n with
  | zero => rfl
  | succ n => rw [bfs, if_neg (by omega)]
 simp (disch := omega) only [↓RA, RZ, simprocAttr, hn, g7, hS9.ld 2 rfl, c6r, q3]
 rw [hbq]
 exact hS9.pick [3] (by decide) rfl
theorem a7S {o : Org} {r : Reg} {l q : List Ct} (hq : Que o q) (hl : ∀ c ∈ l, mX o c = true) : Que o (l.foldl (rW r) q) :=
 ⟨wW hq.1, fun c hc => by
  rcases a2a.1 hc with h | h
  ·exact hq.2 c h
  ·exact hl c h.1⟩
theorem c1G {o : Org} (hf : o.Fine) {q : List Ct} (hq : Que o q) : ∀ x ∈ q, sm x := fun x hx => by
 have := yZ hf (hq.2 x hx)
 unfold sm
 omega
theorem a2S (o : Org) (ho : o.In H) (hf : o.Fine) (rg : Reg) (sv : Value) (hr : rg.In H sv) (kv : Value) (ks : List Nt) (hk : Ks H kv ks) (h0 : nY o ks = 0) :
 Fn prog 17 [.agg #[.string o.name, o.rv, o.dv, o.cv], .agg #[sv, .int .u64 rg.cpl, .int .u64 rg.off], kv] H fun rr H' => St prog H H' [⟨rr, 2, pr (jX o rg (iE ks))⟩] := by
 have hkl := (nM h0).2.1
 have hple := b9e hk.ok h0
 have hpll := qD h0
 have hplc := qE hk.ok h0
 refine .bp func17 rfl (by kernel_rfl) (m := 46) rfl fun l hn g0 g1 g2 => ?_
 simp (disch := omega) only [↓RA, RB, simprocAttr, g0]
 refine (sR H).eNew 4 [(.string o.name), o.rv, o.dv, o.cv] rfl rfl (by simp [OC, ((sR H).sl ho.1).cells.2.1, ((sR H).sl ho.2.2.1).cells.2.1, ((sR H).sl ho.2.2.2.2.1).cells.2.1]) mR fun A1 H1 hS1 => ?_
 simp only [RT] at hS1
 simp (disch := omega) only [↓RA, RB, simprocAttr, g1]
 refine hS1.eNew 3 [sv, (.int .u64 rg.cpl), (.int .u64 rg.off)] rfl rfl (by simp [OC, (hS1.sl hr.1).cells.2.1]) pE fun A2 H2 hS2 => ?_
 simp only [RT] at hS2
 simp (disch := omega) only [↓RA, RZ, simprocAttr, hn, g2, hS2.ai 0 rfl]
 refine iF ((a7Q o (ho.ag hS2) hf kv ks (hk.ag hS2) hkl).tr) ?_
 rintro r H3 ⟨-, hT1⟩
 have hS3 := hS2.trans hT1
 simp only [RT] at hS3
 obtain ⟨pv, rfl⟩ : ∃ w, w = r := ⟨r, rfl⟩
 rw [hple] at hS3
 simp (disch := omega) only [↓RA, RZ, simprocAttr, hn, hS3.ai 0 rfl, hS3.ai 1 rfl]
 refine iF ((a5w o (ho.ag hS3) hf rg sv (hr.ag hS3) pv (iE ks) (hS3.aw 2 rfl jL) hpll).tr) ?_
 rintro r H4 ⟨-, hT2⟩
 have hS4 := hS3.trans hT2
 simp only [RT] at hS4
 obtain ⟨qv, rfl⟩ : ∃ w, w = r := ⟨r, rfl⟩
 have hQ := a5v rg.cpl 1100 0 _ (a1Y o rg.cpl (iE ks))
 have hfin : b5p o rg (iE ks) = oT ((iE ks).foldl (rW rg) (bfs o rg.cpl 1100 0 (kJ o rg.cpl (iE ks)))) := rfl
 rw [b4T] at hfin
 rw [hfin]
 clear hfin
 simp (disch := omega) only [↓RA, RZ, simprocAttr, hn, (hS4.aw 2 rfl jL).len]
 refine Wp.ak (fun n l H' => l.length = 46 ∧ get l 4 = (ptr A2 0 3) ∧ get l 6 = (.slice none 0 0) ∧ get l 18 = pv ∧ get l 19 = I (iE ks).length ∧ ∃ (i : Nat) (ov : Value), (n + i = (iE ks).length) ∧ get l 20 = I i ∧ get l 8 = ov ∧ St prog H H' [⟨ptr A1 0 4, 0, [(.string o.name), o.rv, o.dv, o.cv]⟩, ⟨ptr A2 0 3, 0, [sv, (.int .u64 rg.cpl), (.int .u64 rg.off)]⟩, ⟨pv, 2, pr (iE ks)⟩, ⟨ov, 2, pr (((iE ks).take i).foldl (rW rg) (bfs o rg.cpl 1100 0 (kJ o rg.cpl (iE ks))))⟩]) (iE ks).length ?_ ?_
 ·simp (disch := omega) only [RB, RC, simprocAttr, hn]
  exact ⟨0, qv, by omega, rfl, rfl, hS4⟩
 rintro n l H5 ⟨hn, g4, g6, g18, g19, i, ov, hi, g20, g8, hS5⟩
 simp (disch := omega) only [↓RA, RB, simprocAttr, hn, g19, g20]
 refine hK (fun q1 => ?_) (fun q1 => ?_)
 ·have hci := (mB o _).1 (hplc _ (iC (xs := iE ks) (j := i) (by omega)))
  have hqi : Que o (((iE ks).take i).foldl (rW rg) (bfs o rg.cpl 1100 0 (kJ o rg.cpl (iE ks)))) := a7S hQ fun c hc => hplc c (fS hc)
  have hql := hqi.len hf
  have hsu : ((iE ks).take (i + 1)).foldl (rW rg) (bfs o rg.cpl 1100 0 (kJ o rg.cpl (iE ks))) = rW rg (((iE ks).take i).foldl (rW rg) (bfs o rg.cpl 1100 0 (kJ o rg.cpl (iE ks)))) (iA (iE ks) i) := by
   rw [kH _ i (by omega), gr]
   rfl
  generalize ((iE ks).take i).foldl (rW rg) (bfs o rg.cpl 1100 0 (kJ o rg.cpl (iE ks))) = Q at *
  have hd8 := hf.dlen
  obtain ⟨d, hd⟩ : ∃ d : Nat, (iA (iE ks) i).1.toNat = d := ⟨_, rfl⟩
  have hwd : IntKind.wrap .u64 (iA (iE ks) i).1 = ((d : Nat) : Int) := by rw [oC _ (by omega) (by omega)]; omega
  have e1 := zX rg.off d hr.2.2.2.2
  have e2 := yJ (rg.off >>> d) (tD _ hr.2.2.2.2)
  have e3 := tb rg.off d
  simp (disch := omega) only [↓RA, RZ, simprocAttr, hn, g18, g20, (hS5.aw 2 rfl jL).idx, (hS5.aw 2 rfl jL).ai, jJ, q1]
  refine hS5.eNew 2 [I 0, I 0] rfl rfl rfl nI fun A3 H6 hS6 => ?_
  simp only [RT] at hS6
  simp (disch := omega) only [↓RA, RZ, simprocAttr, hn, q1]
  refine hS6.aa 4 rfl [I (iA (iE ks) i).1, I (iA (iE ks) i).2] rfl rfl nI (by simp) fun H7 hS7 => ?_
  simp only [RT] at hS7
  simp (disch := omega) only [↓RA, RZ, simprocAttr, hn, g4, hS7.ld 1 rfl, hS7.ld 4 rfl, q1, e1, e2, hwd]
  refine jH (fun q2 => ?_) (fun q2 => ?_)
  ·have hb : rg.off.testBit (iA (iE ks) i).1.toNat = false := by rw [hd, e3]; exact decide_eq_false (by omega)
   simp (disch := omega) only [↓RA, RZ, simprocAttr, hn, g8, hS7.ai 4 rfl, q1, q2]
   refine hS7.cF (a2b ov Q (hS7.aw 3 rfl jL) (by omega) (iA (iE ks) i)) fun H8 hS8 => ?_
   simp (disch := omega) only [↓RA, RZ, simprocAttr, hn, q1, q2]
   refine jF (fun q3 => ?_) (fun q3 => ?_)
   ·have hs : rW rg Q (iA (iE ks) i) = Q ++ [iA (iE ks) i] := by unfold rW; rw [if_pos (by rw [hb]; simpa using q3)]
    simp (disch := omega) only [↓RA, RZ, simprocAttr, hn, g8, hS8.ai 4 rfl, q1, q2, q3]
    refine hS8.aj [I (iA (iE ks) i).1, I (iA (iE ks) i).2] rT a2N rfl rfl (by simp [Value.cells]) rfl rfl (by decide) (by decide) fun w1 H9 hS9 => ?_
    simp only [RT] at hS9
    simp (disch := omega) only [↓RA, RZ, simprocAttr, hn, q1, q2, q3]
    refine hS9.aq 3 rfl (hS9.rd 5 rfl) rT (by rw [iG]; simp; omega) fun w2 H10 hS10 => ?_
    simp only [RT] at hS10
    simp (disch := omega) only [↓RA, RZ, simprocAttr, hn, g4, g6, g18, g19, g20, q1, q2, q3]
    refine ⟨n - 1, by omega, i + 1, w2, by omega, by simp, rfl, ?_⟩
    rw [hsu, hs, jC]
    exact hS10.pick [0, 1, 2, 3] (by decide) rfl
   have hs : rW rg Q (iA (iE ks) i) = Q := by unfold rW; rw [if_neg (by rw [hb]; simpa using q3)]
   simp (disch := omega) only [↓RA, RZ, simprocAttr, hn, g4, g6, g18, g19, g20, g8, q1, q2, q3]
   refine ⟨n - 1, by omega, i + 1, ov, by omega, by simp, rfl, ?_⟩
   rw [hsu, hs]
   exact hS8.pick [0, 1, 2, 3] (by decide) rfl
  have hb : rg.off.testBit (iA (iE ks) i).1.toNat = true := by rw [hd, e3]; exact decide_eq_true (by omega)
  have hs : rW rg Q (iA (iE ks) i) = Q := by unfold rW; rw [if_neg (by rw [hb]; simp)]
  simp (disch := omega) only [↓RA, RZ, simprocAttr, hn, g4, g6, g18, g19, g20, g8, q1, q2]
  refine ⟨n - 1, by omega, i + 1, ov, by omega, by simp, rfl, ?_⟩
  rw [hsu, hs]
  exact hS7.pick [0, 1, 2, 3] (by decide) rfl
 simp (disch := omega) only [↓RA, RZ, simprocAttr, hn, g8, q1]
 have hii : i = (iE ks).length := by omega
 rw [hii, dT] at hS5
 have hqn : Que o ((iE ks).foldl (rW rg) (bfs o rg.cpl 1100 0 (kJ o rg.cpl (iE ks)))) := a7S hQ hplc
 have hql := hqn.len hf
 refine c4n hS5 3 rfl (by omega) (c1G hf hqn) fun HS hSS => ?_
 simp only [gg, fm] at hSS
 simp (disch := omega) only [↓RA, RZ, simprocAttr, hn, g8, c5k, q1]
 exact hSS.pick [3] (by decide) rfl
theorem a6T {m : Nat} {l : List Drw} (h : kU m l = 0) : l.length ≤ 8 ∧ ∀ q, q < l.length → 0 ≤ (iA l q).rank ∧ (iA l q).rank < m := by
 unfold kU at h
 split at h
 ·omega
 refine ⟨by omega, fun q hq => ?_⟩
 have e := nQ h q hq
 unfold kK at e
 split at e
 ·omega
 ·omega
def uY (o : Org) (rg : Reg) (j i : Nat) (z : Int) (k : Nat) : List Ct := if (iA rg.stops j).testBit i then ((iA (iA o.dvs j).stops i).segs.take k).flatMap fun g => qZ o g z else []
def dr3 (o : Org) (z : Int) (l : List Drw) : List Ct := (l.filter fun d => qP o.ranks d z).map fun d => mD o.ranks d z
theorem b5a (o : Org) (z : Int) (l : List Drw) : (dr3 o z l).length ≤ l.length := by
 unfold dr3
 rw [ee]
 exact dX _ _
theorem b5I (o : Org) (z : Int) (l : List Drw) (q : Nat) (h : q < l.length) : dr3 o z (l.take (q + 1)) = dr3 o z (l.take q) ++ (if qP o.ranks (iA l q) z then [mD o.ranks (iA l q) z] else []) := by
 unfold dr3
 rw [kH l q h, ez, dQ]
 congr 1
 cases e : qP o.ranks (iA l q) z <;> simp [e]
theorem b4b {o : Org} (g : Seg) (z : Int) (h : g.draws.length ≤ 8) : (qZ o g z).length ≤ 8 := by
 unfold qZ
 split
 ·exact dw (b5a o z g.draws) h
 ·simp
theorem b1j {o : Org} (z : Int) : ∀ (gs : List Seg), (∀ g ∈ gs, g.draws.length ≤ 8) → (gs.flatMap fun g => qZ o g z).length ≤ gs.length * 8
 | [], _ => by simp
 | g :: gs, h => by
   have h1 := b4b (o := o) g z (h g (dE ..))
   have h2 := b1j (o := o) z gs fun x hx => h x (dM _ hx)
   rw [dx, di, dY]
   omega
theorem b8J {o : Org} (rg : Reg) (j i : Nat) (z : Int) (k : Nat) (h : ∀ g ∈ (iA (iA o.dvs j).stops i).segs, g.draws.length ≤ 8) (h2 : (iA (iA o.dvs j).stops i).segs.length ≤ 12) : (uY o rg j i z k).length ≤ 96 := by
 unfold uY
 split
 ·have h1 := b1j (o := o) z ((iA (iA o.dvs j).stops i).segs.take k) fun g hg => h g (fS hg)
  have h3 := List.length_take_le k (iA (iA o.dvs j).stops i).segs
  have h4 : ((iA (iA o.dvs j).stops i).segs.take k).length ≤ (iA (iA o.dvs j).stops i).segs.length := by rw [fc]; omega
  omega
 ·simp
theorem a4e (o : Org) (rg : Reg) (j i : Nat) (z : Int) : tZ o rg ((j : Int), z) i = uY o rg j i z (iA (iA o.dvs j).stops i).segs.length := by
 unfold tZ uY
 simp only [eT]
 rw [dT]
theorem a3o {o : Org} (rg : Reg) (j : Nat) (z : Int) (h : ∀ i, i < (iA o.dvs j).stops.length → (uY o rg j i z (iA (iA o.dvs j).stops i).segs.length).length ≤ 96) : ∀ i, i ≤ (iA o.dvs j).stops.length → ((List.range i).flatMap (tZ o rg ((j : Int), z))).length ≤ i * 96
 | 0, _ => by simp
 | i + 1, hi => by
   have h1 := a3o rg j z h i (by omega)
   have h2 := h i (by omega)
   rw [dW, dD, di, dx, eG, dh, a4e]
   omega
theorem b3L (o : Org) (ho : o.In H) (h0 : organE o = 0) (rg : Reg) (sv : Value) (hr : rg.In H sv) (hrl : rg.stops.length = o.dvs.length) (j : Nat) (z : Int) (hc : mX o ((j : Int), z) = true) :
 Fn prog 32 [.agg #[.string o.name, o.rv, o.dv, o.cv], .agg #[sv, .int .u64 rg.cpl, .int .u64 rg.off], .agg #[I j, I z]] H fun rr H' => Slx 2 jJ H' (fun B => H.length ≤ B) rr (dd (oT (pG o rg ((j : Int), z)))) ∧ St prog H H' [] := by
 have hf := Org.aX h0
 have hcc := (mB o _).1 hc
 simp only [eT] at hcc
 have hj : j < o.dvs.length := by omega
 have hky := hf.keys j hj
 have hst := hf.stops j hj
 have hsb : ∀ i, i < (iA o.dvs j).stops.length → iA (iA o.dvs j).stops i ∈ (iA o.dvs j).stops := fun i hi => iC hi
 have hsl : ∀ i, i < (iA o.dvs j).stops.length → ∀ k, (uY o rg j i z k).length ≤ 96 := fun i hi k => b8J rg j i z k (hf.draws j hj _ (hsb i hi)) (zN h0 hj (hsb i hi)).len
 have hdl := a3o rg j z fun i hi => hsl i hi _
 refine .bp func32 rfl (by kernel_rfl) (m := 108) rfl fun l hn g0 g1 g2 => ?_
 simp (disch := omega) only [↓RA, RB, simprocAttr, g0]
 refine (sR H).eNew 4 [(.string o.name), o.rv, o.dv, o.cv] rfl rfl (by simp [OC, ((sR H).sl ho.1).cells.2.1, ((sR H).sl ho.2.2.1).cells.2.1, ((sR H).sl ho.2.2.2.2.1).cells.2.1]) mR fun A1 H1 hS1 => ?_
 simp only [RT] at hS1
 simp (disch := omega) only [↓RA, RB, simprocAttr, g1]
 refine hS1.eNew 3 [sv, (.int .u64 rg.cpl), (.int .u64 rg.off)] rfl rfl (by simp [OC, (hS1.sl hr.1).cells.2.1]) pE fun A2 H2 hS2 => ?_
 simp only [RT] at hS2
 simp (disch := omega) only [↓RA, RB, simprocAttr, g2]
 refine hS2.eNew 2 [I j, I z] rfl rfl rfl nI fun A3 H3 hS3 => ?_
 simp only [RT] at hS3
 simp (disch := omega) only [↓RA, RZ, simprocAttr, hn, hS3.ld 0 rfl, hS3.ld 2 rfl, (hS3.sl ho.2.2.1).idx, (hS3.sl ho.2.2.1).bb, (hS3.sl ho.2.2.1).ld, Dvn.cells, (hS3.sl (ho.2.2.2.1 (iA o.dvs j) (iC (by omega))).1).len]
 have hS4 := hS3.nil 1
 simp only [RT] at hS4
 refine Wp.ak (fun n l H' => l.length = 108 ∧ get l 3 = (ptr A1 0 4) ∧ get l 4 = (ptr A2 0 3) ∧ get l 5 = (ptr A3 0 2) ∧ get l 6 = (.slice none 0 0) ∧ get l 21 = (iA o.dvs j).sv ∧ get l 22 = I (iA o.dvs j).stops.length ∧ ∃ (i : Nat) (ov : Value), (n + i = (iA o.dvs j).stops.length) ∧ get l 23 = I i ∧ get l 7 = ov ∧ St prog H H' [⟨ptr A1 0 4, 0, [(.string o.name), o.rv, o.dv, o.cv]⟩, ⟨ptr A2 0 3, 0, [sv, (.int .u64 rg.cpl), (.int .u64 rg.off)]⟩, ⟨ptr A3 0 2, 0, [I j, I z]⟩, ⟨ov, 2, pr ((List.range i).flatMap (tZ o rg ((j : Int), z)))⟩]) (iA o.dvs j).stops.length ?_ ?_
 ·simp (disch := omega) only [RB, RC, simprocAttr, hn]
  exact ⟨0, .slice none 0 0, by omega, rfl, rfl, hS4⟩
 rintro n l H4 ⟨hn, g3, g4, g5, g6, g21, g22, i, ov, hi, g23, g7, hS5⟩
 simp (disch := omega) only [↓RA, RB, simprocAttr, hn, g22, g23]
 refine hK (fun q1 => ?_) (fun q1 => ?_)
 ·have hil : i < (iA o.dvs j).stops.length := by omega
  have hso := zN h0 hj (hsb i hil)
  have hsu : (List.range (i + 1)).flatMap (tZ o rg ((j : Int), z)) = (List.range i).flatMap (tZ o rg ((j : Int), z)) ++ uY o rg j i z (iA (iA o.dvs j).stops i).segs.length := by
   rw [dW, dD, dx, eG, dh, a4e]
  have hpl := hdl i (by omega)
  have hsn : (iA (iA o.dvs j).stops i).segs.length < 1000000000 := ((ho.2.2.2.1 _ (iC hj)).2.1 _ (hsb i hil)).2.2
  have e1 := zX (iA rg.stops j) i (hr.2.2.1 _ (iC (by omega)))
  have e2 := yJ ((iA rg.stops j) >>> i) (tD _ (hr.2.2.1 _ (iC (by omega))))
  have e3 := tb (iA rg.stops j) i
  simp (disch := omega) only [↓RA, RZ, simprocAttr, hn, g21, g23, (hS5.sl (ho.2.2.2.1 (iA o.dvs j) (iC (by omega))).1).idx, (hS5.sl (ho.2.2.2.1 (iA o.dvs j) (iC (by omega))).1).ai, Stp.cells, q1]
  refine hS5.eNew 4 [(.string ⟨#[]⟩), I 0, I 0, (.slice none 0 0)] rfl rfl rfl nR fun A4 H5 hS6 => ?_
  simp only [RT] at hS6
  simp (disch := omega) only [↓RA, RZ, simprocAttr, hn, q1]
  refine hS6.aa 4 rfl [(.string (iA (iA o.dvs j).stops i).name), I (iA (iA o.dvs j).stops i).num, I (iA (iA o.dvs j).stops i).den, (iA (iA o.dvs j).stops i).gv] rfl (by simp [OC, (hS6.sl ((ho.2.2.2.1 (iA o.dvs j) (iC (by omega))).2.1 (iA (iA o.dvs j).stops i) (iC (by omega))).1).cells.2.1]) nR (by simp) fun H6 hS7 => ?_
  simp only [RT] at hS7
  simp (disch := omega) only [↓RA, RZ, simprocAttr, hn, hS7.ld 4 rfl, (hS7.sl ((ho.2.2.2.1 (iA o.dvs j) (iC (by omega))).2.1 (iA (iA o.dvs j).stops i) (iC (by omega))).1).len, q1]
  refine Wp.ak (fun n l H' => l.length = 108 ∧ get l 3 = (ptr A1 0 4) ∧ get l 4 = (ptr A2 0 3) ∧ get l 5 = (ptr A3 0 2) ∧ get l 6 = (.slice none 0 0) ∧ get l 8 = I i ∧ get l 21 = (iA o.dvs j).sv ∧ get l 22 = I (iA o.dvs j).stops.length ∧ get l 23 = I i ∧ get l 29 = (iA (iA o.dvs j).stops i).gv ∧ get l 30 = I (iA (iA o.dvs j).stops i).segs.length ∧ ∃ (k : Nat) (ow : Value), (n + k = (iA (iA o.dvs j).stops i).segs.length) ∧ get l 31 = I k ∧ get l 7 = ow ∧ St prog H H' [⟨ptr A1 0 4, 0, [(.string o.name), o.rv, o.dv, o.cv]⟩, ⟨ptr A2 0 3, 0, [sv, (.int .u64 rg.cpl), (.int .u64 rg.off)]⟩, ⟨ptr A3 0 2, 0, [I j, I z]⟩, ⟨ow, 2, pr ((List.range i).flatMap (tZ o rg ((j : Int), z)) ++ uY o rg j i z k)⟩, ⟨ptr A4 0 4, 0, [(.string (iA (iA o.dvs j).stops i).name), I (iA (iA o.dvs j).stops i).num, I (iA (iA o.dvs j).stops i).den, (iA (iA o.dvs j).stops i).gv]⟩]) (iA (iA o.dvs j).stops i).segs.length ?_ ?_
  ·simp (disch := omega) only [RB, RC, simprocAttr, hn, g3, g4, g5, g6, g21, g22, g23, g7]
   refine ⟨0, ov, by omega, rfl, rfl, ?_⟩
   rw [show uY o rg j i z 0 = [] from by unfold uY; split <;> rfl, dh]
   exact hS7
  rintro n l H7 ⟨hn, g3, g4, g5, g6, g8, g21, g22, g23, g29, g30, k, ow, hk, g31, g7, hS8⟩
  simp (disch := omega) only [↓RA, RB, simprocAttr, hn, g30, g31]
  refine hK (fun q2 => ?_) (fun q2 => ?_)
  ·have hkl : k < (iA (iA o.dvs j).stops i).segs.length := by omega
   have hsk := hsl i hil k
   have hgd := hso.draws k hkl
   have hgd2 := a6T hgd
   simp (disch := omega) only [↓RA, RZ, simprocAttr, hn, g29, g31, (hS8.sl ((ho.2.2.2.1 (iA o.dvs j) (iC (by omega))).2.1 (iA (iA o.dvs j).stops i) (iC (by omega))).1).idx, (hS8.sl ((ho.2.2.2.1 (iA o.dvs j) (iC (by omega))).2.1 (iA (iA o.dvs j).stops i) (iC (by omega))).1).ai, Seg.cells, q2]
   refine hS8.eNew 3 [I 0, I 0, (.slice none 0 0)] rfl rfl rfl xQ fun A5 H8 hS9 => ?_
   simp only [RT] at hS9
   simp (disch := omega) only [↓RA, RZ, simprocAttr, hn, q2]
   refine hS9.aa 5 rfl [I (iA (iA (iA o.dvs j).stops i).segs k).lo, I (iA (iA (iA o.dvs j).stops i).segs k).hi, (iA (iA (iA o.dvs j).stops i).segs k).dv] rfl (by simp [OC, (hS9.sl (((ho.2.2.2.1 (iA o.dvs j) (iC (by omega))).2.1 (iA (iA o.dvs j).stops i) (iC (by omega))).2.1 (iA (iA (iA o.dvs j).stops i).segs k) (iC (by omega))).1).cells.2.1]) xQ (by simp) fun H9 hS10 => ?_
   simp only [RT] at hS10
   simp (disch := omega) only [↓RA, RZ, simprocAttr, hn, g4, g5, g8, hS10.ld 1 rfl, hS10.ld 2 rfl, (hS10.sl hr.1).idx, (hS10.sl hr.1).ld, one, u64, q2, e1, e2]
   refine iL (fun q3 => ?_) (fun q3 => ?_)
   ·have hb : (iA rg.stops j).testBit i = false := by rw [e3]; exact decide_eq_false (by omega)
    have hsg : ∀ k, uY o rg j i z k = [] := fun k => by unfold uY; rw [if_neg (by rw [hb]; simp)]
    simp (disch := omega) only [↓RA, RZ, simprocAttr, hn, g3, g4, g5, g6, g8, g21, g22, g23, g29, g30, g31, g7, q2, q3]
    refine ⟨n - 1, by omega, k + 1, ow, by omega, by simp, rfl, ?_⟩
    rw [hsg, ← hsg k]
    exact hS10.pick [0, 1, 2, 3, 4] (by decide) rfl
   have hb : (iA rg.stops j).testBit i = true := by rw [e3]; exact decide_eq_true (by omega)
   have hsg : uY o rg j i z (k + 1) = uY o rg j i z k ++ qZ o (iA (iA (iA o.dvs j).stops i).segs k) z := by
    unfold uY
    rw [if_pos hb, if_pos hb, List.take_add_one, dj hkl, Option.toList_some, ← jN _ k hkl, dD, dx, eG, dh]
   simp (disch := omega) only [↓RA, RZ, simprocAttr, hn, g5, hS10.ld 2 rfl, hS10.ld 5 rfl, q2, q3]
   refine iL (fun q4 => ?_) (fun q4 => ?_)
   ·have hd1 : qZ o (iA (iA (iA o.dvs j).stops i).segs k) z = [] := by unfold qZ; rw [if_neg (by omega)]
    simp (disch := omega) only [↓RA, RZ, simprocAttr, hn, g3, g4, g5, g6, g8, g21, g22, g23, g29, g30, g31, g7, q2, q3, q4]
    refine ⟨n - 1, by omega, k + 1, ow, by omega, by simp, rfl, ?_⟩
    rw [hsg, hd1, dh]
    exact hS10.pick [0, 1, 2, 3, 4] (by decide) rfl
   simp (disch := omega) only [↓RA, RZ, simprocAttr, hn, g5, hS10.ld 2 rfl, hS10.ld 5 rfl, q2, q3, q4]
   refine hK (fun q5 => ?_) (fun q5 => ?_)
   ·have hd1 : qZ o (iA (iA (iA o.dvs j).stops i).segs k) z = [] := by unfold qZ; rw [if_neg (by omega)]
    simp (disch := omega) only [↓RA, RZ, simprocAttr, hn, g3, g4, g5, g6, g8, g21, g22, g23, g29, g30, g31, g7, q2, q3, q4, q5]
    refine ⟨n - 1, by omega, k + 1, ow, by omega, by simp, rfl, ?_⟩
    rw [hsg, hd1, dh]
    exact hS10.pick [0, 1, 2, 3, 4] (by decide) rfl
   have hd1 : qZ o (iA (iA (iA o.dvs j).stops i).segs k) z = dr3 o z (iA (iA (iA o.dvs j).stops i).segs k).draws := by unfold qZ; rw [if_pos (by omega)]; rfl
   have hsm2 : (uY o rg j i z k).length ≤ 96 := hsk
   simp (disch := omega) only [↓RA, RZ, simprocAttr, hn, hS10.ld 5 rfl, (hS10.sl (((ho.2.2.2.1 (iA o.dvs j) (iC (by omega))).2.1 (iA (iA o.dvs j).stops i) (iC (by omega))).2.1 (iA (iA (iA o.dvs j).stops i).segs k) (iC (by omega))).1).len, q2, q3, q4, q5]
   refine Wp.ak (fun n l H' => l.length = 108 ∧ get l 3 = (ptr A1 0 4) ∧ get l 4 = (ptr A2 0 3) ∧ get l 5 = (ptr A3 0 2) ∧ get l 6 = (.slice none 0 0) ∧ get l 8 = I i ∧ get l 21 = (iA o.dvs j).sv ∧ get l 22 = I (iA o.dvs j).stops.length ∧ get l 23 = I i ∧ get l 29 = (iA (iA o.dvs j).stops i).gv ∧ get l 30 = I (iA (iA o.dvs j).stops i).segs.length ∧ get l 31 = I k ∧ get l 61 = (iA (iA (iA o.dvs j).stops i).segs k).dv ∧ get l 62 = I (iA (iA (iA o.dvs j).stops i).segs k).draws.length ∧ ∃ (q : Nat) (oy : Value), (n + q = (iA (iA (iA o.dvs j).stops i).segs k).draws.length) ∧ get l 63 = I q ∧ get l 7 = oy ∧ St prog H H' [⟨ptr A1 0 4, 0, [(.string o.name), o.rv, o.dv, o.cv]⟩, ⟨ptr A2 0 3, 0, [sv, (.int .u64 rg.cpl), (.int .u64 rg.off)]⟩, ⟨ptr A3 0 2, 0, [I j, I z]⟩, ⟨oy, 2, pr ((List.range i).flatMap (tZ o rg ((j : Int), z)) ++ uY o rg j i z k ++ dr3 o z ((iA (iA (iA o.dvs j).stops i).segs k).draws.take q))⟩, ⟨ptr A4 0 4, 0, [(.string (iA (iA o.dvs j).stops i).name), I (iA (iA o.dvs j).stops i).num, I (iA (iA o.dvs j).stops i).den, (iA (iA o.dvs j).stops i).gv]⟩, ⟨ptr A5 0 3, 0, [I (iA (iA (iA o.dvs j).stops i).segs k).lo, I (iA (iA (iA o.dvs j).stops i).segs k).hi, (iA (iA (iA o.dvs j).stops i).segs k).dv]⟩]) (iA (iA (iA o.dvs j).stops i).segs k).draws.length ?_ ?_
   ·simp (disch := omega) only [RB, RC, simprocAttr, hn, g3, g4, g5, g6, g8, g21, g22, g23, g29, g30, g31, g7]
    refine ⟨0, ow, by omega, rfl, rfl, ?_⟩
    rw [List.take_zero, show dr3 o z [] = [] from rfl, dh]
    exact hS10
   rintro n l H10 ⟨hn, g3, g4, g5, g6, g8, g21, g22, g23, g29, g30, g31, g61, g62, q, oy, hq, g63, g7, hS11⟩
   simp (disch := omega) only [↓RA, RB, simprocAttr, hn, g62, g63]
   refine hK (fun q6 => ?_) (fun q6 => ?_)
   ·have hql : q < (iA (iA (iA o.dvs j).stops i).segs k).draws.length := by omega
    have hdr := hgd2.2 q hql
    obtain ⟨e, he⟩ : ∃ e : Nat, (iA (iA (iA (iA o.dvs j).stops i).segs k).draws q).rank = e := ⟨(iA (iA (iA (iA o.dvs j).stops i).segs k).draws q).rank.toNat, by omega⟩
    have hel : e < o.ranks.length := by omega
    have hd3 := b5I o z (iA (iA (iA o.dvs j).stops i).segs k).draws q hql
    have hd3l := b5a o z ((iA (iA (iA o.dvs j).stops i).segs k).draws.take q)
    have hwl : (iA o.ranks e).wind.length < 1000000000 := (ho.2.1 _ (iC hel)).2
    have htl := List.length_take_le q (iA (iA (iA o.dvs j).stops i).segs k).draws
    have hp1 : mD o.ranks (iA (iA (iA (iA o.dvs j).stops i).segs k).draws q) z = ((e : Int), oK (oK (z + (iA (iA (iA (iA o.dvs j).stops i).segs k).draws q).shift) - (iA o.ranks e).first)) := by
     unfold mD
     rw [if_neg (by omega), he]
     rfl
    have hhp : qP o.ranks (iA (iA (iA (iA o.dvs j).stops i).segs k).draws q) z = (decide (0 ≤ oK (oK (z + (iA (iA (iA (iA o.dvs j).stops i).segs k).draws q).shift) - (iA o.ranks e).first)) && decide (oK (oK (z + (iA (iA (iA (iA o.dvs j).stops i).segs k).draws q).shift) - (iA o.ranks e).first) < (iA o.ranks e).wind.length)) := by
     unfold qP
     rw [hp1, decide_eq_false (by omega), he]
     rfl
    simp (disch := omega) only [↓RA, RZ, simprocAttr, hn, g61, g63, (hS11.sl (((ho.2.2.2.1 (iA o.dvs j) (iC (by omega))).2.1 (iA (iA o.dvs j).stops i) (iC (by omega))).2.1 (iA (iA (iA o.dvs j).stops i).segs k) (iC (by omega))).1).idx, (hS11.sl (((ho.2.2.2.1 (iA o.dvs j) (iC (by omega))).2.1 (iA (iA o.dvs j).stops i) (iC (by omega))).2.1 (iA (iA (iA o.dvs j).stops i).segs k) (iC (by omega))).1).ai, Drw.cells, q6]
    refine hS11.eNew 2 [I 0, I 0] rfl rfl rfl vX fun A6 H11 hS12 => ?_
    simp only [RT] at hS12
    simp (disch := omega) only [↓RA, RZ, simprocAttr, hn, q6]
    refine hS12.aa 6 rfl [I (iA (iA (iA (iA o.dvs j).stops i).segs k).draws q).rank, I (iA (iA (iA (iA o.dvs j).stops i).segs k).draws q).shift] rfl rfl vX (by simp) fun H12 hS13 => ?_
    simp only [RT] at hS13
    simp (disch := omega) only [↓RA, RZ, simprocAttr, q6]
    refine Wp.drw kF (by kernel_rfl) ?_
    simp (disch := omega) only [↓RA, RZ, simprocAttr, hn, g3, g5, hS13.ld 2 rfl, hS13.ld 6 rfl, hS13.ld 0 rfl]
    simp (disch := omega) only [↓RA, RZ, simprocAttr, hn, (hS13.sl ho.1).idx, (hS13.sl ho.1).bb, (hS13.sl ho.1).ld, Rk.cells, he]
    refine jH (fun q7 => ?_) (fun q7 => ?_)
    ·simp (disch := omega) only [↓RA, RZ, simprocAttr, hn, g3, hS13.ld 0 rfl, hS13.ld 6 rfl, (hS13.sl ho.1).idx, (hS13.sl ho.1).bb, (hS13.sl ho.1).ld, Rk.cells, (hS13.sl (ho.2.1 (iA o.ranks e) (iC (by omega))).1).len, he, q7]
     refine hK (fun q8 => ?_) (fun q8 => ?_)
     ·have hht : qP o.ranks (iA (iA (iA (iA o.dvs j).stops i).segs k).draws q) z = true := by rw [hhp, decide_eq_true (by omega), decide_eq_true (by omega)]; rfl
      simp (disch := omega) only [↓RA, RZ, simprocAttr, hn, g7, hS13.ld 6 rfl, zA, he, q7, q8]
      refine hS13.aj [I e, I (oK (oK (z + (iA (iA (iA (iA o.dvs j).stops i).segs k).draws q).shift) - (iA o.ranks e).first))] a2E b7u rfl rfl (by simp [Value.cells]) rfl rfl (by decide) (by decide) fun w1 H13 hS14 => ?_
      simp only [RT] at hS14
      simp (disch := omega) only [↓RA, RZ, simprocAttr, hn, he, q7, q8]
      refine hS14.aq 3 rfl (hS14.rd 7 rfl) a2E (by rw [iG, di, di]; simp only [dY, eK]; omega) fun w2 H14 hS15 => ?_
      simp only [RT] at hS15
      simp (disch := omega) only [↓RA, RZ, simprocAttr, hn, g3, g4, g5, g6, g8, g21, g22, g23, g29, g30, g31, g61, g62, g63, he, q7, q8]
      refine ⟨n - 1, by omega, q + 1, w2, by omega, by simp, rfl, ?_⟩
      rw [hd3, hht, if_pos rfl, hp1, ← ed, jC]
      exact hS15.pick [0, 1, 2, 3, 4, 5] (by decide) rfl
     have hhf : qP o.ranks (iA (iA (iA (iA o.dvs j).stops i).segs k).draws q) z = false := by rw [hhp, decide_eq_false (show ¬ oK (oK (z + (iA (iA (iA (iA o.dvs j).stops i).segs k).draws q).shift) - (iA o.ranks e).first) < _ by omega), Bool.and_false]
     simp (disch := omega) only [↓RA, RZ, simprocAttr, hn, g3, g4, g5, g6, g8, g21, g22, g23, g29, g30, g31, g61, g62, g63, g7, he, q7, q8]
     refine ⟨n - 1, by omega, q + 1, oy, by omega, by simp, rfl, ?_⟩
     rw [hd3, hhf, if_neg (by simp), dh]
     exact hS13.pick [0, 1, 2, 3, 4, 5] (by decide) rfl
    have hhf : qP o.ranks (iA (iA (iA (iA o.dvs j).stops i).segs k).draws q) z = false := by rw [hhp, decide_eq_false (show ¬ 0 ≤ oK (oK (z + (iA (iA (iA (iA o.dvs j).stops i).segs k).draws q).shift) - (iA o.ranks e).first) by omega), fx]
    simp (disch := omega) only [↓RA, RZ, simprocAttr, hn, g3, g4, g5, g6, g8, g21, g22, g23, g29, g30, g31, g61, g62, g63, g7, he, q7]
    refine ⟨n - 1, by omega, q + 1, oy, by omega, by simp, rfl, ?_⟩
    rw [hd3, hhf, if_neg (by simp), dh]
    exact hS13.pick [0, 1, 2, 3, 4, 5] (by decide) rfl
   simp (disch := omega) only [↓RA, RZ, simprocAttr, hn, g3, g4, g5, g6, g8, g21, g22, g23, g29, g30, g31, g7, q6]
   have hqq : q = (iA (iA (iA o.dvs j).stops i).segs k).draws.length := by omega
   refine ⟨(iA (iA o.dvs j).stops i).segs.length - (k + 1), by omega, k + 1, oy, by omega, by simp, rfl, ?_⟩
   rw [hsg, hd1, ← ed]
   rw [hqq, dT] at hS11
   exact hS11.pick [0, 1, 2, 3, 4] (by decide) rfl
  simp (disch := omega) only [↓RA, RZ, simprocAttr, hn, g3, g4, g5, g6, g21, g22, g23, g7, q2]
  have hkk : k = (iA (iA o.dvs j).stops i).segs.length := by omega
  refine ⟨(iA o.dvs j).stops.length - (i + 1), by omega, i + 1, ow, by omega, by simp, rfl, ?_⟩
  rw [hsu, ← hkk]
  exact hS8.pick [0, 1, 2, 3] (by decide) rfl
 simp (disch := omega) only [↓RA, RZ, simprocAttr, hn, g7, q1]
 have hii : i = (iA o.dvs j).stops.length := by omega
 rw [hii] at hS5
 have hdl2 := hdl _ (de _)
 have hc2 : mX o ((j : Int), z) = true := hc
 have hd3e : (List.range (iA o.dvs j).stops.length).flatMap (tZ o rg ((j : Int), z)) = pG o rg ((j : Int), z) := by unfold pG; rfl
 rw [hd3e] at hS5
 rw [hd3e] at hdl2
 have hsm : ∀ x ∈ pG o rg ((j : Int), z), sm x := fun x hx => (a1t ((vM h0 hc2).1 hx)).small hf ho
 refine b9Y hS5 3 rfl (by omega) hsm fun HS hSS => ?_
 simp only [gg, fm] at hSS
 simp (disch := omega) only [↓RA, RZ, simprocAttr, hn, g7, q1]
 have hM1 := hSS.pick (os' := [⟨ov, 2, _⟩]) [3] (by decide) rfl
 have hR1 := hSS.pick (os' := [⟨ov, 2, _⟩, ⟨ptr A1 0 4, 0, _⟩, ⟨ptr A2 0 3, 0, _⟩, ⟨ptr A3 0 2, 0, _⟩]) [3, 0, 1, 2] (by decide) rfl
 refine iF (rC hM1.aD (by rw [lZ]; omega)) ?_
 rintro r H15 ⟨rest, hb, hrd, hT1⟩
 have hS16 := hR1.frame hT1
 simp only [RT] at hS16
 have hrr := hrd _ (hS16.rd 0 rfl)
 have hrc := hrr.cells
 simp (disch := omega) only [↓RA, RZ, simprocAttr, hn, c5y, q1]
 refine ⟨⟨⟨hrr, jL, by decide⟩, fun b h => ?_⟩, hS16.forget⟩
 rcases hS16.new _ (dE ..) b (hb b h) with h | h
 ·exact h
 ·exact h.elim
theorem a8O (o : Org) (ho : o.In H) (h0 : organE o = 0) (rg : Reg) (sv : Value) (hr : rg.In H sv) (hrl : rg.stops.length = o.dvs.length) (c : Ct) (hc : mX o c = true) :
 Fn prog 32 [.agg #[.string o.name, o.rv, o.dv, o.cv], .agg #[sv, .int .u64 rg.cpl, .int .u64 rg.off], .agg #[I c.1, I c.2]] H fun rr H' => Slx 2 jJ H' (fun B => H.length ≤ B) rr (dd (oT (pG o rg c))) ∧ St prog H H' [] := by
 obtain ⟨d, z⟩ := c
 have h := (mB o _).1 hc
 obtain ⟨j, rfl⟩ := fG h.1
 exact b3L o ho h0 rg sv hr hrl j z hc
theorem b3J {o : Org} (h0 : organE o = 0) (rg : Reg) {c : Ct} (hc : mX o c = true) : (dd (oT (pG o rg c))).length ≤ 480 := by
 rw [b7W h0 hc]
 have h1 := b1b (oT (mV o rg c))
 rw [lZ] at h1
 exact dw h1 (a3s (Org.aX h0) rg hc)
theorem b0X {o : Org} (h0 : organE o = 0) (rg : Reg) : ∀ (l : List Ct), (∀ c ∈ l, mX o c = true) → (l.flatMap fun c => dd (oT (pG o rg c))).length ≤ l.length * 480
 | [], _ => by simp
 | c :: l, h => by
   have h1 := b3J h0 rg (h c (dE ..))
   have h2 := b0X h0 rg l fun x hx => h x (dM _ hx)
   rw [dx, di, dY]
   omega
theorem vW (o : Org) (ho : o.In H) (h0 : organE o = 0) (rg : Reg) (sv : Value) (hr : rg.In H sv) (hrl : rg.stops.length = o.dvs.length) (kv : Value) (ks : List Nt) (hk : Ks H kv ks) (hke : nY o ks = 0) :
 Fn prog 25 [.agg #[.string o.name, o.rv, o.dv, o.cv], .agg #[sv, .int .u64 rg.cpl, .int .u64 rg.off], kv] H fun rr H' => Slx 2 jJ H' (fun B => H.length ≤ B) rr (kD o rg (iE ks)) ∧ St prog H H' [] := by
 have hf := Org.aX h0
 have hplc := qE hk.ok hke
 have hpll := qD hke
 have hsc := oS (o := o) (rg := rg) hplc
 have hsl := wS hf (rg := rg) hpll
 have hsp : dd (oT ((jX o rg (iE ks)).flatMap fun c => dd (oT (pG o rg c)))) = kD o rg (iE ks) := b6j h0 hsc
 have hsm : ∀ x ∈ (jX o rg (iE ks)).flatMap (fun c => dd (oT (pG o rg c))), sm x := fun x hx => by
  obtain ⟨c, hc, hx⟩ := dS.1 hx
  exact (a1t ((vM h0 (hsc c hc)).1 (sY.1 hx))).small hf ho
 have hle : ∀ i, (((jX o rg (iE ks)).take i).flatMap fun c => dd (oT (pG o rg c))).length ≤ 2048 * 480 := fun i => by
  have h1 := b0X h0 rg ((jX o rg (iE ks)).take i) fun c hc => hsc c (fS hc)
  have h2 : ((jX o rg (iE ks)).take i).length ≤ (jX o rg (iE ks)).length := by rw [fc]; omega
  exact dw h1 (dF _ (by omega))
 rw [← hsp]
 refine .bp func25 rfl (by kernel_rfl) (m := 30) rfl fun l hn g0 g1 g2 => ?_
 simp (disch := omega) only [↓RA, RB, simprocAttr, g0]
 refine (sR H).eNew 4 [(.string o.name), o.rv, o.dv, o.cv] rfl rfl (by simp [OC, ((sR H).sl ho.1).cells.2.1, ((sR H).sl ho.2.2.1).cells.2.1, ((sR H).sl ho.2.2.2.2.1).cells.2.1]) mR fun A1 H1 hS1 => ?_
 simp only [RT] at hS1
 simp (disch := omega) only [↓RA, RB, simprocAttr, g1]
 refine hS1.eNew 3 [sv, (.int .u64 rg.cpl), (.int .u64 rg.off)] rfl rfl (by simp [OC, (hS1.sl hr.1).cells.2.1]) pE fun A2 H2 hS2 => ?_
 simp only [RT] at hS2
 simp (disch := omega) only [↓RA, RZ, simprocAttr, hn, g2, hS2.ai 0 rfl, hS2.ai 1 rfl]
 refine iF ((a2S o (ho.ag hS2) hf rg sv (hr.ag hS2) kv ks (hk.ag hS2) hke).tr) ?_
 rintro r H3 ⟨-, hT1⟩
 have hS3 := hS2.trans hT1
 simp only [RT] at hS3
 obtain ⟨cv, rfl⟩ : ∃ w, w = r := ⟨r, rfl⟩
 simp (disch := omega) only [↓RA, RZ, simprocAttr, hn, (hS3.aw 2 rfl jL).len]
 have hS4 := hS3.nil 1
 simp only [RT] at hS4
 refine Wp.ak (fun n l H' => l.length = 30 ∧ get l 3 = (ptr A1 0 4) ∧ get l 4 = (ptr A2 0 3) ∧ get l 6 = (.slice none 0 0) ∧ get l 13 = cv ∧ get l 14 = I (jX o rg (iE ks)).length ∧ ∃ (i : Nat) (ov : Value), (n + i = (jX o rg (iE ks)).length) ∧ get l 15 = I i ∧ get l 7 = ov ∧ St prog H H' [⟨ptr A1 0 4, 0, [(.string o.name), o.rv, o.dv, o.cv]⟩, ⟨ptr A2 0 3, 0, [sv, (.int .u64 rg.cpl), (.int .u64 rg.off)]⟩, ⟨cv, 2, pr (jX o rg (iE ks))⟩, ⟨ov, 2, pr (((jX o rg (iE ks)).take i).flatMap fun c => dd (oT (pG o rg c)))⟩]) (jX o rg (iE ks)).length ?_ ?_
 ·simp (disch := omega) only [RB, RC, simprocAttr, hn]
  exact ⟨0, .slice none 0 0, by omega, rfl, rfl, hS4⟩
 rintro n l H4 ⟨hn, g3, g4, g6, g13, g14, i, ov, hi, g15, g7, hS5⟩
 simp (disch := omega) only [↓RA, RB, simprocAttr, hn, g14, g15]
 refine hK (fun q1 => ?_) (fun q1 => ?_)
 ·have hci := hsc _ (iC (xs := jX o rg (iE ks)) (j := i) (by omega))
  have htk := kH (jX o rg (iE ks)) i (by omega)
  have hli := hle i
  have hl1 := b3J h0 rg hci
  simp (disch := omega) only [↓RA, RZ, simprocAttr, hn, g13, g15, (hS5.aw 2 rfl jL).idx, (hS5.aw 2 rfl jL).ai, jJ, q1]
  refine hS5.eNew 2 [I 0, I 0] rfl rfl rfl nI fun A3 H5 hS6 => ?_
  simp only [RT] at hS6
  simp (disch := omega) only [↓RA, RZ, simprocAttr, hn, q1]
  refine hS6.aa 4 rfl [I (iA (jX o rg (iE ks)) i).1, I (iA (jX o rg (iE ks)) i).2] rfl rfl nI (by simp) fun H6 hS7 => ?_
  simp only [RT] at hS7
  simp (disch := omega) only [↓RA, RZ, simprocAttr, hn, g3, g4, g7, hS7.ai 0 rfl, hS7.ai 1 rfl, hS7.ai 4 rfl, q1]
  refine iF (a8O o (ho.ag hS7) h0 rg sv (hr.ag hS7) hrl (iA (jX o rg (iE ks)) i) hci) ?_
  rintro r H7 ⟨hqx, hT2⟩
  have hS8 := hS7.trans hT2
  simp only [RT] at hS8
  obtain ⟨qv, rfl⟩ : ∃ w, w = r := ⟨r, rfl⟩
  simp (disch := omega) only [↓RA, RZ, simprocAttr, hn, q1]
  refine hS8.aq 3 rfl hqx.1.rd a2E (by rw [iG, show ((dd (oT (pG o rg (iA (jX o rg (iE ks)) i)))).flatMap jJ).length = (dd (oT (pG o rg (iA (jX o rg (iE ks)) i)))).length * 2 from iG _]; omega) fun w1 H8 hS9 => ?_
  simp only [RT] at hS9
  simp (disch := omega) only [↓RA, RZ, simprocAttr, hn, g3, g4, g6, g13, g14, g15, q1]
  refine ⟨n - 1, by omega, i + 1, w1, by omega, by simp, rfl, ?_⟩
  rw [htk, dD, jC, dx, eG, dh]
  exact hS9.pick [0, 1, 2, 3] (by decide) rfl
 simp (disch := omega) only [↓RA, RZ, simprocAttr, hn, g7, q1]
 have hii : i = (jX o rg (iE ks)).length := by omega
 have hli := hle i
 rw [hii, dT] at hS5
 rw [hii, dT] at hli
 refine b9Y hS5 3 rfl (by omega) hsm fun HS hSS => ?_
 simp only [gg, fm] at hSS
 simp (disch := omega) only [↓RA, RZ, simprocAttr, hn, g7, q1]
 have hM1 := hSS.pick (os' := [⟨ov, 2, _⟩]) [3] (by decide) rfl
 have hR1 := hSS.pick (os' := [⟨ov, 2, _⟩, ⟨ptr A1 0 4, 0, _⟩, ⟨ptr A2 0 3, 0, _⟩, ⟨cv, 2, _⟩]) [3, 0, 1, 2] (by decide) rfl
 refine iF (rC hM1.aD (by rw [lZ]; omega)) ?_
 rintro r H9 ⟨rest, hb, hrd, hT3⟩
 have hS10 := hR1.frame hT3
 simp only [RT] at hS10
 have hrr := hrd _ (hS10.rd 0 rfl)
 have hrc := hrr.cells
 simp (disch := omega) only [↓RA, RZ, simprocAttr, hn, c6g, q1]
 refine ⟨⟨⟨hrr, jL, by decide⟩, fun b h => ?_⟩, hS10.forget⟩
 rcases hS10.new _ (dE ..) b (hb b h) with h | h
 ·exact h
 ·exact h.elim
theorem b0g (v : Value) (xs : List Ct) (hv : Sl 2 jJ H v xs) (hl : xs.length < 1000000000) (d : Ct) :
 Fn prog 104 [v, .agg #[I d.1, I d.2]] H fun r H' => r = I (mI (fun j => decide (iA xs j = d)) xs.length) ∧ St prog H H' [] := by
 refine .aF func104 rfl (by kernel_rfl) (m := 19) rfl fun l hn g0 g1 => ?_
 simp (disch := omega) only [↓RA, RB, simprocAttr, g1]
 refine (sR H).eNew 2 [I d.1, I d.2] rfl rfl rfl pH fun A1 H1 hS1 => ?_
 simp only [RT] at hS1
 simp (disch := omega) only [↓RA, RZ, simprocAttr, hn, g0, (hS1.sl hv).len]
 refine Wp.ak (fun n l H' => l.length = 19 ∧ get l 0 = v ∧ get l 3 = (ptr A1 0 2) ∧ get l 7 = I xs.length ∧ ∃ (j : Nat), (n + j = xs.length ∧ ∀ q, q < j → decide (iA xs q = d) = false) ∧ get l 8 = I j ∧ St prog H H' [⟨ptr A1 0 2, 0, [I d.1, I d.2]⟩]) xs.length ?_ ?_
 ·simp (disch := omega) only [RB, RC, simprocAttr, hn, g0]
  exact ⟨0, ⟨by omega, fun q hq => absurd hq (dH _)⟩, rfl, hS1⟩
 rintro n l H2 ⟨hn, g0, g3, g7, j, ⟨hi,h0⟩, g8, hS2⟩
 simp (disch := omega) only [↓RA, RB, simprocAttr, hn, g7, g8]
 refine hK (fun h => ?_) (fun h => ?_)
 ·simp (disch := omega) only [↓RA, RZ, simprocAttr, hn, g8, h]
  refine Wp.drw kF (by kernel_rfl) ?_
  simp (disch := omega) only [↓RA, RZ, simprocAttr, hn, g0, g3, hS2.ai 0 rfl, (hS2.sl hv).idx, (hS2.sl hv).ai, jJ]
  refine hK (fun hp => ?_) (fun hp => ?_)
  ·simp (disch := omega) only [↓RA, RZ, simprocAttr, hn, b9D, hp]
   exact ⟨by rw [sZ _ xs.length j (by omega) (by simpa using (Ct.cI _ _).1 hp) h0], hS2.forget⟩
  simp (disch := omega) only [↓RA, RZ, simprocAttr, hn, g0, g3, g7, g8, hp]
  exact ⟨n - 1, by omega, j + 1, ⟨by omega, fun q hq => by rcases dm.1 hq with e | e; (· exact h0 q e); (· rw [e]; simpa using fun hh => hp ((Ct.cI _ _).2 hh))⟩, by simp, hS2⟩
 simp (disch := omega) only [↓RA, RZ, simprocAttr, hn, b9D, h]
 exact ⟨by rw [sS _ xs.length fun q hq => h0 q (by omega)], hS2.forget⟩
theorem b3W (v : Value) (xs : List Ct) (hv : Sl 2 jJ H v xs) (hl : xs.length < 1000000000) (d : Ct) :
 Fn prog 61 [v, .agg #[I d.1, I d.2]] H fun r H' => r = .bool (decide (d ∈ xs)) ∧ St prog H H' [] := by
 have e : decide (0 ≤ mI (fun j => decide (iA xs j = d)) xs.length) = decide (d ∈ xs) := by
  rw [dV, decide_eq_true_iff, decide_eq_true_iff, sI]
  constructor
  ·rintro ⟨j, hj, hp⟩
   rw [← of_decide_eq_true hp]; exact iC hj
  ·intro hx
   obtain ⟨j, hj, rfl⟩ := dA.1 hx
   exact ⟨j, hj, by rw [jN xs j hj]; simp⟩
 refine .aF func61 rfl (by kernel_rfl) (m := 9) rfl fun l hn g0 g1 => ?_
 simp (disch := omega) only [↓RA, RB, simprocAttr, g1]
 refine (sR H).eNew 2 [I d.1, I d.2] rfl rfl rfl pH fun A1 H1 hS1 => ?_
 simp only [RT] at hS1
 simp (disch := omega) only [↓RA, RZ, simprocAttr, hn, g0, hS1.ai 0 rfl]
 refine hS1.cF (b0g v xs (hS1.sl hv) hl d) fun H2 hS2 => ?_
 simp (disch := omega) only [↓RA, RB, simprocAttr, hn, c5E]
 rw [← e]
 first | exact hS2.forget | exact ⟨rfl, hS2.forget⟩
theorem b6i (v : Value) (xs : List Ct) (hv : Sl 2 jJ H v xs) (hl : xs.length < 1000000000) (k : FuncId) (caps : List Value) (p : Nat → Bool)
 (hf : ∀ j H1, j < xs.length → St prog H H1 [] → Fn prog k (.agg #[I (iA xs j).1, I (iA xs j).2] :: caps) H1 fun r H2 => r = .bool (p j) ∧ St prog H1 H2 []) :
 Fn prog 103 [v, .func (.func k) #[] caps.toArray] H fun r H' => r = I (mI p xs.length) ∧ St prog H H' [] := by
 refine .aF func103 rfl (by kernel_rfl) (m := 19) rfl fun l hn g0 g1 => ?_
 simp (disch := omega) only [↓RA, RZ, simprocAttr, hn, g0, ((sR H).sl hv).len]
 refine Wp.ak (fun n l H' => l.length = 19 ∧ get l 0 = v ∧ get l 1 = .func (.func k) #[] caps.toArray ∧ get l 7 = I xs.length ∧ ∃ (j : Nat), (n + j = xs.length ∧ ∀ q, q < j → p q = false) ∧ get l 8 = I j ∧ St prog H H' []) xs.length ?_ ?_
 ·simp (disch := omega) only [RB, RC, simprocAttr, hn, g0, g1]
  exact ⟨0, ⟨by omega, fun q hq => absurd hq (dH _)⟩, rfl, (sR H)⟩
 rintro n l H1 ⟨hn, g0, g1, g7, j, ⟨hi,h0⟩, g8, hS1⟩
 simp (disch := omega) only [↓RA, RB, simprocAttr, hn, g7, g8]
 refine hK (fun h => ?_) (fun h => ?_)
 ·simp (disch := omega) only [↓RA, RZ, simprocAttr, hn, g0, g1, g8, (hS1.sl hv).idx, (hS1.sl hv).ai, jJ, h]
  refine hS1.cF (hf j _ (by omega) hS1) fun H2 hS2 => ?_
  simp (disch := omega) only [↓RA, RZ, simprocAttr, hn, h]
  refine jF (fun hp => ?_) (fun hp => ?_)
  ·simp (disch := omega) only [↓RA, RZ, simprocAttr, hn, b9O, h, hp]
   exact ⟨by rw [sZ p xs.length j (by omega) hp h0], hS2⟩
  simp (disch := omega) only [↓RA, RZ, simprocAttr, hn, g0, g1, g7, g8, h, hp]
  exact ⟨n - 1, by omega, j + 1, ⟨by omega, fun q hq => by rcases dm.1 hq with e | e; (· exact h0 q e); (· rw [e]; exact hp)⟩, by simp, hS2⟩
 simp (disch := omega) only [↓RA, RZ, simprocAttr, hn, b9O, h]
 exact ⟨by rw [sS p xs.length fun q hq => h0 q (by omega)], hS1⟩
theorem c4b : a6S prog 58 = some (1 + 1) := by kernel_rfl
theorem c3P {B : Base} {v : Value} {xs : List Ct} (hS : St prog B H [⟨v, 2, pr xs⟩]) (hl : xs.length < 100000000) (k : FuncId) (caps : List Value) (p : Ct → Bool)
 (hf : ∀ c ∈ xs, ∀ {H1 : Heap} {os : List Ob}, St prog B H1 os → Fn prog k (.agg #[I c.1, I c.2] :: caps) H1 fun r H2 => r = .bool (p c) ∧ St prog H1 H2 []) :
 Fn prog 58 [v, .func (.func k) #[] caps.toArray] H fun r H' => ∃ rest : List Value, (∀ b, kG r = some b → kG v = some b) ∧ (∀ H2, RdAt H2 v 2 (pr (xs.filter fun c => !p c) ++ rest) → RdAt H2 r 2 (pr (xs.filter fun c => !p c))) ∧
  St prog B H' [⟨v, 2, pr (xs.filter fun c => !p c) ++ rest⟩] := by
 refine .aF func58 rfl (by kernel_rfl) (m := 42) rfl fun l hn g0 g1 => ?_
 simp (disch := omega) only [↓RA, RZ, simprocAttr, hn, g0, g1]
 refine hS.cF (b6i v xs (hS.aw 0 rfl (fun _ => rfl)) (by omega) k caps (fun j => p (iA xs j)) (fun j H1 hj hS' => hf _ (iC hj) (hS.trans hS'))) fun H1 hS1 => ?_
 simp (disch := omega) only [↓RA, RB, simprocAttr, hn]
 refine hK (fun h1 => ?_) (fun h1 => ?_)
 ·have hno : ∀ c ∈ xs, p c = false := by
   intro c hc
   obtain ⟨j, hj, rfl⟩ := dA.1 hc
   have h2 : ¬ 0 ≤ mI (fun j => p (iA xs j)) xs.length := by omega
   rw [sI] at h2
   rw [← jN xs j hj, ← ek]
   exact fun hp => h2 ⟨j, hj, hp⟩
  have hfe : (xs.filter fun c => !p c) = xs := List.filter_eq_self.2 fun c hc => by rw [hno c hc]; rfl
  simp (disch := omega) only [↓RA, RZ, simprocAttr, hn, g0, c3I, h1]
  exact ⟨[], fun _ h => h, by rw [hfe, dh]; exact fun _ h => h, by rw [hfe, dh]; exact hS1⟩
 have hge : 0 ≤ mI (fun j => p (iA xs j)) xs.length := by
  unfold mI at h1 ⊢
  split
  ·omega
  ·rename_i hq
   rw [hq] at h1
   exact absurd rfl h1
 obtain ⟨i0, hi0⟩ : ∃ i0 : Nat, mI (fun j => p (iA xs j)) xs.length = i0 := ⟨_, (fI hge).symm⟩
 have hi0l := xK hi0
 have hi0b : (∀ j, j < i0 → p (iA xs j) = false) ∧ p (iA xs i0) = true := by
  unfold mI at hi0
  split at hi0
  ·rename_i q hq
   have hqi : q = i0 := by omega
   subst hqi
   rw [List.find?_range_eq_some] at hq
   exact ⟨fun j hj => by have := hq.2.2 j hj; simpa using this, hq.1⟩
  ·omega
 have hD0 : ((xs.take (i0 + 1)).filter fun c => !p c) = xs.take i0 := by
  rw [kH xs i0 hi0l, ez]
  have e1 : ([iA xs i0].filter fun c => !p c) = [] := by simp [hi0b.2]
  rw [e1, dh]
  refine List.filter_eq_self.2 fun c hc => ?_
  obtain ⟨j, hj, rfl⟩ := dA.1 hc
  have hj2 : j < i0 := by rw [fc] at hj; omega
  have := hi0b.1 j hj2
  rw [jN xs j (by omega)] at this
  rw [List.getElem_take, this]
  rfl
 simp (disch := omega) only [↓RA, RZ, simprocAttr, hn, hi0]
 have hrow : St prog B H1 [⟨v, 2, pr (((xs.take (i0 + 1)).filter fun c => !p c) ++ xs.drop ((xs.take (i0 + 1)).filter fun c => !p c).length)⟩] := by
  rw [hD0, fc, fz (by omega), gn]
  exact hS1
 have hlt0 : ((xs.take (i0 + 1)).filter fun c => !p c).length < i0 + 1 := by
  rw [hD0, fc]
  omega
 refine Wp.ak (fun n l H' => l.length = 42 ∧ get l 0 = v ∧ get l 1 = .func (.func k) #[] caps.toArray ∧ ∃ j : Nat, (n + j = xs.length ∧ ((xs.take j).filter fun c => !p c).length < j) ∧ get l 5 = I ((xs.take j).filter fun c => !p c).length ∧ get l 6 = I j ∧ St prog B H' [⟨v, 2, pr (((xs.take j).filter fun c => !p c) ++ xs.drop ((xs.take j).filter fun c => !p c).length)⟩]) (xs.length - (i0 + 1)) ?_ ?_
 ·simp (disch := omega) only [RB, RC, simprocAttr, hn, g0, g1]
  refine ⟨i0 + 1, ⟨by omega, hlt0⟩, ?_, by simp, hrow⟩
  rw [hD0, fc, fz (by omega)]
 clear hrow hlt0
 rintro n l H9 ⟨hn, g0, g1, j, ⟨hj, hlt⟩, g5, g6, hS9⟩
 have hsucc : j < xs.length → ((xs.take (j + 1)).filter fun c => !p c) = ((xs.take j).filter fun c => !p c) ++ (if p (iA xs j) = true then [] else [iA xs j]) := fun h => by
  rw [kH xs j h, ez]
  congr 1
  by_cases hp : p (iA xs j) = true
  ·rw [if_pos hp]; simp [hp]
  ·rw [if_neg hp]; simp [hp]
 have hall : j = xs.length → ((xs.take j).filter fun c => !p c) = xs.filter fun c => !p c := fun h => by rw [h, dT]
 generalize hD : ((xs.take j).filter fun c => !p c) = D at g5 hlt hS9 hsucc hall
 have hjl : j ≤ xs.length := by omega
 have hrl : (D ++ xs.drop D.length).length = xs.length := by rw [di, eP]; omega
 have hat : ∀ q, D.length ≤ q → iA (D ++ xs.drop D.length) q = iA xs q := fun q hq => by
  unfold iA
  rw [cZ, ef hq, dz, cZ]
  congr 2; omega
 have hatj := hat j (by omega)
 simp (disch := omega) only [↓RA, RZ, simprocAttr, hn, g0, g6, (hS9.aw 0 rfl (fun _ => rfl)).len, hrl]
 refine hK (fun h4 => ?_) (fun h4 => ?_)
 ·have hjx : j < xs.length := by omega
  have hsu := hsucc hjx
  simp (disch := omega) only [↓RA, RZ, simprocAttr, hn, g0, g6, (hS9.aw 0 rfl (fun _ => rfl)).idx, (hS9.aw 0 rfl (fun _ => rfl)).ai, jJ, hatj, h4]
  refine hS9.eNew 2 [I 0, I 0] rfl rfl rfl pH fun A1 H2 hS2 => ?_
  simp only [RT] at hS2
  simp (disch := omega) only [↓RA, RZ, simprocAttr, hn, h4]
  refine hS2.aa 1 rfl [I (iA xs j).1, I (iA xs j).2] rfl rfl pH (by simp) fun H3 hS3 => ?_
  simp only [RT] at hS3
  simp (disch := omega) only [↓RA, RZ, simprocAttr, hn, g1, hS3.ai 1 rfl, h4]
  refine hS3.cF (hf (iA xs j) (iC hjx) hS3) fun H4 hS4 => ?_
  simp (disch := omega) only [↓RA, RZ, simprocAttr, hn, h4]
  refine jF (fun h5 => ?_) (fun h5 => ?_)
  ·have hpf : ¬ p (iA xs j) = true := by simpa using h5
   rw [if_neg hpf] at hsu
   simp (disch := omega) only [↓RA, RZ, simprocAttr, hn, g0, g5, hS4.ai 1 rfl, (hS4.aw 0 rfl (fun _ => rfl)).idx, h4, h5]
   refine hS4.bh 0 rfl [I (iA xs j).1, I (iA xs j).2] rfl rfl pH (by simp) (by rw [iG, hrl]; simp; omega) fun H5 hS5 => ?_
   simp only [RT] at hS5
   simp (disch := omega) only [↓RA, RZ, simprocAttr, hn, g0, g1, g5, g6, h4, h5]
   refine ⟨n - 1, by omega, j + 1, ?_⟩
   rw [hsu]
   refine ⟨⟨by omega, by simp; omega⟩, by simp, by simp, ?_⟩
   have e3 : pr (D ++ [iA xs j] ++ xs.drop (D ++ [iA xs j]).length) = ((pr (D ++ xs.drop D.length)).set (D.length * 2) (I (iA xs j).1)).set (D.length * 2 + 1) (I (iA xs j).2) := by
    have hx : xs.drop D.length = iA xs D.length :: xs.drop (D.length + 1) := by
     rw [jN xs _ (by omega)]
     exact ff (by omega)
    rw [hx, di, List.length_singleton, jC, jC, jC]
    have e4 : pr (iA xs D.length :: xs.drop (D.length + 1)) = I (iA xs D.length).1 :: I (iA xs D.length).2 :: pr (xs.drop (D.length + 1)) := rfl
    have e5 : pr [iA xs j] = [I (iA xs j).1, I (iA xs j).2] := rfl
    have e6 : (pr D).length = D.length * 2 := iG D
    rw [e4, e5, eR _ _ (by omega), eR _ _ (by omega), e6, gR, fH]
    simp
   rw [e3]
   exact hS5.pick [0] (by decide) rfl
  have hpt : p (iA xs j) = true := by simpa using h5
  rw [if_pos hpt, dh] at hsu
  simp (disch := omega) only [↓RA, RZ, simprocAttr, hn, g0, g1, g5, g6, h4, h5]
  refine ⟨n - 1, by omega, j + 1, ?_⟩
  rw [hsu]
  exact ⟨⟨by omega, by omega⟩, rfl, by simp, hS4.pick [0] (by decide) rfl⟩
 have hje : j = xs.length := by omega
 have hDe := hall hje
 have hcl : (pr (D ++ xs.drop D.length)).length = xs.length * (1 + 1) := by rw [iG, hrl]
 have hDn : D.length ≤ xs.length := by omega
 simp (disch := omega) only [↓RA, RZ, simprocAttr, hn, g0, g5, (hS9.aw 0 rfl (fun _ => rfl)).aO, hrl, h4]
 rw [show ((xs.length : Int) - D.length).toNat = xs.length - D.length from by omega]
 refine hS9.bB (size := 1) 0 rfl D.length (xs.length - D.length) (by rw [hcl]; omega) (by
  intro e
  have h2 : (pr (D ++ xs.drop D.length)).length = 0 := by rw [e]; rfl
  rw [hcl] at h2; omega) c4b fun z H3 hz hSc => ?_
 simp only [RT] at hSc
 have e3 : iW (pr (D ++ xs.drop D.length)) (D.length * 2) z = pr D ++ z := by
  rw [jC, show D.length * 2 = (pr D).length from (iG D).symm, lY z (pr D) (pr (xs.drop D.length)) (by rw [iG, eP]; omega)]
  rw [List.drop_of_length_le (by rw [iG, eP]; omega), dh]
 rw [show D.length * (1 + 1) = D.length * 2 from rfl, e3] at hSc
 have hw : RdAt H3 v (1 + 1) (pr D ++ z) := hSc.rd 0 rfl
 have hwl : (pr D ++ z).length = xs.length * (1 + 1) := by rw [di, iG, hz]; omega
 simp (disch := omega) only [↓RA, RZ, simprocAttr, hn, g0, g5, hw.aP hwl, c3I, h4]
 refine ⟨z, fun b h => a2y h, fun H2 h2 => ?_, by rw [← hDe]; exact hSc⟩
 rw [← hDe] at h2 ⊢
 have h5 := RdAt.sub h2 0 D.length (by rw [hwl]; omega) (by
  intro e
  rw [e] at hwl
  simp at hwl; omega)
 rw [Nat.zero_mul, List.drop_zero, show D.length * 2 = (pr D).length from (iG D).symm, List.take_left' rfl] at h5
 exact h5
theorem b6T (a : Addr) (m c : Nat) : kT prog .eql 58 58 false true (.slice (some a) m c) (.slice none 0 0) = some (.bool false) := by kernel_rfl
theorem a5j {v : Value} {a : Addr} {m c : Nat} (h : v = .slice (some a) m c) (K : Value → Prop) : kY prog .eql 58 58 false true v (.slice none 0 0) K = oL (.bool false) K := by
 subst h
 show jW (kT prog .eql 58 58 false true (.slice (some a) m c) (.slice none 0 0)) K = _
 rw [b6T]
 rfl
theorem b6H : kT prog .eql 58 58 false true (.slice none 0 0) (.slice none 0 0) = some (.bool true) := by kernel_rfl
theorem wB (K : Value → Prop) : kY prog .eql 58 58 false true (.slice none 0 0) (.slice none 0 0) K = oL (.bool true) K := by
 show jW (kT prog .eql 58 58 false true (.slice none 0 0) (.slice none 0 0)) K = _
 rw [b6H]
 rfl
theorem b0e (v : Value) (xs : List Ct) (hv : Sl 2 jJ H v xs) (hl : xs.length < 100000000) : Fn prog 59 [v] H fun r H' => St prog H H' [⟨r, 2, pr xs⟩] := by
 rcases hv.rd with ⟨rfl, h2⟩ | ⟨A, i, e, row, ty, rw', lo, ver, m, _, _, _, _, _, _, hvv⟩
 ·have hx : xs = [] := by
   have := congrArg List.length h2
   rw [show (xs.flatMap jJ).length = xs.length * 2 from iG xs, eK] at this
   exact fE.1 (by omega)
  subst hx
  refine .aU func59 rfl (by kernel_rfl) (m := 8) rfl fun l hn g0 => ?_
  have hbe := wB
  simp (disch := omega) only [↓RA, RB, simprocAttr, hn, g0, wB]
  have hS1 := (sR H).nil 1
  simp only [RT] at hS1
  simp (disch := omega) only [RB, simprocAttr, hn, c2O]
  exact hS1
 ·refine .aU func59 rfl (by kernel_rfl) (m := 8) rfl fun l hn g0 => ?_
  simp (disch := omega) only [↓RA, RB, simprocAttr, hn, g0, a5j hvv]
  refine (sR H).bS a2E fun w1 H1 hS1 => ?_
  simp only [RT] at hS1
  simp (disch := omega) only [↓RA, RZ, simprocAttr, hn, g0]
  refine hS1.aq 0 rfl (hS1.sl hv).rd a2E (by rw [show (xs.flatMap jJ).length = xs.length * 2 from iG xs]; simp; omega) fun w2 H2 hS2 => ?_
  simp only [RT] at hS2
  simp (disch := omega) only [↓RA, RB, simprocAttr, hn, c2O]
  exact hS2
theorem a7O (c : Ct) (A : Nat) (bv : Value) (ys : List Ct) (hA : Var H A 1 [bv]) (hb : Sl 2 jJ H bv ys) (hl : ys.length < 100000000) :
 Fn prog 60 [.agg #[I c.1, I c.2], ptr A 0 1] H fun r H' => r = .bool (decide (c ∈ ys)) ∧ St prog H H' [] := by
 refine .aF func60 rfl (by kernel_rfl) (m := 7) rfl fun l hn g0 g1 => ?_
 simp (disch := omega) only [↓RA, RB, simprocAttr, g0]
 refine (sR H).eNew 2 [I c.1, I c.2] rfl rfl rfl pH fun A1 H1 hS1 => ?_
 simp only [RT] at hS1
 simp (disch := omega) only [↓RA, RZ, simprocAttr, hn, g1, (hA.ag hS1.ag).ld, hS1.ai 0 rfl]
 refine hS1.cF (b3W bv ys (hS1.sl hb) (by omega) c) fun H2 hS2 => ?_
 simp (disch := omega) only [↓RA, RZ, simprocAttr, hn, c5O]
 exact hS2.forget
theorem yN (v w : Value) (xs ys : List Ct) (hv : Sl 2 jJ H v xs) (hw : Sl 2 jJ H w ys) (hl : xs.length < 10000000) (hl2 : ys.length < 10000000) :
 Fn prog 24 [v, w] H fun r H' => Slx 2 jJ H' (fun B => H.length ≤ B) r (xs.filter fun c => !decide (c ∈ ys)) ∧ St prog H H' [] := by
 refine .aF func24 rfl (by kernel_rfl) (m := 9) rfl fun l hn g0 g1 => ?_
 simp (disch := omega) only [↓RA, RB, simprocAttr, g1]
 refine (sR H).eNew 1 [w] (by rw [((sR H).sl hw).cells.1]) rfl (by simp [((sR H).sl hw).cells.2.1]) c2G fun A1 H1 hS1 => ?_
 simp only [RT] at hS1
 simp (disch := omega) only [↓RA, RZ, simprocAttr, hn, g0]
 refine iF ((b0e v xs (hS1.sl hv) (by omega)).tr) ?_
 rintro r H2 ⟨-, hT1⟩
 have hS2 := hS1.trans hT1
 simp only [RT] at hS2
 obtain ⟨cw, rfl⟩ : ∃ w, w = r := ⟨r, rfl⟩
 simp (disch := omega) only [↓RA, RZ, simprocAttr, hn]
 have hM1 := hS2.pick (os' := [⟨cw, 2, _⟩]) [1] (by decide) rfl
 have hR1 := hS2.pick (os' := [⟨cw, 2, _⟩, ⟨ptr A1 0 1, 0, _⟩]) [1, 0] (by decide) rfl
 refine iF (c3P (xs := xs) hM1.aD (by omega) 60 [ptr A1 0 1] (fun c => decide (c ∈ ys)) (fun c hc {H9 os} h => by
  have q1 := hR1.frame h.forget
  exact a7O c A1 w ys (q1.var 0 rfl) (q1.sl hw) (by omega))) ?_
 rintro r H3 ⟨rest, hb, hrd, hT2⟩
 have hS3 := hR1.frame hT2
 simp only [RT] at hS3
 have hrr := hrd _ (hS3.rd 0 rfl)
 have hrc := hrr.cells
 simp (disch := omega) only [↓RA, RB, simprocAttr, hn, c5N]
 refine ⟨⟨⟨hrr, jL, by decide⟩, fun b h => ?_⟩, hS3.forget⟩
 rcases hS3.new _ (dE ..) b (hb b h) with h | h
 ·exact h
 ·exact h.elim
theorem b4o {x y : Int × Int} : cf2 x y < 0 ↔ wZ x y := by
 unfold cf2 wZ
 split
 ·omega
 ·split
  ·omega
  ·split
   ·omega
   ·split <;> omega
theorem b6d {x y : Int × Int} : cf2 x y = 0 ↔ x = y := by
 unfold cf2
 constructor
 ·intro h
  split at h
  ·omega
  ·split at h
   ·omega
   ·split at h
    ·omega
    ·split at h
     ·omega
     ·exact fQ (by omega) (by omega)
 ·rintro rfl
  rw [if_neg (by omega), if_neg (by omega), if_neg (by omega), if_neg (by omega)]
theorem a4s {xs : List Ct} (hs : xs.Pairwise wZ) {i j : Nat} (h : i < j) (hj : j < xs.length) : wZ (iA xs i) (iA xs j) := by
 rw [jN _ _ (by omega), jN _ _ hj]
 exact eF.1 hs i j (by omega) hj h
theorem c0H (v : Value) (xs : List Ct) (hv : Sl 2 jJ H v xs) (hl : xs.length < 1000000000) (hs : xs.Pairwise wZ) (t : Ct) :
 Fn prog 99 [v, .agg #[I t.1, I t.2], .func (.func 100) #[] #[]] H fun r H' => ∃ k : Nat, r = .tuple #[I k, .bool (decide (t ∈ xs))] ∧ St prog H H' [] := by
 refine .bp func99 rfl (by kernel_rfl) (m := 49) rfl fun l hn g0 g1 g2 => ?_
 simp (disch := omega) only [↓RA, RB, simprocAttr, g1]
 refine (sR H).eNew 2 [I t.1, I t.2] rfl rfl rfl pH fun A1 H1 hS1 => ?_
 simp only [RT] at hS1
 simp (disch := omega) only [↓RA, RZ, simprocAttr, hn, g0, (hS1.sl hv).len]
 refine Wp.ak (fun n l H' => l.length = 49 ∧ get l 0 = v ∧ get l 2 = (.func (.func 100) #[] #[]) ∧ get l 4 = (ptr A1 0 2) ∧ get l 6 = I 0 ∧ get l 7 = (.bool false) ∧ get l 8 = I xs.length ∧ ∃ (i : Nat) (j : Nat), (n + i = j ∧ j ≤ xs.length ∧ (∀ q, q < i → wZ (iA xs q) t) ∧ ∀ q, j ≤ q → q < xs.length → ¬ wZ (iA xs q) t) ∧ get l 9 = I i ∧ get l 10 = I j ∧ St prog H H' [⟨ptr A1 0 2, 0, [I t.1, I t.2]⟩]) xs.length ?_ ?_
 ·simp (disch := omega) only [RB, RC, simprocAttr, hn, g0, g2]
  exact ⟨0, xs.length, ⟨by omega, by omega, fun q hq => absurd hq (dH _), fun q h1 h2 => absurd h2 (by omega)⟩, rfl, rfl, hS1⟩
 rintro n l H2 ⟨hn, g0, g2, g4, g6, g7, g8, i, j, ⟨h1,h2,h3,h4⟩, g9, qX, hS2⟩
 simp (disch := omega) only [↓RA, RB, simprocAttr, hn, g9, qX]
 refine hK (fun q1 => ?_) (fun q1 => ?_)
 ·obtain ⟨m, hm⟩ : ∃ m : Nat, (i + j) / 2 = m := ⟨_, rfl⟩
  have e1 : ((i : Int) + j).fdiv (2 ^ min 1 (IntKind.bits .u64)) = ((m : Nat) : Int) := by
   have h := zX (i + j) 1 (by omega)
   rw [eI] at h
   rw [← hm]
   exact h
  simp (disch := omega) only [↓RA, RZ, simprocAttr, hn, g9, qX, q1, e1]
  refine Wp.drw kF (by kernel_rfl) ?_
  simp (disch := omega) only [↓RA, RZ, simprocAttr, hn, g0, g2]
  simp (disch := omega) only [↓RA, RZ, simprocAttr, hn, g4, (hS2.sl hv).idx, (hS2.sl hv).ai, jJ, hS2.ai 0 rfl]
  refine hS2.cF (a4k (iA xs m) t) fun H3 hS3 => ?_
  simp (disch := omega) only [↓RA, RB, simprocAttr, hn]
  refine hK (fun q2 => ?_) (fun q2 => ?_)
  ·have hlt := b4o.1 q2
   simp (disch := omega) only [↓RA, RZ, simprocAttr, hn, g0, g2, g4, g6, g7, g8, qX, q2]
   refine ⟨j - (m + 1), by omega, m + 1, j, ⟨by omega, h2, fun q hq => ?_, h4⟩, by simp, rfl, hS3⟩
   by_cases e : q = m
   ·rw [e]; exact hlt
   ·exact a0n (a4s hs (show q < m by omega) (by omega)) hlt
  have hnl : ¬ wZ (iA xs m) t := fun h => q2 (b4o.2 h)
  simp (disch := omega) only [↓RA, RZ, simprocAttr, hn, g0, g2, g4, g6, g7, g8, g9, q2]
  refine ⟨m - i, by omega, i, m, ⟨by omega, by omega, h3, fun q hq hql h => ?_⟩, rfl, by simp, hS3⟩
  by_cases e : q = m
  ·rw [e] at h; exact hnl h
  ·exact hnl (a0n (a4s hs (show m < q by omega) hql) h)
 have hij : i = j := by omega
 have hno : ∀ q, q < xs.length → q ≠ i → iA xs q ≠ t := fun q hq hne e => by
  by_cases hqi : q < i
  ·have := h3 q hqi
   rw [e] at this
   exact a1b this
  ·have h5 := h4 i (by omega) (by omega)
   have h6 := a4s hs (show i < q by omega) hq
   rw [e] at h6
   exact h5 h6
 simp (disch := omega) only [↓RA, RC, simprocAttr, q1]
 refine Wp.drw kF (by kernel_rfl) ?_
 simp (disch := omega) only [↓RA, RZ, simprocAttr, hn, g8, g9]
 refine jH (fun q3 => ?_) (fun q3 => ?_)
 ·simp (disch := omega) only [↓RA, RZ, simprocAttr, hn, g0, g2, g4, g9, (hS2.sl hv).idx, (hS2.sl hv).ai, jJ, hS2.ai 0 rfl, q3]
  refine hS2.cF (a4k (iA xs i) t) fun H4 hS4 => ?_
  simp (disch := omega) only [↓RA, RZ, simprocAttr, hn, c3B, q3]
  have he : decide (cf2 (iA xs i) t = 0) = decide (t ∈ xs) := by
   rw [decide_eq_decide, b6d]
   constructor
   ·intro e
    rw [← e]
    exact iC (by omega)
   ·intro hm
    obtain ⟨q, hq, e⟩ := dA.1 hm
    rw [← jN _ _ hq] at e
    by_cases hqi : q = i
    ·rw [hqi] at e; exact e
    ·exact absurd e (hno q hq hqi)
  exact ⟨i, by rw [← he], hS4.forget⟩
 have hf : decide (t ∈ xs) = false := by
  rw [decide_eq_false_iff_not]
  intro hm
  obtain ⟨q, hq, e⟩ := dA.1 hm
  rw [← jN _ _ hq] at e
  exact hno q hq (by omega) e
 simp (disch := omega) only [↓RA, RZ, simprocAttr, hn, c3B, q3]
 exact ⟨i, by rw [hf], hS2.forget⟩
def rN (xs ys : List Ct) : List Ct := xs.filter fun c => !decide (c ∈ ys)
theorem a1F (xs ys : List Ct) : (rN xs ys).length ≤ xs.length := dX _ _
theorem a8S (xs ys : List Ct) (i : Nat) (h : i < xs.length) : rN (xs.take (i + 1)) ys = rN (xs.take i) ys ++ (if iA xs i ∈ ys then [] else [iA xs i]) := by
 unfold rN
 rw [kH xs i h, ez]
 congr 1
 by_cases e : iA xs i ∈ ys <;> simp [e]
theorem a0z (v w : Value) (xs ys : List Ct) (hv : Sl 2 jJ H v xs) (hw : Sl 2 jJ H w ys) (hl : xs.length < 100000000) (hl2 : ys.length < 100000000) (hs : ys.Pairwise wZ) :
 Fn prog 56 [v, w] H fun r H' => St prog H H' [⟨r, 2, pr (rN xs ys)⟩] := by
 refine .aF func56 rfl (by kernel_rfl) (m := 30) rfl fun l hn g0 g1 => ?_
 simp (disch := omega) only [↓RA, RZ, simprocAttr, hn, g0, ((sR H).sl hv).len]
 have hS1 := (sR H).nil 1
 simp only [RT] at hS1
 refine Wp.ak (fun n l H' => l.length = 30 ∧ get l 1 = w ∧ get l 4 = (.slice none 0 0) ∧ get l 10 = v ∧ get l 11 = I xs.length ∧ ∃ (i : Nat) (ov : Value), (n + i = xs.length) ∧ get l 12 = I i ∧ get l 5 = ov ∧ St prog H H' [⟨ov, 2, pr (rN (xs.take i) ys)⟩]) xs.length ?_ ?_
 ·simp (disch := omega) only [RB, RC, simprocAttr, hn, g1]
  exact ⟨0, .slice none 0 0, by omega, rfl, rfl, hS1⟩
 rintro n l H1 ⟨hn, g1, g4, qX, g11, i, ov, hi, g12, g5, hS2⟩
 simp (disch := omega) only [↓RA, RB, simprocAttr, hn, g11, g12]
 refine hK (fun q1 => ?_) (fun q1 => ?_)
 ·have hsu := a8S xs ys i (by omega)
  have hle := a1F (xs.take i) ys
  have htl := List.length_take_le i xs
  simp (disch := omega) only [↓RA, RZ, simprocAttr, hn, qX, g12, (hS2.sl hv).idx, (hS2.sl hv).ai, jJ, q1]
  refine hS2.eNew 2 [I 0, I 0] rfl rfl rfl pH fun A1 H2 hS3 => ?_
  simp only [RT] at hS3
  simp (disch := omega) only [↓RA, RZ, simprocAttr, hn, q1]
  refine hS3.aa 1 rfl [I (iA xs i).1, I (iA xs i).2] rfl rfl pH (by simp) fun H3 hS4 => ?_
  simp only [RT] at hS4
  simp (disch := omega) only [↓RA, RZ, simprocAttr, hn, g1, hS4.ai 1 rfl, q1]
  refine iF (c0H w ys (hS4.sl hw) (by omega) hs (iA xs i)) ?_
  rintro r H4 ⟨k, rfl, hT1⟩
  have hS5 := hS4.trans hT1
  simp only [RT] at hS5
  simp (disch := omega) only [↓RA, RZ, simprocAttr, hn, q1]
  refine jF (fun q2 => ?_) (fun q2 => ?_)
  ·have hni : ¬ iA xs i ∈ ys := by simpa using q2
   rw [if_neg hni] at hsu
   simp (disch := omega) only [↓RA, RZ, simprocAttr, hn, g5, hS5.ai 1 rfl, q1, q2]
   refine hS5.aj [I (iA xs i).1, I (iA xs i).2] a2E b7u rfl rfl (by simp [Value.cells]) rfl rfl (by decide) (by decide) fun w1 H5 hS6 => ?_
   simp only [RT] at hS6
   simp (disch := omega) only [↓RA, RZ, simprocAttr, hn, q1, q2]
   refine hS6.aq 0 rfl (hS6.rd 2 rfl) a2E (by rw [iG]; simp only [dY, eK]; omega) fun w2 H6 hS7 => ?_
   simp only [RT] at hS7
   simp (disch := omega) only [↓RA, RZ, simprocAttr, hn, g1, g4, qX, g11, g12, q1, q2]
   refine ⟨n - 1, by omega, i + 1, w2, by omega, by simp, rfl, ?_⟩
   rw [hsu, jC]
   exact hS7.pick [0] (by decide) rfl
  have hni : iA xs i ∈ ys := by simpa using q2
  rw [if_pos hni, dh] at hsu
  simp (disch := omega) only [↓RA, RZ, simprocAttr, hn, g1, g4, qX, g11, g12, g5, q1, q2]
  refine ⟨n - 1, by omega, i + 1, ov, by omega, by simp, rfl, ?_⟩
  rw [hsu]
  exact hS5.pick [0] (by decide) rfl
 simp (disch := omega) only [↓RA, RZ, simprocAttr, hn, g5, c5g, q1]
 have hii : i = xs.length := by omega
 rw [hii, dT] at hS2
 exact hS2
theorem b2c {o : Org} {l : List (Value × Reg)} {ks : List Nt} (h : yT o l ks = 0) : organE o = 0 ∧ (∀ p ∈ l, qM o p.2 = 0) ∧ nY o ks = 0 := by
 unfold yT at h
 split at h
 ·rename_i hh; exact absurd h hh
 rename_i h1
 have h1 := dy.1 h1
 unfold nZ at h1
 split at h1
 ·rename_i hh; exact absurd h1 hh
 rename_i h2
 refine ⟨dy.1 h2, fun p hp => ?_, h⟩
 obtain ⟨j, hj, rfl⟩ := dA.1 hp
 have := nQ h1 j hj
 rw [jN _ _ hj] at this
 exact this
def a6p (o : Org) (e : Int) (rg sg : Reg) (ks : List Nt) : List Ct := if e = 0 then rN (kD o rg (iE ks)) (kD o sg (iE ks)) else []
theorem b7v (hG : Glob gH H) (o : Org) (ho : o.In H) (rg : Reg) (sv : Value) (hr : rg.In H sv) (sg : Reg) (tv : Value) (hs : sg.In H tv) (kv : Value) (ks : List Nt) (hk : Ks H kv ks) :
 Fn prog 21 [.agg #[.string o.name, o.rv, o.dv, o.cv], .agg #[sv, .int .u64 rg.cpl, .int .u64 rg.off], .agg #[tv, .int .u64 sg.cpl, .int .u64 sg.off], kv] H fun r H' =>
  ∃ gv cv, r = .tuple #[gv, cv, I (yT o [(sv, rg), (tv, sg)] ks)] ∧ Slx 2 jJ H' (fun B => H.length ≤ B) gv (a6p o (yT o [(sv, rg), (tv, sg)] ks) rg sg ks) ∧ Slx 2 jJ H' (fun B => H.length ≤ B) cv (a6p o (yT o [(sv, rg), (tv, sg)] ks) sg rg ks) ∧ St prog H H' [] := by
 have hnil : ∀ {H' : Heap}, Slx 2 jJ H' (fun B => H.length ≤ B) (.slice none 0 0) ([] : List Ct) := fun {H'} => ⟨⟨.inl ⟨rfl, rfl⟩, jL, by decide⟩, fun b h => by simp [kG] at h⟩
 refine .cJ func21 rfl (by kernel_rfl) (m := 39) rfl fun l hn g0 g1 g2 g3 => ?_
 simp (disch := omega) only [↓RA, RB, simprocAttr, g0]
 refine (sR H).eNew 4 [(.string o.name), o.rv, o.dv, o.cv] rfl rfl (by simp [OC, ((sR H).sl ho.1).cells.2.1, ((sR H).sl ho.2.2.1).cells.2.1, ((sR H).sl ho.2.2.2.2.1).cells.2.1]) mR fun A1 H1 hS1 => ?_
 simp only [RT] at hS1
 simp (disch := omega) only [↓RA, RB, simprocAttr, g1]
 refine hS1.eNew 3 [sv, (.int .u64 rg.cpl), (.int .u64 rg.off)] rfl rfl (by simp [OC, (hS1.sl hr.1).cells.2.1]) pE fun A2 H2 hS2 => ?_
 simp only [RT] at hS2
 simp (disch := omega) only [↓RA, RB, simprocAttr, g2]
 refine hS2.eNew 3 [tv, (.int .u64 sg.cpl), (.int .u64 sg.off)] rfl rfl (by simp [OC, (hS2.sl hs.1).cells.2.1]) pE fun A3 H3 hS3 => ?_
 simp only [RT] at hS3
 simp (disch := omega) only [↓RA, RZ, simprocAttr, hn, hS3.ai 0 rfl, hS3.ai 1 rfl, hS3.ai 2 rfl]
 refine hS3.aj [sv, (.int .u64 rg.cpl), (.int .u64 rg.off), tv, (.int .u64 sg.cpl), (.int .u64 sg.off)] b5f b6k rfl rfl (by first | (simp []; done) | simp [Value.cells]) (by first | (simp []; done) | simp [Value.cells]) (by simp [OC, (hS3.sl hr.1).cells.2.1, (hS3.sl hs.1).cells.2.1]) (by decide) (by decide) fun w1 H4 hS4 => ?_
 simp only [RT] at hS4
 simp (disch := omega) only [↓RA, RZ, simprocAttr, hn, g3]
 refine hS4.cF (a9B o (ho.ag hS4) w1 [(sv, rg), (tv, sg)] (hS4.aw 3 rfl (fun _ => rfl)) (by simp) (by intro p hp; simp only [dN, dZ, or_false] at hp; rcases hp with rfl | rfl; (· exact hr.ag hS4); (· exact hs.ag hS4)) kv ks (hk.ag hS4)) fun H5 hS5 => ?_
 simp (disch := omega) only [↓RA, RB, simprocAttr, hn]
 refine hK (fun h1 => ?_) (fun h1 => ?_)
 ·have hd : ∀ a b, a6p o (yT o [(sv, rg), (tv, sg)] ks) a b ks = [] := fun a b => by unfold a6p; rw [if_neg h1]
  simp (disch := omega) only [↓RA, RZ, simprocAttr, hn, c3k, h1]
  rw [hd, hd]
  exact ⟨.slice none 0 0, .slice none 0 0, rfl, hnil, hnil, hS5.forget⟩
 have h0 := dy.1 h1
 obtain ⟨hz1, hz2, hz3⟩ := b2c h0
 have hzr := hz2 (sv, rg) (by simp)
 have hzs := hz2 (tv, sg) (by simp)
 have hrl := (oX hzr).2
 have hsl := (oX hzs).2
 have hf := Org.aX hz1
 have hplc := qE hk.ok hz3
 have hpll := qD hz3
 have h8 : ks.length ≤ 8 := by
  have := hf.dlen
  have := (nM hz3).2.1
  omega
 have hd : ∀ a b, a6p o (yT o [(sv, rg), (tv, sg)] ks) a b ks = rN (kD o a (iE ks)) (kD o b (iE ks)) := fun a b => by unfold a6p; rw [if_pos h0]
 rw [hd, hd, h0]
 simp (disch := omega) only [↓RA, RC, simprocAttr]
 refine Wp.aT kF [(0, 4), (1, 4), (5, 0), (5, 4), (5, 9), (6, 0), (6, 4), (6, 9)] (by kernel_rfl) (by kernel_rfl) ?_
 simp (disch := omega) only [↓RA, RZ, simprocAttr, hn, g3, hS5.ai 0 rfl, hS5.ai 1 rfl]
 refine iF ((vB (hS5.gl hG) kv ks (hk.ag hS5) h8).tr) ?_
 rintro r H6 ⟨-, hT2⟩
 have hS6 := hS5.trans hT2
 simp only [RT] at hS6
 obtain ⟨pv, rfl⟩ : ∃ w, w = r := ⟨r, rfl⟩
 simp (disch := omega) only [↓RA, RZ, simprocAttr, hn]
 have hS1 := hS6
 refine iF (uU o (ho.ag hS6) hf rg sv (hr.ag hS6) hrl pv (iE ks) (hS6.aw 4 rfl jL) hpll hplc) ?_
 rintro r H7 ⟨hx, hT3⟩
 have hS7 := hS6.trans hT3
 simp only [RT] at hS7
 obtain ⟨av, rfl⟩ : ∃ w, w = r := ⟨r, rfl⟩
 have hx2 := hx.step (hS1.aH (H' := H7))
 obtain ⟨X, hBX, hS8⟩ := hS7.az (os := [⟨ptr A1 0 4, 0, _⟩, ⟨ptr A2 0 3, 0, _⟩, ⟨ptr A3 0 3, 0, _⟩, ⟨w1, 3, _⟩, ⟨pv, 2, _⟩])
 simp (disch := omega) only [↓RA, RZ, simprocAttr, hn, g3, hS8.ai 0 rfl, hS8.ai 2 rfl]
 refine iF ((vB ((hS7.ab hBX hS8).gl hG) kv ks (hk.ag (hS7.ab hBX hS8)) h8).tr) ?_
 rintro r H8 ⟨-, hT4⟩
 have hS9 := hS8.trans hT4
 simp only [RT] at hS9
 obtain ⟨pw, rfl⟩ : ∃ w, w = r := ⟨r, rfl⟩
 simp (disch := omega) only [↓RA, RZ, simprocAttr, hn]
 have hS2 := hS9
 refine iF (uU o (ho.ag (hS7.ab hBX hS9)) hf sg tv (hs.ag (hS7.ab hBX hS9)) hsl pw (iE ks) (hS9.aw 5 rfl jL) hpll hplc) ?_
 rintro r H9 ⟨hy, hT5⟩
 have hS10 := hS9.trans hT5
 simp only [RT] at hS10
 obtain ⟨bv, rfl⟩ : ∃ w, w = r := ⟨r, rfl⟩
 have hx3 := hx2.step (hS10.kept hBX)
 have hy2 := hy.step (hS2.aH (H' := H9))
 obtain ⟨Y, hBY, hS11⟩ := hS10.az (os := [⟨ptr A1 0 4, 0, _⟩, ⟨ptr A2 0 3, 0, _⟩, ⟨ptr A3 0 3, 0, _⟩, ⟨w1, 3, _⟩, ⟨pv, 2, _⟩, ⟨pw, 2, _⟩])
 have hla := vG hf rg hpll (oS hplc)
 have hlb := vG hf sg hpll (oS hplc)
 have hsa := a3Q o rg (iE ks)
 have hsb := a3Q o sg (iE ks)
 have hx4 := hx3.step (hS11.kept hBY)
 have hy3 := hy2.step (hS11.kept hBY)
 simp (disch := omega) only [↓RA, RZ, simprocAttr, hn, hS6.ai 0 rfl, hS6.ai 1 rfl, hS5.ai 0 rfl, hS9.ai 0 rfl, hS5.ai 2 rfl, hS6.ai 2 rfl, hS9.ai 2 rfl]
 refine iF ((a0z av bv (kD o rg (iE ks)) (kD o sg (iE ks)) hx4.1 hy3.1 (by omega) (by omega) hsb).tr) ?_
 rintro r H10 ⟨-, hT6⟩
 have hS12 := hS11.trans hT6
 simp only [RT] at hS12
 obtain ⟨gv, rfl⟩ : ∃ w, w = r := ⟨r, rfl⟩
 have hx5 := hx3.step (hS12.kept hBY)
 have hy4 := hy2.step (hS12.kept hBY)
 simp (disch := omega) only [↓RA, RZ, simprocAttr, hn]
 refine iF ((a0z bv av (kD o sg (iE ks)) (kD o rg (iE ks)) hy4.1 hx5.1 (by omega) (by omega) hsa).tr) ?_
 rintro r H11 ⟨-, hT7⟩
 have hS13 := hS12.trans hT7
 simp only [RT] at hS13
 obtain ⟨cv, rfl⟩ : ∃ w, w = r := ⟨r, rfl⟩
 have hnt1 := (hS13.aw (cel := jJ) 6 rfl jL).br
 have hnt2 := (hS13.aw (cel := jJ) 7 rfl jL).br
 simp (disch := omega) only [↓RA, RZ, simprocAttr, hn, c3k, hnt1, hnt2]
 exact ⟨gv, cv, rfl, (hS7.ab hBX (hS10.ab hBY hS13)).ch 6 rfl jL, (hS7.ab hBX (hS10.ab hBY hS13)).ch 7 rfl jL, (hS7.ab hBX (hS10.ab hBY hS13)).forget⟩
end Go.Ds
namespace Go.Ds
open Go.Proofs Go.Proofs.Tryz
variable {H : Heap}
set_option maxRecDepth 100000
set_option maxHeartbeats 1000000
def b0U (r : Rs) (n : Int) : Bool := match r with
 | .ok (.tuple vs) _ => (match vs.toList with
   | [.int .u64 a, .int .u64 b] => decide (a = 0) && decide (b = n)
   | _ => false)
 | .th (.tuple vs) _ => (match vs.toList with
   | [.int .u64 a, .int .u64 b] => decide (a = 0) && decide (b = n)
   | _ => false)
 | _ => false
theorem c1h : (tK prog [168, 201, 202] .e fun T => [(25 : Int)].all fun n => b0U (mN T (exF prog T 4000) [] (kQ 168) [.int .u64 1, .int .u64 n] gH) n) = true := by kernel_rfl
theorem b4S {T : LT} (hT : TOk prog T) {k : FuncId} {args : List Value} {n : Int} (h : b0U (mN T (exF prog T 4000) [] (kQ k) args gH) n = true) : Fn prog k args gH fun r _ => r = .tuple #[.int .u64 0, .int .u64 n] := by
 have hv : ∀ (vs : Array Value), (match vs.toList with
  | [.int .u64 a, .int .u64 b] => decide (a = 0) && decide (b = n)
  | _ => false) = true → Value.tuple vs = .tuple #[.int .u64 0, .int .u64 n] := by
  intro vs h
  split at h
  ·rename_i a b e
   rw [cW, decide_eq_true_eq, decide_eq_true_eq] at h
   obtain ⟨rfl, rfl⟩ := h
   congr 1
   exact gJ e
  ·cases h
 unfold b0U at h
 split at h
 ·rename_i vs H1 e
  rw [← hv vs h]
  exact lX hT (.inl e)
 ·rename_i vs H1 e
  rw [← hv vs h]
  exact lX hT (.inr e)
 ·cases h
theorem b4N (hG : Glob gH H) : Fn prog 168 [.int .u64 1, .int .u64 25] H fun r H' => r = .tuple #[.int .u64 0, .int .u64 25] ∧ St prog H H' [] := by
 obtain ⟨T, hT, h⟩ := qH (ps := [(25 : Int)]) (f := fun T n => b0U (mN T (exF prog T 4000) [] (kQ 168) [.int .u64 1, .int .u64 n] gH) n) c1h
 exact rQ (by simp [flat, jA, iX]) rfl (b4S hT (h 25 (by simp))) hG
theorem qV (c z : Value) : ∀ (m x n : Nat), x + m ≤ n → iW (List.replicate x c ++ List.replicate (n - x) z) x (List.replicate m c) = List.replicate (x + m) c ++ List.replicate (n - (x + m)) z := by
 intro m x n h
 have e : List.replicate (n - x) z = List.replicate m z ++ List.replicate (n - (x + m)) z := by
  rw [List.replicate_append_replicate]; congr 1; omega
 have := lY (List.replicate m c) (List.replicate x c) (List.replicate (n - x) z) (by simp; omega)
 rw [eS] at this
 rw [this, List.replicate_append_replicate]
 congr 1
 simp
 omega
theorem a9K {H : Heap} {v : Value} {cs : List Value} (h : RdAt H v 1 cs) (h0 : cs ≠ []) : qN v 1 0 cs.length = v := by
 rcases h with ⟨rfl, rfl⟩ | ⟨A, i, e, row, ty, rw, lo', ver, n, h1, h2, h3, h4, h5, h6, rfl⟩
 ·exact (h0 rfl).elim
 ·simp [qN, h6]
theorem St.cm {P : Program} {H0 : Base} {os : List Ob} (hS : St P H0 H os) (i : Nat) {v : Value} {cs : List Value} (ho : os[i]? = some ⟨v, 1, cs⟩) {x : Value} {ys : List Value} (hx : RdAt H x 1 ys) (h0 : 0 < cs.length) (hy : 0 < ys.length) {t : TypeId} (ht : iR P t = some 1) {K : Value → Heap → Prop}
 (h : ∀ H1, St P H0 H1 (os.set i ⟨v, 1, iW cs 0 (ys.take (min ys.length cs.length))⟩) → K (.int .i64 ((min ys.length cs.length : Nat) : Int)) H1) : a3N P H t v x K := by
 have e := a9K (hS.rd (size := 0) i ho) (by intro e; simp [e] at h0)
 have := hS.bL i ho hx 0 cs.length (by omega) h0 hy ht h
 rwa [e] at this
theorem b6o (hG : Glob gH H) {c : Int} (v : Value) (hv : Sl 1 (one I) H v [c]) : Fn prog 122 [v, I 25] H fun r H' => St prog H H' [⟨r, 1, List.replicate 25 (I c)⟩] := by
 have h1 : (([c] : List Int).length : Int) = 1 := rfl
 refine .aF func122 rfl (by kernel_rfl) (m := 48) rfl fun l hn g0 g1 => ?_
 simp (disch := omega) only [↓RA, RZ, simprocAttr, hn, g0, g1, ((sR H).sl hv).len]
 refine (sR H).cF (b4N ((sR H).gl hG)) fun H1 hS1 => ?_
 simp (disch := omega) only [↓RA, RZ, simprocAttr, hn]
 refine hS1.ca 25 c6o (by omega) fun w H2 hS2 => ?_
 simp only [RT] at hS2
 simp (disch := omega) only [↓RA, RB, simprocAttr, hn, g0]
 refine hS2.cm 0 rfl (hS2.sl hv).rd (by simp) (by simp [one]) c1T fun H3 hS3 => ?_
 have e1 : min ([c].flatMap (one I)).length (List.replicate 25 (Value.int .i64 0)).length = 1 := by simp [one]
 rw [e1] at hS3 ⊢
 have e2 := qV (I c) (.int .i64 0) 1 0 25 (by omega)
 simp only [List.replicate_zero, fi, Nat.sub_zero, fZ] at e2
 have hS4 : St prog H H3 [⟨w, 1, List.replicate 1 (I c) ++ List.replicate (25 - 1) (.int .i64 0)⟩] := by
  rw [← e2]
  exact hS3
 simp (disch := omega) only [↓RA, RB, simprocAttr, hn]
 have e3 : ∀ x : Nat, List.replicate x (I c) ++ List.replicate (25 - x) (.int .i64 0) = (List.replicate x (c : Int) ++ List.replicate (25 - x) 0).flatMap (one I) := fun x => by
  rw [yF, dQ, List.map_replicate, List.map_replicate]
 refine Wp.ak (fun n l H' => l.length = 48 ∧ get l 4 = (.slice none 0 0) ∧ ∃ (x : Nat), (n + x = 25 ∧ 1 ≤ x) ∧ get l 8 = I x ∧ get l 7 = w ∧ St prog H H' [⟨w, 1, (List.replicate x (c : Int) ++ List.replicate (25 - x) 0).flatMap (one I)⟩]) 24 ?_ ?_
 ·simp (disch := omega) only [RB, RC, simprocAttr, hn]
  rw [e3] at hS4
  exact ⟨1, ⟨by omega, by omega⟩, rfl, hS4⟩
 rintro n l H2 ⟨hn, g4, x, ⟨hx,hx1⟩, g8, g7, hS2⟩
 have hln : (List.replicate x (c : Int) ++ List.replicate (25 - x) 0).length = 25 := by simp; omega
 simp (disch := omega) only [↓RA, RZ, simprocAttr, hn, g8, g7, (hS2.aw 0 rfl (fun _ => rfl)).len, hln]
 refine hK (fun q1 => ?_) (fun q1 => ?_)
 ·simp (disch := omega) only [↓RA, RC, simprocAttr, q1]
  refine Wp.drw kF (by kernel_rfl) ?_
  simp (disch := omega) only [↓RA, RZ, simprocAttr, hn, g8, g7, (hS2.aw 0 rfl (fun _ => rfl)).aO, (hS2.aw 0 rfl (fun _ => rfl)).aP, hln]
  have hxt : ((25 : Int) - (x : Int)).toNat = 25 - x := by omega
  rw [hxt]
  have hlc : ((List.replicate x (c : Int) ++ List.replicate (25 - x) 0).flatMap (one I)).length = 25 := by rw [yF, ee, hln]
  have hrd := hS2.rd 0 rfl
  have hsub := hrd.sub 0 x (by rw [hlc]; omega) (by intro e; rw [e] at hlc; simp at hlc)
  have e5 : (((List.replicate x (c : Int) ++ List.replicate (25 - x) 0).flatMap (one I)).drop (0 * (0 + 1))).take (x * (0 + 1)) = List.replicate x (I c) := by
   rw [← e3]
   simp []
  rw [e5] at hsub
  refine hS2.bL 0 rfl hsub x (25 - x) (by rw [hlc]; omega) (by omega) (by simp; omega) c1T fun H4 hS5 => ?_
  have e6 : (List.replicate x (I c)).take (min (List.replicate x (I c)).length (25 - x)) = List.replicate (min x (25 - x)) (I c) := by simp
  rw [e6] at hS5
  have e7 : min (List.replicate x (I c)).length (25 - x) = min x (25 - x) := by simp
  rw [e7]
  have e8 := qV (I c) (.int .i64 0) (min x (25 - x)) x 25 (by omega)
  have hS6 : St prog H H4 [⟨w, 1, (List.replicate (x + min x (25 - x)) (c : Int) ++ List.replicate (25 - (x + min x (25 - x))) 0).flatMap (one I)⟩] := by
   rw [← e3, ← e8, e3]
   exact hS5
  simp (disch := omega) only [↓RA, RZ, simprocAttr, hn, g4, g7]
  exact ⟨25 - (x + min x (25 - x)), by omega, x + min x (25 - x), ⟨by omega, by omega⟩, by simp, hS6⟩
 simp (disch := omega) only [↓RA, RZ, simprocAttr, hn, g7, c3N, q1]
 have e : x = 25 := by omega
 subst e
 have hfin : ((List.replicate 25 (c : Int) ++ List.replicate (25 - 25) 0).flatMap (one I)) = List.replicate 25 (I c) := by rw [← e3]; rfl
 have h9 := hS2
 rw [hfin] at h9
 exact h9
end Go.Ds
namespace Go.Ds
open Go.Proofs
variable {H : Heap}
set_option maxRecDepth 10000
set_option maxHeartbeats 1000000
section
variable (w1 w2 w3 w4 w5 w6 w7 : Value)
def b0a (x : Int × Int) : List (Int × Int) → List (Int × Int)
 | [] => [x]
 | y :: l => if le2 x y then x :: y :: l else y :: b0a x l
def a8z : List (Int × Int) → List (Int × Int)
 | [] => []
 | x :: l => b0a x (a8z l)
theorem a0t (x : Int × Int) : ∀ l, (b0a x l).Perm (x :: l)
 | [] => .refl _
 | y :: l => by
   unfold b0a
   split
   ·exact .refl _
   ·exact ((a0t x l).cons y).trans (.swap ..)
theorem a4i : ∀ l, (a8z l).Perm l
 | [] => .refl _
 | x :: l => (a0t x _).trans ((a4i l).cons x)
theorem b2U (x y : Int × Int) : le2 x y = false → le2 y x = true := by
 intro h
 rw [← ek] at h
 rw [nE] at h ⊢
 omega
theorem a0C (x : Int × Int) : ∀ l : List (Int × Int), l.Pairwise (fun a b => le2 a b = true) → (b0a x l).Pairwise fun a b => le2 a b = true
 | [], _ => by simp [b0a]
 | y :: l, h => by
   have h1 := gL.1 h
   unfold b0a
   split
   ·rename_i hxy
    refine gL.2 ⟨fun z hz => ?_, h⟩
    rcases dN.1 hz with rfl | hz
    ·exact hxy
    ·have h2 := h1.1 z hz
     rw [nE] at *
     omega
   ·rename_i hxy
    refine gL.2 ⟨fun z hz => ?_, a0C x l h1.2⟩
    rcases dN.1 ((a0t x l).mem_iff.1 hz) with rfl | hz
    ·exact b2U _ _ (by simpa using hxy)
    ·exact h1.1 z hz
theorem a0I : ∀ l : List (Int × Int), (a8z l).Pairwise fun a b => le2 a b = true
 | [] => .nil
 | x :: l => a0C x _ (a0I l)
theorem b3H : oT = a8z := by
 funext l
 refine List.Perm.eq_of_pairwise (le := fun a b => le2 a b = true) (fun a b _ _ h1 h2 => ?_) (sM l) (a0I l) ((mP l).trans (a4i l).symm)
 rw [nE] at h1 h2
 exact fQ (by omega) (by omega)
def c0t (s : List Ct → List Ct) (o : Org) (r : Reg) (l : List Ct) : List Ct := dd (s (l.filter (fun c => !r.off.testBit c.1.toNat) ++ bfs o r.cpl 1100 0 (kJ o r.cpl l)))
def c1i (s : List Ct → List Ct) (rs : List Rk) (p : Stp) (key : Int) : List Ct := dd (s (((a5l p key).filter fun d => qP rs d key).map fun d => mD rs d key))
def c0U (s : List Ct → List Ct) (o : Org) (r : Reg) (c : Ct) : List Ct := (List.range (iA o.dvs c.1.toNat).stops.length).flatMap fun i => if (iA r.stops c.1.toNat).testBit i then c1i s o.ranks (iA (iA o.dvs c.1.toNat).stops i) c.2 else []
end
end Go.Ds
namespace Go.Ds
open Go.Proofs Go.Proofs.Tryz
variable {H : Heap}
set_option maxRecDepth 10000
set_option maxHeartbeats 1000000
theorem a3t (hG : Glob gH H) (s : ByteArray) : Fn prog 84 [.string s] H fun r H' => ∃ wv, r = .agg #[.string s, .string ⟨#[102, 108, 117, 116, 101]⟩, I 8, I 1, I 36, wv] ∧ St prog H H' [⟨wv, 1, List.replicate 25 (I 1)⟩] := by
 refine .aU func84 rfl (by kernel_rfl) (m := 8) rfl fun l hn g0 => ?_
 simp (disch := omega) only [↓RA, RZ, simprocAttr]
 refine (sR H).eNew 6 [(.string ⟨#[]⟩), (.string ⟨#[]⟩), I 0, I 0, I 0, (.slice none 0 0)] rfl rfl rfl yO fun A1 H1 hS1 => ?_
 simp only [RT] at hS1
 simp (disch := omega) only [↓RA, RB, simprocAttr, g0, uH]
 refine hS1.aj [I 1] a1G a7w rfl rfl (by simp [Value.cells]) rfl rfl (by decide) (by decide) fun w1 H2 hS2 => ?_
 simp only [RT] at hS2
 simp (disch := omega) only [↓RA, RZ, simprocAttr, hn]
 refine iF ((b6o (hS2.gl hG) w1 (hS2.aw 1 rfl (fun _ => rfl))).tr) ?_
 rintro r H3 ⟨-, hT1⟩
 have hS3 := hS2.trans hT1
 simp only [RT] at hS3
 obtain ⟨wv, rfl⟩ : ∃ w, w = r := ⟨r, rfl⟩
 simp (disch := omega) only [↓RA, RB, simprocAttr, hn, a1I (hS3.rd 2 rfl).cells]
 refine hS3.aa 0 rfl [(.string s), (.string ⟨#[102, 108, 117, 116, 101]⟩), I 8, I 1, I 36, wv] rfl (by simp [OC, (hS3.rd 2 rfl).cells.2.1]) yO (by simp) fun H4 hS4 => ?_
 simp only [RT] at hS4
 simp (disch := omega) only [↓RA, RZ, simprocAttr, hn, c5w, hS4.ai 0 rfl]
 exact ⟨wv, rfl, hS4.pick [2] (by decide) rfl⟩
theorem a3U (n feet shift : Int) : Fn prog 83 [I n, I feet, I shift] H fun r H' => ∃ dv gv, St prog H H' [⟨dv, 2, [I n, I shift]⟩, ⟨gv, 3, [I 36, I 48, dv]⟩, ⟨r, 4, [.string ⟨#[97]⟩, I feet, I 1, gv]⟩] := by
 refine .bp func83 rfl (by kernel_rfl) (m := 17) rfl fun l hn g0 g1 g2 => ?_
 simp (disch := omega) only [↓RA, RB, simprocAttr, hn, g0, g1, g2, uH, qB]
 refine (sR H).aj [I n, I shift] a3G a3B rfl rfl (by simp [Value.cells]) rfl rfl (by decide) (by decide) fun w1 H1 hS1 => ?_
 simp only [RT] at hS1
 simp (disch := omega) only [↓RA, RB, simprocAttr, hn, lF (hS1.rd 0 rfl).cells]
 refine hS1.aj [I 36, I 48, w1] pQ vR rfl rfl (by first | (simp []; done) | simp [Value.cells]) (by first | (simp []; done) | simp [Value.cells]) (by simp [OC, (hS1.rd 0 rfl).cells.2.1]) (by decide) (by decide) fun w2 H2 hS2 => ?_
 simp only [RT] at hS2
 simp (disch := omega) only [↓RA, RB, simprocAttr, hn, a7e (hS2.rd 1 rfl).cells]
 refine hS2.aj [(.string ⟨#[97]⟩), I feet, I 1, w2] b3Y c0l rfl rfl (by first | (simp []; done) | simp [Value.cells]) (by first | (simp []; done) | simp [Value.cells]) (by simp [OC, (hS2.rd 1 rfl).cells.2.1]) (by decide) (by decide) fun w3 H3 hS3 => ?_
 simp only [RT] at hS3
 simp (disch := omega) only [↓RA, RB, simprocAttr, hn, c5K]
 exact ⟨w1, w2, hS3⟩
def exE (w1 w2 : Value) (d1 g1 s1 d2 g2 s2 : Value) (w3 w4 w5 : Value) : Org := ⟨⟨#[101]⟩, w3, [⟨⟨#[114]⟩, ⟨#[102, 108, 117, 116, 101]⟩, 8, 1, 36, w1, List.replicate 25 1⟩, ⟨⟨#[115]⟩, ⟨#[102, 108, 117, 116, 101]⟩, 8, 1, 36, w2, List.replicate 25 1⟩], w4,
 [⟨⟨#[111, 110, 101]⟩, false, 36, 48, s1, [⟨⟨#[97]⟩, 8, 1, g1, [⟨36, 48, d1, [⟨0, 0⟩]⟩]⟩]⟩, ⟨⟨#[116, 119, 111]⟩, false, 36, 48, s2, [⟨⟨#[97]⟩, 4, 1, g2, [⟨36, 48, d2, [⟨1, 12⟩]⟩]⟩]⟩], w5, [⟨⟨#[99]⟩, 0, 1, 0, false⟩]⟩
theorem a6C (hG : Glob gH H) : Fn prog 41 [] H fun r H' => ∃ w1 w2 d1 g1 s1 d2 g2 s2 w3 w4 w5, r = .agg #[.string (exE w1 w2 d1 g1 s1 d2 g2 s2 w3 w4 w5).name, w3, w4, w5] ∧ (exE w1 w2 d1 g1 s1 d2 g2 s2 w3 w4 w5).In H' ∧ St prog H H' [] := by
 refine .cO func41 rfl (by kernel_rfl) (m := 19) rfl fun l hn => ?_
 simp (disch := omega) only [↓RA, RZ, simprocAttr]
 refine (sR H).eNew 4 [(.string ⟨#[]⟩), (.slice none 0 0), (.slice none 0 0), (.slice none 0 0)] rfl rfl rfl mR fun A1 H1 hS1 => ?_
 simp only [RT] at hS1
 simp (disch := omega) only [↓RA, RZ, simprocAttr, a3j]
 refine hS1.eNew 2 [I 0, I 0] rfl rfl rfl tN fun A2 H2 hS2 => ?_
 simp only [RT] at hS2
 simp (disch := omega) only [↓RA, RB, simprocAttr, hn]
 refine hS2.aa 1 rfl [I 36, I 48] rfl rfl tN (by simp) fun H3 hS3 => ?_
 simp only [RT] at hS3
 simp (disch := omega) only [↓RA, RB, simprocAttr]
 refine Wp.cg kF [0, 1, 4, 5, 8, 9, 2, 3, 6, 7, 10, 11, 12, 13, 14, 15] [0, 1, 6, 7, 2, 3, 8, 9, 4, 5, 10, 11, 12, 13, 14, 15] ⟨true, [36], []⟩ [(7, 0), (7, 1), (7, 2), (7, 4), (7, 6), (9, 0), (9, 1), (9, 2), (9, 4), (9, 6)] (by kernel_rfl) (by kernel_rfl) (by kernel_rfl) ?_
 simp (disch := omega) only [↓RA, RZ, simprocAttr]
 refine iF (a3t (hS3.gl hG) _) ?_
 rintro r H4 ⟨wv1, rfl, hT1⟩
 have hS4 := hS3.trans hT1
 simp only [RT] at hS4
 simp (disch := omega) only [↓RA, RZ, simprocAttr]
 refine iF (a3t (hS4.gl hG) _) ?_
 rintro r H5 ⟨wv2, rfl, hT2⟩
 have hS5 := hS4.trans hT2
 simp only [RT] at hS5
 simp (disch := omega) only [↓RA, RZ, simprocAttr, hn]
 refine iF (a3U 0 8 0) ?_
 rintro r H6 ⟨d1, g1, hT3⟩
 have hS6 := hS5.trans hT3
 simp only [RT] at hS6
 obtain ⟨s1, rfl⟩ : ∃ w, w = r := ⟨r, rfl⟩
 simp (disch := omega) only [↓RA, RZ, simprocAttr, hn]
 refine iF (a3U 1 4 12) ?_
 rintro r H7 ⟨d2, g2, hT4⟩
 have hS7 := hS6.trans hT4
 simp only [RT] at hS7
 obtain ⟨s2, rfl⟩ : ∃ w, w = r := ⟨r, rfl⟩
 simp (disch := omega) only [↓RA, RB, simprocAttr, hn]
 refine hS7.aj [(.string ⟨#[114]⟩), (.string ⟨#[102, 108, 117, 116, 101]⟩), I 8, I 1, I 36, wv1, (.string ⟨#[115]⟩), (.string ⟨#[102, 108, 117, 116, 101]⟩), I 8, I 1, I 36, wv2] c0V c3y rfl rfl (by first | (simp []; done) | simp [Value.cells]) (by first | (simp []; done) | simp [Value.cells]) (by simp [OC, (hS7.rd 2 rfl).cells.2.1, (hS7.rd 3 rfl).cells.2.1]) (by decide) (by decide) fun w1 H8 hS8 => ?_
 simp only [RT] at hS8
 simp (disch := omega) only [↓RA, RZ, simprocAttr, hn, hS8.ai 1 rfl, a0B (hS8.rd 6 rfl).cells, a0B (hS8.rd 9 rfl).cells]
 refine hS8.aj [(.string ⟨#[111, 110, 101]⟩), (.bool false), I 36, I 48, s1, (.string ⟨#[116, 119, 111]⟩), (.bool false), I 36, I 48, s2] c1b c3G rfl rfl (by first | (simp []; done) | simp [Value.cells]) (by first | (simp []; done) | simp [Value.cells]) (by simp [OC, (hS8.rd 6 rfl).cells.2.1, (hS8.rd 9 rfl).cells.2.1]) (by decide) (by decide) fun w2 H9 hS9 => ?_
 simp only [RT] at hS9
 simp (disch := omega) only [↓RA, RB, simprocAttr, hn, a7K]
 refine hS9.aj [(.string ⟨#[99]⟩), I 0, I 1, I 0, (.bool false)] a8H b7n rfl rfl (by simp [Value.cells]) rfl rfl (by decide) (by decide) fun w3 H10 hS10 => ?_
 simp only [RT] at hS10
 simp (disch := omega) only [↓RA, RB, simprocAttr, hn, a5c (hS10.rd 10 rfl).cells (hS10.rd 11 rfl).cells (hS10.rd 12 rfl).cells]
 refine hS10.aa 0 rfl [(.string ⟨#[101]⟩), w1, w2, w3] rfl (by simp [OC, (hS10.rd 10 rfl).cells.2.1, (hS10.rd 11 rfl).cells.2.1, (hS10.rd 12 rfl).cells.2.1]) mR (by simp) fun H11 hS11 => ?_
 simp only [RT] at hS11
 simp (disch := omega) only [↓RA, RZ, simprocAttr, hn, hS3.ai 1 rfl, hS4.ai 1 rfl, hS5.ai 1 rfl, hS6.ai 1 rfl, hS7.ai 1 rfl, c5u, hS11.ai 0 rfl]
 have h1 : Sl 1 (one I) H11 wv1 (List.replicate 25 1) := hS11.aw 2 rfl (fun _ => rfl)
 have h2 : Sl 1 (one I) H11 wv2 (List.replicate 25 1) := hS11.aw 3 rfl (fun _ => rfl)
 have h3 : Sl 2 Drw.cells H11 d1 [⟨0, 0⟩] := hS11.aw 4 rfl (fun _ => rfl)
 have h4 : Sl 3 Seg.cells H11 g1 [⟨36, 48, d1, [⟨0, 0⟩]⟩] := hS11.aw 5 rfl (fun _ => rfl)
 have h5 : Sl 4 Stp.cells H11 s1 [⟨⟨#[97]⟩, 8, 1, g1, [⟨36, 48, d1, [⟨0, 0⟩]⟩]⟩] := hS11.aw 6 rfl (fun _ => rfl)
 have h6 : Sl 2 Drw.cells H11 d2 [⟨1, 12⟩] := hS11.aw 7 rfl (fun _ => rfl)
 have h7 : Sl 3 Seg.cells H11 g2 [⟨36, 48, d2, [⟨1, 12⟩]⟩] := hS11.aw 8 rfl (fun _ => rfl)
 have h8 : Sl 4 Stp.cells H11 s2 [⟨⟨#[97]⟩, 4, 1, g2, [⟨36, 48, d2, [⟨1, 12⟩]⟩]⟩] := hS11.aw 9 rfl (fun _ => rfl)
 have h9 : Sl 6 Rk.cells H11 w1 (exE wv1 wv2 d1 g1 s1 d2 g2 s2 w1 w2 w3).ranks := hS11.aw 10 rfl (fun _ => rfl)
 have h10 : Sl 5 Dvn.cells H11 w2 (exE wv1 wv2 d1 g1 s1 d2 g2 s2 w1 w2 w3).dvs := hS11.aw 11 rfl (fun _ => rfl)
 have h11 : Sl 5 Cpl.cells H11 w3 (exE wv1 wv2 d1 g1 s1 d2 g2 s2 w1 w2 w3).cpls := hS11.aw 12 rfl (fun _ => rfl)
 refine ⟨wv1, wv2, d1, g1, s1, d2, g2, s2, w1, w2, w3, rfl, ⟨h9, ?_, h10, ?_, h11, by simp [exE], by simp [exE], by simp [exE]⟩, hS11.forget⟩
 ·intro r hr
  simp only [exE, dN, dZ, or_false] at hr
  rcases hr with rfl | rfl
  ·exact ⟨h1, by simp⟩
  ·exact ⟨h2, by simp⟩
 ·intro d hd
  simp only [exE, dN, dZ, or_false] at hd
  rcases hd with rfl | rfl
  ·exact ⟨h5, fun s hs => by rw [dJ.1 hs]; exact ⟨h4, fun g hg => by rw [dJ.1 hg]; exact ⟨h3, by simp⟩, by simp⟩, by simp⟩
  ·exact ⟨h8, fun s hs => by rw [dJ.1 hs]; exact ⟨h7, fun g hg => by rw [dJ.1 hg]; exact ⟨h6, by simp⟩, by simp⟩, by simp⟩
section
variable (w1 w2 d1 g1 s1 d2 g2 s2 w3 w4 w5 : Value)
theorem b8g (off : Nat) (h : off < 2) : qM (exE w1 w2 d1 g1 s1 d2 g2 s2 w3 w4 w5) ⟨[1, 1], 1, off⟩ = 0 := by
 rcases (by omega : off = 0 ∨ off = 1) with rfl | rfl
 ·kernel_rfl
 ·kernel_rfl
theorem b4v : nY (exE w1 w2 d1 g1 s1 d2 g2 s2 w3 w4 w5) [jI [40], (0, 0)] = 0 := by kernel_rfl
theorem b7m : jX (exE w1 w2 d1 g1 s1 d2 g2 s2 w3 w4 w5) ⟨[1, 1], 1, 0⟩ (iE [jI [40], (0, 0)]) = [(0, 40), (1, 40)] := by
 unfold jX
 rw [b3H]
 kernel_rfl
end
theorem b8n (v : Value) (k : FuncId) : Fn prog 120 [v, I 0, I 1, .func (.func k) #[] #[]] H fun r H' => r = .tuple #[] ∧ St prog H H' [] := by
 refine .cJ func120 rfl (by kernel_rfl) (m := 53) rfl fun l hn g0 g1 g2 g3 => ?_
 simp (disch := omega) only [↓RA, RB, simprocAttr, hn, g1]
 refine Wp.ak (fun n l H' => l.length = 53 ∧ get l 8 = I 1 ∧ get l 2 = I 1 ∧ St prog H H' []) 1 ?_ ?_
 ·simp (disch := omega) only [RB, RC, simprocAttr, hn, g2]
  exact (sR H)
 rintro n l H9 ⟨hn, g8, g2, hS9⟩
 simp (disch := omega) only [↓RA, RZ, simprocAttr, hn, g8, g2, c4w]
 first | exact hS9 | exact ⟨rfl, hS9⟩
theorem a8s (v : Value) (k : FuncId) : Fn prog 82 [v, I 1, .func (.func k) #[] #[]] H fun r H' => r = .tuple #[] ∧ St prog H H' [] := by
 refine .bp func82 rfl (by kernel_rfl) (m := 63) rfl fun l hn g0 g1 g2 => ?_
 simp (disch := omega) only [↓RA, RB, simprocAttr, hn]
 refine Wp.ak (fun n l H' => l.length = 63 ∧ get l 0 = v ∧ get l 1 = I 1 ∧ get l 2 = .func (.func k) #[] #[] ∧ get l 6 = I 20 ∧ get l 7 = I 0 ∧ get l 8 = I 20 ∧ St prog H H' []) 1 ?_ ?_
 ·simp (disch := omega) only [RB, RC, simprocAttr, hn, g0, g1, g2]
  exact (sR H)
 rintro n l H9 ⟨hn, g0, g1, g2, g6, g7, g8, hS9⟩
 simp (disch := omega) only [↓RA, RZ, simprocAttr, hn, g0, g1, g2, g7, g8]
 refine (sR H9).cF (b8n v k) fun H1 hS1 => ?_
 simp (disch := omega) only [↓RA, simprocAttr]
 have hS8 := hS9.trans hS1
 refine Wp.ak (fun n l H' => l.length = 63 ∧ get l 1 = I 1 ∧ get l 6 = I 20 ∧ St prog H H' []) 1 ?_ ?_
 ·simp (disch := omega) only [RB, RC, simprocAttr, hn, g1, g6]
  exact hS8
 rintro n l H7 ⟨hn, g1, g6, hS7⟩
 simp (disch := omega) only [↓RA, RZ, simprocAttr, hn, g1, g6, c6h]
 first | exact hS7 | exact ⟨rfl, hS7⟩
def a5R (x : Ct × Int) : List Value := [I x.1.1, I x.1.2, I x.2]
theorem a6V (v : Value) (x : Ct × Int) (hv : Sl 3 a5R H v [x]) (k : FuncId) : Fn prog 38 [v, .func (.func k) #[] #[]] H fun r H' => r = .tuple #[] ∧ St prog H H' [] := by
 have h1 : (([x] : List (Ct × Int)).length : Int) = 1 := rfl
 refine .aF func38 rfl (by kernel_rfl) (m := 9) rfl fun l hn g0 g1 => ?_
 simp (disch := omega) only [↓RA, RZ, simprocAttr, hn, g0, g1, ((sR H).sl hv).len]
 refine (sR H).cF (a8s v k) fun H1 hS1 => ?_
 simp (disch := omega) only [↓RA, RZ, simprocAttr, c5M]
 first | exact hS1 | exact ⟨rfl, hS1⟩
theorem b1v (hG : Glob gH H) : Fn prog 78 [.agg #[I 8, I 1], .agg #[I 8, I 1]] H fun r H' => r = .tuple #[I 0, I 0] ∧ St prog H H' [] := by
 have h := a1w hG (a := (8, 1)) (b := (8, 1)) (by simp [kZ]) (by simp [lR])
 rw [show shF (8, 1) (8, 1) = 0 from by kernel_rfl] at h
 exact h.mono fun _ _ h => ⟨h.1.1, h.2⟩
def a7q (o : Org) (p : Ct) : Ct × Int := (p, (iA o.ranks p.1.toNat).first + p.2 + 0)
theorem a9X (hG : Glob gH H) (o : Org) (ho : o.In H) (rg : Reg) (sv : Value) (hr : rg.In H sv) (kv : Value) (ks : List Nt) (hk : Ks H kv ks) (h0 : rkE o rg ks = 0) (i m : Nat) (hsp : a3f o rg ks = [((i : Int), (m : Int))]) (hi : i < o.ranks.length) (hm : m < 1000)
 (hf : (iA o.ranks i).num = 8 ∧ (iA o.ranks i).den = 1 ∧ -1000 ≤ (iA o.ranks i).first ∧ (iA o.ranks i).first ≤ 1000) :
 Fn prog 36 [.agg #[.string o.name, o.rv, o.dv, o.cv], .agg #[sv, .int .u64 rg.cpl, .int .u64 rg.off], kv] H fun r H' => ∃ hv, r = .tuple #[hv, I 0] ∧ St prog H H' [⟨hv, 3, a5R (a7q o ((i : Int), (m : Int)))⟩] := by
 obtain ⟨f1, f2, f3, f4⟩ := hf
 refine .bp func36 rfl (by kernel_rfl) (m := 61) rfl fun l hn g0 g1 g2 => ?_
 simp (disch := omega) only [↓RA, RB, simprocAttr, g0]
 refine (sR H).eNew 4 [(.string o.name), o.rv, o.dv, o.cv] rfl rfl (by simp [OC, ((sR H).sl ho.1).cells.2.1, ((sR H).sl ho.2.2.1).cells.2.1, ((sR H).sl ho.2.2.2.2.1).cells.2.1]) mR fun A1 H1 hS1 => ?_
 simp only [RT] at hS1
 simp (disch := omega) only [↓RA, RB, simprocAttr, g1]
 refine hS1.eNew 3 [sv, (.int .u64 rg.cpl), (.int .u64 rg.off)] rfl rfl (by simp [OC, (hS1.sl hr.1).cells.2.1]) pE fun A2 H2 hS2 => ?_
 simp only [RT] at hS2
 simp (disch := omega) only [↓RA, RZ, simprocAttr, hn, g2, hS2.ai 0 rfl, hS2.ai 1 rfl]
 refine iF (a0x (hS2.gl hG) o (ho.ag hS2) rg sv (hr.ag hS2) kv ks (hk.ag hS2)) ?_
 rintro r H3 ⟨pv, rfl, hx, hT1⟩
 have hS3 := hS2.trans hT1
 simp only [RT] at hS3
 rw [h0]
 rw [hsp] at hx
 have hl1 : (([((i : Int), (m : Int))] : List Ct).length : Int) = 1 := rfl
 have hS0 := hS3
 have ho2 := ho.ag hS0
 have hG2 := hS0.gl hG
 simp (disch := omega) only [↓RA, RZ, simprocAttr, hn, ((sR H3).sl hx.1).len]
 have hS4 := (sR H3).nil 2
 simp only [RT] at hS4
 refine Wp.ak (fun n l H' => l.length = 61 ∧ get l 3 = (ptr A1 0 4) ∧ get l 6 = (.slice none 0 0) ∧ get l 7 = I 0 ∧ get l 26 = pv ∧ ∃ (j : Nat) (ov : Value), (n + j = 1) ∧ get l 28 = I j ∧ get l 10 = ov ∧ get l 27 = I 1 ∧ St prog H3 H' [⟨ov, 3, ([a7q o ((i : Int), (m : Int))].take j).flatMap a5R⟩]) 1 ?_ ?_
 ·simp (disch := omega) only [RB, RC, simprocAttr, hn]
  exact ⟨0, .slice none 0 0, by omega, rfl, rfl, hS4⟩
 rintro n l H4 ⟨hn, g3, g6, g7, g26, j, ov, hj, g28, qX, g27, hS5⟩
 simp (disch := omega) only [↓RA, RB, simprocAttr, hn, g28, g27]
 refine hK (fun q1 => ?_) (fun q1 => ?_)
 ·have hj0 : j = 0 := by omega
  have hn0 : iA ([((i : Int), (m : Int))] : List Ct) j = ((i : Int), (m : Int)) := by rw [hj0]; rfl
  simp (disch := omega) only [↓RA, RZ, simprocAttr, hn, g26, g28, (hS5.sl hx.1).idx, (hS5.sl hx.1).ai, jJ, q1, hn0]
  refine hS5.eNew 2 [I 0, I 0] rfl rfl rfl pH fun A3 H5 hS6 => ?_
  simp only [RT] at hS6
  simp (disch := omega) only [↓RA, RZ, simprocAttr, hn, q1]
  refine hS6.aa 1 rfl [I i, I m] rfl rfl pH (by simp) fun H6 hS7 => ?_
  simp only [RT] at hS7
  simp (disch := omega) only [↓RA, RZ, simprocAttr, hn, g3, ((hS0.var 0 rfl).ag hS7.ag).ld, hS7.ld 1 rfl, (hS7.sl ho2.1).idx, (hS7.sl ho2.1).ai, Rk.cells, q1]
  refine hS7.eNew 6 [(.string ⟨#[]⟩), (.string ⟨#[]⟩), I 0, I 0, I 0, (.slice none 0 0)] rfl rfl rfl yO fun A4 H7 hS8 => ?_
  simp only [RT] at hS8
  simp (disch := omega) only [↓RA, RZ, simprocAttr, hn, q1]
  refine hS8.aa 2 rfl [(.string (iA o.ranks i).name), (.string (iA o.ranks i).tone), I (iA o.ranks i).num, I (iA o.ranks i).den, I (iA o.ranks i).first, (iA o.ranks i).wv] rfl (by simp [OC, (hS8.sl (ho2.2.1 (iA o.ranks i) (iC (by omega))).1).cells.2.1]) yO (by simp) fun H8 hS9 => ?_
  simp only [RT] at hS9
  simp (disch := omega) only [↓RA, RZ, simprocAttr, hn, hS9.ai 2 rfl, uH, q1]
  rw [f1, f2]
  refine hS9.cF (b1v (hS9.gl hG2)) fun H9 hS10 => ?_
  simp (disch := omega) only [↓RA, RZ, simprocAttr, hn, qX, hS10.ai 1 rfl, hS10.ld 2 rfl, hS10.ld 1 rfl, a7W, q1]
  refine hS10.aj [I i, I m, _] c0w c4a rfl rfl (by simp [Value.cells]) rfl rfl (by decide) (by decide) fun w1 H10 hS11 => ?_
  simp only [RT] at hS11
  simp (disch := omega) only [↓RA, RZ, simprocAttr, hn, q1]
  refine hS11.aq 0 rfl (hS11.rd 3 rfl) c0w (by rw [hj0]; simp) fun w2 H11 hS12 => ?_
  simp only [RT] at hS12
  simp (disch := omega) only [↓RA, RZ, simprocAttr, hn, g3, g6, g7, g26, g28, g27, q1]
  refine ⟨0, by omega, 1, w2, by omega, by rw [hj0]; rfl, rfl, ?_⟩
  have h9 := hS12.pick (os' := [⟨w2, 3, _⟩]) [0] (by decide) rfl
  rw [hj0] at h9
  exact h9
 have hj1 : j = 1 := by omega
 simp (disch := omega) only [↓RA, RZ, simprocAttr, hn, qX, q1]
 have hnt := (hS5.aw (cel := a5R) (xs := [a7q o ((i : Int), (m : Int))].take j) 0 rfl (fun _ => rfl)).br
 refine hS5.cF (a6V ov (a7q o ((i : Int), (m : Int))) (by have h := hS5.aw (cel := a5R) (xs := [a7q o ((i : Int), (m : Int))].take j) 0 rfl (fun _ => rfl); rw [hj1] at h; exact h) 79) fun H12 hS13 => ?_
 simp (disch := omega) only [↓RA, RZ, simprocAttr, hn, qX, c5D, q1, hnt]
 refine ⟨ov, rfl, ?_⟩
 have hfin := hS13
 rw [hj1] at hfin
 exact hS0.forget.trans hfin
theorem a8B (v w : Value) (xs ys : List Ct) (hv : Sl 2 jJ H v xs) (hw : Sl 2 jJ H w ys) (hl : xs.length < 1000000000) (hl2 : ys.length < 1000000000) :
 Fn prog 16 [v, w] H fun r H' => r = .bool (decide (xs = ys)) ∧ St prog H H' [] := by
 refine .aF func16 rfl (by kernel_rfl) (m := 26) rfl fun l hn g0 g1 => ?_
 simp (disch := omega) only [↓RA, RZ, simprocAttr, hn, g0, g1, ((sR H).sl hv).len, ((sR H).sl hw).len]
 refine hK (fun h1 => ?_) (fun h1 => ?_)
 ·simp (disch := omega) only [↓RA, RZ, simprocAttr, hn, c1g, h1]
  exact ⟨by rw [decide_eq_false]; intro e; rw [e] at h1; exact h1 rfl, (sR H)⟩
 simp (disch := omega) only [↓RA, RZ, simprocAttr, hn, g0, ((sR H).sl hv).len, h1]
 refine Wp.ak (fun n l H' => l.length = 26 ∧ get l 0 = v ∧ get l 1 = w ∧ get l 12 = I xs.length ∧ ∃ (j : Nat), (n + j = xs.length ∧ ∀ q, q < j → iA xs q = iA ys q) ∧ get l 13 = I j ∧ St prog H H' []) xs.length ?_ ?_
 ·simp (disch := omega) only [RB, RC, simprocAttr, hn, g0, g1]
  exact ⟨0, ⟨by omega, fun q hq => absurd hq (dH _)⟩, rfl, (sR H)⟩
 rintro n l H1 ⟨hn, g0, g1, g12, j, ⟨hj,hz⟩, g13, hS1⟩
 simp (disch := omega) only [↓RA, RB, simprocAttr, hn, g12, g13]
 refine hK (fun q1 => ?_) (fun q1 => ?_)
 ·simp (disch := omega) only [↓RA, RZ, simprocAttr, hn, g13, q1]
  refine Wp.drw kF (by kernel_rfl) ?_
  simp (disch := omega) only [↓RA, RZ, simprocAttr, hn, g0, g1, (hS1.sl hv).idx, (hS1.sl hv).ai, jJ, (hS1.sl hw).idx, (hS1.sl hw).ai]
  refine hK (fun q2 => ?_) (fun q2 => ?_)
  ·simp (disch := omega) only [↓RA, RZ, simprocAttr, hn, c1g, q2]
   refine ⟨?_, hS1⟩
   rw [decide_eq_false]
   intro e
   rw [e] at q2
   exact q2 ⟨rfl, rfl⟩
  have q3 := dy.1 q2
  simp (disch := omega) only [↓RA, RZ, simprocAttr, hn, g0, g1, g12, g13, q2]
  exact ⟨n - 1, by omega, j + 1, ⟨by omega, fun q hq => by rcases dm.1 hq with e | e; (· exact hz q e); (· rw [e]; exact fQ q3.1 q3.2)⟩, by simp, hS1⟩
 simp (disch := omega) only [↓RA, RZ, simprocAttr, hn, c1g, q1]
 exact ⟨by rw [decide_eq_true]; exact wU (by omega) fun q hq => hz q (by omega), hS1⟩
theorem b6g (a b c : Int) : iK prog (part 70 #[I a, I b, I c] 0) = some (.agg #[I a, I b]) := by kernel_rfl
theorem b9P (a b c : Int) : iK prog (part 3 #[I a, I b, I c] 2) = some (I c) := by kernel_rfl
theorem c2E (x y : Ct × Int) : iK prog (Op.equalIn (9999 + 1) 94 (.agg [I x.1.1, I x.1.2, I x.2].toArray) (.agg [I y.1.1, I y.1.2, I y.2].toArray)) = some (decide (x = y)) := by
 have h52 : iK prog (Op.equalIn (9997 + 2) 70 (.agg [I x.1.1, I x.1.2].toArray) (.agg [I y.1.1, I y.1.2].toArray)) = some ((List.range [I x.1.1, I x.1.2].length).all fun j => eqC ([I x.1.1, I x.1.2].getD j undef) ([I y.1.1, I y.1.2].getD j undef)) :=
  yM 9997 (by kernel_rfl) (by kernel_rfl) (by kernel_rfl) rfl (by kernel_rfl)
 rw [a5O (fs := tS prog 94) (by kernel_rfl) (by kernel_rfl) (fun f => if f.offset = 0 then decide (x.1 = y.1) else decide (x.2 = y.2))]
 ·congr 1
  have hfl : (tS prog 94).map (·.offset) = [0, 2] := by kernel_rfl
  have e : (tS prog 94).all (fun f => if f.offset = 0 then decide (x.1 = y.1) else decide (x.2 = y.2)) = ((tS prog 94).map (·.offset)).all fun n => if n = 0 then decide (x.1 = y.1) else decide (x.2 = y.2) := by
   rw [List.all_map]
   rfl
  rw [e, hfl, dV]
  simp [Prod.ext_iff]
 ·intro f hf
  have hfs : (tS prog 94).map (fun f => (f.name != "_", f.type, f.offset)) = [(true, 70, 0), (true, 3, 2)] := by kernel_rfl
  have hm : (f.name != "_", f.type, f.offset) ∈ [(true, 70, 0), (true, 3, 2)] := by
   rw [← hfs]
   exact fJ hf
  simp only [dN, dZ, or_false, gi] at hm
  rcases hm with ⟨h1, h2, h3⟩ | ⟨h1, h2, h3⟩
  ·refine ⟨by simpa using h1, ?_⟩
   rw [h2, h3, if_pos rfl, iI, b6g, cV, iI, b6g, cV]
   refine h52.trans ?_
   congr 1
   show ((x.1.1 == y.1.1) && ((x.1.2 == y.1.2) && true)) = _
   rw [dV]
   first | done | simp [Prod.ext_iff]
  ·refine ⟨by simpa using h1, ?_⟩
   rw [h2, h3, if_neg (by decide), iI, b9P, cV, iI, b9P, cV]
   exact eq1 (P := prog) (t := 3) 9998 (by kernel_rfl)
theorem c4I (x y : Ct × Int) (t2 : TypeId) (cx cy : Bool) : kT prog .neq 94 t2 cx cy (.agg #[I x.1.1, I x.1.2, I x.2]) (.agg #[I y.1.1, I y.1.2, I y.2]) = some (.bool (decide (¬ x = y))) := by
 have h := a6d (t2 := t2) (cx := cx) (cy := cy) (decide (x = y)) (by kernel_rfl) (by rfl) (by rfl) (c2E x y)
 rw [h]
 simp
theorem a8X (v w : Value) (xs ys : List (Ct × Int)) (hv : Sl 3 a5R H v xs) (hw : Sl 3 a5R H w ys) (hl : xs.length < 1000000000) (hl2 : ys.length < 1000000000) :
 Fn prog 40 [v, w] H fun r H' => r = .bool (decide (xs = ys)) ∧ St prog H H' [] := by
 refine .aF func40 rfl (by kernel_rfl) (m := 26) rfl fun l hn g0 g1 => ?_
 simp (disch := omega) only [↓RA, RZ, simprocAttr, hn, g0, g1, ((sR H).sl hv).len, ((sR H).sl hw).len]
 refine hK (fun h1 => ?_) (fun h1 => ?_)
 ·simp (disch := omega) only [↓RA, RZ, simprocAttr, hn, c2q, h1]
  exact ⟨by rw [decide_eq_false]; intro e; rw [e] at h1; exact h1 rfl, (sR H)⟩
 simp (disch := omega) only [↓RA, RZ, simprocAttr, hn, g0, ((sR H).sl hv).len, h1]
 refine Wp.ak (fun n l H' => l.length = 26 ∧ get l 0 = v ∧ get l 1 = w ∧ get l 12 = I xs.length ∧ ∃ (j : Nat), (n + j = xs.length ∧ ∀ q, q < j → iA xs q = iA ys q) ∧ get l 13 = I j ∧ St prog H H' []) xs.length ?_ ?_
 ·simp (disch := omega) only [RB, RC, simprocAttr, hn, g0, g1]
  exact ⟨0, ⟨by omega, fun q hq => absurd hq (dH _)⟩, rfl, (sR H)⟩
 rintro n l H1 ⟨hn, g0, g1, g12, j, ⟨hj,hz⟩, g13, hS1⟩
 simp (disch := omega) only [↓RA, RB, simprocAttr, hn, g12, g13]
 refine hK (fun q1 => ?_) (fun q1 => ?_)
 ·have hne := fun t2 cx cy => c4I (iA xs j) (iA ys j) t2 cx cy
  simp (disch := omega) only [↓RA, RZ, simprocAttr, hn, g13, q1]
  refine Wp.drw kF (by kernel_rfl) ?_
  simp (disch := omega) only [↓RA, RZ, simprocAttr, hn, g0, g1, (hS1.sl hv).idx, (hS1.sl hv).ai, a5R, (hS1.sl hw).idx, (hS1.sl hw).ai, hne]
  refine hK (fun q2 => ?_) (fun q2 => ?_)
  ·simp (disch := omega) only [↓RA, RZ, simprocAttr, hn, c2q, q2]
   refine ⟨?_, hS1⟩
   rw [decide_eq_false]
   intro e
   rw [e] at q2
   exact q2 rfl
  have q3 := dy.1 q2
  simp (disch := omega) only [↓RA, RZ, simprocAttr, hn, g0, g1, g12, g13, q2]
  exact ⟨n - 1, by omega, j + 1, ⟨by omega, fun q hq => by rcases dm.1 hq with e | e; (· exact hz q e); (· rw [e]; exact q3)⟩, by simp, hS1⟩
 simp (disch := omega) only [↓RA, RZ, simprocAttr, hn, c2q, q1]
 exact ⟨by rw [decide_eq_true]; exact wU (by omega) fun q hq => hz q (by omega), hS1⟩
theorem a3D (o : Org) (r : Reg) (l : List Ct) : kD o r l = dd (a8z ((c0t a8z o r l).flatMap (c0U a8z o r))) := by
 rw [← b3H]
 rfl
section
variable (w1 w2 d1 g1 s1 d2 g2 s2 w3 w4 w5 : Value)
theorem a1L (off : Nat) (h : off < 2) : rkE (exE w1 w2 d1 g1 s1 d2 g2 s2 w3 w4 w5) ⟨[1, 1], 1, off⟩ [jI [40], (0, 0)] = 0 := by
 unfold rkE
 rw [b8g _ _ _ _ _ _ _ _ _ _ _ off h, if_neg (by decide), b4v]
theorem b4u : b3b (exE w1 w2 d1 g1 s1 d2 g2 s2 w3 w4 w5) ⟨[1, 1], 1, 0⟩ [jI [40], (0, 0)] = [(0, 40), (1, 40)] := by
 unfold b3b
 rw [a1L _ _ _ _ _ _ _ _ _ _ _ 0 (by decide), if_pos rfl, b7m]
theorem b4w : a3f (exE w1 w2 d1 g1 s1 d2 g2 s2 w3 w4 w5) ⟨[1, 1], 1, 0⟩ [jI [40], (0, 0)] = [(0, 4), (1, 16)] := by
 unfold a3f
 rw [a1L _ _ _ _ _ _ _ _ _ _ _ 0 (by decide), if_pos rfl, a3D]
 kernel_rfl
theorem b5S : a3f (exE w1 w2 d1 g1 s1 d2 g2 s2 w3 w4 w5) ⟨[1, 1], 1, 1⟩ [jI [40], (0, 0)] = [(1, 16)] := by
 unfold a3f
 rw [a1L _ _ _ _ _ _ _ _ _ _ _ 1 (by decide), if_pos rfl, a3D]
 kernel_rfl
end
theorem a4t (hG : Glob gH H) : Fn prog 41 [] H fun r H' => ∃ o : Org, r = .agg #[.string o.name, o.rv, o.dv, o.cv] ∧ (∃ w1 w2 d1 g1 s1 d2 g2 s2 w3 w4 w5, o = exE w1 w2 d1 g1 s1 d2 g2 s2 w3 w4 w5) ∧ o.In H' ∧ St prog H H' [] := by
 obtain ⟨h1, v, H1, h2, w1, w2, d1, g1, s1, d2, g2, s2, w3, w4, w5, h3, h4, h5⟩ := a6C hG
 exact ⟨h1, v, H1, h2, _, h3, ⟨w1, w2, d1, g1, s1, d2, g2, s2, w3, w4, w5, rfl⟩, h4, h5⟩
theorem a1s (hG : Glob gH H) : Fn prog 10 [] H fun r H' => r = .bool true ∧ St prog H H' [] := by
 refine .cO func10 rfl (by kernel_rfl) (m := 80) rfl fun l hn => ?_
 simp (disch := omega) only [↓RA, RZ, simprocAttr]
 refine iF (a4t ((sR H).gl hG)) ?_
 rintro r H1 ⟨o, rfl, ⟨v1, v2, v3, v4, v5, v6, v7, v8, v9, v10, v11, hoe⟩, ho, hT1⟩
 have hS1 := (sR H).trans hT1
 simp only [RT] at hS1
 have q1 : rkE o ⟨[1, 1], 1, 0⟩ [jI [40], (0, 0)] = 0 := by subst hoe; exact a1L _ _ _ _ _ _ _ _ _ _ _ 0 (by decide)
 have q2 : rkE o ⟨[1, 1], 1, 1⟩ [jI [40], (0, 0)] = 0 := by subst hoe; exact a1L _ _ _ _ _ _ _ _ _ _ _ 1 (by decide)
 have q3 : b3b o ⟨[1, 1], 1, 0⟩ [jI [40], (0, 0)] = [(0, 40), (1, 40)] := by subst hoe; exact b4u _ _ _ _ _ _ _ _ _ _ _
 have q4 : a3f o ⟨[1, 1], 1, 0⟩ [jI [40], (0, 0)] = [(0, 4), (1, 16)] := by subst hoe; exact b4w _ _ _ _ _ _ _ _ _ _ _
 have q5 : a3f o ⟨[1, 1], 1, 1⟩ [jI [40], (0, 0)] = [(1, 16)] := by subst hoe; exact b5S _ _ _ _ _ _ _ _ _ _ _
 have q6 : o.ranks.length = 2 ∧ (iA o.ranks 1).num = 8 ∧ (iA o.ranks 1).den = 1 ∧ (iA o.ranks 1).first = 36 := by subst hoe; exact ⟨rfl, rfl, rfl, rfl⟩
 clear hoe
 have hG1 : ∀ z ∈ [(40 : Int)], isN z := fun z hz => by rw [dJ.1 hz]; exact ⟨by decide, by decide⟩
 have hS0 := hS1
 have hG2 := hS0.gl hG
 simp (disch := omega) only [↓RA, RZ, simprocAttr]
 refine (sR H1).eNew 4 [(.string ⟨#[]⟩), (.slice none 0 0), (.slice none 0 0), (.slice none 0 0)] rfl rfl rfl mR fun A1 H2 hS2 => ?_
 simp only [RT] at hS2
 simp (disch := omega) only [↓RA, RB, simprocAttr, hn]
 refine hS2.aa 0 rfl [(.string o.name), o.rv, o.dv, o.cv] rfl (by simp [OC, (hS2.sl ho.1).cells.2.1, (hS2.sl ho.2.2.1).cells.2.1, (hS2.sl ho.2.2.2.2.1).cells.2.1]) mR (by simp) fun H3 hS3 => ?_
 simp only [RT] at hS3
 simp (disch := omega) only [↓RA, RB, simprocAttr]
 refine hS3.aj [I 40] a1G a7w rfl rfl (by simp [Value.cells]) rfl rfl (by decide) (by decide) fun w1 H4 hS4 => ?_
 simp only [RT] at hS4
 simp (disch := omega) only [↓RA, RZ, simprocAttr, hn]
 refine hS4.cF (xA [40] hG1 w1 (hS4.aw 1 rfl (fun _ => rfl)) (by simp)) fun H5 hS5 => ?_
 have hKo : ∀ x ∈ ([jI [40], (0, 0)] : List Nt), Nt.Ok x := by
  intro x hx
  simp only [dN, dZ, or_false] at hx
  rcases hx with rfl | rfl <;> exact ⟨by decide, by decide⟩
 have hRo : (⟨[1, 1], 1, 0⟩ : Reg).Ok := ⟨by decide, by decide, by decide, by decide⟩
 have hRo1 : (⟨[1, 1], 1, 1⟩ : Reg).Ok := ⟨by decide, by decide, by decide, by decide⟩
 simp (disch := omega) only [↓RA, RZ, simprocAttr, hn]
 refine hS5.eNew 2 [(.int .u64 0), (.int .u64 0)] rfl rfl rfl lK fun A2 H6 hS6 => ?_
 simp only [RT] at hS6
 simp (disch := omega) only [↓RA, RB, simprocAttr, hn]
 refine hS6.aa 2 rfl [(.int .u64 (jI [40]).1), (.int .u64 (jI [40]).2)] rfl rfl lK (by simp) fun H7 hS7 => ?_
 simp only [RT] at hS7
 simp (disch := omega) only [↓RA, RZ, simprocAttr, hn, hS7.ai 2 rfl, b5R]
 refine hS7.aj [(.int .u64 (jI [40]).1), (.int .u64 (jI [40]).2), (.int .u64 0), (.int .u64 0)] b3V c1k rfl rfl (by simp [Value.cells]) rfl rfl (by decide) (by decide) fun w2 H8 hS8 => ?_
 simp only [RT] at hS8
 simp (disch := omega) only [↓RA, RB, simprocAttr, hn]
 refine hS8.aj [(.int .u64 1), (.int .u64 1)] c2n c3v rfl rfl (by simp [Value.cells]) rfl rfl (by decide) (by decide) fun w3 H9 hS9 => ?_
 simp only [RT] at hS9
 simp (disch := omega) only [↓RA, RZ, simprocAttr, hn, b6B (hS9.rd 4 rfl).cells]
 refine hS9.eNew 3 [(.slice none 0 0), (.int .u64 0), (.int .u64 0)] rfl rfl rfl pE fun A3 H10 hS10 => ?_
 simp only [RT] at hS10
 simp (disch := omega) only [↓RA, RB, simprocAttr, hn]
 refine hS10.aa 5 rfl [w3, (.int .u64 1), (.int .u64 0)] rfl (by simp [OC, (hS10.rd 4 rfl).cells.2.1]) pE (by simp) fun H11 hS11 => ?_
 simp only [RT] at hS11
 simp (disch := omega) only [↓RA, RZ, simprocAttr, hn, hS11.ai 0 rfl, hS11.ai 5 rfl]
 have hS2 := hS11
 refine iF (a4H (hS11.gl hG2) o (ho.ag hS11) ⟨[1, 1], 1, 0⟩ w3 ⟨hS11.aw 4 rfl (fun _ => rfl), hRo⟩ w2 [jI [40], (0, 0)] ⟨hS11.aw 3 rfl (fun _ => rfl), by simp, hKo⟩) ?_
 rintro r H12 ⟨cv, rfl, hcx, hT3⟩
 have hS12 := hS11.trans hT3
 simp only [RT] at hS12
 rw [q3] at hcx
 rw [q1]
 have hcx2 := hcx.step (hS2.aH (H' := H12))
 obtain ⟨X, hBX, hS13⟩ := hS12.az (os := [⟨ptr A1 0 4, 0, _⟩, ⟨w1, 1, _⟩, ⟨ptr A2 0 2, 0, _⟩, ⟨w2, 2, _⟩, ⟨w3, 1, _⟩, ⟨ptr A3 0 3, 0, _⟩])
 simp (disch := omega) only [↓RA, RZ, simprocAttr, hn, hS13.ai 0 rfl, hS13.ai 5 rfl]
 have hS3 := hS13
 refine iF (a0x ((hS12.ab hBX hS13).gl hG2) o (ho.ag (hS12.ab hBX hS13)) ⟨[1, 1], 1, 0⟩ w3 ⟨hS13.aw 4 rfl (fun _ => rfl), hRo⟩ w2 [jI [40], (0, 0)] ⟨hS13.aw 3 rfl (fun _ => rfl), by simp, hKo⟩) ?_
 rintro r H13 ⟨pv, rfl, hpx, hT4⟩
 have hS14 := hS13.trans hT4
 simp only [RT] at hS14
 rw [q4] at hpx
 rw [q1]
 have hcx3 := hcx2.step (hS14.kept hBX)
 have hpx2 := hpx.step (hS3.aH (H' := H13))
 obtain ⟨Y, hBY, hS15⟩ := hS14.az (os := [⟨ptr A1 0 4, 0, _⟩, ⟨w1, 1, _⟩, ⟨ptr A2 0 2, 0, _⟩, ⟨w2, 2, _⟩, ⟨w3, 1, _⟩, ⟨ptr A3 0 3, 0, _⟩])
 simp (disch := omega) only [↓RA, RZ, simprocAttr, hn]
 refine hS15.aa 5 rfl [(.int .u64 1)] rfl rfl b9q (by simp) fun H14 hS16 => ?_
 simp only [RT] at hS16
 simp (disch := omega) only [↓RA, RZ, simprocAttr, hn, hS16.ai 0 rfl, hS16.ai 5 rfl]
 refine iF (a9X ((hS12.ab hBX (hS14.ab hBY hS16)).gl hG2) o (ho.ag (hS12.ab hBX (hS14.ab hBY hS16))) ⟨[1, 1], 1, 1⟩ w3 ⟨hS16.aw 4 rfl (fun _ => rfl), hRo1⟩ w2 [jI [40], (0, 0)] ⟨hS16.aw 3 rfl (fun _ => rfl), by simp, hKo⟩ q2 1 16 q5 (by rw [q6.1]; decide) (by decide) ⟨q6.2.1, q6.2.2.1, by rw [q6.2.2.2]; decide, by rw [q6.2.2.2]; decide⟩) ?_
 rintro r H15 ⟨dv, rfl, hT5⟩
 have hS17 := hS16.trans hT5
 simp only [RT] at hS17
 have hcx4 := hcx3.step (hS17.kept hBY)
 have hpx4 := hpx2.step (hS17.kept hBY)
 simp (disch := omega) only [↓RA, RZ, simprocAttr, hn, qK]
 refine hS17.aj [I 0, I 40, I 1, I 40] rT a2N rfl rfl (by simp [Value.cells]) rfl rfl (by decide) (by decide) fun w4 H16 hS18 => ?_
 simp only [RT] at hS18
 simp (disch := omega) only [↓RA, RZ, simprocAttr, hn]
 refine hS18.cF (a8B cv w4 [(0, 40), (1, 40)] [(0, 40), (1, 40)] (hcx3.step (hS18.kept hBY)).1 (hS18.aw 7 rfl jL) (by simp) (by simp)) fun H17 hS19 => ?_
 rw [decide_eq_true rfl]
 simp (disch := omega) only [↓RA, RZ, simprocAttr, hn, zA]
 refine hS19.aj [I 0, I 4, I 1, I 16] a2E b7u rfl rfl (by simp [Value.cells]) rfl rfl (by decide) (by decide) fun w5 H18 hS20 => ?_
 simp only [RT] at hS20
 simp (disch := omega) only [↓RA, RZ, simprocAttr, hn]
 refine hS20.cF (a1Q pv w5 [(0, 4), (1, 16)] [(0, 4), (1, 16)] (hpx2.step (hS20.kept hBY)).1 (hS20.aw 8 rfl jL) (by simp) (by simp)) fun H19 hS21 => ?_
 rw [decide_eq_true rfl]
 simp (disch := omega) only [↓RA, RZ, simprocAttr, hn, zA, a7W]
 refine hS21.aj [I 1, I 16, I 52] c0w c4a rfl rfl (by simp [Value.cells]) rfl rfl (by decide) (by decide) fun w6 H20 hS22 => ?_
 simp only [RT] at hS22
 simp (disch := omega) only [↓RA, RZ, simprocAttr, hn]
 have hhe : [a7q o (1, 16)] = [((1, 16), (52 : Int))] := by
  unfold a7q
  rw [show ((1, 16) : Ct).1.toNat = 1 from rfl, q6.2.2.2]
  rfl
 refine hS22.cF (a8X dv w6 [a7q o (1, 16)] [((1, 16), 52)] (hS22.aw 6 rfl (fun _ => rfl)) (hS22.aw 9 rfl (fun _ => rfl)) (by simp) (by simp)) fun H21 hS23 => ?_
 rw [decide_eq_true hhe]
 simp (disch := omega) only [↓RA, RZ, simprocAttr, hn, c6p]
 exact hS0.forget.trans (hS12.ab hBX (hS14.ab hBY hS23)).forget
def a2V (b b' : Nat → Nat) : Nat → Nat
 | 0 => b' 4 * 5
 | 1 => b' 3 * 9
 | _ => b 4 * 7
theorem a2Z (hG : Glob gH H) (p : Pln) (hp : p.In H) (hk : p.Ok) (b : Nat → Nat) (hb : ∀ i, b i < 256) (b' : Nat → Nat) (hb' : ∀ i, b' i < 256) :
 Fn prog 6 [.agg #[p.rv, p.dv, p.cv], .agg #[.int .u8 (b 0), .int .u8 (b 1), .int .u8 (b 2), .int .u8 (b 3), .int .u8 (b 4)], .agg #[.int .u8 (b' 0), .int .u8 (b' 1), .int .u8 (b' 2), .int .u8 (b' 3), .int .u8 (b' 4)]] H fun r H' => r = .bool true ∧ St prog H H' [] := by
 refine .bp func6 rfl (by kernel_rfl) (m := 80) rfl fun l hn g0 g1 g2 => ?_
 simp (disch := omega) only [↓RA, RB, simprocAttr, g0]
 refine (sR H).eNew 3 [p.rv, p.dv, p.cv] rfl rfl (by simp [((sR H).sl hp.1).cells.2.1, ((sR H).sl hp.2.1).cells.2.1, ((sR H).sl hp.2.2.2.1).cells.2.1]) b8o fun A1 H1 hS1 => ?_
 simp only [RT] at hS1
 simp (disch := omega) only [↓RA, RB, simprocAttr, g1]
 refine hS1.eNew 5 [(.int .u8 (b 0)), (.int .u8 (b 1)), (.int .u8 (b 2)), (.int .u8 (b 3)), (.int .u8 (b 4))] rfl rfl rfl b8R fun A2 H2 hS2 => ?_
 simp only [RT] at hS2
 simp (disch := omega) only [↓RA, RB, simprocAttr, g2]
 refine hS2.eNew 5 [(.int .u8 (b' 0)), (.int .u8 (b' 1)), (.int .u8 (b' 2)), (.int .u8 (b' 3)), (.int .u8 (b' 4))] rfl rfl rfl b8R fun A3 H3 hS3 => ?_
 simp only [RT] at hS3
 simp (disch := omega) only [↓RA, RZ, simprocAttr]
 refine hS3.cF (a1s (hS3.gl hG)) fun H4 hS4 => ?_
 simp (disch := omega) only [↓RA, RZ, simprocAttr, hn, hS4.ai 0 rfl]
 refine hS4.cF (b9r p (hp.ag hS4)) fun H5 hS5 => ?_
 simp (disch := omega) only [↓RA, RZ, simprocAttr, hn]
 refine jF (fun h1 => ?_) (fun h1 => ?_)
 ·simp (disch := omega) only [↓RA, RZ, simprocAttr]
  refine hS5.cF (a1s (hS5.gl hG)) fun H6 hS6 => ?_
  simp (disch := omega) only [↓RA, RZ, simprocAttr, hn, tR6, h1]
  exact hS6.forget
 have hf : wA p = true := by simpa using h1
 simp (disch := omega) only [↓RA, RZ, simprocAttr, hn, hS5.ai 0 rfl, h1]
 refine iF (b3h (hS5.gl hG) p (hp.ag hS5) hk hf) ?_
 rintro r H7 ⟨o, rfl, ho, hm, hT4⟩
 have hS7 := hS5.trans hT4
 simp only [RT] at hS7
 have hS0 := hS7
 have hG2 := hS0.gl hG
 have hoe := hm.ok.organE
 have hrg := a3p b hoe
 have hsg := a3p b' hoe
 have hf0 := Org.aX hoe
 obtain ⟨k1, k2, k3⟩ := hm.small hf
 have hok := a3C (o := o) hb k2
 have hok' := a3C (o := o) hb' k2
 have hc : ∀ i, a2V b b' i < 65536 := fun i => by
  have h1 := hb 4
  have h2 := hb' 4
  have h3 := hb' 3
  unfold a2V
  split <;> omega
 have hkl := tC o (a2V b b')
 have hkO := a6n hf0 (a2V b b')
 have hkE := a8k hoe (a2V b b')
 simp (disch := omega) only [↓RA, RZ, simprocAttr]
 refine (sR H7).eNew 4 [(.string ⟨#[]⟩), (.slice none 0 0), (.slice none 0 0), (.slice none 0 0)] rfl rfl rfl mR fun A4 H8 hS8 => ?_
 simp only [RT] at hS8
 simp (disch := omega) only [↓RA, RB, simprocAttr, hn, h1]
 refine hS8.aa 0 rfl [(.string o.name), o.rv, o.dv, o.cv] rfl (by simp [OC, (hS8.sl ho.1).cells.2.1, (hS8.sl ho.2.2.1).cells.2.1, (hS8.sl ho.2.2.2.2.1).cells.2.1]) mR (by simp) fun H9 hS9 => ?_
 simp only [RT] at hS9
 simp (disch := omega) only [↓RA, RB, simprocAttr, h1]
 refine Wp.aT kF [(3, 0), (4, 0)] (by kernel_rfl) (by kernel_rfl) ?_
 simp (disch := omega) only [↓RA, RZ, simprocAttr, hn, hS9.ai 0 rfl, ((hS0.var 1 rfl).ag hS9.ag).ai]
 have hD := a1v o (ho.ag hS9) k1 k2 k3 b hb
 generalize sQ o b = rg at hrg hok hD
 refine iF (hD) ?_
 rintro r H10 ⟨sv, rfl, hT5⟩
 have hS10 := hS9.trans hT5
 simp only [RT] at hS10
 simp (disch := omega) only [↓RA, RZ, simprocAttr, hn, hS10.ai 0 rfl, ((hS0.var 2 rfl).ag hS10.ag).ai]
 have hD' := a1v o (ho.ag hS10) k1 k2 k3 b' hb'
 generalize sQ o b' = sg at hsg hok' hD'
 refine iF (hD') ?_
 rintro r H11 ⟨tv, rfl, hT6⟩
 have hS11 := hS10.trans hT6
 simp only [RT] at hS11
 have h4 := hb 4
 have h5 := hb' 4
 have h6 := hb' 3
 have w1 := qL (b' 4) (by omega) (by omega)
 have w2 := qL (b' 3) (by omega) (by omega)
 have w3 := qL (b 4) (by omega) (by omega)
 have w4 := qL ((b' 4 : Int) * 5) (by omega) (by omega)
 have w5 := qL ((b' 3 : Int) * 9) (by omega) (by omega)
 have w6 := qL ((b 4 : Int) * 7) (by omega) (by omega)
 simp (disch := omega) only [↓RA, RZ, simprocAttr]
 refine hS11.eNew 3 [(.slice none 0 0), (.int .u64 0), (.int .u64 0)] rfl rfl rfl pE fun A5 H12 hS12 => ?_
 simp only [RT] at hS12
 simp (disch := omega) only [↓RA, RZ, simprocAttr]
 refine hS12.eNew 3 [(.slice none 0 0), (.int .u64 0), (.int .u64 0)] rfl rfl rfl pE fun A6 H13 hS13 => ?_
 simp only [RT] at hS13
 simp (disch := omega) only [↓RA, RB, simprocAttr, hn]
 refine hS13.aa 3 rfl [sv, (.int .u64 rg.cpl), (.int .u64 rg.off)] rfl (by simp [OC, (hS13.rd 1 rfl).cells.2.1]) pE (by simp) fun H14 hS14 => ?_
 simp only [RT] at hS14
 simp (disch := omega) only [↓RA, RB, simprocAttr, hn]
 refine hS14.aa 4 rfl [tv, (.int .u64 sg.cpl), (.int .u64 sg.off)] rfl (by simp [OC, (hS14.rd 2 rfl).cells.2.1]) pE (by simp) fun H15 hS15 => ?_
 simp only [RT] at hS15
 simp (disch := omega) only [↓RA, RZ, simprocAttr, hn, hS9.ai 0 rfl, hS15.ai 0 rfl, ((hS0.var 2 rfl).ag hS9.ag).ai, ((hS0.var 2 rfl).ag hS15.ag).ld, ((hS0.var 1 rfl).ag hS15.ag).ld, a8A, w1, w2, w3, w4, w5, w6]
 have hP := a9z o (ho.ag hS15) hf0 (a2V b b') hc
 have e0 : ((a2V b b' 0 : Nat) : Int) = (b' 4 : Int) * 5 := rfl
 have e1 : ((a2V b b' 1 : Nat) : Int) = (b' 3 : Int) * 9 := rfl
 have e2 : ((a2V b b' 2 : Nat) : Int) = (b 4 : Int) * 7 := rfl
 rw [e0, e1, e2] at hP
 generalize pD o (a2V b b') = ks at hkl hkO hkE hP
 refine iF (hP.tr) ?_
 rintro r H16 ⟨-, hT7⟩
 have hS16 := hS15.trans hT7
 simp only [RT] at hS16
 obtain ⟨kv, rfl⟩ : ∃ w, w = r := ⟨r, rfl⟩
 simp (disch := omega) only [↓RA, RZ, simprocAttr, hn, hS16.ai 0 rfl, hS16.ai 3 rfl, hS16.ai 4 rfl]
 have hae : yT o [(sv, rg), (tv, sg)] ks = 0 := by
  unfold yT
  have hse : nZ o [(sv, rg), (tv, sg)] = 0 := by
   unfold nZ
   rw [if_neg (by rw [hoe]; simp)]
   exact kM _ _ fun j hj => by
    have : j = 0 ∨ j = 1 := by simp at hj; omega
    rcases this with rfl | rfl
    ·exact hrg
    ·exact hsg
  rw [if_neg (by rw [hse]; simp)]
  exact hkE
 have hplc := qE hkO hkE
 have hpll := qD hkE
 have hS1 := hS16
 refine iF (b7v (hS16.gl hG2) o (ho.ag hS16) rg sv ⟨hS16.aw 1 rfl (fun _ => rfl), hok⟩ sg tv ⟨hS16.aw 2 rfl (fun _ => rfl), hok'⟩ kv ks ⟨hS16.aw 5 rfl (fun _ => rfl), by omega, hkO⟩) ?_
 rintro r H17 ⟨gv, cv, rfl, hgx, hcx, hT8⟩
 have hS17 := hS16.trans hT8
 simp only [RT] at hS17
 rw [hae] at hgx hcx ⊢
 have hgx2 := hgx.step (hS1.aH (H' := H17))
 have hcx2 := hcx.step (hS1.aH (H' := H17))
 have hd : ∀ a b, a6p o 0 a b ks = rN (kD o a (iE ks)) (kD o b (iE ks)) := fun a b => by unfold a6p; rw [if_pos rfl]
 rw [hd] at hgx2 hcx2
 have hrl : rg.stops.length = o.dvs.length := (oX hrg).2
 have hsl : sg.stops.length = o.dvs.length := (oX hsg).2
 have hla := vG hf0 rg hpll (oS hplc)
 have hlb := vG hf0 sg hpll (oS hplc)
 have hll1 := a1F (kD o rg (iE ks)) (kD o sg (iE ks))
 have hll2 := a1F (kD o sg (iE ks)) (kD o rg (iE ks))
 obtain ⟨X, hBX, hS18⟩ := hS17.az (os := [⟨ptr A4 0 4, 0, _⟩, ⟨sv, 1, _⟩, ⟨tv, 1, _⟩, ⟨ptr A5 0 3, 0, _⟩, ⟨ptr A6 0 3, 0, _⟩, ⟨kv, 2, _⟩])
 simp (disch := omega) only [↓RA, RB, simprocAttr, hn]
 refine Wp.aT kF [(4, 0), (5, 0)] (by kernel_rfl) (by kernel_rfl) ?_
 simp (disch := omega) only [↓RA, RZ, simprocAttr, hn, hS18.ai 0 rfl, hS18.ai 3 rfl]
 have hS2 := hS18
 refine iF (vW o (ho.ag (hS17.ab hBX hS18)) hoe rg sv ⟨hS18.aw 1 rfl (fun _ => rfl), hok⟩ hrl kv ks ⟨hS18.aw 5 rfl (fun _ => rfl), by omega, hkO⟩ hkE) ?_
 rintro r H18 ⟨hq, hT9⟩
 have hS19 := hS18.trans hT9
 simp only [RT] at hS19
 obtain ⟨qv, rfl⟩ : ∃ w, w = r := ⟨r, rfl⟩
 have hgx3 := hgx2.step (hS19.kept hBX)
 have hcx3 := hcx2.step (hS19.kept hBX)
 have hq2 := hq.step (hS2.aH (H' := H18))
 obtain ⟨Y, hBY, hS20⟩ := hS19.az (os := [⟨ptr A4 0 4, 0, _⟩, ⟨sv, 1, _⟩, ⟨tv, 1, _⟩, ⟨ptr A5 0 3, 0, _⟩, ⟨ptr A6 0 3, 0, _⟩, ⟨kv, 2, _⟩])
 simp (disch := omega) only [↓RA, RZ, simprocAttr, hn, hS20.ai 0 rfl, hS20.ai 4 rfl]
 have hS3 := hS20
 refine iF (vW o (ho.ag (hS17.ab hBX (hS19.ab hBY hS20))) hoe sg tv ⟨hS20.aw 2 rfl (fun _ => rfl), hok'⟩ hsl kv ks ⟨hS20.aw 5 rfl (fun _ => rfl), by omega, hkO⟩ hkE) ?_
 rintro r H19 ⟨hw, hT10⟩
 have hS21 := hS20.trans hT10
 simp only [RT] at hS21
 obtain ⟨wv, rfl⟩ : ∃ w, w = r := ⟨r, rfl⟩
 have hgx4 := hgx3.step (hS21.kept hBY)
 have hcx4 := hcx3.step (hS21.kept hBY)
 have hq3 := hq2.step (hS21.kept hBY)
 have hw2 := hw.step (hS3.aH (H' := H19))
 obtain ⟨Z, hBZ, hS22⟩ := hS21.az (os := [⟨ptr A4 0 4, 0, _⟩, ⟨sv, 1, _⟩, ⟨tv, 1, _⟩, ⟨ptr A5 0 3, 0, _⟩, ⟨ptr A6 0 3, 0, _⟩, ⟨kv, 2, _⟩])
 simp (disch := omega) only [↓RA, RZ, simprocAttr, hn, hS18.ai 0 rfl, hS18.ai 4 rfl]
 refine iF (yN qv wv (kD o rg (iE ks)) (kD o sg (iE ks)) (hq3.step (hS22.kept hBZ)).1 (hw2.step (hS22.kept hBZ)).1 (by omega) (by omega)) ?_
 rintro r H20 ⟨hu, hT11⟩
 have hS23 := hS22.trans hT11
 simp only [RT] at hS23
 obtain ⟨uv, rfl⟩ : ∃ w, w = r := ⟨r, rfl⟩
 simp (disch := omega) only [↓RA, RZ, simprocAttr, hn]
 refine hS23.cF (a1Q gv uv (rN (kD o rg (iE ks)) (kD o sg (iE ks))) (rN (kD o rg (iE ks)) (kD o sg (iE ks))) (hgx4.step (hS23.kept hBZ)).1 hu.1 (by omega) (by omega)) fun H21 hS24 => ?_
 rw [decide_eq_true rfl]
 simp (disch := omega) only [↓RA, RZ, simprocAttr, hn]
 refine iF (yN wv qv (kD o sg (iE ks)) (kD o rg (iE ks)) (hw2.step (hS24.kept hBZ)).1 (hq3.step (hS24.kept hBZ)).1 (by omega) (by omega)) ?_
 rintro r H22 ⟨hz, hT13⟩
 have hS25 := hS24.trans hT13
 simp only [RT] at hS25
 obtain ⟨xv, rfl⟩ : ∃ w, w = r := ⟨r, rfl⟩
 simp (disch := omega) only [↓RA, RZ, simprocAttr, hn]
 refine hS25.cF (a1Q cv xv (rN (kD o sg (iE ks)) (kD o rg (iE ks))) (rN (kD o sg (iE ks)) (kD o rg (iE ks))) (hcx4.step (hS25.kept hBZ)).1 hz.1 (by omega) (by omega)) fun H23 hS26 => ?_
 rw [decide_eq_true rfl]
 simp (disch := omega) only [↓RA, RZ, simprocAttr, hn, tR6]
 exact hS0.forget.trans (hS17.ab hBX (hS19.ab hBY (hS21.ab hBZ hS26))).forget
end Go.Ds
