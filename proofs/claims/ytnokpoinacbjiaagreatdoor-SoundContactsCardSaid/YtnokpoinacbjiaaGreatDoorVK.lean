/-
  A part of the proof of SoundContacts.
-/
import Derived.Test.YtnokpoinacbjiaaGreatDoorVI
import Derived.Test.YtnokpoinacbjiaaGreatDoorVD
set_option linter.unusedVariables false
set_option linter.unusedSimpArgs false
set_option linter.defProp false
set_option linter.unusedSectionVars false
namespace Go.Ds
open Go.Proofs Go.Proofs.Tryz Go.ChangeShapes Go.WideShapes Go.RowKit Go.Deep
set_option maxRecDepth 10000
theorem c4r : prog.cellsOf 28 = 1 := by kernel_rfl
theorem c4Y : prog.cellsOf 29 = 3 := by kernel_rfl
section
variable {H0 : Type} {enc : TypeId × Value → H0} {w : World} {base n : Nat} {spare : Nat → Bool} {kN : Bool} {x : DataW H0 × List MemPlace}
theorem a8k {v : Value} (h : DataW.trod enc prog w base spare kN n 28 [v] = some x) : ∃ m : Nat, v = .int .u16 m ∧ m < 65536 := by
 obtain ⟨m, hv, _, hw⟩ := DataW.trod_int underlying28 h
 have hv : v = .int .u16 m := by simpa using hv
 have hm : 0 ≤ m ∧ m ≤ 65535 := by simpa [Lit.wf, IntKind.min, IntKind.max, IntKind.signed, IntKind.bits] using hw
 exact ⟨m.toNat, by rw [hv, fz hm.1], by omega⟩
theorem c0q {cs : List Value} (h : DataW.trod enc prog w base spare kN n 29 cs = some x) : ∃ b : Nat → Nat, (∀ i, b i < 65536) ∧ cs = [.int .u16 (b 0), .int .u16 (b 1), .int .u16 (b 2)] := by
 obtain ⟨xs, m, _, _, hl, hxl, hf⟩ := DataW.trod_array underlying29 h
 rw [c4Y] at hl
 match cs, hl with
 | [c0, c1, c2], _ =>
   have hy : ∀ i, i < 3 → ∃ y, DataW.trod enc prog w base spare kN m 28 ((([c0, c1, c2] : List Value).drop (i * 1)).take 1) = some y := fun i hi => by
    have := hf i hi
    rw [c4r] at this
    exact ⟨xs[i], by rw [this, dc (by omega)]⟩
   obtain ⟨_, h0⟩ := hy 0 (by decide)
   obtain ⟨_, h1⟩ := hy 1 (by decide)
   obtain ⟨_, h2⟩ := hy 2 (by decide)
   obtain ⟨b0, rfl, k0⟩ := a8k h0
   obtain ⟨b1, rfl, k1⟩ := a8k h1
   obtain ⟨b2, rfl, k2⟩ := a8k h2
   exact ⟨fun i => match i with | 0 => b0 | 1 => b1 | _ => b2, fun i => by
    match i with
    | 0 => exact k0
    | 1 => exact k1
    | _ + 2 => exact k2, rfl⟩
end
section
variable {H0 : Type} {enc : TypeId × Value → H0} {w : World} {base : Nat} {kN : Bool}
theorem c3w {v0 : Value} {d0 : DataW H0} {p0 : List MemPlace} {c0 : Nat} (h0 : DataW.Trod enc prog w base (fun _ => true) kN 29 v0 d0 p0) (hval : Value.okWide prog w .any c0 29 v0) :
 ∃ b : Nat → Nat, (∀ i, b i < 65536) ∧ v0 = .agg #[.int .u16 (b 0), .int .u16 (b 1), .int .u16 (b 2)] := by
 simp only [Value.okWide, underlying29] at hval
 obtain ⟨cs, rfl, _, _⟩ := hval
 obtain ⟨fuel, hf⟩ := h0
 obtain ⟨b, hb, he⟩ := c0q hf
 obtain ⟨l⟩ := cs
 have he : l = _ := he
 exact ⟨b, hb, by rw [he]⟩
end
end Go.Ds
namespace Go.Ds
open Go.Proofs
set_option maxRecDepth 10000
def ltP (x y : Int × Int) : Prop := x.1 < y.1 ∨ (x.1 = y.1 ∧ x.2 < y.2)
theorem a3Q {x : Int × Int} : ¬ ltP x x := by unfold ltP; omega
theorem b0R {x y z : Int × Int} (h : ltP x y) (k : ltP y z) : ltP x z := by unfold ltP at *; omega
theorem yP : ∀ (l m : List (Int × Int)), l.Pairwise ltP → m.Pairwise ltP → (∀ x, x ∈ l ↔ x ∈ m) → l = m
 | [], [], _, _, _ => rfl
 | [], b :: m, _, _, h => absurd ((h b).2 (dL ..)) eu
 | a :: l, [], _, _, h => absurd ((h a).1 (dL ..)) eu
 | a :: l, b :: m, hl, hm, h => by
   rw [gD] at hl hm
   have hab : a = b := by
    rcases dJ.1 ((h a).1 (dL ..)) with e | e
    ·exact e
    ·rcases dJ.1 ((h b).2 (dL ..)) with e2 | e2
     ·exact e2.symm
     ·exact absurd (b0R (hm.1 a e) (hl.1 b e2)) a3Q
   subst hab
   congr 1
   refine yP l m hl.2 hm.2 fun x => ?_
   constructor
   ·intro hx
    rcases dJ.1 ((h x).1 (dN _ hx)) with e | e
    ·subst e
     exact absurd (hl.1 x hx) a3Q
    ·exact e
   ·intro hx
    rcases dJ.1 ((h x).2 (dN _ hx)) with e | e
    ·subst e
     exact absurd (hm.1 x hx) a3Q
    ·exact e
theorem b3T {es : List (Int × Int)} (h : es.Pairwise fun a b => le2 a b = true) {i j : Nat} (hij : i < j) (hj : j < es.length) : le2 (gU es i) (gU es j) = true := by
 rw [jY _ _ (by omega), jY _ _ hj]
 exact eh.1 h i j (by omega) hj hij
theorem a8J {es : List (Int × Int)} (h : es.Pairwise fun a b => le2 a b = true) : ∀ m, m ≤ es.length → (wD es m).Pairwise ltP ∧ ∀ x, x ∈ wD es m ↔ ∃ j, j < m ∧ gU es j = x
 | 0, _ => ⟨by simp [wD], fun x => by simp [wD]⟩
 | m + 1, hm => by
   obtain ⟨h1, h2⟩ := a8J h m (by omega)
   rw [qU]
   by_cases hc : m = 0 ∨ gU es m ≠ gU es (m - 1)
   ·rw [if_pos hc]
    refine ⟨?_, fun x => ?_⟩
    ·rw [eN]
     refine ⟨h1, by simp, fun a ha b hb => ?_⟩
     obtain ⟨j, hj, rfl⟩ := (h2 a).1 ha
     obtain rfl := dC.1 hb
     have h3 := (mP _ _).1 (b3T h hj (by omega))
     rcases hc with hc | hc
     ·omega
     ·by_cases he : j = m - 1
      ·subst he
       have hne : ¬ (gU es (m - 1) = gU es m) := fun e => hc e.symm
       rw [Prod.ext_iff] at hne
       unfold ltP
       omega
      ·have h4 := (mP _ _).1 (b3T h (show j < m - 1 by omega) (by omega))
       have h5 := (mP _ _).1 (b3T h (show m - 1 < m by omega) (by omega))
       have hne : ¬ (gU es (m - 1) = gU es m) := fun e => hc e.symm
       rw [Prod.ext_iff] at hne
       unfold ltP
       omega
    ·rw [dx, h2, dC]
     constructor
     ·rintro (⟨j, hj, e⟩ | e)
      ·exact ⟨j, by omega, e⟩
      ·exact ⟨m, by omega, e.symm⟩
     ·rintro ⟨j, hj, e⟩
      rcases de.1 hj with e2 | e2
      ·exact .inl ⟨j, e2, e⟩
      ·subst e2
       exact .inr e.symm
   ·rw [if_neg hc, di]
    refine ⟨h1, fun x => ?_⟩
    rw [h2]
    constructor
    ·rintro ⟨j, hj, e⟩
     exact ⟨j, by omega, e⟩
    ·rintro ⟨j, hj, e⟩
     rcases de.1 hj with e2 | e2
     ·exact ⟨j, e2, e⟩
     ·subst e2
      have hc' : ¬ (j = 0) ∧ gU es j = gU es (j - 1) := ⟨fun e => hc (.inl e), fF fun e => hc (.inr e)⟩
      exact ⟨j - 1, by omega, by rw [← hc'.2]; exact e⟩
theorem c0i (l : List (Int × Int)) : (dd (sP l)).Pairwise ltP := (a8J (rA l) _ (da _)).1
theorem b6q {l : List (Int × Int)} {x : Int × Int} : x ∈ dd (sP l) ↔ x ∈ l := by
 unfold dd
 rw [(a8J (rA l) _ (da _)).2 x, ← (lZ l).mem_iff]
 constructor
 ·rintro ⟨j, hj, rfl⟩
  exact gX hj
 ·intro hx
  obtain ⟨j, hj, e⟩ := dQ.1 hx
  exact ⟨j, hj, by rw [jY _ _ hj]; exact e⟩
inductive Star {α : Type} (R : α → α → Prop) : α → α → Prop
 | refl (a : α) : Star R a a
 | tail {a b c : α} : Star R a b → R b c → Star R a c
theorem a1w (o : Org) (cp : Nat) (l : List Ct) : Que o (jX o cp l) := by
 unfold jX
 have h : ∀ (l : List Ct) (q : List Ct), Que o q → Que o (l.foldl (fun q c => stepF o cp false c q) q) := by
  intro l
  induction l with
  | nil => exact fun q h => h
  | cons a l ih => exact fun q h => ih _ (h.stepF cp false a)
 exact h l [] (Que.nil o)
def IsP (o : Org) (p : Ct) : Prop := 0 ≤ p.1 ∧ p.1 < o.ranks.length ∧ 0 ≤ p.2 ∧ p.2 < (gU o.ranks p.1.toNat).wind.length
theorem IsP.small {o : Org} {H : Heap} (hf : o.Fine) (ho : o.In H) {p : Ct} (h : IsP o p) : -1000000000 ≤ p.1 ∧ p.1 ≤ 1000000000 ∧ -1000000000 ≤ p.2 ∧ p.2 ≤ 1000000000 := by
 obtain ⟨h1, h2, h3, h4⟩ := h
 have hr := (ho.2.1 _ (gX (xs := o.ranks) (j := p.1.toNat) (by omega))).2
 have := hf.rlen
 exact ⟨by omega, by omega, by omega, by omega⟩
end Go.Ds
namespace Go.Ds
open Go.Proofs Go.Proofs.Tryz
variable {H : Heap}
set_option maxRecDepth 10000
set_option maxHeartbeats 1000000
abbrev Nt := Nat × Nat
def ntc (x : Nt) : List Value := [.int .u64 x.1, .int .u64 x.2]
def Nt.Ok (x : Nt) : Prop := x.1 < 18446744073709551616 ∧ x.2 < 18446744073709551616
def rF (x : Nt) (n : Int) : Nt := if n < 64 then (x.1 ||| 2 ^ n.toNat, x.2) else (x.1, x.2 ||| 2 ^ (n - 64).toNat)
theorem a4n (i : Nat) (h : i < 64) : 2 ^ i < 18446744073709551616 := by
 have : 2 ^ i ≤ 2 ^ 63 := fb (by decide) (by omega)
 have e : 2 ^ 63 = 9223372036854775808 := rfl
 omega
theorem b4z {a b : Nat} (ha : a < 18446744073709551616) (hb : b < 18446744073709551616) : a ||| b < 18446744073709551616 := Nat.or_lt_two_pow (n := 64) ha hb
theorem orB (a b : Nat) (ha : a < 18446744073709551616) (hb : b < 18446744073709551616) : IntKind.wrap .u64 ((BitVec.ofInt (IntKind.bits .u64) (a : Int) ||| BitVec.ofInt (IntKind.bits .u64) (b : Int)).toNat : Int) = ((a ||| b : Nat) : Int) := by
 have e : (BitVec.ofInt (IntKind.bits .u64) (a : Int) ||| BitVec.ofInt (IntKind.bits .u64) (b : Int)).toNat = a ||| b := by
  rw [BitVec.toNat_or, tA a ha, tA b hb]
 rw [e]
 have := b4z ha hb
 exact nH _ (by omega) (by omega)
theorem orN (n i : Nat) (hn : n < 18446744073709551616) (hi : i < 64) : IntKind.wrap .u64 ((BitVec.ofInt (IntKind.bits .u64) (n : Int) ||| BitVec.ofInt (IntKind.bits .u64) (IntKind.wrap .u64 (1 * 2 ^ min i (IntKind.bits .u64)))).toNat : Int) = ((n ||| 2 ^ i : Nat) : Int) := by
 rw [c2l i hi]
 exact orB n (2 ^ i) hn (a4n i hi)
theorem b7v {x : Nt} (hx : Nt.Ok x) {z : Int} (h0 : 0 ≤ z) (h1 : z < 128) : Nt.Ok (rF x z) := by
 unfold rF
 split
 ·exact ⟨b4z hx.1 (a4n _ (by omega)), hx.2⟩
 ·exact ⟨hx.1, b4z hx.2 (a4n _ (by omega))⟩
theorem a6W (x : Nt) (hx : Nt.Ok x) (z : Int) (h0 : 0 ≤ z) (h1 : z < 128) : Fn prog 86 [.agg #[.int .u64 x.1, .int .u64 x.2], I z] H fun r H' => r = .agg #[.int .u64 (rF x z).1, .int .u64 (rF x z).2] ∧ St prog H H' [] := by
 obtain ⟨m, rfl⟩ := fR h0
 refine .aG func86 rfl (by kernel_rfl) (m := 21) rfl fun l hn g0 g1 => ?_
 simp (disch := omega) only [↓RA, RB, simprocAttr, g0]
 refine (sR H).eNew 2 [(.int .u64 x.1), (.int .u64 x.2)] rfl rfl rfl lA fun A1 H1 hS1 => ?_
 simp only [RT] at hS1
 simp (disch := omega) only [↓RA, RZ, simprocAttr]
 refine hS1.eNew 2 [(.int .u64 0), (.int .u64 0)] rfl rfl rfl lA fun A2 H2 hS2 => ?_
 simp only [RT] at hS2
 simp (disch := omega) only [↓RA, RB, simprocAttr, hn, g1]
 refine gT (fun q1 => ?_) (fun q1 => ?_)
 ·have e1 := orN x.1 m hx.1 (by omega)
  have e2 : rF x (m : Int) = (x.1 ||| 2 ^ m, x.2) := by unfold rF; rw [if_pos q1]; rfl
  simp (disch := omega) only [↓RA, RC, simprocAttr, q1]
  refine Wp.drw jU (by kernel_rfl) ?_
  simp (disch := omega) only [↓RA, RZ, simprocAttr, hn, g1, hS2.ld 0 rfl, e1]
  refine hS2.aa 0 rfl [(.int .u64 (x.1 ||| 2 ^ m : Nat))] rfl rfl b7S (by simp) fun H3 hS3 => ?_
  simp only [RT] at hS3
  simp (disch := omega) only [↓RA, RZ, simprocAttr, hn, hS3.aj 0 rfl]
  refine hS3.aa 1 rfl [(.int .u64 (x.1 ||| 2 ^ m : Nat)), (.int .u64 x.2)] rfl rfl lA (by simp) fun H4 hS4 => ?_
  simp only [RT] at hS4
  simp (disch := omega) only [↓RA, RZ, simprocAttr, hn, c2o, hS4.aj 1 rfl]
  rw [e2]
  exact ⟨rfl, hS4.forget⟩
 have e1 := orN x.2 (m - 64) hx.2 (by omega)
 have e3 : (m : Int) - 64 = ((m - 64 : Nat) : Int) := by omega
 have e2 : rF x (m : Int) = (x.1, x.2 ||| 2 ^ (m - 64)) := by unfold rF; rw [if_neg q1, e3]; rfl
 simp (disch := omega) only [↓RA, RC, simprocAttr, q1]
 refine Wp.drw jU (by kernel_rfl) ?_
 simp (disch := omega) only [↓RA, RZ, simprocAttr, hn, g1, hS2.ld 0 rfl, e1, e3]
 refine hS2.aa 0 rfl [(.int .u64 (x.2 ||| 2 ^ (m - 64) : Nat))] rfl rfl b7S (by simp) fun H5 hS5 => ?_
 simp only [RT] at hS5
 simp (disch := omega) only [↓RA, RZ, simprocAttr, hn, hS5.aj 0 rfl]
 refine hS5.aa 1 rfl [(.int .u64 x.1), (.int .u64 (x.2 ||| 2 ^ (m - 64) : Nat))] rfl rfl lA (by simp) fun H6 hS6 => ?_
 simp only [RT] at hS6
 simp (disch := omega) only [↓RA, RZ, simprocAttr, hn, c2o, hS6.aj 1 rfl]
 rw [e2]
 exact ⟨rfl, hS6.forget⟩
def iY (xs : List Int) : Nt := xs.foldl rF (0, 0)
def isN (z : Int) : Prop := 0 ≤ z ∧ z < 128
theorem uC : ∀ (xs : List Int) (x : Nt), (∀ z ∈ xs, isN z) → Nt.Ok x → Nt.Ok (xs.foldl rF x)
 | [], _, _, h => h
 | z :: xs, x, hz, h => by
   rw [eP]
   exact uC xs _ (fun y hy => hz y (dN _ hy)) (b7v h (hz z (dL ..)).1 (hz z (dL ..)).2)
theorem a6w (xs : List Int) {j : Nat} (hj : j < xs.length) : iY (xs.take (j + 1)) = rF (iY (xs.take j)) (gU xs j) := by
 unfold iY
 rw [List.take_add_one, dc hj, Option.toList_some, gh, ← jY _ j hj]
 rfl
theorem b1b (z : Int) (h : isN z) : Fn prog 85 [I z] H fun r H' => r = .bool true ∧ St prog H H' [] := by
 have h0 := h.1
 have h1 := h.2
 refine .aR func85 rfl (by kernel_rfl) (m := 9) rfl fun l hn g0 => ?_
 simp (disch := omega) only [↓RA, RZ, simprocAttr, hn, g0]
 refine jB (fun q1 => ?_) (fun q1 => ?_)
 rotate_left
 ·exfalso; first | omega | (simp at q1; omega)
 simp (disch := omega) only [↓RA, RZ, simprocAttr, hn, g0, c3Z, q1]
 simpa using ⟨(by omega : z ≤ 127), (sR H)⟩
theorem vM (xs : List Int) (hz : ∀ z ∈ xs, isN z) (v : Value) (hv : Sl 1 (one I) H v xs) (hl : xs.length < 1000000000) :
 Fn prog 42 [v] H fun r H' => r = .tuple #[.agg #[.int .u64 (iY xs).1, .int .u64 (iY xs).2], I 0] ∧ St prog H H' [] := by
 refine .aR func42 rfl (by kernel_rfl) (m := 22) rfl fun l hn g0 => ?_
 simp (disch := omega) only [↓RA, RZ, simprocAttr]
 refine (sR H).eNew 2 [(.int .u64 0), (.int .u64 0)] rfl rfl rfl lA fun A1 H1 hS1 => ?_
 simp only [RT] at hS1
 simp (disch := omega) only [↓RA, RZ, simprocAttr]
 refine hS1.eNew 2 [(.int .u64 0), (.int .u64 0)] rfl rfl rfl lA fun A2 H2 hS2 => ?_
 simp only [RT] at hS2
 simp (disch := omega) only [↓RA, RZ, simprocAttr, hn, g0, (hS2.sl hv).len]
 refine Wp.al (fun n l H' => l.length = 22 ∧ get l 2 = (ptr A1 0 2) ∧ get l 4 = (ptr A2 0 2) ∧ get l 7 = v ∧ get l 8 = I xs.length ∧ ∃ (j : Nat), (n + j = xs.length) ∧ get l 9 = I j ∧ St prog H H' [⟨ptr A1 0 2, 0, [(.int .u64 0), (.int .u64 0)]⟩, ⟨ptr A2 0 2, 0, [.int .u64 (iY (xs.take j)).1, .int .u64 (iY (xs.take j)).2]⟩]) xs.length ?_ ?_
 ·simp (disch := omega) only [RB, RC, simprocAttr, hn]
  exact ⟨0, by omega, rfl, hS2⟩
 rintro n l H3 ⟨hn, g2, g4, g7, g8, j, hj, g9, hS3⟩
 simp (disch := omega) only [↓RA, RB, simprocAttr, hn, g8, g9]
 refine gT (fun q1 => ?_) (fun q1 => ?_)
 ·have hx := hz _ (gX (xs := xs) (j := j) (by omega))
  have hok : Nt.Ok (iY (xs.take j)) := uC _ _ (fun z h => hz z (List.mem_of_mem_take h)) ⟨by decide, by decide⟩
  simp (disch := omega) only [↓RA, RZ, simprocAttr, hn, g7, g9, (hS3.sl hv).idx, (hS3.sl hv).ld, one, q1]
  refine hS3.cF (b1b (gU xs j) hx) fun H4 hS4 => ?_
  simp (disch := omega) only [↓RA, RZ, simprocAttr, hn, g4, hS4.aj 1 rfl, q1]
  refine hS4.cF (a6W (iY (xs.take j)) hok (gU xs j) hx.1 hx.2) fun H5 hS5 => ?_
  simp (disch := omega) only [↓RA, RZ, simprocAttr, hn, g4, q1]
  refine hS5.aa 1 rfl [(.int .u64 (rF (iY (xs.take j)) (gU xs j)).1), (.int .u64 (rF (iY (xs.take j)) (gU xs j)).2)] rfl rfl lA (by simp) fun H6 hS6 => ?_
  simp only [RT] at hS6
  simp (disch := omega) only [↓RA, RZ, simprocAttr, hn, g2, g4, g7, g8, g9, q1]
  refine ⟨n - 1, by omega, j + 1, by omega, by simp, ?_⟩
  rw [a6w xs (by omega)]
  exact hS6.pick [0, 1] (by decide) rfl
 have hjj : j = xs.length := by omega
 simp (disch := omega) only [↓RA, RZ, simprocAttr, hn, g2, g4, hS3.aj 1 rfl, q1]
 refine hS3.aa 0 rfl [(.int .u64 (iY (xs.take j)).1), (.int .u64 (iY (xs.take j)).2)] rfl rfl lA (by simp) fun H7 hS7 => ?_
 simp only [RT] at hS7
 simp (disch := omega) only [↓RA, RZ, simprocAttr, hn, g2, c3K, hS7.aj 0 rfl, q1]
 rw [hjj, eo]
 exact ⟨rfl, hS7.forget⟩
end Go.Ds
namespace Go.Ds
open Go.Proofs
variable {H : Heap}
set_option maxRecDepth 10000
set_option maxHeartbeats 1000000
theorem St.perm {P : Program} {H0 : Base} {os os' : List Ob} (h : St P H0 H os) (hp : os.Perm os') : St P H0 H os' where
 len := h.len
 old := h.old
 own o ho := h.own o (hp.mem_iff.2 ho)
 new o ho := h.new o (hp.mem_iff.2 ho)
 sep := (List.Perm.pairwise_iff (fun {_ _} hxy B hB hB2 => hxy B hB2 hB) hp).1 h.sep
theorem Lp.swap {P : Program} {B : Base} {L : Nat} {r : Loop} {xs ys zs : List Ob} (h : Lp P B L r H ((xs ++ ys) ++ zs)) : Lp P B L r H ((xs ++ zs) ++ ys) := by
 have hp : ((xs ++ ys) ++ zs).Perm ((xs ++ zs) ++ ys) := by
  rw [ed, ed]
  exact (List.perm_append_comm).append_left xs
 exact ⟨h.st.perm hp, h.get, h.lo, fun o ho => h.ne o (hp.mem_iff.2 ho)⟩
end Go.Ds
namespace Go.Ds
open Go.Proofs Go.Proofs.Tryz
variable {H : Heap}
set_option maxRecDepth 10000
set_option maxHeartbeats 1000000
def ctz (x : Nat) : Nat := ((List.range 64).find? fun i => x.testBit i).getD 64
theorem a0Q {x : Nat} (h0 : x ≠ 0) (h1 : x < 18446744073709551616) : ctz x < 64 ∧ x.testBit (ctz x) = true ∧ ∀ j, j < ctz x → x.testBit j = false := by
 have hx : ∃ i, i < 64 ∧ x.testBit i = true := by
  refine fF fun hn => h0 ?_
  refine fK fun i => ?_
  rw [gR]
  by_cases hi : i < 64
  ·by_cases hb : x.testBit i = true
   ·exact absurd ⟨i, hi, hb⟩ hn
   ·simpa using hb
  ·exact Nat.testBit_lt_two_pow (dy (show x < 2 ^ 64 by simpa using h1) (fb (by decide) (by omega)))
 unfold ctz
 cases hf : (List.range 64).find? fun i => x.testBit i with
 | none =>
   obtain ⟨i, hi, hb⟩ := hx
   have := fX.1 hf i (dm.2 hi)
   exact absurd hb (by simpa using this)
 | some i =>
   obtain ⟨hb, ys, bs, he, hn⟩ := List.find?_eq_some_iff_append.1 hf
   have hi : i < 64 := dm.1 (he ▸ (by simp : i ∈ ys ++ i :: bs))
   refine ⟨hi, hb, fun j hj0 => ?_⟩
   have hj : j < i := hj0
   have hl : ys.length = i := by
    have h2 : (List.range 64)[ys.length]? = some i := by rw [he]; simp
    have h3 : ys.length < 64 := by
     have := congrArg List.length he
     simp at this
     omega
    rw [gx h3] at h2
    exact cR h2
   have hm : j ∈ ys := by
    have h2 : (List.range 64)[j]? = some j := gx (by omega)
    rw [he, dZ (by simpa using (hl ▸ hj))] at h2
    exact dE h2
   simpa using hn j hm
theorem a3m {x : Nat} (h0 : x ≠ 0) (h1 : x < 18446744073709551616) : ∃ m, x = 2 ^ ctz x * (2 * m + 1) := by
 obtain ⟨c1, c2, c3⟩ := a0Q h0 h1
 generalize ctz x = k at c1 c2 c3
 have hd : x % 2 ^ k = 0 := by
  refine fK fun i => ?_
  rw [Nat.testBit_mod_two_pow, gR]
  by_cases hi : i < k
  ·rw [c3 i hi, Bool.and_false]
  ·rw [decide_eq_false hi, fw]
 have h2 : x / 2 ^ k % 2 = 1 := by
  rw [← eE]
  have := c2
  rw [tb] at this
  exact of_decide_eq_true this
 refine ⟨x / 2 ^ k / 2, ?_⟩
 have h3 := Nat.div_add_mod x (2 ^ k)
 have h4 := Nat.div_add_mod (x / 2 ^ k) 2
 rw [hd, gF] at h3
 rw [← h3]
 congr 1
 rw [h3]
 omega
theorem b6B {x : Nat} (h0 : x ≠ 0) (h1 : x < 18446744073709551616) : x &&& (18446744073709551616 - x) = 2 ^ ctz x := by
 obtain ⟨m, hm⟩ := a3m h0 h1
 obtain ⟨c1, _, _⟩ := a0Q h0 h1
 generalize ctz x = k at hm c1
 have e64 : (18446744073709551616 : Nat) = 2 ^ k * (2 * 2 ^ (63 - k)) := by
  have : 2 ^ k * (2 * 2 ^ (63 - k)) = 2 ^ 64 := by rw [← Nat.pow_succ', ← Nat.pow_add]; congr 1; omega
  rw [this]
 have hml : m < 2 ^ (63 - k) := by
  rw [e64, hm] at h1
  have := Nat.lt_of_mul_lt_mul_left h1
  omega
 have e2 : 18446744073709551616 - x = 2 ^ k * (2 * (2 ^ (63 - k) - (m + 1)) + 1) := by
  rw [e64, hm, ← Nat.mul_sub]
  congr 1
  omega
 rw [e2, hm]
 refine fK fun i => ?_
 rw [Nat.testBit_and, fO]
 have hs : ∀ y : Nat, (2 ^ k * y).testBit i = (decide (k ≤ i) && y.testBit (i - k)) := fun y => by rw [Nat.mul_comm, Nat.testBit_mul_two_pow]
 rw [hs, hs]
 by_cases hi : k ≤ i
 ·rw [decide_eq_true hi, gA, gA]
  by_cases he : i = k
  ·subst he
   rw [Nat.sub_self, Nat.testBit_zero, Nat.testBit_zero]
   simp
  ·obtain ⟨j, hj⟩ : ∃ j, i - k = j + 1 := ⟨i - k - 1, by omega⟩
   rw [hj, Nat.testBit_succ, Nat.testBit_succ, show (2 * m + 1) / 2 = m by omega, show (2 * (2 ^ (63 - k) - (m + 1)) + 1) / 2 = 2 ^ (63 - k) - (m + 1) by omega, Nat.testBit_two_pow_sub_succ hml, decide_eq_false (by omega : ¬ k = i)]
   cases m.testBit j <;> simp
 ·rw [decide_eq_false hi, fw, decide_eq_false (by omega)]
  rfl
theorem c2m : ((List.range 64).all fun k => decide (2 ^ k * 285870213051353865 % 18446744073709551616 / 288230376151711744 < 64) && decide (t64.getD (2 ^ k * 285870213051353865 % 18446744073709551616 / 288230376151711744) 99 = k)) = true := by kernel_rfl
theorem b3D {P : Program} {t : TypeId} {n : Nat} {elem : TypeId} {size : Nat} (ha : P.underlying t = some (.array n elem)) (hs : gW P elem = some size) (A i : Nat) (k : IntKind) (j : Int) (h0 : 0 ≤ j) (h1 : j < n) :
 vH (iK P t) P t (.pointer (some ⟨A, i, none⟩)) (.int k j) = some (.pointer (some ⟨A, i + j.toNat * size, none⟩)) := by
 have hn : iK P t = none := by simp [iK, gZ, ha]
 rw [hn]
 simp only [vH, a0v, ha, hs, cT]
 rw [if_pos (by simp [h0, h1])]
theorem b9t (k : IntKind) (j : Int) (h0 : 0 ≤ j) (h1 : j < 64) : vH (iK prog 251) prog 251 (.pointer (some ⟨0, 0, none⟩)) (.int k j) = some (.pointer (some ⟨0, 0 + j.toNat * 1, none⟩)) :=
 b3D (n := 64) (elem := 5) (size := 1) (by kernel_rfl) (by kernel_rfl) 0 0 k j h0 h1
theorem b1j (g : Nat) (l : List Value) (K : Value → Prop) : iZ (.global g) l K = K (.pointer (some ⟨g, 0, none⟩)) := by simp [iZ, iE, ev]
theorem gld (hG : Glob gH H) (j : Nat) (hj : j < 64) (s : Option Nat) : oP (some false) s H (.pointer (some ⟨0, j, none⟩)) = some (.int .u8 (t64.getD j 0 : Nat)) := by
 have h0 : iI H 0 = some (.cells (t64.map fun (n : Nat) => Value.int .u8 (.ofNat n)) 5 false 0 1) := by
  rw [hG.same 0 (by decide)]
  rfl
 simp only [oP, iU, h0]
 have hl : (t64.map fun (n : Nat) => Value.int .u8 (.ofNat n)).length = 64 := by rw [dY]; rfl
 rw [if_pos (by rw [hl]; simp; omega)]
 simp only [cT]
 rw [dH (by omega), dr, gF, ew, dc (show j < t64.length from hj)]
 rw [dD, cW, dc (show j < t64.length from hj)]
 rfl
theorem a7o (m : Int) : IntKind.wrap .u64 m = m % 18446744073709551616 := by
 show (if (false && decide (m % 18446744073709551616 ≥ 9223372036854775808)) = true then m % 18446744073709551616 - 18446744073709551616 else m % 18446744073709551616) = _
 simp
theorem c2z (hG : Glob gH H) (x : Nat) (h0 : x ≠ 0) (h1 : x < 18446744073709551616) : Fn prog 136 [.int .u64 x] H fun r H' => r = I (ctz x) ∧ St prog H H' [] := by
 obtain ⟨c1, _, _⟩ := a0Q h0 h1
 have hd := dg.1 c2m (ctz x) (dm.2 c1)
 rw [cS, decide_eq_true_eq, decide_eq_true_eq] at hd
 have eA : IntKind.wrap .u64 (0 - (x : Int)) = ((18446744073709551616 - x : Nat) : Int) := by
  rw [a7o]
  omega
 have eB : IntKind.wrap .u64 ((BitVec.ofInt (IntKind.bits .u64) (x : Int) &&& BitVec.ofInt (IntKind.bits .u64) ((18446744073709551616 - x : Nat) : Int)).toNat : Int) = ((2 ^ ctz x : Nat) : Int) := by
  rw [gu, tA x h1, tA _ (by omega), b6B h0 h1]
  exact nH _ (by omega) (by have := a4n (ctz x) c1; omega)
 have eC : IntKind.wrap .u64 (((2 ^ ctz x : Nat) : Int) * 285870213051353865) = ((2 ^ ctz x * 285870213051353865 % 18446744073709551616 : Nat) : Int) := by
  rw [a7o]
  rfl
 have eD : ((2 ^ ctz x * 285870213051353865 % 18446744073709551616 : Nat) : Int).fdiv (2 ^ min 58 (IntKind.bits .u64)) = ((2 ^ ctz x * 285870213051353865 % 18446744073709551616 / 288230376151711744 : Nat) : Int) := by
  rw [show (2 : Int) ^ min 58 (IntKind.bits .u64) = ((288230376151711744 : Nat) : Int) from rfl]
  exact gj _ (by omega)
 have hd1 := hd.1
 have hd2 := hd.2
 generalize 2 ^ ctz x * 285870213051353865 % 18446744073709551616 / 288230376151711744 = i at eD hd1 hd2
 refine .aR func136 rfl (by kernel_rfl) (m := 14) rfl fun l hn g0 => ?_
 have iI := gld hG i hd1 (some 1)
 rw [show t64.getD i 0 = ctz x from by rw [← hd2, cW, cW, dc (show i < t64.length from hd1)]; rfl] at iI
 have hidx := b9t .u64 (i : Int) (by omega) (by omega)
 rw [fy, Nat.mul_one, fU] at hidx
 simp (disch := omega) only [↓RA, RB, simprocAttr, hn, g0]
 refine gT (fun q => ?_) (fun q => ?_)
 ·exfalso; omega
 simp (disch := omega) only [↓RA, RZ, simprocAttr, hn, g0, c2Z, eA, eB, eC, eD, b1j, iI, hidx, q]
 first | exact (sR H) | exact ⟨rfl, (sR H)⟩
theorem a4o {x : Nat} (h0 : x ≠ 0) (h1 : x < 18446744073709551616) (j : Nat) : (x &&& (x - 1)).testBit j = (x.testBit j && !decide (j = ctz x)) := by
 obtain ⟨m, hm⟩ := a3m h0 h1
 generalize ctz x = k at hm
 have hp : 0 < 2 ^ k := Nat.two_pow_pos k
 have e1 : x = 2 ^ (k + 1) * m + 2 ^ k := by rw [hm, Nat.pow_succ, Nat.mul_add, Nat.mul_one, Nat.mul_assoc]
 have e2 : x - 1 = 2 ^ (k + 1) * m + (2 ^ k - 1) := by omega
 have hl : 2 ^ k < 2 ^ (k + 1) := Nat.pow_lt_pow_right (by decide) (by omega)
 rw [Nat.testBit_and, e2]
 rw [e1, Nat.testBit_two_pow_mul_add m hl, Nat.testBit_two_pow_mul_add m (by omega : 2 ^ k - 1 < 2 ^ (k + 1))]
 by_cases hj : j < k + 1
 ·rw [if_pos hj, if_pos hj, fO, Nat.testBit_two_pow_sub_one]
  by_cases he : j = k
  ·simp [he]
  ·simp [show ¬ k = j by omega]
 ·rw [if_neg hj, if_neg hj, show decide (j = k) = false from decide_eq_false (by omega)]
  simp
theorem b1O {x : Nat} (h0 : x ≠ 0) (h1 : x < 18446744073709551616) : nS x = ctz x :: nS (x &&& (x - 1)) := by
 obtain ⟨c1, c2, c3⟩ := a0Q h0 h1
 have hb := a4o h0 h1
 generalize ctz x = k at c1 c2 c3 hb
 obtain ⟨t, ht⟩ := a5y c1
 have hnd : (List.range 64).Nodup := List.nodup_range
 unfold nS
 rw [ht, eO, eO, List.filter_cons_of_pos (by simpa using c2), List.filter_cons_of_neg (by rw [hb]; simp)]
 rw [ht] at hnd
 have e1 : (List.range k).filter (fun i => x.testBit i) = [] := List.filter_eq_nil_iff.2 fun i hi => by simpa using c3 i (dm.1 hi)
 have e2 : (List.range k).filter (fun i => (x &&& (x - 1)).testBit i) = [] := List.filter_eq_nil_iff.2 fun i hi => by rw [hb, c3 i (dm.1 hi)]; simp
 rw [e1, e2, eW, eW]
 congr 1
 refine List.filter_congr fun i hi => ?_
 have hne : i ≠ k := fun e => by
  subst e
  exact (List.nodup_cons.1 (List.nodup_append.1 hnd).2.1).1 hi
 rw [hb, decide_eq_false hne]
 simp
theorem a7y : nS 0 = [] := List.filter_eq_nil_iff.2 fun i _ => by simp
def oJ (x : Nt) : List Int := (nS x.1).map (fun (i : Nat) => (i : Int)) ++ (nS x.2).map fun (i : Nat) => 64 + (i : Int)
def a6J (x : Nt) (i : Nat) : Nat := if i = 0 then x.1 else x.2
def a4C (x : Nt) (i : Nat) : List Int := (nS (a6J x i)).map fun (j : Nat) => 64 * (i : Int) + (j : Int)
def a3N (x : Nt) (i : Nat) : List Int := (List.range i).flatMap (a4C x)
theorem yU (x : Nt) (i : Nat) : a3N x (i + 1) = a3N x i ++ a4C x i := by
 unfold a3N
 rw [dS, dG, dz, eT, di]
theorem a6M (x : Nt) : a3N x 2 = oJ x := by
 rw [yU, yU]
 unfold oJ a3N a4C a6J
 simp
theorem b7N {x : Nt} (hx : Nt.Ok x) (i : Nat) : a6J x i < 18446744073709551616 := by
 unfold a6J
 split
 ·exact hx.1
 ·exact hx.2
theorem c3r (a b : Int) : nW prog 219 (.agg #[.int .u64 a, .int .u64 b]) (I 0) = some (.int .u64 a) := by kernel_rfl
theorem c1v (a b : Int) : nW prog 219 (.agg #[.int .u64 a, .int .u64 b]) (I 1) = some (.int .u64 b) := by kernel_rfl
theorem c4p (x : Nt) (i : Nat) (h : i < 2) : a1z (mZ prog 219) prog 219 (.agg #[.int .u64 x.1, .int .u64 x.2]) (I i) = some (.int .u64 (a6J x i)) := by
 rw [← a5V]
 rcases (by omega : i = 0 ∨ i = 1) with rfl | rfl
 ·exact c3r _ _
 ·exact c1v _ _
theorem c0r (x : Nt) (hx : Nt.Ok x) (A : Nat) (f : Value) (J : List Int → Heap → Prop) (h0 : J [] H) (hg : ∀ d H1, J d H1 → Var H1 A 2 [.int .u64 x.1, .int .u64 x.2] ∧ Glob gH H1)
 (hst : ∀ d H1 H2, J d H1 → St prog H1 H2 [] → J d H2)
 (hf : ∀ d c e H1, oJ x = d ++ c :: e → J d H1 → sE prog f [I c] H1 fun v H2 => v = .bool true ∧ J (d ++ [c]) H2) :
 FnS prog 135 [f, ptr A 0 2] H fun _ H' => J (oJ x) H' := by
 have hV0 := (hg _ _ h0).1
 refine FnS.aU func135 rfl (by kernel_rfl) fun l hl => ?_
 have hn : l.length = 29 := by rw [hl]; rfl
 have g0 : get l 0 = f := by rw [hl]; rfl
 have g1 : get l 1 = (ptr A 0 2) := by rw [hl]; rfl
 clear hl
 simp (disch := omega) only [↓RA, RZ, simprocAttr, hn, g1, hV0.ld, b2o]
 refine Wp.al (fun n l H' => l.length = 29 ∧ get l 0 = f ∧ get l 1 = ptr A 0 2 ∧ get l 9 = .agg #[.int .u64 x.1, .int .u64 x.2] ∧ ∃ i : Nat, n + i = 2 ∧ get l 10 = I i ∧ J (a3N x i) H') 2 ?_ ?_
 ·simp (disch := omega) only [RB, RC, simprocAttr, hn, g0, g1]
  exact ⟨0, rfl, rfl, h0⟩
 rintro n l H9 ⟨hn, g0, g1, g9, i, hi, sQ, hJ⟩
 simp (disch := omega) only [↓RA, RB, simprocAttr, hn, sQ]
 refine gT (fun q1 => ?_) (fun q1 => ?_)
 ·have hix := c4p x i (by omega)
  have hwl := b7N hx i
  simp (disch := omega) only [↓RA, RZ, simprocAttr, hn, g9, sQ, q1, hix]
  refine Wp.al (fun n2 l H' => l.length = 29 ∧ get l 0 = f ∧ get l 1 = ptr A 0 2 ∧ get l 9 = .agg #[.int .u64 x.1, .int .u64 x.2] ∧ get l 10 = I i ∧ get l 3 = I i ∧ ∃ (y : Nat) (d : List Nat), (n2 = (nS y).length ∧ y < 18446744073709551616 ∧ nS (a6J x i) = d ++ nS y) ∧ get l 4 = .int .u64 y ∧ J (a3N x i ++ d.map fun (j : Nat) => 64 * (i : Int) + (j : Int)) H') (nS (a6J x i)).length ?_ ?_
  ·simp (disch := omega) only [RB, RC, simprocAttr, hn, g0, g1, g9, sQ]
   exact ⟨a6J x i, [], ⟨rfl, hwl, rfl⟩, rfl, by rw [fW, di]; exact hJ⟩
  rintro n2 l H8 ⟨hn, g0, g1, g9, sQ, g3, y, d, ⟨hn2, hy, hbd⟩, g4, hJ2⟩
  simp (disch := omega) only [↓RA, RB, simprocAttr, hn, g4]
  refine gT (fun q2 => ?_) (fun q2 => ?_)
  ·have hy0 : y ≠ 0 := by omega
   have hc := a0Q hy0 hy
   have hlow := b1O hy0 hy
   have hGl := (hg _ _ hJ2).2
   have eY1 : IntKind.wrap .u64 ((y : Int) - 1) = ((y - 1 : Nat) : Int) := by
    rw [a7o]
    omega
   have eY2 : IntKind.wrap .u64 ((BitVec.ofInt (IntKind.bits .u64) (y : Int) &&& BitVec.ofInt (IntKind.bits .u64) ((y - 1 : Nat) : Int)).toNat : Int) = ((y &&& (y - 1) : Nat) : Int) := by
    rw [gu, tA y hy, tA _ (by omega)]
    have := Nat.and_le_left (n := y) (m := y - 1)
    exact nH _ (by omega) (by omega)
   have hyl : y &&& (y - 1) < 18446744073709551616 := Nat.lt_of_le_of_lt Nat.and_le_left hy
   have hmem : oJ x = (a3N x i ++ d.map fun (j : Nat) => 64 * (i : Int) + (j : Int)) ++ (64 * (i : Int) + (ctz y : Int)) :: ((nS (y &&& (y - 1))).map (fun (j : Nat) => 64 * (i : Int) + (j : Int)) ++ ((List.range 2).drop (i + 1)).flatMap (a4C x)) := by
    rw [← a6M]
    unfold a3N
    have e : List.range 2 = List.range i ++ i :: (List.range 2).drop (i + 1) := by
     rcases (by omega : i = 0 ∨ i = 1) with rfl | rfl <;> rfl
    rw [congrArg (List.flatMap (a4C x)) e, dG, dz]
    rw [show a4C x i = (d ++ nS y).map (fun (j : Nat) => 64 * (i : Int) + (j : Int)) from by unfold a4C; rw [hbd]]
    rw [hlow, dM, dU]
    simp only [ed, gO]
   have hc1 := hc.1
   simp (disch := omega) only [↓RA, RZ, simprocAttr, hn, g0, g3, g4, q2]
   refine (sR H8).cF (c2z ((sR H8).gl hGl) y hy0 hy) fun H1 hS1 => ?_
   simp (disch := omega) only [↓RA, RZ, simprocAttr, hn, q2]
   refine a8B (hf _ _ _ _ hmem (hst _ _ _ hJ2 hS1)) ?_
   rintro r H10 ⟨rfl, hJ3⟩
   simp (disch := omega) only [↓RA, RZ, simprocAttr, hn, g0, g1, g9, sQ, g3, g4, q2, eY1, eY2]
   refine ⟨(nS (y &&& (y - 1))).length, by rw [hn2, hlow]; simp, y &&& (y - 1), d ++ [ctz y], ⟨rfl, hyl, by rw [hbd, hlow]; simp⟩, rfl, ?_⟩
   rw [dM, dU, fW, ← ed]
   exact hJ3
  simp (disch := omega) only [↓RA, RZ, simprocAttr, hn, g0, g1, g9, sQ, q2]
  have hy0 : y = 0 := by omega
  subst hy0
  refine ⟨n - 1, by omega, i + 1, by omega, by simp, ?_⟩
  rw [yU]
  have : a4C x i = d.map fun (j : Nat) => 64 * (i : Int) + (j : Int) := by
   unfold a4C
   rw [hbd, a7y, di]
  rw [this]
  exact hJ2
 simp (disch := omega) only [↓RA, RZ, simprocAttr, c2A, q1]
 have e : i = 2 := by omega
 subst e
 rw [← a6M]
 exact hJ
theorem a0H (x : Nt) : (oJ x).length ≤ 128 := by
 unfold oJ
 rw [dj, dY, dY]
 have h1 := a4S x.1 64
 have h2 := a4S x.2 64
 unfold b4k at h1 h2
 unfold nS
 omega
theorem b2r (hG : Glob gH H) (x : Nt) (hx : Nt.Ok x) (A : Nat) (hA : Var H A 2 [.int .u64 x.1, .int .u64 x.2]) :
 Fn prog 134 [.slice none 0 0, .func (.func 135) #[] #[ptr A 0 2]] H fun r H' => St prog H H' [⟨r, 1, (oJ x).flatMap (one I)⟩] := by
 refine .aG func134 rfl (by kernel_rfl) (m := 13) rfl fun l hn g0 g1 => ?_
 simp (disch := omega) only [↓RA, RB, simprocAttr, g0]
 refine (sR H).eNew 1 [(.slice none 0 0)] rfl rfl rfl b7z fun A1 H1 hS1 => ?_
 simp only [RT] at hS1
 simp (disch := omega) only [↓RA, RB, simprocAttr, g1]
 have hS2 := hS1.nil 0
 simp only [RT] at hS2
 refine Wp.cC fun lrg1 hlrg1 => ?_
 have hnrg1 : lrg1.length = 13 := by rw [hlrg1]; simp (disch := omega) only [RB, simprocAttr, hn]
 have g2rg1 : get lrg1 2 = (ptr A1 0 1) := by rw [hlrg1]; simp (disch := omega) only [RB, simprocAttr, hn]
 have g4rg1 : get lrg1 4 = (.slice none 0 0) := by rw [hlrg1]; simp (disch := omega) only [RB, simprocAttr, hn]
 have gfrg1 : get lrg1 6 = .func (.func 135) #[] [(ptr A 0 2)].toArray := by rw [hlrg1]; simp (disch := omega) only [RB, simprocAttr, hn]
 clear hlrg1
 refine Wp.cd gfrg1 fun rg1 hstrg1 hpdrg1 htmrg1 hpsrg1 hasrg1 hbdrg1 => ?_
 have hreqrg1 : ({ rg1 with state := .ready, pending := none } : Loop) = rg1 := by
  cases rg1
  simp only at hstrg1 hpdrg1
  subst hstrg1 hpdrg1
  rfl
 have hLprg1 := Lp.enter hS2 rg1
 generalize H1.cons (.loop rg1) = Hcrg1 at hLprg1 ⊢
 generalize H1.length = Lrg1 at hLprg1 ⊢
 refine (c0r x hx A (.func (.yield Lrg1) #[] #[]) (fun d H1 => ∃ ow, Lp prog H Lrg1 rg1 H1 [⟨ptr A1 0 1, 0, [ow]⟩, ⟨ow, 1, d.flatMap (one I)⟩]) ⟨.slice none 0 0, hLprg1⟩ ?_ ?_ ?_).mono ?_
 ·rintro d H1 ⟨ow, h⟩
  exact ⟨hA.ai h.st.ai, h.st.gl hG⟩
 ·rintro d H1 H2 ⟨ow, h⟩ hS
  exact ⟨ow, by simpa using h.ext hS⟩
 ·rintro d c e H20 hm ⟨ow, hLpj⟩
  have hml := a0H x
  have hdl : d.length < 128 := by
   rw [hm, dj, ek] at hml
   omega
  refine zX hLpj.get (by rw [hpsrg1]; rfl) hstrg1 ?_
  refine Wp.bM (l := put lrg1 (some 7) (I c)) hasrg1 (by rw [hpsrg1, htmrg1]; first | exact (mE ..).symm | rfl | simp [put, mE]) ?_
  simp (disch := omega) only [↓RA, RZ, simprocAttr, hnrg1]
  refine ⟨rg1, hLpj.get, hstrg1, ?_⟩
  have hYBs1 := hLpj.set (fun h => h) { rg1 with state := .busy }
  have hKBs1 : ∀ B, B ≠ Lrg1 → iI (hset H20 Lrg1 (.loop { rg1 with state := .busy })) B = iI H20 B := fun B h => iR _ (eR h)
  have hNBs1 : (hset H20 Lrg1 (.loop { rg1 with state := .busy })).length = H20.length := jC ..
  generalize hset H20 Lrg1 (.loop { rg1 with state := .busy }) = HBs1 at hYBs1 hKBs1 hNBs1 ⊢
  refine Wp.bM hbdrg1 rfl ?_
  have hZBs1 := hYBs1.st
  obtain ⟨Bs1, hBBs1, hS3⟩ := hZBs1.aB (os := [⟨ptr A1 0 1, 0, _⟩, ⟨ow, 1, _⟩])
  simp (disch := omega) only [↓RA, RZ, simprocAttr, hnrg1, g2rg1, hS3.ld 0 rfl]
  refine hS3.ae [I c] a0N a5H rfl rfl (by simp [Value.cells]) rfl rfl (by decide) (by decide) fun w1 H2 hS4 => ?_
  simp only [RT] at hS4
  simp (disch := omega) only [↓RA, RZ, simprocAttr, hnrg1]
  refine hS4.aq 1 rfl (hS4.rd 2 rfl) a0N (by rw [wA, dY]; simp; omega) fun w2 H3 hS5 => ?_
  simp only [RT] at hS5
  simp (disch := omega) only [↓RA, RB, simprocAttr, hnrg1, g2rg1]
  refine hS5.aa 0 rfl [w2] (by rw [(hS5.rd 1 rfl).cells.1]) (by simp [(hS5.rd 1 rfl).cells.2.1]) b7z (by simp) fun H4 hS6 => ?_
  simp only [RT] at hS6
  simp (disch := omega) only [↓RA, simprocAttr]
  have hS7 := hS6.pick (os' := [⟨ptr A1 0 1, 0, _⟩, ⟨w2, 1, _⟩]) [0, 1] (by decide) rfl
  have hWBs1 := (hYBs1.body (hBBs1 ▸ hS7)).set (fun h => h) rg1
  rw [← hreqrg1] at hWBs1
  refine ⟨_, (hYBs1.body (hBBs1 ▸ hS7)).get, rfl, w2, ?_⟩
  rw [dG]
  exact hreqrg1 ▸ hWBs1
 ·rintro _ H21 ⟨ow, hLp2⟩
  refine ⟨_, hLp2.get, (by rw [hstrg1]; exact fun h => by cases h), fun _ => ?_, fun c hc => by rw [hpdrg1] at hc; cases hc⟩
  have hAAf1 := (hLp2.set (fun h => h) { rg1 with state := .exhausted }).st
  have hKAf1 : ∀ B, B ≠ Lrg1 → iI (hset H21 Lrg1 (.loop { rg1 with state := .exhausted })) B = iI H21 B := fun B h => iR _ (eR h)
  generalize hset H21 Lrg1 (.loop { rg1 with state := .exhausted }) = HAf1 at hAAf1 hKAf1 ⊢
  simp (disch := omega) only [↓RA, RZ, simprocAttr, hnrg1, g2rg1, hAAf1.ld 0 rfl, c2Y]
  exact hAAf1.pick [1] (by decide) rfl
theorem a9k (hG : Glob gH H) (x : Nt) (hx : Nt.Ok x) (A : Nat) (hA : Var H A 2 [.int .u64 x.1, .int .u64 x.2]) :
 Fn prog 101 [.func (.func 135) #[] #[ptr A 0 2]] H fun r H' => St prog H H' [⟨r, 1, (oJ x).flatMap (one I)⟩] := by
 refine .aR func101 rfl (by kernel_rfl) (m := 5) rfl fun l hn g0 => ?_
 simp (disch := omega) only [↓RA, RZ, simprocAttr, hn, g0]
 refine iB ((b2r ((sR H).gl hG) x hx A (hA.ai (sR H).ai)).tr) ?_
 rintro r H1 ⟨-, hT1⟩
 have hS1 := (sR H).trans hT1
 simp only [RT] at hS1
 simp (disch := omega) only [↓RA, RB, simprocAttr, hn, c2P]
 exact hS1
theorem b6z (x : Nt) : Fn prog 102 [.agg #[.int .u64 x.1, .int .u64 x.2]] H fun r H' => ∃ A, r = .func (.func 135) #[] #[ptr A 0 2] ∧ St prog H H' [⟨ptr A 0 2, 0, [.int .u64 x.1, .int .u64 x.2]⟩] := by
 refine .aR func102 rfl (by kernel_rfl) (m := 4) rfl fun l hn g0 => ?_
 simp (disch := omega) only [↓RA, RB, simprocAttr, g0]
 refine (sR H).eNew 2 [(.int .u64 x.1), (.int .u64 x.2)] rfl rfl rfl lA fun A1 H1 hS1 => ?_
 simp only [RT] at hS1
 simp (disch := omega) only [↓RA, RZ, simprocAttr, hn, c1u]
 exact ⟨A1, rfl, hS1⟩
theorem a9j (hG : Glob gH H) (x : Nt) (hx : Nt.Ok x) :
 Fn prog 57 [.agg #[.int .u64 x.1, .int .u64 x.2]] H fun r H' => St prog H H' [⟨r, 1, (oJ x).flatMap (one I)⟩] := by
 refine .aR func57 rfl (by kernel_rfl) (m := 6) rfl fun l hn g0 => ?_
 simp (disch := omega) only [↓RA, RB, simprocAttr, g0]
 refine (sR H).eNew 2 [(.int .u64 x.1), (.int .u64 x.2)] rfl rfl rfl lA fun A1 H1 hS1 => ?_
 simp only [RT] at hS1
 simp (disch := omega) only [↓RA, RZ, simprocAttr, hn, hS1.aj 0 rfl]
 refine iB (b6z x) ?_
 rintro r H2 ⟨A2, rfl, hT1⟩
 have hS2 := hS1.trans hT1
 simp only [RT] at hS2
 simp (disch := omega) only [↓RA, RZ, simprocAttr, hn]
 refine iB ((a9k (hS2.gl hG) x hx A2 (hS2.var 1 rfl)).tr) ?_
 rintro r H3 ⟨-, hT2⟩
 have hS3 := hS2.trans hT2
 simp only [RT] at hS3
 simp (disch := omega) only [↓RA, RB, simprocAttr, hn, c4v]
 exact hS3.pick [2] (by decide) rfl
def a6X (a b : Nat) : Nat := (BitVec.ofNat 64 a &&& ~~~ BitVec.ofNat 64 b).toNat
theorem a3Y (a b : Nat) : a6X a b < 18446744073709551616 := (BitVec.ofNat 64 a &&& ~~~ BitVec.ofNat 64 b).isLt
theorem b8v (a b : Nat) : IntKind.wrap .u64 ((BitVec.ofInt (IntKind.bits .u64) (a : Int) &&& ~~~ BitVec.ofInt (IntKind.bits .u64) (b : Int)).toNat : Int) = ((a6X a b : Nat) : Int) := by
 have e : (BitVec.ofInt (IntKind.bits .u64) (a : Int) &&& ~~~ BitVec.ofInt (IntKind.bits .u64) (b : Int)).toNat = a6X a b := by
  unfold a6X
  rw [fJ, fJ]
  rfl
 rw [e]
 have := a3Y a b
 exact nH _ (by omega) (by omega)
theorem a5F (a b j : Nat) (ha : a < 18446744073709551616) (hj : j < 64) : (a6X a b).testBit j = (a.testBit j && !b.testBit j) := by
 unfold a6X
 have h1 : (BitVec.ofNat 64 a &&& ~~~ BitVec.ofNat 64 b).toNat.testBit j = (BitVec.ofNat 64 a &&& ~~~ BitVec.ofNat 64 b).getLsbD j := rfl
 rw [h1, BitVec.getLsbD_and, BitVec.getLsbD_not, BitVec.getLsbD_ofNat, BitVec.getLsbD_ofNat]
 simp [hj]
def woF (x y : Nt) : Nt := (a6X x.1 y.1, a6X x.2 y.2)
theorem c0t (x y : Nt) : Nt.Ok (woF x y) := ⟨a3Y _ _, a3Y _ _⟩
theorem c0H (x y : Nt) : Fn prog 98 [.agg #[.int .u64 x.1, .int .u64 x.2], .agg #[.int .u64 y.1, .int .u64 y.2]] H fun r H' => r = .agg #[.int .u64 (woF x y).1, .int .u64 (woF x y).2] ∧ St prog H H' [] := by
 have e1 := b8v x.1 y.1
 have e2 := b8v x.2 y.2
 refine .aG func98 rfl (by kernel_rfl) (m := 16) rfl fun l hn g0 g1 => ?_
 simp (disch := omega) only [↓RA, RB, simprocAttr, g0]
 refine (sR H).eNew 2 [(.int .u64 x.1), (.int .u64 x.2)] rfl rfl rfl lA fun A1 H1 hS1 => ?_
 simp only [RT] at hS1
 simp (disch := omega) only [↓RA, RB, simprocAttr, g1]
 refine hS1.eNew 2 [(.int .u64 y.1), (.int .u64 y.2)] rfl rfl rfl lA fun A2 H2 hS2 => ?_
 simp only [RT] at hS2
 simp (disch := omega) only [↓RA, RZ, simprocAttr]
 refine hS2.eNew 2 [(.int .u64 0), (.int .u64 0)] rfl rfl rfl lA fun A3 H3 hS3 => ?_
 simp only [RT] at hS3
 simp (disch := omega) only [↓RA, RZ, simprocAttr, hn, hS3.ld 0 rfl, hS3.ld 1 rfl, b1h, e1, e2]
 refine hS3.aa 2 rfl [_, _] rfl rfl lA (by simp) fun H4 hS4 => ?_
 simp only [RT] at hS4
 simp (disch := omega) only [↓RA, RZ, simprocAttr, hn, c3G, hS4.aj 2 rfl]
 exact ⟨rfl, hS4.forget⟩
theorem a7g (x y : Nt) : Fn prog 54 [.agg #[.int .u64 x.1, .int .u64 x.2], .agg #[.int .u64 y.1, .int .u64 y.2]] H fun r H' => r = .bool (decide (woF x y = (0, 0))) ∧ St prog H H' [] := by
 refine .aG func54 rfl (by kernel_rfl) (m := 10) rfl fun l hn g0 g1 => ?_
 simp (disch := omega) only [↓RA, RB, simprocAttr, g0]
 refine (sR H).eNew 2 [(.int .u64 x.1), (.int .u64 x.2)] rfl rfl rfl lA fun A1 H1 hS1 => ?_
 simp only [RT] at hS1
 simp (disch := omega) only [↓RA, RB, simprocAttr, g1]
 refine hS1.eNew 2 [(.int .u64 y.1), (.int .u64 y.2)] rfl rfl rfl lA fun A2 H2 hS2 => ?_
 simp only [RT] at hS2
 simp (disch := omega) only [↓RA, RZ, simprocAttr, hn, hS2.aj 0 rfl, hS2.aj 1 rfl]
 refine hS2.cF (c0H x y) fun H3 hS3 => ?_
 simp (disch := omega) only [↓RA, RZ, simprocAttr, hn, b2Q, c4u]
 refine ⟨?_, hS3.forget⟩
 congr 1
 rw [decide_eq_decide]
 constructor
 ·rintro ⟨h1, h2⟩
  exact fT (by simpa using h1) (by simpa using h2)
 ·intro h
  rw [h]
  exact ⟨rfl, rfl⟩
def zA (lo hi : Int) : Nt := iY ((List.range (hi - lo + 1).toNat).map fun (k : Nat) => lo + (k : Int))
theorem b1D (lo hi : Int) (h0 : 0 ≤ lo) (h1 : lo ≤ hi) (h2 : hi ≤ 127) : Fn prog 53 [.agg #[I lo, I hi]] H fun r H' => r = .tuple #[.agg #[.int .u64 (zA lo hi).1, .int .u64 (zA lo hi).2], I 0] ∧ St prog H H' [] := by
 have hce : pQ lo hi = 0 := by
  unfold pQ
  rw [if_neg (by omega), if_neg (by omega)]
 refine .aR func53 rfl (by kernel_rfl) (m := 25) rfl fun l hn g0 => ?_
 simp (disch := omega) only [↓RA, RB, simprocAttr, g0]
 refine (sR H).eNew 2 [I lo, I hi] rfl rfl rfl sC fun A1 H1 hS1 => ?_
 simp only [RT] at hS1
 simp (disch := omega) only [↓RA, RZ, simprocAttr]
 refine hS1.eNew 2 [(.int .u64 0), (.int .u64 0)] rfl rfl rfl lA fun A2 H2 hS2 => ?_
 simp only [RT] at hS2
 simp (disch := omega) only [↓RA, RZ, simprocAttr]
 refine hS2.eNew 2 [(.int .u64 0), (.int .u64 0)] rfl rfl rfl lA fun A3 H3 hS3 => ?_
 simp only [RT] at hS3
 simp (disch := omega) only [↓RA, RZ, simprocAttr, hn, hS3.aj 0 rfl]
 refine hS3.cF (a0o lo hi) fun H4 hS4 => ?_
 rw [hce]
 simp (disch := omega) only [↓RA, RZ, simprocAttr, hn, hS4.ld 0 rfl]
 refine Wp.al (fun n l H' => l.length = 25 ∧ get l 1 = (ptr A1 0 2) ∧ get l 2 = (ptr A2 0 2) ∧ get l 3 = I 0 ∧ get l 4 = (ptr A3 0 2) ∧ ∃ (j : Nat), (n + j = (hi - lo + 1).toNat) ∧ get l 6 = I (lo + (j : Int)) ∧ St prog H H' [⟨ptr A1 0 2, 0, [I lo, I hi]⟩, ⟨ptr A2 0 2, 0, [(.int .u64 0), (.int .u64 0)]⟩, ⟨ptr A3 0 2, 0, [.int .u64 (iY ((List.range j).map fun (k : Nat) => lo + (k : Int))).1, .int .u64 (iY ((List.range j).map fun (k : Nat) => lo + (k : Int))).2]⟩]) (hi - lo + 1).toNat ?_ ?_
 ·simp (disch := omega) only [RB, RC, simprocAttr, hn]
  exact ⟨0, by omega, by simp, hS4⟩
 rintro n l H5 ⟨hn, g1, g2, g3, g4, j, hj, g6, hS5⟩
 simp (disch := omega) only [↓RA, RZ, simprocAttr, hn, g1, g6, hS5.ld 0 rfl]
 refine gT (fun q1 => ?_) (fun q1 => ?_)
 ·have hok : Nt.Ok (iY ((List.range j).map fun (k : Nat) => lo + (k : Int))) := uC _ _ (fun z h => by
   obtain ⟨k, hk, rfl⟩ := dp.1 h
   have := dm.1 hk
   exact ⟨by omega, by omega⟩) ⟨by decide, by decide⟩
  have hsu : iY ((List.range (j + 1)).map fun (k : Nat) => lo + (k : Int)) = rF (iY ((List.range j).map fun (k : Nat) => lo + (k : Int))) (lo + (j : Int)) := by
   unfold iY
   rw [dS, dM, gh]
   rfl
  simp (disch := omega) only [↓RA, RZ, simprocAttr, hn, g4, g6, hS5.aj 2 rfl, q1]
  refine hS5.cF (a6W (iY ((List.range j).map fun (k : Nat) => lo + (k : Int))) hok (lo + (j : Int)) (by omega) (by omega)) fun H6 hS6 => ?_
  simp (disch := omega) only [↓RA, RZ, simprocAttr, hn, g4, q1]
  refine hS6.aa 2 rfl [(.int .u64 (rF (iY ((List.range j).map fun (k : Nat) => lo + (k : Int))) (lo + (j : Int))).1), (.int .u64 (rF (iY ((List.range j).map fun (k : Nat) => lo + (k : Int))) (lo + (j : Int))).2)] rfl rfl lA (by simp) fun H7 hS7 => ?_
  simp only [RT] at hS7
  simp (disch := omega) only [↓RA, RZ, simprocAttr, hn, g1, g2, g3, g4, g6, q1]
  refine ⟨n - 1, by omega, j + 1, by omega, by congr 1; omega, ?_⟩
  rw [hsu]
  exact hS7.pick [0, 1, 2] (by decide) rfl
 have hjj : j = (hi - lo + 1).toNat := by omega
 simp (disch := omega) only [↓RA, RZ, simprocAttr, hn, g2, g4, hS5.aj 2 rfl, q1]
 refine hS5.aa 1 rfl [(.int .u64 (iY ((List.range j).map fun (k : Nat) => lo + (k : Int))).1), (.int .u64 (iY ((List.range j).map fun (k : Nat) => lo + (k : Int))).2)] rfl rfl lA (by simp) fun H8 hS8 => ?_
 simp only [RT] at hS8
 simp (disch := omega) only [↓RA, RZ, simprocAttr, hn, g2, c4s, hS8.aj 1 rfl, q1]
 rw [hjj]
 exact ⟨rfl, hS8.forget⟩
structure Ks (H : Heap) (kv : Value) (ks : List Nt) : Prop where
 sl : Sl 2 ntc H kv ks
 len : ks.length < 1000000000
 ok : ∀ x ∈ ks, Nt.Ok x
theorem Ks.ai {P : Program} {H' : Heap} {kv : Value} {ks : List Nt} {os : List Ob} (h : Ks H kv ks) (hS : St P H H' os) : Ks H' kv ks := ⟨hS.sl h.sl, h.len, h.ok⟩
def oK (o : Org) (ks : List Nt) : Int := if organE o ≠ 0 then organE o else if ks.length ≠ o.dvs.length then 5 else if ∃ j, j < o.dvs.length ∧ woF (gU ks j) (zA (gU o.dvs j).lo (gU o.dvs j).hi) ≠ (0, 0) then 23 else 0
theorem b5g (o : Org) (ho : o.In H) (kv : Value) (ks : List Nt) (hk : Ks H kv ks) : Fn prog 19 [.agg #[.string o.name, o.rv, o.dv, o.cv], kv] H fun r H' => r = I (oK o ks) ∧ St prog H H' [] := by
 have hkl := hk.len
 have hdl := ho.2.2.2.2.2.2.1
 refine .aG func19 rfl (by kernel_rfl) (m := 43) rfl fun l hn g0 g1 => ?_
 simp (disch := omega) only [↓RA, RB, simprocAttr, g0]
 refine (sR H).eNew 4 [(.string o.name), o.rv, o.dv, o.cv] rfl rfl (by simp [OC, ((sR H).sl ho.1).cells.2.1, ((sR H).sl ho.2.2.1).cells.2.1, ((sR H).sl ho.2.2.2.2.1).cells.2.1]) mT fun A1 H1 hS1 => ?_
 simp only [RT] at hS1
 simp (disch := omega) only [↓RA, RZ, simprocAttr, hn, hS1.aj 0 rfl]
 refine hS1.cF (a1B o (ho.ai hS1)) fun H2 hS2 => ?_
 simp (disch := omega) only [↓RA, RB, simprocAttr, hn]
 refine gT (fun h1 => ?_) (fun h1 => ?_)
 ·simp (disch := omega) only [↓RA, RZ, simprocAttr, hn, b7I, h1]
  exact ⟨by unfold oK; rw [if_pos h1], hS2.forget⟩
 have hz : organE o = 0 := dA.1 h1
 have hf := Org.bl hz
 simp (disch := omega) only [↓RA, RZ, simprocAttr, hn, g1, (hS2.sl hk.sl).len, hS2.ld 0 rfl, (hS2.sl ho.2.2.1).len, h1]
 refine gT (fun h2 => ?_) (fun h2 => ?_)
 ·simp (disch := omega) only [↓RA, RZ, simprocAttr, hn, b7I, h1, h2]
  exact ⟨by unfold oK; rw [if_neg h1, if_pos (by omega)], hS2.forget⟩
 have hlen : ks.length = o.dvs.length := by omega
 simp (disch := omega) only [↓RA, RZ, simprocAttr, hn, hS2.ld 0 rfl, (hS2.sl ho.2.2.1).len, h1, h2]
 refine Wp.al (fun n l H' => l.length = 43 ∧ get l 1 = kv ∧ get l 22 = o.dv ∧ get l 23 = I o.dvs.length ∧ ∃ (j : Nat), (n + j = o.dvs.length ∧ ∀ q, q < j → woF (gU ks q) (zA (gU o.dvs q).lo (gU o.dvs q).hi) = (0, 0)) ∧ get l 24 = I j ∧ St prog H H' [⟨ptr A1 0 4, 0, [(.string o.name), o.rv, o.dv, o.cv]⟩]) o.dvs.length ?_ ?_
 ·simp (disch := omega) only [RB, RC, simprocAttr, hn, g1]
  exact ⟨0, ⟨by omega, fun q hq => absurd hq (dF _)⟩, rfl, hS2⟩
 rintro n l H3 ⟨hn, g1, g22, g23, j, ⟨hj,hq⟩, g24, hS3⟩
 simp (disch := omega) only [↓RA, RB, simprocAttr, hn, g23, g24]
 refine gT (fun h3 => ?_) (fun h3 => ?_)
 ·have hky := hf.keys j (by omega)
  simp (disch := omega) only [↓RA, RZ, simprocAttr, hn, g22, g24, (hS3.sl ho.2.2.1).idx, (hS3.sl ho.2.2.1).aj, Dvn.cells, h3]
  refine hS3.eNew 5 [(.string ⟨#[]⟩), (.bool false), I 0, I 0, (.slice none 0 0)] rfl rfl rfl sB fun A2 H4 hS4 => ?_
  simp only [RT] at hS4
  simp (disch := omega) only [↓RA, RZ, simprocAttr, hn, h3]
  refine hS4.aa 1 rfl [(.string (gU o.dvs j).name), (.bool (gU o.dvs j).pedal), I (gU o.dvs j).lo, I (gU o.dvs j).hi, (gU o.dvs j).sv] rfl (by simp [OC, (hS4.sl (ho.2.2.2.1 (gU o.dvs j) (gX (by omega))).1).cells.2.1]) sB (by simp) fun H5 hS5 => ?_
  simp only [RT] at hS5
  simp (disch := omega) only [↓RA, RZ, simprocAttr, hn, hS5.aj 1 rfl, h3]
  refine hS5.cF (b1D (gU o.dvs j).lo (gU o.dvs j).hi hky.1 hky.2.1 hky.2.2) fun H6 hS6 => ?_
  simp (disch := omega) only [↓RA, RZ, simprocAttr, hn, h3]
  refine hS6.eNew 2 [(.int .u64 0), (.int .u64 0)] rfl rfl rfl lA fun A3 H7 hS7 => ?_
  simp only [RT] at hS7
  simp (disch := omega) only [↓RA, RZ, simprocAttr, hn, h3]
  refine hS7.aa 2 rfl [(.int .u64 (zA (gU o.dvs j).lo (gU o.dvs j).hi).1), (.int .u64 (zA (gU o.dvs j).lo (gU o.dvs j).hi).2)] rfl rfl lA (by simp) fun H8 hS8 => ?_
  simp only [RT] at hS8
  simp (disch := omega) only [↓RA, RZ, simprocAttr, hn, h3]
  refine Wp.drw jU (by kernel_rfl) ?_
  simp (disch := omega) only [↓RA, RZ, simprocAttr, hn, g1, (hS8.sl hk.sl).idx, (hS8.sl hk.sl).aj, ntc, hS8.aj 2 rfl]
  refine hS8.cF (a7g (gU ks j) (zA (gU o.dvs j).lo (gU o.dvs j).hi)) fun H9 hS9 => ?_
  simp (disch := omega) only [↓RA, RB, simprocAttr, hn]
  refine jD (fun h4 => ?_) (fun h4 => ?_)
  ·have h5 : ¬ woF (gU ks j) (zA (gU o.dvs j).lo (gU o.dvs j).hi) = (0, 0) := by simpa using h4
   simp (disch := omega) only [↓RA, RB, simprocAttr, hn, b7I, h4]
   exact ⟨by unfold oK; rw [if_neg h1, if_neg (by omega), if_pos ⟨j, by omega, h5⟩], hS9.forget⟩
  have h5 : woF (gU ks j) (zA (gU o.dvs j).lo (gU o.dvs j).hi) = (0, 0) := by simpa using h4
  simp (disch := omega) only [↓RA, RZ, simprocAttr, hn, g1, g22, g23, g24, h4]
  exact ⟨n - 1, by omega, j + 1, ⟨by omega, fun q hq' => by rcases de.1 hq' with e | e; (· exact hq q e); (· rw [e]; exact h5)⟩, by simp, hS9.pick [0] (by decide) rfl⟩
 simp (disch := omega) only [↓RA, RZ, simprocAttr, hn, b7I, h3]
 refine ⟨?_, hS3.forget⟩
 unfold oK
 rw [if_neg h1, if_neg (by omega), if_neg]
 rintro ⟨q, hq1, hq2⟩
 exact hq2 (hq q (by omega))
def plD (ks : List Nt) (i : Nat) : List Ct := (oJ (gU ks i)).map fun z => ((i : Int), z)
def iG (ks : List Nt) : List Ct := (List.range ks.length).flatMap (plD ks)
theorem c0E (ks : List Nt) (i : Nat) : (plD ks i).length ≤ 128 := by
 unfold plD
 rw [dY]
 exact a0H _
theorem b5s (ks : List Nt) : ∀ i, ((List.range i).flatMap (plD ks)).length ≤ i * 128
 | 0 => by simp
 | i + 1 => by
   have := b5s ks i
   have := c0E ks i
   rw [dS, dG, dj, dz, eT, di]
   omega
theorem a2E (hG : Glob gH H) (kv : Value) (ks : List Nt) (hk : Ks H kv ks) (h8 : ks.length ≤ 8) : Fn prog 47 [kv] H fun r H' => St prog H H' [⟨r, 2, pr (iG ks)⟩] := by
 refine .aR func47 rfl (by kernel_rfl) (m := 31) rfl fun l hn g0 => ?_
 simp (disch := omega) only [↓RA, RZ, simprocAttr, hn, g0, ((sR H).sl hk.sl).len]
 have hS1 := (sR H).nil 1
 simp only [RT] at hS1
 refine Wp.al (fun n l H' => l.length = 31 ∧ get l 2 = (.slice none 0 0) ∧ get l 8 = kv ∧ get l 9 = I ks.length ∧ ∃ (i : Nat) (ov : Value), (n + i = ks.length) ∧ get l 10 = I i ∧ get l 3 = ov ∧ St prog H H' [⟨ov, 2, pr ((List.range i).flatMap (plD ks))⟩]) ks.length ?_ ?_
 ·simp (disch := omega) only [RB, RC, simprocAttr, hn]
  exact ⟨0, .slice none 0 0, by omega, rfl, rfl, hS1⟩
 rintro n l H1 ⟨hn, g2, g8, g9, i, ov, hi, sQ, g3, hS2⟩
 simp (disch := omega) only [↓RA, RB, simprocAttr, hn, g9, sQ]
 refine gT (fun q1 => ?_) (fun q1 => ?_)
 ·have hmo := hk.ok _ (gX (xs := ks) (j := i) (by omega))
  have hml := a0H (gU ks i)
  have hpl := b5s ks i
  simp (disch := omega) only [↓RA, RZ, simprocAttr, hn, g8, sQ, (hS2.sl hk.sl).idx, (hS2.sl hk.sl).aj, ntc, q1]
  refine hS2.eNew 2 [(.int .u64 0), (.int .u64 0)] rfl rfl rfl lA fun A1 H2 hS3 => ?_
  simp only [RT] at hS3
  simp (disch := omega) only [↓RA, RZ, simprocAttr, hn, q1]
  refine hS3.aa 1 rfl [(.int .u64 (gU ks i).1), (.int .u64 (gU ks i).2)] rfl rfl lA (by simp) fun H3 hS4 => ?_
  simp only [RT] at hS4
  simp (disch := omega) only [↓RA, RZ, simprocAttr, hn, hS4.aj 1 rfl, q1]
  refine iB ((a9j (hS4.gl hG) (gU ks i) hmo).tr) ?_
  rintro r H4 ⟨-, hT1⟩
  have hS5 := hS4.trans hT1
  simp only [RT] at hS5
  obtain ⟨mw, rfl⟩ : ∃ w, w = r := ⟨r, rfl⟩
  simp (disch := omega) only [↓RA, RZ, simprocAttr, hn, (hS5.ax 2 rfl (fun _ => rfl)).len, q1]
  refine Wp.al (fun n l H' => l.length = 31 ∧ get l 2 = (.slice none 0 0) ∧ get l 4 = I i ∧ get l 8 = kv ∧ get l 9 = I ks.length ∧ get l 10 = I i ∧ get l 16 = mw ∧ get l 17 = I (oJ (gU ks i)).length ∧ ∃ (j : Nat) (ow : Value), (n + j = (oJ (gU ks i)).length) ∧ get l 18 = I j ∧ get l 3 = ow ∧ St prog H H' [⟨ow, 2, pr ((List.range i).flatMap (plD ks) ++ ((oJ (gU ks i)).take j).map fun z => ((i : Int), z))⟩, ⟨ptr A1 0 2, 0, [(.int .u64 (gU ks i).1), (.int .u64 (gU ks i).2)]⟩, ⟨mw, 1, (oJ (gU ks i)).flatMap (one I)⟩]) (oJ (gU ks i)).length ?_ ?_
  ·simp (disch := omega) only [RB, RC, simprocAttr, hn, g2, g8, g9, sQ, g3]
   refine ⟨0, ov, by omega, rfl, rfl, ?_⟩
   rw [List.take_zero, fW, di]
   exact hS5
  rintro n l H5 ⟨hn, g2, g4, g8, g9, sQ, g16, g17, j, ow, hj, g18, g3, hS6⟩
  simp (disch := omega) only [↓RA, RB, simprocAttr, hn, g17, g18]
  refine gT (fun q2 => ?_) (fun q2 => ?_)
  ·have hroom : (pr ((List.range i).flatMap (plD ks) ++ ((oJ (gU ks i)).take j).map fun z => ((i : Int), z))).length ≤ 4000 := by
    rw [hK, dj, dY, gQ]
    omega
   simp (disch := omega) only [↓RA, RZ, simprocAttr, hn, g4, g16, g18, g3, (hS6.ax 2 rfl (fun _ => rfl)).idx, (hS6.ax 2 rfl (fun _ => rfl)).ld, one, pM, q2]
   refine hS6.ae [I i, I (gU (oJ (gU ks i)) j)] qM a2k rfl rfl (by simp [Value.cells]) rfl rfl (by decide) (by decide) fun w1 H6 hS7 => ?_
   simp only [RT] at hS7
   simp (disch := omega) only [↓RA, RZ, simprocAttr, hn, q2]
   refine hS7.aq 0 rfl (hS7.rd 3 rfl) qM (by have h := hroom; simp only [ek, eX]; omega) fun w2 H7 hS8 => ?_
   simp only [RT] at hS8
   simp (disch := omega) only [↓RA, RZ, simprocAttr, hn, g2, g4, g8, g9, sQ, g16, g17, g18, q2]
   refine ⟨n - 1, by omega, j + 1, w2, by omega, by simp, rfl, ?_⟩
   rw [List.take_add_one, dc (by omega), Option.toList_some, dM, ← ed, jE]
   rw [show (oJ (gU ks i))[j] = gU (oJ (gU ks i)) j from (jY _ _ (by omega)).symm]
   exact hS8.pick [0, 1, 2] (by decide) rfl
  simp (disch := omega) only [↓RA, RZ, simprocAttr, hn, g2, g8, g9, sQ, g3, q2]
  have hjj : j = (oJ (gU ks i)).length := by omega
  refine ⟨ks.length - (i + 1), by omega, i + 1, ow, by omega, by simp, rfl, ?_⟩
  rw [dS, dG, dz, eT, di]
  rw [show plD ks i = ((oJ (gU ks i)).take j).map (fun z => ((i : Int), z)) from by rw [hjj, eo]; rfl]
  exact hS6.pick [0] (by decide) rfl
 have hii : i = ks.length := by omega
 simp (disch := omega) only [↓RA, RZ, simprocAttr, hn, g3, c4q, q1]
 have hfin := hS2
 rw [hii] at hfin
 exact hfin
end Go.Ds
namespace Go.Ds
open Go.Proofs
set_option maxRecDepth 10000
def mW (x : Nt) (z : Int) : Bool := if z < 64 then x.1.testBit z.toNat else x.2.testBit (z - 64).toNat
theorem qX {x i : Nat} : i ∈ nS x ↔ i < 64 ∧ x.testBit i = true := by
 unfold nS
 rw [eQ, dm]
theorem a1d {x : Nt} {z : Int} : z ∈ oJ x ↔ isN z ∧ mW x z = true := by
 unfold oJ mW isN
 rw [dx, dp, dp]
 constructor
 ·rintro (⟨i, hi, rfl⟩ | ⟨i, hi, rfl⟩)
  ·obtain ⟨h1, h2⟩ := qX.1 hi
   exact ⟨by omega, by rw [if_pos (by omega)]; exact h2⟩
  ·obtain ⟨h1, h2⟩ := qX.1 hi
   refine ⟨by omega, ?_⟩
   rw [if_neg (by omega), show (64 + (i : Int) - 64).toNat = i by omega]
   exact h2
 ·rintro ⟨h1, h2⟩
  by_cases h : z < 64
  ·rw [if_pos h] at h2
   exact .inl ⟨z.toNat, qX.2 ⟨by omega, h2⟩, by omega⟩
  ·rw [if_neg h] at h2
   exact .inr ⟨(z - 64).toNat, qX.2 ⟨by omega, h2⟩, by omega⟩
theorem b2L (x : Nt) (n z : Int) (hn : isN n) (hz : isN z) : mW (rF x n) z = (mW x z || decide (z = n)) := by
 unfold mW rF isN at *
 by_cases h1 : n < 64
 ·rw [if_pos h1]
  by_cases h2 : z < 64
  ·rw [if_pos h2, if_pos h2, Nat.testBit_or, fO]
   congr 1
   rw [decide_eq_decide]
   omega
  ·rw [if_neg h2, if_neg h2, decide_eq_false (by omega), Bool.or_false]
 ·rw [if_neg h1]
  by_cases h2 : z < 64
  ·rw [if_pos h2, if_pos h2, decide_eq_false (by omega), Bool.or_false]
  ·rw [if_neg h2, if_neg h2, Nat.testBit_or, fO]
   congr 1
   rw [decide_eq_decide]
   omega
theorem a2H (z : Int) : mW (0, 0) z = false := by
 unfold mW
 split <;> simp
theorem a3r : ∀ (xs : List Int) (x : Nt) (z : Int), (∀ n ∈ xs, isN n) → isN z → mW (xs.foldl rF x) z = (mW x z || decide (z ∈ xs))
 | [], x, z, _, _ => by simp
 | n :: xs, x, z, h, hz => by
   rw [eP, a3r xs _ z (fun y hy => h y (dN _ hy)) hz, b2L x n z (h n (dL ..)) hz, Bool.or_assoc]
   congr 1
   rw [dP]
   simp
theorem a1Q {xs : List Int} {z : Int} (h : ∀ n ∈ xs, isN n) (hz : isN z) : mW (iY xs) z = decide (z ∈ xs) := by
 unfold iY
 rw [a3r xs _ z h hz, a2H, Bool.false_or]
theorem a0Y {lo hi z : Int} (h0 : 0 ≤ lo) (h2 : hi ≤ 127) (hz : isN z) : mW (zA lo hi) z = (decide (lo ≤ z) && decide (z ≤ hi)) := by
 unfold zA
 rw [a1Q (fun n hn => by
  obtain ⟨k, hk, rfl⟩ := dp.1 hn
  have := dm.1 hk
  exact ⟨by omega, by omega⟩) hz, dP, cS, decide_eq_true_eq, decide_eq_true_eq, decide_eq_true_eq, dp]
 constructor
 ·rintro ⟨k, hk, rfl⟩
  have := dm.1 hk
  omega
 ·rintro ⟨h3, h4⟩
  exact ⟨(z - lo).toNat, dm.2 (by omega), by omega⟩
theorem a9H {x y : Nt} (hx : Nt.Ok x) {z : Int} (hz : isN z) : mW (woF x y) z = (mW x z && !mW y z) := by
 obtain ⟨h1, h2⟩ := hz
 unfold mW woF
 by_cases h : z < 64
 ·rw [if_pos h, if_pos h, if_pos h, a5F _ _ _ hx.1 (by omega)]
 ·rw [if_neg h, if_neg h, if_neg h, a5F _ _ _ hx.2 (by omega)]
theorem a1h {x y : Nt} (hx : Nt.Ok x) (h : woF x y = (0, 0)) {z : Int} (hz : isN z) (hh : mW x z = true) : mW y z = true := by
 have := a9H (y := y) hx hz
 rw [h, a2H, hh] at this
 simpa using this.symm
theorem oD {o : Org} {ks : List Nt} (h : oK o ks = 0) : organE o = 0 ∧ ks.length = o.dvs.length ∧ ∀ j, j < o.dvs.length → woF (gU ks j) (zA (gU o.dvs j).lo (gU o.dvs j).hi) = (0, 0) := by
 unfold oK at h
 split at h
 ·rename_i hh; exact absurd h hh
 rename_i h1
 split at h
 ·omega
 rename_i h2
 split at h
 ·omega
 rename_i h3
 refine ⟨dA.1 h1, by omega, fun j hj => ?_⟩
 by_cases hh : woF (gU ks j) (zA (gU o.dvs j).lo (gU o.dvs j).hi) = (0, 0)
 ·exact hh
 ·exact absurd ⟨j, hj, hh⟩ h3
theorem uH {o : Org} {ks : List Nt} (hok : ∀ x ∈ ks, Nt.Ok x) (h : oK o ks = 0) : ∀ c ∈ iG ks, oW o c = true := by
 obtain ⟨h1, h2, h3⟩ := oD h
 have hf := Org.bl h1
 intro c hc
 unfold iG at hc
 obtain ⟨i, hi, hc⟩ := ey.1 hc
 have hi := dm.1 hi
 unfold plD at hc
 obtain ⟨z, hz, rfl⟩ := dp.1 hc
 obtain ⟨hz1, hz2⟩ := a1d.1 hz
 have hky := hf.keys i (by omega)
 have hw := a1h (hok _ (gX hi)) (h3 i (by omega)) hz1 hz2
 rw [a0Y hky.1 hky.2.2 hz1] at hw
 simp only [cS, decide_eq_true_eq] at hw
 unfold oW
 simp only [cS, decide_eq_true_eq, fy]
 omega
theorem uG {o : Org} {ks : List Nt} (h : oK o ks = 0) : (iG ks).length ≤ 1024 := by
 obtain ⟨h1, h2, _⟩ := oD h
 have h8 := (Org.bl h1).dlen
 have := b5s ks ks.length
 unfold iG
 omega
structure SegsOk (m : Nat) (lo hi : Int) (gs : List Seg) : Prop where
 ord : ∀ i, i < gs.length → (gU gs i).lo ≤ (gU gs i).hi
 up : ∀ i, i < gs.length → 0 < i → (gU gs (i - 1)).hi < (gU gs i).lo
 within : ∀ i, i < gs.length → lo ≤ (gU gs i).lo ∧ (gU gs i).hi ≤ hi
 draws : ∀ i, i < gs.length → kT m (gU gs i).draws = 0
 len : gs.length ≤ 12
theorem SegsOk.lt {m : Nat} {lo hi : Int} {gs : List Seg} (h : SegsOk m lo hi gs) {i : Nat} : ∀ k, i + 1 + k < gs.length → (gU gs i).hi < (gU gs (i + 1 + k)).lo
 | 0, hk => h.up (i + 1) hk (by omega)
 | k + 1, hk => by
   have h1 := h.lt (i := i) k (by omega)
   have h2 := h.ord (i + 1 + k) (by omega)
   have h3 := h.up (i + 1 + (k + 1)) hk (by omega)
   rw [show i + 1 + (k + 1) - 1 = i + 1 + k by omega] at h3
   omega
theorem SegsOk.one {m : Nat} {lo hi : Int} {gs : List Seg} (h : SegsOk m lo hi gs) {key : Int} {i j : Nat} (hi' : i < gs.length) (hj : j < gs.length) (h1 : (gU gs i).lo ≤ key ∧ key ≤ (gU gs i).hi) (h2 : (gU gs j).lo ≤ key ∧ key ≤ (gU gs j).hi) : i = j := by
 rcases Nat.lt_trichotomy i j with e | e | e
 ·have := h.lt (i := i) (j - i - 1) (by omega)
  rw [show i + 1 + (j - i - 1) = j by omega] at this
  omega
 ·exact e
 ·have := h.lt (i := j) (i - j - 1) (by omega)
  rw [show j + 1 + (i - j - 1) = i by omega] at this
  omega
def qT (r : Reg) (q : List Ct) (c : Ct) : List Ct := if !r.off.testBit c.1.toNat && !decide (c ∈ q) then q ++ [c] else q
def b2K (o : Org) (r : Reg) (l : List Ct) : List Ct := sP (l.foldl (qT r) (bfs o r.cpl 1100 0 (jX o r.cpl l)))
theorem a1b {r : Reg} : ∀ {l q : List Ct} {x : Ct}, x ∈ l.foldl (qT r) q ↔ x ∈ q ∨ (x ∈ l ∧ r.off.testBit x.1.toNat = false)
 | [], q, x => by simp
 | c :: l, q, x => by
   rw [eP, a1b]
   unfold qT
   by_cases h1 : r.off.testBit c.1.toNat = false
   ·by_cases h2 : c ∈ q
    ·rw [if_neg (by simp [h2])]
     constructor
     ·rintro (h | ⟨h, k⟩)
      ·exact .inl h
      ·exact .inr ⟨dN _ h, k⟩
     ·rintro (h | ⟨h, k⟩)
      ·exact .inl h
      ·rcases dJ.1 h with e | e
       ·exact .inl (by rw [e]; exact h2)
       ·exact .inr ⟨e, k⟩
    ·rw [if_pos (by simp [h1, h2])]
     constructor
     ·rintro (h | ⟨h, k⟩)
      ·rcases dx.1 h with h | h
       ·exact .inl h
       ·have := dC.1 h
        subst this
        exact .inr ⟨dL .., h1⟩
      ·exact .inr ⟨dN _ h, k⟩
     ·rintro (h | ⟨h, k⟩)
      ·exact .inl (dx.2 (.inl h))
      ·rcases dJ.1 h with e | e
       ·exact .inl (dx.2 (.inr (by rw [e]; simp)))
       ·exact .inr ⟨e, k⟩
   ·rw [if_neg (by simp [h1])]
    constructor
    ·rintro (h | ⟨h, k⟩)
     ·exact .inl h
     ·exact .inr ⟨dN _ h, k⟩
    ·rintro (h | ⟨h, k⟩)
     ·exact .inl h
     ·rcases dJ.1 h with e | e
      ·subst e; exact absurd k h1
      ·exact .inr ⟨e, k⟩
theorem uY {r : Reg} : ∀ {l q : List Ct}, q.Nodup → (l.foldl (qT r) q).Nodup
 | [], _, h => h
 | c :: l, q, h => by
   rw [eP]
   refine uY ?_
   unfold qT
   split
   ·rename_i hh
    simp only [cS, dw, decide_eq_false_iff_not] at hh
    rw [List.nodup_append]
    exact ⟨h, by simp, fun a ha b hb e => hh.2 (by simp at hb; rw [← hb, ← e]; exact ha)⟩
   ·exact h
theorem c1f {l : List Ct} (h : l.Nodup) : (sP l).Pairwise ltP := by
 have h1 : (sP l).Nodup := (lZ l).nodup_iff.2 h
 refine List.Pairwise.imp₂ ?_ (rA l) h1
 intro a b h2 h3
 rw [mP] at h2
 unfold ltP
 by_cases e : a.1 = b.1
 ·by_cases e2 : a.2 = b.2
  ·exact absurd (fT e e2) h3
  ·omega
 ·omega
theorem a3F {o : Org} (cp : Nat) : ∀ (n i : Nat) (q : List Ct), Que o q → Que o (bfs o cp n i q)
 | 0, _, _, h => h
 | n + 1, i, q, h => by
   rw [bfs]
   split
   ·exact a3F cp n (i + 1) _ (h.stepF cp true _)
   ·exact h
theorem b3E (o : Org) (r : Reg) (l : List Ct) : b2K o r l = mG o r l := by
 unfold b2K mG
 refine yP _ _ (c1f (uY (a3F r.cpl 1100 0 _ (a1w o r.cpl l)).1)) (c0i _) fun x => ?_
 rw [b6q, (lZ _).mem_iff, a1b, dx, eQ]
 constructor
 ·rintro (h | ⟨h, k⟩)
  ·exact .inr h
  ·exact .inl ⟨h, by simpa using k⟩
 ·rintro (⟨h, k⟩ | h)
  ·exact .inr ⟨h, by simpa using k⟩
  ·exact .inl h
def a1Y (o : Org) (ks : List Nt) (i : Nat) : List Ct := ((List.range ((gU o.dvs i).hi - (gU o.dvs i).lo + 1).toNat).filter fun (j : Nat) => mW (gU ks i) ((gU o.dvs i).lo + (j : Int))).map fun (j : Nat) => ((i : Int), (gU o.dvs i).lo + (j : Int))
def a7p (o : Org) (ks : List Nt) : List Ct := (List.range o.dvs.length).flatMap (a1Y o ks)
theorem vD {f : Nat → List Ct} (h1 : ∀ i, (f i).Pairwise ltP) (h2 : ∀ i, ∀ c ∈ f i, c.1 = (i : Int)) : ∀ n, ((List.range n).flatMap f).Pairwise ltP
 | 0 => .nil
 | n + 1 => by
   rw [dS, dG, dz, eT, di, eN]
   refine ⟨vD h1 h2 n, h1 n, fun a ha b hb => ?_⟩
   obtain ⟨i, hi, ha⟩ := ey.1 ha
   have hi := dm.1 hi
   unfold ltP
   rw [h2 i a ha, h2 n b hb]
   omega
theorem b7B (o : Org) (ks : List Nt) (i : Nat) : (a1Y o ks i).Pairwise ltP := by
 unfold a1Y
 rw [gi]
 refine List.Pairwise.imp ?_ (List.Pairwise.filter _ List.pairwise_lt_range)
 intro a b h
 unfold ltP
 omega
theorem a5f (x : Nt) : (oJ x).Pairwise (· < ·) := by
 unfold oJ
 rw [eN, gi, gi]
 have h : ∀ n, (nS n).Pairwise (· < ·) := fun n => List.Pairwise.filter _ List.pairwise_lt_range
 refine ⟨(h _).imp (by intro a b h; omega), (h _).imp (by intro a b h; omega), fun a ha b hb => ?_⟩
 obtain ⟨i, hi, rfl⟩ := dp.1 ha
 obtain ⟨j, _, rfl⟩ := dp.1 hb
 have := (qX.1 hi).1
 omega
theorem b9r (ks : List Nt) (i : Nat) : (plD ks i).Pairwise ltP := by
 unfold plD
 rw [gi]
 exact (a5f _).imp fun h => .inr ⟨rfl, h⟩
theorem b1X (ks : List Nt) : (iG ks).Pairwise ltP := vD (b9r ks) (fun i c hc => by
 unfold plD at hc
 obtain ⟨z, _, rfl⟩ := dp.1 hc
 rfl) _
theorem b6O {o : Org} {ks : List Nt} (hok : ∀ x ∈ ks, Nt.Ok x) (h : oK o ks = 0) : a7p o ks = iG ks := by
 obtain ⟨h1, h2, h3⟩ := oD h
 have hf := Org.bl h1
 refine yP _ _ (vD (b7B o ks) (fun i c hc => by
  unfold a1Y at hc
  obtain ⟨z, _, rfl⟩ := dp.1 hc
  rfl) _) (b1X ks) fun x => ?_
 constructor
 ·intro hx
  obtain ⟨i, hi, hx⟩ := ey.1 hx
  have hi := dm.1 hi
  have hk := hf.keys i hi
  unfold a1Y at hx
  obtain ⟨z, hz, rfl⟩ := dp.1 hx
  obtain ⟨hz1, hz2⟩ := eQ.1 hz
  have hz1 := dm.1 hz1
  unfold iG
  refine ey.2 ⟨i, dm.2 (by omega), ?_⟩
  unfold plD
  exact dp.2 ⟨_, a1d.2 ⟨⟨by omega, by omega⟩, hz2⟩, rfl⟩
 ·intro hx
  unfold iG at hx
  obtain ⟨i, hi, hx⟩ := ey.1 hx
  have hi := dm.1 hi
  have hk := hf.keys i (by omega)
  unfold plD at hx
  obtain ⟨z, hz, rfl⟩ := dp.1 hx
  obtain ⟨hz1, hz2⟩ := a1d.1 hz
  have hw := a1h (hok _ (gX hi)) (h3 i (by omega)) hz1 hz2
  rw [a0Y hk.1 hk.2.2 hz1, cS, decide_eq_true_eq, decide_eq_true_eq] at hw
  unfold a7p
  refine ey.2 ⟨i, dm.2 (by omega), ?_⟩
  unfold a1Y
  refine dp.2 ⟨(z - (gU o.dvs i).lo).toNat, eQ.2 ⟨dm.2 (by omega), ?_⟩, ?_⟩
  ·rw [show (gU o.dvs i).lo + ((z - (gU o.dvs i).lo).toNat : Int) = z by omega]
   exact hz2
  ·rw [show (gU o.dvs i).lo + ((z - (gU o.dvs i).lo).toNat : Int) = z by omega]
end Go.Ds
namespace Go.Ds
open Go.Proofs Go.Proofs.Tryz
variable {H : Heap}
set_option maxRecDepth 10000
set_option maxHeartbeats 1000000
def b4p (o : Org) (l : List (Value × Reg)) (ks : List Nt) : Int := if qC o l ≠ 0 then qC o l else oK o ks
theorem b2F (o : Org) (ho : o.In H) (lv : Value) (xs : List (Value × Reg)) (hl : Sl 3 rgc H lv xs) (hle : xs.length < 1000000000) (hr : ∀ p ∈ xs, p.2.In H p.1) (kv : Value) (ks : List Nt) (hk : Ks H kv ks) :
 Fn prog 45 [.agg #[.string o.name, o.rv, o.dv, o.cv], lv, kv] H fun r H' => r = I (b4p o xs ks) ∧ St prog H H' [] := by
 refine .bA func45 rfl (by kernel_rfl) (m := 17) rfl fun l hn g0 g1 g2 => ?_
 simp (disch := omega) only [↓RA, RB, simprocAttr, g0]
 refine (sR H).eNew 4 [(.string o.name), o.rv, o.dv, o.cv] rfl rfl (by simp [OC, ((sR H).sl ho.1).cells.2.1, ((sR H).sl ho.2.2.1).cells.2.1, ((sR H).sl ho.2.2.2.2.1).cells.2.1]) mT fun A1 H1 hS1 => ?_
 simp only [RT] at hS1
 simp (disch := omega) only [↓RA, RZ, simprocAttr, hn, g1, hS1.aj 0 rfl]
 refine hS1.cF (b2u o (ho.ai hS1) lv xs (hS1.sl hl) hle (fun p hp => (hr p hp).ai hS1)) fun H2 hS2 => ?_
 simp (disch := omega) only [↓RA, RB, simprocAttr, hn]
 refine gT (fun h1 => ?_) (fun h1 => ?_)
 ·simp (disch := omega) only [↓RA, RZ, simprocAttr, hn, c1o, h1]
  exact ⟨by unfold b4p; rw [if_pos h1], hS2.forget⟩
 simp (disch := omega) only [↓RA, RZ, simprocAttr, hn, g2, hS2.aj 0 rfl, h1]
 refine hS2.cF (b5g o (ho.ai hS2) kv ks (hk.ai hS2)) fun H3 hS3 => ?_
 simp (disch := omega) only [↓RA, RZ, simprocAttr, hn, c1o, h1]
 exact ⟨by unfold b4p; rw [if_neg h1], hS3.forget⟩
def rkE (o : Org) (rg : Reg) (ks : List Nt) : Int := if pY o rg ≠ 0 then pY o rg else oK o ks
theorem a5K (o : Org) (sv : Value) (rg : Reg) (ks : List Nt) : b4p o [(sv, rg)] ks = rkE o rg ks := by
 unfold b4p rkE
 rw [a4K]
theorem a5i {o : Org} {rg : Reg} {ks : List Nt} (h : rkE o rg ks = 0) : pY o rg = 0 ∧ oK o ks = 0 := by
 unfold rkE at h
 split at h
 ·rename_i hh; exact absurd h hh
 ·rename_i hh; exact ⟨dA.1 hh, h⟩
def a2r (o : Org) (rg : Reg) (ks : List Nt) : List Ct := if rkE o rg ks = 0 then a8d o rg (iG ks) else []
def a5q (o : Org) (rg : Reg) (ks : List Nt) : List Ct := if rkE o rg ks = 0 then mG o rg (iG ks) else []
theorem zM (hG : Glob gH H) (o : Org) (ho : o.In H) (rg : Reg) (sv : Value) (hr : rg.In H sv) (kv : Value) (ks : List Nt) (hk : Ks H kv ks) :
 Fn prog 20 [.agg #[.string o.name, o.rv, o.dv, o.cv], .agg #[sv, .int .u64 rg.cpl, .int .u64 rg.off], kv] H fun r H' => ∃ pv, r = .tuple #[pv, I (rkE o rg ks)] ∧ Slx 2 jT H' (fun B => H.length ≤ B) pv (a2r o rg ks) ∧ St prog H H' [] := by
 refine .bA func20 rfl (by kernel_rfl) (m := 22) rfl fun l hn g0 g1 g2 => ?_
 simp (disch := omega) only [↓RA, RB, simprocAttr, g0]
 refine (sR H).eNew 4 [(.string o.name), o.rv, o.dv, o.cv] rfl rfl (by simp [OC, ((sR H).sl ho.1).cells.2.1, ((sR H).sl ho.2.2.1).cells.2.1, ((sR H).sl ho.2.2.2.2.1).cells.2.1]) mT fun A1 H1 hS1 => ?_
 simp only [RT] at hS1
 simp (disch := omega) only [↓RA, RB, simprocAttr, g1]
 refine hS1.eNew 3 [sv, (.int .u64 rg.cpl), (.int .u64 rg.off)] rfl rfl (by simp [OC, (hS1.sl hr.1).cells.2.1]) qP fun A2 H2 hS2 => ?_
 simp only [RT] at hS2
 simp (disch := omega) only [↓RA, RZ, simprocAttr, hn, hS2.aj 0 rfl, hS2.aj 1 rfl]
 refine hS2.ae [sv, (.int .u64 rg.cpl), (.int .u64 rg.off)] b8u b8B rfl rfl (by first | (simp []; done) | simp [Value.cells]) (by first | (simp []; done) | simp [Value.cells]) (by simp [OC, (hS2.sl hr.1).cells.2.1]) (by decide) (by decide) fun w1 H3 hS3 => ?_
 simp only [RT] at hS3
 simp (disch := omega) only [↓RA, RZ, simprocAttr, hn, g2]
 refine hS3.cF (b2F o (ho.ai hS3) w1 [(sv, rg)] (hS3.ax 2 rfl (fun _ => rfl)) (by simp) (by intro p hp; rw [dC.1 hp]; exact hr.ai hS3) kv ks (hk.ai hS3)) fun H4 hS4 => ?_
 have hsc := a5K o sv rg ks
 simp (disch := omega) only [↓RA, RB, simprocAttr, hn, hsc]
 refine gT (fun h1 => ?_) (fun h1 => ?_)
 ·simp (disch := omega) only [↓RA, RZ, simprocAttr, hn, c3h, hsc, h1]
  exact ⟨.slice none 0 0, rfl, ⟨⟨.inl ⟨rfl, by rw [a2r, if_neg h1]; rfl⟩, kH, by decide⟩, fun b h => by simp [jW] at h⟩, hS4.forget⟩
 have h0 := dA.1 h1
 obtain ⟨hz1, hk0⟩ := a5i h0
 obtain ⟨hz3, hz4⟩ := vL hz1
 have hf := Org.bl hz3
 have h8 : ks.length ≤ 8 := by
  have := hf.dlen
  have := (oD hk0).2.1
  omega
 simp (disch := omega) only [↓RA, RC, simprocAttr, hsc, h1]
 refine Wp.aT jU [(0, 4), (1, 4)] (by kernel_rfl) (by kernel_rfl) ?_
 simp (disch := omega) only [↓RA, RZ, simprocAttr, hn, g2, hS4.aj 0 rfl, hS4.aj 1 rfl]
 refine iB ((a2E (hS4.gl hG) kv ks (hk.ai hS4) h8).tr) ?_
 rintro r H5 ⟨-, hT2⟩
 have hS5 := hS4.trans hT2
 simp only [RT] at hS5
 obtain ⟨pv, rfl⟩ : ∃ w, w = r := ⟨r, rfl⟩
 simp (disch := omega) only [↓RA, RZ, simprocAttr, hn]
 have hSd := hS5
 refine iB (a6E o (ho.ai hS5) hf rg sv (hr.ai hS5) hz4 pv (iG ks) (hS5.ax 3 rfl kH) (uG hk0) (uH hk.ok hk0)) ?_
 rintro r H6 ⟨hx, hT3⟩
 have hS6 := hS5.trans hT3
 simp only [RT] at hS6
 obtain ⟨qv, rfl⟩ : ∃ w, w = r := ⟨r, rfl⟩
 simp (disch := omega) only [↓RA, RZ, simprocAttr, hn, hS5.aj 0 rfl, hS5.aj 1 rfl, c3h, hx.1.bL]
 rw [h0]
 refine ⟨qv, rfl, ⟨?_, fun b h => ?_⟩, hS6.forget⟩
 ·rw [a2r, if_pos h0]
  exact hx.1
 ·have := hx.2 b h
  have : H.length ≤ _ := hSd.len
  omega
theorem wZ (hG : Glob gH H) (o : Org) (ho : o.In H) (rg : Reg) (sv : Value) (hr : rg.In H sv) (kv : Value) (ks : List Nt) (hk : Ks H kv ks) :
 Fn prog 15 [.agg #[.string o.name, o.rv, o.dv, o.cv], .agg #[sv, .int .u64 rg.cpl, .int .u64 rg.off], kv] H fun r H' => ∃ pv, r = .tuple #[pv, I (rkE o rg ks)] ∧ Slx 2 jT H' (fun B => H.length ≤ B) pv (a5q o rg ks) ∧ St prog H H' [] := by
 refine .bA func15 rfl (by kernel_rfl) (m := 22) rfl fun l hn g0 g1 g2 => ?_
 simp (disch := omega) only [↓RA, RB, simprocAttr, g0]
 refine (sR H).eNew 4 [(.string o.name), o.rv, o.dv, o.cv] rfl rfl (by simp [OC, ((sR H).sl ho.1).cells.2.1, ((sR H).sl ho.2.2.1).cells.2.1, ((sR H).sl ho.2.2.2.2.1).cells.2.1]) mT fun A1 H1 hS1 => ?_
 simp only [RT] at hS1
 simp (disch := omega) only [↓RA, RB, simprocAttr, g1]
 refine hS1.eNew 3 [sv, (.int .u64 rg.cpl), (.int .u64 rg.off)] rfl rfl (by simp [OC, (hS1.sl hr.1).cells.2.1]) qP fun A2 H2 hS2 => ?_
 simp only [RT] at hS2
 simp (disch := omega) only [↓RA, RZ, simprocAttr, hn, hS2.aj 0 rfl, hS2.aj 1 rfl]
 refine hS2.ae [sv, (.int .u64 rg.cpl), (.int .u64 rg.off)] b8u b8B rfl rfl (by first | (simp []; done) | simp [Value.cells]) (by first | (simp []; done) | simp [Value.cells]) (by simp [OC, (hS2.sl hr.1).cells.2.1]) (by decide) (by decide) fun w1 H3 hS3 => ?_
 simp only [RT] at hS3
 simp (disch := omega) only [↓RA, RZ, simprocAttr, hn, g2]
 refine hS3.cF (b2F o (ho.ai hS3) w1 [(sv, rg)] (hS3.ax 2 rfl (fun _ => rfl)) (by simp) (by intro p hp; rw [dC.1 hp]; exact hr.ai hS3) kv ks (hk.ai hS3)) fun H4 hS4 => ?_
 have hsc := a5K o sv rg ks
 simp (disch := omega) only [↓RA, RB, simprocAttr, hn, hsc]
 refine gT (fun h1 => ?_) (fun h1 => ?_)
 ·simp (disch := omega) only [↓RA, RZ, simprocAttr, hn, c1D, hsc, h1]
  exact ⟨.slice none 0 0, rfl, ⟨⟨.inl ⟨rfl, by rw [a5q, if_neg h1]; rfl⟩, kH, by decide⟩, fun b h => by simp [jW] at h⟩, hS4.forget⟩
 have h0 := dA.1 h1
 obtain ⟨hz1, hk0⟩ := a5i h0
 obtain ⟨hz3, hz4⟩ := vL hz1
 have hf := Org.bl hz3
 have h8 : ks.length ≤ 8 := by
  have := hf.dlen
  have := (oD hk0).2.1
  omega
 simp (disch := omega) only [↓RA, RC, simprocAttr, hsc, h1]
 refine Wp.aT jU [(0, 4), (1, 4)] (by kernel_rfl) (by kernel_rfl) ?_
 simp (disch := omega) only [↓RA, RZ, simprocAttr, hn, g2, hS4.aj 0 rfl, hS4.aj 1 rfl]
 refine iB ((a2E (hS4.gl hG) kv ks (hk.ai hS4) h8).tr) ?_
 rintro r H5 ⟨-, hT2⟩
 have hS5 := hS4.trans hT2
 simp only [RT] at hS5
 obtain ⟨pv, rfl⟩ : ∃ w, w = r := ⟨r, rfl⟩
 simp (disch := omega) only [↓RA, RZ, simprocAttr, hn]
 have hSd := hS5
 refine iB (zQ o (ho.ai hS5) hf rg sv (hr.ai hS5) pv (iG ks) (hS5.ax 3 rfl kH) (uG hk0) (uH hk.ok hk0)) ?_
 rintro r H6 ⟨hx, hT3⟩
 have hS6 := hS5.trans hT3
 simp only [RT] at hS6
 obtain ⟨qv, rfl⟩ : ∃ w, w = r := ⟨r, rfl⟩
 simp (disch := omega) only [↓RA, RZ, simprocAttr, hn, hS5.aj 0 rfl, hS5.aj 1 rfl, c1D, hx.1.bL]
 rw [h0]
 refine ⟨qv, rfl, ⟨?_, fun b h => ?_⟩, hS6.forget⟩
 ·rw [a5q, if_pos h0]
  exact hx.1
 ·have := hx.2 b h
  have : H.length ≤ _ := hSd.len
  omega
end Go.Ds
namespace Go.Ds
open Go.Proofs
variable {H : Heap}
set_option maxRecDepth 10000
set_option maxHeartbeats 1000000
end Go.Ds
namespace Go.Ds
open Go.Proofs Go.Proofs.Tryz
variable {H : Heap}
set_option maxRecDepth 10000
set_option maxHeartbeats 1000000
def a0M (lo : Int) (w m : Nat) : List Int := ((List.range m).filter fun j => w.testBit j).map fun (j : Nat) => lo + (j : Int)
def uK (lo hi : Int) : Nat := min 16 (hi - lo + 1).toNat
def xR (o : Org) (b : Nat → Nat) (i : Nat) : Nt := iY (a0M (gU o.dvs i).lo (b (i % 3)) (uK (gU o.dvs i).lo (gU o.dvs i).hi))
def oM (o : Org) (b : Nat → Nat) : List Nt := (List.range o.dvs.length).map (xR o b)
theorem c0m (a b : Nat) (h : a < 65536) : ((a : Nat) : Int).fdiv (2 ^ min b (IntKind.bits .u16)) = ((a >>> b : Nat) : Int) := by
 have e : IntKind.bits .u16 = 16 := rfl
 rw [e]
 have h1 : ((a : Nat) : Int).fdiv (2 ^ min b 16) = ((a / 2 ^ min b 16 : Nat) : Int) := by
  rw [gj _ (by exact Int.le_of_lt (Int.pow_pos (by decide)))]
  simp
 rw [h1, eE]
 by_cases hb : b ≤ 16
 ·rw [fH hb]
 ·rw [Nat.min_eq_right (by omega)]
  have h2 : a / 2 ^ 16 = 0 := gr (by simpa using h)
  have h3 : a / 2 ^ b = 0 := gr (dy (by simpa using h) (fb (by decide) (show 16 ≤ b by omega)))
  rw [h2, h3]
theorem b6g (n : Nat) (h : n < 65536) : IntKind.wrap .u16 ((BitVec.ofInt (IntKind.bits .u16) (n : Int) &&& BitVec.ofInt (IntKind.bits .u16) 1).toNat : Int) = ((n % 2 : Nat) : Int) := by
 have e : (BitVec.ofInt (IntKind.bits .u16) (n : Int) &&& BitVec.ofInt (IntKind.bits .u16) 1).toNat = n % 2 := by
  show (BitVec.ofInt 16 (n : Int) &&& BitVec.ofInt 16 1).toNat = n % 2
  rw [gu]
  have h1 : (BitVec.ofInt 16 (n : Int)).toNat = n := by
   rw [fJ, BitVec.toNat_ofNat]
   exact gk (by simpa using h)
  have h2 : (BitVec.ofInt 16 1).toNat = 1 := rfl
  rw [h1, h2, Nat.and_one_is_mod]
 rw [e]
 have : n % 2 < 2 := eF _ (by decide)
 have hh : n % 2 = 0 ∨ n % 2 = 1 := by omega
 rcases hh with h | h <;> rw [h] <;> rfl
theorem b3R {a : Nat} (b : Nat) (h : a < 65536) : a >>> b < 65536 := by
 rw [eE]
 exact Nat.lt_of_le_of_lt (Nat.div_le_self _ _) h
theorem b0Z (lo : Int) (w m : Nat) : a0M lo w (m + 1) = a0M lo w m ++ (if w.testBit m then [lo + (m : Int)] else []) := by
 unfold a0M
 rw [dS, eO, dM]
 congr 1
 cases h : w.testBit m <;> simp [h]
theorem b4l (lo : Int) (w m : Nat) : (a0M lo w m).length ≤ m := by
 unfold a0M
 rw [dY]
 exact dq (dW _ _) (by simp)
theorem b6Z (lo hi : Int) : uK lo hi ≤ 16 := Nat.min_le_left _ _
theorem sX {o : Org} (hf : o.Fine) (w : Nat) {i : Nat} (hi : i < o.dvs.length) : ∀ z ∈ a0M (gU o.dvs i).lo w (uK (gU o.dvs i).lo (gU o.dvs i).hi), isN z ∧ (gU o.dvs i).lo ≤ z ∧ z ≤ (gU o.dvs i).hi := by
 intro z hz
 have hk := hf.keys i hi
 unfold a0M uK at hz
 obtain ⟨j, hj, rfl⟩ := dp.1 hz
 have hj := dm.1 (eQ.1 hj).1
 exact ⟨⟨by omega, by omega⟩, by omega, by omega⟩
theorem a7Y (o : Org) (ho : o.In H) (hf : o.Fine) (b : Nat → Nat) (hb : ∀ i, b i < 65536) :
 Fn prog 14 [.agg #[.string o.name, o.rv, o.dv, o.cv], .agg #[.int .u16 (b 0), .int .u16 (b 1), .int .u16 (b 2)]] H fun r H' =>
  St prog H H' [⟨r, 2, (oM o b).flatMap ntc⟩] := by
 have hd8 := hf.dlen
 refine .aG func14 rfl (by kernel_rfl) (m := 66) rfl fun l hn g0 g1 => ?_
 simp (disch := omega) only [↓RA, RB, simprocAttr, g0]
 refine (sR H).eNew 4 [(.string o.name), o.rv, o.dv, o.cv] rfl rfl (by simp [OC, ((sR H).sl ho.1).cells.2.1, ((sR H).sl ho.2.2.1).cells.2.1, ((sR H).sl ho.2.2.2.2.1).cells.2.1]) mT fun A1 H1 hS1 => ?_
 simp only [RT] at hS1
 simp (disch := omega) only [↓RA, RB, simprocAttr, g1]
 refine hS1.eNew 3 [(.int .u16 (b 0)), (.int .u16 (b 1)), (.int .u16 (b 2))] rfl rfl rfl b9V fun A2 H2 hS2 => ?_
 simp only [RT] at hS2
 simp (disch := omega) only [↓RA, RB, simprocAttr]
 have hS3 := hS2.nil 1
 simp only [RT] at hS3
 refine Wp.al (fun n l H' => l.length = 66 ∧ get l 2 = (ptr A1 0 4) ∧ get l 3 = (ptr A2 0 3) ∧ get l 4 = (.slice none 0 0) ∧ ∃ (i : Nat) (kv : Value), (n + i = o.dvs.length) ∧ get l 6 = I i ∧ get l 5 = kv ∧ St prog H H' [⟨ptr A1 0 4, 0, [(.string o.name), o.rv, o.dv, o.cv]⟩, ⟨ptr A2 0 3, 0, [(.int .u16 (b 0)), (.int .u16 (b 1)), (.int .u16 (b 2))]⟩, ⟨kv, 2, ((List.range i).map (xR o b)).flatMap ntc⟩]) o.dvs.length ?_ ?_
 ·simp (disch := omega) only [RB, RC, simprocAttr, hn]
  exact ⟨0, .slice none 0 0, by omega, rfl, rfl, hS3⟩
 rintro n l H3 ⟨hn, g2, g3, g4, i, kv, hi, g6, g5, hS4⟩
 simp (disch := omega) only [↓RA, RZ, simprocAttr, hn, g2, g6, hS4.ld 0 rfl, (hS4.sl ho.2.2.1).len]
 refine gT (fun q => ?_) (fun q => ?_)
 ·have hk := hf.keys i (by omega)
  simp (disch := omega) only [↓RA, RZ, simprocAttr, hn, g2, g6, hS4.ld 0 rfl, (hS4.sl ho.2.2.1).idx, (hS4.sl ho.2.2.1).bf, (hS4.sl ho.2.2.1).cD 2, Dvn.cells, q]
  refine hS4.eNew 2 [I 0, I 0] rfl rfl rfl sC fun A3 H4 hS5 => ?_
  simp only [RT] at hS5
  simp (disch := omega) only [↓RA, RZ, simprocAttr, hn, q]
  refine hS5.aa 3 rfl [I (gU o.dvs i).lo, I (gU o.dvs i).hi] rfl rfl sC (by simp) fun H5 hS6 => ?_
  simp only [RT] at hS6
  simp (disch := omega) only [↓RA, RZ, simprocAttr, hn, hS6.ld 3 rfl, q]
  have hS7 := hS6.nil 0
  simp only [RT] at hS7
  refine Wp.al (fun n l H' => l.length = 66 ∧ get l 2 = (ptr A1 0 4) ∧ get l 3 = (ptr A2 0 3) ∧ get l 4 = (.slice none 0 0) ∧ get l 5 = kv ∧ get l 6 = I i ∧ get l 8 = (ptr A3 0 2) ∧ ∃ (m : Nat) (lv : Value), (n + m = uK (gU o.dvs i).lo (gU o.dvs i).hi) ∧ get l 9 = I ((gU o.dvs i).lo + m) ∧ get l 7 = lv ∧ St prog H H' [⟨ptr A1 0 4, 0, [(.string o.name), o.rv, o.dv, o.cv]⟩, ⟨ptr A2 0 3, 0, [(.int .u16 (b 0)), (.int .u16 (b 1)), (.int .u16 (b 2))]⟩, ⟨kv, 2, ((List.range i).map (xR o b)).flatMap ntc⟩, ⟨ptr A3 0 2, 0, [I (gU o.dvs i).lo, I (gU o.dvs i).hi]⟩, ⟨lv, 1, (a0M (gU o.dvs i).lo (b (i % 3)) m).flatMap (one I)⟩]) (uK (gU o.dvs i).lo (gU o.dvs i).hi) ?_ ?_
  ·simp (disch := omega) only [RB, RC, simprocAttr, hn, g2, g3, g4, g6, g5]
   exact ⟨0, .slice none 0 0, by omega, by simp, rfl, hS7⟩
  rintro n l H6 ⟨hn, g2, g3, g4, g5, g6, g8, m, lv, hm, g9, g7, hS8⟩
  simp (disch := omega) only [↓RA, RZ, simprocAttr, hn, g8, g9, hS8.ld 3 rfl]
  have hM := b6Z (gU o.dvs i).lo (gU o.dvs i).hi
  have hi3 : (i : Int).tmod 3 = ((i % 3 : Nat) : Int) := (dT i 3).symm
  have hw : ([Value.int .u16 (b 0), .int .u16 (b 1), .int .u16 (b 2)] : List Value)[i % 3]? = some (.int .u16 (b (i % 3))) := by
   have : i % 3 = 0 ∨ i % 3 = 1 ∨ i % 3 = 2 := by omega
   rcases this with e | e | e <;> rw [e] <;> rfl
  have hsub : (gU o.dvs i).lo + (m : Int) - (gU o.dvs i).lo = (m : Int) := by omega
  have e1 := c0m (b (i % 3)) m (hb _)
  have e2 := b6g (b (i % 3) >>> m) (b3R m (hb _))
  have e3 := tb (b (i % 3)) m
  have hsu := b0Z (gU o.dvs i).lo (b (i % 3)) m
  have hpl := b4l (gU o.dvs i).lo (b (i % 3)) m
  refine jB (fun q1 => ?_) (fun q1 => ?_)
  ·simp (disch := omega) only [↓RA, RZ, simprocAttr, hn, g8, g9, hS8.ld 3 rfl, q1]
   refine gT (fun q2 => ?_) (fun q2 => ?_)
   ·skip
    simp (disch := omega) only [↓RA, RC, simprocAttr, q1, q2]
    refine Wp.drw jU (by kernel_rfl) ?_
    simp (disch := omega) only [↓RA, RZ, simprocAttr, hn, g3, g6, g8, g9, hS8.ld 1 rfl, hw, hS8.ld 3 rfl, hi3, hsub, e1, e2]
    refine gT (fun q3 => ?_) (fun q3 => ?_)
    ·rw [e3, decide_eq_true (by omega), if_pos rfl] at hsu
     simp (disch := omega) only [↓RA, RZ, simprocAttr, hn, g9, g7, q3]
     refine hS8.ae [I ((gU o.dvs i).lo + m)] a0N a5H rfl rfl (by simp [Value.cells]) rfl rfl (by decide) (by decide) fun w1 H7 hS9 => ?_
     simp only [RT] at hS9
     simp (disch := omega) only [↓RA, RZ, simprocAttr, hn, q3]
     refine hS9.aq 4 rfl (hS9.rd 5 rfl) a0N (by rw [iL (n := 1) (cel := one I) (fun _ => rfl)]; simp; omega) fun w2 H8 hS10 => ?_
     simp only [RT] at hS10
     simp (disch := omega) only [↓RA, RZ, simprocAttr, hn, g2, g3, g4, g5, g6, g8, g9, q3]
     refine ⟨n - 1, by unfold uK at hm; omega, m + 1, w2, by unfold uK at hm ⊢; omega, by simp; omega, rfl, ?_⟩
     rw [hsu, dG]
     exact hS10.pick [0, 1, 2, 3, 4] (by decide) rfl
    rw [e3, decide_eq_false (by omega), if_neg (by simp), di] at hsu
    simp (disch := omega) only [↓RA, RZ, simprocAttr, hn, g2, g3, g4, g5, g6, g8, g9, g7, q3]
    refine ⟨n - 1, by unfold uK at hm; omega, m + 1, lv, by unfold uK at hm ⊢; omega, by simp; omega, rfl, ?_⟩
    rw [hsu]
    exact hS8.pick [0, 1, 2, 3, 4] (by decide) rfl
   have hmM : m = uK (gU o.dvs i).lo (gU o.dvs i).hi := by unfold uK at hm hM ⊢; omega
   have hz := sX hf (b (i % 3)) (show i < o.dvs.length by omega)
   subst hmM
   simp (disch := omega) only [↓RA, RZ, simprocAttr, hn, g7, q1, q2]
   refine hS8.cF (vM (a0M (gU o.dvs i).lo (b (i % 3)) (uK (gU o.dvs i).lo (gU o.dvs i).hi)) (fun z h => (hz z h).1) lv (hS8.ax 4 rfl (rG _)) (by omega)) fun H9 hS11 => ?_
   simp (disch := omega) only [↓RA, RZ, simprocAttr, hn, q1, q2]
   refine hS11.eNew 2 [(.int .u64 0), (.int .u64 0)] rfl rfl rfl lA fun A4 H10 hS12 => ?_
   simp only [RT] at hS12
   simp (disch := omega) only [↓RA, RZ, simprocAttr, hn, q1, q2]
   refine hS12.aa 5 rfl [(.int .u64 (xR o b i).1), (.int .u64 (xR o b i).2)] rfl rfl lA (by simp) fun H11 hS13 => ?_
   simp only [RT] at hS13
   simp (disch := omega) only [↓RA, RZ, simprocAttr, hn, g5, hS13.aj 5 rfl, q1, q2]
   refine hS13.ae [(.int .u64 (xR o b i).1), (.int .u64 (xR o b i).2)] b3U c1h rfl rfl (by simp [Value.cells]) rfl rfl (by decide) (by decide) fun w3 H12 hS14 => ?_
   simp only [RT] at hS14
   simp (disch := omega) only [↓RA, RZ, simprocAttr, hn, q1, q2]
   refine hS14.aq 2 rfl (hS14.rd 6 rfl) b3U (by rw [iL (n := 2) (cel := ntc) (fun _ => rfl)]; simp; omega) fun w4 H13 hS15 => ?_
   simp only [RT] at hS15
   simp (disch := omega) only [↓RA, RZ, simprocAttr, hn, g2, g3, g4, g6, q1, q2]
   refine ⟨o.dvs.length - (i + 1), by omega, i + 1, w4, by omega, by simp, rfl, ?_⟩
   rw [dS, dM, dG]
   exact hS15.pick [0, 1, 2] (by decide) rfl
  have hmM : m = uK (gU o.dvs i).lo (gU o.dvs i).hi := by unfold uK at hm hM ⊢; omega
  have hz := sX hf (b (i % 3)) (show i < o.dvs.length by omega)
  subst hmM
  simp (disch := omega) only [↓RA, RZ, simprocAttr, hn, g7, q1]
  refine hS8.cF (vM (a0M (gU o.dvs i).lo (b (i % 3)) (uK (gU o.dvs i).lo (gU o.dvs i).hi)) (fun z h => (hz z h).1) lv (hS8.ax 4 rfl (rG _)) (by omega)) fun H14 hS16 => ?_
  simp (disch := omega) only [↓RA, RZ, simprocAttr, hn, q1]
  refine hS16.eNew 2 [(.int .u64 0), (.int .u64 0)] rfl rfl rfl lA fun A5 H15 hS17 => ?_
  simp only [RT] at hS17
  simp (disch := omega) only [↓RA, RZ, simprocAttr, hn, q1]
  refine hS17.aa 5 rfl [(.int .u64 (xR o b i).1), (.int .u64 (xR o b i).2)] rfl rfl lA (by simp) fun H16 hS18 => ?_
  simp only [RT] at hS18
  simp (disch := omega) only [↓RA, RZ, simprocAttr, hn, g5, hS18.aj 5 rfl, q1]
  refine hS18.ae [(.int .u64 (xR o b i).1), (.int .u64 (xR o b i).2)] b3U c1h rfl rfl (by simp [Value.cells]) rfl rfl (by decide) (by decide) fun w5 H17 hS19 => ?_
  simp only [RT] at hS19
  simp (disch := omega) only [↓RA, RZ, simprocAttr, hn, q1]
  refine hS19.aq 2 rfl (hS19.rd 6 rfl) b3U (by rw [iL (n := 2) (cel := ntc) (fun _ => rfl)]; simp; omega) fun w6 H18 hS20 => ?_
  simp only [RT] at hS20
  simp (disch := omega) only [↓RA, RZ, simprocAttr, hn, g2, g3, g4, g6, q1]
  refine ⟨o.dvs.length - (i + 1), by omega, i + 1, w6, by omega, by simp, rfl, ?_⟩
  rw [dS, dM, dG]
  exact hS20.pick [0, 1, 2] (by decide) rfl
 simp (disch := omega) only [↓RA, RZ, simprocAttr, hn, g5, c3T, q]
 have hii : i = o.dvs.length := by omega
 subst hii
 exact hS4.pick [2] (by decide) rfl
theorem rX (o : Org) (b : Nat → Nat) : (oM o b).length = o.dvs.length := by simp [oM]
theorem a3A {o : Org} {b : Nat → Nat} {i : Nat} (hi : i < o.dvs.length) : gU (oM o b) i = xR o b i := by
 rw [jY _ i (by rw [rX]; exact hi)]
 simp [oM]
theorem b0i {o : Org} (hf : o.Fine) (b : Nat → Nat) {i : Nat} (hi : i < o.dvs.length) : Nt.Ok (xR o b i) := uC _ _ (fun z h => (sX hf (b (i % 3)) hi z h).1) ⟨by decide, by decide⟩
theorem a6T {o : Org} (hf : o.Fine) (b : Nat → Nat) : ∀ x ∈ oM o b, Nt.Ok x := by
 intro x hx
 obtain ⟨i, hi, rfl⟩ := dp.1 hx
 exact b0i hf b (dm.1 hi)
theorem b2J {x y : Nt} (hx : Nt.Ok x) (h : ∀ z, isN z → mW x z = true → mW y z = true) : woF x y = (0, 0) := by
 have k : ∀ z, isN z → mW (woF x y) z = false := fun z hz => by
  rw [a9H hx hz]
  cases e : mW x z with
  | false => rfl
  | true => rw [h z hz e]; rfl
 have big : ∀ a : Nat, a < 18446744073709551616 → ∀ j, 64 ≤ j → a.testBit j = false := fun a ha j hj =>
  Nat.testBit_lt_two_pow (dy (show a < 2 ^ 64 from ha) (fb (by decide) hj))
 obtain ⟨h1, h2⟩ := c0t x y
 apply fT
 ·apply fK
  intro j
  rw [gR]
  by_cases hj : 64 ≤ j
  ·exact big _ h1 j hj
  ·have := k (j : Int) ⟨by omega, by omega⟩
   unfold mW at this
   rw [if_pos (by omega)] at this
   exact this
 ·apply fK
  intro j
  rw [gR]
  by_cases hj : 64 ≤ j
  ·exact big _ h2 j hj
  ·have := k (64 + j : Int) ⟨by omega, by omega⟩
   unfold mW at this
   rw [if_neg (by omega), show (64 + (j : Int) - 64).toNat = j by omega] at this
   exact this
theorem a9h {o : Org} (h0 : organE o = 0) (b : Nat → Nat) : oK o (oM o b) = 0 := by
 have hf := Org.bl h0
 unfold oK
 rw [if_neg (by rw [h0]; simp), if_neg (by rw [rX]; simp), if_neg]
 rintro ⟨j, hj, hne⟩
 apply hne
 have hk := hf.keys j hj
 rw [a3A hj]
 refine b2J (b0i hf b hj) fun z hz hh => ?_
 rw [xR, a1Q (fun n hn => (sX hf (b (j % 3)) hj n hn).1) hz] at hh
 have := sX hf (b (j % 3)) hj z (of_decide_eq_true hh)
 rw [a0Y hk.1 hk.2.2 hz, decide_eq_true this.2.1, decide_eq_true this.2.2]
 rfl
end Go.Ds
namespace Go.Ds
open Go.Proofs
set_option maxRecDepth 10000
theorem Star.mono {α : Type} {R R' : α → α → Prop} (h : ∀ a b, R a b → R' a b) {a b : α} (hs : Star R a b) : Star R' a b := by
 induction hs with
 | refl => exact .refl _
 | tail _ h2 ih => exact .tail ih (h _ _ h2)
end Go.Ds
namespace Go.Ds
open Go.Proofs Go.Proofs.Tryz Go.Shelf Go.RowKit Go.Lib Go.Sort
def sm (x : Int × Int) : Prop := -1000000000 ≤ x.1 ∧ x.1 ≤ 1000000000 ∧ -1000000000 ≤ x.2 ∧ x.2 ≤ 1000000000
abbrev Sm := {x : Int × Int // sm x}
instance : Inhabited Sm := ⟨⟨(0, 0), by unfold sm; decide⟩⟩
def cfd (x y : Sm) : Int := if x.1.1 ≠ y.1.1 then x.1.1 - y.1.1 else x.1.2 - y.1.2
theorem ltd (x y : Sm) : ltOf cfd x y = decide (x.1.1 < y.1.1 ∨ (x.1.1 = y.1.1 ∧ x.1.2 < y.1.2)) := by
 unfold ltOf cfd
 congr 1
 apply propext
 split <;> omega
theorem c4F : SWO (ltOf cfd) where
 irrefl x := by rw [ltd]; simp
 trans x y z h1 h2 := by rw [ltd] at *; simp at *; omega
 ntrans x y z h1 h2 := by rw [ltd] at *; simp at *; omega
theorem c4C (x y : Sm) (h1 : ltOf cfd x y = false) (h2 : ltOf cfd y x = false) : x = y := by
 rw [ltd] at *
 simp at h1 h2
 apply Subtype.ext
 apply fT <;> omega
theorem b9v (x y : Sm) : (!(ltOf cfd) y x) = le2 x.1 y.1 := by
 rw [ltd, ← a8P]
 simp only [lt2]
theorem b8y (l : Array Sm) : flatK (fun x : Sm => jT x.1) 2 l = flatK jT 2 (l.map (·.1)) := by
 unfold flatK
 rw [Array.size_map]
 congr 1
 funext t
 congr 2
 by_cases h : t / 2 < l.size
 ·simp [h]
 ·simp [h]
  rfl
theorem b9J (w : World) (jW off n : Nat) (l : List Sm) (os : Array Obj) : sortWorldK (fun x : Sm => jT x.1) 2 w jW off n l.toArray os = sortWorldK jT 2 w jW off n (l.map (·.1)).toArray os := by
 unfold sortWorldK putRowK
 rw [b8y, List.map_toArray]
theorem c3x (l : List (Int × Int)) (h : ∀ x ∈ l, sm x) : (l.attachWith sm h).map (·.1) = l := by
 rw [List.map_attachWith]
 exact List.attach_map_subtype_val l
theorem c1g (l : List Sm) : (l.mergeSort fun x y => !(ltOf cfd) y x).map (·.1) = (l.map (·.1)).mergeSort le2 :=
 List.map_mergeSort fun x _ y _ => b9v x y
def b7s (K kc : FuncId) : Prop := ∀ {H : Heap} {B : Base} {os : List Ob} (hS : St prog B H os) (i : Nat) {v : Value} {es : List (Int × Int)} (ho : os[i]? = some ⟨v, 2, pr es⟩) (hl : es.length < 100000000000) (hsm : ∀ x ∈ es, sm x) {Q : Value → Heap → Prop}
    (h : ∀ H1, St prog B H1 (os.set i ⟨v, 2, pr (sP es)⟩) → Q (.tuple #[]) H1), sV prog K [v, .func (.func kc) #[] #[]] H Q
section
variable {H : Heap}
end
end Go.Ds
namespace Go.Ds
open Go.Proofs Go.Proofs.Tryz
variable {H : Heap}
set_option maxRecDepth 10000
set_option maxHeartbeats 1000000
theorem c3o (o : Org) (ho : o.In H) (d z : Int) : Fn prog 69 [.agg #[.string o.name, o.rv, o.dv, o.cv], .agg #[I d, I z]] H fun r H' => r = .bool (oW o (d, z)) ∧ St prog H H' [] := by
 have hl := ho.2.2.2.2.2.2.1
 by_cases hd : 0 ≤ d
 ·obtain ⟨j, rfl⟩ := fR hd
  refine .aG func69 rfl (by kernel_rfl) (m := 42) rfl fun l hn g0 g1 => ?_
  simp (disch := omega) only [↓RA, RB, simprocAttr, g0]
  refine (sR H).eNew 4 [(.string o.name), o.rv, o.dv, o.cv] rfl rfl (by simp [OC, ((sR H).sl ho.1).cells.2.1, ((sR H).sl ho.2.2.1).cells.2.1, ((sR H).sl ho.2.2.2.2.1).cells.2.1]) mT fun A1 H1 hS1 => ?_
  simp only [RT] at hS1
  simp (disch := omega) only [↓RA, RB, simprocAttr, g1]
  refine hS1.eNew 2 [I j, I z] rfl rfl rfl nR fun A2 H2 hS2 => ?_
  simp only [RT] at hS2
  simp (disch := omega) only [↓RA, RB, simprocAttr]
  refine Wp.drw jU (by kernel_rfl) ?_
  simp (disch := omega) only [↓RA, RZ, simprocAttr, hn, hS2.ld 1 rfl]
  refine jB (fun g1 => ?_) (fun g1 => ?_)
  rotate_left
  ·exfalso; first | omega | (simp at g1; omega)
  simp (disch := omega) only [↓RA, RZ, simprocAttr, hn, hS2.ld 1 rfl, hS2.ld 0 rfl, (hS2.sl ho.2.2.1).len, g1]
  refine jB (fun g2 => ?_) (fun g2 => ?_)
  ·simp (disch := omega) only [↓RA, RZ, simprocAttr, hn, hS2.ld 1 rfl, hS2.ld 0 rfl, (hS2.sl ho.2.2.1).idx, (hS2.sl ho.2.2.1).bf, (hS2.sl ho.2.2.1).ld, Dvn.cells, g1, g2]
   refine jB (fun g3 => ?_) (fun g3 => ?_)
   ·simp (disch := omega) only [↓RA, RZ, simprocAttr, hn, hS2.ld 1 rfl, hS2.ld 0 rfl, (hS2.sl ho.2.2.1).idx, (hS2.sl ho.2.2.1).bf, (hS2.sl ho.2.2.1).ld, Dvn.cells, b5N, g1, g2, g3]
    exact ⟨by unfold oW; simp only [fy]; congr 1; simp; omega, hS2.forget⟩
   simp (disch := omega) only [↓RA, RZ, simprocAttr, hn, b5N, g1, g2, g3]
   exact ⟨by congr 1; symm; rw [← ec, nJ]; simp only [fy]; omega, hS2.forget⟩
  simp (disch := omega) only [↓RA, RZ, simprocAttr, hn, b5N, g1, g2]
  exact ⟨by congr 1; symm; rw [← ec, nJ]; simp only [fy]; omega, hS2.forget⟩
 ·refine .aG func69 rfl (by kernel_rfl) (m := 42) rfl fun l hn g0 g1 => ?_
  simp (disch := omega) only [↓RA, RB, simprocAttr, g0]
  refine (sR H).eNew 4 [(.string o.name), o.rv, o.dv, o.cv] rfl rfl (by simp [OC, ((sR H).sl ho.1).cells.2.1, ((sR H).sl ho.2.2.1).cells.2.1, ((sR H).sl ho.2.2.2.2.1).cells.2.1]) mT fun A1 H1 hS1 => ?_
  simp only [RT] at hS1
  simp (disch := omega) only [↓RA, RB, simprocAttr, g1]
  refine hS1.eNew 2 [I d, I z] rfl rfl rfl nR fun A2 H2 hS2 => ?_
  simp only [RT] at hS2
  simp (disch := omega) only [↓RA, RB, simprocAttr]
  refine Wp.drw jU (by kernel_rfl) ?_
  simp (disch := omega) only [↓RA, RZ, simprocAttr, hn, hS2.ld 1 rfl]
  refine jB (fun g1 => ?_) (fun g1 => ?_)
  ·exfalso; first | omega | (simp at g1; omega)
  simp (disch := omega) only [↓RA, RZ, simprocAttr, hn, b5N, g1]
  exact ⟨by congr 1; symm; rw [← ec, nJ]; simp only; omega, hS2.forget⟩
theorem a9u (o : Org) (ho : o.In H) (c : Ct) : Fn prog 69 [.agg #[.string o.name, o.rv, o.dv, o.cv], .agg #[I c.1, I c.2]] H fun r H' => r = .bool (oW o c) ∧ St prog H H' [] := c3o o ho c.1 c.2
def a5p (o : Org) (ks : List Nt) (i n : Nat) : List Ct := ((List.range n).filter fun (j : Nat) => mW (gU ks i) ((gU o.dvs i).lo + (j : Int))).map fun (j : Nat) => ((i : Int), (gU o.dvs i).lo + (j : Int))
theorem b1W (o : Org) (ks : List Nt) (i n : Nat) : a5p o ks i (n + 1) = a5p o ks i n ++ (if mW (gU ks i) ((gU o.dvs i).lo + (n : Int)) then [((i : Int), (gU o.dvs i).lo + (n : Int))] else []) := by
 unfold a5p
 rw [dS, eO, dM]
 congr 1
 cases h : mW (gU ks i) ((gU o.dvs i).lo + (n : Int)) <;> simp [h]
theorem a9B (o : Org) (ks : List Nt) (i n : Nat) : (a5p o ks i n).length ≤ n := by
 unfold a5p
 rw [dY]
 exact dq (dW _ _) (by simp)
theorem a6h {o : Org} (hf : o.Fine) (ks : List Nt) : ∀ i, i ≤ o.dvs.length → ((List.range i).flatMap (a1Y o ks)).length ≤ i * 128
 | 0, _ => by simp
 | i + 1, h => by
   have h1 := a6h hf ks i (by omega)
   have h2 := a9B o ks i ((gU o.dvs i).hi - (gU o.dvs i).lo + 1).toNat
   have hk := hf.keys i (by omega)
   have h3 : (a1Y o ks i).length ≤ 128 := dq h2 (by omega)
   rw [dS, dG, dj, dz, eT, di]
   omega
theorem a6r (o : Org) (ho : o.In H) (hf : o.Fine) (kv : Value) (ks : List Nt) (hk : Ks H kv ks) (hl : ks.length = o.dvs.length) :
 Fn prog 48 [.agg #[.string o.name, o.rv, o.dv, o.cv], kv] H fun r H' => St prog H H' [⟨r, 2, pr (a7p o ks)⟩] := by
 have hd8 := hf.dlen
 refine .aG func48 rfl (by kernel_rfl) (m := 55) rfl fun l hn g0 g1 => ?_
 simp (disch := omega) only [↓RA, RB, simprocAttr, g0]
 refine (sR H).eNew 4 [(.string o.name), o.rv, o.dv, o.cv] rfl rfl (by simp [OC, ((sR H).sl ho.1).cells.2.1, ((sR H).sl ho.2.2.1).cells.2.1, ((sR H).sl ho.2.2.2.2.1).cells.2.1]) mT fun A1 H1 hS1 => ?_
 simp only [RT] at hS1
 simp (disch := omega) only [↓RA, RZ, simprocAttr, hn, hS1.ld 0 rfl, (hS1.sl ho.2.2.1).len]
 have hS2 := hS1.nil 1
 simp only [RT] at hS2
 refine Wp.al (fun n l H' => l.length = 55 ∧ get l 1 = kv ∧ get l 4 = (.slice none 0 0) ∧ get l 11 = o.dv ∧ get l 12 = I o.dvs.length ∧ ∃ (i : Nat) (ov : Value), (n + i = o.dvs.length) ∧ get l 13 = I i ∧ get l 5 = ov ∧ St prog H H' [⟨ptr A1 0 4, 0, [(.string o.name), o.rv, o.dv, o.cv]⟩, ⟨ov, 2, pr ((List.range i).flatMap (a1Y o ks))⟩]) o.dvs.length ?_ ?_
 ·simp (disch := omega) only [RB, RC, simprocAttr, hn, g1]
  exact ⟨0, .slice none 0 0, by omega, rfl, rfl, hS2⟩
 rintro n l H2 ⟨hn, g1, g4, g11, g12, i, ov, hi, g13, g5, hS3⟩
 simp (disch := omega) only [↓RA, RB, simprocAttr, hn, g12, g13]
 refine gT (fun q => ?_) (fun q => ?_)
 ·have hky := hf.keys i (by omega)
  have hx := hk.ok _ (gX (xs := ks) (j := i) (by omega))
  have hpl := a6h hf ks i (by omega)
  simp (disch := omega) only [↓RA, RZ, simprocAttr, hn, g11, g13, (hS3.sl ho.2.2.1).idx, (hS3.sl ho.2.2.1).aj, Dvn.cells, q]
  refine hS3.eNew 5 [(.string ⟨#[]⟩), (.bool false), I 0, I 0, (.slice none 0 0)] rfl rfl rfl sB fun A2 H3 hS4 => ?_
  simp only [RT] at hS4
  simp (disch := omega) only [↓RA, RZ, simprocAttr, hn, q]
  refine hS4.aa 2 rfl [(.string (gU o.dvs i).name), (.bool (gU o.dvs i).pedal), I (gU o.dvs i).lo, I (gU o.dvs i).hi, (gU o.dvs i).sv] rfl (by simp [OC, (hS4.sl (ho.2.2.2.1 (gU o.dvs i) (gX (by omega))).1).cells.2.1]) sB (by simp) fun H4 hS5 => ?_
  simp only [RT] at hS5
  simp (disch := omega) only [↓RA, RZ, simprocAttr, hn, hS5.ld 2 rfl, q]
  refine Wp.al (fun n l H' => l.length = 55 ∧ get l 1 = kv ∧ get l 4 = (.slice none 0 0) ∧ get l 6 = I i ∧ get l 7 = (ptr A2 0 5) ∧ get l 11 = o.dv ∧ get l 12 = I o.dvs.length ∧ get l 13 = I i ∧ ∃ (j : Nat) (ow : Value), (n + j = ((gU o.dvs i).hi - (gU o.dvs i).lo + 1).toNat) ∧ get l 8 = I ((gU o.dvs i).lo + j) ∧ get l 5 = ow ∧ St prog H H' [⟨ptr A1 0 4, 0, [(.string o.name), o.rv, o.dv, o.cv]⟩, ⟨ow, 2, pr ((List.range i).flatMap (a1Y o ks) ++ a5p o ks i j)⟩, ⟨ptr A2 0 5, 0, [(.string (gU o.dvs i).name), (.bool (gU o.dvs i).pedal), I (gU o.dvs i).lo, I (gU o.dvs i).hi, (gU o.dvs i).sv]⟩]) ((gU o.dvs i).hi - (gU o.dvs i).lo + 1).toNat ?_ ?_
  ·simp (disch := omega) only [RB, RC, simprocAttr, hn, g1, g4, g11, g12, g13, g5]
   refine ⟨0, ov, by omega, by simp, rfl, ?_⟩
   rw [show a5p o ks i 0 = [] from rfl, di]
   exact hS5
  rintro n l H5 ⟨hn, g1, g4, g6, g7, g11, g12, g13, j, ow, hj, g8, g5, hS6⟩
  simp (disch := omega) only [↓RA, RZ, simprocAttr, hn, g7, g8, hS6.ld 2 rfl]
  refine gT (fun q2 => ?_) (fun q2 => ?_)
  ·have hsu := b1W o ks i j
   have hpj := a9B o ks i j
   obtain ⟨m, hm⟩ : ∃ m : Nat, (gU o.dvs i).lo + (j : Int) = m := ⟨((gU o.dvs i).lo + (j : Int)).toNat, by omega⟩
   rw [hm] at hsu
   simp (disch := omega) only [↓RA, RZ, simprocAttr, hn, g1, g6, g8, (hS6.sl hk.sl).idx, (hS6.sl hk.sl).bf, (hS6.sl hk.sl).ld, ntc, hm]
   refine gT (fun q3 => ?_) (fun q3 => ?_)
   ·have e0 : (m : Int).tmod 64 = ((m - 64 : Nat) : Int) := by rw [show (m : Int).tmod 64 = ((m % 64 : Nat) : Int) from (dT m 64).symm]; omega
    have e1 := a1k (gU ks i).2 (m - 64) hx.2
    have e2 := zW ((gU ks i).2 >>> (m - 64)) (tN _ hx.2)
    have e3 := tb (gU ks i).2 (m - 64)
    have e4 : mW (gU ks i) (m : Int) = (gU ks i).2.testBit (m - 64) := by unfold mW; rw [if_neg (by omega), show ((m : Int) - 64).toNat = m - 64 by omega]
    simp (disch := omega) only [↓RA, RZ, simprocAttr, hn, g1, g6, g8, (hS6.sl hk.sl).idx, (hS6.sl hk.sl).bf, (hS6.sl hk.sl).ld, ntc, hm, q3, e0, e1, e2]
    refine gT (fun q4 => ?_) (fun q4 => ?_)
    ·rw [e4, e3, decide_eq_true (by omega), if_pos rfl] at hsu
     simp (disch := omega) only [↓RA, RZ, simprocAttr, hn, g6, g8, g5, pM, hm, q3, q4]
     refine hS6.ae [I i, I m] qM a2k rfl rfl (by simp [Value.cells]) rfl rfl (by decide) (by decide) fun w1 H6 hS7 => ?_
     simp only [RT] at hS7
     simp (disch := omega) only [↓RA, RZ, simprocAttr, hn, hm, q3, q4]
     refine hS7.aq 1 rfl (hS7.rd 3 rfl) qM (by rw [hK, dj]; simp only [ek, eX]; omega) fun w2 H7 hS8 => ?_
     simp only [RT] at hS8
     simp (disch := omega) only [↓RA, RZ, simprocAttr, hn, g1, g4, g6, g7, g11, g12, g13, g8, hm, q3, q4]
     refine ⟨n - 1, by omega, j + 1, w2, by omega, by simp; omega, rfl, ?_⟩
     rw [hsu, ← ed, jE]
     exact hS8.pick [0, 1, 2] (by decide) rfl
    rw [e4, e3, decide_eq_false (by omega), if_neg (by simp), di] at hsu
    simp (disch := omega) only [↓RA, RZ, simprocAttr, hn, g1, g4, g6, g7, g11, g12, g13, g8, g5, hm, q3, q4]
    refine ⟨n - 1, by omega, j + 1, ow, by omega, by simp; omega, rfl, ?_⟩
    rw [hsu]
    exact hS6.pick [0, 1, 2] (by decide) rfl
   have e0 : (m : Int).tmod 64 = ((m : Nat) : Int) := by rw [show (m : Int).tmod 64 = ((m % 64 : Nat) : Int) from (dT m 64).symm]; omega
   have e1 := a1k (gU ks i).1 m hx.1
   have e2 := zW ((gU ks i).1 >>> m) (tN _ hx.1)
   have e3 := tb (gU ks i).1 m
   have e4 : mW (gU ks i) (m : Int) = (gU ks i).1.testBit m := by unfold mW; rw [if_pos (by omega)]; rfl
   simp (disch := omega) only [↓RA, RZ, simprocAttr, hn, g8, hm, q3, e0, e1, e2]
   refine gT (fun q4 => ?_) (fun q4 => ?_)
   ·rw [e4, e3, decide_eq_true (by omega), if_pos rfl] at hsu
    simp (disch := omega) only [↓RA, RZ, simprocAttr, hn, g6, g8, g5, pM, hm, q3, q4]
    refine hS6.ae [I i, I m] qM a2k rfl rfl (by simp [Value.cells]) rfl rfl (by decide) (by decide) fun w3 H8 hS9 => ?_
    simp only [RT] at hS9
    simp (disch := omega) only [↓RA, RZ, simprocAttr, hn, hm, q3, q4]
    refine hS9.aq 1 rfl (hS9.rd 3 rfl) qM (by rw [hK, dj]; simp only [ek, eX]; omega) fun w4 H9 hS10 => ?_
    simp only [RT] at hS10
    simp (disch := omega) only [↓RA, RZ, simprocAttr, hn, g1, g4, g6, g7, g11, g12, g13, g8, hm, q3, q4]
    refine ⟨n - 1, by omega, j + 1, w4, by omega, by simp; omega, rfl, ?_⟩
    rw [hsu, ← ed, jE]
    exact hS10.pick [0, 1, 2] (by decide) rfl
   rw [e4, e3, decide_eq_false (by omega), if_neg (by simp), di] at hsu
   simp (disch := omega) only [↓RA, RZ, simprocAttr, hn, g1, g4, g6, g7, g11, g12, g13, g8, g5, hm, q3, q4]
   refine ⟨n - 1, by omega, j + 1, ow, by omega, by simp; omega, rfl, ?_⟩
   rw [hsu]
   exact hS6.pick [0, 1, 2] (by decide) rfl
  simp (disch := omega) only [↓RA, RZ, simprocAttr, hn, g1, g4, g11, g12, g13, g5, q2]
  refine ⟨o.dvs.length - (i + 1), by omega, i + 1, ow, by omega, by simp, rfl, ?_⟩
  have hjj : j = ((gU o.dvs i).hi - (gU o.dvs i).lo + 1).toNat := by omega
  rw [dS, dG, dz, eT, di]
  rw [show a1Y o ks i = a5p o ks i j from by rw [hjj]; rfl]
  exact hS6.pick [0, 1] (by decide) rfl
 simp (disch := omega) only [↓RA, RZ, simprocAttr, hn, g5, c4z, q]
 have hii : i = o.dvs.length := by omega
 subst hii
 exact hS3.pick [1] (by decide) rfl
end Go.Ds
namespace Go.Ds
open Go.Proofs Go.Proofs.Tryz Go.Shelf Go.RowKit Go.Lib Go.Sort
theorem c1a (kc : FuncId) (eg : ∀ args w, (callFunc kc args).run prog w = .ok (.enter kc args) w) (hf : ∀ x y : Sm, Fn prog kc [.agg #[I x.1.1, I x.1.2], .agg #[I y.1.1, I y.1.2]] .nil fun r H' => r = I (cfd x y) ∧ St prog (.nil : Heap) H' []) : a1P prog 51 kc sm :=
 fun jW off cap d w hs hH hblk hsz => by
  have hd : (d.toList.attachWith sm hs).toArray.map (·.1) = d := by
   rw [List.map_toArray, c3x]
  have hl : (d.toList.attachWith sm hs).toArray.size = d.size := by simp
  have hH' : HoldsK (fun x : Sm => jT x.1) 2 w jW off (d.toList.attachWith sm hs).toArray := by
   unfold HoldsK at hH ⊢
   rw [b8y, hd]
   exact hH
  have h := AnyQ.slices_SortFunc_total Tryz.bd 2 Tryz.isAgg52 Tryz.sizeOf52 (fun x : Sm => jT x.1) (fun _ => rfl) (fun x => a1u x.1) cfd c4F kc #[] jW off cap (d.toList.attachWith sm hs).toArray w eg (a5T (fun x : Sm => x.1) cfd hf jW off _ w) hH' hblk (by rw [hl]; exact hsz) c4C
  rw [hl] at h
  refine h.mono ?_
  rintro e w' ⟨h1, n, os, h2⟩
  exact ⟨h1, n, os, by rw [h2, b9J, List.toList_toArray, c1g, c3x]⟩
section
variable {H : Heap}
theorem b6F (x y : Sm) : Fn prog 52 [.agg #[I x.1.1, I x.1.2], .agg #[I y.1.1, I y.1.2]] H fun r H' => r = I (cfd x y) ∧ St prog H H' [] := by
 obtain ⟨⟨x1, x2⟩, hx⟩ := x
 obtain ⟨⟨y1, y2⟩, hy⟩ := y
 unfold sm at hx hy
 simp only at hx hy ⊢
 refine .aG func52 rfl (by kernel_rfl) (m := 20) rfl fun l hn g0 g1 => ?_
 simp (disch := omega) only [↓RA, RB, simprocAttr, g0]
 refine (sR H).eNew 2 [I x1, I x2] rfl rfl rfl nR fun A1 H1 hS1 => ?_
 simp only [RT] at hS1
 simp (disch := omega) only [↓RA, RB, simprocAttr, g1]
 refine hS1.eNew 2 [I y1, I y2] rfl rfl rfl nR fun A2 H2 hS2 => ?_
 simp only [RT] at hS2
 simp (disch := omega) only [↓RA, RZ, simprocAttr, hn, hS2.ld 0 rfl, hS2.ld 1 rfl]
 refine gT (fun q => ?_) (fun q => ?_)
 ·simp (disch := omega) only [↓RA, RZ, simprocAttr, hn, hS2.ld 0 rfl, hS2.ld 1 rfl, c1p, q]
  exact ⟨by unfold cfd; rw [if_pos q], hS2.forget⟩
 simp (disch := omega) only [↓RA, RZ, simprocAttr, hn, hS2.ld 0 rfl, hS2.ld 1 rfl, c1p, q]
 exact ⟨by unfold cfd; rw [if_neg q], hS2.forget⟩
end
theorem c1O : b7s 51 52 := fun hS i _ _ ho hl hsm _ h => vW (c1a 52 (enters_of func52 (by kernel_rfl) rfl) fun x y => b6F x y) b8O b8K hS i ho hl hsm h
end Go.Ds
namespace Go.Ds
open Go.Proofs Go.Proofs.Tryz
variable {H : Heap}
set_option maxRecDepth 10000
set_option maxHeartbeats 1000000
theorem Ct.cN (a b : Ct) : (a.1 = b.1 ∧ a.2 = b.2) ↔ b = a := ⟨fun h => fT h.1.symm h.2.symm, fun h => by rw [h]; exact ⟨rfl, rfl⟩⟩
theorem a8T (v : Value) (xs : List Ct) (hv : Sl 2 jT H v xs) (hl : xs.length < 1000000000) (d : Ct) :
 Fn prog 94 [v, .agg #[I d.1, I d.2]] H fun r H' => r = I (pO (fun j => decide (gU xs j = d)) xs.length) ∧ St prog H H' [] := by
 refine .aG func94 rfl (by kernel_rfl) (m := 19) rfl fun l hn g0 g1 => ?_
 simp (disch := omega) only [↓RA, RB, simprocAttr, g1]
 refine (sR H).eNew 2 [I d.1, I d.2] rfl rfl rfl nR fun A1 H1 hS1 => ?_
 simp only [RT] at hS1
 simp (disch := omega) only [↓RA, RZ, simprocAttr, hn, g0, (hS1.sl hv).len]
 refine Wp.al (fun n l H' => l.length = 19 ∧ get l 0 = v ∧ get l 3 = (ptr A1 0 2) ∧ get l 7 = I xs.length ∧ ∃ (j : Nat), (n + j = xs.length ∧ ∀ q, q < j → decide (gU xs q = d) = false) ∧ get l 8 = I j ∧ St prog H H' [⟨ptr A1 0 2, 0, [I d.1, I d.2]⟩]) xs.length ?_ ?_
 ·simp (disch := omega) only [RB, RC, simprocAttr, hn, g0]
  exact ⟨0, ⟨by omega, fun q hq => absurd hq (dF _)⟩, rfl, hS1⟩
 rintro n l H2 ⟨hn, g0, g3, g7, j, ⟨hi,h0⟩, g8, hS2⟩
 simp (disch := omega) only [↓RA, RB, simprocAttr, hn, g7, g8]
 refine gT (fun h => ?_) (fun h => ?_)
 ·simp (disch := omega) only [↓RA, RZ, simprocAttr, hn, g8, h]
  refine Wp.drw jU (by kernel_rfl) ?_
  simp (disch := omega) only [↓RA, RZ, simprocAttr, hn, g0, g3, hS2.aj 0 rfl, (hS2.sl hv).idx, (hS2.sl hv).aj, jT]
  refine gT (fun hp => ?_) (fun hp => ?_)
  ·simp (disch := omega) only [↓RA, RZ, simprocAttr, hn, c2g, hp]
   exact ⟨by rw [xH _ xs.length j (by omega) (by simpa using (Ct.cN _ _).1 hp) h0], hS2.forget⟩
  simp (disch := omega) only [↓RA, RZ, simprocAttr, hn, g0, g3, g7, g8, hp]
  exact ⟨n - 1, by omega, j + 1, ⟨by omega, fun q hq => by rcases de.1 hq with e | e; (· exact h0 q e); (· rw [e]; simpa using fun hh => hp ((Ct.cN _ _).2 hh))⟩, by simp, hS2⟩
 simp (disch := omega) only [↓RA, RZ, simprocAttr, hn, c2g, h]
 exact ⟨by rw [wU _ xs.length fun q hq => h0 q (by omega)], hS2.forget⟩
theorem a1R (v : Value) (xs : List Ct) (hv : Sl 2 jT H v xs) (hl : xs.length < 1000000000) (d : Ct) :
 Fn prog 50 [v, .agg #[I d.1, I d.2]] H fun r H' => r = .bool (decide (d ∈ xs)) ∧ St prog H H' [] := by
 have e : decide (0 ≤ pO (fun j => decide (gU xs j = d)) xs.length) = decide (d ∈ xs) := by
  rw [dP, decide_eq_true_iff, decide_eq_true_iff, a0j]
  constructor
  ·rintro ⟨j, hj, hp⟩
   rw [← of_decide_eq_true hp]; exact gX hj
  ·intro hx
   obtain ⟨j, hj, rfl⟩ := dQ.1 hx
   exact ⟨j, hj, by rw [jY xs j hj]; simp⟩
 refine .aG func50 rfl (by kernel_rfl) (m := 9) rfl fun l hn g0 g1 => ?_
 simp (disch := omega) only [↓RA, RB, simprocAttr, g1]
 refine (sR H).eNew 2 [I d.1, I d.2] rfl rfl rfl nR fun A1 H1 hS1 => ?_
 simp only [RT] at hS1
 simp (disch := omega) only [↓RA, RZ, simprocAttr, hn, g0, hS1.aj 0 rfl]
 refine hS1.cF (a8T v xs (hS1.sl hv) hl d) fun H2 hS2 => ?_
 simp (disch := omega) only [↓RA, RB, simprocAttr, hn, c4O]
 rw [← e]
 first | exact hS2.forget | exact ⟨rfl, hS2.forget⟩
theorem a4G {B : Base} (o : Org) (r : Reg) (sv : Value) (c : Ct) (thr : Bool) (AO AR AQ : Nat) (qv : Value) (q : List Ct)
 (hS : St prog B H [⟨ptr AQ 0 1, 0, [qv]⟩, ⟨qv, 2, pr q⟩])
 (hO : ∀ {H1 : Heap} {os : List Ob}, St prog B H1 os → Var H1 AO 4 [.string o.name, o.rv, o.dv, o.cv] ∧ o.In H1 ∧ Var H1 AR 3 [sv, .int .u64 r.cpl, .int .u64 r.off])
 (hq : Que o q) (ho : o.Fine) (hr : r.Ok) :
 Fn prog 93 [.agg #[I c.1, I c.2], .bool thr, ptr AO 0 4, ptr AR 0 3, ptr AQ 0 1] H fun rr H' => ∃ qv', rr = .tuple #[] ∧
  St prog B H' [⟨ptr AQ 0 1, 0, [qv']⟩, ⟨qv', 2, pr (stepF o r.cpl thr c q)⟩] := by
 have hcl := ho.clen
 refine .cO func93 rfl (by kernel_rfl) (m := 64) rfl fun l hn g0 g1 g2 g3 g4 => ?_
 simp (disch := omega) only [↓RA, RB, simprocAttr, g0]
 refine hS.eNew 2 [I c.1, I c.2] rfl rfl rfl nR fun A1 H1 hS1 => ?_
 simp only [RT] at hS1
 simp (disch := omega) only [↓RA, RZ, simprocAttr, hn, g2, ((hO hS1).1).ld, ((hO hS1).2.1.2.2.2.2.1).len]
 refine Wp.al (fun n l H' => l.length = 64 ∧ get l 1 = (.bool thr) ∧ get l 2 = (ptr AO 0 4) ∧ get l 3 = (ptr AR 0 3) ∧ get l 4 = (ptr AQ 0 1) ∧ get l 5 = (ptr A1 0 2) ∧ get l 11 = o.cv ∧ get l 12 = I o.cpls.length ∧ ∃ (i : Nat) (qv' : Value), (n + i = o.cpls.length) ∧ get l 13 = I i ∧ St prog B H' [⟨ptr AQ 0 1, 0, [qv']⟩, ⟨qv', 2, pr (stepN o r.cpl thr c q i)⟩, ⟨ptr A1 0 2, 0, [I c.1, I c.2]⟩]) o.cpls.length ?_ ?_
 ·simp (disch := omega) only [RB, RC, simprocAttr, hn, g1, g2, g3, g4]
  exact ⟨0, qv, by omega, rfl, hS1⟩
 rintro n l H2 ⟨hn, g1, g2, g3, g4, g5, g11, g12, i, qv', hi, g13, hS2⟩
 simp (disch := omega) only [↓RA, RB, simprocAttr, hn, g12, g13]
 refine gT (fun q1 => ?_) (fun q1 => ?_)
 ·have hql : (stepN o r.cpl thr c q i).length ≤ 1024 := (hq.stepN r.cpl thr c i).len ho
  have e1 := a1k r.cpl i hr.2.2.1
  have e2 := zW (r.cpl >>> i) (tN i hr.2.2.1)
  have e3 := tb r.cpl i
  have hstay : (rJ r.cpl thr c (gU o.cpls i) i && oW o (to1 (gU o.cpls i) c) && !decide (to1 (gU o.cpls i) c ∈ stepN o r.cpl thr c q i)) = false → stepN o r.cpl thr c q (i + 1) = stepN o r.cpl thr c q i := fun h => by
   rw [lF, step1, if_neg (by rw [h]; simp)]
  simp (disch := omega) only [↓RA, RZ, simprocAttr, hn, g11, g13, ((hO hS2).2.1.2.2.2.2.1).idx, ((hO hS2).2.1.2.2.2.2.1).aj, Cpl.cells, q1]
  refine hS2.eNew 5 [(.string ⟨#[]⟩), I 0, I 0, I 0, (.bool false)] rfl rfl rfl sK fun A2 H3 hS3 => ?_
  simp only [RT] at hS3
  simp (disch := omega) only [↓RA, RZ, simprocAttr, hn, q1]
  refine hS3.aa 3 rfl [(.string (gU o.cpls i).name), I (gU o.cpls i).src, I (gU o.cpls i).dst, I (gU o.cpls i).shift, (.bool (gU o.cpls i).thr)] rfl rfl sK (by simp) fun H4 hS4 => ?_
  simp only [RT] at hS4
  simp (disch := omega) only [↓RA, RZ, simprocAttr, hn, g5, hS4.ld 3 rfl, hS4.ld 2 rfl, q1]
  simp (disch := omega) only [↓RA, RZ, simprocAttr, pM]
  refine hS4.eNew 2 [I 0, I 0] rfl rfl rfl nR fun A3 H5 hS5 => ?_
  simp only [RT] at hS5
  simp (disch := omega) only [↓RA, RZ, simprocAttr, hn, q1]
  refine hS5.aa 4 rfl [I (gU o.cpls i).dst, I (pX (c.2 + (gU o.cpls i).shift))] rfl rfl nR (by simp) fun H6 hS6 => ?_
  simp only [RT] at hS6
  simp (disch := omega) only [↓RA, RZ, simprocAttr, hn, g3, ((hO hS6).2.2).ld, q1, e1, e2]
  refine jB (fun b1 => ?_) (fun b1 => ?_)
  ·have hb : r.cpl.testBit i = true := by rw [e3]; exact decide_eq_true (by omega)
   simp (disch := omega) only [↓RA, RZ, simprocAttr, hn, g5, hS6.ld 3 rfl, hS6.ld 2 rfl, q1, b1]
   refine jB (fun b2 => ?_) (fun b2 => ?_)
   ·have hsrc : (gU o.cpls i).src = c.1 := by omega
    have hgg : rJ r.cpl thr c (gU o.cpls i) i = (!thr || (gU o.cpls i).thr) := by unfold rJ; rw [hb, decide_eq_true hsrc]; rfl
    simp (disch := omega) only [↓RA, RZ, simprocAttr, hn, hS6.ld 3 rfl, q1, b1, b2]
    refine pG (fun b3 => ?_) (fun b3 => ?_)
    ·have hg : rJ r.cpl thr c (gU o.cpls i) i = true := by rw [hgg, b3]; simp
     simp (disch := omega) only [↓RA, RZ, simprocAttr, hn, g2, ((hO hS6).1).aj, hS6.aj 4 rfl, q1, b1, b2, b3]
     refine hS6.cF (a9u o (hO hS6).2.1 ((gU o.cpls i).dst, pX (c.2 + (gU o.cpls i).shift))) fun H7 hS7 => ?_
     simp (disch := omega) only [↓RA, RZ, simprocAttr, hn, q1, b1, b2, b3]
     refine pG (fun b5 => ?_) (fun b5 => ?_)
     ·simp (disch := omega) only [↓RA, RZ, simprocAttr, hn, g4, hS7.ld 0 rfl, hS7.aj 4 rfl, q1, b1, b2, b3, b5]
      refine hS7.cF (a1R qv' (stepN o r.cpl thr c q i) (hS7.ax 1 rfl (fun _ => rfl)) (by omega) ((gU o.cpls i).dst, pX (c.2 + (gU o.cpls i).shift))) fun H8 hS8 => ?_
      simp (disch := omega) only [↓RA, RZ, simprocAttr, hn, q1, b1, b2, b3, b5]
      refine jD (fun b6 => ?_) (fun b6 => ?_)
      ·have hs : stepN o r.cpl thr c q (i + 1) = stepN o r.cpl thr c q i ++ [((gU o.cpls i).dst, pX (c.2 + (gU o.cpls i).shift))] := by
        rw [lF]
        unfold step1
        have hnot : ((gU o.cpls i).dst, pX (c.2 + (gU o.cpls i).shift)) ∉ stepN o r.cpl thr c q i := by simpa using b6
        rw [if_pos (by rw [hg]; simp only [to1, b5]; simp [hnot])]
        rfl
       simp (disch := omega) only [↓RA, RZ, simprocAttr, hn, g4, hS8.ld 0 rfl, hS8.aj 4 rfl, q1, b1, b2, b3, b5, b6]
       refine hS8.ae [I (gU o.cpls i).dst, I (pX (c.2 + (gU o.cpls i).shift))] qM a2k rfl rfl (by simp [Value.cells]) rfl rfl (by decide) (by decide) fun w1 H9 hS9 => ?_
       simp only [RT] at hS9
       simp (disch := omega) only [↓RA, RZ, simprocAttr, hn, q1, b1, b2, b3, b5, b6]
       refine hS9.aq 1 rfl (hS9.rd 5 rfl) qM (by rw [hK]; simp; omega) fun w2 H10 hS10 => ?_
       simp only [RT] at hS10
       simp (disch := omega) only [↓RA, RZ, simprocAttr, hn, g4, q1, b1, b2, b3, b5, b6]
       refine hS10.aa 0 rfl [w2] (by rw [(hS10.rd 1 rfl).cells.1]) (by simp [(hS10.rd 1 rfl).cells.2.1]) a8x (by simp) fun H11 hS11 => ?_
       simp only [RT] at hS11
       simp (disch := omega) only [↓RA, RZ, simprocAttr, hn, g1, g2, g3, g4, g5, g11, g12, g13, q1, b1, b2, b3, b5, b6]
       refine ⟨n - 1, by omega, i + 1, w2, by omega, by simp, ?_⟩
       rw [hs, jE]
       exact hS11.pick [0, 1, 2] (by decide) rfl
      have hin : ((gU o.cpls i).dst, pX (c.2 + (gU o.cpls i).shift)) ∈ stepN o r.cpl thr c q i := by simpa using b6
      have hs := hstay (by simp only [to1]; simp [hin])
      simp (disch := omega) only [↓RA, RZ, simprocAttr, hn, g1, g2, g3, g4, g5, g11, g12, g13, q1, b1, b2, b3, b5, b6]
      exact ⟨n - 1, by omega, i + 1, qv', by omega, by simp, by rw [hs]; exact hS8.pick [0, 1, 2] (by decide) rfl⟩
     have hs := hstay (by rw [ef, ef]; exact .inl (.inr (by simpa [to1] using b5)))
     simp (disch := omega) only [↓RA, RZ, simprocAttr, hn, g1, g2, g3, g4, g5, g11, g12, g13, q1, b1, b2, b3, b5]
     exact ⟨n - 1, by omega, i + 1, qv', by omega, by simp, by rw [hs]; exact hS7.pick [0, 1, 2] (by decide) rfl⟩
    simp (disch := omega) only [↓RA, RZ, simprocAttr, hn, g1, q1, b1, b2, b3]
    refine pG (fun b4 => ?_) (fun b4 => ?_)
    ·have hg : rJ r.cpl thr c (gU o.cpls i) i = true := by
      have : thr = false := by simpa using b4
      rw [hgg, this]; rfl
     simp (disch := omega) only [↓RA, RZ, simprocAttr, hn, g2, ((hO hS6).1).aj, hS6.aj 4 rfl, q1, b1, b2, b3, b4]
     refine hS6.cF (a9u o (hO hS6).2.1 ((gU o.cpls i).dst, pX (c.2 + (gU o.cpls i).shift))) fun H12 hS12 => ?_
     simp (disch := omega) only [↓RA, RZ, simprocAttr, hn, q1, b1, b2, b3, b4]
     refine pG (fun b5 => ?_) (fun b5 => ?_)
     ·simp (disch := omega) only [↓RA, RZ, simprocAttr, hn, g4, hS12.ld 0 rfl, hS12.aj 4 rfl, q1, b1, b2, b3, b4, b5]
      refine hS12.cF (a1R qv' (stepN o r.cpl thr c q i) (hS12.ax 1 rfl (fun _ => rfl)) (by omega) ((gU o.cpls i).dst, pX (c.2 + (gU o.cpls i).shift))) fun H13 hS13 => ?_
      simp (disch := omega) only [↓RA, RZ, simprocAttr, hn, q1, b1, b2, b3, b4, b5]
      refine jD (fun b6 => ?_) (fun b6 => ?_)
      ·have hs : stepN o r.cpl thr c q (i + 1) = stepN o r.cpl thr c q i ++ [((gU o.cpls i).dst, pX (c.2 + (gU o.cpls i).shift))] := by
        rw [lF]
        unfold step1
        have hnot : ((gU o.cpls i).dst, pX (c.2 + (gU o.cpls i).shift)) ∉ stepN o r.cpl thr c q i := by simpa using b6
        rw [if_pos (by rw [hg]; simp only [to1, b5]; simp [hnot])]
        rfl
       simp (disch := omega) only [↓RA, RZ, simprocAttr, hn, g4, hS13.ld 0 rfl, hS13.aj 4 rfl, q1, b1, b2, b3, b4, b5, b6]
       refine hS13.ae [I (gU o.cpls i).dst, I (pX (c.2 + (gU o.cpls i).shift))] qM a2k rfl rfl (by simp [Value.cells]) rfl rfl (by decide) (by decide) fun w3 H14 hS14 => ?_
       simp only [RT] at hS14
       simp (disch := omega) only [↓RA, RZ, simprocAttr, hn, q1, b1, b2, b3, b4, b5, b6]
       refine hS14.aq 1 rfl (hS14.rd 5 rfl) qM (by rw [hK]; simp; omega) fun w4 H15 hS15 => ?_
       simp only [RT] at hS15
       simp (disch := omega) only [↓RA, RZ, simprocAttr, hn, g4, q1, b1, b2, b3, b4, b5, b6]
       refine hS15.aa 0 rfl [w4] (by rw [(hS15.rd 1 rfl).cells.1]) (by simp [(hS15.rd 1 rfl).cells.2.1]) a8x (by simp) fun H16 hS16 => ?_
       simp only [RT] at hS16
       simp (disch := omega) only [↓RA, RZ, simprocAttr, hn, g1, g2, g3, g4, g5, g11, g12, g13, q1, b1, b2, b3, b4, b5, b6]
       refine ⟨n - 1, by omega, i + 1, w4, by omega, by simp, ?_⟩
       rw [hs, jE]
       exact hS16.pick [0, 1, 2] (by decide) rfl
      have hin : ((gU o.cpls i).dst, pX (c.2 + (gU o.cpls i).shift)) ∈ stepN o r.cpl thr c q i := by simpa using b6
      have hs := hstay (by simp only [to1]; simp [hin])
      simp (disch := omega) only [↓RA, RZ, simprocAttr, hn, g1, g2, g3, g4, g5, g11, g12, g13, q1, b1, b2, b3, b4, b5, b6]
      exact ⟨n - 1, by omega, i + 1, qv', by omega, by simp, by rw [hs]; exact hS13.pick [0, 1, 2] (by decide) rfl⟩
     have hs := hstay (by rw [ef, ef]; exact .inl (.inr (by simpa [to1] using b5)))
     simp (disch := omega) only [↓RA, RZ, simprocAttr, hn, g1, g2, g3, g4, g5, g11, g12, g13, q1, b1, b2, b3, b4, b5]
     exact ⟨n - 1, by omega, i + 1, qv', by omega, by simp, by rw [hs]; exact hS12.pick [0, 1, 2] (by decide) rfl⟩
    have h4 : thr = true := by simpa using b4
    have h3 : (gU o.cpls i).thr = false := by simpa using b3
    have hs := hstay (by rw [hgg, h4, h3]; rfl)
    simp (disch := omega) only [↓RA, RZ, simprocAttr, hn, g1, g2, g3, g4, g5, g11, g12, g13, q1, b1, b2, b3, b4]
    exact ⟨n - 1, by omega, i + 1, qv', by omega, by simp, by rw [hs]; exact hS6.pick [0, 1, 2] (by decide) rfl⟩
   have hs := hstay (by unfold rJ; rw [decide_eq_false (by omega)]; simp)
   simp (disch := omega) only [↓RA, RZ, simprocAttr, hn, g1, g2, g3, g4, g5, g11, g12, g13, q1, b1, b2]
   exact ⟨n - 1, by omega, i + 1, qv', by omega, by simp, by rw [hs]; exact hS6.pick [0, 1, 2] (by decide) rfl⟩
  have hs := hstay (by unfold rJ; rw [e3, decide_eq_false (by omega)]; rfl)
  simp (disch := omega) only [↓RA, RZ, simprocAttr, hn, g1, g2, g3, g4, g5, g11, g12, g13, q1, b1]
  exact ⟨n - 1, by omega, i + 1, qv', by omega, by simp, by rw [hs]; exact hS6.pick [0, 1, 2] (by decide) rfl⟩
 simp (disch := omega) only [↓RA, RZ, simprocAttr, c3U, q1]
 have hii : i = o.cpls.length := by omega
 subst hii
 exact ⟨qv', hS2.pick [0, 1] (by decide) rfl⟩
theorem a3D (o : Org) (ho : o.In H) (hf : o.Fine) (r : Reg) (sv : Value) (hr : r.In H sv) (fv : Value) (first : List Ct) (hfi : Sl 2 jT H fv first) (hfl : first.length ≤ 1024) :
 Fn prog 49 [.agg #[.string o.name, o.rv, o.dv, o.cv], .agg #[sv, .int .u64 r.cpl, .int .u64 r.off], fv] H fun rr H' => St prog H H' [⟨rr, 2, pr (bfs o r.cpl 1100 0 (jX o r.cpl first))⟩] := by
 refine .bA func49 rfl (by kernel_rfl) (m := 36) rfl fun l hn g0 g1 g2 => ?_
 simp (disch := omega) only [↓RA, RB, simprocAttr, g0]
 refine (sR H).eNew 4 [(.string o.name), o.rv, o.dv, o.cv] rfl rfl (by simp [OC, ((sR H).sl ho.1).cells.2.1, ((sR H).sl ho.2.2.1).cells.2.1, ((sR H).sl ho.2.2.2.2.1).cells.2.1]) mT fun A1 H1 hS1 => ?_
 simp only [RT] at hS1
 simp (disch := omega) only [↓RA, RB, simprocAttr, g1]
 refine hS1.eNew 3 [sv, (.int .u64 r.cpl), (.int .u64 r.off)] rfl rfl (by simp [OC, (hS1.sl hr.1).cells.2.1]) qP fun A2 H2 hS2 => ?_
 simp only [RT] at hS2
 simp (disch := omega) only [↓RA, RZ, simprocAttr]
 refine hS2.eNew 1 [(.slice none 0 0)] rfl rfl rfl a8x fun A3 H3 hS3 => ?_
 simp only [RT] at hS3
 simp (disch := omega) only [↓RA, RZ, simprocAttr, hn, g2, (hS3.sl hfi).len]
 have hS4 := hS3.nil 1
 simp only [RT] at hS4
 refine Wp.al (fun n l H' => l.length = 36 ∧ get l 6 = (.slice none 0 0) ∧ get l 7 = (ptr A3 0 1) ∧ get l 8 = (.func (.func 93) #[] #[(ptr A1 0 4), (ptr A2 0 3), (ptr A3 0 1)]) ∧ get l 13 = fv ∧ get l 14 = I first.length ∧ ∃ (i : Nat) (qv : Value), (n + i = first.length) ∧ get l 15 = I i ∧ St prog H H' [⟨ptr A1 0 4, 0, [(.string o.name), o.rv, o.dv, o.cv]⟩, ⟨ptr A2 0 3, 0, [sv, (.int .u64 r.cpl), (.int .u64 r.off)]⟩, ⟨ptr A3 0 1, 0, [qv]⟩, ⟨qv, 2, pr (jX o r.cpl (first.take i))⟩]) first.length ?_ ?_
 ·simp (disch := omega) only [RB, RC, simprocAttr, hn]
  refine ⟨0, .slice none 0 0, by omega, rfl, ?_⟩
  rw [show jX o r.cpl (first.take 0) = [] from rfl]
  exact hS4
 rintro n l H4 ⟨hn, g6, g7, g8, g13, g14, i, qv, hi, g15, hS5⟩
 simp (disch := omega) only [↓RA, RB, simprocAttr, hn, g14, g15]
 refine gT (fun q1 => ?_) (fun q1 => ?_)
 ·have hqu := mU o r.cpl (first.take i)
  have hqs := zN o r.cpl first i (by omega)
  simp (disch := omega) only [↓RA, RZ, simprocAttr, hn, g13, g15, (hS5.sl hfi).idx, (hS5.sl hfi).aj, jT, q1]
  refine hS5.eNew 2 [I 0, I 0] rfl rfl rfl nR fun A4 H5 hS6 => ?_
  simp only [RT] at hS6
  simp (disch := omega) only [↓RA, RZ, simprocAttr, hn, q1]
  refine hS6.aa 4 rfl [I (gU first i).1, I (gU first i).2] rfl rfl nR (by simp) fun H6 hS7 => ?_
  simp only [RT] at hS7
  simp (disch := omega) only [↓RA, RZ, simprocAttr, hn, g8, hS7.aj 4 rfl, q1]
  have hM1 := hS7.pick (os' := [⟨ptr A3 0 1, 0, _⟩, ⟨qv, 2, _⟩]) [2, 3] (by decide) rfl
  have hR1 := hS7.pick (os' := [⟨ptr A3 0 1, 0, _⟩, ⟨qv, 2, _⟩, ⟨ptr A1 0 4, 0, _⟩, ⟨ptr A2 0 3, 0, _⟩, ⟨ptr A4 0 2, 0, _⟩]) [2, 3, 0, 1, 4] (by decide) rfl
  refine iB (a4G o r sv (gU first i) false A1 A2 A3 qv (jX o r.cpl (first.take i)) hM1.aF (fun h => ⟨(hR1.frame h.forget).var 0 rfl, ho.ai (hR1.frame h.forget), (hR1.frame h.forget).var 1 rfl⟩) hqu hf hr.2) ?_
  rintro r H7 ⟨qv', rfl, hT1⟩
  have hS8 := hR1.frame hT1
  simp only [RT] at hS8
  simp (disch := omega) only [↓RA, RZ, simprocAttr, hn, g6, g7, g8, g13, g14, g15, q1]
  refine ⟨n - 1, by omega, i + 1, qv', by omega, by simp, ?_⟩
  rw [hqs]
  exact hS8.pick [2, 3, 0, 1] (by decide) rfl
 simp (disch := omega) only [↓RA, RZ, simprocAttr, q1]
 have hii : i = first.length := by omega
 subst hii
 rw [eo] at hS5
 have hqu := mU o r.cpl first
 refine Wp.al (fun n l H' => l.length = 36 ∧ get l 6 = (.slice none 0 0) ∧ get l 7 = (ptr A3 0 1) ∧ get l 8 = (.func (.func 93) #[] #[(ptr A1 0 4), (ptr A2 0 3), (ptr A3 0 1)]) ∧ ∃ (j : Nat) (qv : Value) (q : List Ct), (n + j = 1100 ∧ bfs o r.cpl n j q = bfs o r.cpl 1100 0 (jX o r.cpl first) ∧ Que o q) ∧ get l 11 = I j ∧ St prog H H' [⟨ptr A1 0 4, 0, [(.string o.name), o.rv, o.dv, o.cv]⟩, ⟨ptr A2 0 3, 0, [sv, (.int .u64 r.cpl), (.int .u64 r.off)]⟩, ⟨ptr A3 0 1, 0, [qv]⟩, ⟨qv, 2, pr q⟩]) 1100 ?_ ?_
 ·simp (disch := omega) only [RB, RC, simprocAttr, hn, g6, g7, g8]
  exact ⟨0, qv, _, ⟨rfl, rfl, hqu⟩, rfl, hS5⟩
 rintro n l H8 ⟨hn, g6, g7, g8, j, qv, q, ⟨hj,hbf,hqq⟩, g11, hS9⟩
 have hql := hqq.len hf
 simp (disch := omega) only [↓RA, RZ, simprocAttr, hn, g7, g11, hS9.ld 2 rfl, (hS9.ax 3 rfl (fun _ => rfl)).len]
 refine gT (fun q3 => ?_) (fun q3 => ?_)
 ·have hjl : j < q.length := by omega
  simp (disch := omega) only [↓RA, RZ, simprocAttr, hn, g7, g8, g11, hS9.ld 2 rfl, (hS9.ax 3 rfl (fun _ => rfl)).idx, (hS9.ax 3 rfl (fun _ => rfl)).aj, jT, q3]
  have hM2 := hS9.pick (os' := [⟨ptr A3 0 1, 0, _⟩, ⟨qv, 2, _⟩]) [2, 3] (by decide) rfl
  have hR2 := hS9.pick (os' := [⟨ptr A3 0 1, 0, _⟩, ⟨qv, 2, _⟩, ⟨ptr A1 0 4, 0, _⟩, ⟨ptr A2 0 3, 0, _⟩]) [2, 3, 0, 1] (by decide) rfl
  refine iB (a4G o r sv (gU q j) true A1 A2 A3 qv q hM2.aF (fun h => ⟨(hR2.frame h.forget).var 0 rfl, ho.ai (hR2.frame h.forget), (hR2.frame h.forget).var 1 rfl⟩) hqq hf hr.2) ?_
  rintro r H9 ⟨qv', rfl, hT2⟩
  have hS10 := hR2.frame hT2
  simp only [RT] at hS10
  simp (disch := omega) only [↓RA, RZ, simprocAttr, hn, g6, g7, g8, g11, q3]
  obtain ⟨n', rfl⟩ : ∃ n', n = n' + 1 := ⟨n - 1, by omega⟩
  rw [bfs, if_pos hjl] at hbf
  exact ⟨n', by omega, j + 1, qv', _, ⟨by omega, hbf, hqq.stepF _ _ _⟩, by simp, hS10.pick [2, 3, 0, 1] (by decide) rfl⟩
 have hbq : bfs o r.cpl 1100 0 (jX o r.cpl first) = q := by
  rw [← hbf]
  cases n with
  | zero => rfl
  | succ n => rw [bfs, if_neg (by omega)]
 simp (disch := omega) only [↓RA, RZ, simprocAttr, hn, g7, hS9.ld 2 rfl, c4b, q3]
 rw [hbq]
 exact hS9.pick [3] (by decide) rfl
theorem a5M {o : Org} {r : Reg} {l q : List Ct} (hq : Que o q) (hl : ∀ c ∈ l, oW o c = true) : Que o (l.foldl (qT r) q) :=
 ⟨uY hq.1, fun c hc => by
  rcases a1b.1 hc with h | h
  ·exact hq.2 c h
  ·exact hl c h.1⟩
theorem b9O {o : Org} (hf : o.Fine) {q : List Ct} (hq : Que o q) : ∀ x ∈ q, sm x := fun x hx => by
 have := wG hf (hq.2 x hx)
 unfold sm
 omega
theorem a2e (o : Org) (ho : o.In H) (hf : o.Fine) (rg : Reg) (sv : Value) (hr : rg.In H sv) (kv : Value) (ks : List Nt) (hk : Ks H kv ks) (h0 : oK o ks = 0) :
 Fn prog 17 [.agg #[.string o.name, o.rv, o.dv, o.cv], .agg #[sv, .int .u64 rg.cpl, .int .u64 rg.off], kv] H fun rr H' => St prog H H' [⟨rr, 2, pr (mG o rg (iG ks))⟩] := by
 have hkl := (oD h0).2.1
 have hple := b6O hk.ok h0
 have hpll := uG h0
 have hplc := uH hk.ok h0
 refine .bA func17 rfl (by kernel_rfl) (m := 46) rfl fun l hn g0 g1 g2 => ?_
 simp (disch := omega) only [↓RA, RB, simprocAttr, g0]
 refine (sR H).eNew 4 [(.string o.name), o.rv, o.dv, o.cv] rfl rfl (by simp [OC, ((sR H).sl ho.1).cells.2.1, ((sR H).sl ho.2.2.1).cells.2.1, ((sR H).sl ho.2.2.2.2.1).cells.2.1]) mT fun A1 H1 hS1 => ?_
 simp only [RT] at hS1
 simp (disch := omega) only [↓RA, RB, simprocAttr, g1]
 refine hS1.eNew 3 [sv, (.int .u64 rg.cpl), (.int .u64 rg.off)] rfl rfl (by simp [OC, (hS1.sl hr.1).cells.2.1]) qP fun A2 H2 hS2 => ?_
 simp only [RT] at hS2
 simp (disch := omega) only [↓RA, RZ, simprocAttr, hn, g2, hS2.aj 0 rfl]
 refine iB ((a6r o (ho.ai hS2) hf kv ks (hk.ai hS2) hkl).tr) ?_
 rintro r H3 ⟨-, hT1⟩
 have hS3 := hS2.trans hT1
 simp only [RT] at hS3
 obtain ⟨pv, rfl⟩ : ∃ w, w = r := ⟨r, rfl⟩
 rw [hple] at hS3
 simp (disch := omega) only [↓RA, RZ, simprocAttr, hn, hS3.aj 0 rfl, hS3.aj 1 rfl]
 refine iB ((a3D o (ho.ai hS3) hf rg sv (hr.ai hS3) pv (iG ks) (hS3.ax 2 rfl kH) hpll).tr) ?_
 rintro r H4 ⟨-, hT2⟩
 have hS4 := hS3.trans hT2
 simp only [RT] at hS4
 obtain ⟨qv, rfl⟩ : ∃ w, w = r := ⟨r, rfl⟩
 have hQ := a3F rg.cpl 1100 0 _ (a1w o rg.cpl (iG ks))
 have hfin : b2K o rg (iG ks) = sP ((iG ks).foldl (qT rg) (bfs o rg.cpl 1100 0 (jX o rg.cpl (iG ks)))) := rfl
 rw [b3E] at hfin
 rw [hfin]
 clear hfin
 simp (disch := omega) only [↓RA, RZ, simprocAttr, hn, (hS4.ax 2 rfl kH).len]
 refine Wp.al (fun n l H' => l.length = 46 ∧ get l 4 = (ptr A2 0 3) ∧ get l 6 = (.slice none 0 0) ∧ get l 18 = pv ∧ get l 19 = I (iG ks).length ∧ ∃ (i : Nat) (ov : Value), (n + i = (iG ks).length) ∧ get l 20 = I i ∧ get l 8 = ov ∧ St prog H H' [⟨ptr A1 0 4, 0, [(.string o.name), o.rv, o.dv, o.cv]⟩, ⟨ptr A2 0 3, 0, [sv, (.int .u64 rg.cpl), (.int .u64 rg.off)]⟩, ⟨pv, 2, pr (iG ks)⟩, ⟨ov, 2, pr (((iG ks).take i).foldl (qT rg) (bfs o rg.cpl 1100 0 (jX o rg.cpl (iG ks))))⟩]) (iG ks).length ?_ ?_
 ·simp (disch := omega) only [RB, RC, simprocAttr, hn]
  exact ⟨0, qv, by omega, rfl, rfl, hS4⟩
 rintro n l H5 ⟨hn, g4, g6, g18, g19, i, ov, hi, g20, g8, hS5⟩
 simp (disch := omega) only [↓RA, RB, simprocAttr, hn, g19, g20]
 refine gT (fun q1 => ?_) (fun q1 => ?_)
 ·have hci := (nJ o _).1 (hplc _ (gX (xs := iG ks) (j := i) (by omega)))
  have hqi : Que o (((iG ks).take i).foldl (qT rg) (bfs o rg.cpl 1100 0 (jX o rg.cpl (iG ks)))) := a5M hQ fun c hc => hplc c (List.mem_of_mem_take hc)
  have hql := hqi.len hf
  have hsu : ((iG ks).take (i + 1)).foldl (qT rg) (bfs o rg.cpl 1100 0 (jX o rg.cpl (iG ks))) = qT rg (((iG ks).take i).foldl (qT rg) (bfs o rg.cpl 1100 0 (jX o rg.cpl (iG ks)))) (gU (iG ks) i) := by
   rw [lP _ i (by omega), gh]
   rfl
  generalize ((iG ks).take i).foldl (qT rg) (bfs o rg.cpl 1100 0 (jX o rg.cpl (iG ks))) = Q at *
  have hd8 := hf.dlen
  obtain ⟨d, hd⟩ : ∃ d : Nat, (gU (iG ks) i).1.toNat = d := ⟨_, rfl⟩
  have hwd : IntKind.wrap .u64 (gU (iG ks) i).1 = ((d : Nat) : Int) := by rw [nH _ (by omega) (by omega)]; omega
  have e1 := a1k rg.off d hr.2.2.2.2
  have e2 := zW (rg.off >>> d) (tN _ hr.2.2.2.2)
  have e3 := tb rg.off d
  simp (disch := omega) only [↓RA, RZ, simprocAttr, hn, g18, g20, (hS5.ax 2 rfl kH).idx, (hS5.ax 2 rfl kH).aj, jT, q1]
  refine hS5.eNew 2 [I 0, I 0] rfl rfl rfl nR fun A3 H6 hS6 => ?_
  simp only [RT] at hS6
  simp (disch := omega) only [↓RA, RZ, simprocAttr, hn, q1]
  refine hS6.aa 4 rfl [I (gU (iG ks) i).1, I (gU (iG ks) i).2] rfl rfl nR (by simp) fun H7 hS7 => ?_
  simp only [RT] at hS7
  simp (disch := omega) only [↓RA, RZ, simprocAttr, hn, g4, hS7.ld 1 rfl, hS7.ld 4 rfl, q1, e1, e2, hwd]
  refine jB (fun q2 => ?_) (fun q2 => ?_)
  ·have hb : rg.off.testBit (gU (iG ks) i).1.toNat = false := by rw [hd, e3]; exact decide_eq_false (by omega)
   simp (disch := omega) only [↓RA, RZ, simprocAttr, hn, g8, hS7.aj 4 rfl, q1, q2]
   refine hS7.cF (a1R ov Q (hS7.ax 3 rfl kH) (by omega) (gU (iG ks) i)) fun H8 hS8 => ?_
   simp (disch := omega) only [↓RA, RZ, simprocAttr, hn, q1, q2]
   refine jD (fun q3 => ?_) (fun q3 => ?_)
   ·have hs : qT rg Q (gU (iG ks) i) = Q ++ [gU (iG ks) i] := by unfold qT; rw [if_pos (by rw [hb]; simpa using q3)]
    simp (disch := omega) only [↓RA, RZ, simprocAttr, hn, g8, hS8.aj 4 rfl, q1, q2, q3]
    refine hS8.ae [I (gU (iG ks) i).1, I (gU (iG ks) i).2] qM a2k rfl rfl (by simp [Value.cells]) rfl rfl (by decide) (by decide) fun w1 H9 hS9 => ?_
    simp only [RT] at hS9
    simp (disch := omega) only [↓RA, RZ, simprocAttr, hn, q1, q2, q3]
    refine hS9.aq 3 rfl (hS9.rd 5 rfl) qM (by rw [hK]; simp; omega) fun w2 H10 hS10 => ?_
    simp only [RT] at hS10
    simp (disch := omega) only [↓RA, RZ, simprocAttr, hn, g4, g6, g18, g19, g20, q1, q2, q3]
    refine ⟨n - 1, by omega, i + 1, w2, by omega, by simp, rfl, ?_⟩
    rw [hsu, hs, jE]
    exact hS10.pick [0, 1, 2, 3] (by decide) rfl
   have hs : qT rg Q (gU (iG ks) i) = Q := by unfold qT; rw [if_neg (by rw [hb]; simpa using q3)]
   simp (disch := omega) only [↓RA, RZ, simprocAttr, hn, g4, g6, g18, g19, g20, g8, q1, q2, q3]
   refine ⟨n - 1, by omega, i + 1, ov, by omega, by simp, rfl, ?_⟩
   rw [hsu, hs]
   exact hS8.pick [0, 1, 2, 3] (by decide) rfl
  have hb : rg.off.testBit (gU (iG ks) i).1.toNat = true := by rw [hd, e3]; exact decide_eq_true (by omega)
  have hs : qT rg Q (gU (iG ks) i) = Q := by unfold qT; rw [if_neg (by rw [hb]; simp)]
  simp (disch := omega) only [↓RA, RZ, simprocAttr, hn, g4, g6, g18, g19, g20, g8, q1, q2]
  refine ⟨n - 1, by omega, i + 1, ov, by omega, by simp, rfl, ?_⟩
  rw [hsu, hs]
  exact hS7.pick [0, 1, 2, 3] (by decide) rfl
 simp (disch := omega) only [↓RA, RZ, simprocAttr, hn, g8, q1]
 have hii : i = (iG ks).length := by omega
 rw [hii, eo] at hS5
 have hqn : Que o ((iG ks).foldl (qT rg) (bfs o rg.cpl 1100 0 (jX o rg.cpl (iG ks)))) := a5M hQ hplc
 have hql := hqn.len hf
 refine c1O hS5 3 rfl (by omega) (b9O hf hqn) fun HS hSS => ?_
 simp only [List.set_cons_succ, fE] at hSS
 simp (disch := omega) only [↓RA, RZ, simprocAttr, hn, g8, c4K, q1]
 exact hSS.pick [3] (by decide) rfl
end Go.Ds
namespace Go.Ds
open Go.Proofs
variable {H : Heap}
set_option maxRecDepth 10000
set_option maxHeartbeats 1000000
end Go.Ds
namespace Go.Ds
open Go.Proofs Go.Proofs.Tryz
variable {H : Heap}
set_option maxRecDepth 100000
set_option maxHeartbeats 1000000
def a9A (r : Rs) (n : Int) : Bool := match r with
 | .ok (.tuple vs) _ => (match vs.toList with
   | [.int .u64 a, .int .u64 b] => decide (a = 0) && decide (b = n)
   | _ => false)
 | .th (.tuple vs) _ => (match vs.toList with
   | [.int .u64 a, .int .u64 b] => decide (a = 0) && decide (b = n)
   | _ => false)
 | _ => false
theorem c0B : (sJ prog [168, 201, 202] .e fun T => [(25 : Int)].all fun n => a9A (lY T (zI prog T 4000) [] (kE 168) [.int .u64 1, .int .u64 n] gH) n) = true := by kernel_rfl
theorem b4o {T : LT} (hT : TOk prog T) {k : FuncId} {args : List Value} {n : Int} (h : a9A (lY T (zI prog T 4000) [] (kE k) args gH) n = true) : Fn prog k args gH fun r _ => r = .tuple #[.int .u64 0, .int .u64 n] := by
 have hv : ∀ (vs : Array Value), (match vs.toList with
  | [.int .u64 a, .int .u64 b] => decide (a = 0) && decide (b = n)
  | _ => false) = true → Value.tuple vs = .tuple #[.int .u64 0, .int .u64 n] := by
  intro vs h
  split at h
  ·rename_i a b e
   rw [cS, decide_eq_true_eq, decide_eq_true_eq] at h
   obtain ⟨rfl, rfl⟩ := h
   congr 1
   exact gB e
  ·cases h
 unfold a9A at h
 split at h
 ·rename_i vs H1 e
  rw [← hv vs h]
  exact lN hT (.inl e)
 ·rename_i vs H1 e
  rw [← hv vs h]
  exact lN hT (.inr e)
 ·cases h
theorem b4t (hG : Glob gH H) : Fn prog 168 [.int .u64 1, .int .u64 25] H fun r H' => r = .tuple #[.int .u64 0, .int .u64 25] ∧ St prog H H' [] := by
 obtain ⟨T, hT, h⟩ := pJ (ps := [(25 : Int)]) (f := fun T n => a9A (lY T (zI prog T 4000) [] (kE 168) [.int .u64 1, .int .u64 n] gH) n) c0B
 exact qO (by simp [flat, iT, iP]) rfl (b4o hT (h 25 (by simp))) hG
theorem qE (c z : Value) : ∀ (m x n : Nat), x + m ≤ n → iQ (List.replicate x c ++ List.replicate (n - x) z) x (List.replicate m c) = List.replicate (x + m) c ++ List.replicate (n - (x + m)) z := by
 intro m x n h
 have e : List.replicate (n - x) z = List.replicate m z ++ List.replicate (n - (x + m)) z := by
  rw [List.replicate_append_replicate]; congr 1; omega
 have := mF (List.replicate m c) (List.replicate x c) (List.replicate (n - x) z) (by simp; omega)
 rw [eJ] at this
 rw [this, List.replicate_append_replicate]
 congr 1
 simp
 omega
theorem a8m {H : Heap} {v : Value} {cs : List Value} (h : RdAt H v 1 cs) (h0 : cs ≠ []) : pU v 1 0 cs.length = v := by
 rcases h with ⟨rfl, rfl⟩ | ⟨A, i, e, row, ty, rw, lo', ver, n, h1, h2, h3, h4, h5, h6, rfl⟩
 ·exact (h0 rfl).elim
 ·simp [pU, h6]
theorem St.cg {P : Program} {H0 : Base} {os : List Ob} (hS : St P H0 H os) (i : Nat) {v : Value} {cs : List Value} (ho : os[i]? = some ⟨v, 1, cs⟩) {x : Value} {ys : List Value} (hx : RdAt H x 1 ys) (h0 : 0 < cs.length) (hy : 0 < ys.length) {t : TypeId} (ht : iK P t = some 1) {K : Value → Heap → Prop}
 (h : ∀ H1, St P H0 H1 (os.set i ⟨v, 1, iQ cs 0 (ys.take (min ys.length cs.length))⟩) → K (.int .i64 ((min ys.length cs.length : Nat) : Int)) H1) : a3d P H t v x K := by
 have e := a8m (hS.rd (size := 0) i ho) (by intro e; simp [e] at h0)
 have := hS.bH i ho hx 0 cs.length (by omega) h0 hy ht h
 rwa [e] at this
theorem b4j (hG : Glob gH H) {c : Int} (v : Value) (hv : Sl 1 (one I) H v [c]) : Fn prog 122 [v, I 25] H fun r H' => St prog H H' [⟨r, 1, List.replicate 25 (I c)⟩] := by
 have h1 : (([c] : List Int).length : Int) = 1 := rfl
 refine .aG func122 rfl (by kernel_rfl) (m := 48) rfl fun l hn g0 g1 => ?_
 simp (disch := omega) only [↓RA, RZ, simprocAttr, hn, g0, g1, ((sR H).sl hv).len]
 refine (sR H).cF (b4t ((sR H).gl hG)) fun H1 hS1 => ?_
 simp (disch := omega) only [↓RA, RZ, simprocAttr, hn]
 refine hS1.bY 25 c4m (by omega) fun w H2 hS2 => ?_
 simp only [RT] at hS2
 simp (disch := omega) only [↓RA, RB, simprocAttr, hn, g0]
 refine hS2.cg 0 rfl (hS2.sl hv).rd (by simp) (by simp [one]) c0j fun H3 hS3 => ?_
 have e1 : min ([c].flatMap (one I)).length (List.replicate 25 (Value.int .i64 0)).length = 1 := by simp [one]
 rw [e1] at hS3 ⊢
 have e2 := qE (I c) (.int .i64 0) 1 0 25 (by omega)
 simp only [List.replicate_zero, eW, Nat.sub_zero, fU] at e2
 have hS4 : St prog H H3 [⟨w, 1, List.replicate 1 (I c) ++ List.replicate (25 - 1) (.int .i64 0)⟩] := by
  rw [← e2]
  exact hS3
 simp (disch := omega) only [↓RA, RB, simprocAttr, hn]
 have e3 : ∀ x : Nat, List.replicate x (I c) ++ List.replicate (25 - x) (.int .i64 0) = (List.replicate x (c : Int) ++ List.replicate (25 - x) 0).flatMap (one I) := fun x => by
  rw [wA, dM, List.map_replicate, List.map_replicate]
 refine Wp.al (fun n l H' => l.length = 48 ∧ get l 4 = (.slice none 0 0) ∧ ∃ (x : Nat), (n + x = 25 ∧ 1 ≤ x) ∧ get l 8 = I x ∧ get l 7 = w ∧ St prog H H' [⟨w, 1, (List.replicate x (c : Int) ++ List.replicate (25 - x) 0).flatMap (one I)⟩]) 24 ?_ ?_
 ·simp (disch := omega) only [RB, RC, simprocAttr, hn]
  rw [e3] at hS4
  exact ⟨1, ⟨by omega, by omega⟩, rfl, hS4⟩
 rintro n l H2 ⟨hn, g4, x, ⟨hx,hx1⟩, g8, g7, hS2⟩
 have hln : (List.replicate x (c : Int) ++ List.replicate (25 - x) 0).length = 25 := by simp; omega
 simp (disch := omega) only [↓RA, RZ, simprocAttr, hn, g8, g7, (hS2.ax 0 rfl (fun _ => rfl)).len, hln]
 refine gT (fun q1 => ?_) (fun q1 => ?_)
 ·simp (disch := omega) only [↓RA, RC, simprocAttr, q1]
  refine Wp.drw jU (by kernel_rfl) ?_
  simp (disch := omega) only [↓RA, RZ, simprocAttr, hn, g8, g7, (hS2.ax 0 rfl (fun _ => rfl)).aP, (hS2.ax 0 rfl (fun _ => rfl)).aQ, hln]
  have hxt : ((25 : Int) - (x : Int)).toNat = 25 - x := by omega
  rw [hxt]
  have hlc : ((List.replicate x (c : Int) ++ List.replicate (25 - x) 0).flatMap (one I)).length = 25 := by rw [wA, dY, hln]
  have hrd := hS2.rd 0 rfl
  have hsub := hrd.sub 0 x (by rw [hlc]; omega) (by intro e; rw [e] at hlc; simp at hlc)
  have e5 : (((List.replicate x (c : Int) ++ List.replicate (25 - x) 0).flatMap (one I)).drop (0 * (0 + 1))).take (x * (0 + 1)) = List.replicate x (I c) := by
   rw [← e3]
   simp []
  rw [e5] at hsub
  refine hS2.bH 0 rfl hsub x (25 - x) (by rw [hlc]; omega) (by omega) (by simp; omega) c0j fun H4 hS5 => ?_
  have e6 : (List.replicate x (I c)).take (min (List.replicate x (I c)).length (25 - x)) = List.replicate (min x (25 - x)) (I c) := by simp
  rw [e6] at hS5
  have e7 : min (List.replicate x (I c)).length (25 - x) = min x (25 - x) := by simp
  rw [e7]
  have e8 := qE (I c) (.int .i64 0) (min x (25 - x)) x 25 (by omega)
  have hS6 : St prog H H4 [⟨w, 1, (List.replicate (x + min x (25 - x)) (c : Int) ++ List.replicate (25 - (x + min x (25 - x))) 0).flatMap (one I)⟩] := by
   rw [← e3, ← e8, e3]
   exact hS5
  simp (disch := omega) only [↓RA, RZ, simprocAttr, hn, g4, g7]
  exact ⟨25 - (x + min x (25 - x)), by omega, x + min x (25 - x), ⟨by omega, by omega⟩, by simp, hS6⟩
 simp (disch := omega) only [↓RA, RZ, simprocAttr, hn, g7, c2x, q1]
 have e : x = 25 := by omega
 subst e
 have hfin : ((List.replicate 25 (c : Int) ++ List.replicate (25 - 25) 0).flatMap (one I)) = List.replicate 25 (I c) := by rw [← e3]; rfl
 have h9 := hS2
 rw [hfin] at h9
 exact h9
end Go.Ds
namespace Go.Ds
open Go.Proofs
variable {H : Heap}
set_option maxRecDepth 10000
set_option maxHeartbeats 1000000
section
variable (w1 w2 w3 w4 w5 w6 w7 : Value)
def a7U (x : Int × Int) : List (Int × Int) → List (Int × Int)
 | [] => [x]
 | y :: l => if le2 x y then x :: y :: l else y :: a7U x l
def a7Q : List (Int × Int) → List (Int × Int)
 | [] => []
 | x :: l => a7U x (a7Q l)
theorem zG (x : Int × Int) : ∀ l, (a7U x l).Perm (x :: l)
 | [] => .refl _
 | y :: l => by
   unfold a7U
   split
   ·exact .refl _
   ·exact ((zG x l).cons y).trans (.swap ..)
theorem a2Q : ∀ l, (a7Q l).Perm l
 | [] => .refl _
 | x :: l => (zG x _).trans ((a2Q l).cons x)
theorem b0U (x y : Int × Int) : le2 x y = false → le2 y x = true := by
 intro h
 rw [← ec] at h
 rw [mP] at h ⊢
 omega
theorem zL (x : Int × Int) : ∀ l : List (Int × Int), l.Pairwise (fun a b => le2 a b = true) → (a7U x l).Pairwise fun a b => le2 a b = true
 | [], _ => by simp [a7U]
 | y :: l, h => by
   have h1 := gD.1 h
   unfold a7U
   split
   ·rename_i hxy
    refine gD.2 ⟨fun z hz => ?_, h⟩
    rcases dJ.1 hz with rfl | hz
    ·exact hxy
    ·have h2 := h1.1 z hz
     rw [mP] at *
     omega
   ·rename_i hxy
    refine gD.2 ⟨fun z hz => ?_, zL x l h1.2⟩
    rcases dJ.1 ((zG x l).mem_iff.1 hz) with rfl | hz
    ·exact b0U _ _ (by simpa using hxy)
    ·exact h1.1 z hz
theorem zH : ∀ l : List (Int × Int), (a7Q l).Pairwise fun a b => le2 a b = true
 | [] => .nil
 | x :: l => zL x _ (zH l)
theorem b3a : sP = a7Q := by
 funext l
 refine List.Perm.eq_of_pairwise (le := fun a b => le2 a b = true) (fun a b _ _ h1 h2 => ?_) (rA l) (zH l) ((lZ l).trans (a2Q l).symm)
 rw [mP] at h1 h2
 exact fT (by omega) (by omega)
def c0f (s : List Ct → List Ct) (o : Org) (r : Reg) (l : List Ct) : List Ct := dd (s (l.filter (fun c => !r.off.testBit c.1.toNat) ++ bfs o r.cpl 1100 0 (jX o r.cpl l)))
def b9M (s : List Ct → List Ct) (rs : List Rk) (p : Stp) (key : Int) : List Ct := dd (s (((a9o p key).filter fun d => xV rs d key).map fun d => oF rs d key))
def b9T (s : List Ct → List Ct) (o : Org) (r : Reg) (c : Ct) : List Ct := (List.range (gU o.dvs c.1.toNat).stops.length).flatMap fun i => if (gU r.stops c.1.toNat).testBit i then b9M s o.ranks (gU (gU o.dvs c.1.toNat).stops i) c.2 else []
end
end Go.Ds
namespace Go.Ds
open Go.Proofs Go.Proofs.Tryz
variable {H : Heap}
set_option maxRecDepth 10000
set_option maxHeartbeats 1000000
theorem a3c (hG : Glob gH H) (s : ByteArray) : Fn prog 84 [.string s] H fun r H' => ∃ wv, r = .agg #[.string s, .string ⟨#[102, 108, 117, 116, 101]⟩, I 8, I 1, I 36, wv] ∧ St prog H H' [⟨wv, 1, List.replicate 25 (I 1)⟩] := by
 refine .aR func84 rfl (by kernel_rfl) (m := 8) rfl fun l hn g0 => ?_
 simp (disch := omega) only [↓RA, RZ, simprocAttr]
 refine (sR H).eNew 6 [(.string ⟨#[]⟩), (.string ⟨#[]⟩), I 0, I 0, I 0, (.slice none 0 0)] rfl rfl rfl wT fun A1 H1 hS1 => ?_
 simp only [RT] at hS1
 simp (disch := omega) only [↓RA, RB, simprocAttr, g0, sT]
 refine hS1.ae [I 1] a0N a5H rfl rfl (by simp [Value.cells]) rfl rfl (by decide) (by decide) fun w1 H2 hS2 => ?_
 simp only [RT] at hS2
 simp (disch := omega) only [↓RA, RZ, simprocAttr, hn]
 refine iB ((b4j (hS2.gl hG) w1 (hS2.ax 1 rfl (fun _ => rfl))).tr) ?_
 rintro r H3 ⟨-, hT1⟩
 have hS3 := hS2.trans hT1
 simp only [RT] at hS3
 obtain ⟨wv, rfl⟩ : ∃ w, w = r := ⟨r, rfl⟩
 simp (disch := omega) only [↓RA, RB, simprocAttr, hn, a0D (hS3.rd 2 rfl).cells]
 refine hS3.aa 0 rfl [(.string s), (.string ⟨#[102, 108, 117, 116, 101]⟩), I 8, I 1, I 36, wv] rfl (by simp [OC, (hS3.rd 2 rfl).cells.2.1]) wT (by simp) fun H4 hS4 => ?_
 simp only [RT] at hS4
 simp (disch := omega) only [↓RA, RZ, simprocAttr, hn, c4X, hS4.aj 0 rfl]
 exact ⟨wv, rfl, hS4.pick [2] (by decide) rfl⟩
theorem a2T (n feet shift : Int) : Fn prog 83 [I n, I feet, I shift] H fun r H' => ∃ dv gv, St prog H H' [⟨dv, 2, [I n, I shift]⟩, ⟨gv, 3, [I 36, I 48, dv]⟩, ⟨r, 4, [.string ⟨#[97]⟩, I feet, I 1, gv]⟩] := by
 refine .bA func83 rfl (by kernel_rfl) (m := 17) rfl fun l hn g0 g1 g2 => ?_
 simp (disch := omega) only [↓RA, RB, simprocAttr, hn, g0, g1, g2, sT, pI]
 refine (sR H).ae [I n, I shift] a3b a3g rfl rfl (by simp [Value.cells]) rfl rfl (by decide) (by decide) fun w1 H1 hS1 => ?_
 simp only [RT] at hS1
 simp (disch := omega) only [↓RA, RB, simprocAttr, hn, kV (hS1.rd 0 rfl).cells]
 refine hS1.ae [I 36, I 48, w1] oS uS rfl rfl (by first | (simp []; done) | simp [Value.cells]) (by first | (simp []; done) | simp [Value.cells]) (by simp [OC, (hS1.rd 0 rfl).cells.2.1]) (by decide) (by decide) fun w2 H2 hS2 => ?_
 simp only [RT] at hS2
 simp (disch := omega) only [↓RA, RB, simprocAttr, hn, a6P (hS2.rd 1 rfl).cells]
 refine hS2.ae [(.string ⟨#[97]⟩), I feet, I 1, w2] b4L b8r rfl rfl (by first | (simp []; done) | simp [Value.cells]) (by first | (simp []; done) | simp [Value.cells]) (by simp [OC, (hS2.rd 1 rfl).cells.2.1]) (by decide) (by decide) fun w3 H3 hS3 => ?_
 simp only [RT] at hS3
 simp (disch := omega) only [↓RA, RB, simprocAttr, hn, c3R]
 exact ⟨w1, w2, hS3⟩
def exE (w1 w2 : Value) (d1 g1 s1 d2 g2 s2 : Value) (w3 w4 w5 : Value) : Org := ⟨⟨#[101]⟩, w3, [⟨⟨#[114]⟩, ⟨#[102, 108, 117, 116, 101]⟩, 8, 1, 36, w1, List.replicate 25 1⟩, ⟨⟨#[115]⟩, ⟨#[102, 108, 117, 116, 101]⟩, 8, 1, 36, w2, List.replicate 25 1⟩], w4,
 [⟨⟨#[111, 110, 101]⟩, false, 36, 48, s1, [⟨⟨#[97]⟩, 8, 1, g1, [⟨36, 48, d1, [⟨0, 0⟩]⟩]⟩]⟩, ⟨⟨#[116, 119, 111]⟩, false, 36, 48, s2, [⟨⟨#[97]⟩, 4, 1, g2, [⟨36, 48, d2, [⟨1, 12⟩]⟩]⟩]⟩], w5, [⟨⟨#[99]⟩, 0, 1, 0, false⟩]⟩
theorem a4M (hG : Glob gH H) : Fn prog 41 [] H fun r H' => ∃ w1 w2 d1 g1 s1 d2 g2 s2 w3 w4 w5, r = .agg #[.string (exE w1 w2 d1 g1 s1 d2 g2 s2 w3 w4 w5).name, w3, w4, w5] ∧ (exE w1 w2 d1 g1 s1 d2 g2 s2 w3 w4 w5).In H' ∧ St prog H H' [] := by
 refine .cI func41 rfl (by kernel_rfl) (m := 19) rfl fun l hn => ?_
 simp (disch := omega) only [↓RA, RZ, simprocAttr]
 refine (sR H).eNew 4 [(.string ⟨#[]⟩), (.slice none 0 0), (.slice none 0 0), (.slice none 0 0)] rfl rfl rfl mT fun A1 H1 hS1 => ?_
 simp only [RT] at hS1
 simp (disch := omega) only [↓RA, RZ, simprocAttr, a3i]
 refine hS1.eNew 2 [I 0, I 0] rfl rfl rfl sC fun A2 H2 hS2 => ?_
 simp only [RT] at hS2
 simp (disch := omega) only [↓RA, RB, simprocAttr, hn]
 refine hS2.aa 1 rfl [I 36, I 48] rfl rfl sC (by simp) fun H3 hS3 => ?_
 simp only [RT] at hS3
 simp (disch := omega) only [↓RA, RB, simprocAttr]
 refine Wp.cb jU [0, 1, 4, 5, 8, 9, 2, 3, 6, 7, 10, 11, 12, 13, 14, 15] [0, 1, 6, 7, 2, 3, 8, 9, 4, 5, 10, 11, 12, 13, 14, 15] ⟨true, [36], []⟩ [(7, 0), (7, 1), (7, 2), (7, 4), (7, 6), (9, 0), (9, 1), (9, 2), (9, 4), (9, 6)] (by kernel_rfl) (by kernel_rfl) (by kernel_rfl) ?_
 simp (disch := omega) only [↓RA, RZ, simprocAttr]
 refine iB (a3c (hS3.gl hG) _) ?_
 rintro r H4 ⟨wv1, rfl, hT1⟩
 have hS4 := hS3.trans hT1
 simp only [RT] at hS4
 simp (disch := omega) only [↓RA, RZ, simprocAttr]
 refine iB (a3c (hS4.gl hG) _) ?_
 rintro r H5 ⟨wv2, rfl, hT2⟩
 have hS5 := hS4.trans hT2
 simp only [RT] at hS5
 simp (disch := omega) only [↓RA, RZ, simprocAttr, hn]
 refine iB (a2T 0 8 0) ?_
 rintro r H6 ⟨d1, g1, hT3⟩
 have hS6 := hS5.trans hT3
 simp only [RT] at hS6
 obtain ⟨s1, rfl⟩ : ∃ w, w = r := ⟨r, rfl⟩
 simp (disch := omega) only [↓RA, RZ, simprocAttr, hn]
 refine iB (a2T 1 4 12) ?_
 rintro r H7 ⟨d2, g2, hT4⟩
 have hS7 := hS6.trans hT4
 simp only [RT] at hS7
 obtain ⟨s2, rfl⟩ : ∃ w, w = r := ⟨r, rfl⟩
 simp (disch := omega) only [↓RA, RB, simprocAttr, hn]
 refine hS7.ae [(.string ⟨#[114]⟩), (.string ⟨#[102, 108, 117, 116, 101]⟩), I 8, I 1, I 36, wv1, (.string ⟨#[115]⟩), (.string ⟨#[102, 108, 117, 116, 101]⟩), I 8, I 1, I 36, wv2] c0K c2X rfl rfl (by first | (simp []; done) | simp [Value.cells]) (by first | (simp []; done) | simp [Value.cells]) (by simp [OC, (hS7.rd 2 rfl).cells.2.1, (hS7.rd 3 rfl).cells.2.1]) (by decide) (by decide) fun w1 H8 hS8 => ?_
 simp only [RT] at hS8
 simp (disch := omega) only [↓RA, RZ, simprocAttr, hn, hS8.aj 1 rfl, a0a (hS8.rd 6 rfl).cells, a0a (hS8.rd 9 rfl).cells]
 refine hS8.ae [(.string ⟨#[111, 110, 101]⟩), (.bool false), I 36, I 48, s1, (.string ⟨#[116, 119, 111]⟩), (.bool false), I 36, I 48, s2] c1b c3d rfl rfl (by first | (simp []; done) | simp [Value.cells]) (by first | (simp []; done) | simp [Value.cells]) (by simp [OC, (hS8.rd 6 rfl).cells.2.1, (hS8.rd 9 rfl).cells.2.1]) (by decide) (by decide) fun w2 H9 hS9 => ?_
 simp only [RT] at hS9
 simp (disch := omega) only [↓RA, RB, simprocAttr, hn, a4P]
 refine hS9.ae [(.string ⟨#[99]⟩), I 0, I 1, I 0, (.bool false)] a9m b7R rfl rfl (by simp [Value.cells]) rfl rfl (by decide) (by decide) fun w3 H10 hS10 => ?_
 simp only [RT] at hS10
 simp (disch := omega) only [↓RA, RB, simprocAttr, hn, a4k (hS10.rd 10 rfl).cells (hS10.rd 11 rfl).cells (hS10.rd 12 rfl).cells]
 refine hS10.aa 0 rfl [(.string ⟨#[101]⟩), w1, w2, w3] rfl (by simp [OC, (hS10.rd 10 rfl).cells.2.1, (hS10.rd 11 rfl).cells.2.1, (hS10.rd 12 rfl).cells.2.1]) mT (by simp) fun H11 hS11 => ?_
 simp only [RT] at hS11
 simp (disch := omega) only [↓RA, RZ, simprocAttr, hn, hS3.aj 1 rfl, hS4.aj 1 rfl, hS5.aj 1 rfl, hS6.aj 1 rfl, hS7.aj 1 rfl, c4E, hS11.aj 0 rfl]
 have h1 : Sl 1 (one I) H11 wv1 (List.replicate 25 1) := hS11.ax 2 rfl (fun _ => rfl)
 have h2 : Sl 1 (one I) H11 wv2 (List.replicate 25 1) := hS11.ax 3 rfl (fun _ => rfl)
 have h3 : Sl 2 Drw.cells H11 d1 [⟨0, 0⟩] := hS11.ax 4 rfl (fun _ => rfl)
 have h4 : Sl 3 Seg.cells H11 g1 [⟨36, 48, d1, [⟨0, 0⟩]⟩] := hS11.ax 5 rfl (fun _ => rfl)
 have h5 : Sl 4 Stp.cells H11 s1 [⟨⟨#[97]⟩, 8, 1, g1, [⟨36, 48, d1, [⟨0, 0⟩]⟩]⟩] := hS11.ax 6 rfl (fun _ => rfl)
 have h6 : Sl 2 Drw.cells H11 d2 [⟨1, 12⟩] := hS11.ax 7 rfl (fun _ => rfl)
 have h7 : Sl 3 Seg.cells H11 g2 [⟨36, 48, d2, [⟨1, 12⟩]⟩] := hS11.ax 8 rfl (fun _ => rfl)
 have h8 : Sl 4 Stp.cells H11 s2 [⟨⟨#[97]⟩, 4, 1, g2, [⟨36, 48, d2, [⟨1, 12⟩]⟩]⟩] := hS11.ax 9 rfl (fun _ => rfl)
 have h9 : Sl 6 Rk.cells H11 w1 (exE wv1 wv2 d1 g1 s1 d2 g2 s2 w1 w2 w3).ranks := hS11.ax 10 rfl (fun _ => rfl)
 have h10 : Sl 5 Dvn.cells H11 w2 (exE wv1 wv2 d1 g1 s1 d2 g2 s2 w1 w2 w3).dvs := hS11.ax 11 rfl (fun _ => rfl)
 have h11 : Sl 5 Cpl.cells H11 w3 (exE wv1 wv2 d1 g1 s1 d2 g2 s2 w1 w2 w3).cpls := hS11.ax 12 rfl (fun _ => rfl)
 refine ⟨wv1, wv2, d1, g1, s1, d2, g2, s2, w1, w2, w3, rfl, ⟨h9, ?_, h10, ?_, h11, by simp [exE], by simp [exE], by simp [exE]⟩, hS11.forget⟩
 ·intro r hr
  simp only [exE, dJ, eu, or_false] at hr
  rcases hr with rfl | rfl
  ·exact ⟨h1, by simp⟩
  ·exact ⟨h2, by simp⟩
 ·intro d hd
  simp only [exE, dJ, eu, or_false] at hd
  rcases hd with rfl | rfl
  ·exact ⟨h5, fun s hs => by rw [dC.1 hs]; exact ⟨h4, fun g hg => by rw [dC.1 hg]; exact ⟨h3, by simp⟩, by simp⟩, by simp⟩
  ·exact ⟨h8, fun s hs => by rw [dC.1 hs]; exact ⟨h7, fun g hg => by rw [dC.1 hg]; exact ⟨h6, by simp⟩, by simp⟩, by simp⟩
section
variable (w1 w2 d1 g1 s1 d2 g2 s2 w3 w4 w5 : Value)
theorem b6S (off : Nat) (h : off < 2) : pY (exE w1 w2 d1 g1 s1 d2 g2 s2 w3 w4 w5) ⟨[1, 1], 1, off⟩ = 0 := by
 rcases (by omega : off = 0 ∨ off = 1) with rfl | rfl
 ·kernel_rfl
 ·kernel_rfl
theorem b5a : oK (exE w1 w2 d1 g1 s1 d2 g2 s2 w3 w4 w5) [iY [40], (0, 0)] = 0 := by kernel_rfl
theorem b8g : mG (exE w1 w2 d1 g1 s1 d2 g2 s2 w3 w4 w5) ⟨[1, 1], 1, 0⟩ (iG [iY [40], (0, 0)]) = [(0, 40), (1, 40)] := by
 unfold mG
 rw [b3a]
 kernel_rfl
end
theorem b7G (v : Value) (k : FuncId) : Fn prog 120 [v, I 0, I 1, .func (.func k) #[] #[]] H fun r H' => r = .tuple #[] ∧ St prog H H' [] := by
 refine .cJ func120 rfl (by kernel_rfl) (m := 53) rfl fun l hn g0 g1 g2 g3 => ?_
 simp (disch := omega) only [↓RA, RB, simprocAttr, hn, g1]
 refine Wp.al (fun n l H' => l.length = 53 ∧ get l 8 = I 1 ∧ get l 2 = I 1 ∧ St prog H H' []) 1 ?_ ?_
 ·simp (disch := omega) only [RB, RC, simprocAttr, hn, g2]
  exact (sR H)
 rintro n l H9 ⟨hn, g8, g2, hS9⟩
 simp (disch := omega) only [↓RA, RZ, simprocAttr, hn, g8, g2, c1H]
 first | exact hS9 | exact ⟨rfl, hS9⟩
theorem a8b (v : Value) (k : FuncId) : Fn prog 82 [v, I 1, .func (.func k) #[] #[]] H fun r H' => r = .tuple #[] ∧ St prog H H' [] := by
 refine .bA func82 rfl (by kernel_rfl) (m := 63) rfl fun l hn g0 g1 g2 => ?_
 simp (disch := omega) only [↓RA, RB, simprocAttr, hn]
 refine Wp.al (fun n l H' => l.length = 63 ∧ get l 0 = v ∧ get l 1 = I 1 ∧ get l 2 = .func (.func k) #[] #[] ∧ get l 6 = I 20 ∧ get l 7 = I 0 ∧ get l 8 = I 20 ∧ St prog H H' []) 1 ?_ ?_
 ·simp (disch := omega) only [RB, RC, simprocAttr, hn, g0, g1, g2]
  exact (sR H)
 rintro n l H9 ⟨hn, g0, g1, g2, g6, g7, g8, hS9⟩
 simp (disch := omega) only [↓RA, RZ, simprocAttr, hn, g0, g1, g2, g7, g8]
 refine (sR H9).cF (b7G v k) fun H1 hS1 => ?_
 simp (disch := omega) only [↓RA, simprocAttr]
 have hS8 := hS9.trans hS1
 refine Wp.al (fun n l H' => l.length = 63 ∧ get l 1 = I 1 ∧ get l 6 = I 20 ∧ St prog H H' []) 1 ?_ ?_
 ·simp (disch := omega) only [RB, RC, simprocAttr, hn, g1, g6]
  exact hS8
 rintro n l H7 ⟨hn, g1, g6, hS7⟩
 simp (disch := omega) only [↓RA, RZ, simprocAttr, hn, g1, g6, c3P]
 first | exact hS7 | exact ⟨rfl, hS7⟩
def a6U (x : Ct × Int) : List Value := [I x.1.1, I x.1.2, I x.2]
theorem a5k (v : Value) (x : Ct × Int) (hv : Sl 3 a6U H v [x]) (k : FuncId) : Fn prog 38 [v, .func (.func k) #[] #[]] H fun r H' => r = .tuple #[] ∧ St prog H H' [] := by
 have h1 : (([x] : List (Ct × Int)).length : Int) = 1 := rfl
 refine .aG func38 rfl (by kernel_rfl) (m := 9) rfl fun l hn g0 g1 => ?_
 simp (disch := omega) only [↓RA, RZ, simprocAttr, hn, g0, g1, ((sR H).sl hv).len]
 refine (sR H).cF (a8b v k) fun H1 hS1 => ?_
 simp (disch := omega) only [↓RA, RZ, simprocAttr, c3X]
 first | exact hS1 | exact ⟨rfl, hS1⟩
theorem b0o (hG : Glob gH H) : Fn prog 78 [.agg #[I 8, I 1], .agg #[I 8, I 1]] H fun r H' => r = .tuple #[I 0, I 0] ∧ St prog H H' [] := by
 have h := a0w hG (a := (8, 1)) (b := (8, 1)) (by simp [kK]) (by simp [lG])
 rw [show shF (8, 1) (8, 1) = 0 from by kernel_rfl] at h
 exact h.mono fun _ _ h => ⟨h.1.1, h.2⟩
def a6D (o : Org) (p : Ct) : Ct × Int := (p, (gU o.ranks p.1.toNat).first + p.2 + 0)
theorem a7d (hG : Glob gH H) (o : Org) (ho : o.In H) (rg : Reg) (sv : Value) (hr : rg.In H sv) (kv : Value) (ks : List Nt) (hk : Ks H kv ks) (h0 : rkE o rg ks = 0) (i m : Nat) (hsp : a2r o rg ks = [((i : Int), (m : Int))]) (hi : i < o.ranks.length) (hm : m < 1000)
 (hf : (gU o.ranks i).num = 8 ∧ (gU o.ranks i).den = 1 ∧ -1000 ≤ (gU o.ranks i).first ∧ (gU o.ranks i).first ≤ 1000) :
 Fn prog 36 [.agg #[.string o.name, o.rv, o.dv, o.cv], .agg #[sv, .int .u64 rg.cpl, .int .u64 rg.off], kv] H fun r H' => ∃ hv, r = .tuple #[hv, I 0] ∧ St prog H H' [⟨hv, 3, a6U (a6D o ((i : Int), (m : Int)))⟩] := by
 obtain ⟨f1, f2, f3, f4⟩ := hf
 refine .bA func36 rfl (by kernel_rfl) (m := 61) rfl fun l hn g0 g1 g2 => ?_
 simp (disch := omega) only [↓RA, RB, simprocAttr, g0]
 refine (sR H).eNew 4 [(.string o.name), o.rv, o.dv, o.cv] rfl rfl (by simp [OC, ((sR H).sl ho.1).cells.2.1, ((sR H).sl ho.2.2.1).cells.2.1, ((sR H).sl ho.2.2.2.2.1).cells.2.1]) mT fun A1 H1 hS1 => ?_
 simp only [RT] at hS1
 simp (disch := omega) only [↓RA, RB, simprocAttr, g1]
 refine hS1.eNew 3 [sv, (.int .u64 rg.cpl), (.int .u64 rg.off)] rfl rfl (by simp [OC, (hS1.sl hr.1).cells.2.1]) qP fun A2 H2 hS2 => ?_
 simp only [RT] at hS2
 simp (disch := omega) only [↓RA, RZ, simprocAttr, hn, g2, hS2.aj 0 rfl, hS2.aj 1 rfl]
 refine iB (zM (hS2.gl hG) o (ho.ai hS2) rg sv (hr.ai hS2) kv ks (hk.ai hS2)) ?_
 rintro r H3 ⟨pv, rfl, hx, hT1⟩
 have hS3 := hS2.trans hT1
 simp only [RT] at hS3
 rw [h0]
 rw [hsp] at hx
 have hl1 : (([((i : Int), (m : Int))] : List Ct).length : Int) = 1 := rfl
 have hS0 := hS3
 have ho2 := ho.ai hS0
 have hG2 := hS0.gl hG
 simp (disch := omega) only [↓RA, RZ, simprocAttr, hn, ((sR H3).sl hx.1).len]
 have hS4 := (sR H3).nil 2
 simp only [RT] at hS4
 refine Wp.al (fun n l H' => l.length = 61 ∧ get l 3 = (ptr A1 0 4) ∧ get l 6 = (.slice none 0 0) ∧ get l 7 = I 0 ∧ get l 26 = pv ∧ ∃ (j : Nat) (ov : Value), (n + j = 1) ∧ get l 28 = I j ∧ get l 10 = ov ∧ get l 27 = I 1 ∧ St prog H3 H' [⟨ov, 3, ([a6D o ((i : Int), (m : Int))].take j).flatMap a6U⟩]) 1 ?_ ?_
 ·simp (disch := omega) only [RB, RC, simprocAttr, hn]
  exact ⟨0, .slice none 0 0, by omega, rfl, rfl, hS4⟩
 rintro n l H4 ⟨hn, g3, g6, g7, g26, j, ov, hj, g28, sQ, g27, hS5⟩
 simp (disch := omega) only [↓RA, RB, simprocAttr, hn, g28, g27]
 refine gT (fun q1 => ?_) (fun q1 => ?_)
 ·have hj0 : j = 0 := by omega
  have hn0 : gU ([((i : Int), (m : Int))] : List Ct) j = ((i : Int), (m : Int)) := by rw [hj0]; rfl
  simp (disch := omega) only [↓RA, RZ, simprocAttr, hn, g26, g28, (hS5.sl hx.1).idx, (hS5.sl hx.1).aj, jT, q1, hn0]
  refine hS5.eNew 2 [I 0, I 0] rfl rfl rfl vV fun A3 H5 hS6 => ?_
  simp only [RT] at hS6
  simp (disch := omega) only [↓RA, RZ, simprocAttr, hn, q1]
  refine hS6.aa 1 rfl [I i, I m] rfl rfl vV (by simp) fun H6 hS7 => ?_
  simp only [RT] at hS7
  simp (disch := omega) only [↓RA, RZ, simprocAttr, hn, g3, ((hS0.var 0 rfl).ai hS7.ai).ld, hS7.ld 1 rfl, (hS7.sl ho2.1).idx, (hS7.sl ho2.1).aj, Rk.cells, q1]
  refine hS7.eNew 6 [(.string ⟨#[]⟩), (.string ⟨#[]⟩), I 0, I 0, I 0, (.slice none 0 0)] rfl rfl rfl wT fun A4 H7 hS8 => ?_
  simp only [RT] at hS8
  simp (disch := omega) only [↓RA, RZ, simprocAttr, hn, q1]
  refine hS8.aa 2 rfl [(.string (gU o.ranks i).name), (.string (gU o.ranks i).tone), I (gU o.ranks i).num, I (gU o.ranks i).den, I (gU o.ranks i).first, (gU o.ranks i).wv] rfl (by simp [OC, (hS8.sl (ho2.2.1 (gU o.ranks i) (gX (by omega))).1).cells.2.1]) wT (by simp) fun H8 hS9 => ?_
  simp only [RT] at hS9
  simp (disch := omega) only [↓RA, RZ, simprocAttr, hn, hS9.aj 2 rfl, sT, q1]
  rw [f1, f2]
  refine hS9.cF (b0o (hS9.gl hG2)) fun H9 hS10 => ?_
  simp (disch := omega) only [↓RA, RZ, simprocAttr, hn, sQ, hS10.aj 1 rfl, hS10.ld 2 rfl, hS10.ld 1 rfl, a5E, q1]
  refine hS10.ae [I i, I m, _] b9P c2y rfl rfl (by simp [Value.cells]) rfl rfl (by decide) (by decide) fun w1 H10 hS11 => ?_
  simp only [RT] at hS11
  simp (disch := omega) only [↓RA, RZ, simprocAttr, hn, q1]
  refine hS11.aq 0 rfl (hS11.rd 3 rfl) b9P (by rw [hj0]; simp) fun w2 H11 hS12 => ?_
  simp only [RT] at hS12
  simp (disch := omega) only [↓RA, RZ, simprocAttr, hn, g3, g6, g7, g26, g28, g27, q1]
  refine ⟨0, by omega, 1, w2, by omega, by rw [hj0]; rfl, rfl, ?_⟩
  have h9 := hS12.pick (os' := [⟨w2, 3, _⟩]) [0] (by decide) rfl
  rw [hj0] at h9
  exact h9
 have hj1 : j = 1 := by omega
 simp (disch := omega) only [↓RA, RZ, simprocAttr, hn, sQ, q1]
 have hnt := (hS5.ax (cel := a6U) (xs := [a6D o ((i : Int), (m : Int))].take j) 0 rfl (fun _ => rfl)).bL
 refine hS5.cF (a5k ov (a6D o ((i : Int), (m : Int))) (by have h := hS5.ax (cel := a6U) (xs := [a6D o ((i : Int), (m : Int))].take j) 0 rfl (fun _ => rfl); rw [hj1] at h; exact h) 79) fun H12 hS13 => ?_
 simp (disch := omega) only [↓RA, RZ, simprocAttr, hn, sQ, c3O, q1, hnt]
 refine ⟨ov, rfl, ?_⟩
 have hfin := hS13
 rw [hj1] at hfin
 exact hS0.forget.trans hfin
theorem a1r (v w : Value) (xs ys : List Ct) (hv : Sl 2 jT H v xs) (hw : Sl 2 jT H w ys) (hl : xs.length < 1000000000) (hl2 : ys.length < 1000000000) :
 Fn prog 16 [v, w] H fun r H' => r = .bool (decide (xs = ys)) ∧ St prog H H' [] := by
 refine .aG func16 rfl (by kernel_rfl) (m := 26) rfl fun l hn g0 g1 => ?_
 simp (disch := omega) only [↓RA, RZ, simprocAttr, hn, g0, g1, ((sR H).sl hv).len, ((sR H).sl hw).len]
 refine gT (fun h1 => ?_) (fun h1 => ?_)
 ·simp (disch := omega) only [↓RA, RZ, simprocAttr, hn, c0a, h1]
  exact ⟨by rw [decide_eq_false]; intro e; rw [e] at h1; exact h1 rfl, (sR H)⟩
 simp (disch := omega) only [↓RA, RZ, simprocAttr, hn, g0, ((sR H).sl hv).len, h1]
 refine Wp.al (fun n l H' => l.length = 26 ∧ get l 0 = v ∧ get l 1 = w ∧ get l 12 = I xs.length ∧ ∃ (j : Nat), (n + j = xs.length ∧ ∀ q, q < j → gU xs q = gU ys q) ∧ get l 13 = I j ∧ St prog H H' []) xs.length ?_ ?_
 ·simp (disch := omega) only [RB, RC, simprocAttr, hn, g0, g1]
  exact ⟨0, ⟨by omega, fun q hq => absurd hq (dF _)⟩, rfl, (sR H)⟩
 rintro n l H1 ⟨hn, g0, g1, g12, j, ⟨hj,hz⟩, g13, hS1⟩
 simp (disch := omega) only [↓RA, RB, simprocAttr, hn, g12, g13]
 refine gT (fun q1 => ?_) (fun q1 => ?_)
 ·simp (disch := omega) only [↓RA, RZ, simprocAttr, hn, g13, q1]
  refine Wp.drw jU (by kernel_rfl) ?_
  simp (disch := omega) only [↓RA, RZ, simprocAttr, hn, g0, g1, (hS1.sl hv).idx, (hS1.sl hv).aj, jT, (hS1.sl hw).idx, (hS1.sl hw).aj]
  refine gT (fun q2 => ?_) (fun q2 => ?_)
  ·simp (disch := omega) only [↓RA, RZ, simprocAttr, hn, c0a, q2]
   refine ⟨?_, hS1⟩
   rw [decide_eq_false]
   intro e
   rw [e] at q2
   exact q2 ⟨rfl, rfl⟩
  have q3 := dA.1 q2
  simp (disch := omega) only [↓RA, RZ, simprocAttr, hn, g0, g1, g12, g13, q2]
  exact ⟨n - 1, by omega, j + 1, ⟨by omega, fun q hq => by rcases de.1 hq with e | e; (· exact hz q e); (· rw [e]; exact fT q3.1 q3.2)⟩, by simp, hS1⟩
 simp (disch := omega) only [↓RA, RZ, simprocAttr, hn, c0a, q1]
 exact ⟨by rw [decide_eq_true]; exact vC (by omega) fun q hq => hz q (by omega), hS1⟩
theorem b4O (a b c : Int) : iA prog (part 70 #[I a, I b, I c] 0) = some (.agg #[I a, I b]) := by kernel_rfl
theorem b8m (a b c : Int) : iA prog (part 3 #[I a, I b, I c] 2) = some (I c) := by kernel_rfl
theorem c1N (x y : Ct × Int) : iA prog (Op.equalIn (9999 + 1) 94 (.agg [I x.1.1, I x.1.2, I x.2].toArray) (.agg [I y.1.1, I y.1.2, I y.2].toArray)) = some (decide (x = y)) := by
 have h52 : iA prog (Op.equalIn (9997 + 2) 70 (.agg [I x.1.1, I x.1.2].toArray) (.agg [I y.1.1, I y.1.2].toArray)) = some ((List.range [I x.1.1, I x.1.2].length).all fun j => eqC ([I x.1.1, I x.1.2].getD j undef) ([I y.1.1, I y.1.2].getD j undef)) :=
  wS 9997 (by kernel_rfl) (by kernel_rfl) (by kernel_rfl) rfl (by kernel_rfl)
 rw [a5w (fs := sO prog 94) (by kernel_rfl) (by kernel_rfl) (fun f => if f.offset = 0 then decide (x.1 = y.1) else decide (x.2 = y.2))]
 ·congr 1
  have hfl : (sO prog 94).map (·.offset) = [0, 2] := by kernel_rfl
  have e : (sO prog 94).all (fun f => if f.offset = 0 then decide (x.1 = y.1) else decide (x.2 = y.2)) = ((sO prog 94).map (·.offset)).all fun n => if n = 0 then decide (x.1 = y.1) else decide (x.2 = y.2) := by
   rw [List.all_map]
   rfl
  rw [e, hfl, dP]
  simp [Prod.ext_iff]
 ·intro f hf
  have hfs : (sO prog 94).map (fun f => (f.name != "_", f.type, f.offset)) = [(true, 70, 0), (true, 3, 2)] := by kernel_rfl
  have hm : (f.name != "_", f.type, f.offset) ∈ [(true, 70, 0), (true, 3, 2)] := by
   rw [← hfs]
   exact fA hf
  simp only [dJ, eu, or_false, gy] at hm
  rcases hm with ⟨h1, h2, h3⟩ | ⟨h1, h2, h3⟩
  ·refine ⟨by simpa using h1, ?_⟩
   rw [h2, h3, if_pos rfl, gY, b4O, cT, gY, b4O, cT]
   refine h52.trans ?_
   congr 1
   show ((x.1.1 == y.1.1) && ((x.1.2 == y.1.2) && true)) = _
   rw [dP]
   first | done | simp [Prod.ext_iff]
  ·refine ⟨by simpa using h1, ?_⟩
   rw [h2, h3, if_neg (by decide), gY, b8m, cT, gY, b8m, cT]
   exact eq1 (P := prog) (t := 3) 9998 (by kernel_rfl)
theorem c1T (x y : Ct × Int) (t2 : TypeId) (cx cy : Bool) : kQ prog .neq 94 t2 cx cy (.agg #[I x.1.1, I x.1.2, I x.2]) (.agg #[I y.1.1, I y.1.2, I y.2]) = some (.bool (decide (¬ x = y))) := by
 have h := a5R (t2 := t2) (cx := cx) (cy := cy) (decide (x = y)) (by kernel_rfl) (by rfl) (by rfl) (c1N x y)
 rw [h]
 simp
theorem a8j (v w : Value) (xs ys : List (Ct × Int)) (hv : Sl 3 a6U H v xs) (hw : Sl 3 a6U H w ys) (hl : xs.length < 1000000000) (hl2 : ys.length < 1000000000) :
 Fn prog 40 [v, w] H fun r H' => r = .bool (decide (xs = ys)) ∧ St prog H H' [] := by
 refine .aG func40 rfl (by kernel_rfl) (m := 26) rfl fun l hn g0 g1 => ?_
 simp (disch := omega) only [↓RA, RZ, simprocAttr, hn, g0, g1, ((sR H).sl hv).len, ((sR H).sl hw).len]
 refine gT (fun h1 => ?_) (fun h1 => ?_)
 ·simp (disch := omega) only [↓RA, RZ, simprocAttr, hn, b9I, h1]
  exact ⟨by rw [decide_eq_false]; intro e; rw [e] at h1; exact h1 rfl, (sR H)⟩
 simp (disch := omega) only [↓RA, RZ, simprocAttr, hn, g0, ((sR H).sl hv).len, h1]
 refine Wp.al (fun n l H' => l.length = 26 ∧ get l 0 = v ∧ get l 1 = w ∧ get l 12 = I xs.length ∧ ∃ (j : Nat), (n + j = xs.length ∧ ∀ q, q < j → gU xs q = gU ys q) ∧ get l 13 = I j ∧ St prog H H' []) xs.length ?_ ?_
 ·simp (disch := omega) only [RB, RC, simprocAttr, hn, g0, g1]
  exact ⟨0, ⟨by omega, fun q hq => absurd hq (dF _)⟩, rfl, (sR H)⟩
 rintro n l H1 ⟨hn, g0, g1, g12, j, ⟨hj,hz⟩, g13, hS1⟩
 simp (disch := omega) only [↓RA, RB, simprocAttr, hn, g12, g13]
 refine gT (fun q1 => ?_) (fun q1 => ?_)
 ·have hne := fun t2 cx cy => c1T (gU xs j) (gU ys j) t2 cx cy
  simp (disch := omega) only [↓RA, RZ, simprocAttr, hn, g13, q1]
  refine Wp.drw jU (by kernel_rfl) ?_
  simp (disch := omega) only [↓RA, RZ, simprocAttr, hn, g0, g1, (hS1.sl hv).idx, (hS1.sl hv).aj, a6U, (hS1.sl hw).idx, (hS1.sl hw).aj, hne]
  refine gT (fun q2 => ?_) (fun q2 => ?_)
  ·simp (disch := omega) only [↓RA, RZ, simprocAttr, hn, b9I, q2]
   refine ⟨?_, hS1⟩
   rw [decide_eq_false]
   intro e
   rw [e] at q2
   exact q2 rfl
  have q3 := dA.1 q2
  simp (disch := omega) only [↓RA, RZ, simprocAttr, hn, g0, g1, g12, g13, q2]
  exact ⟨n - 1, by omega, j + 1, ⟨by omega, fun q hq => by rcases de.1 hq with e | e; (· exact hz q e); (· rw [e]; exact q3)⟩, by simp, hS1⟩
 simp (disch := omega) only [↓RA, RZ, simprocAttr, hn, b9I, q1]
 exact ⟨by rw [decide_eq_true]; exact vC (by omega) fun q hq => hz q (by omega), hS1⟩
theorem a2y (o : Org) (r : Reg) (l : List Ct) : a8d o r l = dd (a7Q ((c0f a7Q o r l).flatMap (b9T a7Q o r))) := by
 rw [← b3a]
 rfl
section
variable (w1 w2 d1 g1 s1 d2 g2 s2 w3 w4 w5 : Value)
theorem a1D (off : Nat) (h : off < 2) : rkE (exE w1 w2 d1 g1 s1 d2 g2 s2 w3 w4 w5) ⟨[1, 1], 1, off⟩ [iY [40], (0, 0)] = 0 := by
 unfold rkE
 rw [b6S _ _ _ _ _ _ _ _ _ _ _ off h, if_neg (by decide), b5a]
theorem b2E : a5q (exE w1 w2 d1 g1 s1 d2 g2 s2 w3 w4 w5) ⟨[1, 1], 1, 0⟩ [iY [40], (0, 0)] = [(0, 40), (1, 40)] := by
 unfold a5q
 rw [a1D _ _ _ _ _ _ _ _ _ _ _ 0 (by decide), if_pos rfl, b8g]
theorem b3r : a2r (exE w1 w2 d1 g1 s1 d2 g2 s2 w3 w4 w5) ⟨[1, 1], 1, 0⟩ [iY [40], (0, 0)] = [(0, 4), (1, 16)] := by
 unfold a2r
 rw [a1D _ _ _ _ _ _ _ _ _ _ _ 0 (by decide), if_pos rfl, a2y]
 kernel_rfl
theorem b4V : a2r (exE w1 w2 d1 g1 s1 d2 g2 s2 w3 w4 w5) ⟨[1, 1], 1, 1⟩ [iY [40], (0, 0)] = [(1, 16)] := by
 unfold a2r
 rw [a1D _ _ _ _ _ _ _ _ _ _ _ 1 (by decide), if_pos rfl, a2y]
 kernel_rfl
end
theorem a4a (hG : Glob gH H) : Fn prog 41 [] H fun r H' => ∃ o : Org, r = .agg #[.string o.name, o.rv, o.dv, o.cv] ∧ (∃ w1 w2 d1 g1 s1 d2 g2 s2 w3 w4 w5, o = exE w1 w2 d1 g1 s1 d2 g2 s2 w3 w4 w5) ∧ o.In H' ∧ St prog H H' [] := by
 obtain ⟨h1, v, H1, h2, w1, w2, d1, g1, s1, d2, g2, s2, w3, w4, w5, h3, h4, h5⟩ := a4M hG
 exact ⟨h1, v, H1, h2, _, h3, ⟨w1, w2, d1, g1, s1, d2, g2, s2, w3, w4, w5, rfl⟩, h4, h5⟩
theorem a0K (hG : Glob gH H) : Fn prog 10 [] H fun r H' => r = .bool true ∧ St prog H H' [] := by
 refine .cI func10 rfl (by kernel_rfl) (m := 80) rfl fun l hn => ?_
 simp (disch := omega) only [↓RA, RZ, simprocAttr]
 refine iB (a4a ((sR H).gl hG)) ?_
 rintro r H1 ⟨o, rfl, ⟨v1, v2, v3, v4, v5, v6, v7, v8, v9, v10, v11, hoe⟩, ho, hT1⟩
 have hS1 := (sR H).trans hT1
 simp only [RT] at hS1
 have q1 : rkE o ⟨[1, 1], 1, 0⟩ [iY [40], (0, 0)] = 0 := by subst hoe; exact a1D _ _ _ _ _ _ _ _ _ _ _ 0 (by decide)
 have q2 : rkE o ⟨[1, 1], 1, 1⟩ [iY [40], (0, 0)] = 0 := by subst hoe; exact a1D _ _ _ _ _ _ _ _ _ _ _ 1 (by decide)
 have q3 : a5q o ⟨[1, 1], 1, 0⟩ [iY [40], (0, 0)] = [(0, 40), (1, 40)] := by subst hoe; exact b2E _ _ _ _ _ _ _ _ _ _ _
 have q4 : a2r o ⟨[1, 1], 1, 0⟩ [iY [40], (0, 0)] = [(0, 4), (1, 16)] := by subst hoe; exact b3r _ _ _ _ _ _ _ _ _ _ _
 have q5 : a2r o ⟨[1, 1], 1, 1⟩ [iY [40], (0, 0)] = [(1, 16)] := by subst hoe; exact b4V _ _ _ _ _ _ _ _ _ _ _
 have q6 : o.ranks.length = 2 ∧ (gU o.ranks 1).num = 8 ∧ (gU o.ranks 1).den = 1 ∧ (gU o.ranks 1).first = 36 := by subst hoe; exact ⟨rfl, rfl, rfl, rfl⟩
 clear hoe
 have hG1 : ∀ z ∈ [(40 : Int)], isN z := fun z hz => by rw [dC.1 hz]; exact ⟨by decide, by decide⟩
 have hS0 := hS1
 have hG2 := hS0.gl hG
 simp (disch := omega) only [↓RA, RZ, simprocAttr]
 refine (sR H1).eNew 4 [(.string ⟨#[]⟩), (.slice none 0 0), (.slice none 0 0), (.slice none 0 0)] rfl rfl rfl mT fun A1 H2 hS2 => ?_
 simp only [RT] at hS2
 simp (disch := omega) only [↓RA, RB, simprocAttr, hn]
 refine hS2.aa 0 rfl [(.string o.name), o.rv, o.dv, o.cv] rfl (by simp [OC, (hS2.sl ho.1).cells.2.1, (hS2.sl ho.2.2.1).cells.2.1, (hS2.sl ho.2.2.2.2.1).cells.2.1]) mT (by simp) fun H3 hS3 => ?_
 simp only [RT] at hS3
 simp (disch := omega) only [↓RA, RB, simprocAttr]
 refine hS3.ae [I 40] a0N a5H rfl rfl (by simp [Value.cells]) rfl rfl (by decide) (by decide) fun w1 H4 hS4 => ?_
 simp only [RT] at hS4
 simp (disch := omega) only [↓RA, RZ, simprocAttr, hn]
 refine hS4.cF (vM [40] hG1 w1 (hS4.ax 1 rfl (fun _ => rfl)) (by simp)) fun H5 hS5 => ?_
 have hKo : ∀ x ∈ ([iY [40], (0, 0)] : List Nt), Nt.Ok x := by
  intro x hx
  simp only [dJ, eu, or_false] at hx
  rcases hx with rfl | rfl <;> exact ⟨by decide, by decide⟩
 have hRo : (⟨[1, 1], 1, 0⟩ : Reg).Ok := ⟨by decide, by decide, by decide, by decide⟩
 have hRo1 : (⟨[1, 1], 1, 1⟩ : Reg).Ok := ⟨by decide, by decide, by decide, by decide⟩
 simp (disch := omega) only [↓RA, RZ, simprocAttr, hn]
 refine hS5.eNew 2 [(.int .u64 0), (.int .u64 0)] rfl rfl rfl lA fun A2 H6 hS6 => ?_
 simp only [RT] at hS6
 simp (disch := omega) only [↓RA, RB, simprocAttr, hn]
 refine hS6.aa 2 rfl [(.int .u64 (iY [40]).1), (.int .u64 (iY [40]).2)] rfl rfl lA (by simp) fun H7 hS7 => ?_
 simp only [RT] at hS7
 simp (disch := omega) only [↓RA, RZ, simprocAttr, hn, hS7.aj 2 rfl, b2Q]
 refine hS7.ae [(.int .u64 (iY [40]).1), (.int .u64 (iY [40]).2), (.int .u64 0), (.int .u64 0)] b3U c1h rfl rfl (by simp [Value.cells]) rfl rfl (by decide) (by decide) fun w2 H8 hS8 => ?_
 simp only [RT] at hS8
 simp (disch := omega) only [↓RA, RB, simprocAttr, hn]
 refine hS8.ae [(.int .u64 1), (.int .u64 1)] c0P c1m rfl rfl (by simp [Value.cells]) rfl rfl (by decide) (by decide) fun w3 H9 hS9 => ?_
 simp only [RT] at hS9
 simp (disch := omega) only [↓RA, RZ, simprocAttr, hn, b4g (hS9.rd 4 rfl).cells]
 refine hS9.eNew 3 [(.slice none 0 0), (.int .u64 0), (.int .u64 0)] rfl rfl rfl qP fun A3 H10 hS10 => ?_
 simp only [RT] at hS10
 simp (disch := omega) only [↓RA, RB, simprocAttr, hn]
 refine hS10.aa 5 rfl [w3, (.int .u64 1), (.int .u64 0)] rfl (by simp [OC, (hS10.rd 4 rfl).cells.2.1]) qP (by simp) fun H11 hS11 => ?_
 simp only [RT] at hS11
 simp (disch := omega) only [↓RA, RZ, simprocAttr, hn, hS11.aj 0 rfl, hS11.aj 5 rfl]
 have hS2 := hS11
 refine iB (wZ (hS11.gl hG2) o (ho.ai hS11) ⟨[1, 1], 1, 0⟩ w3 ⟨hS11.ax 4 rfl (fun _ => rfl), hRo⟩ w2 [iY [40], (0, 0)] ⟨hS11.ax 3 rfl (fun _ => rfl), by simp, hKo⟩) ?_
 rintro r H12 ⟨cv, rfl, hcx, hT3⟩
 have hS12 := hS11.trans hT3
 simp only [RT] at hS12
 rw [q3] at hcx
 rw [q1]
 have hcx2 := hcx.step (hS2.aW (H' := H12))
 obtain ⟨X, hBX, hS13⟩ := hS12.aB (os := [⟨ptr A1 0 4, 0, _⟩, ⟨w1, 1, _⟩, ⟨ptr A2 0 2, 0, _⟩, ⟨w2, 2, _⟩, ⟨w3, 1, _⟩, ⟨ptr A3 0 3, 0, _⟩])
 simp (disch := omega) only [↓RA, RZ, simprocAttr, hn, hS13.aj 0 rfl, hS13.aj 5 rfl]
 have hS3 := hS13
 refine iB (zM ((hS12.ag hBX hS13).gl hG2) o (ho.ai (hS12.ag hBX hS13)) ⟨[1, 1], 1, 0⟩ w3 ⟨hS13.ax 4 rfl (fun _ => rfl), hRo⟩ w2 [iY [40], (0, 0)] ⟨hS13.ax 3 rfl (fun _ => rfl), by simp, hKo⟩) ?_
 rintro r H13 ⟨pv, rfl, hpx, hT4⟩
 have hS14 := hS13.trans hT4
 simp only [RT] at hS14
 rw [q4] at hpx
 rw [q1]
 have hcx3 := hcx2.step (hS14.kept hBX)
 have hpx2 := hpx.step (hS3.aW (H' := H13))
 obtain ⟨Y, hBY, hS15⟩ := hS14.aB (os := [⟨ptr A1 0 4, 0, _⟩, ⟨w1, 1, _⟩, ⟨ptr A2 0 2, 0, _⟩, ⟨w2, 2, _⟩, ⟨w3, 1, _⟩, ⟨ptr A3 0 3, 0, _⟩])
 simp (disch := omega) only [↓RA, RZ, simprocAttr, hn]
 refine hS15.aa 5 rfl [(.int .u64 1)] rfl rfl b7S (by simp) fun H14 hS16 => ?_
 simp only [RT] at hS16
 simp (disch := omega) only [↓RA, RZ, simprocAttr, hn, hS16.aj 0 rfl, hS16.aj 5 rfl]
 refine iB (a7d ((hS12.ag hBX (hS14.ag hBY hS16)).gl hG2) o (ho.ai (hS12.ag hBX (hS14.ag hBY hS16))) ⟨[1, 1], 1, 1⟩ w3 ⟨hS16.ax 4 rfl (fun _ => rfl), hRo1⟩ w2 [iY [40], (0, 0)] ⟨hS16.ax 3 rfl (fun _ => rfl), by simp, hKo⟩ q2 1 16 q5 (by rw [q6.1]; decide) (by decide) ⟨q6.2.1, q6.2.2.1, by rw [q6.2.2.2]; decide, by rw [q6.2.2.2]; decide⟩) ?_
 rintro r H15 ⟨dv, rfl, hT5⟩
 have hS17 := hS16.trans hT5
 simp only [RT] at hS17
 have hcx4 := hcx3.step (hS17.kept hBY)
 have hpx4 := hpx2.step (hS17.kept hBY)
 simp (disch := omega) only [↓RA, RZ, simprocAttr, hn, pM]
 refine hS17.ae [I 0, I 40, I 1, I 40] qM a2k rfl rfl (by simp [Value.cells]) rfl rfl (by decide) (by decide) fun w4 H16 hS18 => ?_
 simp only [RT] at hS18
 simp (disch := omega) only [↓RA, RZ, simprocAttr, hn]
 refine hS18.cF (a1r cv w4 [(0, 40), (1, 40)] [(0, 40), (1, 40)] (hcx3.step (hS18.kept hBY)).1 (hS18.ax 7 rfl kH) (by simp) (by simp)) fun H17 hS19 => ?_
 rw [decide_eq_true rfl]
 simp (disch := omega) only [↓RA, RZ, simprocAttr, hn, a0U]
 refine hS19.ae [I 0, I 4, I 1, I 16] b6h c2M rfl rfl (by simp [Value.cells]) rfl rfl (by decide) (by decide) fun w5 H18 hS20 => ?_
 simp only [RT] at hS20
 simp (disch := omega) only [↓RA, RZ, simprocAttr, hn]
 refine hS20.cF (b2U pv w5 [(0, 4), (1, 16)] [(0, 4), (1, 16)] (hpx2.step (hS20.kept hBY)).1 (hS20.ax 8 rfl kH) (by simp) (by simp)) fun H19 hS21 => ?_
 rw [decide_eq_true rfl]
 simp (disch := omega) only [↓RA, RZ, simprocAttr, hn, a0U, a5E]
 refine hS21.ae [I 1, I 16, I 52] b9P c2y rfl rfl (by simp [Value.cells]) rfl rfl (by decide) (by decide) fun w6 H20 hS22 => ?_
 simp only [RT] at hS22
 simp (disch := omega) only [↓RA, RZ, simprocAttr, hn]
 have hhe : [a6D o (1, 16)] = [((1, 16), (52 : Int))] := by
  unfold a6D
  rw [show ((1, 16) : Ct).1.toNat = 1 from rfl, q6.2.2.2]
  rfl
 refine hS22.cF (a8j dv w6 [a6D o (1, 16)] [((1, 16), 52)] (hS22.ax 6 rfl (fun _ => rfl)) (hS22.ax 9 rfl (fun _ => rfl)) (by simp) (by simp)) fun H21 hS23 => ?_
 rw [decide_eq_true hhe]
 simp (disch := omega) only [↓RA, RZ, simprocAttr, hn, c3F]
 exact hS0.forget.trans (hS12.ag hBX (hS14.ag hBY hS23)).forget
theorem a0S (hG : Glob gH H) (p : Pln) (hp : p.In H) (hk : p.Ok) (b : Nat → Nat) (hb : ∀ i, b i < 256) (c : Nat → Nat) (hc : ∀ i, c i < 65536) :
 Fn prog 3 [.agg #[p.rv, p.dv, p.cv], .agg #[.int .u8 (b 0), .int .u8 (b 1), .int .u8 (b 2), .int .u8 (b 3), .int .u8 (b 4)], .agg #[.int .u16 (c 0), .int .u16 (c 1), .int .u16 (c 2)]] H fun r H' => r = .bool true ∧ St prog H H' [] := by
 refine .bA func3 rfl (by kernel_rfl) (m := 45) rfl fun l hn g0 g1 g2 => ?_
 simp (disch := omega) only [↓RA, RB, simprocAttr, g0]
 refine (sR H).eNew 3 [p.rv, p.dv, p.cv] rfl rfl (by simp [((sR H).sl hp.1).cells.2.1, ((sR H).sl hp.2.1).cells.2.1, ((sR H).sl hp.2.2.2.1).cells.2.1]) b6a fun A1 H1 hS1 => ?_
 simp only [RT] at hS1
 simp (disch := omega) only [↓RA, RB, simprocAttr, g1]
 refine hS1.eNew 5 [(.int .u8 (b 0)), (.int .u8 (b 1)), (.int .u8 (b 2)), (.int .u8 (b 3)), (.int .u8 (b 4))] rfl rfl rfl c0O fun A2 H2 hS2 => ?_
 simp only [RT] at hS2
 simp (disch := omega) only [↓RA, RB, simprocAttr, g2]
 refine hS2.eNew 3 [(.int .u16 (c 0)), (.int .u16 (c 1)), (.int .u16 (c 2))] rfl rfl rfl b9V fun A3 H3 hS3 => ?_
 simp only [RT] at hS3
 simp (disch := omega) only [↓RA, RZ, simprocAttr]
 refine hS3.cF (a0K (hS3.gl hG)) fun H4 hS4 => ?_
 simp (disch := omega) only [↓RA, RZ, simprocAttr, hn, hS4.aj 0 rfl]
 refine hS4.cF (b7u p (hp.ai hS4)) fun H5 hS5 => ?_
 simp (disch := omega) only [↓RA, RZ, simprocAttr, hn]
 refine jD (fun h1 => ?_) (fun h1 => ?_)
 ·simp (disch := omega) only [↓RA, RZ, simprocAttr]
  refine hS5.cF (a0K (hS5.gl hG)) fun H6 hS6 => ?_
  simp (disch := omega) only [↓RA, RZ, simprocAttr, hn, tR3, h1]
  exact hS6.forget
 have hf : uR p = true := by simpa using h1
 simp (disch := omega) only [↓RA, RZ, simprocAttr, hn, hS5.aj 0 rfl, h1]
 refine iB (b2k (hS5.gl hG) p (hp.ai hS5) hk hf) ?_
 rintro r H7 ⟨o, rfl, ho, hm, hT4⟩
 have hS7 := hS5.trans hT4
 simp only [RT] at hS7
 have hS0 := hS7
 have hG2 := hS0.gl hG
 have hoe := hm.ok.organE
 have hrg := b1P b hoe
 have hf0 := Org.bl hoe
 obtain ⟨k1, k2, k3⟩ := hm.small hf
 have hok := b1U (o := o) hb k2
 have hkl := rX o c
 have hkO := a6T hf0 c
 have hkE := a9h hoe c
 simp (disch := omega) only [↓RA, RZ, simprocAttr]
 refine (sR H7).eNew 4 [(.string ⟨#[]⟩), (.slice none 0 0), (.slice none 0 0), (.slice none 0 0)] rfl rfl rfl mT fun A4 H8 hS8 => ?_
 simp only [RT] at hS8
 simp (disch := omega) only [↓RA, RB, simprocAttr, hn, h1]
 refine hS8.aa 0 rfl [(.string o.name), o.rv, o.dv, o.cv] rfl (by simp [OC, (hS8.sl ho.1).cells.2.1, (hS8.sl ho.2.2.1).cells.2.1, (hS8.sl ho.2.2.2.2.1).cells.2.1]) mT (by simp) fun H9 hS9 => ?_
 simp only [RT] at hS9
 simp (disch := omega) only [↓RA, RB, simprocAttr, h1]
 refine Wp.aT jU [(3, 0), (4, 0)] (by kernel_rfl) (by kernel_rfl) ?_
 simp (disch := omega) only [↓RA, RZ, simprocAttr, hn, hS9.aj 0 rfl, ((hS0.var 1 rfl).ai hS9.ai).aj]
 have hD := a8A o (ho.ai hS9) k1 k2 k3 b hb
 generalize hrgE : tP o b = rg at hrg hok hD
 refine iB (hD) ?_
 rintro r H10 ⟨sv, rfl, hT5⟩
 have hS10 := hS9.trans hT5
 simp only [RT] at hS10
 simp (disch := omega) only [↓RA, RZ, simprocAttr, hn, hS10.aj 0 rfl, ((hS0.var 2 rfl).ai hS10.ai).aj]
 have hP := a7Y o (ho.ai hS10) hf0 c hc
 generalize hksE : oM o c = ks at hkl hkO hkE hP
 refine iB (hP.tr) ?_
 rintro r H11 ⟨-, hT6⟩
 have hS11 := hS10.trans hT6
 simp only [RT] at hS11
 obtain ⟨kv, rfl⟩ : ∃ w, w = r := ⟨r, rfl⟩
 simp (disch := omega) only [↓RA, RZ, simprocAttr]
 refine hS11.eNew 3 [(.slice none 0 0), (.int .u64 0), (.int .u64 0)] rfl rfl rfl qP fun A5 H12 hS12 => ?_
 simp only [RT] at hS12
 simp (disch := omega) only [↓RA, RB, simprocAttr, hn]
 refine hS12.aa 3 rfl [sv, (.int .u64 rg.cpl), (.int .u64 rg.off)] rfl (by simp [OC, (hS12.rd 1 rfl).cells.2.1]) qP (by simp) fun H13 hS13 => ?_
 simp only [RT] at hS13
 simp (disch := omega) only [↓RA, RZ, simprocAttr, hn, hS9.aj 0 rfl, hS13.aj 0 rfl, ((hS0.var 2 rfl).ai hS9.ai).aj, hS13.aj 3 rfl]
 have hrk : rkE o rg ks = 0 := by unfold rkE; rw [if_neg (by rw [hrg]; simp)]; exact hkE
 have hrl : rg.stops.length = o.dvs.length := (vL hrg).2
 have hplc := uH hkO hkE
 have hpll := uG hkE
 have hS1 := hS13
 refine iB (wZ (hS13.gl hG2) o (ho.ai hS13) rg sv ⟨hS13.ax 1 rfl (fun _ => rfl), hok⟩ kv ks ⟨hS13.ax 2 rfl (fun _ => rfl), by omega, hkO⟩) ?_
 rintro r H14 ⟨pv, rfl, hpx, hT7⟩
 have hS14 := hS13.trans hT7
 simp only [RT] at hS14
 rw [hrk]
 have hsp : a5q o rg ks = mG o rg (iG ks) := by unfold a5q; rw [if_pos hrk]
 rw [hsp] at hpx
 have hpx2 := hpx.step (hS1.aW (H' := H14))
 obtain ⟨X, hBX, hS15⟩ := hS14.aB (os := [⟨ptr A4 0 4, 0, _⟩, ⟨sv, 1, _⟩, ⟨kv, 2, _⟩, ⟨ptr A5 0 3, 0, _⟩])
 simp (disch := omega) only [↓RA, RZ, simprocAttr, hn, hS15.aj 0 rfl, hS15.aj 3 rfl]
 refine iB ((a2e o (ho.ai (hS14.ag hBX hS15)) hf0 rg sv ⟨hS15.ax 1 rfl (fun _ => rfl), hok⟩ kv ks ⟨hS15.ax 2 rfl (fun _ => rfl), by omega, hkO⟩ hkE).tr) ?_
 rintro r H15 ⟨-, hT8⟩
 have hS16 := hS15.trans hT8
 simp only [RT] at hS16
 obtain ⟨cv, rfl⟩ : ∃ w, w = r := ⟨r, rfl⟩
 have hpx3 := hpx2.step (hS16.kept hBX)
 have hsl := a1y hf0 (rg := rg) hpll
 simp (disch := omega) only [↓RA, RZ, simprocAttr, hn]
 refine hS16.cF (a1r pv cv (mG o rg (iG ks)) (mG o rg (iG ks)) hpx3.1 (hS16.ax 4 rfl kH) (by omega) (by omega)) fun H16 hS17 => ?_
 rw [decide_eq_true rfl]
 simp (disch := omega) only [↓RA, RZ, simprocAttr, hn, tR3]
 exact hS0.forget.trans (hS14.ag hBX hS17).forget
end Go.Ds
