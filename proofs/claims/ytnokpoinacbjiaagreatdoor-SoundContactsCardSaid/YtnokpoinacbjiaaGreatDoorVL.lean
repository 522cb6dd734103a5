/-
  A part of the proof of SoundContacts.
-/
import Derived.Test.YtnokpoinacbjiaaGreatDoorVJ
import Derived.Test.YtnokpoinacbjiaaGreatDoorVE
import Derived.Test.YtnokpoinacbjiaaGreatDoorVD
set_option linter.unusedVariables false
set_option linter.unusedSimpArgs false
set_option linter.defProp false
set_option linter.unusedSectionVars false
namespace Go.Ds
open Go.Proofs Go.ChangeShapes Go.WideShapes Go.RowKit Go.Deep
set_option maxRecDepth 10000
theorem c4l : Tryz.prog.cellsOf 28 = 1 := by kernel_rfl
theorem c3F : Tryz.prog.cellsOf 29 = 3 := by kernel_rfl
section
variable {H0 : Type} {enc : TypeId × Value → H0} {w : World} {base n : Nat} {spare : Nat → Bool} {cU : Bool} {x : DataW H0 × List MemPlace}
theorem a4o {v : Value} (h : DataW.trod enc Tryz.prog w base spare cU n 28 [v] = some x) : ∃ m : Nat, v = .int .u16 m ∧ m < 65536 := by
 obtain ⟨m, hv, _, hw⟩ := DataW.trod_int Tryz.underlying28 h
 have hv : v = .int .u16 m := by simpa using hv
 have hm : 0 ≤ m ∧ m ≤ 65535 := by simpa [Lit.wf, IntKind.min, IntKind.max, IntKind.signed, IntKind.bits] using hw
 exact ⟨m.toNat, by rw [hv, Int.toNat_of_nonneg hm.1], by omega⟩
theorem b8h {cs : List Value} (h : DataW.trod enc Tryz.prog w base spare cU n 29 cs = some x) : ∃ b : Nat → Nat, (∀ i, b i < 65536) ∧ cs = [.int .u16 (b 0), .int .u16 (b 1), .int .u16 (b 2)] := by
 obtain ⟨xs, m, _, _, hl, hxl, hf⟩ := DataW.trod_array Tryz.underlying29 h
 rw [c3F] at hl
 match cs, hl with
 | [c0, c1, c2], _ =>
   have hy : ∀ i, i < 3 → ∃ y, DataW.trod enc Tryz.prog w base spare cU m 28 ((([c0, c1, c2] : List Value).drop (i * 1)).take 1) = some y := fun i hi => by
    have := hf i hi
    rw [c4l] at this
    exact ⟨xs[i], by rw [this, List.getElem?_eq_getElem (by omega)]⟩
   obtain ⟨_, h0⟩ := hy 0 (by decide)
   obtain ⟨_, h1⟩ := hy 1 (by decide)
   obtain ⟨_, h2⟩ := hy 2 (by decide)
   obtain ⟨b0, rfl, k0⟩ := a4o h0
   obtain ⟨b1, rfl, k1⟩ := a4o h1
   obtain ⟨b2, rfl, k2⟩ := a4o h2
   exact ⟨fun i => match i with | 0 => b0 | 1 => b1 | _ => b2, fun i => by
    match i with
    | 0 => exact k0
    | 1 => exact k1
    | _ + 2 => exact k2, rfl⟩
end
section
variable {H0 : Type} {enc : TypeId × Value → H0} {w : World} {base : Nat} {cU : Bool}
theorem b9y {v0 : Value} {d0 : DataW H0} {p0 : List MemPlace} {c0 : Nat} (h0 : DataW.Trod enc Tryz.prog w base (fun _ => true) cU 29 v0 d0 p0) (hval : Value.okWide Tryz.prog w .any c0 29 v0) :
 ∃ b : Nat → Nat, (∀ i, b i < 65536) ∧ v0 = .agg #[.int .u16 (b 0), .int .u16 (b 1), .int .u16 (b 2)] := by
 simp only [Value.okWide, Tryz.underlying29] at hval
 obtain ⟨cs, rfl, _, _⟩ := hval
 obtain ⟨fuel, hf⟩ := h0
 obtain ⟨b, hb, he⟩ := b8h hf
 obtain ⟨l⟩ := cs
 have he : l = _ := he
 exact ⟨b, hb, by rw [he]⟩
end
end Go.Ds
namespace Go.Ds
open Go.Proofs
set_option maxRecDepth 10000
def xR (x y : Int × Int) : Prop := x.1 < y.1 ∨ (x.1 = y.1 ∧ x.2 < y.2)
theorem a0q {x : Int × Int} : ¬ xR x x := by unfold xR; omega
theorem a7r {x y z : Int × Int} (h : xR x y) (k : xR y z) : xR x z := by unfold xR at *; omega
theorem rI : ∀ (l m : List (Int × Int)), l.Pairwise xR → m.Pairwise xR → (∀ x, x ∈ l ↔ x ∈ m) → l = m
 | [], [], _, _, _ => rfl
 | [], b :: m, _, _, h => absurd ((h b).2 (List.mem_cons_self ..)) List.not_mem_nil
 | a :: l, [], _, _, h => absurd ((h a).1 (List.mem_cons_self ..)) List.not_mem_nil
 | a :: l, b :: m, hl, hm, h => by
   rw [List.pairwise_cons] at hl hm
   have hab : a = b := by
    rcases List.mem_cons.1 ((h a).1 (List.mem_cons_self ..)) with e | e
    ·exact e
    ·rcases List.mem_cons.1 ((h b).2 (List.mem_cons_self ..)) with e2 | e2
     ·exact e2.symm
     ·exact absurd (a7r (hm.1 a e) (hl.1 b e2)) a0q
   subst hab
   congr 1
   refine rI l m hl.2 hm.2 fun x => ?_
   constructor
   ·intro hx
    rcases List.mem_cons.1 ((h x).1 (List.mem_cons_of_mem _ hx)) with e | e
    ·subst e
     exact absurd (hl.1 x hx) a0q
    ·exact e
   ·intro hx
    rcases List.mem_cons.1 ((h x).2 (List.mem_cons_of_mem _ hx)) with e | e
    ·subst e
     exact absurd (hm.1 x hx) a0q
    ·exact e
theorem b1P {es : List (Int × Int)} (h : es.Pairwise fun a b => tS a b = true) {i j : Nat} (hij : i < j) (hj : j < es.length) : tS (aC es i) (aC es j) = true := by
 rw [cF _ _ (by omega), cF _ _ hj]
 exact List.pairwise_iff_getElem.1 h i j (by omega) hj hij
theorem a4r {es : List (Int × Int)} (h : es.Pairwise fun a b => tS a b = true) : ∀ m, m ≤ es.length → (qQ es m).Pairwise xR ∧ ∀ x, x ∈ qQ es m ↔ ∃ j, j < m ∧ aC es j = x
 | 0, _ => ⟨by simp [qQ], fun x => by simp [qQ]⟩
 | m + 1, hm => by
   obtain ⟨h1, h2⟩ := a4r h m (by omega)
   rw [jS]
   by_cases hc : m = 0 ∨ aC es m ≠ aC es (m - 1)
   ·rw [if_pos hc]
    refine ⟨?_, fun x => ?_⟩
    ·rw [List.pairwise_append]
     refine ⟨h1, by simp, fun a ha b hb => ?_⟩
     obtain ⟨j, hj, rfl⟩ := (h2 a).1 ha
     obtain rfl := List.mem_singleton.1 hb
     have h3 := (fA _ _).1 (b1P h hj (by omega))
     rcases hc with hc | hc
     ·omega
     ·by_cases he : j = m - 1
      ·subst he
       have hne : ¬ (aC es (m - 1) = aC es m) := fun e => hc e.symm
       rw [Prod.ext_iff] at hne
       unfold xR
       omega
      ·have h4 := (fA _ _).1 (b1P h (show j < m - 1 by omega) (by omega))
       have h5 := (fA _ _).1 (b1P h (show m - 1 < m by omega) (by omega))
       have hne : ¬ (aC es (m - 1) = aC es m) := fun e => hc e.symm
       rw [Prod.ext_iff] at hne
       unfold xR
       omega
    ·rw [List.mem_append, h2, List.mem_singleton]
     constructor
     ·rintro (⟨j, hj, e⟩ | e)
      ·exact ⟨j, by omega, e⟩
      ·exact ⟨m, by omega, e.symm⟩
     ·rintro ⟨j, hj, e⟩
      rcases Nat.lt_succ_iff_lt_or_eq.1 hj with e2 | e2
      ·exact .inl ⟨j, e2, e⟩
      ·subst e2
       exact .inr e.symm
   ·rw [if_neg hc, List.append_nil]
    refine ⟨h1, fun x => ?_⟩
    rw [h2]
    constructor
    ·rintro ⟨j, hj, e⟩
     exact ⟨j, by omega, e⟩
    ·rintro ⟨j, hj, e⟩
     rcases Nat.lt_succ_iff_lt_or_eq.1 hj with e2 | e2
     ·exact ⟨j, e2, e⟩
     ·subst e2
      have hc' : ¬ (j = 0) ∧ aC es j = aC es (j - 1) := ⟨fun e => hc (.inl e), Classical.byContradiction fun e => hc (.inr e)⟩
      exact ⟨j - 1, by omega, by rw [← hc'.2]; exact e⟩
theorem b7U (l : List (Int × Int)) : (dd (lW l)).Pairwise xR := (a4r (kZ l) _ (Nat.le_refl _)).1
theorem b3T {l : List (Int × Int)} {x : Int × Int} : x ∈ dd (lW l) ↔ x ∈ l := by
 unfold dd
 rw [(a4r (kZ l) _ (Nat.le_refl _)).2 x, ← (eI l).mem_iff]
 constructor
 ·rintro ⟨j, hj, rfl⟩
  exact aF hj
 ·intro hx
  obtain ⟨j, hj, e⟩ := List.mem_iff_getElem.1 hx
  exact ⟨j, hj, by rw [cF _ _ hj]; exact e⟩
end Go.Ds
namespace Go.Ds
open Go.Proofs
set_option maxRecDepth 10000
inductive Star {α : Type} (R : α → α → Prop) : α → α → Prop
 | refl (a : α) : Star R a a
 | tail {a b c : α} : Star R a b → R b c → Star R a c
theorem vJ (o : Org) (cp : Nat) (l : List Ct) : Que o (cE o cp l) := by
 unfold cE
 have h : ∀ (l : List Ct) (q : List Ct), Que o q → Que o (l.foldl (fun q c => stepF o cp false c q) q) := by
  intro l
  induction l with
  | nil => exact fun q h => h
  | cons a l ih => exact fun q h => ih _ (h.stepF cp false a)
 exact h l [] (Que.nil o)
end Go.Ds
namespace Go.Ds
open Go.Proofs
set_option maxRecDepth 10000
def IsP (o : Org) (p : Ct) : Prop := 0 ≤ p.1 ∧ p.1 < o.ranks.length ∧ 0 ≤ p.2 ∧ p.2 < (aC o.ranks p.1.toNat).wind.length
theorem IsP.small {o : Org} {H : Heap} (hf : o.Fine) (ho : o.In H) {p : Ct} (h : IsP o p) : -1000000000 ≤ p.1 ∧ p.1 ≤ 1000000000 ∧ -1000000000 ≤ p.2 ∧ p.2 ≤ 1000000000 := by
 obtain ⟨h1, h2, h3, h4⟩ := h
 have hr := (ho.2.1 _ (aF (xs := o.ranks) (j := p.1.toNat) (by omega))).2
 have := hf.rlen
 exact ⟨by omega, by omega, by omega, by omega⟩
end Go.Ds
namespace Go.Ds
open Go.Proofs
variable {H : Heap}
set_option maxRecDepth 10000
set_option maxHeartbeats 1000000
abbrev Nt := Nat × Nat
def ntc (x : Nt) : List Value := [.int .u64 x.1, .int .u64 x.2]
def Nt.Ok (x : Nt) : Prop := x.1 < 18446744073709551616 ∧ x.2 < 18446744073709551616
def kS (x : Nt) (n : Int) : Nt := if n < 64 then (x.1 ||| 2 ^ n.toNat, x.2) else (x.1, x.2 ||| 2 ^ (n - 64).toNat)
theorem a0d (i : Nat) (h : i < 64) : 2 ^ i < 18446744073709551616 := by
 have : 2 ^ i ≤ 2 ^ 63 := Nat.pow_le_pow_right (by decide) (by omega)
 have e : 2 ^ 63 = 9223372036854775808 := rfl
 omega
theorem b1r {a b : Nat} (ha : a < 18446744073709551616) (hb : b < 18446744073709551616) : a ||| b < 18446744073709551616 := Nat.or_lt_two_pow (n := 64) ha hb
theorem orB (a b : Nat) (ha : a < 18446744073709551616) (hb : b < 18446744073709551616) : IntKind.wrap .u64 ((BitVec.ofInt (IntKind.bits .u64) (a : Int) ||| BitVec.ofInt (IntKind.bits .u64) (b : Int)).toNat : Int) = ((a ||| b : Nat) : Int) := by
 have e : (BitVec.ofInt (IntKind.bits .u64) (a : Int) ||| BitVec.ofInt (IntKind.bits .u64) (b : Int)).toNat = a ||| b := by
  rw [BitVec.toNat_or, mM a ha, mM b hb]
 rw [e]
 have := b1r ha hb
 exact fP _ (by omega) (by omega)
theorem orN (n i : Nat) (hn : n < 18446744073709551616) (hi : i < 64) : IntKind.wrap .u64 ((BitVec.ofInt (IntKind.bits .u64) (n : Int) ||| BitVec.ofInt (IntKind.bits .u64) (IntKind.wrap .u64 (1 * 2 ^ min i (IntKind.bits .u64)))).toNat : Int) = ((n ||| 2 ^ i : Nat) : Int) := by
 rw [b9w i hi]
 exact orB n (2 ^ i) hn (a0d i hi)
theorem b3f {x : Nt} (hx : Nt.Ok x) {z : Int} (h0 : 0 ≤ z) (h1 : z < 128) : Nt.Ok (kS x z) := by
 unfold kS
 split
 ·exact ⟨b1r hx.1 (a0d _ (by omega)), hx.2⟩
 ·exact ⟨hx.1, b1r hx.2 (a0d _ (by omega))⟩
theorem a1t (x : Nt) (hx : Nt.Ok x) (z : Int) (h0 : 0 ≤ z) (h1 : z < 128) : Fn Tryz.prog 86 [.agg #[.int .u64 x.1, .int .u64 x.2], I z] H fun r H' => r = .agg #[.int .u64 (kS x z).1, .int .u64 (kS x z).2] ∧ St Tryz.prog H H' [] := by
 obtain ⟨m, rfl⟩ := Int.eq_ofNat_of_zero_le h0
 refine Fn.of_sw Tryz.func86 rfl (by kernel_rfl) fun l hl => ?_
 have hn : l.length = 21 := by rw [hl]; rfl
 have g0 : get l 0 = (.agg #[(.int .u64 x.1), (.int .u64 x.2)]) := by rw [hl]; rfl
 have g1 : get l 1 = I m := by rw [hl]; rfl
 clear hl
 simp (disch := omega) only [↓RA, RB, simprocAttr, g0]
 refine (St.refl Tryz.prog H).eNew 2 [(.int .u64 x.1), (.int .u64 x.2)] rfl rfl rfl dE fun A1 H1 hS1 => ?_
 simp only [RT] at hS1
 simp (disch := omega) only [↓RA, RZ, simprocAttr]
 refine hS1.eNew 2 [(.int .u64 0), (.int .u64 0)] rfl rfl rfl dE fun A2 H2 hS2 => ?_
 simp only [RT] at hS2
 simp (disch := omega) only [↓RA, RB, simprocAttr, hn, g1]
 refine aA (fun q1 => ?_) (fun q1 => ?_)
 ·have e1 := orN x.1 m hx.1 (by omega)
  have e2 : kS x (m : Int) = (x.1 ||| 2 ^ m, x.2) := by unfold kS; rw [if_pos q1]; rfl
  simp (disch := omega) only [↓RA, RC, simprocAttr, q1]
  refine Wp.drw cB (by kernel_rfl) ?_
  simp (disch := omega) only [↓RA, RZ, simprocAttr, hn, g1, hS2.ld 0 rfl, e1]
  refine hS2.eStore 0 rfl [(.int .u64 (x.1 ||| 2 ^ m : Nat))] rfl rfl b3Y (by simp) fun H3 hS3 => ?_
  simp only [RT] at hS3
  simp (disch := omega) only [↓RA, RZ, simprocAttr, hn, hS3.ldA 0 rfl]
  refine hS3.eStore 1 rfl [(.int .u64 (x.1 ||| 2 ^ m : Nat)), (.int .u64 x.2)] rfl rfl dE (by simp) fun H4 hS4 => ?_
  simp only [RT] at hS4
  simp (disch := omega) only [↓RA, RZ, simprocAttr, hn, c1T, hS4.ldA 1 rfl]
  rw [e2]
  exact ⟨rfl, hS4.forget⟩
 have e1 := orN x.2 (m - 64) hx.2 (by omega)
 have e3 : (m : Int) - 64 = ((m - 64 : Nat) : Int) := by omega
 have e2 : kS x (m : Int) = (x.1, x.2 ||| 2 ^ (m - 64)) := by unfold kS; rw [if_neg q1, e3]; rfl
 simp (disch := omega) only [↓RA, RC, simprocAttr, q1]
 refine Wp.drw cB (by kernel_rfl) ?_
 simp (disch := omega) only [↓RA, RZ, simprocAttr, hn, g1, hS2.ld 0 rfl, e1, e3]
 refine hS2.eStore 0 rfl [(.int .u64 (x.2 ||| 2 ^ (m - 64) : Nat))] rfl rfl b3Y (by simp) fun H5 hS5 => ?_
 simp only [RT] at hS5
 simp (disch := omega) only [↓RA, RZ, simprocAttr, hn, hS5.ldA 0 rfl]
 refine hS5.eStore 1 rfl [(.int .u64 x.1), (.int .u64 (x.2 ||| 2 ^ (m - 64) : Nat))] rfl rfl dE (by simp) fun H6 hS6 => ?_
 simp only [RT] at hS6
 simp (disch := omega) only [↓RA, RZ, simprocAttr, hn, c1T, hS6.ldA 1 rfl]
 rw [e2]
 exact ⟨rfl, hS6.forget⟩
end Go.Ds
namespace Go.Ds
open Go.Proofs
variable {H : Heap}
set_option maxRecDepth 10000
set_option maxHeartbeats 1000000
def bD (xs : List Int) : Nt := xs.foldl kS (0, 0)
def isN (z : Int) : Prop := 0 ≤ z ∧ z < 128
theorem nN : ∀ (xs : List Int) (x : Nt), (∀ z ∈ xs, isN z) → Nt.Ok x → Nt.Ok (xs.foldl kS x)
 | [], _, _, h => h
 | z :: xs, x, hz, h => by
   rw [List.foldl_cons]
   exact nN xs _ (fun y hy => hz y (List.mem_cons_of_mem _ hy)) (b3f h (hz z (List.mem_cons_self ..)).1 (hz z (List.mem_cons_self ..)).2)
theorem a1o (xs : List Int) {j : Nat} (hj : j < xs.length) : bD (xs.take (j + 1)) = kS (bD (xs.take j)) (aC xs j) := by
 unfold bD
 rw [List.take_add_one, List.getElem?_eq_getElem hj, Option.toList_some, List.foldl_append, ← cF _ j hj]
 rfl
theorem a7t (z : Int) (h : isN z) : Fn Tryz.prog 85 [I z] H fun r H' => r = .bool true ∧ St Tryz.prog H H' [] := by
 have h0 := h.1
 have h1 := h.2
 refine Fn.of_sw Tryz.func85 rfl (by kernel_rfl) fun l hl => ?_
 have hn : l.length = 9 := by rw [hl]; rfl
 have g0 : get l 0 = I z := by rw [hl]; rfl
 clear hl
 simp (disch := omega) only [↓RA, RZ, simprocAttr, hn, g0]
 refine bH (fun q1 => ?_) (fun q1 => ?_)
 rotate_left
 ·exfalso; first | omega | (simp at q1; omega)
 simp (disch := omega) only [↓RA, RZ, simprocAttr, hn, g0, c2X, q1]
 simpa using ⟨(by omega : z ≤ 127), (St.refl Tryz.prog H)⟩
theorem oA (xs : List Int) (hz : ∀ z ∈ xs, isN z) (v : Value) (hv : Sl 1 (one I) H v xs) (hl : xs.length < 1000000000) :
 Fn Tryz.prog 42 [v] H fun r H' => r = .tuple #[.agg #[.int .u64 (bD xs).1, .int .u64 (bD xs).2], I 0] ∧ St Tryz.prog H H' [] := by
 refine Fn.of_sw Tryz.func42 rfl (by kernel_rfl) fun l hl => ?_
 have hn : l.length = 22 := by rw [hl]; rfl
 have g0 : get l 0 = v := by rw [hl]; rfl
 clear hl
 simp (disch := omega) only [↓RA, RZ, simprocAttr]
 refine (St.refl Tryz.prog H).eNew 2 [(.int .u64 0), (.int .u64 0)] rfl rfl rfl dE fun A1 H1 hS1 => ?_
 simp only [RT] at hS1
 simp (disch := omega) only [↓RA, RZ, simprocAttr]
 refine hS1.eNew 2 [(.int .u64 0), (.int .u64 0)] rfl rfl rfl dE fun A2 H2 hS2 => ?_
 simp only [RT] at hS2
 simp (disch := omega) only [↓RA, RZ, simprocAttr, hn, g0, (hS2.sl hv).len]
 refine Wp.loopS (fun n l H' => l.length = 22 ∧ get l 2 = (ptr A1 0 2) ∧ get l 4 = (ptr A2 0 2) ∧ get l 7 = v ∧ get l 8 = I xs.length ∧ ∃ (j : Nat), (n + j = xs.length) ∧ get l 9 = I j ∧ St Tryz.prog H H' [⟨ptr A1 0 2, 0, [(.int .u64 0), (.int .u64 0)]⟩, ⟨ptr A2 0 2, 0, [.int .u64 (bD (xs.take j)).1, .int .u64 (bD (xs.take j)).2]⟩]) xs.length ?_ ?_
 ·simp (disch := omega) only [RB, RC, simprocAttr, hn]
  exact ⟨0, by omega, rfl, hS2⟩
 rintro n l H3 ⟨hn, g2, g4, g7, g8, j, hj, g9, hS3⟩
 simp (disch := omega) only [↓RA, RB, simprocAttr, hn, g8, g9]
 refine aA (fun q1 => ?_) (fun q1 => ?_)
 ·have hx := hz _ (aF (xs := xs) (j := j) (by omega))
  have hok : Nt.Ok (bD (xs.take j)) := nN _ _ (fun z h => hz z (List.mem_of_mem_take h)) ⟨by decide, by decide⟩
  simp (disch := omega) only [↓RA, RZ, simprocAttr, hn, g7, g9, (hS3.sl hv).idx, (hS3.sl hv).ld, one, q1]
  refine aB (a7t (aC xs j) hx) ?_
  rintro r H4 ⟨rfl, hT1⟩
  have hS4 := hS3.trans hT1
  simp only [RT] at hS4
  simp (disch := omega) only [↓RA, RZ, simprocAttr, hn, g4, hS4.ldA 1 rfl, q1]
  refine aB (a1t (bD (xs.take j)) hok (aC xs j) hx.1 hx.2) ?_
  rintro r H5 ⟨rfl, hT2⟩
  have hS5 := hS4.trans hT2
  simp only [RT] at hS5
  simp (disch := omega) only [↓RA, RZ, simprocAttr, hn, g4, q1]
  refine hS5.eStore 1 rfl [(.int .u64 (kS (bD (xs.take j)) (aC xs j)).1), (.int .u64 (kS (bD (xs.take j)) (aC xs j)).2)] rfl rfl dE (by simp) fun H6 hS6 => ?_
  simp only [RT] at hS6
  simp (disch := omega) only [↓RA, RZ, simprocAttr, hn, g2, g4, g7, g8, g9, q1]
  refine ⟨n - 1, by omega, j + 1, by omega, by simp, ?_⟩
  rw [a1o xs (by omega)]
  exact hS6.pick [0, 1] (by decide) rfl
 have hjj : j = xs.length := by omega
 simp (disch := omega) only [↓RA, RZ, simprocAttr, hn, g2, g4, hS3.ldA 1 rfl, q1]
 refine hS3.eStore 0 rfl [(.int .u64 (bD (xs.take j)).1), (.int .u64 (bD (xs.take j)).2)] rfl rfl dE (by simp) fun H7 hS7 => ?_
 simp only [RT] at hS7
 simp (disch := omega) only [↓RA, RZ, simprocAttr, hn, g2, c2Z, hS7.ldA 0 rfl, q1]
 rw [hjj, List.take_length]
 exact ⟨rfl, hS7.forget⟩
end Go.Ds
namespace Go.Ds
open Go.Proofs
variable {H : Heap}
set_option maxRecDepth 10000
set_option maxHeartbeats 1000000
theorem St.perm {P : Program} {H0 : Base} {os os' : List Ob} (h : St P H0 H os) (hp : os.Perm os') : St P H0 H os' where
 len := h.len
 old := h.old
 own o ho := h.own o (hp.mem_iff.2 ho)
 new o ho := h.new o (hp.mem_iff.2 ho)
 sep := (List.Perm.pairwise_iff (fun {_ _} hxy B hB hB2 => hxy B hB2 hB) hp).1 h.sep
theorem Lp.swap {P : Program} {B : Base} {L : Nat} {r : Loop} {xs ys zs : List Ob} (h : Lp P B L r H ((xs ++ ys) ++ zs)) : Lp P B L r H ((xs ++ zs) ++ ys) := by
 have hp : ((xs ++ ys) ++ zs).Perm ((xs ++ zs) ++ ys) := by
  rw [List.append_assoc, List.append_assoc]
  exact (List.perm_append_comm).append_left xs
 exact ⟨h.st.perm hp, h.get, h.lo, fun o ho => h.ne o (hp.mem_iff.2 ho)⟩
end Go.Ds
namespace Go.Ds
open Go.Proofs
variable {H : Heap}
set_option maxRecDepth 10000
set_option maxHeartbeats 1000000
end Go.Ds
namespace Go.Ds
open Go.Proofs
variable {H : Heap}
set_option maxRecDepth 10000
set_option maxHeartbeats 1000000
def tY (x : Nat) : Nat := ((List.range 64).find? fun i => x.testBit i).getD 64
theorem uP {x : Nat} (h0 : x ≠ 0) (h1 : x < 18446744073709551616) : tY x < 64 ∧ x.testBit (tY x) = true ∧ ∀ j, j < tY x → x.testBit j = false := by
 have hx : ∃ i, i < 64 ∧ x.testBit i = true := by
  refine Classical.byContradiction fun hn => h0 ?_
  refine Nat.eq_of_testBit_eq fun i => ?_
  rw [Nat.zero_testBit]
  by_cases hi : i < 64
  ·by_cases hb : x.testBit i = true
   ·exact absurd ⟨i, hi, hb⟩ hn
   ·simpa using hb
  ·exact Nat.testBit_lt_two_pow (Nat.lt_of_lt_of_le (show x < 2 ^ 64 by simpa using h1) (Nat.pow_le_pow_right (by decide) (by omega)))
 unfold tY
 cases hf : (List.range 64).find? fun i => x.testBit i with
 | none =>
   obtain ⟨i, hi, hb⟩ := hx
   have := List.find?_eq_none.1 hf i (List.mem_range.2 hi)
   exact absurd hb (by simpa using this)
 | some i =>
   obtain ⟨hb, ys, bs, he, hn⟩ := List.find?_eq_some_iff_append.1 hf
   have hi : i < 64 := List.mem_range.1 (he ▸ (by simp : i ∈ ys ++ i :: bs))
   refine ⟨hi, hb, fun j hj0 => ?_⟩
   have hj : j < i := hj0
   have hl : ys.length = i := by
    have h2 : (List.range 64)[ys.length]? = some i := by rw [he]; simp
    have h3 : ys.length < 64 := by
     have := congrArg List.length he
     simp at this
     omega
    rw [List.getElem?_range h3] at h2
    exact Option.some.inj h2
   have hm : j ∈ ys := by
    have h2 : (List.range 64)[j]? = some j := List.getElem?_range (by omega)
    rw [he, List.getElem?_append_left (by simpa using (hl ▸ hj))] at h2
    exact List.mem_of_getElem? h2
   simpa using hn j hm
theorem a0a {x : Nat} (h0 : x ≠ 0) (h1 : x < 18446744073709551616) : ∃ m, x = 2 ^ tY x * (2 * m + 1) := by
 obtain ⟨c1, c2, c3⟩ := uP h0 h1
 generalize tY x = k at c1 c2 c3
 have hd : x % 2 ^ k = 0 := by
  refine Nat.eq_of_testBit_eq fun i => ?_
  rw [Nat.testBit_mod_two_pow, Nat.zero_testBit]
  by_cases hi : i < k
  ·rw [c3 i hi, Bool.and_false]
  ·rw [decide_eq_false hi, Bool.false_and]
 have h2 : x / 2 ^ k % 2 = 1 := by
  rw [← Nat.shiftRight_eq_div_pow]
  have := c2
  rw [tb] at this
  exact of_decide_eq_true this
 refine ⟨x / 2 ^ k / 2, ?_⟩
 have h3 := Nat.div_add_mod x (2 ^ k)
 have h4 := Nat.div_add_mod (x / 2 ^ k) 2
 rw [hd, Nat.add_zero] at h3
 rw [← h3]
 congr 1
 rw [h3]
 omega
theorem b4q {x : Nat} (h0 : x ≠ 0) (h1 : x < 18446744073709551616) : x &&& (18446744073709551616 - x) = 2 ^ tY x := by
 obtain ⟨m, hm⟩ := a0a h0 h1
 obtain ⟨c1, _, _⟩ := uP h0 h1
 generalize tY x = k at hm c1
 have e64 : (18446744073709551616 : Nat) = 2 ^ k * (2 * 2 ^ (63 - k)) := by
  have : 2 ^ k * (2 * 2 ^ (63 - k)) = 2 ^ 64 := by rw [← Nat.pow_succ', ← Nat.pow_add]; congr 1; omega
  rw [this]
 have hml : m < 2 ^ (63 - k) := by
  rw [e64, hm] at h1
  have := Nat.lt_of_mul_lt_mul_left h1
  omega
 have e2 : 18446744073709551616 - x = 2 ^ k * (2 * (2 ^ (63 - k) - (m + 1)) + 1) := by
  rw [e64, hm, ← Nat.mul_sub]
  congr 1
  omega
 rw [e2, hm]
 refine Nat.eq_of_testBit_eq fun i => ?_
 rw [Nat.testBit_and, Nat.testBit_two_pow]
 have hs : ∀ y : Nat, (2 ^ k * y).testBit i = (decide (k ≤ i) && y.testBit (i - k)) := fun y => by rw [Nat.mul_comm, Nat.testBit_mul_two_pow]
 rw [hs, hs]
 by_cases hi : k ≤ i
 ·rw [decide_eq_true hi, Bool.true_and, Bool.true_and]
  by_cases he : i = k
  ·subst he
   rw [Nat.sub_self, Nat.testBit_zero, Nat.testBit_zero]
   simp
  ·obtain ⟨j, hj⟩ : ∃ j, i - k = j + 1 := ⟨i - k - 1, by omega⟩
   rw [hj, Nat.testBit_succ, Nat.testBit_succ, show (2 * m + 1) / 2 = m by omega, show (2 * (2 ^ (63 - k) - (m + 1)) + 1) / 2 = 2 ^ (63 - k) - (m + 1) by omega, Nat.testBit_two_pow_sub_succ hml, decide_eq_false (by omega : ¬ k = i)]
   cases m.testBit j <;> simp
 ·rw [decide_eq_false hi, Bool.false_and, decide_eq_false (by omega)]
  rfl
theorem c1r : ((List.range 64).all fun k => decide (2 ^ k * 285870213051353865 % 18446744073709551616 / 288230376151711744 < 64) && decide (t64.getD (2 ^ k * 285870213051353865 % 18446744073709551616 / 288230376151711744) 99 = k)) = true := by kernel_rfl
theorem b1a {P : Program} {t : TypeId} {n : Nat} {elem : TypeId} {size : Nat} (ha : P.underlying t = some (.array n elem)) (hs : aE P elem = some size) (A i : Nat) (k : IntKind) (j : Int) (h0 : 0 ≤ j) (h1 : j < n) :
 oT (aQ P t) P t (.pointer (some ⟨A, i, none⟩)) (.int k j) = some (.pointer (some ⟨A, i + j.toNat * size, none⟩)) := by
 have hn : aQ P t = none := by simp [aQ, aH, ha]
 rw [hn]
 simp only [oT, uQ, ha, hs, Option.bind_some]
 rw [if_pos (by simp [h0, h1])]
theorem b7K (k : IntKind) (j : Int) (h0 : 0 ≤ j) (h1 : j < 64) : oT (aQ Tryz.prog 251) Tryz.prog 251 (.pointer (some ⟨0, 0, none⟩)) (.int k j) = some (.pointer (some ⟨0, 0 + j.toNat * 1, none⟩)) :=
 b1a (n := 64) (elem := 5) (size := 1) (by kernel_rfl) (by kernel_rfl) 0 0 k j h0 h1
theorem a8p (g : Nat) (l : List Value) (K : Value → Prop) : bI (.global g) l K = K (.pointer (some ⟨g, 0, none⟩)) := by simp [bI, aM, ev]
theorem gld (hG : Glob gH H) (j : Nat) (hj : j < 64) (s : Option Nat) : hK (some false) s H (.pointer (some ⟨0, j, none⟩)) = some (.int .u8 (t64.getD j 0 : Nat)) := by
 have h0 : aR H 0 = some (.cells (t64.map fun (n : Nat) => Value.int .u8 (.ofNat n)) 5 false 0 1) := by
  rw [hG.same 0 (by decide)]
  rfl
 simp only [hK, bB, h0]
 have hl : (t64.map fun (n : Nat) => Value.int .u8 (.ofNat n)).length = 64 := by rw [List.length_map]; rfl
 rw [if_pos (by rw [hl]; simp; omega)]
 simp only [Option.bind_some]
 rw [List.getElem?_take_of_lt (by omega), List.getElem?_drop, Nat.add_zero, List.getElem?_map, List.getElem?_eq_getElem (show j < t64.length from hj)]
 rw [Option.map_some, List.getD_eq_getElem?_getD, List.getElem?_eq_getElem (show j < t64.length from hj)]
 rfl
theorem a5t (m : Int) : IntKind.wrap .u64 m = m % 18446744073709551616 := by
 show (if (false && decide (m % 18446744073709551616 ≥ 9223372036854775808)) = true then m % 18446744073709551616 - 18446744073709551616 else m % 18446744073709551616) = _
 simp
theorem c2f (hG : Glob gH H) (x : Nat) (h0 : x ≠ 0) (h1 : x < 18446744073709551616) : Fn Tryz.prog 136 [.int .u64 x] H fun r H' => r = I (tY x) ∧ St Tryz.prog H H' [] := by
 obtain ⟨c1, _, _⟩ := uP h0 h1
 have hd := List.all_eq_true.1 c1r (tY x) (List.mem_range.2 c1)
 rw [Bool.and_eq_true, decide_eq_true_eq, decide_eq_true_eq] at hd
 have eA : IntKind.wrap .u64 (0 - (x : Int)) = ((18446744073709551616 - x : Nat) : Int) := by
  rw [a5t]
  omega
 have eB : IntKind.wrap .u64 ((BitVec.ofInt (IntKind.bits .u64) (x : Int) &&& BitVec.ofInt (IntKind.bits .u64) ((18446744073709551616 - x : Nat) : Int)).toNat : Int) = ((2 ^ tY x : Nat) : Int) := by
  rw [BitVec.toNat_and, mM x h1, mM _ (by omega), b4q h0 h1]
  exact fP _ (by omega) (by have := a0d (tY x) c1; omega)
 have eC : IntKind.wrap .u64 (((2 ^ tY x : Nat) : Int) * 285870213051353865) = ((2 ^ tY x * 285870213051353865 % 18446744073709551616 : Nat) : Int) := by
  rw [a5t]
  rfl
 have eD : ((2 ^ tY x * 285870213051353865 % 18446744073709551616 : Nat) : Int).fdiv (2 ^ min 58 (IntKind.bits .u64)) = ((2 ^ tY x * 285870213051353865 % 18446744073709551616 / 288230376151711744 : Nat) : Int) := by
  rw [show (2 : Int) ^ min 58 (IntKind.bits .u64) = ((288230376151711744 : Nat) : Int) from rfl]
  exact Int.fdiv_eq_ediv_of_nonneg _ (by omega)
 have hd1 := hd.1
 have hd2 := hd.2
 generalize 2 ^ tY x * 285870213051353865 % 18446744073709551616 / 288230376151711744 = i at eD hd1 hd2
 refine Fn.of_sw Tryz.func136 rfl (by kernel_rfl) fun l hl => ?_
 have hn : l.length = 14 := by rw [hl]; rfl
 have g0 : get l 0 = (.int .u64 x) := by rw [hl]; rfl
 clear hl
 have aR := gld hG i hd1 (some 1)
 rw [show t64.getD i 0 = tY x from by rw [← hd2, List.getD_eq_getElem?_getD, List.getD_eq_getElem?_getD, List.getElem?_eq_getElem (show i < t64.length from hd1)]; rfl] at aR
 have hidx := b7K .u64 (i : Int) (by omega) (by omega)
 rw [Int.toNat_natCast, Nat.mul_one, Nat.zero_add] at hidx
 simp (disch := omega) only [↓RA, RB, simprocAttr, hn, g0]
 refine aA (fun q => ?_) (fun q => ?_)
 ·exfalso; omega
 simp (disch := omega) only [↓RA, RZ, simprocAttr, hn, g0, c1C, eA, eB, eC, eD, a8p, aR, hidx, q]
 first | exact (St.refl Tryz.prog H) | exact ⟨rfl, (St.refl Tryz.prog H)⟩
end Go.Ds
namespace Go.Ds
open Go.Proofs
variable {H : Heap}
set_option maxRecDepth 10000
set_option maxHeartbeats 1000000
theorem a1c {x : Nat} (h0 : x ≠ 0) (h1 : x < 18446744073709551616) (j : Nat) : (x &&& (x - 1)).testBit j = (x.testBit j && !decide (j = tY x)) := by
 obtain ⟨m, hm⟩ := a0a h0 h1
 generalize tY x = k at hm
 have hp : 0 < 2 ^ k := Nat.two_pow_pos k
 have e1 : x = 2 ^ (k + 1) * m + 2 ^ k := by rw [hm, Nat.pow_succ, Nat.mul_add, Nat.mul_one, Nat.mul_assoc]
 have e2 : x - 1 = 2 ^ (k + 1) * m + (2 ^ k - 1) := by omega
 have hl : 2 ^ k < 2 ^ (k + 1) := Nat.pow_lt_pow_right (by decide) (by omega)
 rw [Nat.testBit_and, e2]
 rw [e1, Nat.testBit_two_pow_mul_add m hl, Nat.testBit_two_pow_mul_add m (by omega : 2 ^ k - 1 < 2 ^ (k + 1))]
 by_cases hj : j < k + 1
 ·rw [if_pos hj, if_pos hj, Nat.testBit_two_pow, Nat.testBit_two_pow_sub_one]
  by_cases he : j = k
  ·simp [he]
  ·simp [show ¬ k = j by omega]
 ·rw [if_neg hj, if_neg hj, show decide (j = k) = false from decide_eq_false (by omega)]
  simp
theorem a6V {x : Nat} (h0 : x ≠ 0) (h1 : x < 18446744073709551616) : gG x = tY x :: gG (x &&& (x - 1)) := by
 obtain ⟨c1, c2, c3⟩ := uP h0 h1
 have hb := a1c h0 h1
 generalize tY x = k at c1 c2 c3 hb
 obtain ⟨t, ht⟩ := a1x c1
 have hnd : (List.range 64).Nodup := List.nodup_range
 unfold gG
 rw [ht, List.filter_append, List.filter_append, List.filter_cons_of_pos (by simpa using c2), List.filter_cons_of_neg (by rw [hb]; simp)]
 rw [ht] at hnd
 have e1 : (List.range k).filter (fun i => x.testBit i) = [] := List.filter_eq_nil_iff.2 fun i hi => by simpa using c3 i (List.mem_range.1 hi)
 have e2 : (List.range k).filter (fun i => (x &&& (x - 1)).testBit i) = [] := List.filter_eq_nil_iff.2 fun i hi => by rw [hb, c3 i (List.mem_range.1 hi)]; simp
 rw [e1, e2, List.nil_append, List.nil_append]
 congr 1
 refine List.filter_congr fun i hi => ?_
 have hne : i ≠ k := fun e => by
  subst e
  exact (List.nodup_cons.1 (List.nodup_append.1 hnd).2.1).1 hi
 rw [hb, decide_eq_false hne]
 simp
theorem a3L : gG 0 = [] := List.filter_eq_nil_iff.2 fun i _ => by simp
def gS (x : Nt) : List Int := (gG x.1).map (fun (i : Nat) => (i : Int)) ++ (gG x.2).map fun (i : Nat) => 64 + (i : Int)
def a2u (x : Nt) (i : Nat) : Nat := if i = 0 then x.1 else x.2
def a0O (x : Nt) (i : Nat) : List Int := (gG (a2u x i)).map fun (j : Nat) => 64 * (i : Int) + (j : Int)
def a0l (x : Nt) (i : Nat) : List Int := (List.range i).flatMap (a0O x)
theorem rQ (x : Nt) (i : Nat) : a0l x (i + 1) = a0l x i ++ a0O x i := by
 unfold a0l
 rw [List.range_succ, List.flatMap_append, List.flatMap_cons, List.flatMap_nil, List.append_nil]
theorem a3u (x : Nt) : a0l x 2 = gS x := by
 rw [rQ, rQ]
 unfold gS a0l a0O a2u
 simp
theorem b4N {x : Nt} (hx : Nt.Ok x) (i : Nat) : a2u x i < 18446744073709551616 := by
 unfold a2u
 split
 ·exact hx.1
 ·exact hx.2
theorem c1w (a b : Int) : gM Tryz.prog 219 (.agg #[.int .u64 a, .int .u64 b]) (I 0) = some (.int .u64 a) := by kernel_rfl
theorem b9m (a b : Int) : gM Tryz.prog 219 (.agg #[.int .u64 a, .int .u64 b]) (I 1) = some (.int .u64 b) := by kernel_rfl
theorem c3V (x : Nt) (i : Nat) (h : i < 2) : vH (fZ Tryz.prog 219) Tryz.prog 219 (.agg #[.int .u64 x.1, .int .u64 x.2]) (I i) = some (.int .u64 (a2u x i)) := by
 rw [← a2M]
 rcases (by omega : i = 0 ∨ i = 1) with rfl | rfl
 ·exact c1w _ _
 ·exact b9m _ _
theorem b6U (x : Nt) (hx : Nt.Ok x) (A : Nat) (f : Value) (J : List Int → Heap → Prop) (h0 : J [] H) (hg : ∀ d H1, J d H1 → Var H1 A 2 [.int .u64 x.1, .int .u64 x.2] ∧ Glob gH H1)
 (hst : ∀ d H1 H2, J d H1 → St Tryz.prog H1 H2 [] → J d H2)
 (hf : ∀ d c e H1, gS x = d ++ c :: e → J d H1 → lJ Tryz.prog f [I c] H1 fun v H2 => v = .bool true ∧ J (d ++ [c]) H2) :
 FnS Tryz.prog 135 [f, ptr A 0 2] H fun _ H' => J (gS x) H' := by
 have hV0 := (hg _ _ h0).1
 refine FnS.of_sw Tryz.func135 rfl (by kernel_rfl) fun l hl => ?_
 have hn : l.length = 29 := by rw [hl]; rfl
 have g0 : get l 0 = f := by rw [hl]; rfl
 have g1 : get l 1 = (ptr A 0 2) := by rw [hl]; rfl
 clear hl
 simp (disch := omega) only [↓RA, RZ, simprocAttr, hn, g1, hV0.ld, a8I]
 refine Wp.loopS (fun n l H' => l.length = 29 ∧ get l 0 = f ∧ get l 1 = ptr A 0 2 ∧ get l 9 = .agg #[.int .u64 x.1, .int .u64 x.2] ∧ ∃ i : Nat, n + i = 2 ∧ get l 10 = I i ∧ J (a0l x i) H') 2 ?_ ?_
 ·simp (disch := omega) only [RB, RC, simprocAttr, hn, g0, g1]
  exact ⟨0, rfl, rfl, h0⟩
 rintro n l H9 ⟨hn, g0, g1, g9, i, hi, lX, hJ⟩
 simp (disch := omega) only [↓RA, RB, simprocAttr, hn, lX]
 refine aA (fun q1 => ?_) (fun q1 => ?_)
 ·have hix := c3V x i (by omega)
  have hwl := b4N hx i
  simp (disch := omega) only [↓RA, RZ, simprocAttr, hn, g9, lX, q1, hix]
  refine Wp.loopS (fun n2 l H' => l.length = 29 ∧ get l 0 = f ∧ get l 1 = ptr A 0 2 ∧ get l 9 = .agg #[.int .u64 x.1, .int .u64 x.2] ∧ get l 10 = I i ∧ get l 3 = I i ∧ ∃ (y : Nat) (d : List Nat), (n2 = (gG y).length ∧ y < 18446744073709551616 ∧ gG (a2u x i) = d ++ gG y) ∧ get l 4 = .int .u64 y ∧ J (a0l x i ++ d.map fun (j : Nat) => 64 * (i : Int) + (j : Int)) H') (gG (a2u x i)).length ?_ ?_
  ·simp (disch := omega) only [RB, RC, simprocAttr, hn, g0, g1, g9, lX]
   exact ⟨a2u x i, [], ⟨rfl, hwl, rfl⟩, rfl, by rw [List.map_nil, List.append_nil]; exact hJ⟩
  rintro n2 l H8 ⟨hn, g0, g1, g9, lX, g3, y, d, ⟨hn2, hy, hbd⟩, g4, hJ2⟩
  simp (disch := omega) only [↓RA, RB, simprocAttr, hn, g4]
  refine aA (fun q2 => ?_) (fun q2 => ?_)
  ·have hy0 : y ≠ 0 := by omega
   have hc := uP hy0 hy
   have hlow := a6V hy0 hy
   have hGl := (hg _ _ hJ2).2
   have eY1 : IntKind.wrap .u64 ((y : Int) - 1) = ((y - 1 : Nat) : Int) := by
    rw [a5t]
    omega
   have eY2 : IntKind.wrap .u64 ((BitVec.ofInt (IntKind.bits .u64) (y : Int) &&& BitVec.ofInt (IntKind.bits .u64) ((y - 1 : Nat) : Int)).toNat : Int) = ((y &&& (y - 1) : Nat) : Int) := by
    rw [BitVec.toNat_and, mM y hy, mM _ (by omega)]
    have := Nat.and_le_left (n := y) (m := y - 1)
    exact fP _ (by omega) (by omega)
   have hyl : y &&& (y - 1) < 18446744073709551616 := Nat.lt_of_le_of_lt Nat.and_le_left hy
   have hmem : gS x = (a0l x i ++ d.map fun (j : Nat) => 64 * (i : Int) + (j : Int)) ++ (64 * (i : Int) + (tY y : Int)) :: ((gG (y &&& (y - 1))).map (fun (j : Nat) => 64 * (i : Int) + (j : Int)) ++ ((List.range 2).drop (i + 1)).flatMap (a0O x)) := by
    rw [← a3u]
    unfold a0l
    have e : List.range 2 = List.range i ++ i :: (List.range 2).drop (i + 1) := by
     rcases (by omega : i = 0 ∨ i = 1) with rfl | rfl <;> rfl
    rw [congrArg (List.flatMap (a0O x)) e, List.flatMap_append, List.flatMap_cons]
    rw [show a0O x i = (d ++ gG y).map (fun (j : Nat) => 64 * (i : Int) + (j : Int)) from by unfold a0O; rw [hbd]]
    rw [hlow, List.map_append, List.map_cons]
    simp only [List.append_assoc, List.cons_append]
   have hc1 := hc.1
   simp (disch := omega) only [↓RA, RZ, simprocAttr, hn, g0, g3, g4, q2]
   refine aB (c2f ((St.refl Tryz.prog H8).gl hGl) y hy0 hy) ?_
   rintro r H1 ⟨rfl, hT1⟩
   have hS1 := (St.refl Tryz.prog H8).trans hT1
   simp only [RT] at hS1
   simp (disch := omega) only [↓RA, RZ, simprocAttr, hn, q2]
   refine a4y (hf _ _ _ _ hmem (hst _ _ _ hJ2 hS1)) ?_
   rintro r H10 ⟨rfl, hJ3⟩
   simp (disch := omega) only [↓RA, RZ, simprocAttr, hn, g0, g1, g9, lX, g3, g4, q2, eY1, eY2]
   refine ⟨(gG (y &&& (y - 1))).length, by rw [hn2, hlow]; simp, y &&& (y - 1), d ++ [tY y], ⟨rfl, hyl, by rw [hbd, hlow]; simp⟩, rfl, ?_⟩
   rw [List.map_append, List.map_cons, List.map_nil, ← List.append_assoc]
   exact hJ3
  simp (disch := omega) only [↓RA, RZ, simprocAttr, hn, g0, g1, g9, lX, q2]
  have hy0 : y = 0 := by omega
  subst hy0
  refine ⟨n - 1, by omega, i + 1, by omega, by simp, ?_⟩
  rw [rQ]
  have : a0O x i = d.map fun (j : Nat) => 64 * (i : Int) + (j : Int) := by
   unfold a0O
   rw [hbd, a3L, List.append_nil]
  rw [this]
  exact hJ2
 simp (disch := omega) only [↓RA, RZ, simprocAttr, c1p, q1]
 have e : i = 2 := by omega
 subst e
 rw [← a3u]
 exact hJ
end Go.Ds
namespace Go.Ds
open Go.Proofs
variable {H : Heap}
set_option maxRecDepth 10000
set_option maxHeartbeats 1000000
theorem wN (x : Nt) : (gS x).length ≤ 128 := by
 unfold gS
 rw [List.length_append, List.length_map, List.length_map]
 have h1 := a3c x.1 64
 have h2 := a3c x.2 64
 unfold b0O at h1 h2
 unfold gG
 omega
theorem a8e (hG : Glob gH H) (x : Nt) (hx : Nt.Ok x) (A : Nat) (hA : Var H A 2 [.int .u64 x.1, .int .u64 x.2]) :
 Fn Tryz.prog 134 [.slice none 0 0, .func (.func 135) #[] #[ptr A 0 2]] H fun r H' => St Tryz.prog H H' [⟨r, 1, (gS x).flatMap (one I)⟩] := by
 refine Fn.of_sw Tryz.func134 rfl (by kernel_rfl) fun l hl => ?_
 have hn : l.length = 13 := by rw [hl]; rfl
 have g0 : get l 0 = (.slice none 0 0) := by rw [hl]; rfl
 have g1 : get l 1 = (.func (.func 135) #[] #[(ptr A 0 2)]) := by rw [hl]; rfl
 clear hl
 simp (disch := omega) only [↓RA, RB, simprocAttr, g0]
 refine (St.refl Tryz.prog H).eNew 1 [(.slice none 0 0)] rfl rfl rfl b5i fun A1 H1 hS1 => ?_
 simp only [RT] at hS1
 simp (disch := omega) only [↓RA, RB, simprocAttr, g1]
 have hS2 := hS1.nil 0
 simp only [RT] at hS2
 refine Wp.slots fun lrg1 hlrg1 => ?_
 have hnrg1 : lrg1.length = 13 := by rw [hlrg1]; simp (disch := omega) only [RB, simprocAttr, hn]
 have g2rg1 : get lrg1 2 = (ptr A1 0 1) := by rw [hlrg1]; simp (disch := omega) only [RB, simprocAttr, hn]
 have g4rg1 : get lrg1 4 = (.slice none 0 0) := by rw [hlrg1]; simp (disch := omega) only [RB, simprocAttr, hn]
 have gfrg1 : get lrg1 6 = .func (.func 135) #[] [(ptr A 0 2)].toArray := by rw [hlrg1]; simp (disch := omega) only [RB, simprocAttr, hn]
 clear hlrg1
 refine Wp.rangeR gfrg1 fun rg1 hstrg1 hpdrg1 htmrg1 hpsrg1 hasrg1 hbdrg1 => ?_
 have hreqrg1 : ({ rg1 with state := .ready, pending := none } : Loop) = rg1 := by
  cases rg1
  simp only at hstrg1 hpdrg1
  subst hstrg1 hpdrg1
  rfl
 have hLprg1 := Lp.enter hS2 rg1
 generalize H1.cons (.loop rg1) = Hcrg1 at hLprg1 ⊢
 generalize H1.length = Lrg1 at hLprg1 ⊢
 refine (b6U x hx A (.func (.yield Lrg1) #[] #[]) (fun d H1 => ∃ ow, Lp Tryz.prog H Lrg1 rg1 H1 [⟨ptr A1 0 1, 0, [ow]⟩, ⟨ow, 1, d.flatMap (one I)⟩]) ⟨.slice none 0 0, hLprg1⟩ ?_ ?_ ?_).mono ?_
 ·rintro d H1 ⟨ow, h⟩
  exact ⟨hA.keep h.st.keep, h.st.gl hG⟩
 ·rintro d H1 H2 ⟨ow, h⟩ hS
  exact ⟨ow, by simpa using h.ext hS⟩
 ·rintro d c e H20 hm ⟨ow, hLpj⟩
  have hml := wN x
  have hdl : d.length < 128 := by
   rw [hm, List.length_append, List.length_cons] at hml
   omega
  refine tE hLpj.get (by rw [hpsrg1]; rfl) hstrg1 ?_
  refine Wp.of_eqS (l := put lrg1 (some 7) (I c)) hasrg1 (by rw [hpsrg1, htmrg1]; first | exact (eN ..).symm | rfl | simp [put, eN]) ?_
  simp (disch := omega) only [↓RA, RZ, simprocAttr, hnrg1]
  refine ⟨rg1, hLpj.get, hstrg1, ?_⟩
  have hYBs1 := hLpj.set (fun h => h) { rg1 with state := .busy }
  have hKBs1 : ∀ B, B ≠ Lrg1 → aR (hset H20 Lrg1 (.loop { rg1 with state := .busy })) B = aR H20 B := fun B h => aX _ (Ne.symm h)
  have hNBs1 : (hset H20 Lrg1 (.loop { rg1 with state := .busy })).length = H20.length := bJ ..
  generalize hset H20 Lrg1 (.loop { rg1 with state := .busy }) = HBs1 at hYBs1 hKBs1 hNBs1 ⊢
  refine Wp.of_eqS hbdrg1 rfl ?_
  have hZBs1 := hYBs1.st
  obtain ⟨Bs1, hBBs1, hS3⟩ := hZBs1.rebaseE (os := [⟨ptr A1 0 1, 0, _⟩, ⟨ow, 1, _⟩])
  simp (disch := omega) only [↓RA, RZ, simprocAttr, hnrg1, g2rg1, hS3.ld 0 rfl]
  refine hS3.eSlice [I c] vW a2d rfl rfl (by simp [Value.cells]) rfl rfl (by decide) (by decide) fun w1 H2 hS4 => ?_
  simp only [RT] at hS4
  simp (disch := omega) only [↓RA, RZ, simprocAttr, hnrg1]
  refine hS4.eAppend 1 rfl (hS4.rd 2 rfl) vW (by rw [qN, List.length_map]; simp; omega) fun w2 H3 hS5 => ?_
  simp only [RT] at hS5
  simp (disch := omega) only [↓RA, RB, simprocAttr, hnrg1, g2rg1]
  refine hS5.eStore 0 rfl [w2] (by rw [(hS5.rd 1 rfl).cells.1]) (by simp [(hS5.rd 1 rfl).cells.2.1]) b5i (by simp) fun H4 hS6 => ?_
  simp only [RT] at hS6
  simp (disch := omega) only [↓RA, simprocAttr]
  have hS7 := hS6.pick (os' := [⟨ptr A1 0 1, 0, _⟩, ⟨w2, 1, _⟩]) [0, 1] (by decide) rfl
  have hWBs1 := (hYBs1.body (hBBs1 ▸ hS7)).set (fun h => h) rg1
  rw [← hreqrg1] at hWBs1
  refine ⟨_, (hYBs1.body (hBBs1 ▸ hS7)).get, rfl, w2, ?_⟩
  rw [List.flatMap_append]
  exact hreqrg1 ▸ hWBs1
 ·rintro _ H21 ⟨ow, hLp2⟩
  refine ⟨_, hLp2.get, (by rw [hstrg1]; exact fun h => by cases h), fun _ => ?_, fun c hc => by rw [hpdrg1] at hc; cases hc⟩
  have hAAf1 := (hLp2.set (fun h => h) { rg1 with state := .exhausted }).st
  have hKAf1 : ∀ B, B ≠ Lrg1 → aR (hset H21 Lrg1 (.loop { rg1 with state := .exhausted })) B = aR H21 B := fun B h => aX _ (Ne.symm h)
  generalize hset H21 Lrg1 (.loop { rg1 with state := .exhausted }) = HAf1 at hAAf1 hKAf1 ⊢
  simp (disch := omega) only [↓RA, RZ, simprocAttr, hnrg1, g2rg1, hAAf1.ld 0 rfl, c1Y]
  exact hAAf1.pick [1] (by decide) rfl
theorem a5G (hG : Glob gH H) (x : Nt) (hx : Nt.Ok x) (A : Nat) (hA : Var H A 2 [.int .u64 x.1, .int .u64 x.2]) :
 Fn Tryz.prog 101 [.func (.func 135) #[] #[ptr A 0 2]] H fun r H' => St Tryz.prog H H' [⟨r, 1, (gS x).flatMap (one I)⟩] := by
 refine Fn.of_sw Tryz.func101 rfl (by kernel_rfl) fun l hl => ?_
 have hn : l.length = 5 := by rw [hl]; rfl
 have g0 : get l 0 = (.func (.func 135) #[] #[(ptr A 0 2)]) := by rw [hl]; rfl
 clear hl
 simp (disch := omega) only [↓RA, RZ, simprocAttr, hn, g0]
 refine aB ((a8e ((St.refl Tryz.prog H).gl hG) x hx A (hA.keep (St.refl Tryz.prog H).keep)).tr) ?_
 rintro r H1 ⟨-, hT1⟩
 have hS1 := (St.refl Tryz.prog H).trans hT1
 simp only [RT] at hS1
 simp (disch := omega) only [↓RA, RB, simprocAttr, hn, b9u]
 exact hS1
theorem b4n (x : Nt) : Fn Tryz.prog 102 [.agg #[.int .u64 x.1, .int .u64 x.2]] H fun r H' => ∃ A, r = .func (.func 135) #[] #[ptr A 0 2] ∧ St Tryz.prog H H' [⟨ptr A 0 2, 0, [.int .u64 x.1, .int .u64 x.2]⟩] := by
 refine Fn.of_sw Tryz.func102 rfl (by kernel_rfl) fun l hl => ?_
 have hn : l.length = 4 := by rw [hl]; rfl
 have g0 : get l 0 = (.agg #[(.int .u64 x.1), (.int .u64 x.2)]) := by rw [hl]; rfl
 clear hl
 simp (disch := omega) only [↓RA, RB, simprocAttr, g0]
 refine (St.refl Tryz.prog H).eNew 2 [(.int .u64 x.1), (.int .u64 x.2)] rfl rfl rfl dE fun A1 H1 hS1 => ?_
 simp only [RT] at hS1
 simp (disch := omega) only [↓RA, RZ, simprocAttr, hn, c2i]
 exact ⟨A1, rfl, hS1⟩
theorem a5M (hG : Glob gH H) (x : Nt) (hx : Nt.Ok x) :
 Fn Tryz.prog 57 [.agg #[.int .u64 x.1, .int .u64 x.2]] H fun r H' => St Tryz.prog H H' [⟨r, 1, (gS x).flatMap (one I)⟩] := by
 refine Fn.of_sw Tryz.func57 rfl (by kernel_rfl) fun l hl => ?_
 have hn : l.length = 6 := by rw [hl]; rfl
 have g0 : get l 0 = (.agg #[(.int .u64 x.1), (.int .u64 x.2)]) := by rw [hl]; rfl
 clear hl
 simp (disch := omega) only [↓RA, RB, simprocAttr, g0]
 refine (St.refl Tryz.prog H).eNew 2 [(.int .u64 x.1), (.int .u64 x.2)] rfl rfl rfl dE fun A1 H1 hS1 => ?_
 simp only [RT] at hS1
 simp (disch := omega) only [↓RA, RZ, simprocAttr, hn, hS1.ldA 0 rfl]
 refine aB (b4n x) ?_
 rintro r H2 ⟨A2, rfl, hT1⟩
 have hS2 := hS1.trans hT1
 simp only [RT] at hS2
 simp (disch := omega) only [↓RA, RZ, simprocAttr, hn]
 refine aB ((a5G (hS2.gl hG) x hx A2 (hS2.var 1 rfl)).tr) ?_
 rintro r H3 ⟨-, hT2⟩
 have hS3 := hS2.trans hT2
 simp only [RT] at hS3
 simp (disch := omega) only [↓RA, RB, simprocAttr, hn, c4g]
 exact hS3.pick [2] (by decide) rfl
end Go.Ds
namespace Go.Ds
open Go.Proofs
variable {H : Heap}
set_option maxRecDepth 10000
set_option maxHeartbeats 1000000
def a1U (a b : Nat) : Nat := (BitVec.ofNat 64 a &&& ~~~ BitVec.ofNat 64 b).toNat
theorem a1h (a b : Nat) : a1U a b < 18446744073709551616 := (BitVec.ofNat 64 a &&& ~~~ BitVec.ofNat 64 b).isLt
theorem b6d (a b : Nat) : IntKind.wrap .u64 ((BitVec.ofInt (IntKind.bits .u64) (a : Int) &&& ~~~ BitVec.ofInt (IntKind.bits .u64) (b : Int)).toNat : Int) = ((a1U a b : Nat) : Int) := by
 have e : (BitVec.ofInt (IntKind.bits .u64) (a : Int) &&& ~~~ BitVec.ofInt (IntKind.bits .u64) (b : Int)).toNat = a1U a b := by
  unfold a1U
  rw [BitVec.ofInt_natCast, BitVec.ofInt_natCast]
  rfl
 rw [e]
 have := a1h a b
 exact fP _ (by omega) (by omega)
theorem a1S (a b j : Nat) (ha : a < 18446744073709551616) (hj : j < 64) : (a1U a b).testBit j = (a.testBit j && !b.testBit j) := by
 unfold a1U
 have h1 : (BitVec.ofNat 64 a &&& ~~~ BitVec.ofNat 64 b).toNat.testBit j = (BitVec.ofNat 64 a &&& ~~~ BitVec.ofNat 64 b).getLsbD j := rfl
 rw [h1, BitVec.getLsbD_and, BitVec.getLsbD_not, BitVec.getLsbD_ofNat, BitVec.getLsbD_ofNat]
 simp [hj]
def woF (x y : Nt) : Nt := (a1U x.1 y.1, a1U x.2 y.2)
theorem b8G (x y : Nt) : Nt.Ok (woF x y) := ⟨a1h _ _, a1h _ _⟩
theorem b6u (x y : Nt) : Fn Tryz.prog 98 [.agg #[.int .u64 x.1, .int .u64 x.2], .agg #[.int .u64 y.1, .int .u64 y.2]] H fun r H' => r = .agg #[.int .u64 (woF x y).1, .int .u64 (woF x y).2] ∧ St Tryz.prog H H' [] := by
 have e1 := b6d x.1 y.1
 have e2 := b6d x.2 y.2
 refine Fn.of_sw Tryz.func98 rfl (by kernel_rfl) fun l hl => ?_
 have hn : l.length = 16 := by rw [hl]; rfl
 have g0 : get l 0 = (.agg #[(.int .u64 x.1), (.int .u64 x.2)]) := by rw [hl]; rfl
 have g1 : get l 1 = (.agg #[(.int .u64 y.1), (.int .u64 y.2)]) := by rw [hl]; rfl
 clear hl
 simp (disch := omega) only [↓RA, RB, simprocAttr, g0]
 refine (St.refl Tryz.prog H).eNew 2 [(.int .u64 x.1), (.int .u64 x.2)] rfl rfl rfl dE fun A1 H1 hS1 => ?_
 simp only [RT] at hS1
 simp (disch := omega) only [↓RA, RB, simprocAttr, g1]
 refine hS1.eNew 2 [(.int .u64 y.1), (.int .u64 y.2)] rfl rfl rfl dE fun A2 H2 hS2 => ?_
 simp only [RT] at hS2
 simp (disch := omega) only [↓RA, RZ, simprocAttr]
 refine hS2.eNew 2 [(.int .u64 0), (.int .u64 0)] rfl rfl rfl dE fun A3 H3 hS3 => ?_
 simp only [RT] at hS3
 simp (disch := omega) only [↓RA, RZ, simprocAttr, hn, hS3.ld 0 rfl, hS3.ld 1 rfl, a8j, e1, e2]
 refine hS3.eStore 2 rfl [_, _] rfl rfl dE (by simp) fun H4 hS4 => ?_
 simp only [RT] at hS4
 simp (disch := omega) only [↓RA, RZ, simprocAttr, hn, c3n, hS4.ldA 2 rfl]
 exact ⟨rfl, hS4.forget⟩
theorem a4V (x y : Nt) : Fn Tryz.prog 54 [.agg #[.int .u64 x.1, .int .u64 x.2], .agg #[.int .u64 y.1, .int .u64 y.2]] H fun r H' => r = .bool (decide (woF x y = (0, 0))) ∧ St Tryz.prog H H' [] := by
 refine Fn.of_sw Tryz.func54 rfl (by kernel_rfl) fun l hl => ?_
 have hn : l.length = 10 := by rw [hl]; rfl
 have g0 : get l 0 = (.agg #[(.int .u64 x.1), (.int .u64 x.2)]) := by rw [hl]; rfl
 have g1 : get l 1 = (.agg #[(.int .u64 y.1), (.int .u64 y.2)]) := by rw [hl]; rfl
 clear hl
 simp (disch := omega) only [↓RA, RB, simprocAttr, g0]
 refine (St.refl Tryz.prog H).eNew 2 [(.int .u64 x.1), (.int .u64 x.2)] rfl rfl rfl dE fun A1 H1 hS1 => ?_
 simp only [RT] at hS1
 simp (disch := omega) only [↓RA, RB, simprocAttr, g1]
 refine hS1.eNew 2 [(.int .u64 y.1), (.int .u64 y.2)] rfl rfl rfl dE fun A2 H2 hS2 => ?_
 simp only [RT] at hS2
 simp (disch := omega) only [↓RA, RZ, simprocAttr, hn, hS2.ldA 0 rfl, hS2.ldA 1 rfl]
 refine aB (b6u x y) ?_
 rintro r H3 ⟨rfl, hT1⟩
 have hS3 := hS2.trans hT1
 simp only [RT] at hS3
 simp (disch := omega) only [↓RA, RZ, simprocAttr, hn, a9g, c2Q]
 refine ⟨?_, hS3.forget⟩
 congr 1
 rw [decide_eq_decide]
 constructor
 ·rintro ⟨h1, h2⟩
  exact Prod.ext (by simpa using h1) (by simpa using h2)
 ·intro h
  rw [h]
  exact ⟨rfl, rfl⟩
def sA (lo hi : Int) : Nt := bD ((List.range (hi - lo + 1).toNat).map fun (k : Nat) => lo + (k : Int))
theorem a8D (lo hi : Int) (h0 : 0 ≤ lo) (h1 : lo ≤ hi) (h2 : hi ≤ 127) : Fn Tryz.prog 53 [.agg #[I lo, I hi]] H fun r H' => r = .tuple #[.agg #[.int .u64 (sA lo hi).1, .int .u64 (sA lo hi).2], I 0] ∧ St Tryz.prog H H' [] := by
 have hce : iV lo hi = 0 := by
  unfold iV
  rw [if_neg (by omega), if_neg (by omega)]
 refine Fn.of_sw Tryz.func53 rfl (by kernel_rfl) fun l hl => ?_
 have hn : l.length = 25 := by rw [hl]; rfl
 have g0 : get l 0 = (.agg #[I lo, I hi]) := by rw [hl]; rfl
 clear hl
 simp (disch := omega) only [↓RA, RB, simprocAttr, g0]
 refine (St.refl Tryz.prog H).eNew 2 [I lo, I hi] rfl rfl rfl lN fun A1 H1 hS1 => ?_
 simp only [RT] at hS1
 simp (disch := omega) only [↓RA, RZ, simprocAttr]
 refine hS1.eNew 2 [(.int .u64 0), (.int .u64 0)] rfl rfl rfl dE fun A2 H2 hS2 => ?_
 simp only [RT] at hS2
 simp (disch := omega) only [↓RA, RZ, simprocAttr]
 refine hS2.eNew 2 [(.int .u64 0), (.int .u64 0)] rfl rfl rfl dE fun A3 H3 hS3 => ?_
 simp only [RT] at hS3
 simp (disch := omega) only [↓RA, RZ, simprocAttr, hn, hS3.ldA 0 rfl]
 refine aB (tQ lo hi) ?_
 rintro r H4 ⟨rfl, hT1⟩
 have hS4 := hS3.trans hT1
 simp only [RT] at hS4
 rw [hce]
 simp (disch := omega) only [↓RA, RZ, simprocAttr, hn, hS4.ld 0 rfl]
 refine Wp.loopS (fun n l H' => l.length = 25 ∧ get l 1 = (ptr A1 0 2) ∧ get l 2 = (ptr A2 0 2) ∧ get l 3 = I 0 ∧ get l 4 = (ptr A3 0 2) ∧ ∃ (j : Nat), (n + j = (hi - lo + 1).toNat) ∧ get l 6 = I (lo + (j : Int)) ∧ St Tryz.prog H H' [⟨ptr A1 0 2, 0, [I lo, I hi]⟩, ⟨ptr A2 0 2, 0, [(.int .u64 0), (.int .u64 0)]⟩, ⟨ptr A3 0 2, 0, [.int .u64 (bD ((List.range j).map fun (k : Nat) => lo + (k : Int))).1, .int .u64 (bD ((List.range j).map fun (k : Nat) => lo + (k : Int))).2]⟩]) (hi - lo + 1).toNat ?_ ?_
 ·simp (disch := omega) only [RB, RC, simprocAttr, hn]
  exact ⟨0, by omega, by simp, hS4⟩
 rintro n l H5 ⟨hn, g1, g2, g3, g4, j, hj, g6, hS5⟩
 simp (disch := omega) only [↓RA, RZ, simprocAttr, hn, g1, g6, hS5.ld 0 rfl]
 refine aA (fun q1 => ?_) (fun q1 => ?_)
 ·have hok : Nt.Ok (bD ((List.range j).map fun (k : Nat) => lo + (k : Int))) := nN _ _ (fun z h => by
   obtain ⟨k, hk, rfl⟩ := List.mem_map.1 h
   have := List.mem_range.1 hk
   exact ⟨by omega, by omega⟩) ⟨by decide, by decide⟩
  have hsu : bD ((List.range (j + 1)).map fun (k : Nat) => lo + (k : Int)) = kS (bD ((List.range j).map fun (k : Nat) => lo + (k : Int))) (lo + (j : Int)) := by
   unfold bD
   rw [List.range_succ, List.map_append, List.foldl_append]
   rfl
  simp (disch := omega) only [↓RA, RZ, simprocAttr, hn, g4, g6, hS5.ldA 2 rfl, q1]
  refine aB (a1t (bD ((List.range j).map fun (k : Nat) => lo + (k : Int))) hok (lo + (j : Int)) (by omega) (by omega)) ?_
  rintro r H6 ⟨rfl, hT2⟩
  have hS6 := hS5.trans hT2
  simp only [RT] at hS6
  simp (disch := omega) only [↓RA, RZ, simprocAttr, hn, g4, q1]
  refine hS6.eStore 2 rfl [(.int .u64 (kS (bD ((List.range j).map fun (k : Nat) => lo + (k : Int))) (lo + (j : Int))).1), (.int .u64 (kS (bD ((List.range j).map fun (k : Nat) => lo + (k : Int))) (lo + (j : Int))).2)] rfl rfl dE (by simp) fun H7 hS7 => ?_
  simp only [RT] at hS7
  simp (disch := omega) only [↓RA, RZ, simprocAttr, hn, g1, g2, g3, g4, g6, q1]
  refine ⟨n - 1, by omega, j + 1, by omega, by congr 1; omega, ?_⟩
  rw [hsu]
  exact hS7.pick [0, 1, 2] (by decide) rfl
 have hjj : j = (hi - lo + 1).toNat := by omega
 simp (disch := omega) only [↓RA, RZ, simprocAttr, hn, g2, g4, hS5.ldA 2 rfl, q1]
 refine hS5.eStore 1 rfl [(.int .u64 (bD ((List.range j).map fun (k : Nat) => lo + (k : Int))).1), (.int .u64 (bD ((List.range j).map fun (k : Nat) => lo + (k : Int))).2)] rfl rfl dE (by simp) fun H8 hS8 => ?_
 simp only [RT] at hS8
 simp (disch := omega) only [↓RA, RZ, simprocAttr, hn, g2, c3o, hS8.ldA 1 rfl, q1]
 rw [hjj]
 exact ⟨rfl, hS8.forget⟩
end Go.Ds
namespace Go.Ds
open Go.Proofs
variable {H : Heap}
set_option maxRecDepth 10000
set_option maxHeartbeats 1000000
structure Ks (H : Heap) (kv : Value) (ks : List Nt) : Prop where
 sl : Sl 2 ntc H kv ks
 len : ks.length < 1000000000
 ok : ∀ x ∈ ks, Nt.Ok x
theorem Ks.keep {P : Program} {H' : Heap} {kv : Value} {ks : List Nt} {os : List Ob} (h : Ks H kv ks) (hS : St P H H' os) : Ks H' kv ks := ⟨hS.sl h.sl, h.len, h.ok⟩
def gU (o : Org) (ks : List Nt) : Int := if organE o ≠ 0 then organE o else if ks.length ≠ o.dvs.length then 5 else if ∃ j, j < o.dvs.length ∧ woF (aC ks j) (sA (aC o.dvs j).lo (aC o.dvs j).hi) ≠ (0, 0) then 23 else 0
theorem b1U (o : Org) (ho : o.In H) (kv : Value) (ks : List Nt) (hk : Ks H kv ks) : Fn Tryz.prog 19 [.agg #[.string o.name, o.rv, o.dv, o.cv], kv] H fun r H' => r = I (gU o ks) ∧ St Tryz.prog H H' [] := by
 have hkl := hk.len
 have hdl := ho.2.2.2.2.2.2.1
 refine Fn.of_sw Tryz.func19 rfl (by kernel_rfl) fun l hl => ?_
 have hn : l.length = 43 := by rw [hl]; rfl
 have g0 : get l 0 = (.agg #[(.string o.name), o.rv, o.dv, o.cv]) := by rw [hl]; rfl
 have g1 : get l 1 = kv := by rw [hl]; rfl
 clear hl
 simp (disch := omega) only [↓RA, RB, simprocAttr, g0]
 refine (St.refl Tryz.prog H).eNew 4 [(.string o.name), o.rv, o.dv, o.cv] rfl rfl (by simp [OC, ((St.refl Tryz.prog H).sl ho.1).cells.2.1, ((St.refl Tryz.prog H).sl ho.2.2.1).cells.2.1, ((St.refl Tryz.prog H).sl ho.2.2.2.2.1).cells.2.1]) fH fun A1 H1 hS1 => ?_
 simp only [RT] at hS1
 simp (disch := omega) only [↓RA, RZ, simprocAttr, hn, hS1.ldA 0 rfl]
 refine aB (wT o (ho.keep hS1)) ?_
 rintro r H2 ⟨rfl, hT1⟩
 have hS2 := hS1.trans hT1
 simp only [RT] at hS2
 simp (disch := omega) only [↓RA, RB, simprocAttr, hn]
 refine aA (fun h1 => ?_) (fun h1 => ?_)
 ·simp (disch := omega) only [↓RA, RZ, simprocAttr, hn, b3b, h1]
  exact ⟨by unfold gU; rw [if_pos h1], hS2.forget⟩
 have hz : organE o = 0 := Classical.not_not.1 h1
 have hf := Org.fine hz
 simp (disch := omega) only [↓RA, RZ, simprocAttr, hn, g1, (hS2.sl hk.sl).len, hS2.ld 0 rfl, (hS2.sl ho.2.2.1).len, h1]
 refine aA (fun h2 => ?_) (fun h2 => ?_)
 ·simp (disch := omega) only [↓RA, RZ, simprocAttr, hn, b3b, h1, h2]
  exact ⟨by unfold gU; rw [if_neg h1, if_pos (by omega)], hS2.forget⟩
 have hlen : ks.length = o.dvs.length := by omega
 simp (disch := omega) only [↓RA, RZ, simprocAttr, hn, hS2.ld 0 rfl, (hS2.sl ho.2.2.1).len, h1, h2]
 refine Wp.loopS (fun n l H' => l.length = 43 ∧ get l 1 = kv ∧ get l 22 = o.dv ∧ get l 23 = I o.dvs.length ∧ ∃ (j : Nat), (n + j = o.dvs.length ∧ ∀ q, q < j → woF (aC ks q) (sA (aC o.dvs q).lo (aC o.dvs q).hi) = (0, 0)) ∧ get l 24 = I j ∧ St Tryz.prog H H' [⟨ptr A1 0 4, 0, [(.string o.name), o.rv, o.dv, o.cv]⟩]) o.dvs.length ?_ ?_
 ·simp (disch := omega) only [RB, RC, simprocAttr, hn, g1]
  exact ⟨0, ⟨by omega, fun q hq => absurd hq (Nat.not_lt_zero _)⟩, rfl, hS2⟩
 rintro n l H3 ⟨hn, g1, g22, g23, j, ⟨hj,hq⟩, g24, hS3⟩
 simp (disch := omega) only [↓RA, RB, simprocAttr, hn, g23, g24]
 refine aA (fun h3 => ?_) (fun h3 => ?_)
 ·have hky := hf.keys j (by omega)
  simp (disch := omega) only [↓RA, RZ, simprocAttr, hn, g22, g24, (hS3.sl ho.2.2.1).idx, (hS3.sl ho.2.2.1).ldA, Dvn.cells, h3]
  refine hS3.eNew 5 [(.string ⟨#[]⟩), (.bool false), I 0, I 0, (.slice none 0 0)] rfl rfl rfl lP fun A2 H4 hS4 => ?_
  simp only [RT] at hS4
  simp (disch := omega) only [↓RA, RZ, simprocAttr, hn, h3]
  refine hS4.eStore 1 rfl [(.string (aC o.dvs j).name), (.bool (aC o.dvs j).pedal), I (aC o.dvs j).lo, I (aC o.dvs j).hi, (aC o.dvs j).sv] rfl (by simp [OC, (hS4.sl (ho.2.2.2.1 (aC o.dvs j) (aF (by omega))).1).cells.2.1]) lP (by simp) fun H5 hS5 => ?_
  simp only [RT] at hS5
  simp (disch := omega) only [↓RA, RZ, simprocAttr, hn, hS5.ldA 1 rfl, h3]
  refine aB (a8D (aC o.dvs j).lo (aC o.dvs j).hi hky.1 hky.2.1 hky.2.2) ?_
  rintro r H6 ⟨rfl, hT2⟩
  have hS6 := hS5.trans hT2
  simp only [RT] at hS6
  simp (disch := omega) only [↓RA, RZ, simprocAttr, hn, h3]
  refine hS6.eNew 2 [(.int .u64 0), (.int .u64 0)] rfl rfl rfl dE fun A3 H7 hS7 => ?_
  simp only [RT] at hS7
  simp (disch := omega) only [↓RA, RZ, simprocAttr, hn, h3]
  refine hS7.eStore 2 rfl [(.int .u64 (sA (aC o.dvs j).lo (aC o.dvs j).hi).1), (.int .u64 (sA (aC o.dvs j).lo (aC o.dvs j).hi).2)] rfl rfl dE (by simp) fun H8 hS8 => ?_
  simp only [RT] at hS8
  simp (disch := omega) only [↓RA, RZ, simprocAttr, hn, h3]
  refine Wp.drw cB (by kernel_rfl) ?_
  simp (disch := omega) only [↓RA, RZ, simprocAttr, hn, g1, (hS8.sl hk.sl).idx, (hS8.sl hk.sl).ldA, ntc, hS8.ldA 2 rfl]
  refine aB (a4V (aC ks j) (sA (aC o.dvs j).lo (aC o.dvs j).hi)) ?_
  rintro r H9 ⟨rfl, hT3⟩
  have hS9 := hS8.trans hT3
  simp only [RT] at hS9
  simp (disch := omega) only [↓RA, RB, simprocAttr, hn]
  refine bK (fun h4 => ?_) (fun h4 => ?_)
  ·have h5 : ¬ woF (aC ks j) (sA (aC o.dvs j).lo (aC o.dvs j).hi) = (0, 0) := by simpa using h4
   simp (disch := omega) only [↓RA, RB, simprocAttr, hn, b3b, h4]
   exact ⟨by unfold gU; rw [if_neg h1, if_neg (by omega), if_pos ⟨j, by omega, h5⟩], hS9.forget⟩
  have h5 : woF (aC ks j) (sA (aC o.dvs j).lo (aC o.dvs j).hi) = (0, 0) := by simpa using h4
  simp (disch := omega) only [↓RA, RZ, simprocAttr, hn, g1, g22, g23, g24, h4]
  exact ⟨n - 1, by omega, j + 1, ⟨by omega, fun q hq' => by rcases Nat.lt_succ_iff_lt_or_eq.1 hq' with e | e; (· exact hq q e); (· rw [e]; exact h5)⟩, by simp, hS9.pick [0] (by decide) rfl⟩
 simp (disch := omega) only [↓RA, RZ, simprocAttr, hn, b3b, h3]
 refine ⟨?_, hS3.forget⟩
 unfold gU
 rw [if_neg h1, if_neg (by omega), if_neg]
 rintro ⟨q, hq1, hq2⟩
 exact hq2 (hq q (by omega))
def plD (ks : List Nt) (i : Nat) : List Ct := (gS (aC ks i)).map fun z => ((i : Int), z)
def aO (ks : List Nt) : List Ct := (List.range ks.length).flatMap (plD ks)
theorem b8a (ks : List Nt) (i : Nat) : (plD ks i).length ≤ 128 := by
 unfold plD
 rw [List.length_map]
 exact wN _
theorem b1R (ks : List Nt) : ∀ i, ((List.range i).flatMap (plD ks)).length ≤ i * 128
 | 0 => by simp
 | i + 1 => by
   have := b1R ks i
   have := b8a ks i
   rw [List.range_succ, List.flatMap_append, List.length_append, List.flatMap_cons, List.flatMap_nil, List.append_nil]
   omega
theorem zJ (hG : Glob gH H) (kv : Value) (ks : List Nt) (hk : Ks H kv ks) (h8 : ks.length ≤ 8) : Fn Tryz.prog 47 [kv] H fun r H' => St Tryz.prog H H' [⟨r, 2, pr (aO ks)⟩] := by
 refine Fn.of_sw Tryz.func47 rfl (by kernel_rfl) fun l hl => ?_
 have hn : l.length = 31 := by rw [hl]; rfl
 have g0 : get l 0 = kv := by rw [hl]; rfl
 clear hl
 simp (disch := omega) only [↓RA, RZ, simprocAttr, hn, g0, ((St.refl Tryz.prog H).sl hk.sl).len]
 have hS1 := (St.refl Tryz.prog H).nil 1
 simp only [RT] at hS1
 refine Wp.loopS (fun n l H' => l.length = 31 ∧ get l 2 = (.slice none 0 0) ∧ get l 8 = kv ∧ get l 9 = I ks.length ∧ ∃ (i : Nat) (ov : Value), (n + i = ks.length) ∧ get l 10 = I i ∧ get l 3 = ov ∧ St Tryz.prog H H' [⟨ov, 2, pr ((List.range i).flatMap (plD ks))⟩]) ks.length ?_ ?_
 ·simp (disch := omega) only [RB, RC, simprocAttr, hn]
  exact ⟨0, .slice none 0 0, by omega, rfl, rfl, hS1⟩
 rintro n l H1 ⟨hn, g2, g8, g9, i, ov, hi, lX, g3, hS2⟩
 simp (disch := omega) only [↓RA, RB, simprocAttr, hn, g9, lX]
 refine aA (fun q1 => ?_) (fun q1 => ?_)
 ·have hmo := hk.ok _ (aF (xs := ks) (j := i) (by omega))
  have hml := wN (aC ks i)
  have hpl := b1R ks i
  simp (disch := omega) only [↓RA, RZ, simprocAttr, hn, g8, lX, (hS2.sl hk.sl).idx, (hS2.sl hk.sl).ldA, ntc, q1]
  refine hS2.eNew 2 [(.int .u64 0), (.int .u64 0)] rfl rfl rfl dE fun A1 H2 hS3 => ?_
  simp only [RT] at hS3
  simp (disch := omega) only [↓RA, RZ, simprocAttr, hn, q1]
  refine hS3.eStore 1 rfl [(.int .u64 (aC ks i).1), (.int .u64 (aC ks i).2)] rfl rfl dE (by simp) fun H3 hS4 => ?_
  simp only [RT] at hS4
  simp (disch := omega) only [↓RA, RZ, simprocAttr, hn, hS4.ldA 1 rfl, q1]
  refine aB ((a5M (hS4.gl hG) (aC ks i) hmo).tr) ?_
  rintro r H4 ⟨-, hT1⟩
  have hS5 := hS4.trans hT1
  simp only [RT] at hS5
  obtain ⟨mw, rfl⟩ : ∃ w, w = r := ⟨r, rfl⟩
  simp (disch := omega) only [↓RA, RZ, simprocAttr, hn, (hS5.slo 2 rfl (fun _ => rfl)).len, q1]
  refine Wp.loopS (fun n l H' => l.length = 31 ∧ get l 2 = (.slice none 0 0) ∧ get l 4 = I i ∧ get l 8 = kv ∧ get l 9 = I ks.length ∧ get l 10 = I i ∧ get l 16 = mw ∧ get l 17 = I (gS (aC ks i)).length ∧ ∃ (j : Nat) (ow : Value), (n + j = (gS (aC ks i)).length) ∧ get l 18 = I j ∧ get l 3 = ow ∧ St Tryz.prog H H' [⟨ow, 2, pr ((List.range i).flatMap (plD ks) ++ ((gS (aC ks i)).take j).map fun z => ((i : Int), z))⟩, ⟨ptr A1 0 2, 0, [(.int .u64 (aC ks i).1), (.int .u64 (aC ks i).2)]⟩, ⟨mw, 1, (gS (aC ks i)).flatMap (one I)⟩]) (gS (aC ks i)).length ?_ ?_
  ·simp (disch := omega) only [RB, RC, simprocAttr, hn, g2, g8, g9, lX, g3]
   refine ⟨0, ov, by omega, rfl, rfl, ?_⟩
   rw [List.take_zero, List.map_nil, List.append_nil]
   exact hS5
  rintro n l H5 ⟨hn, g2, g4, g8, g9, lX, g16, g17, j, ow, hj, g18, g3, hS6⟩
  simp (disch := omega) only [↓RA, RB, simprocAttr, hn, g17, g18]
  refine aA (fun q2 => ?_) (fun q2 => ?_)
  ·have hroom : (pr ((List.range i).flatMap (plD ks) ++ ((gS (aC ks i)).take j).map fun z => ((i : Int), z))).length ≤ 4000 := by
    rw [aI, List.length_append, List.length_map, List.length_take]
    omega
   simp (disch := omega) only [↓RA, RZ, simprocAttr, hn, g4, g16, g18, g3, (hS6.slo 2 rfl (fun _ => rfl)).idx, (hS6.slo 2 rfl (fun _ => rfl)).ld, one, jD, q2]
   refine hS6.eSlice [I i, I (aC (gS (aC ks i)) j)] jZ xN rfl rfl (by simp [Value.cells]) rfl rfl (by decide) (by decide) fun w1 H6 hS7 => ?_
   simp only [RT] at hS7
   simp (disch := omega) only [↓RA, RZ, simprocAttr, hn, q2]
   refine hS7.eAppend 0 rfl (hS7.rd 3 rfl) jZ (by have h := hroom; simp only [List.length_cons, List.length_nil]; omega) fun w2 H7 hS8 => ?_
   simp only [RT] at hS8
   simp (disch := omega) only [↓RA, RZ, simprocAttr, hn, g2, g4, g8, g9, lX, g16, g17, g18, q2]
   refine ⟨n - 1, by omega, j + 1, w2, by omega, by simp, rfl, ?_⟩
   rw [List.take_add_one, List.getElem?_eq_getElem (by omega), Option.toList_some, List.map_append, ← List.append_assoc, bL]
   rw [show (gS (aC ks i))[j] = aC (gS (aC ks i)) j from (cF _ _ (by omega)).symm]
   exact hS8.pick [0, 1, 2] (by decide) rfl
  simp (disch := omega) only [↓RA, RZ, simprocAttr, hn, g2, g8, g9, lX, g3, q2]
  have hjj : j = (gS (aC ks i)).length := by omega
  refine ⟨ks.length - (i + 1), by omega, i + 1, ow, by omega, by simp, rfl, ?_⟩
  rw [List.range_succ, List.flatMap_append, List.flatMap_cons, List.flatMap_nil, List.append_nil]
  rw [show plD ks i = ((gS (aC ks i)).take j).map (fun z => ((i : Int), z)) from by rw [hjj, List.take_length]; rfl]
  exact hS6.pick [0] (by decide) rfl
 have hii : i = ks.length := by omega
 simp (disch := omega) only [↓RA, RZ, simprocAttr, hn, g3, c3i, q1]
 have hfin := hS2
 rw [hii] at hfin
 exact hfin
end Go.Ds
namespace Go.Ds
open Go.Proofs
set_option maxRecDepth 10000
def fC (x : Nt) (z : Int) : Bool := if z < 64 then x.1.testBit z.toNat else x.2.testBit (z - 64).toNat
theorem kA {x i : Nat} : i ∈ gG x ↔ i < 64 ∧ x.testBit i = true := by
 unfold gG
 rw [List.mem_filter, List.mem_range]
theorem vZ {x : Nt} {z : Int} : z ∈ gS x ↔ isN z ∧ fC x z = true := by
 unfold gS fC isN
 rw [List.mem_append, List.mem_map, List.mem_map]
 constructor
 ·rintro (⟨i, hi, rfl⟩ | ⟨i, hi, rfl⟩)
  ·obtain ⟨h1, h2⟩ := kA.1 hi
   exact ⟨by omega, by rw [if_pos (by omega)]; exact h2⟩
  ·obtain ⟨h1, h2⟩ := kA.1 hi
   refine ⟨by omega, ?_⟩
   rw [if_neg (by omega), show (64 + (i : Int) - 64).toNat = i by omega]
   exact h2
 ·rintro ⟨h1, h2⟩
  by_cases h : z < 64
  ·rw [if_pos h] at h2
   exact .inl ⟨z.toNat, kA.2 ⟨by omega, h2⟩, by omega⟩
  ·rw [if_neg h] at h2
   exact .inr ⟨(z - 64).toNat, kA.2 ⟨by omega, h2⟩, by omega⟩
theorem a9L (x : Nt) (n z : Int) (hn : isN n) (hz : isN z) : fC (kS x n) z = (fC x z || decide (z = n)) := by
 unfold fC kS isN at *
 by_cases h1 : n < 64
 ·rw [if_pos h1]
  by_cases h2 : z < 64
  ·rw [if_pos h2, if_pos h2, Nat.testBit_or, Nat.testBit_two_pow]
   congr 1
   rw [decide_eq_decide]
   omega
  ·rw [if_neg h2, if_neg h2, decide_eq_false (by omega), Bool.or_false]
 ·rw [if_neg h1]
  by_cases h2 : z < 64
  ·rw [if_pos h2, if_pos h2, decide_eq_false (by omega), Bool.or_false]
  ·rw [if_neg h2, if_neg h2, Nat.testBit_or, Nat.testBit_two_pow]
   congr 1
   rw [decide_eq_decide]
   omega
theorem zQ (z : Int) : fC (0, 0) z = false := by
 unfold fC
 split <;> simp
theorem zL : ∀ (xs : List Int) (x : Nt) (z : Int), (∀ n ∈ xs, isN n) → isN z → fC (xs.foldl kS x) z = (fC x z || decide (z ∈ xs))
 | [], x, z, _, _ => by simp
 | n :: xs, x, z, h, hz => by
   rw [List.foldl_cons, zL xs _ z (fun y hy => h y (List.mem_cons_of_mem _ hy)) hz, a9L x n z (h n (List.mem_cons_self ..)) hz, Bool.or_assoc]
   congr 1
   rw [Bool.eq_iff_iff]
   simp
theorem vQ {xs : List Int} {z : Int} (h : ∀ n ∈ xs, isN n) (hz : isN z) : fC (bD xs) z = decide (z ∈ xs) := by
 unfold bD
 rw [zL xs _ z h hz, zQ, Bool.false_or]
theorem wZ {lo hi z : Int} (h0 : 0 ≤ lo) (h2 : hi ≤ 127) (hz : isN z) : fC (sA lo hi) z = (decide (lo ≤ z) && decide (z ≤ hi)) := by
 unfold sA
 rw [vQ (fun n hn => by
  obtain ⟨k, hk, rfl⟩ := List.mem_map.1 hn
  have := List.mem_range.1 hk
  exact ⟨by omega, by omega⟩) hz, Bool.eq_iff_iff, Bool.and_eq_true, decide_eq_true_eq, decide_eq_true_eq, decide_eq_true_eq, List.mem_map]
 constructor
 ·rintro ⟨k, hk, rfl⟩
  have := List.mem_range.1 hk
  omega
 ·rintro ⟨h3, h4⟩
  exact ⟨(z - lo).toNat, List.mem_range.2 (by omega), by omega⟩
theorem a6C {x y : Nt} (hx : Nt.Ok x) {z : Int} (hz : isN z) : fC (woF x y) z = (fC x z && !fC y z) := by
 obtain ⟨h1, h2⟩ := hz
 unfold fC woF
 by_cases h : z < 64
 ·rw [if_pos h, if_pos h, if_pos h, a1S _ _ _ hx.1 (by omega)]
 ·rw [if_neg h, if_neg h, if_neg h, a1S _ _ _ hx.2 (by omega)]
theorem wR {x y : Nt} (hx : Nt.Ok x) (h : woF x y = (0, 0)) {z : Int} (hz : isN z) (hh : fC x z = true) : fC y z = true := by
 have := a6C (y := y) hx hz
 rw [h, zQ, hh] at this
 simpa using this.symm
theorem gL {o : Org} {ks : List Nt} (h : gU o ks = 0) : organE o = 0 ∧ ks.length = o.dvs.length ∧ ∀ j, j < o.dvs.length → woF (aC ks j) (sA (aC o.dvs j).lo (aC o.dvs j).hi) = (0, 0) := by
 unfold gU at h
 split at h
 ·rename_i hh; exact absurd h hh
 rename_i h1
 split at h
 ·omega
 rename_i h2
 split at h
 ·omega
 rename_i h3
 refine ⟨Classical.not_not.1 h1, by omega, fun j hj => ?_⟩
 by_cases hh : woF (aC ks j) (sA (aC o.dvs j).lo (aC o.dvs j).hi) = (0, 0)
 ·exact hh
 ·exact absurd ⟨j, hj, hh⟩ h3
theorem nI {o : Org} {ks : List Nt} (hok : ∀ x ∈ ks, Nt.Ok x) (h : gU o ks = 0) : ∀ c ∈ aO ks, iM o c = true := by
 obtain ⟨h1, h2, h3⟩ := gL h
 have hf := Org.fine h1
 intro c hc
 unfold aO at hc
 obtain ⟨i, hi, hc⟩ := List.mem_flatMap.1 hc
 have hi := List.mem_range.1 hi
 unfold plD at hc
 obtain ⟨z, hz, rfl⟩ := List.mem_map.1 hc
 obtain ⟨hz1, hz2⟩ := vZ.1 hz
 have hky := hf.keys i (by omega)
 have hw := wR (hok _ (aF hi)) (h3 i (by omega)) hz1 hz2
 rw [wZ hky.1 hky.2.2 hz1] at hw
 simp only [Bool.and_eq_true, decide_eq_true_eq] at hw
 unfold iM
 simp only [Bool.and_eq_true, decide_eq_true_eq, Int.toNat_natCast]
 omega
theorem nH {o : Org} {ks : List Nt} (h : gU o ks = 0) : (aO ks).length ≤ 1024 := by
 obtain ⟨h1, h2, _⟩ := gL h
 have h8 := (Org.fine h1).dlen
 have := b1R ks ks.length
 unfold aO
 omega
end Go.Ds
namespace Go.Ds
open Go.Proofs
set_option maxRecDepth 10000
structure SegsOk (m : Nat) (lo hi : Int) (gs : List Seg) : Prop where
 ord : ∀ i, i < gs.length → (aC gs i).lo ≤ (aC gs i).hi
 up : ∀ i, i < gs.length → 0 < i → (aC gs (i - 1)).hi < (aC gs i).lo
 within : ∀ i, i < gs.length → lo ≤ (aC gs i).lo ∧ (aC gs i).hi ≤ hi
 draws : ∀ i, i < gs.length → dA m (aC gs i).draws = 0
 len : gs.length ≤ 12
theorem SegsOk.lt {m : Nat} {lo hi : Int} {gs : List Seg} (h : SegsOk m lo hi gs) {i : Nat} : ∀ k, i + 1 + k < gs.length → (aC gs i).hi < (aC gs (i + 1 + k)).lo
 | 0, hk => h.up (i + 1) hk (by omega)
 | k + 1, hk => by
   have h1 := h.lt (i := i) k (by omega)
   have h2 := h.ord (i + 1 + k) (by omega)
   have h3 := h.up (i + 1 + (k + 1)) hk (by omega)
   rw [show i + 1 + (k + 1) - 1 = i + 1 + k by omega] at h3
   omega
theorem SegsOk.one {m : Nat} {lo hi : Int} {gs : List Seg} (h : SegsOk m lo hi gs) {key : Int} {i j : Nat} (hi' : i < gs.length) (hj : j < gs.length) (h1 : (aC gs i).lo ≤ key ∧ key ≤ (aC gs i).hi) (h2 : (aC gs j).lo ≤ key ∧ key ≤ (aC gs j).hi) : i = j := by
 rcases Nat.lt_trichotomy i j with e | e | e
 ·have := h.lt (i := i) (j - i - 1) (by omega)
  rw [show i + 1 + (j - i - 1) = j by omega] at this
  omega
 ·exact e
 ·have := h.lt (i := j) (i - j - 1) (by omega)
  rw [show j + 1 + (i - j - 1) = i by omega] at this
  omega
def jX (r : Reg) (q : List Ct) (c : Ct) : List Ct := if !r.off.testBit c.1.toNat && !decide (c ∈ q) then q ++ [c] else q
def b0o (o : Org) (r : Reg) (l : List Ct) : List Ct := lW (l.foldl (jX r) (bfs o r.cpl 1100 0 (cE o r.cpl l)))
theorem wB {r : Reg} : ∀ {l q : List Ct} {x : Ct}, x ∈ l.foldl (jX r) q ↔ x ∈ q ∨ (x ∈ l ∧ r.off.testBit x.1.toNat = false)
 | [], q, x => by simp
 | c :: l, q, x => by
   rw [List.foldl_cons, wB]
   unfold jX
   by_cases h1 : r.off.testBit c.1.toNat = false
   ·by_cases h2 : c ∈ q
    ·rw [if_neg (by simp [h2])]
     constructor
     ·rintro (h | ⟨h, k⟩)
      ·exact .inl h
      ·exact .inr ⟨List.mem_cons_of_mem _ h, k⟩
     ·rintro (h | ⟨h, k⟩)
      ·exact .inl h
      ·rcases List.mem_cons.1 h with e | e
       ·exact .inl (by rw [e]; exact h2)
       ·exact .inr ⟨e, k⟩
    ·rw [if_pos (by simp [h1, h2])]
     constructor
     ·rintro (h | ⟨h, k⟩)
      ·rcases List.mem_append.1 h with h | h
       ·exact .inl h
       ·have := List.mem_singleton.1 h
        subst this
        exact .inr ⟨List.mem_cons_self .., h1⟩
      ·exact .inr ⟨List.mem_cons_of_mem _ h, k⟩
     ·rintro (h | ⟨h, k⟩)
      ·exact .inl (List.mem_append.2 (.inl h))
      ·rcases List.mem_cons.1 h with e | e
       ·exact .inl (List.mem_append.2 (.inr (by rw [e]; simp)))
       ·exact .inr ⟨e, k⟩
   ·rw [if_neg (by simp [h1])]
    constructor
    ·rintro (h | ⟨h, k⟩)
     ·exact .inl h
     ·exact .inr ⟨List.mem_cons_of_mem _ h, k⟩
    ·rintro (h | ⟨h, k⟩)
     ·exact .inl h
     ·rcases List.mem_cons.1 h with e | e
      ·subst e; exact absurd k h1
      ·exact .inr ⟨e, k⟩
theorem oG {r : Reg} : ∀ {l q : List Ct}, q.Nodup → (l.foldl (jX r) q).Nodup
 | [], _, h => h
 | c :: l, q, h => by
   rw [List.foldl_cons]
   refine oG ?_
   unfold jX
   split
   ·rename_i hh
    simp only [Bool.and_eq_true, Bool.not_eq_true', decide_eq_false_iff_not] at hh
    rw [List.nodup_append]
    exact ⟨h, by simp, fun a ha b hb e => hh.2 (by simp at hb; rw [← hb, ← e]; exact ha)⟩
   ·exact h
theorem b6r {l : List Ct} (h : l.Nodup) : (lW l).Pairwise xR := by
 have h1 : (lW l).Nodup := (eI l).nodup_iff.2 h
 refine List.Pairwise.imp₂ ?_ (kZ l) h1
 intro a b h2 h3
 rw [fA] at h2
 unfold xR
 by_cases e : a.1 = b.1
 ·by_cases e2 : a.2 = b.2
  ·exact absurd (Prod.ext e e2) h3
  ·omega
 ·omega
theorem a0G {o : Org} (cp : Nat) : ∀ (n i : Nat) (q : List Ct), Que o q → Que o (bfs o cp n i q)
 | 0, _, _, h => h
 | n + 1, i, q, h => by
   rw [bfs]
   split
   ·exact a0G cp n (i + 1) _ (h.stepF cp true _)
   ·exact h
theorem b1f (o : Org) (r : Reg) (l : List Ct) : b0o o r l = eR o r l := by
 unfold b0o eR
 refine rI _ _ (b6r (oG (a0G r.cpl 1100 0 _ (vJ o r.cpl l)).1)) (b7U _) fun x => ?_
 rw [b3T, (eI _).mem_iff, wB, List.mem_append, List.mem_filter]
 constructor
 ·rintro (h | ⟨h, k⟩)
  ·exact .inr h
  ·exact .inl ⟨h, by simpa using k⟩
 ·rintro (⟨h, k⟩ | h)
  ·exact .inr ⟨h, by simpa using k⟩
  ·exact .inl h
def vK (o : Org) (ks : List Nt) (i : Nat) : List Ct := ((List.range ((aC o.dvs i).hi - (aC o.dvs i).lo + 1).toNat).filter fun (j : Nat) => fC (aC ks i) ((aC o.dvs i).lo + (j : Int))).map fun (j : Nat) => ((i : Int), (aC o.dvs i).lo + (j : Int))
def a5s (o : Org) (ks : List Nt) : List Ct := (List.range o.dvs.length).flatMap (vK o ks)
theorem oI {f : Nat → List Ct} (h1 : ∀ i, (f i).Pairwise xR) (h2 : ∀ i, ∀ c ∈ f i, c.1 = (i : Int)) : ∀ n, ((List.range n).flatMap f).Pairwise xR
 | 0 => .nil
 | n + 1 => by
   rw [List.range_succ, List.flatMap_append, List.flatMap_cons, List.flatMap_nil, List.append_nil, List.pairwise_append]
   refine ⟨oI h1 h2 n, h1 n, fun a ha b hb => ?_⟩
   obtain ⟨i, hi, ha⟩ := List.mem_flatMap.1 ha
   have hi := List.mem_range.1 hi
   unfold xR
   rw [h2 i a ha, h2 n b hb]
   omega
theorem b4y (o : Org) (ks : List Nt) (i : Nat) : (vK o ks i).Pairwise xR := by
 unfold vK
 rw [List.pairwise_map]
 refine List.Pairwise.imp ?_ (List.Pairwise.filter _ List.pairwise_lt_range)
 intro a b h
 unfold xR
 omega
theorem a1v (x : Nt) : (gS x).Pairwise (· < ·) := by
 unfold gS
 rw [List.pairwise_append, List.pairwise_map, List.pairwise_map]
 have h : ∀ n, (gG n).Pairwise (· < ·) := fun n => List.Pairwise.filter _ List.pairwise_lt_range
 refine ⟨(h _).imp (by intro a b h; omega), (h _).imp (by intro a b h; omega), fun a ha b hb => ?_⟩
 obtain ⟨i, hi, rfl⟩ := List.mem_map.1 ha
 obtain ⟨j, _, rfl⟩ := List.mem_map.1 hb
 have := (kA.1 hi).1
 omega
theorem b7u (ks : List Nt) (i : Nat) : (plD ks i).Pairwise xR := by
 unfold plD
 rw [List.pairwise_map]
 exact (a1v _).imp fun h => .inr ⟨rfl, h⟩
theorem a7G (ks : List Nt) : (aO ks).Pairwise xR := oI (b7u ks) (fun i c hc => by
 unfold plD at hc
 obtain ⟨z, _, rfl⟩ := List.mem_map.1 hc
 rfl) _
theorem b4Z {o : Org} {ks : List Nt} (hok : ∀ x ∈ ks, Nt.Ok x) (h : gU o ks = 0) : a5s o ks = aO ks := by
 obtain ⟨h1, h2, h3⟩ := gL h
 have hf := Org.fine h1
 refine rI _ _ (oI (b4y o ks) (fun i c hc => by
  unfold vK at hc
  obtain ⟨z, _, rfl⟩ := List.mem_map.1 hc
  rfl) _) (a7G ks) fun x => ?_
 constructor
 ·intro hx
  obtain ⟨i, hi, hx⟩ := List.mem_flatMap.1 hx
  have hi := List.mem_range.1 hi
  have hk := hf.keys i hi
  unfold vK at hx
  obtain ⟨z, hz, rfl⟩ := List.mem_map.1 hx
  obtain ⟨hz1, hz2⟩ := List.mem_filter.1 hz
  have hz1 := List.mem_range.1 hz1
  unfold aO
  refine List.mem_flatMap.2 ⟨i, List.mem_range.2 (by omega), ?_⟩
  unfold plD
  exact List.mem_map.2 ⟨_, vZ.2 ⟨⟨by omega, by omega⟩, hz2⟩, rfl⟩
 ·intro hx
  unfold aO at hx
  obtain ⟨i, hi, hx⟩ := List.mem_flatMap.1 hx
  have hi := List.mem_range.1 hi
  have hk := hf.keys i (by omega)
  unfold plD at hx
  obtain ⟨z, hz, rfl⟩ := List.mem_map.1 hx
  obtain ⟨hz1, hz2⟩ := vZ.1 hz
  have hw := wR (hok _ (aF hi)) (h3 i (by omega)) hz1 hz2
  rw [wZ hk.1 hk.2.2 hz1, Bool.and_eq_true, decide_eq_true_eq, decide_eq_true_eq] at hw
  unfold a5s
  refine List.mem_flatMap.2 ⟨i, List.mem_range.2 (by omega), ?_⟩
  unfold vK
  refine List.mem_map.2 ⟨(z - (aC o.dvs i).lo).toNat, List.mem_filter.2 ⟨List.mem_range.2 (by omega), ?_⟩, ?_⟩
  ·rw [show (aC o.dvs i).lo + ((z - (aC o.dvs i).lo).toNat : Int) = z by omega]
   exact hz2
  ·rw [show (aC o.dvs i).lo + ((z - (aC o.dvs i).lo).toNat : Int) = z by omega]
end Go.Ds
namespace Go.Ds
open Go.Proofs
variable {H : Heap}
set_option maxRecDepth 10000
set_option maxHeartbeats 1000000
def a9R (o : Org) (l : List (Value × Reg)) (ks : List Nt) : Int := if jJ o l ≠ 0 then jJ o l else gU o ks
theorem a9m (o : Org) (ho : o.In H) (lv : Value) (xs : List (Value × Reg)) (hl : Sl 3 rgc H lv xs) (hle : xs.length < 1000000000) (hr : ∀ p ∈ xs, p.2.In H p.1) (kv : Value) (ks : List Nt) (hk : Ks H kv ks) :
 Fn Tryz.prog 45 [.agg #[.string o.name, o.rv, o.dv, o.cv], lv, kv] H fun r H' => r = I (a9R o xs ks) ∧ St Tryz.prog H H' [] := by
 refine Fn.of_sw Tryz.func45 rfl (by kernel_rfl) fun l hl => ?_
 have hn : l.length = 17 := by rw [hl]; rfl
 have g0 : get l 0 = (.agg #[(.string o.name), o.rv, o.dv, o.cv]) := by rw [hl]; rfl
 have g1 : get l 1 = lv := by rw [hl]; rfl
 have g2 : get l 2 = kv := by rw [hl]; rfl
 clear hl
 simp (disch := omega) only [↓RA, RB, simprocAttr, g0]
 refine (St.refl Tryz.prog H).eNew 4 [(.string o.name), o.rv, o.dv, o.cv] rfl rfl (by simp [OC, ((St.refl Tryz.prog H).sl ho.1).cells.2.1, ((St.refl Tryz.prog H).sl ho.2.2.1).cells.2.1, ((St.refl Tryz.prog H).sl ho.2.2.2.2.1).cells.2.1]) fH fun A1 H1 hS1 => ?_
 simp only [RT] at hS1
 simp (disch := omega) only [↓RA, RZ, simprocAttr, hn, g1, hS1.ldA 0 rfl]
 refine aB (a7H o (ho.keep hS1) lv xs (hS1.sl hl) hle (fun p hp => (hr p hp).keep hS1)) ?_
 rintro r H2 ⟨rfl, hT1⟩
 have hS2 := hS1.trans hT1
 simp only [RT] at hS2
 simp (disch := omega) only [↓RA, RB, simprocAttr, hn]
 refine aA (fun h1 => ?_) (fun h1 => ?_)
 ·simp (disch := omega) only [↓RA, RZ, simprocAttr, hn, c0X, h1]
  exact ⟨by unfold a9R; rw [if_pos h1], hS2.forget⟩
 simp (disch := omega) only [↓RA, RZ, simprocAttr, hn, g2, hS2.ldA 0 rfl, h1]
 refine aB (b1U o (ho.keep hS2) kv ks (hk.keep hS2)) ?_
 rintro r H3 ⟨rfl, hT2⟩
 have hS3 := hS2.trans hT2
 simp only [RT] at hS3
 simp (disch := omega) only [↓RA, RZ, simprocAttr, hn, c0X, h1]
 exact ⟨by unfold a9R; rw [if_neg h1], hS3.forget⟩
def rkE (o : Org) (rg : Reg) (ks : List Nt) : Int := if jH o rg ≠ 0 then jH o rg else gU o ks
theorem a3d (o : Org) (sv : Value) (rg : Reg) (ks : List Nt) : a9R o [(sv, rg)] ks = rkE o rg ks := by
 unfold a9R rkE
 rw [a1D]
theorem a2N {o : Org} {rg : Reg} {ks : List Nt} (h : rkE o rg ks = 0) : jH o rg = 0 ∧ gU o ks = 0 := by
 unfold rkE at h
 split at h
 ·rename_i hh; exact absurd h hh
 ·rename_i hh; exact ⟨Classical.not_not.1 hh, h⟩
def yC (o : Org) (rg : Reg) (ks : List Nt) : List Ct := if rkE o rg ks = 0 then a5K o rg (aO ks) else []
def a3q (o : Org) (rg : Reg) (ks : List Nt) : List Ct := if rkE o rg ks = 0 then eR o rg (aO ks) else []
theorem sV (hG : Glob gH H) (o : Org) (ho : o.In H) (rg : Reg) (sv : Value) (hr : rg.In H sv) (kv : Value) (ks : List Nt) (hk : Ks H kv ks) :
 Fn Tryz.prog 20 [.agg #[.string o.name, o.rv, o.dv, o.cv], .agg #[sv, .int .u64 rg.cpl, .int .u64 rg.off], kv] H fun r H' => ∃ pv, r = .tuple #[pv, I (rkE o rg ks)] ∧ Slx 2 cA H' (fun B => H.length ≤ B) pv (yC o rg ks) ∧ St Tryz.prog H H' [] := by
 refine Fn.of_sw Tryz.func20 rfl (by kernel_rfl) fun l hl => ?_
 have hn : l.length = 22 := by rw [hl]; rfl
 have g0 : get l 0 = (.agg #[(.string o.name), o.rv, o.dv, o.cv]) := by rw [hl]; rfl
 have g1 : get l 1 = (.agg #[sv, (.int .u64 rg.cpl), (.int .u64 rg.off)]) := by rw [hl]; rfl
 have g2 : get l 2 = kv := by rw [hl]; rfl
 clear hl
 simp (disch := omega) only [↓RA, RB, simprocAttr, g0]
 refine (St.refl Tryz.prog H).eNew 4 [(.string o.name), o.rv, o.dv, o.cv] rfl rfl (by simp [OC, ((St.refl Tryz.prog H).sl ho.1).cells.2.1, ((St.refl Tryz.prog H).sl ho.2.2.1).cells.2.1, ((St.refl Tryz.prog H).sl ho.2.2.2.2.1).cells.2.1]) fH fun A1 H1 hS1 => ?_
 simp only [RT] at hS1
 simp (disch := omega) only [↓RA, RB, simprocAttr, g1]
 refine hS1.eNew 3 [sv, (.int .u64 rg.cpl), (.int .u64 rg.off)] rfl rfl (by simp [OC, (hS1.sl hr.1).cells.2.1]) jU fun A2 H2 hS2 => ?_
 simp only [RT] at hS2
 simp (disch := omega) only [↓RA, RZ, simprocAttr, hn, hS2.ldA 0 rfl, hS2.ldA 1 rfl]
 refine hS2.eSlice [sv, (.int .u64 rg.cpl), (.int .u64 rg.off)] b5B b5u rfl rfl (by first | (simp []; done) | simp [Value.cells]) (by first | (simp []; done) | simp [Value.cells]) (by simp [OC, (hS2.sl hr.1).cells.2.1]) (by decide) (by decide) fun w1 H3 hS3 => ?_
 simp only [RT] at hS3
 simp (disch := omega) only [↓RA, RZ, simprocAttr, hn, g2]
 refine aB (a9m o (ho.keep hS3) w1 [(sv, rg)] (hS3.slo 2 rfl (fun _ => rfl)) (by simp) (by intro p hp; rw [List.mem_singleton.1 hp]; exact hr.keep hS3) kv ks (hk.keep hS3)) ?_
 rintro r H4 ⟨rfl, hT1⟩
 have hS4 := hS3.trans hT1
 simp only [RT] at hS4
 have hsc := a3d o sv rg ks
 simp (disch := omega) only [↓RA, RB, simprocAttr, hn, hsc]
 refine aA (fun h1 => ?_) (fun h1 => ?_)
 ·simp (disch := omega) only [↓RA, RZ, simprocAttr, hn, c0G, hsc, h1]
  exact ⟨.slice none 0 0, rfl, ⟨⟨.inl ⟨rfl, by rw [yC, if_neg h1]; rfl⟩, cN, by decide⟩, fun b h => by simp [cC] at h⟩, hS4.forget⟩
 have h0 := Classical.not_not.1 h1
 obtain ⟨hz1, hk0⟩ := a2N h0
 obtain ⟨hz3, hz4⟩ := pA hz1
 have hf := Org.fine hz3
 have h8 : ks.length ≤ 8 := by
  have := hf.dlen
  have := (gL hk0).2.1
  omega
 simp (disch := omega) only [↓RA, RC, simprocAttr, hsc, h1]
 refine Wp.drwT cB [(0, 4), (1, 4)] (by kernel_rfl) (by kernel_rfl) ?_
 simp (disch := omega) only [↓RA, RZ, simprocAttr, hn, g2, hS4.ldA 0 rfl, hS4.ldA 1 rfl]
 refine aB ((zJ (hS4.gl hG) kv ks (hk.keep hS4) h8).tr) ?_
 rintro r H5 ⟨-, hT2⟩
 have hS5 := hS4.trans hT2
 simp only [RT] at hS5
 obtain ⟨pv, rfl⟩ : ∃ w, w = r := ⟨r, rfl⟩
 simp (disch := omega) only [↓RA, RZ, simprocAttr, hn]
 have hSd := hS5
 refine aB (a3a o (ho.keep hS5) hf rg sv (hr.keep hS5) hz4 pv (aO ks) (hS5.slo 3 rfl cN) (nH hk0) (nI hk.ok hk0)) ?_
 rintro r H6 ⟨hx, hT3⟩
 have hS6 := hS5.trans hT3
 simp only [RT] at hS6
 obtain ⟨qv, rfl⟩ : ∃ w, w = r := ⟨r, rfl⟩
 simp (disch := omega) only [↓RA, RZ, simprocAttr, hn, hS5.ldA 0 rfl, hS5.ldA 1 rfl, c0G, hx.1.noTup]
 rw [h0]
 refine ⟨qv, rfl, ⟨?_, fun b h => ?_⟩, hS6.forget⟩
 ·rw [yC, if_pos h0]
  exact hx.1
 ·have := hx.2 b h
  have : H.length ≤ _ := hSd.len
  omega
theorem qT (hG : Glob gH H) (o : Org) (ho : o.In H) (rg : Reg) (sv : Value) (hr : rg.In H sv) (kv : Value) (ks : List Nt) (hk : Ks H kv ks) :
 Fn Tryz.prog 15 [.agg #[.string o.name, o.rv, o.dv, o.cv], .agg #[sv, .int .u64 rg.cpl, .int .u64 rg.off], kv] H fun r H' => ∃ pv, r = .tuple #[pv, I (rkE o rg ks)] ∧ Slx 2 cA H' (fun B => H.length ≤ B) pv (a3q o rg ks) ∧ St Tryz.prog H H' [] := by
 refine Fn.of_sw Tryz.func15 rfl (by kernel_rfl) fun l hl => ?_
 have hn : l.length = 22 := by rw [hl]; rfl
 have g0 : get l 0 = (.agg #[(.string o.name), o.rv, o.dv, o.cv]) := by rw [hl]; rfl
 have g1 : get l 1 = (.agg #[sv, (.int .u64 rg.cpl), (.int .u64 rg.off)]) := by rw [hl]; rfl
 have g2 : get l 2 = kv := by rw [hl]; rfl
 clear hl
 simp (disch := omega) only [↓RA, RB, simprocAttr, g0]
 refine (St.refl Tryz.prog H).eNew 4 [(.string o.name), o.rv, o.dv, o.cv] rfl rfl (by simp [OC, ((St.refl Tryz.prog H).sl ho.1).cells.2.1, ((St.refl Tryz.prog H).sl ho.2.2.1).cells.2.1, ((St.refl Tryz.prog H).sl ho.2.2.2.2.1).cells.2.1]) fH fun A1 H1 hS1 => ?_
 simp only [RT] at hS1
 simp (disch := omega) only [↓RA, RB, simprocAttr, g1]
 refine hS1.eNew 3 [sv, (.int .u64 rg.cpl), (.int .u64 rg.off)] rfl rfl (by simp [OC, (hS1.sl hr.1).cells.2.1]) jU fun A2 H2 hS2 => ?_
 simp only [RT] at hS2
 simp (disch := omega) only [↓RA, RZ, simprocAttr, hn, hS2.ldA 0 rfl, hS2.ldA 1 rfl]
 refine hS2.eSlice [sv, (.int .u64 rg.cpl), (.int .u64 rg.off)] b5B b5u rfl rfl (by first | (simp []; done) | simp [Value.cells]) (by first | (simp []; done) | simp [Value.cells]) (by simp [OC, (hS2.sl hr.1).cells.2.1]) (by decide) (by decide) fun w1 H3 hS3 => ?_
 simp only [RT] at hS3
 simp (disch := omega) only [↓RA, RZ, simprocAttr, hn, g2]
 refine aB (a9m o (ho.keep hS3) w1 [(sv, rg)] (hS3.slo 2 rfl (fun _ => rfl)) (by simp) (by intro p hp; rw [List.mem_singleton.1 hp]; exact hr.keep hS3) kv ks (hk.keep hS3)) ?_
 rintro r H4 ⟨rfl, hT1⟩
 have hS4 := hS3.trans hT1
 simp only [RT] at hS4
 have hsc := a3d o sv rg ks
 simp (disch := omega) only [↓RA, RB, simprocAttr, hn, hsc]
 refine aA (fun h1 => ?_) (fun h1 => ?_)
 ·simp (disch := omega) only [↓RA, RZ, simprocAttr, hn, c1c, hsc, h1]
  exact ⟨.slice none 0 0, rfl, ⟨⟨.inl ⟨rfl, by rw [a3q, if_neg h1]; rfl⟩, cN, by decide⟩, fun b h => by simp [cC] at h⟩, hS4.forget⟩
 have h0 := Classical.not_not.1 h1
 obtain ⟨hz1, hk0⟩ := a2N h0
 obtain ⟨hz3, hz4⟩ := pA hz1
 have hf := Org.fine hz3
 have h8 : ks.length ≤ 8 := by
  have := hf.dlen
  have := (gL hk0).2.1
  omega
 simp (disch := omega) only [↓RA, RC, simprocAttr, hsc, h1]
 refine Wp.drwT cB [(0, 4), (1, 4)] (by kernel_rfl) (by kernel_rfl) ?_
 simp (disch := omega) only [↓RA, RZ, simprocAttr, hn, g2, hS4.ldA 0 rfl, hS4.ldA 1 rfl]
 refine aB ((zJ (hS4.gl hG) kv ks (hk.keep hS4) h8).tr) ?_
 rintro r H5 ⟨-, hT2⟩
 have hS5 := hS4.trans hT2
 simp only [RT] at hS5
 obtain ⟨pv, rfl⟩ : ∃ w, w = r := ⟨r, rfl⟩
 simp (disch := omega) only [↓RA, RZ, simprocAttr, hn]
 have hSd := hS5
 refine aB (sN o (ho.keep hS5) hf rg sv (hr.keep hS5) pv (aO ks) (hS5.slo 3 rfl cN) (nH hk0) (nI hk.ok hk0)) ?_
 rintro r H6 ⟨hx, hT3⟩
 have hS6 := hS5.trans hT3
 simp only [RT] at hS6
 obtain ⟨qv, rfl⟩ : ∃ w, w = r := ⟨r, rfl⟩
 simp (disch := omega) only [↓RA, RZ, simprocAttr, hn, hS5.ldA 0 rfl, hS5.ldA 1 rfl, c1c, hx.1.noTup]
 rw [h0]
 refine ⟨qv, rfl, ⟨?_, fun b h => ?_⟩, hS6.forget⟩
 ·rw [a3q, if_pos h0]
  exact hx.1
 ·have := hx.2 b h
  have : H.length ≤ _ := hSd.len
  omega
end Go.Ds
namespace Go.Ds
open Go.Proofs
variable {H : Heap}
set_option maxRecDepth 10000
set_option maxHeartbeats 1000000
end Go.Ds
namespace Go.Ds
open Go.Proofs
variable {H : Heap}
set_option maxRecDepth 10000
set_option maxHeartbeats 1000000
def wI (lo : Int) (w m : Nat) : List Int := ((List.range m).filter fun j => w.testBit j).map fun (j : Nat) => lo + (j : Int)
def nO (lo hi : Int) : Nat := min 16 (hi - lo + 1).toNat
def qL (o : Org) (b : Nat → Nat) (i : Nat) : Nt := bD (wI (aC o.dvs i).lo (b (i % 3)) (nO (aC o.dvs i).lo (aC o.dvs i).hi))
def gZ (o : Org) (b : Nat → Nat) : List Nt := (List.range o.dvs.length).map (qL o b)
theorem b7P (a b : Nat) (h : a < 65536) : ((a : Nat) : Int).fdiv (2 ^ min b (IntKind.bits .u16)) = ((a >>> b : Nat) : Int) := by
 have e : IntKind.bits .u16 = 16 := rfl
 rw [e]
 have h1 : ((a : Nat) : Int).fdiv (2 ^ min b 16) = ((a / 2 ^ min b 16 : Nat) : Int) := by
  rw [Int.fdiv_eq_ediv_of_nonneg _ (by exact Int.le_of_lt (Int.pow_pos (by decide)))]
  simp
 rw [h1, Nat.shiftRight_eq_div_pow]
 by_cases hb : b ≤ 16
 ·rw [Nat.min_eq_left hb]
 ·rw [Nat.min_eq_right (by omega)]
  have h2 : a / 2 ^ 16 = 0 := Nat.div_eq_of_lt (by simpa using h)
  have h3 : a / 2 ^ b = 0 := Nat.div_eq_of_lt (Nat.lt_of_lt_of_le (by simpa using h) (Nat.pow_le_pow_right (by decide) (show 16 ≤ b by omega)))
  rw [h2, h3]
theorem b4A (n : Nat) (h : n < 65536) : IntKind.wrap .u16 ((BitVec.ofInt (IntKind.bits .u16) (n : Int) &&& BitVec.ofInt (IntKind.bits .u16) 1).toNat : Int) = ((n % 2 : Nat) : Int) := by
 have e : (BitVec.ofInt (IntKind.bits .u16) (n : Int) &&& BitVec.ofInt (IntKind.bits .u16) 1).toNat = n % 2 := by
  show (BitVec.ofInt 16 (n : Int) &&& BitVec.ofInt 16 1).toNat = n % 2
  rw [BitVec.toNat_and]
  have h1 : (BitVec.ofInt 16 (n : Int)).toNat = n := by
   rw [BitVec.ofInt_natCast, BitVec.toNat_ofNat]
   exact Nat.mod_eq_of_lt (by simpa using h)
  have h2 : (BitVec.ofInt 16 1).toNat = 1 := rfl
  rw [h1, h2, Nat.and_one_is_mod]
 rw [e]
 have : n % 2 < 2 := Nat.mod_lt _ (by decide)
 have hh : n % 2 = 0 ∨ n % 2 = 1 := by omega
 rcases hh with h | h <;> rw [h] <;> rfl
theorem a9P {a : Nat} (b : Nat) (h : a < 65536) : a >>> b < 65536 := by
 rw [Nat.shiftRight_eq_div_pow]
 exact Nat.lt_of_le_of_lt (Nat.div_le_self _ _) h
theorem a6U (lo : Int) (w m : Nat) : wI lo w (m + 1) = wI lo w m ++ (if w.testBit m then [lo + (m : Int)] else []) := by
 unfold wI
 rw [List.range_succ, List.filter_append, List.map_append]
 congr 1
 cases h : w.testBit m <;> simp [h]
theorem b0I (lo : Int) (w m : Nat) : (wI lo w m).length ≤ m := by
 unfold wI
 rw [List.length_map]
 exact Nat.le_trans (List.length_filter_le _ _) (by simp)
theorem b3A (lo hi : Int) : nO lo hi ≤ 16 := Nat.min_le_left _ _
theorem mU {o : Org} (hf : o.Fine) (w : Nat) {i : Nat} (hi : i < o.dvs.length) : ∀ z ∈ wI (aC o.dvs i).lo w (nO (aC o.dvs i).lo (aC o.dvs i).hi), isN z ∧ (aC o.dvs i).lo ≤ z ∧ z ≤ (aC o.dvs i).hi := by
 intro z hz
 have hk := hf.keys i hi
 unfold wI nO at hz
 obtain ⟨j, hj, rfl⟩ := List.mem_map.1 hz
 have hj := List.mem_range.1 (List.mem_filter.1 hj).1
 exact ⟨⟨by omega, by omega⟩, by omega, by omega⟩
theorem a3H (o : Org) (ho : o.In H) (hf : o.Fine) (b : Nat → Nat) (hb : ∀ i, b i < 65536) :
 Fn Tryz.prog 14 [.agg #[.string o.name, o.rv, o.dv, o.cv], .agg #[.int .u16 (b 0), .int .u16 (b 1), .int .u16 (b 2)]] H fun r H' =>
  St Tryz.prog H H' [⟨r, 2, (gZ o b).flatMap ntc⟩] := by
 have hd8 := hf.dlen
 refine Fn.of_sw Tryz.func14 rfl (by kernel_rfl) fun l hl => ?_
 have hn : l.length = 66 := by rw [hl]; rfl
 have g0 : get l 0 = (.agg #[(.string o.name), o.rv, o.dv, o.cv]) := by rw [hl]; rfl
 have g1 : get l 1 = (.agg #[(.int .u16 (b 0)), (.int .u16 (b 1)), (.int .u16 (b 2))]) := by rw [hl]; rfl
 clear hl
 simp (disch := omega) only [↓RA, RB, simprocAttr, g0]
 refine (St.refl Tryz.prog H).eNew 4 [(.string o.name), o.rv, o.dv, o.cv] rfl rfl (by simp [OC, ((St.refl Tryz.prog H).sl ho.1).cells.2.1, ((St.refl Tryz.prog H).sl ho.2.2.1).cells.2.1, ((St.refl Tryz.prog H).sl ho.2.2.2.2.1).cells.2.1]) fH fun A1 H1 hS1 => ?_
 simp only [RT] at hS1
 simp (disch := omega) only [↓RA, RB, simprocAttr, g1]
 refine hS1.eNew 3 [(.int .u16 (b 0)), (.int .u16 (b 1)), (.int .u16 (b 2))] rfl rfl rfl b8n fun A2 H2 hS2 => ?_
 simp only [RT] at hS2
 simp (disch := omega) only [↓RA, RB, simprocAttr]
 have hS3 := hS2.nil 1
 simp only [RT] at hS3
 refine Wp.loopS (fun n l H' => l.length = 66 ∧ get l 2 = (ptr A1 0 4) ∧ get l 3 = (ptr A2 0 3) ∧ get l 4 = (.slice none 0 0) ∧ ∃ (i : Nat) (kv : Value), (n + i = o.dvs.length) ∧ get l 6 = I i ∧ get l 5 = kv ∧ St Tryz.prog H H' [⟨ptr A1 0 4, 0, [(.string o.name), o.rv, o.dv, o.cv]⟩, ⟨ptr A2 0 3, 0, [(.int .u16 (b 0)), (.int .u16 (b 1)), (.int .u16 (b 2))]⟩, ⟨kv, 2, ((List.range i).map (qL o b)).flatMap ntc⟩]) o.dvs.length ?_ ?_
 ·simp (disch := omega) only [RB, RC, simprocAttr, hn]
  exact ⟨0, .slice none 0 0, by omega, rfl, rfl, hS3⟩
 rintro n l H3 ⟨hn, g2, g3, g4, i, kv, hi, g6, g5, hS4⟩
 simp (disch := omega) only [↓RA, RZ, simprocAttr, hn, g2, g6, hS4.ld 0 rfl, (hS4.sl ho.2.2.1).len]
 refine aA (fun q => ?_) (fun q => ?_)
 ·have hk := hf.keys i (by omega)
  simp (disch := omega) only [↓RA, RZ, simprocAttr, hn, g2, g6, hS4.ld 0 rfl, (hS4.sl ho.2.2.1).idx, (hS4.sl ho.2.2.1).fld, (hS4.sl ho.2.2.1).ldP 2, Dvn.cells, q]
  refine hS4.eNew 2 [I 0, I 0] rfl rfl rfl lN fun A3 H4 hS5 => ?_
  simp only [RT] at hS5
  simp (disch := omega) only [↓RA, RZ, simprocAttr, hn, q]
  refine hS5.eStore 3 rfl [I (aC o.dvs i).lo, I (aC o.dvs i).hi] rfl rfl lN (by simp) fun H5 hS6 => ?_
  simp only [RT] at hS6
  simp (disch := omega) only [↓RA, RZ, simprocAttr, hn, hS6.ld 3 rfl, q]
  have hS7 := hS6.nil 0
  simp only [RT] at hS7
  refine Wp.loopS (fun n l H' => l.length = 66 ∧ get l 2 = (ptr A1 0 4) ∧ get l 3 = (ptr A2 0 3) ∧ get l 4 = (.slice none 0 0) ∧ get l 5 = kv ∧ get l 6 = I i ∧ get l 8 = (ptr A3 0 2) ∧ ∃ (m : Nat) (lv : Value), (n + m = nO (aC o.dvs i).lo (aC o.dvs i).hi) ∧ get l 9 = I ((aC o.dvs i).lo + m) ∧ get l 7 = lv ∧ St Tryz.prog H H' [⟨ptr A1 0 4, 0, [(.string o.name), o.rv, o.dv, o.cv]⟩, ⟨ptr A2 0 3, 0, [(.int .u16 (b 0)), (.int .u16 (b 1)), (.int .u16 (b 2))]⟩, ⟨kv, 2, ((List.range i).map (qL o b)).flatMap ntc⟩, ⟨ptr A3 0 2, 0, [I (aC o.dvs i).lo, I (aC o.dvs i).hi]⟩, ⟨lv, 1, (wI (aC o.dvs i).lo (b (i % 3)) m).flatMap (one I)⟩]) (nO (aC o.dvs i).lo (aC o.dvs i).hi) ?_ ?_
  ·simp (disch := omega) only [RB, RC, simprocAttr, hn, g2, g3, g4, g6, g5]
   exact ⟨0, .slice none 0 0, by omega, by simp, rfl, hS7⟩
  rintro n l H6 ⟨hn, g2, g3, g4, g5, g6, g8, m, lv, hm, g9, g7, hS8⟩
  simp (disch := omega) only [↓RA, RZ, simprocAttr, hn, g8, g9, hS8.ld 3 rfl]
  have hM := b3A (aC o.dvs i).lo (aC o.dvs i).hi
  have hi3 : (i : Int).tmod 3 = ((i % 3 : Nat) : Int) := (Int.ofNat_tmod i 3).symm
  have hw : ([Value.int .u16 (b 0), .int .u16 (b 1), .int .u16 (b 2)] : List Value)[i % 3]? = some (.int .u16 (b (i % 3))) := by
   have : i % 3 = 0 ∨ i % 3 = 1 ∨ i % 3 = 2 := by omega
   rcases this with e | e | e <;> rw [e] <;> rfl
  have hsub : (aC o.dvs i).lo + (m : Int) - (aC o.dvs i).lo = (m : Int) := by omega
  have e1 := b7P (b (i % 3)) m (hb _)
  have e2 := b4A (b (i % 3) >>> m) (a9P m (hb _))
  have e3 := tb (b (i % 3)) m
  have hsu := a6U (aC o.dvs i).lo (b (i % 3)) m
  have hpl := b0I (aC o.dvs i).lo (b (i % 3)) m
  refine bH (fun q1 => ?_) (fun q1 => ?_)
  ·simp (disch := omega) only [↓RA, RZ, simprocAttr, hn, g8, g9, hS8.ld 3 rfl, q1]
   refine aA (fun q2 => ?_) (fun q2 => ?_)
   ·skip
    simp (disch := omega) only [↓RA, RC, simprocAttr, q1, q2]
    refine Wp.drw cB (by kernel_rfl) ?_
    simp (disch := omega) only [↓RA, RZ, simprocAttr, hn, g3, g6, g8, g9, hS8.ld 1 rfl, hw, hS8.ld 3 rfl, hi3, hsub, e1, e2]
    refine aA (fun q3 => ?_) (fun q3 => ?_)
    ·rw [e3, decide_eq_true (by omega), if_pos rfl] at hsu
     simp (disch := omega) only [↓RA, RZ, simprocAttr, hn, g9, g7, q3]
     refine hS8.eSlice [I ((aC o.dvs i).lo + m)] vW a2d rfl rfl (by simp [Value.cells]) rfl rfl (by decide) (by decide) fun w1 H7 hS9 => ?_
     simp only [RT] at hS9
     simp (disch := omega) only [↓RA, RZ, simprocAttr, hn, q3]
     refine hS9.eAppend 4 rfl (hS9.rd 5 rfl) vW (by rw [aS (n := 1) (cel := one I) (fun _ => rfl)]; simp; omega) fun w2 H8 hS10 => ?_
     simp only [RT] at hS10
     simp (disch := omega) only [↓RA, RZ, simprocAttr, hn, g2, g3, g4, g5, g6, g8, g9, q3]
     refine ⟨n - 1, by unfold nO at hm; omega, m + 1, w2, by unfold nO at hm ⊢; omega, by simp; omega, rfl, ?_⟩
     rw [hsu, List.flatMap_append]
     exact hS10.pick [0, 1, 2, 3, 4] (by decide) rfl
    rw [e3, decide_eq_false (by omega), if_neg (by simp), List.append_nil] at hsu
    simp (disch := omega) only [↓RA, RZ, simprocAttr, hn, g2, g3, g4, g5, g6, g8, g9, g7, q3]
    refine ⟨n - 1, by unfold nO at hm; omega, m + 1, lv, by unfold nO at hm ⊢; omega, by simp; omega, rfl, ?_⟩
    rw [hsu]
    exact hS8.pick [0, 1, 2, 3, 4] (by decide) rfl
   have hmM : m = nO (aC o.dvs i).lo (aC o.dvs i).hi := by unfold nO at hm hM ⊢; omega
   have hz := mU hf (b (i % 3)) (show i < o.dvs.length by omega)
   subst hmM
   simp (disch := omega) only [↓RA, RZ, simprocAttr, hn, g7, q1, q2]
   refine aB (oA (wI (aC o.dvs i).lo (b (i % 3)) (nO (aC o.dvs i).lo (aC o.dvs i).hi)) (fun z h => (hz z h).1) lv (hS8.slo 4 rfl (kR _)) (by omega)) ?_
   rintro r H9 ⟨rfl, hT1⟩
   have hS11 := hS8.trans hT1
   simp only [RT] at hS11
   simp (disch := omega) only [↓RA, RZ, simprocAttr, hn, q1, q2]
   refine hS11.eNew 2 [(.int .u64 0), (.int .u64 0)] rfl rfl rfl dE fun A4 H10 hS12 => ?_
   simp only [RT] at hS12
   simp (disch := omega) only [↓RA, RZ, simprocAttr, hn, q1, q2]
   refine hS12.eStore 5 rfl [(.int .u64 (qL o b i).1), (.int .u64 (qL o b i).2)] rfl rfl dE (by simp) fun H11 hS13 => ?_
   simp only [RT] at hS13
   simp (disch := omega) only [↓RA, RZ, simprocAttr, hn, g5, hS13.ldA 5 rfl, q1, q2]
   refine hS13.eSlice [(.int .u64 (qL o b i).1), (.int .u64 (qL o b i).2)] b1t b6p rfl rfl (by simp [Value.cells]) rfl rfl (by decide) (by decide) fun w3 H12 hS14 => ?_
   simp only [RT] at hS14
   simp (disch := omega) only [↓RA, RZ, simprocAttr, hn, q1, q2]
   refine hS14.eAppend 2 rfl (hS14.rd 6 rfl) b1t (by rw [aS (n := 2) (cel := ntc) (fun _ => rfl)]; simp; omega) fun w4 H13 hS15 => ?_
   simp only [RT] at hS15
   simp (disch := omega) only [↓RA, RZ, simprocAttr, hn, g2, g3, g4, g6, q1, q2]
   refine ⟨o.dvs.length - (i + 1), by omega, i + 1, w4, by omega, by simp, rfl, ?_⟩
   rw [List.range_succ, List.map_append, List.flatMap_append]
   exact hS15.pick [0, 1, 2] (by decide) rfl
  have hmM : m = nO (aC o.dvs i).lo (aC o.dvs i).hi := by unfold nO at hm hM ⊢; omega
  have hz := mU hf (b (i % 3)) (show i < o.dvs.length by omega)
  subst hmM
  simp (disch := omega) only [↓RA, RZ, simprocAttr, hn, g7, q1]
  refine aB (oA (wI (aC o.dvs i).lo (b (i % 3)) (nO (aC o.dvs i).lo (aC o.dvs i).hi)) (fun z h => (hz z h).1) lv (hS8.slo 4 rfl (kR _)) (by omega)) ?_
  rintro r H14 ⟨rfl, hT2⟩
  have hS16 := hS8.trans hT2
  simp only [RT] at hS16
  simp (disch := omega) only [↓RA, RZ, simprocAttr, hn, q1]
  refine hS16.eNew 2 [(.int .u64 0), (.int .u64 0)] rfl rfl rfl dE fun A5 H15 hS17 => ?_
  simp only [RT] at hS17
  simp (disch := omega) only [↓RA, RZ, simprocAttr, hn, q1]
  refine hS17.eStore 5 rfl [(.int .u64 (qL o b i).1), (.int .u64 (qL o b i).2)] rfl rfl dE (by simp) fun H16 hS18 => ?_
  simp only [RT] at hS18
  simp (disch := omega) only [↓RA, RZ, simprocAttr, hn, g5, hS18.ldA 5 rfl, q1]
  refine hS18.eSlice [(.int .u64 (qL o b i).1), (.int .u64 (qL o b i).2)] b1t b6p rfl rfl (by simp [Value.cells]) rfl rfl (by decide) (by decide) fun w5 H17 hS19 => ?_
  simp only [RT] at hS19
  simp (disch := omega) only [↓RA, RZ, simprocAttr, hn, q1]
  refine hS19.eAppend 2 rfl (hS19.rd 6 rfl) b1t (by rw [aS (n := 2) (cel := ntc) (fun _ => rfl)]; simp; omega) fun w6 H18 hS20 => ?_
  simp only [RT] at hS20
  simp (disch := omega) only [↓RA, RZ, simprocAttr, hn, g2, g3, g4, g6, q1]
  refine ⟨o.dvs.length - (i + 1), by omega, i + 1, w6, by omega, by simp, rfl, ?_⟩
  rw [List.range_succ, List.map_append, List.flatMap_append]
  exact hS20.pick [0, 1, 2] (by decide) rfl
 simp (disch := omega) only [↓RA, RZ, simprocAttr, hn, g5, c3L, q]
 have hii : i = o.dvs.length := by omega
 subst hii
 exact hS4.pick [2] (by decide) rfl
theorem lD (o : Org) (b : Nat → Nat) : (gZ o b).length = o.dvs.length := by simp [gZ]
theorem a0P {o : Org} {b : Nat → Nat} {i : Nat} (hi : i < o.dvs.length) : aC (gZ o b) i = qL o b i := by
 rw [cF _ i (by rw [lD]; exact hi)]
 simp [gZ]
theorem a6w {o : Org} (hf : o.Fine) (b : Nat → Nat) {i : Nat} (hi : i < o.dvs.length) : Nt.Ok (qL o b i) := nN _ _ (fun z h => (mU hf (b (i % 3)) hi z h).1) ⟨by decide, by decide⟩
theorem a2a {o : Org} (hf : o.Fine) (b : Nat → Nat) : ∀ x ∈ gZ o b, Nt.Ok x := by
 intro x hx
 obtain ⟨i, hi, rfl⟩ := List.mem_map.1 hx
 exact a6w hf b (List.mem_range.1 hi)
theorem b0g {x y : Nt} (hx : Nt.Ok x) (h : ∀ z, isN z → fC x z = true → fC y z = true) : woF x y = (0, 0) := by
 have k : ∀ z, isN z → fC (woF x y) z = false := fun z hz => by
  rw [a6C hx hz]
  cases e : fC x z with
  | false => rfl
  | true => rw [h z hz e]; rfl
 have big : ∀ a : Nat, a < 18446744073709551616 → ∀ j, 64 ≤ j → a.testBit j = false := fun a ha j hj =>
  Nat.testBit_lt_two_pow (Nat.lt_of_lt_of_le (show a < 2 ^ 64 from ha) (Nat.pow_le_pow_right (by decide) hj))
 obtain ⟨h1, h2⟩ := b8G x y
 apply Prod.ext
 ·apply Nat.eq_of_testBit_eq
  intro j
  rw [Nat.zero_testBit]
  by_cases hj : 64 ≤ j
  ·exact big _ h1 j hj
  ·have := k (j : Int) ⟨by omega, by omega⟩
   unfold fC at this
   rw [if_pos (by omega)] at this
   exact this
 ·apply Nat.eq_of_testBit_eq
  intro j
  rw [Nat.zero_testBit]
  by_cases hj : 64 ≤ j
  ·exact big _ h2 j hj
  ·have := k (64 + j : Int) ⟨by omega, by omega⟩
   unfold fC at this
   rw [if_neg (by omega), show (64 + (j : Int) - 64).toNat = j by omega] at this
   exact this
theorem a5q {o : Org} (h0 : organE o = 0) (b : Nat → Nat) : gU o (gZ o b) = 0 := by
 have hf := Org.fine h0
 unfold gU
 rw [if_neg (by rw [h0]; simp), if_neg (by rw [lD]; simp), if_neg]
 rintro ⟨j, hj, hne⟩
 apply hne
 have hk := hf.keys j hj
 rw [a0P hj]
 refine b0g (a6w hf b hj) fun z hz hh => ?_
 rw [qL, vQ (fun n hn => (mU hf (b (j % 3)) hj n hn).1) hz] at hh
 have := mU hf (b (j % 3)) hj z (of_decide_eq_true hh)
 rw [wZ hk.1 hk.2.2 hz, decide_eq_true this.2.1, decide_eq_true this.2.2]
 rfl
end Go.Ds
namespace Go.Ds
open Go.Proofs
set_option maxRecDepth 10000
theorem Star.mono {α : Type} {R R' : α → α → Prop} (h : ∀ a b, R a b → R' a b) {a b : α} (hs : Star R a b) : Star R' a b := by
 induction hs with
 | refl => exact .refl _
 | tail _ h2 ih => exact .tail ih (h _ _ h2)
end Go.Ds
namespace Go.Ds
open Go.Proofs Go.Shelf Go.RowKit Go.Lib Go.Sort
def sm (x : Int × Int) : Prop := -1000000000 ≤ x.1 ∧ x.1 ≤ 1000000000 ∧ -1000000000 ≤ x.2 ∧ x.2 ≤ 1000000000
abbrev Sm := {x : Int × Int // sm x}
instance : Inhabited Sm := ⟨⟨(0, 0), by unfold sm; decide⟩⟩
def cfd (x y : Sm) : Int := if x.1.1 ≠ y.1.1 then x.1.1 - y.1.1 else x.1.2 - y.1.2
theorem ltd (x y : Sm) : ltOf cfd x y = decide (x.1.1 < y.1.1 ∨ (x.1.1 = y.1.1 ∧ x.1.2 < y.1.2)) := by
 unfold ltOf cfd
 congr 1
 apply propext
 split <;> omega
theorem c3u : SWO (ltOf cfd) where
 irrefl x := by rw [ltd]; simp
 trans x y z h1 h2 := by rw [ltd] at *; simp at *; omega
 ntrans x y z h1 h2 := by rw [ltd] at *; simp at *; omega
theorem c4b (x y : Sm) (h1 : ltOf cfd x y = false) (h2 : ltOf cfd y x = false) : x = y := by
 rw [ltd] at *
 simp at h1 h2
 apply Subtype.ext
 apply Prod.ext <;> omega
theorem b8r (x y : Sm) : (!(ltOf cfd) y x) = tS x.1 y.1 := by
 rw [ltd, ← a4N]
 simp only [lt2]
theorem b6h (l : Array Sm) : flatK (fun x : Sm => cA x.1) 2 l = flatK cA 2 (l.map (·.1)) := by
 unfold flatK
 rw [Array.size_map]
 congr 1
 funext t
 congr 2
 by_cases h : t / 2 < l.size
 ·simp [h]
 ·simp [h]
  rfl
theorem b6C (w : World) (cC off n : Nat) (l : List Sm) (os : Array Obj) : sortWorldK (fun x : Sm => cA x.1) 2 w cC off n l.toArray os = sortWorldK cA 2 w cC off n (l.map (·.1)).toArray os := by
 unfold sortWorldK putRowK
 rw [b6h, List.map_toArray]
theorem b9X (l : List (Int × Int)) (h : ∀ x ∈ l, sm x) : (l.attachWith sm h).map (·.1) = l := by
 rw [List.map_attachWith]
 exact List.attach_map_subtype_val l
theorem b8I (l : List Sm) : (l.mergeSort fun x y => !(ltOf cfd) y x).map (·.1) = (l.map (·.1)).mergeSort tS :=
 List.map_mergeSort fun x _ y _ => b8r x y
def b3t (K kc : FuncId) : Prop := ∀ {H : Heap} {B : Base} {os : List Ob} (hS : St Tryz.prog B H os) (i : Nat) {v : Value} {es : List (Int × Int)} (ho : os[i]? = some ⟨v, 2, pr es⟩) (hl : es.length < 100000000000) (hsm : ∀ x ∈ es, sm x) {Q : Value → Heap → Prop}
    (h : ∀ H1, St Tryz.prog B H1 (os.set i ⟨v, 2, pr (lW es)⟩) → Q (.tuple #[]) H1), oH Tryz.prog K [v, .func (.func kc) #[] #[]] H Q
section
variable {H : Heap}
end
end Go.Ds
namespace Go.Ds
open Go.Proofs
variable {H : Heap}
set_option maxRecDepth 10000
set_option maxHeartbeats 1000000
theorem c1k (o : Org) (ho : o.In H) (d z : Int) : Fn Tryz.prog 69 [.agg #[.string o.name, o.rv, o.dv, o.cv], .agg #[I d, I z]] H fun r H' => r = .bool (iM o (d, z)) ∧ St Tryz.prog H H' [] := by
 have hl := ho.2.2.2.2.2.2.1
 by_cases hd : 0 ≤ d
 ·obtain ⟨j, rfl⟩ := Int.eq_ofNat_of_zero_le hd
  refine Fn.of_sw Tryz.func69 rfl (by kernel_rfl) fun l hl => ?_
  have hn : l.length = 42 := by rw [hl]; rfl
  have g0 : get l 0 = (.agg #[(.string o.name), o.rv, o.dv, o.cv]) := by rw [hl]; rfl
  have g1 : get l 1 = (.agg #[I j, I z]) := by rw [hl]; rfl
  clear hl
  simp (disch := omega) only [↓RA, RB, simprocAttr, g0]
  refine (St.refl Tryz.prog H).eNew 4 [(.string o.name), o.rv, o.dv, o.cv] rfl rfl (by simp [OC, ((St.refl Tryz.prog H).sl ho.1).cells.2.1, ((St.refl Tryz.prog H).sl ho.2.2.1).cells.2.1, ((St.refl Tryz.prog H).sl ho.2.2.2.2.1).cells.2.1]) fH fun A1 H1 hS1 => ?_
  simp only [RT] at hS1
  simp (disch := omega) only [↓RA, RB, simprocAttr, g1]
  refine hS1.eNew 2 [I j, I z] rfl rfl rfl gC fun A2 H2 hS2 => ?_
  simp only [RT] at hS2
  simp (disch := omega) only [↓RA, RB, simprocAttr]
  refine Wp.drw cB (by kernel_rfl) ?_
  simp (disch := omega) only [↓RA, RZ, simprocAttr, hn, hS2.ld 1 rfl]
  refine bH (fun g1 => ?_) (fun g1 => ?_)
  rotate_left
  ·exfalso; first | omega | (simp at g1; omega)
  simp (disch := omega) only [↓RA, RZ, simprocAttr, hn, hS2.ld 1 rfl, hS2.ld 0 rfl, (hS2.sl ho.2.2.1).len, g1]
  refine bH (fun g2 => ?_) (fun g2 => ?_)
  ·simp (disch := omega) only [↓RA, RZ, simprocAttr, hn, hS2.ld 1 rfl, hS2.ld 0 rfl, (hS2.sl ho.2.2.1).idx, (hS2.sl ho.2.2.1).fld, (hS2.sl ho.2.2.1).ld, Dvn.cells, g1, g2]
   refine bH (fun g3 => ?_) (fun g3 => ?_)
   ·simp (disch := omega) only [↓RA, RZ, simprocAttr, hn, hS2.ld 1 rfl, hS2.ld 0 rfl, (hS2.sl ho.2.2.1).idx, (hS2.sl ho.2.2.1).fld, (hS2.sl ho.2.2.1).ld, Dvn.cells, b3j, g1, g2, g3]
    exact ⟨by unfold iM; simp only [Int.toNat_natCast]; congr 1; simp; omega, hS2.forget⟩
   simp (disch := omega) only [↓RA, RZ, simprocAttr, hn, b3j, g1, g2, g3]
   exact ⟨by congr 1; symm; rw [← Bool.not_eq_true, fT]; simp only [Int.toNat_natCast]; omega, hS2.forget⟩
  simp (disch := omega) only [↓RA, RZ, simprocAttr, hn, b3j, g1, g2]
  exact ⟨by congr 1; symm; rw [← Bool.not_eq_true, fT]; simp only [Int.toNat_natCast]; omega, hS2.forget⟩
 ·refine Fn.of_sw Tryz.func69 rfl (by kernel_rfl) fun l hl => ?_
  have hn : l.length = 42 := by rw [hl]; rfl
  have g0 : get l 0 = (.agg #[(.string o.name), o.rv, o.dv, o.cv]) := by rw [hl]; rfl
  have g1 : get l 1 = (.agg #[I d, I z]) := by rw [hl]; rfl
  clear hl
  simp (disch := omega) only [↓RA, RB, simprocAttr, g0]
  refine (St.refl Tryz.prog H).eNew 4 [(.string o.name), o.rv, o.dv, o.cv] rfl rfl (by simp [OC, ((St.refl Tryz.prog H).sl ho.1).cells.2.1, ((St.refl Tryz.prog H).sl ho.2.2.1).cells.2.1, ((St.refl Tryz.prog H).sl ho.2.2.2.2.1).cells.2.1]) fH fun A1 H1 hS1 => ?_
  simp only [RT] at hS1
  simp (disch := omega) only [↓RA, RB, simprocAttr, g1]
  refine hS1.eNew 2 [I d, I z] rfl rfl rfl gC fun A2 H2 hS2 => ?_
  simp only [RT] at hS2
  simp (disch := omega) only [↓RA, RB, simprocAttr]
  refine Wp.drw cB (by kernel_rfl) ?_
  simp (disch := omega) only [↓RA, RZ, simprocAttr, hn, hS2.ld 1 rfl]
  refine bH (fun g1 => ?_) (fun g1 => ?_)
  ·exfalso; first | omega | (simp at g1; omega)
  simp (disch := omega) only [↓RA, RZ, simprocAttr, hn, b3j, g1]
  exact ⟨by congr 1; symm; rw [← Bool.not_eq_true, fT]; simp only; omega, hS2.forget⟩
theorem a6d (o : Org) (ho : o.In H) (c : Ct) : Fn Tryz.prog 69 [.agg #[.string o.name, o.rv, o.dv, o.cv], .agg #[I c.1, I c.2]] H fun r H' => r = .bool (iM o c) ∧ St Tryz.prog H H' [] := c1k o ho c.1 c.2
def a3g (o : Org) (ks : List Nt) (i n : Nat) : List Ct := ((List.range n).filter fun (j : Nat) => fC (aC ks i) ((aC o.dvs i).lo + (j : Int))).map fun (j : Nat) => ((i : Int), (aC o.dvs i).lo + (j : Int))
theorem a7L (o : Org) (ks : List Nt) (i n : Nat) : a3g o ks i (n + 1) = a3g o ks i n ++ (if fC (aC ks i) ((aC o.dvs i).lo + (n : Int)) then [((i : Int), (aC o.dvs i).lo + (n : Int))] else []) := by
 unfold a3g
 rw [List.range_succ, List.filter_append, List.map_append]
 congr 1
 cases h : fC (aC ks i) ((aC o.dvs i).lo + (n : Int)) <;> simp [h]
theorem a6v (o : Org) (ks : List Nt) (i n : Nat) : (a3g o ks i n).length ≤ n := by
 unfold a3g
 rw [List.length_map]
 exact Nat.le_trans (List.length_filter_le _ _) (by simp)
theorem a3t {o : Org} (hf : o.Fine) (ks : List Nt) : ∀ i, i ≤ o.dvs.length → ((List.range i).flatMap (vK o ks)).length ≤ i * 128
 | 0, _ => by simp
 | i + 1, h => by
   have h1 := a3t hf ks i (by omega)
   have h2 := a6v o ks i ((aC o.dvs i).hi - (aC o.dvs i).lo + 1).toNat
   have hk := hf.keys i (by omega)
   have h3 : (vK o ks i).length ≤ 128 := Nat.le_trans h2 (by omega)
   rw [List.range_succ, List.flatMap_append, List.length_append, List.flatMap_cons, List.flatMap_nil, List.append_nil]
   omega
theorem a2A (o : Org) (ho : o.In H) (hf : o.Fine) (kv : Value) (ks : List Nt) (hk : Ks H kv ks) (hl : ks.length = o.dvs.length) :
 Fn Tryz.prog 48 [.agg #[.string o.name, o.rv, o.dv, o.cv], kv] H fun r H' => St Tryz.prog H H' [⟨r, 2, pr (a5s o ks)⟩] := by
 have hd8 := hf.dlen
 refine Fn.of_sw Tryz.func48 rfl (by kernel_rfl) fun l hl => ?_
 have hn : l.length = 55 := by rw [hl]; rfl
 have g0 : get l 0 = (.agg #[(.string o.name), o.rv, o.dv, o.cv]) := by rw [hl]; rfl
 have g1 : get l 1 = kv := by rw [hl]; rfl
 clear hl
 simp (disch := omega) only [↓RA, RB, simprocAttr, g0]
 refine (St.refl Tryz.prog H).eNew 4 [(.string o.name), o.rv, o.dv, o.cv] rfl rfl (by simp [OC, ((St.refl Tryz.prog H).sl ho.1).cells.2.1, ((St.refl Tryz.prog H).sl ho.2.2.1).cells.2.1, ((St.refl Tryz.prog H).sl ho.2.2.2.2.1).cells.2.1]) fH fun A1 H1 hS1 => ?_
 simp only [RT] at hS1
 simp (disch := omega) only [↓RA, RZ, simprocAttr, hn, hS1.ld 0 rfl, (hS1.sl ho.2.2.1).len]
 have hS2 := hS1.nil 1
 simp only [RT] at hS2
 refine Wp.loopS (fun n l H' => l.length = 55 ∧ get l 1 = kv ∧ get l 4 = (.slice none 0 0) ∧ get l 11 = o.dv ∧ get l 12 = I o.dvs.length ∧ ∃ (i : Nat) (ov : Value), (n + i = o.dvs.length) ∧ get l 13 = I i ∧ get l 5 = ov ∧ St Tryz.prog H H' [⟨ptr A1 0 4, 0, [(.string o.name), o.rv, o.dv, o.cv]⟩, ⟨ov, 2, pr ((List.range i).flatMap (vK o ks))⟩]) o.dvs.length ?_ ?_
 ·simp (disch := omega) only [RB, RC, simprocAttr, hn, g1]
  exact ⟨0, .slice none 0 0, by omega, rfl, rfl, hS2⟩
 rintro n l H2 ⟨hn, g1, g4, g11, g12, i, ov, hi, g13, g5, hS3⟩
 simp (disch := omega) only [↓RA, RB, simprocAttr, hn, g12, g13]
 refine aA (fun q => ?_) (fun q => ?_)
 ·have hky := hf.keys i (by omega)
  have hx := hk.ok _ (aF (xs := ks) (j := i) (by omega))
  have hpl := a3t hf ks i (by omega)
  simp (disch := omega) only [↓RA, RZ, simprocAttr, hn, g11, g13, (hS3.sl ho.2.2.1).idx, (hS3.sl ho.2.2.1).ldA, Dvn.cells, q]
  refine hS3.eNew 5 [(.string ⟨#[]⟩), (.bool false), I 0, I 0, (.slice none 0 0)] rfl rfl rfl lP fun A2 H3 hS4 => ?_
  simp only [RT] at hS4
  simp (disch := omega) only [↓RA, RZ, simprocAttr, hn, q]
  refine hS4.eStore 2 rfl [(.string (aC o.dvs i).name), (.bool (aC o.dvs i).pedal), I (aC o.dvs i).lo, I (aC o.dvs i).hi, (aC o.dvs i).sv] rfl (by simp [OC, (hS4.sl (ho.2.2.2.1 (aC o.dvs i) (aF (by omega))).1).cells.2.1]) lP (by simp) fun H4 hS5 => ?_
  simp only [RT] at hS5
  simp (disch := omega) only [↓RA, RZ, simprocAttr, hn, hS5.ld 2 rfl, q]
  refine Wp.loopS (fun n l H' => l.length = 55 ∧ get l 1 = kv ∧ get l 4 = (.slice none 0 0) ∧ get l 6 = I i ∧ get l 7 = (ptr A2 0 5) ∧ get l 11 = o.dv ∧ get l 12 = I o.dvs.length ∧ get l 13 = I i ∧ ∃ (j : Nat) (ow : Value), (n + j = ((aC o.dvs i).hi - (aC o.dvs i).lo + 1).toNat) ∧ get l 8 = I ((aC o.dvs i).lo + j) ∧ get l 5 = ow ∧ St Tryz.prog H H' [⟨ptr A1 0 4, 0, [(.string o.name), o.rv, o.dv, o.cv]⟩, ⟨ow, 2, pr ((List.range i).flatMap (vK o ks) ++ a3g o ks i j)⟩, ⟨ptr A2 0 5, 0, [(.string (aC o.dvs i).name), (.bool (aC o.dvs i).pedal), I (aC o.dvs i).lo, I (aC o.dvs i).hi, (aC o.dvs i).sv]⟩]) ((aC o.dvs i).hi - (aC o.dvs i).lo + 1).toNat ?_ ?_
  ·simp (disch := omega) only [RB, RC, simprocAttr, hn, g1, g4, g11, g12, g13, g5]
   refine ⟨0, ov, by omega, by simp, rfl, ?_⟩
   rw [show a3g o ks i 0 = [] from rfl, List.append_nil]
   exact hS5
  rintro n l H5 ⟨hn, g1, g4, g6, g7, g11, g12, g13, j, ow, hj, g8, g5, hS6⟩
  simp (disch := omega) only [↓RA, RZ, simprocAttr, hn, g7, g8, hS6.ld 2 rfl]
  refine aA (fun q2 => ?_) (fun q2 => ?_)
  ·have hsu := a7L o ks i j
   have hpj := a6v o ks i j
   obtain ⟨m, hm⟩ : ∃ m : Nat, (aC o.dvs i).lo + (j : Int) = m := ⟨((aC o.dvs i).lo + (j : Int)).toNat, by omega⟩
   rw [hm] at hsu
   simp (disch := omega) only [↓RA, RZ, simprocAttr, hn, g1, g6, g8, (hS6.sl hk.sl).idx, (hS6.sl hk.sl).fld, (hS6.sl hk.sl).ld, ntc, hm]
   refine aA (fun q3 => ?_) (fun q3 => ?_)
   ·have e0 : (m : Int).tmod 64 = ((m - 64 : Nat) : Int) := by rw [show (m : Int).tmod 64 = ((m % 64 : Nat) : Int) from (Int.ofNat_tmod m 64).symm]; omega
    have e1 := wG (aC ks i).2 (m - 64) hx.2
    have e2 := tH ((aC ks i).2 >>> (m - 64)) (mQ _ hx.2)
    have e3 := tb (aC ks i).2 (m - 64)
    have e4 : fC (aC ks i) (m : Int) = (aC ks i).2.testBit (m - 64) := by unfold fC; rw [if_neg (by omega), show ((m : Int) - 64).toNat = m - 64 by omega]
    simp (disch := omega) only [↓RA, RZ, simprocAttr, hn, g1, g6, g8, (hS6.sl hk.sl).idx, (hS6.sl hk.sl).fld, (hS6.sl hk.sl).ld, ntc, hm, q3, e0, e1, e2]
    refine aA (fun q4 => ?_) (fun q4 => ?_)
    ·rw [e4, e3, decide_eq_true (by omega), if_pos rfl] at hsu
     simp (disch := omega) only [↓RA, RZ, simprocAttr, hn, g6, g8, g5, jD, hm, q3, q4]
     refine hS6.eSlice [I i, I m] jZ xN rfl rfl (by simp [Value.cells]) rfl rfl (by decide) (by decide) fun w1 H6 hS7 => ?_
     simp only [RT] at hS7
     simp (disch := omega) only [↓RA, RZ, simprocAttr, hn, hm, q3, q4]
     refine hS7.eAppend 1 rfl (hS7.rd 3 rfl) jZ (by rw [aI, List.length_append]; simp only [List.length_cons, List.length_nil]; omega) fun w2 H7 hS8 => ?_
     simp only [RT] at hS8
     simp (disch := omega) only [↓RA, RZ, simprocAttr, hn, g1, g4, g6, g7, g11, g12, g13, g8, hm, q3, q4]
     refine ⟨n - 1, by omega, j + 1, w2, by omega, by simp; omega, rfl, ?_⟩
     rw [hsu, ← List.append_assoc, bL]
     exact hS8.pick [0, 1, 2] (by decide) rfl
    rw [e4, e3, decide_eq_false (by omega), if_neg (by simp), List.append_nil] at hsu
    simp (disch := omega) only [↓RA, RZ, simprocAttr, hn, g1, g4, g6, g7, g11, g12, g13, g8, g5, hm, q3, q4]
    refine ⟨n - 1, by omega, j + 1, ow, by omega, by simp; omega, rfl, ?_⟩
    rw [hsu]
    exact hS6.pick [0, 1, 2] (by decide) rfl
   have e0 : (m : Int).tmod 64 = ((m : Nat) : Int) := by rw [show (m : Int).tmod 64 = ((m % 64 : Nat) : Int) from (Int.ofNat_tmod m 64).symm]; omega
   have e1 := wG (aC ks i).1 m hx.1
   have e2 := tH ((aC ks i).1 >>> m) (mQ _ hx.1)
   have e3 := tb (aC ks i).1 m
   have e4 : fC (aC ks i) (m : Int) = (aC ks i).1.testBit m := by unfold fC; rw [if_pos (by omega)]; rfl
   simp (disch := omega) only [↓RA, RZ, simprocAttr, hn, g8, hm, q3, e0, e1, e2]
   refine aA (fun q4 => ?_) (fun q4 => ?_)
   ·rw [e4, e3, decide_eq_true (by omega), if_pos rfl] at hsu
    simp (disch := omega) only [↓RA, RZ, simprocAttr, hn, g6, g8, g5, jD, hm, q3, q4]
    refine hS6.eSlice [I i, I m] jZ xN rfl rfl (by simp [Value.cells]) rfl rfl (by decide) (by decide) fun w3 H8 hS9 => ?_
    simp only [RT] at hS9
    simp (disch := omega) only [↓RA, RZ, simprocAttr, hn, hm, q3, q4]
    refine hS9.eAppend 1 rfl (hS9.rd 3 rfl) jZ (by rw [aI, List.length_append]; simp only [List.length_cons, List.length_nil]; omega) fun w4 H9 hS10 => ?_
    simp only [RT] at hS10
    simp (disch := omega) only [↓RA, RZ, simprocAttr, hn, g1, g4, g6, g7, g11, g12, g13, g8, hm, q3, q4]
    refine ⟨n - 1, by omega, j + 1, w4, by omega, by simp; omega, rfl, ?_⟩
    rw [hsu, ← List.append_assoc, bL]
    exact hS10.pick [0, 1, 2] (by decide) rfl
   rw [e4, e3, decide_eq_false (by omega), if_neg (by simp), List.append_nil] at hsu
   simp (disch := omega) only [↓RA, RZ, simprocAttr, hn, g1, g4, g6, g7, g11, g12, g13, g8, g5, hm, q3, q4]
   refine ⟨n - 1, by omega, j + 1, ow, by omega, by simp; omega, rfl, ?_⟩
   rw [hsu]
   exact hS6.pick [0, 1, 2] (by decide) rfl
  simp (disch := omega) only [↓RA, RZ, simprocAttr, hn, g1, g4, g11, g12, g13, g5, q2]
  refine ⟨o.dvs.length - (i + 1), by omega, i + 1, ow, by omega, by simp, rfl, ?_⟩
  have hjj : j = ((aC o.dvs i).hi - (aC o.dvs i).lo + 1).toNat := by omega
  rw [List.range_succ, List.flatMap_append, List.flatMap_cons, List.flatMap_nil, List.append_nil]
  rw [show vK o ks i = a3g o ks i j from by rw [hjj]; rfl]
  exact hS6.pick [0, 1] (by decide) rfl
 simp (disch := omega) only [↓RA, RZ, simprocAttr, hn, g5, c3l, q]
 have hii : i = o.dvs.length := by omega
 subst hii
 exact hS3.pick [1] (by decide) rfl
end Go.Ds
namespace Go.Ds
open Go.Proofs Go.Shelf Go.RowKit Go.Lib Go.Sort
theorem b7p (kc : FuncId) (eg : ∀ args w, (callFunc kc args).run Tryz.prog w = .ok (.enter kc args) w) (hf : ∀ x y : Sm, Fn Tryz.prog kc [.agg #[I x.1.1, I x.1.2], .agg #[I y.1.1, I y.1.2]] .nil fun r H' => r = I (cfd x y) ∧ St Tryz.prog (.nil : Heap) H' []) : vB Tryz.prog 51 kc sm :=
 fun cC off cap d w hs hH hblk hsz => by
  have hd : (d.toList.attachWith sm hs).toArray.map (·.1) = d := by
   rw [List.map_toArray, b9X]
  have hl : (d.toList.attachWith sm hs).toArray.size = d.size := by simp
  have hH' : HoldsK (fun x : Sm => cA x.1) 2 w cC off (d.toList.attachWith sm hs).toArray := by
   unfold HoldsK at hH ⊢
   rw [b6h, hd]
   exact hH
  have h := AnyQ.slices_SortFunc_total Tryz.sort233 2 Tryz.isAgg52 Tryz.sizeOf52 (fun x : Sm => cA x.1) (fun _ => rfl) (fun x => uI x.1) cfd c3u kc #[] cC off cap (d.toList.attachWith sm hs).toArray w eg (a3F (fun x : Sm => x.1) cfd hf cC off _ w) hH' hblk (by rw [hl]; exact hsz) c4b
  rw [hl] at h
  refine h.mono ?_
  rintro e w' ⟨h1, n, os, h2⟩
  exact ⟨h1, n, os, by rw [h2, b6C, List.toList_toArray, b8I, b9X]⟩
section
variable {H : Heap}
theorem b4o (x y : Sm) : Fn Tryz.prog 52 [.agg #[I x.1.1, I x.1.2], .agg #[I y.1.1, I y.1.2]] H fun r H' => r = I (cfd x y) ∧ St Tryz.prog H H' [] := by
 obtain ⟨⟨x1, x2⟩, hx⟩ := x
 obtain ⟨⟨y1, y2⟩, hy⟩ := y
 unfold sm at hx hy
 simp only at hx hy ⊢
 refine Fn.of_sw Tryz.func52 rfl (by kernel_rfl) fun l hl => ?_
 have hn : l.length = 20 := by rw [hl]; rfl
 have g0 : get l 0 = (.agg #[I x1, I x2]) := by rw [hl]; rfl
 have g1 : get l 1 = (.agg #[I y1, I y2]) := by rw [hl]; rfl
 clear hl
 simp (disch := omega) only [↓RA, RB, simprocAttr, g0]
 refine (St.refl Tryz.prog H).eNew 2 [I x1, I x2] rfl rfl rfl gC fun A1 H1 hS1 => ?_
 simp only [RT] at hS1
 simp (disch := omega) only [↓RA, RB, simprocAttr, g1]
 refine hS1.eNew 2 [I y1, I y2] rfl rfl rfl gC fun A2 H2 hS2 => ?_
 simp only [RT] at hS2
 simp (disch := omega) only [↓RA, RZ, simprocAttr, hn, hS2.ld 0 rfl, hS2.ld 1 rfl]
 refine aA (fun q => ?_) (fun q => ?_)
 ·simp (disch := omega) only [↓RA, RZ, simprocAttr, hn, hS2.ld 0 rfl, hS2.ld 1 rfl, c1B, q]
  exact ⟨by unfold cfd; rw [if_pos q], hS2.forget⟩
 simp (disch := omega) only [↓RA, RZ, simprocAttr, hn, hS2.ld 0 rfl, hS2.ld 1 rfl, c1B, q]
 exact ⟨by unfold cfd; rw [if_neg q], hS2.forget⟩
end
theorem c0t : b3t 51 52 := fun hS i _ _ ho hl hsm _ h => qC (b7p 52 (enters_of Tryz.func52 (by kernel_rfl) rfl) fun x y => b4o x y) b5N b5W hS i ho hl hsm h
end Go.Ds
namespace Go.Ds
open Go.Proofs
variable {H : Heap}
set_option maxRecDepth 10000
set_option maxHeartbeats 1000000
theorem Ct.eq2 (a b : Ct) : (a.1 = b.1 ∧ a.2 = b.2) ↔ b = a := ⟨fun h => Prod.ext h.1.symm h.2.symm, fun h => by rw [h]; exact ⟨rfl, rfl⟩⟩
theorem a4B (v : Value) (xs : List Ct) (hv : Sl 2 cA H v xs) (hl : xs.length < 1000000000) (d : Ct) :
 Fn Tryz.prog 94 [v, .agg #[I d.1, I d.2]] H fun r H' => r = I (jE (fun j => decide (aC xs j = d)) xs.length) ∧ St Tryz.prog H H' [] := by
 refine Fn.of_sw Tryz.func94 rfl (by kernel_rfl) fun l hl => ?_
 have hn : l.length = 19 := by rw [hl]; rfl
 have g0 : get l 0 = v := by rw [hl]; rfl
 have g1 : get l 1 = (.agg #[I d.1, I d.2]) := by rw [hl]; rfl
 clear hl
 simp (disch := omega) only [↓RA, RB, simprocAttr, g1]
 refine (St.refl Tryz.prog H).eNew 2 [I d.1, I d.2] rfl rfl rfl gC fun A1 H1 hS1 => ?_
 simp only [RT] at hS1
 simp (disch := omega) only [↓RA, RZ, simprocAttr, hn, g0, (hS1.sl hv).len]
 refine Wp.loopS (fun n l H' => l.length = 19 ∧ get l 0 = v ∧ get l 3 = (ptr A1 0 2) ∧ get l 7 = I xs.length ∧ ∃ (j : Nat), (n + j = xs.length ∧ ∀ q, q < j → decide (aC xs q = d) = false) ∧ get l 8 = I j ∧ St Tryz.prog H H' [⟨ptr A1 0 2, 0, [I d.1, I d.2]⟩]) xs.length ?_ ?_
 ·simp (disch := omega) only [RB, RC, simprocAttr, hn, g0]
  exact ⟨0, ⟨by omega, fun q hq => absurd hq (Nat.not_lt_zero _)⟩, rfl, hS1⟩
 rintro n l H2 ⟨hn, g0, g3, g7, j, ⟨hi,h0⟩, g8, hS2⟩
 simp (disch := omega) only [↓RA, RB, simprocAttr, hn, g7, g8]
 refine aA (fun h => ?_) (fun h => ?_)
 ·simp (disch := omega) only [↓RA, RZ, simprocAttr, hn, g8, h]
  refine Wp.drw cB (by kernel_rfl) ?_
  simp (disch := omega) only [↓RA, RZ, simprocAttr, hn, g0, g3, hS2.ldA 0 rfl, (hS2.sl hv).idx, (hS2.sl hv).ldA, cA]
  refine aA (fun hp => ?_) (fun hp => ?_)
  ·simp (disch := omega) only [↓RA, RZ, simprocAttr, hn, c1m, hp]
   exact ⟨by rw [qA _ xs.length j (by omega) (by simpa using (Ct.eq2 _ _).1 hp) h0], hS2.forget⟩
  simp (disch := omega) only [↓RA, RZ, simprocAttr, hn, g0, g3, g7, g8, hp]
  exact ⟨n - 1, by omega, j + 1, ⟨by omega, fun q hq => by rcases Nat.lt_succ_iff_lt_or_eq.1 hq with e | e; (· exact h0 q e); (· rw [e]; simpa using fun hh => hp ((Ct.eq2 _ _).2 hh))⟩, by simp, hS2⟩
 simp (disch := omega) only [↓RA, RZ, simprocAttr, hn, c1m, h]
 exact ⟨by rw [pE _ xs.length fun q hq => h0 q (by omega)], hS2.forget⟩
theorem uZ (v : Value) (xs : List Ct) (hv : Sl 2 cA H v xs) (hl : xs.length < 1000000000) (d : Ct) :
 Fn Tryz.prog 50 [v, .agg #[I d.1, I d.2]] H fun r H' => r = .bool (decide (d ∈ xs)) ∧ St Tryz.prog H H' [] := by
 have e : decide (0 ≤ jE (fun j => decide (aC xs j = d)) xs.length) = decide (d ∈ xs) := by
  rw [Bool.eq_iff_iff, decide_eq_true_iff, decide_eq_true_iff, tU]
  constructor
  ·rintro ⟨j, hj, hp⟩
   rw [← of_decide_eq_true hp]; exact aF hj
  ·intro hx
   obtain ⟨j, hj, rfl⟩ := List.mem_iff_getElem.1 hx
   exact ⟨j, hj, by rw [cF xs j hj]; simp⟩
 refine Fn.of_sw Tryz.func50 rfl (by kernel_rfl) fun l hl => ?_
 have hn : l.length = 9 := by rw [hl]; rfl
 have g0 : get l 0 = v := by rw [hl]; rfl
 have g1 : get l 1 = (.agg #[I d.1, I d.2]) := by rw [hl]; rfl
 clear hl
 simp (disch := omega) only [↓RA, RB, simprocAttr, g1]
 refine (St.refl Tryz.prog H).eNew 2 [I d.1, I d.2] rfl rfl rfl gC fun A1 H1 hS1 => ?_
 simp only [RT] at hS1
 simp (disch := omega) only [↓RA, RZ, simprocAttr, hn, g0, hS1.ldA 0 rfl]
 refine aB (a4B v xs (hS1.sl hv) hl d) ?_
 rintro r H2 ⟨rfl, hT1⟩
 have hS2 := hS1.trans hT1
 simp only [RT] at hS2
 simp (disch := omega) only [↓RA, RB, simprocAttr, hn, c4y]
 rw [← e]
 first | exact hS2.forget | exact ⟨rfl, hS2.forget⟩
theorem a2r {B : Base} (o : Org) (r : Reg) (sv : Value) (c : Ct) (thr : Bool) (AO AR AQ : Nat) (qv : Value) (q : List Ct)
 (hS : St Tryz.prog B H [⟨ptr AQ 0 1, 0, [qv]⟩, ⟨qv, 2, pr q⟩])
 (hO : ∀ {H1 : Heap} {os : List Ob}, St Tryz.prog B H1 os → Var H1 AO 4 [.string o.name, o.rv, o.dv, o.cv] ∧ o.In H1 ∧ Var H1 AR 3 [sv, .int .u64 r.cpl, .int .u64 r.off])
 (hq : Que o q) (ho : o.Fine) (hr : r.Ok) :
 Fn Tryz.prog 93 [.agg #[I c.1, I c.2], .bool thr, ptr AO 0 4, ptr AR 0 3, ptr AQ 0 1] H fun rr H' => ∃ qv', rr = .tuple #[] ∧
  St Tryz.prog B H' [⟨ptr AQ 0 1, 0, [qv']⟩, ⟨qv', 2, pr (stepF o r.cpl thr c q)⟩] := by
 have hcl := ho.clen
 refine Fn.of_sw Tryz.func93 rfl (by kernel_rfl) fun l hl => ?_
 have hn : l.length = 64 := by rw [hl]; rfl
 have g0 : get l 0 = (.agg #[I c.1, I c.2]) := by rw [hl]; rfl
 have g1 : get l 1 = (.bool thr) := by rw [hl]; rfl
 have g2 : get l 2 = (ptr AO 0 4) := by rw [hl]; rfl
 have g3 : get l 3 = (ptr AR 0 3) := by rw [hl]; rfl
 have g4 : get l 4 = (ptr AQ 0 1) := by rw [hl]; rfl
 clear hl
 simp (disch := omega) only [↓RA, RB, simprocAttr, g0]
 refine hS.eNew 2 [I c.1, I c.2] rfl rfl rfl gC fun A1 H1 hS1 => ?_
 simp only [RT] at hS1
 simp (disch := omega) only [↓RA, RZ, simprocAttr, hn, g2, ((hO hS1).1).ld, ((hO hS1).2.1.2.2.2.2.1).len]
 refine Wp.loopS (fun n l H' => l.length = 64 ∧ get l 1 = (.bool thr) ∧ get l 2 = (ptr AO 0 4) ∧ get l 3 = (ptr AR 0 3) ∧ get l 4 = (ptr AQ 0 1) ∧ get l 5 = (ptr A1 0 2) ∧ get l 11 = o.cv ∧ get l 12 = I o.cpls.length ∧ ∃ (i : Nat) (qv' : Value), (n + i = o.cpls.length) ∧ get l 13 = I i ∧ St Tryz.prog B H' [⟨ptr AQ 0 1, 0, [qv']⟩, ⟨qv', 2, pr (stepN o r.cpl thr c q i)⟩, ⟨ptr A1 0 2, 0, [I c.1, I c.2]⟩]) o.cpls.length ?_ ?_
 ·simp (disch := omega) only [RB, RC, simprocAttr, hn, g1, g2, g3, g4]
  exact ⟨0, qv, by omega, rfl, hS1⟩
 rintro n l H2 ⟨hn, g1, g2, g3, g4, g5, g11, g12, i, qv', hi, g13, hS2⟩
 simp (disch := omega) only [↓RA, RB, simprocAttr, hn, g12, g13]
 refine aA (fun q1 => ?_) (fun q1 => ?_)
 ·have hql : (stepN o r.cpl thr c q i).length ≤ 1024 := (hq.stepN r.cpl thr c i).len ho
  have e1 := wG r.cpl i hr.2.2.1
  have e2 := tH (r.cpl >>> i) (mQ i hr.2.2.1)
  have e3 := tb r.cpl i
  have hstay : (kG r.cpl thr c (aC o.cpls i) i && iM o (to1 (aC o.cpls i) c) && !decide (to1 (aC o.cpls i) c ∈ stepN o r.cpl thr c q i)) = false → stepN o r.cpl thr c q (i + 1) = stepN o r.cpl thr c q i := fun h => by
   rw [dN, step1, if_neg (by rw [h]; simp)]
  simp (disch := omega) only [↓RA, RZ, simprocAttr, hn, g11, g13, ((hO hS2).2.1.2.2.2.2.1).idx, ((hO hS2).2.1.2.2.2.2.1).ldA, Cpl.cells, q1]
  refine hS2.eNew 5 [(.string ⟨#[]⟩), I 0, I 0, I 0, (.bool false)] rfl rfl rfl lI fun A2 H3 hS3 => ?_
  simp only [RT] at hS3
  simp (disch := omega) only [↓RA, RZ, simprocAttr, hn, q1]
  refine hS3.eStore 3 rfl [(.string (aC o.cpls i).name), I (aC o.cpls i).src, I (aC o.cpls i).dst, I (aC o.cpls i).shift, (.bool (aC o.cpls i).thr)] rfl rfl lI (by simp) fun H4 hS4 => ?_
  simp only [RT] at hS4
  simp (disch := omega) only [↓RA, RZ, simprocAttr, hn, g5, hS4.ld 3 rfl, hS4.ld 2 rfl, q1]
  simp (disch := omega) only [↓RA, RZ, simprocAttr, jD]
  refine hS4.eNew 2 [I 0, I 0] rfl rfl rfl gC fun A3 H5 hS5 => ?_
  simp only [RT] at hS5
  simp (disch := omega) only [↓RA, RZ, simprocAttr, hn, q1]
  refine hS5.eStore 4 rfl [I (aC o.cpls i).dst, I (jG (c.2 + (aC o.cpls i).shift))] rfl rfl gC (by simp) fun H6 hS6 => ?_
  simp only [RT] at hS6
  simp (disch := omega) only [↓RA, RZ, simprocAttr, hn, g3, ((hO hS6).2.2).ld, q1, e1, e2]
  refine bH (fun b1 => ?_) (fun b1 => ?_)
  ·have hb : r.cpl.testBit i = true := by rw [e3]; exact decide_eq_true (by omega)
   simp (disch := omega) only [↓RA, RZ, simprocAttr, hn, g5, hS6.ld 3 rfl, hS6.ld 2 rfl, q1, b1]
   refine bH (fun b2 => ?_) (fun b2 => ?_)
   ·have hsrc : (aC o.cpls i).src = c.1 := by omega
    have hgg : kG r.cpl thr c (aC o.cpls i) i = (!thr || (aC o.cpls i).thr) := by unfold kG; rw [hb, decide_eq_true hsrc]; rfl
    simp (disch := omega) only [↓RA, RZ, simprocAttr, hn, hS6.ld 3 rfl, q1, b1, b2]
    refine iP (fun b3 => ?_) (fun b3 => ?_)
    ·have hg : kG r.cpl thr c (aC o.cpls i) i = true := by rw [hgg, b3]; simp
     simp (disch := omega) only [↓RA, RZ, simprocAttr, hn, g2, ((hO hS6).1).ldA, hS6.ldA 4 rfl, q1, b1, b2, b3]
     refine aB (a6d o (hO hS6).2.1 ((aC o.cpls i).dst, jG (c.2 + (aC o.cpls i).shift))) ?_
     rintro r H7 ⟨rfl, hT1⟩
     have hS7 := hS6.trans hT1
     simp only [RT] at hS7
     simp (disch := omega) only [↓RA, RZ, simprocAttr, hn, q1, b1, b2, b3]
     refine iP (fun b5 => ?_) (fun b5 => ?_)
     ·simp (disch := omega) only [↓RA, RZ, simprocAttr, hn, g4, hS7.ld 0 rfl, hS7.ldA 4 rfl, q1, b1, b2, b3, b5]
      refine aB (uZ qv' (stepN o r.cpl thr c q i) (hS7.slo 1 rfl (fun _ => rfl)) (by omega) ((aC o.cpls i).dst, jG (c.2 + (aC o.cpls i).shift))) ?_
      rintro r H8 ⟨rfl, hT2⟩
      have hS8 := hS7.trans hT2
      simp only [RT] at hS8
      simp (disch := omega) only [↓RA, RZ, simprocAttr, hn, q1, b1, b2, b3, b5]
      refine bK (fun b6 => ?_) (fun b6 => ?_)
      ·have hs : stepN o r.cpl thr c q (i + 1) = stepN o r.cpl thr c q i ++ [((aC o.cpls i).dst, jG (c.2 + (aC o.cpls i).shift))] := by
        rw [dN]
        unfold step1
        have hnot : ((aC o.cpls i).dst, jG (c.2 + (aC o.cpls i).shift)) ∉ stepN o r.cpl thr c q i := by simpa using b6
        rw [if_pos (by rw [hg]; simp only [to1, b5]; simp [hnot])]
        rfl
       simp (disch := omega) only [↓RA, RZ, simprocAttr, hn, g4, hS8.ld 0 rfl, hS8.ldA 4 rfl, q1, b1, b2, b3, b5, b6]
       refine hS8.eSlice [I (aC o.cpls i).dst, I (jG (c.2 + (aC o.cpls i).shift))] jZ xN rfl rfl (by simp [Value.cells]) rfl rfl (by decide) (by decide) fun w1 H9 hS9 => ?_
       simp only [RT] at hS9
       simp (disch := omega) only [↓RA, RZ, simprocAttr, hn, q1, b1, b2, b3, b5, b6]
       refine hS9.eAppend 1 rfl (hS9.rd 5 rfl) jZ (by rw [aI]; simp; omega) fun w2 H10 hS10 => ?_
       simp only [RT] at hS10
       simp (disch := omega) only [↓RA, RZ, simprocAttr, hn, g4, q1, b1, b2, b3, b5, b6]
       refine hS10.eStore 0 rfl [w2] (by rw [(hS10.rd 1 rfl).cells.1]) (by simp [(hS10.rd 1 rfl).cells.2.1]) a4L (by simp) fun H11 hS11 => ?_
       simp only [RT] at hS11
       simp (disch := omega) only [↓RA, RZ, simprocAttr, hn, g1, g2, g3, g4, g5, g11, g12, g13, q1, b1, b2, b3, b5, b6]
       refine ⟨n - 1, by omega, i + 1, w2, by omega, by simp, ?_⟩
       rw [hs, bL]
       exact hS11.pick [0, 1, 2] (by decide) rfl
      have hin : ((aC o.cpls i).dst, jG (c.2 + (aC o.cpls i).shift)) ∈ stepN o r.cpl thr c q i := by simpa using b6
      have hs := hstay (by simp only [to1]; simp [hin])
      simp (disch := omega) only [↓RA, RZ, simprocAttr, hn, g1, g2, g3, g4, g5, g11, g12, g13, q1, b1, b2, b3, b5, b6]
      exact ⟨n - 1, by omega, i + 1, qv', by omega, by simp, by rw [hs]; exact hS8.pick [0, 1, 2] (by decide) rfl⟩
     have hs := hstay (by rw [Bool.and_eq_false_iff, Bool.and_eq_false_iff]; exact .inl (.inr (by simpa [to1] using b5)))
     simp (disch := omega) only [↓RA, RZ, simprocAttr, hn, g1, g2, g3, g4, g5, g11, g12, g13, q1, b1, b2, b3, b5]
     exact ⟨n - 1, by omega, i + 1, qv', by omega, by simp, by rw [hs]; exact hS7.pick [0, 1, 2] (by decide) rfl⟩
    simp (disch := omega) only [↓RA, RZ, simprocAttr, hn, g1, q1, b1, b2, b3]
    refine iP (fun b4 => ?_) (fun b4 => ?_)
    ·have hg : kG r.cpl thr c (aC o.cpls i) i = true := by
      have : thr = false := by simpa using b4
      rw [hgg, this]; rfl
     simp (disch := omega) only [↓RA, RZ, simprocAttr, hn, g2, ((hO hS6).1).ldA, hS6.ldA 4 rfl, q1, b1, b2, b3, b4]
     refine aB (a6d o (hO hS6).2.1 ((aC o.cpls i).dst, jG (c.2 + (aC o.cpls i).shift))) ?_
     rintro r H12 ⟨rfl, hT3⟩
     have hS12 := hS6.trans hT3
     simp only [RT] at hS12
     simp (disch := omega) only [↓RA, RZ, simprocAttr, hn, q1, b1, b2, b3, b4]
     refine iP (fun b5 => ?_) (fun b5 => ?_)
     ·simp (disch := omega) only [↓RA, RZ, simprocAttr, hn, g4, hS12.ld 0 rfl, hS12.ldA 4 rfl, q1, b1, b2, b3, b4, b5]
      refine aB (uZ qv' (stepN o r.cpl thr c q i) (hS12.slo 1 rfl (fun _ => rfl)) (by omega) ((aC o.cpls i).dst, jG (c.2 + (aC o.cpls i).shift))) ?_
      rintro r H13 ⟨rfl, hT4⟩
      have hS13 := hS12.trans hT4
      simp only [RT] at hS13
      simp (disch := omega) only [↓RA, RZ, simprocAttr, hn, q1, b1, b2, b3, b4, b5]
      refine bK (fun b6 => ?_) (fun b6 => ?_)
      ·have hs : stepN o r.cpl thr c q (i + 1) = stepN o r.cpl thr c q i ++ [((aC o.cpls i).dst, jG (c.2 + (aC o.cpls i).shift))] := by
        rw [dN]
        unfold step1
        have hnot : ((aC o.cpls i).dst, jG (c.2 + (aC o.cpls i).shift)) ∉ stepN o r.cpl thr c q i := by simpa using b6
        rw [if_pos (by rw [hg]; simp only [to1, b5]; simp [hnot])]
        rfl
       simp (disch := omega) only [↓RA, RZ, simprocAttr, hn, g4, hS13.ld 0 rfl, hS13.ldA 4 rfl, q1, b1, b2, b3, b4, b5, b6]
       refine hS13.eSlice [I (aC o.cpls i).dst, I (jG (c.2 + (aC o.cpls i).shift))] jZ xN rfl rfl (by simp [Value.cells]) rfl rfl (by decide) (by decide) fun w3 H14 hS14 => ?_
       simp only [RT] at hS14
       simp (disch := omega) only [↓RA, RZ, simprocAttr, hn, q1, b1, b2, b3, b4, b5, b6]
       refine hS14.eAppend 1 rfl (hS14.rd 5 rfl) jZ (by rw [aI]; simp; omega) fun w4 H15 hS15 => ?_
       simp only [RT] at hS15
       simp (disch := omega) only [↓RA, RZ, simprocAttr, hn, g4, q1, b1, b2, b3, b4, b5, b6]
       refine hS15.eStore 0 rfl [w4] (by rw [(hS15.rd 1 rfl).cells.1]) (by simp [(hS15.rd 1 rfl).cells.2.1]) a4L (by simp) fun H16 hS16 => ?_
       simp only [RT] at hS16
       simp (disch := omega) only [↓RA, RZ, simprocAttr, hn, g1, g2, g3, g4, g5, g11, g12, g13, q1, b1, b2, b3, b4, b5, b6]
       refine ⟨n - 1, by omega, i + 1, w4, by omega, by simp, ?_⟩
       rw [hs, bL]
       exact hS16.pick [0, 1, 2] (by decide) rfl
      have hin : ((aC o.cpls i).dst, jG (c.2 + (aC o.cpls i).shift)) ∈ stepN o r.cpl thr c q i := by simpa using b6
      have hs := hstay (by simp only [to1]; simp [hin])
      simp (disch := omega) only [↓RA, RZ, simprocAttr, hn, g1, g2, g3, g4, g5, g11, g12, g13, q1, b1, b2, b3, b4, b5, b6]
      exact ⟨n - 1, by omega, i + 1, qv', by omega, by simp, by rw [hs]; exact hS13.pick [0, 1, 2] (by decide) rfl⟩
     have hs := hstay (by rw [Bool.and_eq_false_iff, Bool.and_eq_false_iff]; exact .inl (.inr (by simpa [to1] using b5)))
     simp (disch := omega) only [↓RA, RZ, simprocAttr, hn, g1, g2, g3, g4, g5, g11, g12, g13, q1, b1, b2, b3, b4, b5]
     exact ⟨n - 1, by omega, i + 1, qv', by omega, by simp, by rw [hs]; exact hS12.pick [0, 1, 2] (by decide) rfl⟩
    have h4 : thr = true := by simpa using b4
    have h3 : (aC o.cpls i).thr = false := by simpa using b3
    have hs := hstay (by rw [hgg, h4, h3]; rfl)
    simp (disch := omega) only [↓RA, RZ, simprocAttr, hn, g1, g2, g3, g4, g5, g11, g12, g13, q1, b1, b2, b3, b4]
    exact ⟨n - 1, by omega, i + 1, qv', by omega, by simp, by rw [hs]; exact hS6.pick [0, 1, 2] (by decide) rfl⟩
   have hs := hstay (by unfold kG; rw [decide_eq_false (by omega)]; simp)
   simp (disch := omega) only [↓RA, RZ, simprocAttr, hn, g1, g2, g3, g4, g5, g11, g12, g13, q1, b1, b2]
   exact ⟨n - 1, by omega, i + 1, qv', by omega, by simp, by rw [hs]; exact hS6.pick [0, 1, 2] (by decide) rfl⟩
  have hs := hstay (by unfold kG; rw [e3, decide_eq_false (by omega)]; rfl)
  simp (disch := omega) only [↓RA, RZ, simprocAttr, hn, g1, g2, g3, g4, g5, g11, g12, g13, q1, b1]
  exact ⟨n - 1, by omega, i + 1, qv', by omega, by simp, by rw [hs]; exact hS6.pick [0, 1, 2] (by decide) rfl⟩
 simp (disch := omega) only [↓RA, RZ, simprocAttr, c3g, q1]
 have hii : i = o.cpls.length := by omega
 subst hii
 exact ⟨qv', hS2.pick [0, 1] (by decide) rfl⟩
theorem a0k (o : Org) (ho : o.In H) (hf : o.Fine) (r : Reg) (sv : Value) (hr : r.In H sv) (fv : Value) (first : List Ct) (hfi : Sl 2 cA H fv first) (hfl : first.length ≤ 1024) :
 Fn Tryz.prog 49 [.agg #[.string o.name, o.rv, o.dv, o.cv], .agg #[sv, .int .u64 r.cpl, .int .u64 r.off], fv] H fun rr H' => St Tryz.prog H H' [⟨rr, 2, pr (bfs o r.cpl 1100 0 (cE o r.cpl first))⟩] := by
 refine Fn.of_sw Tryz.func49 rfl (by kernel_rfl) fun l hl => ?_
 have hn : l.length = 36 := by rw [hl]; rfl
 have g0 : get l 0 = (.agg #[(.string o.name), o.rv, o.dv, o.cv]) := by rw [hl]; rfl
 have g1 : get l 1 = (.agg #[sv, (.int .u64 r.cpl), (.int .u64 r.off)]) := by rw [hl]; rfl
 have g2 : get l 2 = fv := by rw [hl]; rfl
 clear hl
 simp (disch := omega) only [↓RA, RB, simprocAttr, g0]
 refine (St.refl Tryz.prog H).eNew 4 [(.string o.name), o.rv, o.dv, o.cv] rfl rfl (by simp [OC, ((St.refl Tryz.prog H).sl ho.1).cells.2.1, ((St.refl Tryz.prog H).sl ho.2.2.1).cells.2.1, ((St.refl Tryz.prog H).sl ho.2.2.2.2.1).cells.2.1]) fH fun A1 H1 hS1 => ?_
 simp only [RT] at hS1
 simp (disch := omega) only [↓RA, RB, simprocAttr, g1]
 refine hS1.eNew 3 [sv, (.int .u64 r.cpl), (.int .u64 r.off)] rfl rfl (by simp [OC, (hS1.sl hr.1).cells.2.1]) jU fun A2 H2 hS2 => ?_
 simp only [RT] at hS2
 simp (disch := omega) only [↓RA, RZ, simprocAttr]
 refine hS2.eNew 1 [(.slice none 0 0)] rfl rfl rfl a4L fun A3 H3 hS3 => ?_
 simp only [RT] at hS3
 simp (disch := omega) only [↓RA, RZ, simprocAttr, hn, g2, (hS3.sl hfi).len]
 have hS4 := hS3.nil 1
 simp only [RT] at hS4
 refine Wp.loopS (fun n l H' => l.length = 36 ∧ get l 6 = (.slice none 0 0) ∧ get l 7 = (ptr A3 0 1) ∧ get l 8 = (.func (.func 93) #[] #[(ptr A1 0 4), (ptr A2 0 3), (ptr A3 0 1)]) ∧ get l 13 = fv ∧ get l 14 = I first.length ∧ ∃ (i : Nat) (qv : Value), (n + i = first.length) ∧ get l 15 = I i ∧ St Tryz.prog H H' [⟨ptr A1 0 4, 0, [(.string o.name), o.rv, o.dv, o.cv]⟩, ⟨ptr A2 0 3, 0, [sv, (.int .u64 r.cpl), (.int .u64 r.off)]⟩, ⟨ptr A3 0 1, 0, [qv]⟩, ⟨qv, 2, pr (cE o r.cpl (first.take i))⟩]) first.length ?_ ?_
 ·simp (disch := omega) only [RB, RC, simprocAttr, hn]
  refine ⟨0, .slice none 0 0, by omega, rfl, ?_⟩
  rw [show cE o r.cpl (first.take 0) = [] from rfl]
  exact hS4
 rintro n l H4 ⟨hn, g6, g7, g8, g13, g14, i, qv, hi, g15, hS5⟩
 simp (disch := omega) only [↓RA, RB, simprocAttr, hn, g14, g15]
 refine aA (fun q1 => ?_) (fun q1 => ?_)
 ·have hqu := fE o r.cpl (first.take i)
  have hqs := sW o r.cpl first i (by omega)
  simp (disch := omega) only [↓RA, RZ, simprocAttr, hn, g13, g15, (hS5.sl hfi).idx, (hS5.sl hfi).ldA, cA, q1]
  refine hS5.eNew 2 [I 0, I 0] rfl rfl rfl gC fun A4 H5 hS6 => ?_
  simp only [RT] at hS6
  simp (disch := omega) only [↓RA, RZ, simprocAttr, hn, q1]
  refine hS6.eStore 4 rfl [I (aC first i).1, I (aC first i).2] rfl rfl gC (by simp) fun H6 hS7 => ?_
  simp only [RT] at hS7
  simp (disch := omega) only [↓RA, RZ, simprocAttr, hn, g8, hS7.ldA 4 rfl, q1]
  have hM1 := hS7.pick (os' := [⟨ptr A3 0 1, 0, _⟩, ⟨qv, 2, _⟩]) [2, 3] (by decide) rfl
  have hR1 := hS7.pick (os' := [⟨ptr A3 0 1, 0, _⟩, ⟨qv, 2, _⟩, ⟨ptr A1 0 4, 0, _⟩, ⟨ptr A2 0 3, 0, _⟩, ⟨ptr A4 0 2, 0, _⟩]) [2, 3, 0, 1, 4] (by decide) rfl
  refine aB (a2r o r sv (aC first i) false A1 A2 A3 qv (cE o r.cpl (first.take i)) hM1.rebase (fun h => ⟨(hR1.frame h.forget).var 0 rfl, ho.keep (hR1.frame h.forget), (hR1.frame h.forget).var 1 rfl⟩) hqu hf hr.2) ?_
  rintro r H7 ⟨qv', rfl, hT1⟩
  have hS8 := hR1.frame hT1
  simp only [RT] at hS8
  simp (disch := omega) only [↓RA, RZ, simprocAttr, hn, g6, g7, g8, g13, g14, g15, q1]
  refine ⟨n - 1, by omega, i + 1, qv', by omega, by simp, ?_⟩
  rw [hqs]
  exact hS8.pick [2, 3, 0, 1] (by decide) rfl
 simp (disch := omega) only [↓RA, RZ, simprocAttr, q1]
 have hii : i = first.length := by omega
 subst hii
 rw [List.take_length] at hS5
 have hqu := fE o r.cpl first
 refine Wp.loopS (fun n l H' => l.length = 36 ∧ get l 6 = (.slice none 0 0) ∧ get l 7 = (ptr A3 0 1) ∧ get l 8 = (.func (.func 93) #[] #[(ptr A1 0 4), (ptr A2 0 3), (ptr A3 0 1)]) ∧ ∃ (j : Nat) (qv : Value) (q : List Ct), (n + j = 1100 ∧ bfs o r.cpl n j q = bfs o r.cpl 1100 0 (cE o r.cpl first) ∧ Que o q) ∧ get l 11 = I j ∧ St Tryz.prog H H' [⟨ptr A1 0 4, 0, [(.string o.name), o.rv, o.dv, o.cv]⟩, ⟨ptr A2 0 3, 0, [sv, (.int .u64 r.cpl), (.int .u64 r.off)]⟩, ⟨ptr A3 0 1, 0, [qv]⟩, ⟨qv, 2, pr q⟩]) 1100 ?_ ?_
 ·simp (disch := omega) only [RB, RC, simprocAttr, hn, g6, g7, g8]
  exact ⟨0, qv, _, ⟨rfl, rfl, hqu⟩, rfl, hS5⟩
 rintro n l H8 ⟨hn, g6, g7, g8, j, qv, q, ⟨hj,hbf,hqq⟩, g11, hS9⟩
 have hql := hqq.len hf
 simp (disch := omega) only [↓RA, RZ, simprocAttr, hn, g7, g11, hS9.ld 2 rfl, (hS9.slo 3 rfl (fun _ => rfl)).len]
 refine aA (fun q3 => ?_) (fun q3 => ?_)
 ·have hjl : j < q.length := by omega
  simp (disch := omega) only [↓RA, RZ, simprocAttr, hn, g7, g8, g11, hS9.ld 2 rfl, (hS9.slo 3 rfl (fun _ => rfl)).idx, (hS9.slo 3 rfl (fun _ => rfl)).ldA, cA, q3]
  have hM2 := hS9.pick (os' := [⟨ptr A3 0 1, 0, _⟩, ⟨qv, 2, _⟩]) [2, 3] (by decide) rfl
  have hR2 := hS9.pick (os' := [⟨ptr A3 0 1, 0, _⟩, ⟨qv, 2, _⟩, ⟨ptr A1 0 4, 0, _⟩, ⟨ptr A2 0 3, 0, _⟩]) [2, 3, 0, 1] (by decide) rfl
  refine aB (a2r o r sv (aC q j) true A1 A2 A3 qv q hM2.rebase (fun h => ⟨(hR2.frame h.forget).var 0 rfl, ho.keep (hR2.frame h.forget), (hR2.frame h.forget).var 1 rfl⟩) hqq hf hr.2) ?_
  rintro r H9 ⟨qv', rfl, hT2⟩
  have hS10 := hR2.frame hT2
  simp only [RT] at hS10
  simp (disch := omega) only [↓RA, RZ, simprocAttr, hn, g6, g7, g8, g11, q3]
  obtain ⟨n', rfl⟩ : ∃ n', n = n' + 1 := ⟨n - 1, by omega⟩
  rw [bfs, if_pos hjl] at hbf
  exact ⟨n', by omega, j + 1, qv', _, ⟨by omega, hbf, hqq.stepF _ _ _⟩, by simp, hS10.pick [2, 3, 0, 1] (by decide) rfl⟩
 have hbq : bfs o r.cpl 1100 0 (cE o r.cpl first) = q := by
  rw [← hbf]
  cases n with
  | zero => rfl
  | succ n => rw [bfs, if_neg (by omega)]
 simp (disch := omega) only [↓RA, RZ, simprocAttr, hn, g7, hS9.ld 2 rfl, c4m, q3]
 rw [hbq]
 exact hS9.pick [3] (by decide) rfl
theorem a2R {o : Org} {r : Reg} {l q : List Ct} (hq : Que o q) (hl : ∀ c ∈ l, iM o c = true) : Que o (l.foldl (jX r) q) :=
 ⟨oG hq.1, fun c hc => by
  rcases wB.1 hc with h | h
  ·exact hq.2 c h
  ·exact hl c h.1⟩
theorem b7A {o : Org} (hf : o.Fine) {q : List Ct} (hq : Que o q) : ∀ x ∈ q, sm x := fun x hx => by
 have := pY hf (hq.2 x hx)
 unfold sm
 omega
theorem xT (o : Org) (ho : o.In H) (hf : o.Fine) (rg : Reg) (sv : Value) (hr : rg.In H sv) (kv : Value) (ks : List Nt) (hk : Ks H kv ks) (h0 : gU o ks = 0) :
 Fn Tryz.prog 17 [.agg #[.string o.name, o.rv, o.dv, o.cv], .agg #[sv, .int .u64 rg.cpl, .int .u64 rg.off], kv] H fun rr H' => St Tryz.prog H H' [⟨rr, 2, pr (eR o rg (aO ks))⟩] := by
 have hkl := (gL h0).2.1
 have hple := b4Z hk.ok h0
 have hpll := nH h0
 have hplc := nI hk.ok h0
 refine Fn.of_sw Tryz.func17 rfl (by kernel_rfl) fun l hl => ?_
 have hn : l.length = 46 := by rw [hl]; rfl
 have g0 : get l 0 = (.agg #[(.string o.name), o.rv, o.dv, o.cv]) := by rw [hl]; rfl
 have g1 : get l 1 = (.agg #[sv, (.int .u64 rg.cpl), (.int .u64 rg.off)]) := by rw [hl]; rfl
 have g2 : get l 2 = kv := by rw [hl]; rfl
 clear hl
 simp (disch := omega) only [↓RA, RB, simprocAttr, g0]
 refine (St.refl Tryz.prog H).eNew 4 [(.string o.name), o.rv, o.dv, o.cv] rfl rfl (by simp [OC, ((St.refl Tryz.prog H).sl ho.1).cells.2.1, ((St.refl Tryz.prog H).sl ho.2.2.1).cells.2.1, ((St.refl Tryz.prog H).sl ho.2.2.2.2.1).cells.2.1]) fH fun A1 H1 hS1 => ?_
 simp only [RT] at hS1
 simp (disch := omega) only [↓RA, RB, simprocAttr, g1]
 refine hS1.eNew 3 [sv, (.int .u64 rg.cpl), (.int .u64 rg.off)] rfl rfl (by simp [OC, (hS1.sl hr.1).cells.2.1]) jU fun A2 H2 hS2 => ?_
 simp only [RT] at hS2
 simp (disch := omega) only [↓RA, RZ, simprocAttr, hn, g2, hS2.ldA 0 rfl]
 refine aB ((a2A o (ho.keep hS2) hf kv ks (hk.keep hS2) hkl).tr) ?_
 rintro r H3 ⟨-, hT1⟩
 have hS3 := hS2.trans hT1
 simp only [RT] at hS3
 obtain ⟨pv, rfl⟩ : ∃ w, w = r := ⟨r, rfl⟩
 rw [hple] at hS3
 simp (disch := omega) only [↓RA, RZ, simprocAttr, hn, hS3.ldA 0 rfl, hS3.ldA 1 rfl]
 refine aB ((a0k o (ho.keep hS3) hf rg sv (hr.keep hS3) pv (aO ks) (hS3.slo 2 rfl cN) hpll).tr) ?_
 rintro r H4 ⟨-, hT2⟩
 have hS4 := hS3.trans hT2
 simp only [RT] at hS4
 obtain ⟨qv, rfl⟩ : ∃ w, w = r := ⟨r, rfl⟩
 have hQ := a0G rg.cpl 1100 0 _ (vJ o rg.cpl (aO ks))
 have hfin : b0o o rg (aO ks) = lW ((aO ks).foldl (jX rg) (bfs o rg.cpl 1100 0 (cE o rg.cpl (aO ks)))) := rfl
 rw [b1f] at hfin
 rw [hfin]
 clear hfin
 simp (disch := omega) only [↓RA, RZ, simprocAttr, hn, (hS4.slo 2 rfl cN).len]
 refine Wp.loopS (fun n l H' => l.length = 46 ∧ get l 4 = (ptr A2 0 3) ∧ get l 6 = (.slice none 0 0) ∧ get l 18 = pv ∧ get l 19 = I (aO ks).length ∧ ∃ (i : Nat) (ov : Value), (n + i = (aO ks).length) ∧ get l 20 = I i ∧ get l 8 = ov ∧ St Tryz.prog H H' [⟨ptr A1 0 4, 0, [(.string o.name), o.rv, o.dv, o.cv]⟩, ⟨ptr A2 0 3, 0, [sv, (.int .u64 rg.cpl), (.int .u64 rg.off)]⟩, ⟨pv, 2, pr (aO ks)⟩, ⟨ov, 2, pr (((aO ks).take i).foldl (jX rg) (bfs o rg.cpl 1100 0 (cE o rg.cpl (aO ks))))⟩]) (aO ks).length ?_ ?_
 ·simp (disch := omega) only [RB, RC, simprocAttr, hn]
  exact ⟨0, qv, by omega, rfl, rfl, hS4⟩
 rintro n l H5 ⟨hn, g4, g6, g18, g19, i, ov, hi, g20, g8, hS5⟩
 simp (disch := omega) only [↓RA, RB, simprocAttr, hn, g19, g20]
 refine aA (fun q1 => ?_) (fun q1 => ?_)
 ·have hci := (fT o _).1 (hplc _ (aF (xs := aO ks) (j := i) (by omega)))
  have hqi : Que o (((aO ks).take i).foldl (jX rg) (bfs o rg.cpl 1100 0 (cE o rg.cpl (aO ks)))) := a2R hQ fun c hc => hplc c (List.mem_of_mem_take hc)
  have hql := hqi.len hf
  have hsu : ((aO ks).take (i + 1)).foldl (jX rg) (bfs o rg.cpl 1100 0 (cE o rg.cpl (aO ks))) = jX rg (((aO ks).take i).foldl (jX rg) (bfs o rg.cpl 1100 0 (cE o rg.cpl (aO ks)))) (aC (aO ks) i) := by
   rw [dX _ i (by omega), List.foldl_append]
   rfl
  generalize ((aO ks).take i).foldl (jX rg) (bfs o rg.cpl 1100 0 (cE o rg.cpl (aO ks))) = Q at *
  have hd8 := hf.dlen
  obtain ⟨d, hd⟩ : ∃ d : Nat, (aC (aO ks) i).1.toNat = d := ⟨_, rfl⟩
  have hwd : IntKind.wrap .u64 (aC (aO ks) i).1 = ((d : Nat) : Int) := by rw [fP _ (by omega) (by omega)]; omega
  have e1 := wG rg.off d hr.2.2.2.2
  have e2 := tH (rg.off >>> d) (mQ _ hr.2.2.2.2)
  have e3 := tb rg.off d
  simp (disch := omega) only [↓RA, RZ, simprocAttr, hn, g18, g20, (hS5.slo 2 rfl cN).idx, (hS5.slo 2 rfl cN).ldA, cA, q1]
  refine hS5.eNew 2 [I 0, I 0] rfl rfl rfl gC fun A3 H6 hS6 => ?_
  simp only [RT] at hS6
  simp (disch := omega) only [↓RA, RZ, simprocAttr, hn, q1]
  refine hS6.eStore 4 rfl [I (aC (aO ks) i).1, I (aC (aO ks) i).2] rfl rfl gC (by simp) fun H7 hS7 => ?_
  simp only [RT] at hS7
  simp (disch := omega) only [↓RA, RZ, simprocAttr, hn, g4, hS7.ld 1 rfl, hS7.ld 4 rfl, q1, e1, e2, hwd]
  refine bH (fun q2 => ?_) (fun q2 => ?_)
  ·have hb : rg.off.testBit (aC (aO ks) i).1.toNat = false := by rw [hd, e3]; exact decide_eq_false (by omega)
   simp (disch := omega) only [↓RA, RZ, simprocAttr, hn, g8, hS7.ldA 4 rfl, q1, q2]
   refine aB (uZ ov Q (hS7.slo 3 rfl cN) (by omega) (aC (aO ks) i)) ?_
   rintro r H8 ⟨rfl, hT3⟩
   have hS8 := hS7.trans hT3
   simp only [RT] at hS8
   simp (disch := omega) only [↓RA, RZ, simprocAttr, hn, q1, q2]
   refine bK (fun q3 => ?_) (fun q3 => ?_)
   ·have hs : jX rg Q (aC (aO ks) i) = Q ++ [aC (aO ks) i] := by unfold jX; rw [if_pos (by rw [hb]; simpa using q3)]
    simp (disch := omega) only [↓RA, RZ, simprocAttr, hn, g8, hS8.ldA 4 rfl, q1, q2, q3]
    refine hS8.eSlice [I (aC (aO ks) i).1, I (aC (aO ks) i).2] jZ xN rfl rfl (by simp [Value.cells]) rfl rfl (by decide) (by decide) fun w1 H9 hS9 => ?_
    simp only [RT] at hS9
    simp (disch := omega) only [↓RA, RZ, simprocAttr, hn, q1, q2, q3]
    refine hS9.eAppend 3 rfl (hS9.rd 5 rfl) jZ (by rw [aI]; simp; omega) fun w2 H10 hS10 => ?_
    simp only [RT] at hS10
    simp (disch := omega) only [↓RA, RZ, simprocAttr, hn, g4, g6, g18, g19, g20, q1, q2, q3]
    refine ⟨n - 1, by omega, i + 1, w2, by omega, by simp, rfl, ?_⟩
    rw [hsu, hs, bL]
    exact hS10.pick [0, 1, 2, 3] (by decide) rfl
   have hs : jX rg Q (aC (aO ks) i) = Q := by unfold jX; rw [if_neg (by rw [hb]; simpa using q3)]
   simp (disch := omega) only [↓RA, RZ, simprocAttr, hn, g4, g6, g18, g19, g20, g8, q1, q2, q3]
   refine ⟨n - 1, by omega, i + 1, ov, by omega, by simp, rfl, ?_⟩
   rw [hsu, hs]
   exact hS8.pick [0, 1, 2, 3] (by decide) rfl
  have hb : rg.off.testBit (aC (aO ks) i).1.toNat = true := by rw [hd, e3]; exact decide_eq_true (by omega)
  have hs : jX rg Q (aC (aO ks) i) = Q := by unfold jX; rw [if_neg (by rw [hb]; simp)]
  simp (disch := omega) only [↓RA, RZ, simprocAttr, hn, g4, g6, g18, g19, g20, g8, q1, q2]
  refine ⟨n - 1, by omega, i + 1, ov, by omega, by simp, rfl, ?_⟩
  rw [hsu, hs]
  exact hS7.pick [0, 1, 2, 3] (by decide) rfl
 simp (disch := omega) only [↓RA, RZ, simprocAttr, hn, g8, q1]
 have hii : i = (aO ks).length := by omega
 rw [hii, List.take_length] at hS5
 have hqn : Que o ((aO ks).foldl (jX rg) (bfs o rg.cpl 1100 0 (cE o rg.cpl (aO ks)))) := a2R hQ hplc
 have hql := hqn.len hf
 refine c0t hS5 3 rfl (by omega) (b7A hf hqn) fun HS hSS => ?_
 simp only [List.set_cons_succ, List.set_cons_zero] at hSS
 simp (disch := omega) only [↓RA, RZ, simprocAttr, hn, g8, c3B, q1]
 exact hSS.pick [3] (by decide) rfl
end Go.Ds
namespace Go.Ds
open Go.Proofs
variable {H : Heap}
set_option maxRecDepth 10000
set_option maxHeartbeats 1000000
end Go.Ds
namespace Go.Ds
open Go.Proofs
variable {H : Heap}
set_option maxRecDepth 10000
set_option maxHeartbeats 1000000
end Go.Ds
namespace Go.Ds
open Go.Proofs
variable {H : Heap}
set_option maxRecDepth 100000
set_option maxHeartbeats 1000000
def a6k (r : Rs) (n : Int) : Bool := match r with
 | .ok (.tuple vs) _ => (match vs.toList with
   | [.int .u64 a, .int .u64 b] => decide (a = 0) && decide (b = n)
   | _ => false)
 | .th (.tuple vs) _ => (match vs.toList with
   | [.int .u64 a, .int .u64 b] => decide (a = 0) && decide (b = n)
   | _ => false)
 | _ => false
theorem b6H : (lL Tryz.prog [168, 201, 202] .e fun T => [(25 : Int)].all fun n => a6k (eH T (sS Tryz.prog T 4000) [] (cM 168) [.int .u64 1, .int .u64 n] gH) n) = true := by kernel_rfl
theorem a9p {T : LT} (hT : TOk Tryz.prog T) {k : FuncId} {args : List Value} {n : Int} (h : a6k (eH T (sS Tryz.prog T 4000) [] (cM k) args gH) n = true) : Fn Tryz.prog k args gH fun r _ => r = .tuple #[.int .u64 0, .int .u64 n] := by
 have hv : ∀ (vs : Array Value), (match vs.toList with
  | [.int .u64 a, .int .u64 b] => decide (a = 0) && decide (b = n)
  | _ => false) = true → Value.tuple vs = .tuple #[.int .u64 0, .int .u64 n] := by
  intro vs h
  split at h
  ·rename_i a b e
   rw [Bool.and_eq_true, decide_eq_true_eq, decide_eq_true_eq] at h
   obtain ⟨rfl, rfl⟩ := h
   congr 1
   exact Array.ext' e
  ·cases h
 unfold a6k at h
 split at h
 ·rename_i vs H1 e
  rw [← hv vs h]
  exact dU hT (.inl e)
 ·rename_i vs H1 e
  rw [← hv vs h]
  exact dU hT (.inr e)
 ·cases h
theorem a9b (hG : Glob gH H) : Fn Tryz.prog 168 [.int .u64 1, .int .u64 25] H fun r H' => r = .tuple #[.int .u64 0, .int .u64 25] ∧ St Tryz.prog H H' [] := by
 obtain ⟨T, hT, h⟩ := iY (ps := [(25 : Int)]) (f := fun T n => a6k (eH T (sS Tryz.prog T 4000) [] (cM 168) [.int .u64 1, .int .u64 n] gH) n) b6H
 exact kD (by simp [flat, bA, aW]) rfl (a9p hT (h 25 (by simp))) hG
theorem jO (c z : Value) : ∀ (m x n : Nat), x + m ≤ n → aY (List.replicate x c ++ List.replicate (n - x) z) x (List.replicate m c) = List.replicate (x + m) c ++ List.replicate (n - (x + m)) z := by
 intro m x n h
 have e : List.replicate (n - x) z = List.replicate m z ++ List.replicate (n - (x + m)) z := by
  rw [List.replicate_append_replicate]; congr 1; omega
 have := eO (List.replicate m c) (List.replicate x c) (List.replicate (n - x) z) (by simp; omega)
 rw [List.length_replicate] at this
 rw [this, List.replicate_append_replicate]
 congr 1
 simp
 omega
theorem a4F {H : Heap} {v : Value} {cs : List Value} (h : RdAt H v 1 cs) (h0 : cs ≠ []) : jA v 1 0 cs.length = v := by
 rcases h with ⟨rfl, rfl⟩ | ⟨A, i, e, row, ty, rw, lo', ver, n, h1, h2, h3, h4, h5, h6, rfl⟩
 ·exact (h0 rfl).elim
 ·simp [jA, h6]
theorem St.eCopyW {P : Program} {H0 : Base} {os : List Ob} (hS : St P H0 H os) (i : Nat) {v : Value} {cs : List Value} (ho : os[i]? = some ⟨v, 1, cs⟩) {x : Value} {ys : List Value} (hx : RdAt H x 1 ys) (h0 : 0 < cs.length) (hy : 0 < ys.length) {t : TypeId} (ht : aQ P t = some 1) {K : Value → Heap → Prop}
 (h : ∀ H1, St P H0 H1 (os.set i ⟨v, 1, aY cs 0 (ys.take (min ys.length cs.length))⟩) → K (.int .i64 ((min ys.length cs.length : Nat) : Int)) H1) : zK P H t v x K := by
 have e := a4F (hS.rd (size := 0) i ho) (by intro e; simp [e] at h0)
 have := hS.eCopy1 i ho hx 0 cs.length (by omega) h0 hy ht h
 rwa [e] at this
theorem a9c (hG : Glob gH H) (v : Value) (hv : Sl 1 (one I) H v [1]) : Fn Tryz.prog 122 [v, I 25] H fun r H' => St Tryz.prog H H' [⟨r, 1, List.replicate 25 (I 1)⟩] := by
 have h1 : (([1] : List Int).length : Int) = 1 := rfl
 refine Fn.of_sw Tryz.func122 rfl (by kernel_rfl) fun l hl => ?_
 have hn : l.length = 48 := by rw [hl]; rfl
 have g0 : get l 0 = v := by rw [hl]; rfl
 have g1 : get l 1 = I 25 := by rw [hl]; rfl
 clear hl
 simp (disch := omega) only [↓RA, RZ, simprocAttr, hn, g0, g1, ((St.refl Tryz.prog H).sl hv).len]
 refine aB (a9b ((St.refl Tryz.prog H).gl hG)) ?_
 rintro r H1 ⟨rfl, hT1⟩
 have hS1 := (St.refl Tryz.prog H).trans hT1
 simp only [RT] at hS1
 simp (disch := omega) only [↓RA, RZ, simprocAttr, hn]
 refine hS1.eMake1 25 c2y (by omega) fun w H2 hS2 => ?_
 simp only [RT] at hS2
 simp (disch := omega) only [↓RA, RB, simprocAttr, hn, g0]
 refine hS2.eCopyW 0 rfl (hS2.sl hv).rd (by simp) (by simp [one]) b6O fun H3 hS3 => ?_
 have e1 : min ([(1 : Int)].flatMap (one I)).length (List.replicate 25 (Value.int .i64 0)).length = 1 := by simp [one]
 rw [e1] at hS3 ⊢
 have e2 := jO (I 1) (.int .i64 0) 1 0 25 (by omega)
 simp only [List.replicate_zero, List.nil_append, Nat.sub_zero, Nat.zero_add] at e2
 have hS4 : St Tryz.prog H H3 [⟨w, 1, List.replicate 1 (I 1) ++ List.replicate (25 - 1) (.int .i64 0)⟩] := by
  rw [← e2]
  exact hS3
 simp (disch := omega) only [↓RA, RB, simprocAttr, hn]
 have e3 : ∀ x : Nat, List.replicate x (I 1) ++ List.replicate (25 - x) (.int .i64 0) = (List.replicate x (1 : Int) ++ List.replicate (25 - x) 0).flatMap (one I) := fun x => by
  rw [qN, List.map_append, List.map_replicate, List.map_replicate]
 refine Wp.loopS (fun n l H' => l.length = 48 ∧ get l 4 = (.slice none 0 0) ∧ ∃ (x : Nat), (n + x = 25 ∧ 1 ≤ x) ∧ get l 8 = I x ∧ get l 7 = w ∧ St Tryz.prog H H' [⟨w, 1, (List.replicate x (1 : Int) ++ List.replicate (25 - x) 0).flatMap (one I)⟩]) 24 ?_ ?_
 ·simp (disch := omega) only [RB, RC, simprocAttr, hn]
  rw [e3] at hS4
  exact ⟨1, ⟨by omega, by omega⟩, rfl, hS4⟩
 rintro n l H2 ⟨hn, g4, x, ⟨hx,hx1⟩, g8, g7, hS2⟩
 have hln : (List.replicate x (1 : Int) ++ List.replicate (25 - x) 0).length = 25 := by simp; omega
 simp (disch := omega) only [↓RA, RZ, simprocAttr, hn, g8, g7, (hS2.slo 0 rfl (fun _ => rfl)).len, hln]
 refine aA (fun q1 => ?_) (fun q1 => ?_)
 ·simp (disch := omega) only [↓RA, RC, simprocAttr, q1]
  refine Wp.drw cB (by kernel_rfl) ?_
  simp (disch := omega) only [↓RA, RZ, simprocAttr, hn, g8, g7, (hS2.slo 0 rfl (fun _ => rfl)).sliceL, (hS2.slo 0 rfl (fun _ => rfl)).sliceH, hln]
  have hxt : ((25 : Int) - (x : Int)).toNat = 25 - x := by omega
  rw [hxt]
  have hlc : ((List.replicate x (1 : Int) ++ List.replicate (25 - x) 0).flatMap (one I)).length = 25 := by rw [qN, List.length_map, hln]
  have hrd := hS2.rd 0 rfl
  have hsub := hrd.sub 0 x (by rw [hlc]; omega) (by intro e; rw [e] at hlc; simp at hlc)
  have e5 : (((List.replicate x (1 : Int) ++ List.replicate (25 - x) 0).flatMap (one I)).drop (0 * (0 + 1))).take (x * (0 + 1)) = List.replicate x (I 1) := by
   rw [← e3]
   simp []
  rw [e5] at hsub
  refine hS2.eCopy1 0 rfl hsub x (25 - x) (by rw [hlc]; omega) (by omega) (by simp; omega) b6O fun H4 hS5 => ?_
  have e6 : (List.replicate x (I 1)).take (min (List.replicate x (I 1)).length (25 - x)) = List.replicate (min x (25 - x)) (I 1) := by simp
  rw [e6] at hS5
  have e7 : min (List.replicate x (I 1)).length (25 - x) = min x (25 - x) := by simp
  rw [e7]
  have e8 := jO (I 1) (.int .i64 0) (min x (25 - x)) x 25 (by omega)
  have hS6 : St Tryz.prog H H4 [⟨w, 1, (List.replicate (x + min x (25 - x)) (1 : Int) ++ List.replicate (25 - (x + min x (25 - x))) 0).flatMap (one I)⟩] := by
   rw [← e3, ← e8, e3]
   exact hS5
  simp (disch := omega) only [↓RA, RZ, simprocAttr, hn, g4, g7]
  exact ⟨25 - (x + min x (25 - x)), by omega, x + min x (25 - x), ⟨by omega, by omega⟩, by simp, hS6⟩
 simp (disch := omega) only [↓RA, RZ, simprocAttr, hn, g7, c0B, q1]
 have e : x = 25 := by omega
 subst e
 have hfin : ((List.replicate 25 (1 : Int) ++ List.replicate (25 - 25) 0).flatMap (one I)) = List.replicate 25 (I 1) := by rw [← e3]; rfl
 have h9 := hS2
 rw [hfin] at h9
 exact h9
end Go.Ds
namespace Go.Ds
open Go.Proofs
variable {H : Heap}
set_option maxRecDepth 10000
set_option maxHeartbeats 1000000
section
variable (w1 w2 w3 w4 w5 w6 w7 : Value)
def a4u (x : Int × Int) : List (Int × Int) → List (Int × Int)
 | [] => [x]
 | y :: l => if tS x y then x :: y :: l else y :: a4u x l
def a5o : List (Int × Int) → List (Int × Int)
 | [] => []
 | x :: l => a4u x (a5o l)
theorem rD (x : Int × Int) : ∀ l, (a4u x l).Perm (x :: l)
 | [] => .refl _
 | y :: l => by
   unfold a4u
   split
   ·exact .refl _
   ·exact ((rD x l).cons y).trans (.swap ..)
theorem zV : ∀ l, (a5o l).Perm l
 | [] => .refl _
 | x :: l => (rD x _).trans ((zV l).cons x)
theorem a8A (x y : Int × Int) : tS x y = false → tS y x = true := by
 intro h
 rw [← Bool.not_eq_true] at h
 rw [fA] at h ⊢
 omega
theorem tG (x : Int × Int) : ∀ l : List (Int × Int), l.Pairwise (fun a b => tS a b = true) → (a4u x l).Pairwise fun a b => tS a b = true
 | [], _ => by simp [a4u]
 | y :: l, h => by
   have h1 := List.pairwise_cons.1 h
   unfold a4u
   split
   ·rename_i hxy
    refine List.pairwise_cons.2 ⟨fun z hz => ?_, h⟩
    rcases List.mem_cons.1 hz with rfl | hz
    ·exact hxy
    ·have h2 := h1.1 z hz
     rw [fA] at *
     omega
   ·rename_i hxy
    refine List.pairwise_cons.2 ⟨fun z hz => ?_, tG x l h1.2⟩
    rcases List.mem_cons.1 ((rD x l).mem_iff.1 hz) with rfl | hz
    ·exact a8A _ _ (by simpa using hxy)
    ·exact h1.1 z hz
theorem tF : ∀ l : List (Int × Int), (a5o l).Pairwise fun a b => tS a b = true
 | [] => .nil
 | x :: l => tG x _ (tF l)
theorem b1g : lW = a5o := by
 funext l
 refine List.Perm.eq_of_pairwise (le := fun a b => tS a b = true) (fun a b _ _ h1 h2 => ?_) (kZ l) (tF l) ((eI l).trans (zV l).symm)
 rw [fA] at h1 h2
 exact Prod.ext (by omega) (by omega)
def b7a (s : List Ct → List Ct) (o : Org) (r : Reg) (l : List Ct) : List Ct := dd (s (l.filter (fun c => !r.off.testBit c.1.toNat) ++ bfs o r.cpl 1100 0 (cE o r.cpl l)))
def b6n (s : List Ct → List Ct) (rs : List Rk) (p : Stp) (key : Int) : List Ct := dd (s (((a5k p key).filter fun d => sD rs d key).map fun d => gR rs d key))
def b6S (s : List Ct → List Ct) (o : Org) (r : Reg) (c : Ct) : List Ct := (List.range (aC o.dvs c.1.toNat).stops.length).flatMap fun i => if (aC r.stops c.1.toNat).testBit i then b6n s o.ranks (aC (aC o.dvs c.1.toNat).stops i) c.2 else []
end
end Go.Ds
namespace Go.Ds
open Go.Proofs
variable {H : Heap}
set_option maxRecDepth 10000
set_option maxHeartbeats 1000000
theorem yE (hG : Glob gH H) (s : ByteArray) : Fn Tryz.prog 84 [.string s] H fun r H' => ∃ wv, r = .agg #[.string s, .string ⟨#[102, 108, 117, 116, 101]⟩, I 8, I 1, I 36, wv] ∧ St Tryz.prog H H' [⟨wv, 1, List.replicate 25 (I 1)⟩] := by
 refine Fn.of_sw Tryz.func84 rfl (by kernel_rfl) fun l hl => ?_
 have hn : l.length = 8 := by rw [hl]; rfl
 have g0 : get l 0 = (.string s) := by rw [hl]; rfl
 clear hl
 simp (disch := omega) only [↓RA, RZ, simprocAttr]
 refine (St.refl Tryz.prog H).eNew 6 [(.string ⟨#[]⟩), (.string ⟨#[]⟩), I 0, I 0, I 0, (.slice none 0 0)] rfl rfl rfl pD fun A1 H1 hS1 => ?_
 simp only [RT] at hS1
 simp (disch := omega) only [↓RA, RB, simprocAttr, g0, mR]
 refine hS1.eSlice [I 1] vW a2d rfl rfl (by simp [Value.cells]) rfl rfl (by decide) (by decide) fun w1 H2 hS2 => ?_
 simp only [RT] at hS2
 simp (disch := omega) only [↓RA, RZ, simprocAttr, hn]
 refine aB ((a9c (hS2.gl hG) w1 (hS2.slo 1 rfl (fun _ => rfl))).tr) ?_
 rintro r H3 ⟨-, hT1⟩
 have hS3 := hS2.trans hT1
 simp only [RT] at hS3
 obtain ⟨wv, rfl⟩ : ∃ w, w = r := ⟨r, rfl⟩
 simp (disch := omega) only [↓RA, RB, simprocAttr, hn, uS (hS3.rd 2 rfl).cells]
 refine hS3.eStore 0 rfl [(.string s), (.string ⟨#[102, 108, 117, 116, 101]⟩), I 8, I 1, I 36, wv] rfl (by simp [OC, (hS3.rd 2 rfl).cells.2.1]) pD (by simp) fun H4 hS4 => ?_
 simp only [RT] at hS4
 simp (disch := omega) only [↓RA, RZ, simprocAttr, hn, c2z, hS4.ldA 0 rfl]
 exact ⟨wv, rfl, hS4.pick [2] (by decide) rfl⟩
theorem zN (n feet shift : Int) : Fn Tryz.prog 83 [I n, I feet, I shift] H fun r H' => ∃ dv gv, St Tryz.prog H H' [⟨dv, 2, [I n, I shift]⟩, ⟨gv, 3, [I 36, I 48, dv]⟩, ⟨r, 4, [.string ⟨#[97]⟩, I feet, I 1, gv]⟩] := by
 refine Fn.of_sw Tryz.func83 rfl (by kernel_rfl) fun l hl => ?_
 have hn : l.length = 17 := by rw [hl]; rfl
 have g0 : get l 0 = I n := by rw [hl]; rfl
 have g1 : get l 1 = I feet := by rw [hl]; rfl
 have g2 : get l 2 = I shift := by rw [hl]; rfl
 clear hl
 simp (disch := omega) only [↓RA, RB, simprocAttr, hn, g0, g1, g2, mR, iR]
 refine (St.refl Tryz.prog H).eSlice [I n, I shift] yF zZ rfl rfl (by simp [Value.cells]) rfl rfl (by decide) (by decide) fun w1 H1 hS1 => ?_
 simp only [RT] at hS1
 simp (disch := omega) only [↓RA, RB, simprocAttr, hn, dC (hS1.rd 0 rfl).cells]
 refine hS1.eSlice [I 36, I 48, w1] iC nR rfl rfl (by first | (simp []; done) | simp [Value.cells]) (by first | (simp []; done) | simp [Value.cells]) (by simp [OC, (hS1.rd 0 rfl).cells.2.1]) (by decide) (by decide) fun w2 H2 hS2 => ?_
 simp only [RT] at hS2
 simp (disch := omega) only [↓RA, RB, simprocAttr, hn, a2v (hS2.rd 1 rfl).cells]
 refine hS2.eSlice [(.string ⟨#[97]⟩), I feet, I 1, w2] a9H b6b rfl rfl (by first | (simp []; done) | simp [Value.cells]) (by first | (simp []; done) | simp [Value.cells]) (by simp [OC, (hS2.rd 1 rfl).cells.2.1]) (by decide) (by decide) fun w3 H3 hS3 => ?_
 simp only [RT] at hS3
 simp (disch := omega) only [↓RA, RB, simprocAttr, hn, c2S]
 exact ⟨w1, w2, hS3⟩
def exE (w1 w2 : Value) (d1 g1 s1 d2 g2 s2 : Value) (w3 w4 w5 : Value) : Org := ⟨⟨#[101]⟩, w3, [⟨⟨#[114]⟩, ⟨#[102, 108, 117, 116, 101]⟩, 8, 1, 36, w1, List.replicate 25 1⟩, ⟨⟨#[115]⟩, ⟨#[102, 108, 117, 116, 101]⟩, 8, 1, 36, w2, List.replicate 25 1⟩], w4,
 [⟨⟨#[111, 110, 101]⟩, false, 36, 48, s1, [⟨⟨#[97]⟩, 8, 1, g1, [⟨36, 48, d1, [⟨0, 0⟩]⟩]⟩]⟩, ⟨⟨#[116, 119, 111]⟩, false, 36, 48, s2, [⟨⟨#[97]⟩, 4, 1, g2, [⟨36, 48, d2, [⟨1, 12⟩]⟩]⟩]⟩], w5, [⟨⟨#[99]⟩, 0, 1, 0, false⟩]⟩
theorem a2b (hG : Glob gH H) : Fn Tryz.prog 41 [] H fun r H' => ∃ w1 w2 d1 g1 s1 d2 g2 s2 w3 w4 w5, r = .agg #[.string (exE w1 w2 d1 g1 s1 d2 g2 s2 w3 w4 w5).name, w3, w4, w5] ∧ (exE w1 w2 d1 g1 s1 d2 g2 s2 w3 w4 w5).In H' ∧ St Tryz.prog H H' [] := by
 refine Fn.of_sw Tryz.func41 rfl (by kernel_rfl) fun l hl => ?_
 have hn : l.length = 19 := by rw [hl]; rfl
 clear hl
 simp (disch := omega) only [↓RA, RZ, simprocAttr]
 refine (St.refl Tryz.prog H).eNew 4 [(.string ⟨#[]⟩), (.slice none 0 0), (.slice none 0 0), (.slice none 0 0)] rfl rfl rfl fH fun A1 H1 hS1 => ?_
 simp only [RT] at hS1
 simp (disch := omega) only [↓RA, RZ, simprocAttr, zA]
 refine hS1.eNew 2 [I 0, I 0] rfl rfl rfl lN fun A2 H2 hS2 => ?_
 simp only [RT] at hS2
 simp (disch := omega) only [↓RA, RB, simprocAttr, hn]
 refine hS2.eStore 1 rfl [I 36, I 48] rfl rfl lN (by simp) fun H3 hS3 => ?_
 simp only [RT] at hS3
 simp (disch := omega) only [↓RA, RB, simprocAttr]
 refine Wp.drwM cB [0, 1, 4, 5, 8, 9, 2, 3, 6, 7, 10, 11, 12, 13, 14, 15] [0, 1, 6, 7, 2, 3, 8, 9, 4, 5, 10, 11, 12, 13, 14, 15] ⟨true, [36], []⟩ [(7, 0), (7, 1), (7, 2), (7, 4), (7, 6), (9, 0), (9, 1), (9, 2), (9, 4), (9, 6)] (by kernel_rfl) (by kernel_rfl) (by kernel_rfl) ?_
 simp (disch := omega) only [↓RA, RZ, simprocAttr]
 refine aB (yE (hS3.gl hG) _) ?_
 rintro r H4 ⟨wv1, rfl, hT1⟩
 have hS4 := hS3.trans hT1
 simp only [RT] at hS4
 simp (disch := omega) only [↓RA, RZ, simprocAttr]
 refine aB (yE (hS4.gl hG) _) ?_
 rintro r H5 ⟨wv2, rfl, hT2⟩
 have hS5 := hS4.trans hT2
 simp only [RT] at hS5
 simp (disch := omega) only [↓RA, RZ, simprocAttr, hn]
 refine aB (zN 0 8 0) ?_
 rintro r H6 ⟨d1, g1, hT3⟩
 have hS6 := hS5.trans hT3
 simp only [RT] at hS6
 obtain ⟨s1, rfl⟩ : ∃ w, w = r := ⟨r, rfl⟩
 simp (disch := omega) only [↓RA, RZ, simprocAttr, hn]
 refine aB (zN 1 4 12) ?_
 rintro r H7 ⟨d2, g2, hT4⟩
 have hS7 := hS6.trans hT4
 simp only [RT] at hS7
 obtain ⟨s2, rfl⟩ : ∃ w, w = r := ⟨r, rfl⟩
 simp (disch := omega) only [↓RA, RB, simprocAttr, hn]
 refine hS7.eSlice [(.string ⟨#[114]⟩), (.string ⟨#[102, 108, 117, 116, 101]⟩), I 8, I 1, I 36, wv1, (.string ⟨#[115]⟩), (.string ⟨#[102, 108, 117, 116, 101]⟩), I 8, I 1, I 36, wv2] b7s c0f rfl rfl (by first | (simp []; done) | simp [Value.cells]) (by first | (simp []; done) | simp [Value.cells]) (by simp [OC, (hS7.rd 2 rfl).cells.2.1, (hS7.rd 3 rfl).cells.2.1]) (by decide) (by decide) fun w1 H8 hS8 => ?_
 simp only [RT] at hS8
 simp (disch := omega) only [↓RA, RZ, simprocAttr, hn, hS8.ldA 1 rfl, tA (hS8.rd 6 rfl).cells, tA (hS8.rd 9 rfl).cells]
 refine hS8.eSlice [(.string ⟨#[111, 110, 101]⟩), (.bool false), I 36, I 48, s1, (.string ⟨#[116, 119, 111]⟩), (.bool false), I 36, I 48, s2] b8E c0E rfl rfl (by first | (simp []; done) | simp [Value.cells]) (by first | (simp []; done) | simp [Value.cells]) (by simp [OC, (hS8.rd 6 rfl).cells.2.1, (hS8.rd 9 rfl).cells.2.1]) (by decide) (by decide) fun w2 H9 hS9 => ?_
 simp only [RT] at hS9
 simp (disch := omega) only [↓RA, RB, simprocAttr, hn, a2x]
 refine hS9.eSlice [(.string ⟨#[99]⟩), I 0, I 1, I 0, (.bool false)] a4k b3d rfl rfl (by simp [Value.cells]) rfl rfl (by decide) (by decide) fun w3 H10 hS10 => ?_
 simp only [RT] at hS10
 simp (disch := omega) only [↓RA, RB, simprocAttr, hn, a0o (hS10.rd 10 rfl).cells (hS10.rd 11 rfl).cells (hS10.rd 12 rfl).cells]
 refine hS10.eStore 0 rfl [(.string ⟨#[101]⟩), w1, w2, w3] rfl (by simp [OC, (hS10.rd 10 rfl).cells.2.1, (hS10.rd 11 rfl).cells.2.1, (hS10.rd 12 rfl).cells.2.1]) fH (by simp) fun H11 hS11 => ?_
 simp only [RT] at hS11
 simp (disch := omega) only [↓RA, RZ, simprocAttr, hn, hS3.ldA 1 rfl, hS4.ldA 1 rfl, hS5.ldA 1 rfl, hS6.ldA 1 rfl, hS7.ldA 1 rfl, c3H, hS11.ldA 0 rfl]
 have h1 : Sl 1 (one I) H11 wv1 (List.replicate 25 1) := hS11.slo 2 rfl (fun _ => rfl)
 have h2 : Sl 1 (one I) H11 wv2 (List.replicate 25 1) := hS11.slo 3 rfl (fun _ => rfl)
 have h3 : Sl 2 Drw.cells H11 d1 [⟨0, 0⟩] := hS11.slo 4 rfl (fun _ => rfl)
 have h4 : Sl 3 Seg.cells H11 g1 [⟨36, 48, d1, [⟨0, 0⟩]⟩] := hS11.slo 5 rfl (fun _ => rfl)
 have h5 : Sl 4 Stp.cells H11 s1 [⟨⟨#[97]⟩, 8, 1, g1, [⟨36, 48, d1, [⟨0, 0⟩]⟩]⟩] := hS11.slo 6 rfl (fun _ => rfl)
 have h6 : Sl 2 Drw.cells H11 d2 [⟨1, 12⟩] := hS11.slo 7 rfl (fun _ => rfl)
 have h7 : Sl 3 Seg.cells H11 g2 [⟨36, 48, d2, [⟨1, 12⟩]⟩] := hS11.slo 8 rfl (fun _ => rfl)
 have h8 : Sl 4 Stp.cells H11 s2 [⟨⟨#[97]⟩, 4, 1, g2, [⟨36, 48, d2, [⟨1, 12⟩]⟩]⟩] := hS11.slo 9 rfl (fun _ => rfl)
 have h9 : Sl 6 Rk.cells H11 w1 (exE wv1 wv2 d1 g1 s1 d2 g2 s2 w1 w2 w3).ranks := hS11.slo 10 rfl (fun _ => rfl)
 have h10 : Sl 5 Dvn.cells H11 w2 (exE wv1 wv2 d1 g1 s1 d2 g2 s2 w1 w2 w3).dvs := hS11.slo 11 rfl (fun _ => rfl)
 have h11 : Sl 5 Cpl.cells H11 w3 (exE wv1 wv2 d1 g1 s1 d2 g2 s2 w1 w2 w3).cpls := hS11.slo 12 rfl (fun _ => rfl)
 refine ⟨wv1, wv2, d1, g1, s1, d2, g2, s2, w1, w2, w3, rfl, ⟨h9, ?_, h10, ?_, h11, by simp [exE], by simp [exE], by simp [exE]⟩, hS11.forget⟩
 ·intro r hr
  simp only [exE, List.mem_cons, List.not_mem_nil, or_false] at hr
  rcases hr with rfl | rfl
  ·exact ⟨h1, by simp⟩
  ·exact ⟨h2, by simp⟩
 ·intro d hd
  simp only [exE, List.mem_cons, List.not_mem_nil, or_false] at hd
  rcases hd with rfl | rfl
  ·exact ⟨h5, fun s hs => by rw [List.mem_singleton.1 hs]; exact ⟨h4, fun g hg => by rw [List.mem_singleton.1 hg]; exact ⟨h3, by simp⟩, by simp⟩, by simp⟩
  ·exact ⟨h8, fun s hs => by rw [List.mem_singleton.1 hs]; exact ⟨h7, fun g hg => by rw [List.mem_singleton.1 hg]; exact ⟨h6, by simp⟩, by simp⟩, by simp⟩
section
variable (w1 w2 d1 g1 s1 d2 g2 s2 w3 w4 w5 : Value)
theorem b2G (off : Nat) (h : off < 2) : jH (exE w1 w2 d1 g1 s1 d2 g2 s2 w3 w4 w5) ⟨[1, 1], 1, off⟩ = 0 := by
 rcases (by omega : off = 0 ∨ off = 1) with rfl | rfl
 ·kernel_rfl
 ·kernel_rfl
theorem b1H : gU (exE w1 w2 d1 g1 s1 d2 g2 s2 w3 w4 w5) [bD [40], (0, 0)] = 0 := by kernel_rfl
theorem b4F : eR (exE w1 w2 d1 g1 s1 d2 g2 s2 w3 w4 w5) ⟨[1, 1], 1, 0⟩ (aO [bD [40], (0, 0)]) = [(0, 40), (1, 40)] := by
 unfold eR
 rw [b1g]
 kernel_rfl
end
end Go.Ds
namespace Go.Ds
open Go.Proofs
variable {H : Heap}
set_option maxRecDepth 10000
set_option maxHeartbeats 1000000
theorem b4D (v : Value) (k : FuncId) : Fn Tryz.prog 120 [v, I 0, I 1, .func (.func k) #[] #[]] H fun r H' => r = .tuple #[] ∧ St Tryz.prog H H' [] := by
 refine Fn.of_sw Tryz.func120 rfl (by kernel_rfl) fun l hl => ?_
 have hn : l.length = 53 := by rw [hl]; rfl
 have g0 : get l 0 = v := by rw [hl]; rfl
 have g1 : get l 1 = I 0 := by rw [hl]; rfl
 have g2 : get l 2 = I 1 := by rw [hl]; rfl
 have g3 : get l 3 = .func (.func k) #[] #[] := by rw [hl]; rfl
 clear hl
 simp (disch := omega) only [↓RA, RB, simprocAttr, hn, g1]
 refine Wp.loopS (fun n l H' => l.length = 53 ∧ get l 8 = I 1 ∧ get l 2 = I 1 ∧ St Tryz.prog H H' []) 1 ?_ ?_
 ·simp (disch := omega) only [RB, RC, simprocAttr, hn, g2]
  exact (St.refl Tryz.prog H)
 rintro n l H9 ⟨hn, g8, g2, hS9⟩
 simp (disch := omega) only [↓RA, RZ, simprocAttr, hn, g8, g2, c1b]
 first | exact hS9 | exact ⟨rfl, hS9⟩
theorem a4P (v : Value) (k : FuncId) : Fn Tryz.prog 82 [v, I 1, .func (.func k) #[] #[]] H fun r H' => r = .tuple #[] ∧ St Tryz.prog H H' [] := by
 refine Fn.of_sw Tryz.func82 rfl (by kernel_rfl) fun l hl => ?_
 have hn : l.length = 63 := by rw [hl]; rfl
 have g0 : get l 0 = v := by rw [hl]; rfl
 have g1 : get l 1 = I 1 := by rw [hl]; rfl
 have g2 : get l 2 = .func (.func k) #[] #[] := by rw [hl]; rfl
 clear hl
 simp (disch := omega) only [↓RA, RB, simprocAttr, hn]
 refine Wp.loopS (fun n l H' => l.length = 63 ∧ get l 0 = v ∧ get l 1 = I 1 ∧ get l 2 = .func (.func k) #[] #[] ∧ get l 6 = I 20 ∧ get l 7 = I 0 ∧ get l 8 = I 20 ∧ St Tryz.prog H H' []) 1 ?_ ?_
 ·simp (disch := omega) only [RB, RC, simprocAttr, hn, g0, g1, g2]
  exact (St.refl Tryz.prog H)
 rintro n l H9 ⟨hn, g0, g1, g2, g6, g7, g8, hS9⟩
 simp (disch := omega) only [↓RA, RZ, simprocAttr, hn, g0, g1, g2, g7, g8]
 refine aB (b4D v k) ?_
 rintro r H1 ⟨rfl, hT1⟩
 have hS1 := (St.refl Tryz.prog H9).trans hT1
 simp only [RT] at hS1
 simp (disch := omega) only [↓RA, simprocAttr]
 have hS8 := hS9.trans hS1
 refine Wp.loopS (fun n l H' => l.length = 63 ∧ get l 1 = I 1 ∧ get l 6 = I 20 ∧ St Tryz.prog H H' []) 1 ?_ ?_
 ·simp (disch := omega) only [RB, RC, simprocAttr, hn, g1, g6]
  exact hS8
 rintro n l H7 ⟨hn, g1, g6, hS7⟩
 simp (disch := omega) only [↓RA, RZ, simprocAttr, hn, g1, g6, c2O]
 first | exact hS7 | exact ⟨rfl, hS7⟩
def a1I (x : Ct × Int) : List Value := [I x.1.1, I x.1.2, I x.2]
theorem a3y (v : Value) (x : Ct × Int) (hv : Sl 3 a1I H v [x]) (k : FuncId) : Fn Tryz.prog 38 [v, .func (.func k) #[] #[]] H fun r H' => r = .tuple #[] ∧ St Tryz.prog H H' [] := by
 have h1 : (([x] : List (Ct × Int)).length : Int) = 1 := rfl
 refine Fn.of_sw Tryz.func38 rfl (by kernel_rfl) fun l hl => ?_
 have hn : l.length = 9 := by rw [hl]; rfl
 have g0 : get l 0 = v := by rw [hl]; rfl
 have g1 : get l 1 = .func (.func k) #[] #[] := by rw [hl]; rfl
 clear hl
 simp (disch := omega) only [↓RA, RZ, simprocAttr, hn, g0, g1, ((St.refl Tryz.prog H).sl hv).len]
 refine aB (a4P v k) ?_
 rintro r H1 ⟨rfl, hT1⟩
 have hS1 := (St.refl Tryz.prog H).trans hT1
 simp only [RT] at hS1
 simp (disch := omega) only [↓RA, RZ, simprocAttr, c2A]
 first | exact hS1 | exact ⟨rfl, hS1⟩
theorem a8P (hG : Glob gH H) : Fn Tryz.prog 78 [.agg #[I 8, I 1], .agg #[I 8, I 1]] H fun r H' => r = .tuple #[I 0, I 0] ∧ St Tryz.prog H H' [] := by
 have h := wJ hG (a := (8, 1)) (b := (8, 1)) (by simp [cS]) (by simp [dO])
 rw [show shF (8, 1) (8, 1) = 0 from by kernel_rfl] at h
 exact h.mono fun _ _ h => ⟨h.1.1, h.2⟩
def a2W (o : Org) (p : Ct) : Ct × Int := (p, (aC o.ranks p.1.toNat).first + p.2 + 0)
theorem a5R (hG : Glob gH H) (o : Org) (ho : o.In H) (rg : Reg) (sv : Value) (hr : rg.In H sv) (kv : Value) (ks : List Nt) (hk : Ks H kv ks) (h0 : rkE o rg ks = 0) (i m : Nat) (hsp : yC o rg ks = [((i : Int), (m : Int))]) (hi : i < o.ranks.length) (hm : m < 1000)
 (hf : (aC o.ranks i).num = 8 ∧ (aC o.ranks i).den = 1 ∧ -1000 ≤ (aC o.ranks i).first ∧ (aC o.ranks i).first ≤ 1000) :
 Fn Tryz.prog 36 [.agg #[.string o.name, o.rv, o.dv, o.cv], .agg #[sv, .int .u64 rg.cpl, .int .u64 rg.off], kv] H fun r H' => ∃ hv, r = .tuple #[hv, I 0] ∧ St Tryz.prog H H' [⟨hv, 3, a1I (a2W o ((i : Int), (m : Int)))⟩] := by
 obtain ⟨f1, f2, f3, f4⟩ := hf
 refine Fn.of_sw Tryz.func36 rfl (by kernel_rfl) fun l hl => ?_
 have hn : l.length = 61 := by rw [hl]; rfl
 have g0 : get l 0 = (.agg #[(.string o.name), o.rv, o.dv, o.cv]) := by rw [hl]; rfl
 have g1 : get l 1 = (.agg #[sv, (.int .u64 rg.cpl), (.int .u64 rg.off)]) := by rw [hl]; rfl
 have g2 : get l 2 = kv := by rw [hl]; rfl
 clear hl
 simp (disch := omega) only [↓RA, RB, simprocAttr, g0]
 refine (St.refl Tryz.prog H).eNew 4 [(.string o.name), o.rv, o.dv, o.cv] rfl rfl (by simp [OC, ((St.refl Tryz.prog H).sl ho.1).cells.2.1, ((St.refl Tryz.prog H).sl ho.2.2.1).cells.2.1, ((St.refl Tryz.prog H).sl ho.2.2.2.2.1).cells.2.1]) fH fun A1 H1 hS1 => ?_
 simp only [RT] at hS1
 simp (disch := omega) only [↓RA, RB, simprocAttr, g1]
 refine hS1.eNew 3 [sv, (.int .u64 rg.cpl), (.int .u64 rg.off)] rfl rfl (by simp [OC, (hS1.sl hr.1).cells.2.1]) jU fun A2 H2 hS2 => ?_
 simp only [RT] at hS2
 simp (disch := omega) only [↓RA, RZ, simprocAttr, hn, g2, hS2.ldA 0 rfl, hS2.ldA 1 rfl]
 refine aB (sV (hS2.gl hG) o (ho.keep hS2) rg sv (hr.keep hS2) kv ks (hk.keep hS2)) ?_
 rintro r H3 ⟨pv, rfl, hx, hT1⟩
 have hS3 := hS2.trans hT1
 simp only [RT] at hS3
 rw [h0]
 rw [hsp] at hx
 have hl1 : (([((i : Int), (m : Int))] : List Ct).length : Int) = 1 := rfl
 have hS0 := hS3
 have ho2 := ho.keep hS0
 have hG2 := hS0.gl hG
 simp (disch := omega) only [↓RA, RZ, simprocAttr, hn, ((St.refl Tryz.prog H3).sl hx.1).len]
 have hS4 := (St.refl Tryz.prog H3).nil 2
 simp only [RT] at hS4
 refine Wp.loopS (fun n l H' => l.length = 61 ∧ get l 3 = (ptr A1 0 4) ∧ get l 6 = (.slice none 0 0) ∧ get l 7 = I 0 ∧ get l 26 = pv ∧ ∃ (j : Nat) (ov : Value), (n + j = 1) ∧ get l 28 = I j ∧ get l 10 = ov ∧ get l 27 = I 1 ∧ St Tryz.prog H3 H' [⟨ov, 3, ([a2W o ((i : Int), (m : Int))].take j).flatMap a1I⟩]) 1 ?_ ?_
 ·simp (disch := omega) only [RB, RC, simprocAttr, hn]
  exact ⟨0, .slice none 0 0, by omega, rfl, rfl, hS4⟩
 rintro n l H4 ⟨hn, g3, g6, g7, g26, j, ov, hj, g28, lX, g27, hS5⟩
 simp (disch := omega) only [↓RA, RB, simprocAttr, hn, g28, g27]
 refine aA (fun q1 => ?_) (fun q1 => ?_)
 ·have hj0 : j = 0 := by omega
  have hn0 : aC ([((i : Int), (m : Int))] : List Ct) j = ((i : Int), (m : Int)) := by rw [hj0]; rfl
  simp (disch := omega) only [↓RA, RZ, simprocAttr, hn, g26, g28, (hS5.sl hx.1).idx, (hS5.sl hx.1).ldA, cA, q1, hn0]
  refine hS5.eNew 2 [I 0, I 0] rfl rfl rfl oU fun A3 H5 hS6 => ?_
  simp only [RT] at hS6
  simp (disch := omega) only [↓RA, RZ, simprocAttr, hn, q1]
  refine hS6.eStore 1 rfl [I i, I m] rfl rfl oU (by simp) fun H6 hS7 => ?_
  simp only [RT] at hS7
  simp (disch := omega) only [↓RA, RZ, simprocAttr, hn, g3, ((hS0.var 0 rfl).keep hS7.keep).ld, hS7.ld 1 rfl, (hS7.sl ho2.1).idx, (hS7.sl ho2.1).ldA, Rk.cells, q1]
  refine hS7.eNew 6 [(.string ⟨#[]⟩), (.string ⟨#[]⟩), I 0, I 0, I 0, (.slice none 0 0)] rfl rfl rfl pD fun A4 H7 hS8 => ?_
  simp only [RT] at hS8
  simp (disch := omega) only [↓RA, RZ, simprocAttr, hn, q1]
  refine hS8.eStore 2 rfl [(.string (aC o.ranks i).name), (.string (aC o.ranks i).tone), I (aC o.ranks i).num, I (aC o.ranks i).den, I (aC o.ranks i).first, (aC o.ranks i).wv] rfl (by simp [OC, (hS8.sl (ho2.2.1 (aC o.ranks i) (aF (by omega))).1).cells.2.1]) pD (by simp) fun H8 hS9 => ?_
  simp only [RT] at hS9
  simp (disch := omega) only [↓RA, RZ, simprocAttr, hn, hS9.ldA 2 rfl, mR, q1]
  rw [f1, f2]
  refine aB (a8P (hS9.gl hG2)) ?_
  rintro r H9 ⟨rfl, hT2⟩
  have hS10 := hS9.trans hT2
  simp only [RT] at hS10
  simp (disch := omega) only [↓RA, RZ, simprocAttr, hn, lX, hS10.ldA 1 rfl, hS10.ld 2 rfl, hS10.ld 1 rfl, a2p, q1]
  refine hS10.eSlice [I i, I m, _] b7Y b9l rfl rfl (by simp [Value.cells]) rfl rfl (by decide) (by decide) fun w1 H10 hS11 => ?_
  simp only [RT] at hS11
  simp (disch := omega) only [↓RA, RZ, simprocAttr, hn, q1]
  refine hS11.eAppend 0 rfl (hS11.rd 3 rfl) b7Y (by rw [hj0]; simp) fun w2 H11 hS12 => ?_
  simp only [RT] at hS12
  simp (disch := omega) only [↓RA, RZ, simprocAttr, hn, g3, g6, g7, g26, g28, g27, q1]
  refine ⟨0, by omega, 1, w2, by omega, by rw [hj0]; rfl, rfl, ?_⟩
  have h9 := hS12.pick (os' := [⟨w2, 3, _⟩]) [0] (by decide) rfl
  rw [hj0] at h9
  exact h9
 have hj1 : j = 1 := by omega
 simp (disch := omega) only [↓RA, RZ, simprocAttr, hn, lX, q1]
 have hnt := (hS5.slo (cel := a1I) (xs := [a2W o ((i : Int), (m : Int))].take j) 0 rfl (fun _ => rfl)).noTup
 refine aB (a3y ov (a2W o ((i : Int), (m : Int))) (by have h := hS5.slo (cel := a1I) (xs := [a2W o ((i : Int), (m : Int))].take j) 0 rfl (fun _ => rfl); rw [hj1] at h; exact h) 79) ?_
 rintro r H12 ⟨rfl, hT3⟩
 have hS13 := hS5.trans hT3
 simp only [RT] at hS13
 simp (disch := omega) only [↓RA, RZ, simprocAttr, hn, lX, c4f, q1, hnt]
 refine ⟨ov, rfl, ?_⟩
 have hfin := hS13
 rw [hj1] at hfin
 exact hS0.forget.trans hfin
end Go.Ds
namespace Go.Ds
open Go.Proofs
variable {H : Heap}
set_option maxRecDepth 10000
set_option maxHeartbeats 1000000
theorem uK (v w : Value) (xs ys : List Ct) (hv : Sl 2 cA H v xs) (hw : Sl 2 cA H w ys) (hl : xs.length < 1000000000) (hl2 : ys.length < 1000000000) :
 Fn Tryz.prog 16 [v, w] H fun r H' => r = .bool (decide (xs = ys)) ∧ St Tryz.prog H H' [] := by
 refine Fn.of_sw Tryz.func16 rfl (by kernel_rfl) fun l hl => ?_
 have hn : l.length = 26 := by rw [hl]; rfl
 have g0 : get l 0 = v := by rw [hl]; rfl
 have g1 : get l 1 = w := by rw [hl]; rfl
 clear hl
 simp (disch := omega) only [↓RA, RZ, simprocAttr, hn, g0, g1, ((St.refl Tryz.prog H).sl hv).len, ((St.refl Tryz.prog H).sl hw).len]
 refine aA (fun h1 => ?_) (fun h1 => ?_)
 ·simp (disch := omega) only [↓RA, RZ, simprocAttr, hn, b7F, h1]
  exact ⟨by rw [decide_eq_false]; intro e; rw [e] at h1; exact h1 rfl, (St.refl Tryz.prog H)⟩
 simp (disch := omega) only [↓RA, RZ, simprocAttr, hn, g0, ((St.refl Tryz.prog H).sl hv).len, h1]
 refine Wp.loopS (fun n l H' => l.length = 26 ∧ get l 0 = v ∧ get l 1 = w ∧ get l 12 = I xs.length ∧ ∃ (j : Nat), (n + j = xs.length ∧ ∀ q, q < j → aC xs q = aC ys q) ∧ get l 13 = I j ∧ St Tryz.prog H H' []) xs.length ?_ ?_
 ·simp (disch := omega) only [RB, RC, simprocAttr, hn, g0, g1]
  exact ⟨0, ⟨by omega, fun q hq => absurd hq (Nat.not_lt_zero _)⟩, rfl, (St.refl Tryz.prog H)⟩
 rintro n l H1 ⟨hn, g0, g1, g12, j, ⟨hj,hz⟩, g13, hS1⟩
 simp (disch := omega) only [↓RA, RB, simprocAttr, hn, g12, g13]
 refine aA (fun q1 => ?_) (fun q1 => ?_)
 ·simp (disch := omega) only [↓RA, RZ, simprocAttr, hn, g13, q1]
  refine Wp.drw cB (by kernel_rfl) ?_
  simp (disch := omega) only [↓RA, RZ, simprocAttr, hn, g0, g1, (hS1.sl hv).idx, (hS1.sl hv).ldA, cA, (hS1.sl hw).idx, (hS1.sl hw).ldA]
  refine aA (fun q2 => ?_) (fun q2 => ?_)
  ·simp (disch := omega) only [↓RA, RZ, simprocAttr, hn, b7F, q2]
   refine ⟨?_, hS1⟩
   rw [decide_eq_false]
   intro e
   rw [e] at q2
   exact q2 ⟨rfl, rfl⟩
  have q3 := Classical.not_not.1 q2
  simp (disch := omega) only [↓RA, RZ, simprocAttr, hn, g0, g1, g12, g13, q2]
  exact ⟨n - 1, by omega, j + 1, ⟨by omega, fun q hq => by rcases Nat.lt_succ_iff_lt_or_eq.1 hq with e | e; (· exact hz q e); (· rw [e]; exact Prod.ext q3.1 q3.2)⟩, by simp, hS1⟩
 simp (disch := omega) only [↓RA, RZ, simprocAttr, hn, b7F, q1]
 exact ⟨by rw [decide_eq_true]; exact oK (by omega) fun q hq => hz q (by omega), hS1⟩
theorem a9O (a b c : Int) : aJ Tryz.prog (part 70 #[I a, I b, I c] 0) = some (.agg #[I a, I b]) := by kernel_rfl
theorem b5R (a b c : Int) : aJ Tryz.prog (part 3 #[I a, I b, I c] 2) = some (I c) := by kernel_rfl
theorem c0W (x y : Ct × Int) : aJ Tryz.prog (Op.equalIn (9999 + 1) 94 (.agg [I x.1.1, I x.1.2, I x.2].toArray) (.agg [I y.1.1, I y.1.2, I y.2].toArray)) = some (decide (x = y)) := by
 have h52 : aJ Tryz.prog (Op.equalIn (9997 + 2) 70 (.agg [I x.1.1, I x.1.2].toArray) (.agg [I y.1.1, I y.1.2].toArray)) = some ((List.range [I x.1.1, I x.1.2].length).all fun j => tR ([I x.1.1, I x.1.2].getD j undef) ([I y.1.1, I y.1.2].getD j undef)) :=
  pM 9997 (by kernel_rfl) (by kernel_rfl) (by kernel_rfl) rfl (by kernel_rfl)
 rw [a2D (fs := lV Tryz.prog 94) (by kernel_rfl) (by kernel_rfl) (fun f => if f.offset = 0 then decide (x.1 = y.1) else decide (x.2 = y.2))]
 ·congr 1
  have hfl : (lV Tryz.prog 94).map (·.offset) = [0, 2] := by kernel_rfl
  have e : (lV Tryz.prog 94).all (fun f => if f.offset = 0 then decide (x.1 = y.1) else decide (x.2 = y.2)) = ((lV Tryz.prog 94).map (·.offset)).all fun n => if n = 0 then decide (x.1 = y.1) else decide (x.2 = y.2) := by
   rw [List.all_map]
   rfl
  rw [e, hfl, Bool.eq_iff_iff]
  simp [Prod.ext_iff]
 ·intro f hf
  have hfs : (lV Tryz.prog 94).map (fun f => (f.name != "_", f.type, f.offset)) = [(true, 70, 0), (true, 3, 2)] := by kernel_rfl
  have hm : (f.name != "_", f.type, f.offset) ∈ [(true, 70, 0), (true, 3, 2)] := by
   rw [← hfs]
   exact List.mem_map_of_mem hf
  simp only [List.mem_cons, List.not_mem_nil, or_false, Prod.mk.injEq] at hm
  rcases hm with ⟨h1, h2, h3⟩ | ⟨h1, h2, h3⟩
  ·refine ⟨by simpa using h1, ?_⟩
   rw [h2, h3, if_pos rfl, aG, a9O, Option.bind_some, aG, a9O, Option.bind_some]
   refine h52.trans ?_
   congr 1
   show ((x.1.1 == y.1.1) && ((x.1.2 == y.1.2) && true)) = _
   rw [Bool.eq_iff_iff]
   first | done | simp [Prod.ext_iff]
  ·refine ⟨by simpa using h1, ?_⟩
   rw [h2, h3, if_neg (by decide), aG, b5R, Option.bind_some, aG, b5R, Option.bind_some]
   exact eq1 (P := Tryz.prog) (t := 3) 9998 (by kernel_rfl)
theorem b9p (x y : Ct × Int) (t2 : TypeId) (cx cy : Bool) : cW Tryz.prog .neq 94 t2 cx cy (.agg #[I x.1.1, I x.1.2, I x.2]) (.agg #[I y.1.1, I y.1.2, I y.2]) = some (.bool (decide (¬ x = y))) := by
 have h := a3f (t2 := t2) (cx := cx) (cy := cy) (decide (x = y)) (by kernel_rfl) (by rfl) (by rfl) (c0W x y)
 rw [h]
 simp
theorem a4I (v w : Value) (xs ys : List (Ct × Int)) (hv : Sl 3 a1I H v xs) (hw : Sl 3 a1I H w ys) (hl : xs.length < 1000000000) (hl2 : ys.length < 1000000000) :
 Fn Tryz.prog 40 [v, w] H fun r H' => r = .bool (decide (xs = ys)) ∧ St Tryz.prog H H' [] := by
 refine Fn.of_sw Tryz.func40 rfl (by kernel_rfl) fun l hl => ?_
 have hn : l.length = 26 := by rw [hl]; rfl
 have g0 : get l 0 = v := by rw [hl]; rfl
 have g1 : get l 1 = w := by rw [hl]; rfl
 clear hl
 simp (disch := omega) only [↓RA, RZ, simprocAttr, hn, g0, g1, ((St.refl Tryz.prog H).sl hv).len, ((St.refl Tryz.prog H).sl hw).len]
 refine aA (fun h1 => ?_) (fun h1 => ?_)
 ·simp (disch := omega) only [↓RA, RZ, simprocAttr, hn, b6t, h1]
  exact ⟨by rw [decide_eq_false]; intro e; rw [e] at h1; exact h1 rfl, (St.refl Tryz.prog H)⟩
 simp (disch := omega) only [↓RA, RZ, simprocAttr, hn, g0, ((St.refl Tryz.prog H).sl hv).len, h1]
 refine Wp.loopS (fun n l H' => l.length = 26 ∧ get l 0 = v ∧ get l 1 = w ∧ get l 12 = I xs.length ∧ ∃ (j : Nat), (n + j = xs.length ∧ ∀ q, q < j → aC xs q = aC ys q) ∧ get l 13 = I j ∧ St Tryz.prog H H' []) xs.length ?_ ?_
 ·simp (disch := omega) only [RB, RC, simprocAttr, hn, g0, g1]
  exact ⟨0, ⟨by omega, fun q hq => absurd hq (Nat.not_lt_zero _)⟩, rfl, (St.refl Tryz.prog H)⟩
 rintro n l H1 ⟨hn, g0, g1, g12, j, ⟨hj,hz⟩, g13, hS1⟩
 simp (disch := omega) only [↓RA, RB, simprocAttr, hn, g12, g13]
 refine aA (fun q1 => ?_) (fun q1 => ?_)
 ·have hne := fun t2 cx cy => b9p (aC xs j) (aC ys j) t2 cx cy
  simp (disch := omega) only [↓RA, RZ, simprocAttr, hn, g13, q1]
  refine Wp.drw cB (by kernel_rfl) ?_
  simp (disch := omega) only [↓RA, RZ, simprocAttr, hn, g0, g1, (hS1.sl hv).idx, (hS1.sl hv).ldA, a1I, (hS1.sl hw).idx, (hS1.sl hw).ldA, hne]
  refine aA (fun q2 => ?_) (fun q2 => ?_)
  ·simp (disch := omega) only [↓RA, RZ, simprocAttr, hn, b6t, q2]
   refine ⟨?_, hS1⟩
   rw [decide_eq_false]
   intro e
   rw [e] at q2
   exact q2 rfl
  have q3 := Classical.not_not.1 q2
  simp (disch := omega) only [↓RA, RZ, simprocAttr, hn, g0, g1, g12, g13, q2]
  exact ⟨n - 1, by omega, j + 1, ⟨by omega, fun q hq => by rcases Nat.lt_succ_iff_lt_or_eq.1 hq with e | e; (· exact hz q e); (· rw [e]; exact q3)⟩, by simp, hS1⟩
 simp (disch := omega) only [↓RA, RZ, simprocAttr, hn, b6t, q1]
 exact ⟨by rw [decide_eq_true]; exact oK (by omega) fun q hq => hz q (by omega), hS1⟩
theorem yM (o : Org) (r : Reg) (l : List Ct) : a5K o r l = dd (a5o ((b7a a5o o r l).flatMap (b6S a5o o r))) := by
 rw [← b1g]
 rfl
section
variable (w1 w2 d1 g1 s1 d2 g2 s2 w3 w4 w5 : Value)
theorem wL (off : Nat) (h : off < 2) : rkE (exE w1 w2 d1 g1 s1 d2 g2 s2 w3 w4 w5) ⟨[1, 1], 1, off⟩ [bD [40], (0, 0)] = 0 := by
 unfold rkE
 rw [b2G _ _ _ _ _ _ _ _ _ _ _ off h, if_neg (by decide), b1H]
theorem b1N : a3q (exE w1 w2 d1 g1 s1 d2 g2 s2 w3 w4 w5) ⟨[1, 1], 1, 0⟩ [bD [40], (0, 0)] = [(0, 40), (1, 40)] := by
 unfold a3q
 rw [wL _ _ _ _ _ _ _ _ _ _ _ 0 (by decide), if_pos rfl, b4F]
theorem b1Z : yC (exE w1 w2 d1 g1 s1 d2 g2 s2 w3 w4 w5) ⟨[1, 1], 1, 0⟩ [bD [40], (0, 0)] = [(0, 4), (1, 16)] := by
 unfold yC
 rw [wL _ _ _ _ _ _ _ _ _ _ _ 0 (by decide), if_pos rfl, yM]
 kernel_rfl
theorem b0Q : yC (exE w1 w2 d1 g1 s1 d2 g2 s2 w3 w4 w5) ⟨[1, 1], 1, 1⟩ [bD [40], (0, 0)] = [(1, 16)] := by
 unfold yC
 rw [wL _ _ _ _ _ _ _ _ _ _ _ 1 (by decide), if_pos rfl, yM]
 kernel_rfl
end
end Go.Ds
namespace Go.Ds
open Go.Proofs
variable {H : Heap}
set_option maxRecDepth 10000
set_option maxHeartbeats 1000000
theorem a0S (hG : Glob gH H) : Fn Tryz.prog 41 [] H fun r H' => ∃ o : Org, r = .agg #[.string o.name, o.rv, o.dv, o.cv] ∧ (∃ w1 w2 d1 g1 s1 d2 g2 s2 w3 w4 w5, o = exE w1 w2 d1 g1 s1 d2 g2 s2 w3 w4 w5) ∧ o.In H' ∧ St Tryz.prog H H' [] := by
 obtain ⟨h1, v, H1, h2, w1, w2, d1, g1, s1, d2, g2, s2, w3, w4, w5, h3, h4, h5⟩ := a2b hG
 exact ⟨h1, v, H1, h2, _, h3, ⟨w1, w2, d1, g1, s1, d2, g2, s2, w3, w4, w5, rfl⟩, h4, h5⟩
theorem uM (hG : Glob gH H) : Fn Tryz.prog 10 [] H fun r H' => r = .bool true ∧ St Tryz.prog H H' [] := by
 refine Fn.of_sw Tryz.func10 rfl (by kernel_rfl) fun l hl => ?_
 have hn : l.length = 80 := by rw [hl]; rfl
 clear hl
 simp (disch := omega) only [↓RA, RZ, simprocAttr]
 refine aB (a0S ((St.refl Tryz.prog H).gl hG)) ?_
 rintro r H1 ⟨o, rfl, ⟨v1, v2, v3, v4, v5, v6, v7, v8, v9, v10, v11, hoe⟩, ho, hT1⟩
 have hS1 := (St.refl Tryz.prog H).trans hT1
 simp only [RT] at hS1
 have q1 : rkE o ⟨[1, 1], 1, 0⟩ [bD [40], (0, 0)] = 0 := by subst hoe; exact wL _ _ _ _ _ _ _ _ _ _ _ 0 (by decide)
 have q2 : rkE o ⟨[1, 1], 1, 1⟩ [bD [40], (0, 0)] = 0 := by subst hoe; exact wL _ _ _ _ _ _ _ _ _ _ _ 1 (by decide)
 have q3 : a3q o ⟨[1, 1], 1, 0⟩ [bD [40], (0, 0)] = [(0, 40), (1, 40)] := by subst hoe; exact b1N _ _ _ _ _ _ _ _ _ _ _
 have q4 : yC o ⟨[1, 1], 1, 0⟩ [bD [40], (0, 0)] = [(0, 4), (1, 16)] := by subst hoe; exact b1Z _ _ _ _ _ _ _ _ _ _ _
 have q5 : yC o ⟨[1, 1], 1, 1⟩ [bD [40], (0, 0)] = [(1, 16)] := by subst hoe; exact b0Q _ _ _ _ _ _ _ _ _ _ _
 have q6 : o.ranks.length = 2 ∧ (aC o.ranks 1).num = 8 ∧ (aC o.ranks 1).den = 1 ∧ (aC o.ranks 1).first = 36 := by subst hoe; exact ⟨rfl, rfl, rfl, rfl⟩
 clear hoe
 have hG1 : ∀ z ∈ [(40 : Int)], isN z := fun z hz => by rw [List.mem_singleton.1 hz]; exact ⟨by decide, by decide⟩
 have hS0 := hS1
 have hG2 := hS0.gl hG
 simp (disch := omega) only [↓RA, RZ, simprocAttr]
 refine (St.refl Tryz.prog H1).eNew 4 [(.string ⟨#[]⟩), (.slice none 0 0), (.slice none 0 0), (.slice none 0 0)] rfl rfl rfl fH fun A1 H2 hS2 => ?_
 simp only [RT] at hS2
 simp (disch := omega) only [↓RA, RB, simprocAttr, hn]
 refine hS2.eStore 0 rfl [(.string o.name), o.rv, o.dv, o.cv] rfl (by simp [OC, (hS2.sl ho.1).cells.2.1, (hS2.sl ho.2.2.1).cells.2.1, (hS2.sl ho.2.2.2.2.1).cells.2.1]) fH (by simp) fun H3 hS3 => ?_
 simp only [RT] at hS3
 simp (disch := omega) only [↓RA, RB, simprocAttr]
 refine hS3.eSlice [I 40] vW a2d rfl rfl (by simp [Value.cells]) rfl rfl (by decide) (by decide) fun w1 H4 hS4 => ?_
 simp only [RT] at hS4
 simp (disch := omega) only [↓RA, RZ, simprocAttr, hn]
 refine aB (oA [40] hG1 w1 (hS4.slo 1 rfl (fun _ => rfl)) (by simp)) ?_
 rintro r H5 ⟨rfl, hT2⟩
 have hS5 := hS4.trans hT2
 simp only [RT] at hS5
 have hKo : ∀ x ∈ ([bD [40], (0, 0)] : List Nt), Nt.Ok x := by
  intro x hx
  simp only [List.mem_cons, List.not_mem_nil, or_false] at hx
  rcases hx with rfl | rfl <;> exact ⟨by decide, by decide⟩
 have hRo : (⟨[1, 1], 1, 0⟩ : Reg).Ok := ⟨by decide, by decide, by decide, by decide⟩
 have hRo1 : (⟨[1, 1], 1, 1⟩ : Reg).Ok := ⟨by decide, by decide, by decide, by decide⟩
 simp (disch := omega) only [↓RA, RZ, simprocAttr, hn]
 refine hS5.eNew 2 [(.int .u64 0), (.int .u64 0)] rfl rfl rfl dE fun A2 H6 hS6 => ?_
 simp only [RT] at hS6
 simp (disch := omega) only [↓RA, RB, simprocAttr, hn]
 refine hS6.eStore 2 rfl [(.int .u64 (bD [40]).1), (.int .u64 (bD [40]).2)] rfl rfl dE (by simp) fun H7 hS7 => ?_
 simp only [RT] at hS7
 simp (disch := omega) only [↓RA, RZ, simprocAttr, hn, hS7.ldA 2 rfl, a9g]
 refine hS7.eSlice [(.int .u64 (bD [40]).1), (.int .u64 (bD [40]).2), (.int .u64 0), (.int .u64 0)] b1t b6p rfl rfl (by simp [Value.cells]) rfl rfl (by decide) (by decide) fun w2 H8 hS8 => ?_
 simp only [RT] at hS8
 simp (disch := omega) only [↓RA, RB, simprocAttr, hn]
 refine hS8.eSlice [(.int .u64 1), (.int .u64 1)] b6w c0C rfl rfl (by simp [Value.cells]) rfl rfl (by decide) (by decide) fun w3 H9 hS9 => ?_
 simp only [RT] at hS9
 simp (disch := omega) only [↓RA, RZ, simprocAttr, hn, b1G (hS9.rd 4 rfl).cells]
 refine hS9.eNew 3 [(.slice none 0 0), (.int .u64 0), (.int .u64 0)] rfl rfl rfl jU fun A3 H10 hS10 => ?_
 simp only [RT] at hS10
 simp (disch := omega) only [↓RA, RB, simprocAttr, hn]
 refine hS10.eStore 5 rfl [w3, (.int .u64 1), (.int .u64 0)] rfl (by simp [OC, (hS10.rd 4 rfl).cells.2.1]) jU (by simp) fun H11 hS11 => ?_
 simp only [RT] at hS11
 simp (disch := omega) only [↓RA, RZ, simprocAttr, hn, hS11.ldA 0 rfl, hS11.ldA 5 rfl]
 have hS2 := hS11
 refine aB (qT (hS11.gl hG2) o (ho.keep hS11) ⟨[1, 1], 1, 0⟩ w3 ⟨hS11.slo 4 rfl (fun _ => rfl), hRo⟩ w2 [bD [40], (0, 0)] ⟨hS11.slo 3 rfl (fun _ => rfl), by simp, hKo⟩) ?_
 rintro r H12 ⟨cv, rfl, hcx, hT3⟩
 have hS12 := hS11.trans hT3
 simp only [RT] at hS12
 rw [q3] at hcx
 rw [q1]
 have hcx2 := hcx.step (hS2.keptNew (H' := H12))
 obtain ⟨X, hBX, hS13⟩ := hS12.rebaseE (os := [⟨ptr A1 0 4, 0, _⟩, ⟨w1, 1, _⟩, ⟨ptr A2 0 2, 0, _⟩, ⟨w2, 2, _⟩, ⟨w3, 1, _⟩, ⟨ptr A3 0 3, 0, _⟩])
 simp (disch := omega) only [↓RA, RZ, simprocAttr, hn, hS13.ldA 0 rfl, hS13.ldA 5 rfl]
 have hS3 := hS13
 refine aB (sV ((hS12.unbaseE hBX hS13).gl hG2) o (ho.keep (hS12.unbaseE hBX hS13)) ⟨[1, 1], 1, 0⟩ w3 ⟨hS13.slo 4 rfl (fun _ => rfl), hRo⟩ w2 [bD [40], (0, 0)] ⟨hS13.slo 3 rfl (fun _ => rfl), by simp, hKo⟩) ?_
 rintro r H13 ⟨pv, rfl, hpx, hT4⟩
 have hS14 := hS13.trans hT4
 simp only [RT] at hS14
 rw [q4] at hpx
 rw [q1]
 have hcx3 := hcx2.step (hS14.kept hBX)
 have hpx2 := hpx.step (hS3.keptNew (H' := H13))
 obtain ⟨Y, hBY, hS15⟩ := hS14.rebaseE (os := [⟨ptr A1 0 4, 0, _⟩, ⟨w1, 1, _⟩, ⟨ptr A2 0 2, 0, _⟩, ⟨w2, 2, _⟩, ⟨w3, 1, _⟩, ⟨ptr A3 0 3, 0, _⟩])
 simp (disch := omega) only [↓RA, RZ, simprocAttr, hn]
 refine hS15.eStore 5 rfl [(.int .u64 1)] rfl rfl b3Y (by simp) fun H14 hS16 => ?_
 simp only [RT] at hS16
 simp (disch := omega) only [↓RA, RZ, simprocAttr, hn, hS16.ldA 0 rfl, hS16.ldA 5 rfl]
 refine aB (a5R ((hS12.unbaseE hBX (hS14.unbaseE hBY hS16)).gl hG2) o (ho.keep (hS12.unbaseE hBX (hS14.unbaseE hBY hS16))) ⟨[1, 1], 1, 1⟩ w3 ⟨hS16.slo 4 rfl (fun _ => rfl), hRo1⟩ w2 [bD [40], (0, 0)] ⟨hS16.slo 3 rfl (fun _ => rfl), by simp, hKo⟩ q2 1 16 q5 (by rw [q6.1]; decide) (by decide) ⟨q6.2.1, q6.2.2.1, by rw [q6.2.2.2]; decide, by rw [q6.2.2.2]; decide⟩) ?_
 rintro r H15 ⟨dv, rfl, hT5⟩
 have hS17 := hS16.trans hT5
 simp only [RT] at hS17
 have hcx4 := hcx3.step (hS17.kept hBY)
 have hpx4 := hpx2.step (hS17.kept hBY)
 simp (disch := omega) only [↓RA, RZ, simprocAttr, hn, jD]
 refine hS17.eSlice [I 0, I 40, I 1, I 40] jZ xN rfl rfl (by simp [Value.cells]) rfl rfl (by decide) (by decide) fun w4 H16 hS18 => ?_
 simp only [RT] at hS18
 simp (disch := omega) only [↓RA, RZ, simprocAttr, hn]
 refine aB (uK cv w4 [(0, 40), (1, 40)] [(0, 40), (1, 40)] (hcx3.step (hS18.kept hBY)).1 (hS18.slo 7 rfl cN) (by simp) (by simp)) ?_
 rintro r H17 ⟨rfl, hT6⟩
 have hS19 := hS18.trans hT6
 simp only [RT] at hS19
 rw [decide_eq_true rfl]
 simp (disch := omega) only [↓RA, RZ, simprocAttr, hn, wU]
 refine hS19.eSlice [I 0, I 4, I 1, I 16] b3r b8T rfl rfl (by simp [Value.cells]) rfl rfl (by decide) (by decide) fun w5 H18 hS20 => ?_
 simp only [RT] at hS20
 simp (disch := omega) only [↓RA, RZ, simprocAttr, hn]
 refine aB (b1C pv w5 [(0, 4), (1, 16)] [(0, 4), (1, 16)] (hpx2.step (hS20.kept hBY)).1 (hS20.slo 8 rfl cN) (by simp) (by simp)) ?_
 rintro r H19 ⟨rfl, hT7⟩
 have hS21 := hS20.trans hT7
 simp only [RT] at hS21
 rw [decide_eq_true rfl]
 simp (disch := omega) only [↓RA, RZ, simprocAttr, hn, wU, a2p]
 refine hS21.eSlice [I 1, I 16, I 52] b7Y b9l rfl rfl (by simp [Value.cells]) rfl rfl (by decide) (by decide) fun w6 H20 hS22 => ?_
 simp only [RT] at hS22
 simp (disch := omega) only [↓RA, RZ, simprocAttr, hn]
 have hhe : [a2W o (1, 16)] = [((1, 16), (52 : Int))] := by
  unfold a2W
  rw [show ((1, 16) : Ct).1.toNat = 1 from rfl, q6.2.2.2]
  rfl
 refine aB (a4I dv w6 [a2W o (1, 16)] [((1, 16), 52)] (hS22.slo 6 rfl (fun _ => rfl)) (hS22.slo 9 rfl (fun _ => rfl)) (by simp) (by simp)) ?_
 rintro r H21 ⟨rfl, hT8⟩
 have hS23 := hS22.trans hT8
 simp only [RT] at hS23
 rw [decide_eq_true hhe]
 simp (disch := omega) only [↓RA, RZ, simprocAttr, hn, c4R]
 exact hS0.forget.trans (hS12.unbaseE hBX (hS14.unbaseE hBY hS23)).forget
end Go.Ds
namespace Go.Ds
open Go.Proofs
variable {H : Heap}
set_option maxRecDepth 10000
set_option maxHeartbeats 1000000
theorem xE (hG : Glob gH H) (p : Pln) (hp : p.In H) (hk : p.Ok) (b : Nat → Nat) (hb : ∀ i, b i < 256) (c : Nat → Nat) (hc : ∀ i, c i < 65536) :
 Fn Tryz.prog 3 [.agg #[p.rv, p.dv, p.cv], .agg #[.int .u8 (b 0), .int .u8 (b 1), .int .u8 (b 2), .int .u8 (b 3), .int .u8 (b 4)], .agg #[.int .u16 (c 0), .int .u16 (c 1), .int .u16 (c 2)]] H fun r H' => r = .bool true ∧ St Tryz.prog H H' [] := by
 refine Fn.of_sw Tryz.func3 rfl (by kernel_rfl) fun l hl => ?_
 have hn : l.length = 45 := by rw [hl]; rfl
 have g0 : get l 0 = (.agg #[p.rv, p.dv, p.cv]) := by rw [hl]; rfl
 have g1 : get l 1 = (.agg #[(.int .u8 (b 0)), (.int .u8 (b 1)), (.int .u8 (b 2)), (.int .u8 (b 3)), (.int .u8 (b 4))]) := by rw [hl]; rfl
 have g2 : get l 2 = (.agg #[(.int .u16 (c 0)), (.int .u16 (c 1)), (.int .u16 (c 2))]) := by rw [hl]; rfl
 clear hl
 simp (disch := omega) only [↓RA, RB, simprocAttr, g0]
 refine (St.refl Tryz.prog H).eNew 3 [p.rv, p.dv, p.cv] rfl rfl (by simp [((St.refl Tryz.prog H).sl hp.1).cells.2.1, ((St.refl Tryz.prog H).sl hp.2.1).cells.2.1, ((St.refl Tryz.prog H).sl hp.2.2.2.1).cells.2.1]) b4f fun A1 H1 hS1 => ?_
 simp only [RT] at hS1
 simp (disch := omega) only [↓RA, RB, simprocAttr, g1]
 refine hS1.eNew 5 [(.int .u8 (b 0)), (.int .u8 (b 1)), (.int .u8 (b 2)), (.int .u8 (b 3)), (.int .u8 (b 4))] rfl rfl rfl b6R fun A2 H2 hS2 => ?_
 simp only [RT] at hS2
 simp (disch := omega) only [↓RA, RB, simprocAttr, g2]
 refine hS2.eNew 3 [(.int .u16 (c 0)), (.int .u16 (c 1)), (.int .u16 (c 2))] rfl rfl rfl b8n fun A3 H3 hS3 => ?_
 simp only [RT] at hS3
 simp (disch := omega) only [↓RA, RZ, simprocAttr]
 refine aB (uM (hS3.gl hG)) ?_
 rintro r H4 ⟨rfl, hT1⟩
 have hS4 := hS3.trans hT1
 simp only [RT] at hS4
 simp (disch := omega) only [↓RA, RZ, simprocAttr, hn, hS4.ldA 0 rfl]
 refine aB (b2i p (hp.keep hS4)) ?_
 rintro r H5 ⟨rfl, hT2⟩
 have hS5 := hS4.trans hT2
 simp only [RT] at hS5
 simp (disch := omega) only [↓RA, RZ, simprocAttr, hn]
 refine bK (fun h1 => ?_) (fun h1 => ?_)
 ·simp (disch := omega) only [↓RA, RZ, simprocAttr]
  refine aB (uM (hS5.gl hG)) ?_
  rintro r H6 ⟨rfl, hT3⟩
  have hS6 := hS5.trans hT3
  simp only [RT] at hS6
  simp (disch := omega) only [↓RA, RZ, simprocAttr, hn, tR3, h1]
  exact hS6.forget
 have hf : nU p = true := by simpa using h1
 simp (disch := omega) only [↓RA, RZ, simprocAttr, hn, hS5.ldA 0 rfl, h1]
 refine aB (a8Q (hS5.gl hG) p (hp.keep hS5) hk hf) ?_
 rintro r H7 ⟨o, rfl, ho, hm, hT4⟩
 have hS7 := hS5.trans hT4
 simp only [RT] at hS7
 have hS0 := hS7
 have hG2 := hS0.gl hG
 have hoe := hm.ok.organE
 have hrg := a8N b hoe
 have hf0 := Org.fine hoe
 obtain ⟨k1, k2, k3⟩ := hm.small hf
 have hok := a7U (o := o) hb k2
 have hkl := lD o c
 have hkO := a2a hf0 c
 have hkE := a5q hoe c
 simp (disch := omega) only [↓RA, RZ, simprocAttr]
 refine (St.refl Tryz.prog H7).eNew 4 [(.string ⟨#[]⟩), (.slice none 0 0), (.slice none 0 0), (.slice none 0 0)] rfl rfl rfl fH fun A4 H8 hS8 => ?_
 simp only [RT] at hS8
 simp (disch := omega) only [↓RA, RB, simprocAttr, hn, h1]
 refine hS8.eStore 0 rfl [(.string o.name), o.rv, o.dv, o.cv] rfl (by simp [OC, (hS8.sl ho.1).cells.2.1, (hS8.sl ho.2.2.1).cells.2.1, (hS8.sl ho.2.2.2.2.1).cells.2.1]) fH (by simp) fun H9 hS9 => ?_
 simp only [RT] at hS9
 simp (disch := omega) only [↓RA, RB, simprocAttr, h1]
 refine Wp.drwT cB [(3, 0), (4, 0)] (by kernel_rfl) (by kernel_rfl) ?_
 simp (disch := omega) only [↓RA, RZ, simprocAttr, hn, hS9.ldA 0 rfl, ((hS0.var 1 rfl).keep hS9.keep).ldA]
 have hD := a5g o (ho.keep hS9) k1 k2 k3 b hb
 generalize hrgE : mV o b = rg at hrg hok hD
 refine aB (hD) ?_
 rintro r H10 ⟨sv, rfl, hT5⟩
 have hS10 := hS9.trans hT5
 simp only [RT] at hS10
 simp (disch := omega) only [↓RA, RZ, simprocAttr, hn, hS10.ldA 0 rfl, ((hS0.var 2 rfl).keep hS10.keep).ldA]
 have hP := a3H o (ho.keep hS10) hf0 c hc
 generalize hksE : gZ o c = ks at hkl hkO hkE hP
 refine aB (hP.tr) ?_
 rintro r H11 ⟨-, hT6⟩
 have hS11 := hS10.trans hT6
 simp only [RT] at hS11
 obtain ⟨kv, rfl⟩ : ∃ w, w = r := ⟨r, rfl⟩
 simp (disch := omega) only [↓RA, RZ, simprocAttr]
 refine hS11.eNew 3 [(.slice none 0 0), (.int .u64 0), (.int .u64 0)] rfl rfl rfl jU fun A5 H12 hS12 => ?_
 simp only [RT] at hS12
 simp (disch := omega) only [↓RA, RB, simprocAttr, hn]
 refine hS12.eStore 3 rfl [sv, (.int .u64 rg.cpl), (.int .u64 rg.off)] rfl (by simp [OC, (hS12.rd 1 rfl).cells.2.1]) jU (by simp) fun H13 hS13 => ?_
 simp only [RT] at hS13
 simp (disch := omega) only [↓RA, RZ, simprocAttr, hn, hS9.ldA 0 rfl, hS13.ldA 0 rfl, ((hS0.var 2 rfl).keep hS9.keep).ldA, hS13.ldA 3 rfl]
 have hrk : rkE o rg ks = 0 := by unfold rkE; rw [if_neg (by rw [hrg]; simp)]; exact hkE
 have hrl : rg.stops.length = o.dvs.length := (pA hrg).2
 have hplc := nI hkO hkE
 have hpll := nH hkE
 have hS1 := hS13
 refine aB (qT (hS13.gl hG2) o (ho.keep hS13) rg sv ⟨hS13.slo 1 rfl (fun _ => rfl), hok⟩ kv ks ⟨hS13.slo 2 rfl (fun _ => rfl), by omega, hkO⟩) ?_
 rintro r H14 ⟨pv, rfl, hpx, hT7⟩
 have hS14 := hS13.trans hT7
 simp only [RT] at hS14
 rw [hrk]
 have hsp : a3q o rg ks = eR o rg (aO ks) := by unfold a3q; rw [if_pos hrk]
 rw [hsp] at hpx
 have hpx2 := hpx.step (hS1.keptNew (H' := H14))
 obtain ⟨X, hBX, hS15⟩ := hS14.rebaseE (os := [⟨ptr A4 0 4, 0, _⟩, ⟨sv, 1, _⟩, ⟨kv, 2, _⟩, ⟨ptr A5 0 3, 0, _⟩])
 simp (disch := omega) only [↓RA, RZ, simprocAttr, hn, hS15.ldA 0 rfl, hS15.ldA 3 rfl]
 refine aB ((xT o (ho.keep (hS14.unbaseE hBX hS15)) hf0 rg sv ⟨hS15.slo 1 rfl (fun _ => rfl), hok⟩ kv ks ⟨hS15.slo 2 rfl (fun _ => rfl), by omega, hkO⟩ hkE).tr) ?_
 rintro r H15 ⟨-, hT8⟩
 have hS16 := hS15.trans hT8
 simp only [RT] at hS16
 obtain ⟨cv, rfl⟩ : ∃ w, w = r := ⟨r, rfl⟩
 have hpx3 := hpx2.step (hS16.kept hBX)
 have hsl := wH hf0 (rg := rg) hpll
 simp (disch := omega) only [↓RA, RZ, simprocAttr, hn]
 refine aB (uK pv cv (eR o rg (aO ks)) (eR o rg (aO ks)) hpx3.1 (hS16.slo 4 rfl cN) (by omega) (by omega)) ?_
 rintro r H16 ⟨rfl, hT9⟩
 have hS17 := hS16.trans hT9
 simp only [RT] at hS17
 rw [decide_eq_true rfl]
 simp (disch := omega) only [↓RA, RZ, simprocAttr, hn, tR3]
 exact hS0.forget.trans (hS14.unbaseE hBX hS17).forget
end Go.Ds
