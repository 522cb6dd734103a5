/-
  A part of the proof of DemandSums.
-/
import Derived.Test.YtfjdhdefmcfepaaGreatDoorVJ
import Derived.Test.YtfjdhdefmcfepaaGreatDoorVD
import Derived.Test.YtfjdhdefmcfepaaGreatDoorVE
set_option linter.unusedVariables false
set_option linter.unusedSimpArgs false
set_option linter.defProp false
set_option linter.unusedSectionVars false
namespace Go.Ds
open Go.Proofs Go.Proofs.Tryz Go.ChangeShapes Go.WideShapes Go.RowKit Go.Deep
set_option maxRecDepth 10000
theorem c5R : prog.cellsOf 28 = 1 := by kernel_rfl
theorem c6F : prog.cellsOf 29 = 3 := by kernel_rfl
section
variable {H0 : Type} {enc : TypeId × Value → H0} {w : World} {base n : Nat} {spare : Nat → Bool} {lA : Bool} {x : DataW H0 × List MemPlace}
theorem a8z {v : Value} (h : DataW.trod enc prog w base spare lA n 28 [v] = some x) : ∃ m : Nat, v = .int .u16 m ∧ m < 65536 := by
 obtain ⟨m, hv, _, hw⟩ := DataW.trod_int underlying28 h
 have hv : v = .int .u16 m := by simpa using hv
 have hm : 0 ≤ m ∧ m ≤ 65535 := by simpa [Lit.wf, IntKind.min, IntKind.max, IntKind.signed, IntKind.bits] using hw
 exact ⟨m.toNat, by rw [hv, fH hm.1], by omega⟩
theorem c2a {cs : List Value} (h : DataW.trod enc prog w base spare lA n 29 cs = some x) : ∃ b : Nat → Nat, (∀ i, b i < 65536) ∧ cs = [.int .u16 (b 0), .int .u16 (b 1), .int .u16 (b 2)] := by
 obtain ⟨xs, m, _, _, hl, hxl, hf⟩ := DataW.trod_array underlying29 h
 rw [c6F] at hl
 match cs, hl with
 | [c0, c1, c2], _ =>
   have hy : ∀ i, i < 3 → ∃ y, DataW.trod enc prog w base spare lA m 28 ((([c0, c1, c2] : List Value).drop (i * 1)).take 1) = some y := fun i hi => by
    have := hf i hi
    rw [c5R] at this
    exact ⟨xs[i], by rw [this, dm (by omega)]⟩
   obtain ⟨_, h0⟩ := hy 0 (by decide)
   obtain ⟨_, h1⟩ := hy 1 (by decide)
   obtain ⟨_, h2⟩ := hy 2 (by decide)
   obtain ⟨b0, rfl, k0⟩ := a8z h0
   obtain ⟨b1, rfl, k1⟩ := a8z h1
   obtain ⟨b2, rfl, k2⟩ := a8z h2
   exact ⟨fun i => match i with | 0 => b0 | 1 => b1 | _ => b2, fun i => by
    match i with
    | 0 => exact k0
    | 1 => exact k1
    | _ + 2 => exact k2, rfl⟩
end
section
variable {H0 : Type} {enc : TypeId × Value → H0} {w : World} {base : Nat} {lA : Bool}
theorem c5u {v0 : Value} {d0 : DataW H0} {p0 : List MemPlace} {c0 : Nat} (h0 : DataW.Trod enc prog w base (fun _ => true) lA 29 v0 d0 p0) (hval : Value.okWide prog w .any c0 29 v0) :
 ∃ b : Nat → Nat, (∀ i, b i < 65536) ∧ v0 = .agg #[.int .u16 (b 0), .int .u16 (b 1), .int .u16 (b 2)] := by
 simp only [Value.okWide, underlying29] at hval
 obtain ⟨cs, rfl, _, _⟩ := hval
 obtain ⟨fuel, hf⟩ := h0
 obtain ⟨b, hb, he⟩ := c2a hf
 obtain ⟨l⟩ := cs
 have he : l = _ := he
 exact ⟨b, hb, by rw [he]⟩
end
end Go.Ds
namespace Go.Ds
open Go.Proofs
set_option maxRecDepth 10000
def wI (x y : Int × Int) : Prop := x.1 < y.1 ∨ (x.1 = y.1 ∧ x.2 < y.2)
theorem a1m {x : Int × Int} : ¬ wI x x := by unfold wI; omega
theorem zQ {x y z : Int × Int} (h : wI x y) (k : wI y z) : wI x z := by unfold wI at *; omega
theorem vS : ∀ (l m : List (Int × Int)), l.Pairwise wI → m.Pairwise wI → (∀ x, x ∈ l ↔ x ∈ m) → l = m
 | [], [], _, _, _ => rfl
 | [], b :: m, _, _, h => absurd ((h b).2 (dJ ..)) dX
 | a :: l, [], _, _, h => absurd ((h a).1 (dJ ..)) dX
 | a :: l, b :: m, hl, hm, h => by
   rw [gP] at hl hm
   have hab : a = b := by
    rcases dU.1 ((h a).1 (dJ ..)) with e | e
    ·exact e
    ·rcases dU.1 ((h b).2 (dJ ..)) with e2 | e2
     ·exact e2.symm
     ·exact absurd (zQ (hm.1 a e) (hl.1 b e2)) a1m
   subst hab
   congr 1
   refine vS l m hl.2 hm.2 fun x => ?_
   constructor
   ·intro hx
    rcases dU.1 ((h x).1 (dP _ hx)) with e | e
    ·subst e
     exact absurd (hl.1 x hx) a1m
    ·exact e
   ·intro hx
    rcases dU.1 ((h x).2 (dP _ hx)) with e | e
    ·subst e
     exact absurd (hm.1 x hx) a1m
    ·exact e
theorem b5y {es : List (Int × Int)} (h : es.Pairwise fun a b => le2 a b = true) {i j : Nat} (hij : i < j) (hj : j < es.length) : le2 (iB es i) (iB es j) = true := by
 rw [jV _ _ (by omega), jV _ _ hj]
 exact eF.1 h i j (by omega) hj hij
theorem a9M {es : List (Int × Int)} (h : es.Pairwise fun a b => le2 a b = true) : ∀ m, m ≤ es.length → (zF es m).Pairwise wI ∧ ∀ x, x ∈ zF es m ↔ ∃ j, j < m ∧ iB es j = x
 | 0, _ => ⟨by simp [zF], fun x => by simp [zF]⟩
 | m + 1, hm => by
   obtain ⟨h1, h2⟩ := a9M h m (by omega)
   rw [rV]
   by_cases hc : m = 0 ∨ iB es m ≠ iB es (m - 1)
   ·rw [if_pos hc]
    refine ⟨?_, fun x => ?_⟩
    ·rw [eX]
     refine ⟨h1, by simp, fun a ha b hb => ?_⟩
     obtain ⟨j, hj, rfl⟩ := (h2 a).1 ha
     obtain rfl := dA.1 hb
     have h3 := (nM _ _).1 (b5y h hj (by omega))
     rcases hc with hc | hc
     ·omega
     ·by_cases he : j = m - 1
      ·subst he
       have hne : ¬ (iB es (m - 1) = iB es m) := fun e => hc e.symm
       rw [Prod.ext_iff] at hne
       unfold wI
       omega
      ·have h4 := (nM _ _).1 (b5y h (show j < m - 1 by omega) (by omega))
       have h5 := (nM _ _).1 (b5y h (show m - 1 < m by omega) (by omega))
       have hne : ¬ (iB es (m - 1) = iB es m) := fun e => hc e.symm
       rw [Prod.ext_iff] at hne
       unfold wI
       omega
    ·rw [dF, h2, dA]
     constructor
     ·rintro (⟨j, hj, e⟩ | e)
      ·exact ⟨j, by omega, e⟩
      ·exact ⟨m, by omega, e.symm⟩
     ·rintro ⟨j, hj, e⟩
      rcases dr.1 hj with e2 | e2
      ·exact .inl ⟨j, e2, e⟩
      ·subst e2
       exact .inr e.symm
   ·rw [if_neg hc, di]
    refine ⟨h1, fun x => ?_⟩
    rw [h2]
    constructor
    ·rintro ⟨j, hj, e⟩
     exact ⟨j, by omega, e⟩
    ·rintro ⟨j, hj, e⟩
     rcases dr.1 hj with e2 | e2
     ·exact ⟨j, e2, e⟩
     ·subst e2
      have hc' : ¬ (j = 0) ∧ iB es j = iB es (j - 1) := ⟨fun e => hc (.inl e), fL fun e => hc (.inr e)⟩
      exact ⟨j - 1, by omega, by rw [← hc'.2]; exact e⟩
theorem a4V (l : List (Int × Int)) : (dd (pG l)).Pairwise wI := (a9M (tC l) _ (dg _)).1
theorem rK {l : List (Int × Int)} {x : Int × Int} : x ∈ dd (pG l) ↔ x ∈ l := by
 unfold dd
 rw [(a9M (tC l) _ (dg _)).2 x, ← (mS l).mem_iff]
 constructor
 ·rintro ⟨j, hj, rfl⟩
  exact iD hj
 ·intro hx
  obtain ⟨j, hj, e⟩ := dO.1 hx
  exact ⟨j, hj, by rw [jV _ _ hj]; exact e⟩
theorem b0O {l m : List (Int × Int)} (h : ∀ x, x ∈ l ↔ x ∈ m) : dd (pG l) = dd (pG m) :=
 vS _ _ (a4V l) (a4V m) fun x => by rw [rK, rK, h]
inductive Star {α : Type} (R : α → α → Prop) : α → α → Prop
 | refl (a : α) : Star R a a
 | tail {a b c : α} : Star R a b → R b c → Star R a c
theorem a2E (o : Org) (cp : Nat) (l : List Ct) : Que o (kL o cp l) := by
 unfold kL
 have h : ∀ (l : List Ct) (q : List Ct), Que o q → Que o (l.foldl (fun q c => stepF o cp false c q) q) := by
  intro l
  induction l with
  | nil => exact fun q h => h
  | cons a l ih => exact fun q h => ih _ (h.stepF cp false a)
 exact h l [] (Que.nil o)
theorem b1S (o : Org) (r : Reg) (l : List Ct) : (jO o r l).Pairwise wI := a4V _
def IsP (o : Org) (p : Ct) : Prop := 0 ≤ p.1 ∧ p.1 < o.ranks.length ∧ 0 ≤ p.2 ∧ p.2 < (iB o.ranks p.1.toNat).wind.length
theorem a8s {rs : List Rk} {s : Stp} {key : Int} {p : Ct} (h : p ∈ pT rs s key) : 0 ≤ p.1 ∧ p.1 < rs.length ∧ 0 ≤ p.2 ∧ p.2 < (iB rs p.1.toNat).wind.length := by
 unfold pT at h
 obtain ⟨d, hd, rfl⟩ := dx.1 (rK.1 h)
 have hh := (eh.1 hd).2
 unfold qS at hh
 rw [cU, cU, dC, decide_eq_true_eq, decide_eq_true_eq, decide_eq_false_iff_not] at hh
 obtain ⟨⟨h1, h2⟩, h3⟩ := hh
 have e : (mJ rs d key).1 = d.rank := by unfold mJ; rw [if_neg h1]
 rw [e]
 exact ⟨by omega, by omega, h2, h3⟩
theorem xC {o : Org} {r : Reg} {c p : Ct} (h : p ∈ nC o r c) : IsP o p := by
 unfold nC at h
 obtain ⟨i, _, h⟩ := dT.1 h
 split at h
 ·exact a8s h
 ·exact absurd h dX
theorem a7N {o : Org} {r : Reg} {l : List Ct} {p : Ct} (h : p ∈ wM o r l) : IsP o p := by
 unfold wM at h
 obtain ⟨c, _, h⟩ := dT.1 (rK.1 h)
 exact xC h
theorem qR {o : Org} {r : Reg} {l : List Ct} {p : Ct} (h : p ∈ jO o r l) : IsP o p := a7N h
theorem b8o {o : Org} {r : Reg} {c p : Ct} (h : p ∈ ofF o r c) : IsP o p := by
 unfold ofF at h
 split at h
 ·exact qR h
 ·exact absurd h dX
theorem IsP.small {o : Org} {H : Heap} (hf : o.Fine) (ho : o.In H) {p : Ct} (h : IsP o p) : -1000000000 ≤ p.1 ∧ p.1 ≤ 1000000000 ∧ -1000000000 ≤ p.2 ∧ p.2 ≤ 1000000000 := by
 obtain ⟨h1, h2, h3, h4⟩ := h
 have hr := (ho.2.1 _ (iD (xs := o.ranks) (j := p.1.toNat) (by omega))).2
 have := hf.rlen
 exact ⟨by omega, by omega, by omega, by omega⟩
theorem qH {o : Org} (hf : o.Fine) (rg : Reg) {l : List Ct} (hl : l.length ≤ 1024) (ho : ∀ c ∈ kG o rg l, mN o c = true) : (jO o rg l).length ≤ 1000000 := by
 have h1 := rY hf rg (kG o rg l) ho
 have h2 := sQ hf (rg := rg) hl
 have h3 := a6p (pG ((kG o rg l).flatMap (nC o rg)))
 rw [lR] at h3
 have : (jO o rg l).length ≤ (kG o rg l).length * 480 := dy h3 h1
 omega
end Go.Ds
namespace Go.Ds
open Go.Proofs Go.Proofs.Tryz
variable {H : Heap}
set_option maxRecDepth 10000
set_option maxHeartbeats 1000000
abbrev Nt := Nat × Nat
def ntc (x : Nt) : List Value := [.int .u64 x.1, .int .u64 x.2]
def Nt.Ok (x : Nt) : Prop := x.1 < 18446744073709551616 ∧ x.2 < 18446744073709551616
def tB (x : Nt) (n : Int) : Nt := if n < 64 then (x.1 ||| 2 ^ n.toNat, x.2) else (x.1, x.2 ||| 2 ^ (n - 64).toNat)
theorem a4w (i : Nat) (h : i < 64) : 2 ^ i < 18446744073709551616 := by
 have : 2 ^ i ≤ 2 ^ 63 := fj (by decide) (by omega)
 have e : 2 ^ 63 = 9223372036854775808 := rfl
 omega
theorem b5c {a b : Nat} (ha : a < 18446744073709551616) (hb : b < 18446744073709551616) : a ||| b < 18446744073709551616 := Nat.or_lt_two_pow (n := 64) ha hb
theorem orB (a b : Nat) (ha : a < 18446744073709551616) (hb : b < 18446744073709551616) : IntKind.wrap .u64 ((BitVec.ofInt (IntKind.bits .u64) (a : Int) ||| BitVec.ofInt (IntKind.bits .u64) (b : Int)).toNat : Int) = ((a ||| b : Nat) : Int) := by
 have e : (BitVec.ofInt (IntKind.bits .u64) (a : Int) ||| BitVec.ofInt (IntKind.bits .u64) (b : Int)).toNat = a ||| b := by
  rw [BitVec.toNat_or, uA a ha, uA b hb]
 rw [e]
 have := b5c ha hb
 exact oP _ (by omega) (by omega)
theorem orN (n i : Nat) (hn : n < 18446744073709551616) (hi : i < 64) : IntKind.wrap .u64 ((BitVec.ofInt (IntKind.bits .u64) (n : Int) ||| BitVec.ofInt (IntKind.bits .u64) (IntKind.wrap .u64 (1 * 2 ^ min i (IntKind.bits .u64)))).toNat : Int) = ((n ||| 2 ^ i : Nat) : Int) := by
 rw [c4j i hi]
 exact orB n (2 ^ i) hn (a4w i hi)
theorem b8s {x : Nt} (hx : Nt.Ok x) {z : Int} (h0 : 0 ≤ z) (h1 : z < 128) : Nt.Ok (tB x z) := by
 unfold tB
 split
 ·exact ⟨b5c hx.1 (a4w _ (by omega)), hx.2⟩
 ·exact ⟨hx.1, b5c hx.2 (a4w _ (by omega))⟩
theorem a6I (x : Nt) (hx : Nt.Ok x) (z : Int) (h0 : 0 ≤ z) (h1 : z < 128) : Fn prog 68 [.agg #[.int .u64 x.1, .int .u64 x.2], I z] H fun r H' => r = .agg #[.int .u64 (tB x z).1, .int .u64 (tB x z).2] ∧ St prog H H' [] := by
 obtain ⟨m, rfl⟩ := fG h0
 refine .aH func68 rfl (by kernel_rfl) (m := 21) rfl fun l hn g0 g1 => ?_
 simp (disch := omega) only [↓RA, RB, simprocAttr, g0]
 refine (sR H).eNew 2 [(.int .u64 x.1), (.int .u64 x.2)] rfl rfl rfl lK fun A1 H1 hS1 => ?_
 simp only [RT] at hS1
 simp (disch := omega) only [↓RA, RZ, simprocAttr]
 refine hS1.eNew 2 [(.int .u64 0), (.int .u64 0)] rfl rfl rfl lK fun A2 H2 hS2 => ?_
 simp only [RT] at hS2
 simp (disch := omega) only [↓RA, RB, simprocAttr, hn, g1]
 refine iA (fun q1 => ?_) (fun q1 => ?_)
 ·have e1 := orN x.1 m hx.1 (by omega)
  have e2 : tB x (m : Int) = (x.1 ||| 2 ^ m, x.2) := by unfold tB; rw [if_pos q1]; rfl
  simp (disch := omega) only [↓RA, RC, simprocAttr, q1]
  refine Wp.drw kC (by kernel_rfl) ?_
  simp (disch := omega) only [↓RA, RZ, simprocAttr, hn, g1, hS2.ld 0 rfl, e1]
  refine hS2.aa 0 rfl [(.int .u64 (x.1 ||| 2 ^ m : Nat))] rfl rfl c2t (by simp) fun H3 hS3 => ?_
  simp only [RT] at hS3
  simp (disch := omega) only [↓RA, RZ, simprocAttr, hn, hS3.ae 0 rfl]
  refine hS3.aa 1 rfl [(.int .u64 (x.1 ||| 2 ^ m : Nat)), (.int .u64 x.2)] rfl rfl lK (by simp) fun H4 hS4 => ?_
  simp only [RT] at hS4
  simp (disch := omega) only [↓RA, RZ, simprocAttr, hn, c4S, hS4.ae 1 rfl]
  rw [e2]
  exact ⟨rfl, hS4.forget⟩
 have e1 := orN x.2 (m - 64) hx.2 (by omega)
 have e3 : (m : Int) - 64 = ((m - 64 : Nat) : Int) := by omega
 have e2 : tB x (m : Int) = (x.1, x.2 ||| 2 ^ (m - 64)) := by unfold tB; rw [if_neg q1, e3]; rfl
 simp (disch := omega) only [↓RA, RC, simprocAttr, q1]
 refine Wp.drw kC (by kernel_rfl) ?_
 simp (disch := omega) only [↓RA, RZ, simprocAttr, hn, g1, hS2.ld 0 rfl, e1, e3]
 refine hS2.aa 0 rfl [(.int .u64 (x.2 ||| 2 ^ (m - 64) : Nat))] rfl rfl c2t (by simp) fun H5 hS5 => ?_
 simp only [RT] at hS5
 simp (disch := omega) only [↓RA, RZ, simprocAttr, hn, hS5.ae 0 rfl]
 refine hS5.aa 1 rfl [(.int .u64 x.1), (.int .u64 (x.2 ||| 2 ^ (m - 64) : Nat))] rfl rfl lK (by simp) fun H6 hS6 => ?_
 simp only [RT] at hS6
 simp (disch := omega) only [↓RA, RZ, simprocAttr, hn, c4S, hS6.ae 1 rfl]
 rw [e2]
 exact ⟨rfl, hS6.forget⟩
def jY (xs : List Int) : Nt := xs.foldl tB (0, 0)
def isN (z : Int) : Prop := 0 ≤ z ∧ z < 128
theorem vP : ∀ (xs : List Int) (x : Nt), (∀ z ∈ xs, isN z) → Nt.Ok x → Nt.Ok (xs.foldl tB x)
 | [], _, _, h => h
 | z :: xs, x, hz, h => by
   rw [eR]
   exact vP xs _ (fun y hy => hz y (dP _ hy)) (b8s h (hz z (dJ ..)).1 (hz z (dJ ..)).2)
theorem a7O (xs : List Int) {j : Nat} (hj : j < xs.length) : jY (xs.take (j + 1)) = tB (jY (xs.take j)) (iB xs j) := by
 unfold jY
 rw [List.take_add_one, dm hj, Option.toList_some, fu, ← jV _ j hj]
 rfl
theorem b3d (z : Int) (h : isN z) : Fn prog 67 [I z] H fun r H' => r = .bool true ∧ St prog H H' [] := by
 have h0 := h.1
 have h1 := h.2
 refine .aT func67 rfl (by kernel_rfl) (m := 9) rfl fun l hn g0 => ?_
 simp (disch := omega) only [↓RA, RZ, simprocAttr, hn, g0]
 refine jH (fun q1 => ?_) (fun q1 => ?_)
 rotate_left
 ·exfalso; first | omega | (simp at q1; omega)
 simp (disch := omega) only [↓RA, RZ, simprocAttr, hn, g0, c5Z, q1]
 simpa using ⟨(by omega : z ≤ 127), (sR H)⟩
theorem wY (xs : List Int) (hz : ∀ z ∈ xs, isN z) (v : Value) (hv : Sl 1 (one I) H v xs) (hl : xs.length < 1000000000) :
 Fn prog 39 [v] H fun r H' => r = .tuple #[.agg #[.int .u64 (jY xs).1, .int .u64 (jY xs).2], I 0] ∧ St prog H H' [] := by
 refine .aT func39 rfl (by kernel_rfl) (m := 22) rfl fun l hn g0 => ?_
 simp (disch := omega) only [↓RA, RZ, simprocAttr]
 refine (sR H).eNew 2 [(.int .u64 0), (.int .u64 0)] rfl rfl rfl lK fun A1 H1 hS1 => ?_
 simp only [RT] at hS1
 simp (disch := omega) only [↓RA, RZ, simprocAttr]
 refine hS1.eNew 2 [(.int .u64 0), (.int .u64 0)] rfl rfl rfl lK fun A2 H2 hS2 => ?_
 simp only [RT] at hS2
 simp (disch := omega) only [↓RA, RZ, simprocAttr, hn, g0, (hS2.sl hv).len]
 refine Wp.ak (fun n l H' => l.length = 22 ∧ get l 2 = (ptr A1 0 2) ∧ get l 4 = (ptr A2 0 2) ∧ get l 7 = v ∧ get l 8 = I xs.length ∧ ∃ (j : Nat), (n + j = xs.length) ∧ get l 9 = I j ∧ St prog H H' [⟨ptr A1 0 2, 0, [(.int .u64 0), (.int .u64 0)]⟩, ⟨ptr A2 0 2, 0, [.int .u64 (jY (xs.take j)).1, .int .u64 (jY (xs.take j)).2]⟩]) xs.length ?_ ?_
 ·simp (disch := omega) only [RB, RC, simprocAttr, hn]
  exact ⟨0, by omega, rfl, hS2⟩
 rintro n l H3 ⟨hn, g2, g4, g7, g8, j, hj, g9, hS3⟩
 simp (disch := omega) only [↓RA, RB, simprocAttr, hn, g8, g9]
 refine iA (fun q1 => ?_) (fun q1 => ?_)
 ·have hx := hz _ (iD (xs := xs) (j := j) (by omega))
  have hok : Nt.Ok (jY (xs.take j)) := vP _ _ (fun z h => hz z (fR h)) ⟨by decide, by decide⟩
  simp (disch := omega) only [↓RA, RZ, simprocAttr, hn, g7, g9, (hS3.sl hv).idx, (hS3.sl hv).ld, one, q1]
  refine hS3.cF (b3d (iB xs j) hx) fun H4 hS4 => ?_
  simp (disch := omega) only [↓RA, RZ, simprocAttr, hn, g4, hS4.ae 1 rfl, q1]
  refine hS4.cF (a6I (jY (xs.take j)) hok (iB xs j) hx.1 hx.2) fun H5 hS5 => ?_
  simp (disch := omega) only [↓RA, RZ, simprocAttr, hn, g4, q1]
  refine hS5.aa 1 rfl [(.int .u64 (tB (jY (xs.take j)) (iB xs j)).1), (.int .u64 (tB (jY (xs.take j)) (iB xs j)).2)] rfl rfl lK (by simp) fun H6 hS6 => ?_
  simp only [RT] at hS6
  simp (disch := omega) only [↓RA, RZ, simprocAttr, hn, g2, g4, g7, g8, g9, q1]
  refine ⟨n - 1, by omega, j + 1, by omega, by simp, ?_⟩
  rw [a7O xs (by omega)]
  exact hS6.pick [0, 1] (by decide) rfl
 have hjj : j = xs.length := by omega
 simp (disch := omega) only [↓RA, RZ, simprocAttr, hn, g2, g4, hS3.ae 1 rfl, q1]
 refine hS3.aa 0 rfl [(.int .u64 (jY (xs.take j)).1), (.int .u64 (jY (xs.take j)).2)] rfl rfl lK (by simp) fun H7 hS7 => ?_
 simp only [RT] at hS7
 simp (disch := omega) only [↓RA, RZ, simprocAttr, hn, g2, c5Q, hS7.ae 0 rfl, q1]
 rw [hjj, dM]
 exact ⟨rfl, hS7.forget⟩
end Go.Ds
namespace Go.Ds
open Go.Proofs
variable {H : Heap}
set_option maxRecDepth 10000
set_option maxHeartbeats 1000000
theorem St.perm {P : Program} {H0 : Base} {os os' : List Ob} (h : St P H0 H os) (hp : os.Perm os') : St P H0 H os' where
 len := h.len
 old := h.old
 own o ho := h.own o (hp.mem_iff.2 ho)
 new o ho := h.new o (hp.mem_iff.2 ho)
 sep := (List.Perm.pairwise_iff (fun {_ _} hxy B hB hB2 => hxy B hB2 hB) hp).1 h.sep
theorem Lp.swap {P : Program} {B : Base} {L : Nat} {r : Loop} {xs ys zs : List Ob} (h : Lp P B L r H ((xs ++ ys) ++ zs)) : Lp P B L r H ((xs ++ zs) ++ ys) := by
 have hp : ((xs ++ ys) ++ zs).Perm ((xs ++ zs) ++ ys) := by
  rw [ee, ee]
  exact (List.perm_append_comm).append_left xs
 exact ⟨h.st.perm hp, h.get, h.lo, fun o ho => h.ne o (hp.mem_iff.2 ho)⟩
end Go.Ds
namespace Go.Ds
open Go.Proofs Go.Proofs.Tryz
variable {H : Heap}
set_option maxRecDepth 10000
set_option maxHeartbeats 1000000
def ctz (x : Nat) : Nat := ((List.range 64).find? fun i => x.testBit i).getD 64
theorem a2D {x : Nat} (h0 : x ≠ 0) (h1 : x < 18446744073709551616) : ctz x < 64 ∧ x.testBit (ctz x) = true ∧ ∀ j, j < ctz x → x.testBit j = false := by
 have hx : ∃ i, i < 64 ∧ x.testBit i = true := by
  refine fL fun hn => h0 ?_
  refine fS fun i => ?_
  rw [ic]
  by_cases hi : i < 64
  ·by_cases hb : x.testBit i = true
   ·exact absurd ⟨i, hi, hb⟩ hn
   ·simpa using hb
  ·exact Nat.testBit_lt_two_pow (dI (show x < 2 ^ 64 by simpa using h1) (fj (by decide) (by omega)))
 unfold ctz
 cases hf : (List.range 64).find? fun i => x.testBit i with
 | none =>
   obtain ⟨i, hi, hb⟩ := hx
   have := gi.1 hf i (dw.2 hi)
   exact absurd hb (by simpa using this)
 | some i =>
   obtain ⟨hb, ys, bs, he, hn⟩ := List.find?_eq_some_iff_append.1 hf
   have hi : i < 64 := dw.1 (he ▸ (by simp : i ∈ ys ++ i :: bs))
   refine ⟨hi, hb, fun j hj0 => ?_⟩
   have hj : j < i := hj0
   have hl : ys.length = i := by
    have h2 : (List.range 64)[ys.length]? = some i := by rw [he]; simp
    have h3 : ys.length < 64 := by
     have := congrArg List.length he
     simp at this
     omega
    rw [gI h3] at h2
    exact cT h2
   have hm : j ∈ ys := by
    have h2 : (List.range 64)[j]? = some j := gI (by omega)
    rw [he, eE (by simpa using (hl ▸ hj))] at h2
    exact dN h2
   simpa using hn j hm
theorem a3G {x : Nat} (h0 : x ≠ 0) (h1 : x < 18446744073709551616) : ∃ m, x = 2 ^ ctz x * (2 * m + 1) := by
 obtain ⟨c1, c2, c3⟩ := a2D h0 h1
 generalize ctz x = k at c1 c2 c3
 have hd : x % 2 ^ k = 0 := by
  refine fS fun i => ?_
  rw [Nat.testBit_mod_two_pow, ic]
  by_cases hi : i < k
  ·rw [c3 i hi, Bool.and_false]
  ·rw [decide_eq_false hi, ft]
 have h2 : x / 2 ^ k % 2 = 1 := by
  rw [← eJ]
  have := c2
  rw [tb] at this
  exact of_decide_eq_true this
 refine ⟨x / 2 ^ k / 2, ?_⟩
 have h3 := Nat.div_add_mod x (2 ^ k)
 have h4 := Nat.div_add_mod (x / 2 ^ k) 2
 rw [hd, gS] at h3
 rw [← h3]
 congr 1
 rw [h3]
 omega
theorem b8f {x : Nat} (h0 : x ≠ 0) (h1 : x < 18446744073709551616) : x &&& (18446744073709551616 - x) = 2 ^ ctz x := by
 obtain ⟨m, hm⟩ := a3G h0 h1
 obtain ⟨c1, _, _⟩ := a2D h0 h1
 generalize ctz x = k at hm c1
 have e64 : (18446744073709551616 : Nat) = 2 ^ k * (2 * 2 ^ (63 - k)) := by
  have : 2 ^ k * (2 * 2 ^ (63 - k)) = 2 ^ 64 := by rw [← Nat.pow_succ', ← Nat.pow_add]; congr 1; omega
  rw [this]
 have hml : m < 2 ^ (63 - k) := by
  rw [e64, hm] at h1
  have := Nat.lt_of_mul_lt_mul_left h1
  omega
 have e2 : 18446744073709551616 - x = 2 ^ k * (2 * (2 ^ (63 - k) - (m + 1)) + 1) := by
  rw [e64, hm, ← Nat.mul_sub]
  congr 1
  omega
 rw [e2, hm]
 refine fS fun i => ?_
 rw [Nat.testBit_and, fW]
 have hs : ∀ y : Nat, (2 ^ k * y).testBit i = (decide (k ≤ i) && y.testBit (i - k)) := fun y => by rw [Nat.mul_comm, Nat.testBit_mul_two_pow]
 rw [hs, hs]
 by_cases hi : k ≤ i
 ·rw [decide_eq_true hi, gL, gL]
  by_cases he : i = k
  ·subst he
   rw [Nat.sub_self, Nat.testBit_zero, Nat.testBit_zero]
   simp
  ·obtain ⟨j, hj⟩ : ∃ j, i - k = j + 1 := ⟨i - k - 1, by omega⟩
   rw [hj, Nat.testBit_succ, Nat.testBit_succ, show (2 * m + 1) / 2 = m by omega, show (2 * (2 ^ (63 - k) - (m + 1)) + 1) / 2 = 2 ^ (63 - k) - (m + 1) by omega, Nat.testBit_two_pow_sub_succ hml, decide_eq_false (by omega : ¬ k = i)]
   cases m.testBit j <;> simp
 ·rw [decide_eq_false hi, ft, decide_eq_false (by omega)]
  rfl
theorem c5m : ((List.range 64).all fun k => decide (2 ^ k * 285870213051353865 % 18446744073709551616 / 288230376151711744 < 64) && decide (t64.getD (2 ^ k * 285870213051353865 % 18446744073709551616 / 288230376151711744) 99 = k)) = true := by kernel_rfl
theorem b3V {P : Program} {t : TypeId} {n : Nat} {elem : TypeId} {size : Nat} (ha : P.underlying t = some (.array n elem)) (hs : iF P elem = some size) (A i : Nat) (k : IntKind) (j : Int) (h0 : 0 ≤ j) (h1 : j < n) :
 xD (iT P t) P t (.pointer (some ⟨A, i, none⟩)) (.int k j) = some (.pointer (some ⟨A, i + j.toNat * size, none⟩)) := by
 have hn : iT P t = none := by simp [iT, iJ, ha]
 rw [hn]
 simp only [xD, a2y, ha, hs, cV]
 rw [if_pos (by simp [h0, h1])]
theorem c2B (k : IntKind) (j : Int) (h0 : 0 ≤ j) (h1 : j < 64) : xD (iT prog 241) prog 241 (.pointer (some ⟨0, 0, none⟩)) (.int k j) = some (.pointer (some ⟨0, 0 + j.toNat * 1, none⟩)) :=
 b3V (n := 64) (elem := 5) (size := 1) (by kernel_rfl) (by kernel_rfl) 0 0 k j h0 h1
theorem b2p (g : Nat) (l : List Value) (K : Value → Prop) : jJ (.global g) l K = K (.pointer (some ⟨g, 0, none⟩)) := by simp [jJ, iO, ev]
theorem gld (hG : Glob gH H) (j : Nat) (hj : j < 64) (s : Option Nat) : pO (some false) s H (.pointer (some ⟨0, j, none⟩)) = some (.int .u8 (t64.getD j 0 : Nat)) := by
 have h0 : iQ H 0 = some (.cells (t64.map fun (n : Nat) => Value.int .u8 (.ofNat n)) 5 false 0 1) := by
  rw [hG.same 0 (by decide)]
  rfl
 simp only [pO, jC, h0]
 have hl : (t64.map fun (n : Nat) => Value.int .u8 (.ofNat n)).length = 64 := by rw [ec]; rfl
 rw [if_pos (by rw [hl]; simp; omega)]
 simp only [cV]
 rw [dQ (by omega), dE, gS, eL, dm (show j < t64.length from hj)]
 rw [dK, cY, dm (show j < t64.length from hj)]
 rfl
theorem a9v (m : Int) : IntKind.wrap .u64 m = m % 18446744073709551616 := by
 show (if (false && decide (m % 18446744073709551616 ≥ 9223372036854775808)) = true then m % 18446744073709551616 - 18446744073709551616 else m % 18446744073709551616) = _
 simp
theorem c4P (hG : Glob gH H) (x : Nat) (h0 : x ≠ 0) (h1 : x < 18446744073709551616) : Fn prog 122 [.int .u64 x] H fun r H' => r = I (ctz x) ∧ St prog H H' [] := by
 obtain ⟨c1, _, _⟩ := a2D h0 h1
 have hd := dp.1 c5m (ctz x) (dw.2 c1)
 rw [cU, decide_eq_true_eq, decide_eq_true_eq] at hd
 have eA : IntKind.wrap .u64 (0 - (x : Int)) = ((18446744073709551616 - x : Nat) : Int) := by
  rw [a9v]
  omega
 have eB : IntKind.wrap .u64 ((BitVec.ofInt (IntKind.bits .u64) (x : Int) &&& BitVec.ofInt (IntKind.bits .u64) ((18446744073709551616 - x : Nat) : Int)).toNat : Int) = ((2 ^ ctz x : Nat) : Int) := by
  rw [gF, uA x h1, uA _ (by omega), b8f h0 h1]
  exact oP _ (by omega) (by have := a4w (ctz x) c1; omega)
 have eC : IntKind.wrap .u64 (((2 ^ ctz x : Nat) : Int) * 285870213051353865) = ((2 ^ ctz x * 285870213051353865 % 18446744073709551616 : Nat) : Int) := by
  rw [a9v]
  rfl
 have eD : ((2 ^ ctz x * 285870213051353865 % 18446744073709551616 : Nat) : Int).fdiv (2 ^ min 58 (IntKind.bits .u64)) = ((2 ^ ctz x * 285870213051353865 % 18446744073709551616 / 288230376151711744 : Nat) : Int) := by
  rw [show (2 : Int) ^ min 58 (IntKind.bits .u64) = ((288230376151711744 : Nat) : Int) from rfl]
  exact gy _ (by omega)
 have hd1 := hd.1
 have hd2 := hd.2
 generalize 2 ^ ctz x * 285870213051353865 % 18446744073709551616 / 288230376151711744 = i at eD hd1 hd2
 refine .aT func122 rfl (by kernel_rfl) (m := 14) rfl fun l hn g0 => ?_
 have iQ := gld hG i hd1 (some 1)
 rw [show t64.getD i 0 = ctz x from by rw [← hd2, cY, cY, dm (show i < t64.length from hd1)]; rfl] at iQ
 have hidx := c2B .u64 (i : Int) (by omega) (by omega)
 rw [dG, Nat.mul_one, fP] at hidx
 simp (disch := omega) only [↓RA, RB, simprocAttr, hn, g0]
 refine iA (fun q => ?_) (fun q => ?_)
 ·exfalso; omega
 simp (disch := omega) only [↓RA, RZ, simprocAttr, hn, g0, c4L, eA, eB, eC, eD, b2p, iQ, hidx, q]
 first | exact (sR H) | exact ⟨rfl, (sR H)⟩
theorem a5d {x : Nat} (h0 : x ≠ 0) (h1 : x < 18446744073709551616) (j : Nat) : (x &&& (x - 1)).testBit j = (x.testBit j && !decide (j = ctz x)) := by
 obtain ⟨m, hm⟩ := a3G h0 h1
 generalize ctz x = k at hm
 have hp : 0 < 2 ^ k := Nat.two_pow_pos k
 have e1 : x = 2 ^ (k + 1) * m + 2 ^ k := by rw [hm, Nat.pow_succ, Nat.mul_add, Nat.mul_one, Nat.mul_assoc]
 have e2 : x - 1 = 2 ^ (k + 1) * m + (2 ^ k - 1) := by omega
 have hl : 2 ^ k < 2 ^ (k + 1) := Nat.pow_lt_pow_right (by decide) (by omega)
 rw [Nat.testBit_and, e2]
 rw [e1, Nat.testBit_two_pow_mul_add m hl, Nat.testBit_two_pow_mul_add m (by omega : 2 ^ k - 1 < 2 ^ (k + 1))]
 by_cases hj : j < k + 1
 ·rw [if_pos hj, if_pos hj, fW, Nat.testBit_two_pow_sub_one]
  by_cases he : j = k
  ·simp [he]
  ·simp [show ¬ k = j by omega]
 ·rw [if_neg hj, if_neg hj, show decide (j = k) = false from decide_eq_false (by omega)]
  simp
theorem b3q {x : Nat} (h0 : x ≠ 0) (h1 : x < 18446744073709551616) : oU x = ctz x :: oU (x &&& (x - 1)) := by
 obtain ⟨c1, c2, c3⟩ := a2D h0 h1
 have hb := a5d h0 h1
 generalize ctz x = k at c1 c2 c3 hb
 obtain ⟨t, ht⟩ := a6P c1
 have hnd : (List.range 64).Nodup := List.nodup_range
 unfold oU
 rw [ht, eM, eM, List.filter_cons_of_pos (by simpa using c2), List.filter_cons_of_neg (by rw [hb]; simp)]
 rw [ht] at hnd
 have e1 : (List.range k).filter (fun i => x.testBit i) = [] := List.filter_eq_nil_iff.2 fun i hi => by simpa using c3 i (dw.1 hi)
 have e2 : (List.range k).filter (fun i => (x &&& (x - 1)).testBit i) = [] := List.filter_eq_nil_iff.2 fun i hi => by rw [hb, c3 i (dw.1 hi)]; simp
 rw [e1, e2, ff, ff]
 congr 1
 refine List.filter_congr fun i hi => ?_
 have hne : i ≠ k := fun e => by
  subst e
  exact (List.nodup_cons.1 (List.nodup_append.1 hnd).2.1).1 hi
 rw [hb, decide_eq_false hne]
 simp
theorem b0o : oU 0 = [] := List.filter_eq_nil_iff.2 fun i _ => by simp
def pK (x : Nt) : List Int := (oU x.1).map (fun (i : Nat) => (i : Int)) ++ (oU x.2).map fun (i : Nat) => 64 + (i : Int)
def a5U (x : Nt) (i : Nat) : Nat := if i = 0 then x.1 else x.2
def a4r (x : Nt) (i : Nat) : List Int := (oU (a5U x i)).map fun (j : Nat) => 64 * (i : Int) + (j : Int)
def a5E (x : Nt) (i : Nat) : List Int := (List.range i).flatMap (a4r x)
theorem a0a (x : Nt) (i : Nat) : a5E x (i + 1) = a5E x i ++ a4r x i := by
 unfold a5E
 rw [dV, dD, dz, eo, di]
theorem a7b (x : Nt) : a5E x 2 = pK x := by
 rw [a0a, a0a]
 unfold pK a5E a4r a5U
 simp
theorem b7O {x : Nt} (hx : Nt.Ok x) (i : Nat) : a5U x i < 18446744073709551616 := by
 unfold a5U
 split
 ·exact hx.1
 ·exact hx.2
theorem c3W (a b : Int) : pH prog 215 (.agg #[.int .u64 a, .int .u64 b]) (I 0) = some (.int .u64 a) := by kernel_rfl
theorem c3G (a b : Int) : pH prog 215 (.agg #[.int .u64 a, .int .u64 b]) (I 1) = some (.int .u64 b) := by kernel_rfl
theorem c6I (x : Nt) (i : Nat) (h : i < 2) : a2H (oF prog 215) prog 215 (.agg #[.int .u64 x.1, .int .u64 x.2]) (I i) = some (.int .u64 (a5U x i)) := by
 rw [← a7k]
 rcases (by omega : i = 0 ∨ i = 1) with rfl | rfl
 ·exact c3W _ _
 ·exact c3G _ _
theorem c1c (x : Nt) (hx : Nt.Ok x) (A : Nat) (f : Value) (J : List Int → Heap → Prop) (h0 : J [] H) (hg : ∀ d H1, J d H1 → Var H1 A 2 [.int .u64 x.1, .int .u64 x.2] ∧ Glob gH H1)
 (hst : ∀ d H1 H2, J d H1 → St prog H1 H2 [] → J d H2)
 (hf : ∀ d c e H1, pK x = d ++ c :: e → J d H1 → tM prog f [I c] H1 fun v H2 => v = .bool true ∧ J (d ++ [c]) H2) :
 FnS prog 121 [f, ptr A 0 2] H fun _ H' => J (pK x) H' := by
 have hV0 := (hg _ _ h0).1
 refine FnS.aX func121 rfl (by kernel_rfl) fun l hl => ?_
 have hn : l.length = 29 := by rw [hl]; rfl
 have g0 : get l 0 = f := by rw [hl]; rfl
 have g1 : get l 1 = (ptr A 0 2) := by rw [hl]; rfl
 clear hl
 simp (disch := omega) only [↓RA, RZ, simprocAttr, hn, g1, hV0.ld, b1J]
 refine Wp.ak (fun n l H' => l.length = 29 ∧ get l 0 = f ∧ get l 1 = ptr A 0 2 ∧ get l 9 = .agg #[.int .u64 x.1, .int .u64 x.2] ∧ ∃ i : Nat, n + i = 2 ∧ get l 10 = I i ∧ J (a5E x i) H') 2 ?_ ?_
 ·simp (disch := omega) only [RB, RC, simprocAttr, hn, g0, g1]
  exact ⟨0, rfl, rfl, h0⟩
 rintro n l H9 ⟨hn, g0, g1, g9, i, hi, oC, hJ⟩
 simp (disch := omega) only [↓RA, RB, simprocAttr, hn, oC]
 refine iA (fun q1 => ?_) (fun q1 => ?_)
 ·have hix := c6I x i (by omega)
  have hwl := b7O hx i
  simp (disch := omega) only [↓RA, RZ, simprocAttr, hn, g9, oC, q1, hix]
  refine Wp.ak (fun n2 l H' => l.length = 29 ∧ get l 0 = f ∧ get l 1 = ptr A 0 2 ∧ get l 9 = .agg #[.int .u64 x.1, .int .u64 x.2] ∧ get l 10 = I i ∧ get l 3 = I i ∧ ∃ (y : Nat) (d : List Nat), (n2 = (oU y).length ∧ y < 18446744073709551616 ∧ oU (a5U x i) = d ++ oU y) ∧ get l 4 = .int .u64 y ∧ J (a5E x i ++ d.map fun (j : Nat) => 64 * (i : Int) + (j : Int)) H') (oU (a5U x i)).length ?_ ?_
  ·simp (disch := omega) only [RB, RC, simprocAttr, hn, g0, g1, g9, oC]
   exact ⟨a5U x i, [], ⟨rfl, hwl, rfl⟩, rfl, by rw [gh, di]; exact hJ⟩
  rintro n2 l H8 ⟨hn, g0, g1, g9, oC, g3, y, d, ⟨hn2, hy, hbd⟩, g4, hJ2⟩
  simp (disch := omega) only [↓RA, RB, simprocAttr, hn, g4]
  refine iA (fun q2 => ?_) (fun q2 => ?_)
  ·have hy0 : y ≠ 0 := by omega
   have hc := a2D hy0 hy
   have hlow := b3q hy0 hy
   have hGl := (hg _ _ hJ2).2
   have eY1 : IntKind.wrap .u64 ((y : Int) - 1) = ((y - 1 : Nat) : Int) := by
    rw [a9v]
    omega
   have eY2 : IntKind.wrap .u64 ((BitVec.ofInt (IntKind.bits .u64) (y : Int) &&& BitVec.ofInt (IntKind.bits .u64) ((y - 1 : Nat) : Int)).toNat : Int) = ((y &&& (y - 1) : Nat) : Int) := by
    rw [gF, uA y hy, uA _ (by omega)]
    have := Nat.and_le_left (n := y) (m := y - 1)
    exact oP _ (by omega) (by omega)
   have hyl : y &&& (y - 1) < 18446744073709551616 := Nat.lt_of_le_of_lt Nat.and_le_left hy
   have hmem : pK x = (a5E x i ++ d.map fun (j : Nat) => 64 * (i : Int) + (j : Int)) ++ (64 * (i : Int) + (ctz y : Int)) :: ((oU (y &&& (y - 1))).map (fun (j : Nat) => 64 * (i : Int) + (j : Int)) ++ ((List.range 2).drop (i + 1)).flatMap (a4r x)) := by
    rw [← a7b]
    unfold a5E
    have e : List.range 2 = List.range i ++ i :: (List.range 2).drop (i + 1) := by
     rcases (by omega : i = 0 ∨ i = 1) with rfl | rfl <;> rfl
    rw [congrArg (List.flatMap (a4r x)) e, dD, dz]
    rw [show a4r x i = (d ++ oU y).map (fun (j : Nat) => 64 * (i : Int) + (j : Int)) from by unfold a4r; rw [hbd]]
    rw [hlow, dR, eu]
    simp only [ee, ia]
   have hc1 := hc.1
   simp (disch := omega) only [↓RA, RZ, simprocAttr, hn, g0, g3, g4, q2]
   refine (sR H8).cF (c4P ((sR H8).gl hGl) y hy0 hy) fun H1 hS1 => ?_
   simp (disch := omega) only [↓RA, RZ, simprocAttr, hn, q2]
   refine a9w (hf _ _ _ _ hmem (hst _ _ _ hJ2 hS1)) ?_
   rintro r H10 ⟨rfl, hJ3⟩
   simp (disch := omega) only [↓RA, RZ, simprocAttr, hn, g0, g1, g9, oC, g3, g4, q2, eY1, eY2]
   refine ⟨(oU (y &&& (y - 1))).length, by rw [hn2, hlow]; simp, y &&& (y - 1), d ++ [ctz y], ⟨rfl, hyl, by rw [hbd, hlow]; simp⟩, rfl, ?_⟩
   rw [dR, eu, gh, ← ee]
   exact hJ3
  simp (disch := omega) only [↓RA, RZ, simprocAttr, hn, g0, g1, g9, oC, q2]
  have hy0 : y = 0 := by omega
  subst hy0
  refine ⟨n - 1, by omega, i + 1, by omega, by simp, ?_⟩
  rw [a0a]
  have : a4r x i = d.map fun (j : Nat) => 64 * (i : Int) + (j : Int) := by
   unfold a4r
   rw [hbd, b0o, di]
  rw [this]
  exact hJ2
 simp (disch := omega) only [↓RA, RZ, simprocAttr, c5s, q1]
 have e : i = 2 := by omega
 subst e
 rw [← a7b]
 exact hJ
theorem a1t (x : Nt) : (pK x).length ≤ 128 := by
 unfold pK
 rw [dj, ec, ec]
 have h1 := a6z x.1 64
 have h2 := a6z x.2 64
 unfold b4w at h1 h2
 unfold oU
 omega
theorem b2b (hG : Glob gH H) (x : Nt) (hx : Nt.Ok x) (A : Nat) (hA : Var H A 2 [.int .u64 x.1, .int .u64 x.2]) :
 Fn prog 120 [.slice none 0 0, .func (.func 121) #[] #[ptr A 0 2]] H fun r H' => St prog H H' [⟨r, 1, (pK x).flatMap (one I)⟩] := by
 refine .aH func120 rfl (by kernel_rfl) (m := 13) rfl fun l hn g0 g1 => ?_
 simp (disch := omega) only [↓RA, RB, simprocAttr, g0]
 refine (sR H).eNew 1 [(.slice none 0 0)] rfl rfl rfl b1I fun A1 H1 hS1 => ?_
 simp only [RT] at hS1
 simp (disch := omega) only [↓RA, RB, simprocAttr, g1]
 have hS2 := hS1.nil 0
 simp only [RT] at hS2
 refine Wp.cE fun lrg1 hlrg1 => ?_
 have hnrg1 : lrg1.length = 13 := by rw [hlrg1]; simp (disch := omega) only [RB, simprocAttr, hn]
 have g2rg1 : get lrg1 2 = (ptr A1 0 1) := by rw [hlrg1]; simp (disch := omega) only [RB, simprocAttr, hn]
 have g4rg1 : get lrg1 4 = (.slice none 0 0) := by rw [hlrg1]; simp (disch := omega) only [RB, simprocAttr, hn]
 have gfrg1 : get lrg1 6 = .func (.func 121) #[] [(ptr A 0 2)].toArray := by rw [hlrg1]; simp (disch := omega) only [RB, simprocAttr, hn]
 clear hlrg1
 refine Wp.ch gfrg1 fun rg1 hstrg1 hpdrg1 htmrg1 hpsrg1 hasrg1 hbdrg1 => ?_
 have hreqrg1 : ({ rg1 with state := .ready, pending := none } : Loop) = rg1 := by
  cases rg1
  simp only at hstrg1 hpdrg1
  subst hstrg1 hpdrg1
  rfl
 have hLprg1 := Lp.enter hS2 rg1
 generalize H1.cons (.loop rg1) = Hcrg1 at hLprg1 ⊢
 generalize H1.length = Lrg1 at hLprg1 ⊢
 refine (c1c x hx A (.func (.yield Lrg1) #[] #[]) (fun d H1 => ∃ ow, Lp prog H Lrg1 rg1 H1 [⟨ptr A1 0 1, 0, [ow]⟩, ⟨ow, 1, d.flatMap (one I)⟩]) ⟨.slice none 0 0, hLprg1⟩ ?_ ?_ ?_).mono ?_
 ·rintro d H1 ⟨ow, h⟩
  exact ⟨hA.ab h.st.ab, h.st.gl hG⟩
 ·rintro d H1 H2 ⟨ow, h⟩ hS
  exact ⟨ow, by simpa using h.ext hS⟩
 ·rintro d c e H20 hm ⟨ow, hLpj⟩
  have hml := a1t x
  have hdl : d.length < 128 := by
   rw [hm, dj, dY] at hml
   omega
  refine a0L hLpj.get (by rw [hpsrg1]; rfl) hstrg1 ?_
  refine Wp.bO (l := put lrg1 (some 7) (I c)) hasrg1 (by rw [hpsrg1, htmrg1]; first | exact (mV ..).symm | rfl | simp [put, mV]) ?_
  simp (disch := omega) only [↓RA, RZ, simprocAttr, hnrg1]
  refine ⟨rg1, hLpj.get, hstrg1, ?_⟩
  have hYBs1 := hLpj.set (fun h => h) { rg1 with state := .busy }
  have hKBs1 : ∀ B, B ≠ Lrg1 → iQ (hset H20 Lrg1 (.loop { rg1 with state := .busy })) B = iQ H20 B := fun B h => iY _ (eY h)
  have hNBs1 : (hset H20 Lrg1 (.loop { rg1 with state := .busy })).length = H20.length := jN ..
  generalize hset H20 Lrg1 (.loop { rg1 with state := .busy }) = HBs1 at hYBs1 hKBs1 hNBs1 ⊢
  refine Wp.bO hbdrg1 rfl ?_
  have hZBs1 := hYBs1.st
  obtain ⟨Bs1, hBBs1, hS3⟩ := hZBs1.aB (os := [⟨ptr A1 0 1, 0, _⟩, ⟨ow, 1, _⟩])
  simp (disch := omega) only [↓RA, RZ, simprocAttr, hnrg1, g2rg1, hS3.ld 0 rfl]
  refine hS3.aj [I c] yH a2q rfl rfl (by simp [Value.cells]) rfl rfl (by decide) (by decide) fun w1 H2 hS4 => ?_
  simp only [RT] at hS4
  simp (disch := omega) only [↓RA, RZ, simprocAttr, hnrg1]
  refine hS4.aq 1 rfl (hS4.rd 2 rfl) yH (by rw [nH, ec]; simp; omega) fun w2 H3 hS5 => ?_
  simp only [RT] at hS5
  simp (disch := omega) only [↓RA, RB, simprocAttr, hnrg1, g2rg1]
  refine hS5.aa 0 rfl [w2] (by rw [(hS5.rd 1 rfl).cells.1]) (by simp [(hS5.rd 1 rfl).cells.2.1]) b1I (by simp) fun H4 hS6 => ?_
  simp only [RT] at hS6
  simp (disch := omega) only [↓RA, simprocAttr]
  have hS7 := hS6.pick (os' := [⟨ptr A1 0 1, 0, _⟩, ⟨w2, 1, _⟩]) [0, 1] (by decide) rfl
  have hWBs1 := (hYBs1.body (hBBs1 ▸ hS7)).set (fun h => h) rg1
  rw [← hreqrg1] at hWBs1
  refine ⟨_, (hYBs1.body (hBBs1 ▸ hS7)).get, rfl, w2, ?_⟩
  rw [dD]
  exact hreqrg1 ▸ hWBs1
 ·rintro _ H21 ⟨ow, hLp2⟩
  refine ⟨_, hLp2.get, (by rw [hstrg1]; exact fun h => by cases h), fun _ => ?_, fun c hc => by rw [hpdrg1] at hc; cases hc⟩
  have hAAf1 := (hLp2.set (fun h => h) { rg1 with state := .exhausted }).st
  have hKAf1 : ∀ B, B ≠ Lrg1 → iQ (hset H21 Lrg1 (.loop { rg1 with state := .exhausted })) B = iQ H21 B := fun B h => iY _ (eY h)
  generalize hset H21 Lrg1 (.loop { rg1 with state := .exhausted }) = HAf1 at hAAf1 hKAf1 ⊢
  simp (disch := omega) only [↓RA, RZ, simprocAttr, hnrg1, g2rg1, hAAf1.ld 0 rfl, c5e]
  exact hAAf1.pick [1] (by decide) rfl
theorem a8M (hG : Glob gH H) (x : Nt) (hx : Nt.Ok x) (A : Nat) (hA : Var H A 2 [.int .u64 x.1, .int .u64 x.2]) :
 Fn prog 90 [.func (.func 121) #[] #[ptr A 0 2]] H fun r H' => St prog H H' [⟨r, 1, (pK x).flatMap (one I)⟩] := by
 refine .aT func90 rfl (by kernel_rfl) (m := 5) rfl fun l hn g0 => ?_
 simp (disch := omega) only [↓RA, RZ, simprocAttr, hn, g0]
 refine iG ((b2b ((sR H).gl hG) x hx A (hA.ab (sR H).ab)).tr) ?_
 rintro r H1 ⟨-, hT1⟩
 have hS1 := (sR H).trans hT1
 simp only [RT] at hS1
 simp (disch := omega) only [↓RA, RB, simprocAttr, hn, c6S]
 exact hS1
theorem b8j (x : Nt) : Fn prog 91 [.agg #[.int .u64 x.1, .int .u64 x.2]] H fun r H' => ∃ A, r = .func (.func 121) #[] #[ptr A 0 2] ∧ St prog H H' [⟨ptr A 0 2, 0, [.int .u64 x.1, .int .u64 x.2]⟩] := by
 refine .aT func91 rfl (by kernel_rfl) (m := 4) rfl fun l hn g0 => ?_
 simp (disch := omega) only [↓RA, RB, simprocAttr, g0]
 refine (sR H).eNew 2 [(.int .u64 x.1), (.int .u64 x.2)] rfl rfl rfl lK fun A1 H1 hS1 => ?_
 simp only [RT] at hS1
 simp (disch := omega) only [↓RA, RZ, simprocAttr, hn, c6X]
 exact ⟨A1, rfl, hS1⟩
theorem b0s (hG : Glob gH H) (x : Nt) (hx : Nt.Ok x) :
 Fn prog 58 [.agg #[.int .u64 x.1, .int .u64 x.2]] H fun r H' => St prog H H' [⟨r, 1, (pK x).flatMap (one I)⟩] := by
 refine .aT func58 rfl (by kernel_rfl) (m := 6) rfl fun l hn g0 => ?_
 simp (disch := omega) only [↓RA, RB, simprocAttr, g0]
 refine (sR H).eNew 2 [(.int .u64 x.1), (.int .u64 x.2)] rfl rfl rfl lK fun A1 H1 hS1 => ?_
 simp only [RT] at hS1
 simp (disch := omega) only [↓RA, RZ, simprocAttr, hn, hS1.ae 0 rfl]
 refine iG (b8j x) ?_
 rintro r H2 ⟨A2, rfl, hT1⟩
 have hS2 := hS1.trans hT1
 simp only [RT] at hS2
 simp (disch := omega) only [↓RA, RZ, simprocAttr, hn]
 refine iG ((a8M (hS2.gl hG) x hx A2 (hS2.var 1 rfl)).tr) ?_
 rintro r H3 ⟨-, hT2⟩
 have hS3 := hS2.trans hT2
 simp only [RT] at hS3
 simp (disch := omega) only [↓RA, RB, simprocAttr, hn, c6P]
 exact hS3.pick [2] (by decide) rfl
def a6O (a b : Nat) : Nat := (BitVec.ofNat 64 a &&& ~~~ BitVec.ofNat 64 b).toNat
theorem a4X (a b : Nat) : a6O a b < 18446744073709551616 := (BitVec.ofNat 64 a &&& ~~~ BitVec.ofNat 64 b).isLt
theorem c0F (a b : Nat) : IntKind.wrap .u64 ((BitVec.ofInt (IntKind.bits .u64) (a : Int) &&& ~~~ BitVec.ofInt (IntKind.bits .u64) (b : Int)).toNat : Int) = ((a6O a b : Nat) : Int) := by
 have e : (BitVec.ofInt (IntKind.bits .u64) (a : Int) &&& ~~~ BitVec.ofInt (IntKind.bits .u64) (b : Int)).toNat = a6O a b := by
  unfold a6O
  rw [fQ, fQ]
  rfl
 rw [e]
 have := a4X a b
 exact oP _ (by omega) (by omega)
theorem a6t (a b j : Nat) (ha : a < 18446744073709551616) (hj : j < 64) : (a6O a b).testBit j = (a.testBit j && !b.testBit j) := by
 unfold a6O
 have h1 : (BitVec.ofNat 64 a &&& ~~~ BitVec.ofNat 64 b).toNat.testBit j = (BitVec.ofNat 64 a &&& ~~~ BitVec.ofNat 64 b).getLsbD j := rfl
 rw [h1, BitVec.getLsbD_and, BitVec.getLsbD_not, BitVec.getLsbD_ofNat, BitVec.getLsbD_ofNat]
 simp [hj]
def woF (x y : Nt) : Nt := (a6O x.1 y.1, a6O x.2 y.2)
theorem c0W (x y : Nt) : Nt.Ok (woF x y) := ⟨a4X _ _, a4X _ _⟩
theorem c1s (x y : Nt) : Fn prog 92 [.agg #[.int .u64 x.1, .int .u64 x.2], .agg #[.int .u64 y.1, .int .u64 y.2]] H fun r H' => r = .agg #[.int .u64 (woF x y).1, .int .u64 (woF x y).2] ∧ St prog H H' [] := by
 have e1 := c0F x.1 y.1
 have e2 := c0F x.2 y.2
 refine .aH func92 rfl (by kernel_rfl) (m := 16) rfl fun l hn g0 g1 => ?_
 simp (disch := omega) only [↓RA, RB, simprocAttr, g0]
 refine (sR H).eNew 2 [(.int .u64 x.1), (.int .u64 x.2)] rfl rfl rfl lK fun A1 H1 hS1 => ?_
 simp only [RT] at hS1
 simp (disch := omega) only [↓RA, RB, simprocAttr, g1]
 refine hS1.eNew 2 [(.int .u64 y.1), (.int .u64 y.2)] rfl rfl rfl lK fun A2 H2 hS2 => ?_
 simp only [RT] at hS2
 simp (disch := omega) only [↓RA, RZ, simprocAttr]
 refine hS2.eNew 2 [(.int .u64 0), (.int .u64 0)] rfl rfl rfl lK fun A3 H3 hS3 => ?_
 simp only [RT] at hS3
 simp (disch := omega) only [↓RA, RZ, simprocAttr, hn, hS3.ld 0 rfl, hS3.ld 1 rfl, b2R, e1, e2]
 refine hS3.aa 2 rfl [_, _] rfl rfl lK (by simp) fun H4 hS4 => ?_
 simp only [RT] at hS4
 simp (disch := omega) only [↓RA, RZ, simprocAttr, hn, c6E, hS4.ae 2 rfl]
 exact ⟨rfl, hS4.forget⟩
theorem a9V (x y : Nt) : Fn prog 59 [.agg #[.int .u64 x.1, .int .u64 x.2], .agg #[.int .u64 y.1, .int .u64 y.2]] H fun r H' => r = .bool (decide (woF x y = (0, 0))) ∧ St prog H H' [] := by
 refine .aH func59 rfl (by kernel_rfl) (m := 10) rfl fun l hn g0 g1 => ?_
 simp (disch := omega) only [↓RA, RB, simprocAttr, g0]
 refine (sR H).eNew 2 [(.int .u64 x.1), (.int .u64 x.2)] rfl rfl rfl lK fun A1 H1 hS1 => ?_
 simp only [RT] at hS1
 simp (disch := omega) only [↓RA, RB, simprocAttr, g1]
 refine hS1.eNew 2 [(.int .u64 y.1), (.int .u64 y.2)] rfl rfl rfl lK fun A2 H2 hS2 => ?_
 simp only [RT] at hS2
 simp (disch := omega) only [↓RA, RZ, simprocAttr, hn, hS2.ae 0 rfl, hS2.ae 1 rfl]
 refine hS2.cF (c1s x y) fun H3 hS3 => ?_
 simp (disch := omega) only [↓RA, RZ, simprocAttr, hn, b0i, c6h]
 refine ⟨?_, hS3.forget⟩
 congr 1
 rw [decide_eq_decide]
 constructor
 ·rintro ⟨h1, h2⟩
  exact gm (by simpa using h1) (by simpa using h2)
 ·intro h
  rw [h]
  exact ⟨rfl, rfl⟩
def zM (lo hi : Int) : Nt := jY ((List.range (hi - lo + 1).toNat).map fun (k : Nat) => lo + (k : Int))
theorem b2e (lo hi : Int) (h0 : 0 ≤ lo) (h1 : lo ≤ hi) (h2 : hi ≤ 127) : Fn prog 50 [.agg #[I lo, I hi]] H fun r H' => r = .tuple #[.agg #[.int .u64 (zM lo hi).1, .int .u64 (zM lo hi).2], I 0] ∧ St prog H H' [] := by
 have hce : qQ lo hi = 0 := by
  unfold qQ
  rw [if_neg (by omega), if_neg (by omega)]
 refine .aT func50 rfl (by kernel_rfl) (m := 25) rfl fun l hn g0 => ?_
 simp (disch := omega) only [↓RA, RB, simprocAttr, g0]
 refine (sR H).eNew 2 [I lo, I hi] rfl rfl rfl a0W fun A1 H1 hS1 => ?_
 simp only [RT] at hS1
 simp (disch := omega) only [↓RA, RZ, simprocAttr]
 refine hS1.eNew 2 [(.int .u64 0), (.int .u64 0)] rfl rfl rfl lK fun A2 H2 hS2 => ?_
 simp only [RT] at hS2
 simp (disch := omega) only [↓RA, RZ, simprocAttr]
 refine hS2.eNew 2 [(.int .u64 0), (.int .u64 0)] rfl rfl rfl lK fun A3 H3 hS3 => ?_
 simp only [RT] at hS3
 simp (disch := omega) only [↓RA, RZ, simprocAttr, hn, hS3.ae 0 rfl]
 refine hS3.cF (a1h lo hi) fun H4 hS4 => ?_
 rw [hce]
 simp (disch := omega) only [↓RA, RZ, simprocAttr, hn, hS4.ld 0 rfl]
 refine Wp.ak (fun n l H' => l.length = 25 ∧ get l 1 = (ptr A1 0 2) ∧ get l 2 = (ptr A2 0 2) ∧ get l 3 = I 0 ∧ get l 4 = (ptr A3 0 2) ∧ ∃ (j : Nat), (n + j = (hi - lo + 1).toNat) ∧ get l 6 = I (lo + (j : Int)) ∧ St prog H H' [⟨ptr A1 0 2, 0, [I lo, I hi]⟩, ⟨ptr A2 0 2, 0, [(.int .u64 0), (.int .u64 0)]⟩, ⟨ptr A3 0 2, 0, [.int .u64 (jY ((List.range j).map fun (k : Nat) => lo + (k : Int))).1, .int .u64 (jY ((List.range j).map fun (k : Nat) => lo + (k : Int))).2]⟩]) (hi - lo + 1).toNat ?_ ?_
 ·simp (disch := omega) only [RB, RC, simprocAttr, hn]
  exact ⟨0, by omega, by simp, hS4⟩
 rintro n l H5 ⟨hn, g1, g2, g3, g4, j, hj, g6, hS5⟩
 simp (disch := omega) only [↓RA, RZ, simprocAttr, hn, g1, g6, hS5.ld 0 rfl]
 refine iA (fun q1 => ?_) (fun q1 => ?_)
 ·have hok : Nt.Ok (jY ((List.range j).map fun (k : Nat) => lo + (k : Int))) := vP _ _ (fun z h => by
   obtain ⟨k, hk, rfl⟩ := dx.1 h
   have := dw.1 hk
   exact ⟨by omega, by omega⟩) ⟨by decide, by decide⟩
  have hsu : jY ((List.range (j + 1)).map fun (k : Nat) => lo + (k : Int)) = tB (jY ((List.range j).map fun (k : Nat) => lo + (k : Int))) (lo + (j : Int)) := by
   unfold jY
   rw [dV, dR, fu]
   rfl
  simp (disch := omega) only [↓RA, RZ, simprocAttr, hn, g4, g6, hS5.ae 2 rfl, q1]
  refine hS5.cF (a6I (jY ((List.range j).map fun (k : Nat) => lo + (k : Int))) hok (lo + (j : Int)) (by omega) (by omega)) fun H6 hS6 => ?_
  simp (disch := omega) only [↓RA, RZ, simprocAttr, hn, g4, q1]
  refine hS6.aa 2 rfl [(.int .u64 (tB (jY ((List.range j).map fun (k : Nat) => lo + (k : Int))) (lo + (j : Int))).1), (.int .u64 (tB (jY ((List.range j).map fun (k : Nat) => lo + (k : Int))) (lo + (j : Int))).2)] rfl rfl lK (by simp) fun H7 hS7 => ?_
  simp only [RT] at hS7
  simp (disch := omega) only [↓RA, RZ, simprocAttr, hn, g1, g2, g3, g4, g6, q1]
  refine ⟨n - 1, by omega, j + 1, by omega, by congr 1; omega, ?_⟩
  rw [hsu]
  exact hS7.pick [0, 1, 2] (by decide) rfl
 have hjj : j = (hi - lo + 1).toNat := by omega
 simp (disch := omega) only [↓RA, RZ, simprocAttr, hn, g2, g4, hS5.ae 2 rfl, q1]
 refine hS5.aa 1 rfl [(.int .u64 (jY ((List.range j).map fun (k : Nat) => lo + (k : Int))).1), (.int .u64 (jY ((List.range j).map fun (k : Nat) => lo + (k : Int))).2)] rfl rfl lK (by simp) fun H8 hS8 => ?_
 simp only [RT] at hS8
 simp (disch := omega) only [↓RA, RZ, simprocAttr, hn, g2, c6t, hS8.ae 1 rfl, q1]
 rw [hjj]
 exact ⟨rfl, hS8.forget⟩
structure Ks (H : Heap) (kv : Value) (ks : List Nt) : Prop where
 sl : Sl 2 ntc H kv ks
 len : ks.length < 1000000000
 ok : ∀ x ∈ ks, Nt.Ok x
theorem Ks.ab {P : Program} {H' : Heap} {kv : Value} {ks : List Nt} {os : List Ob} (h : Ks H kv ks) (hS : St P H H' os) : Ks H' kv ks := ⟨hS.sl h.sl, h.len, h.ok⟩
def mH (o : Org) (ks : List Nt) : Int := if organE o ≠ 0 then organE o else if ks.length ≠ o.dvs.length then 5 else if ∃ j, j < o.dvs.length ∧ woF (iB ks j) (zM (iB o.dvs j).lo (iB o.dvs j).hi) ≠ (0, 0) then 23 else 0
theorem a7x (o : Org) (ho : o.In H) (kv : Value) (ks : List Nt) (hk : Ks H kv ks) : Fn prog 34 [.agg #[.string o.name, o.rv, o.dv, o.cv], kv] H fun r H' => r = I (mH o ks) ∧ St prog H H' [] := by
 have hkl := hk.len
 have hdl := ho.2.2.2.2.2.2.1
 refine .aH func34 rfl (by kernel_rfl) (m := 43) rfl fun l hn g0 g1 => ?_
 simp (disch := omega) only [↓RA, RB, simprocAttr, g0]
 refine (sR H).eNew 4 [(.string o.name), o.rv, o.dv, o.cv] rfl rfl (by simp [OC, ((sR H).sl ho.1).cells.2.1, ((sR H).sl ho.2.2.1).cells.2.1, ((sR H).sl ho.2.2.2.2.1).cells.2.1]) lU fun A1 H1 hS1 => ?_
 simp only [RT] at hS1
 simp (disch := omega) only [↓RA, RZ, simprocAttr, hn, hS1.ae 0 rfl]
 refine hS1.cF (yR o (ho.ab hS1)) fun H2 hS2 => ?_
 simp (disch := omega) only [↓RA, RB, simprocAttr, hn]
 refine iA (fun h1 => ?_) (fun h1 => ?_)
 ·simp (disch := omega) only [↓RA, RZ, simprocAttr, hn, b8n, h1]
  exact ⟨by unfold mH; rw [if_pos h1], hS2.forget⟩
 have hz : organE o = 0 := du.1 h1
 have hf := Org.aN hz
 simp (disch := omega) only [↓RA, RZ, simprocAttr, hn, g1, (hS2.sl hk.sl).len, hS2.ld 0 rfl, (hS2.sl ho.2.2.1).len, h1]
 refine iA (fun h2 => ?_) (fun h2 => ?_)
 ·simp (disch := omega) only [↓RA, RZ, simprocAttr, hn, b8n, h1, h2]
  exact ⟨by unfold mH; rw [if_neg h1, if_pos (by omega)], hS2.forget⟩
 have hlen : ks.length = o.dvs.length := by omega
 simp (disch := omega) only [↓RA, RZ, simprocAttr, hn, hS2.ld 0 rfl, (hS2.sl ho.2.2.1).len, h1, h2]
 refine Wp.ak (fun n l H' => l.length = 43 ∧ get l 1 = kv ∧ get l 22 = o.dv ∧ get l 23 = I o.dvs.length ∧ ∃ (j : Nat), (n + j = o.dvs.length ∧ ∀ q, q < j → woF (iB ks q) (zM (iB o.dvs q).lo (iB o.dvs q).hi) = (0, 0)) ∧ get l 24 = I j ∧ St prog H H' [⟨ptr A1 0 4, 0, [(.string o.name), o.rv, o.dv, o.cv]⟩]) o.dvs.length ?_ ?_
 ·simp (disch := omega) only [RB, RC, simprocAttr, hn, g1]
  exact ⟨0, ⟨by omega, fun q hq => absurd hq (dL _)⟩, rfl, hS2⟩
 rintro n l H3 ⟨hn, g1, g22, g23, j, ⟨hj,hq⟩, g24, hS3⟩
 simp (disch := omega) only [↓RA, RB, simprocAttr, hn, g23, g24]
 refine iA (fun h3 => ?_) (fun h3 => ?_)
 ·have hky := hf.keys j (by omega)
  simp (disch := omega) only [↓RA, RZ, simprocAttr, hn, g22, g24, (hS3.sl ho.2.2.1).idx, (hS3.sl ho.2.2.1).ae, Dvn.cells, h3]
  refine hS3.eNew 5 [(.string ⟨#[]⟩), (.bool false), I 0, I 0, (.slice none 0 0)] rfl rfl rfl yO fun A2 H4 hS4 => ?_
  simp only [RT] at hS4
  simp (disch := omega) only [↓RA, RZ, simprocAttr, hn, h3]
  refine hS4.aa 1 rfl [(.string (iB o.dvs j).name), (.bool (iB o.dvs j).pedal), I (iB o.dvs j).lo, I (iB o.dvs j).hi, (iB o.dvs j).sv] rfl (by simp [OC, (hS4.sl (ho.2.2.2.1 (iB o.dvs j) (iD (by omega))).1).cells.2.1]) yO (by simp) fun H5 hS5 => ?_
  simp only [RT] at hS5
  simp (disch := omega) only [↓RA, RZ, simprocAttr, hn, hS5.ae 1 rfl, h3]
  refine hS5.cF (b2e (iB o.dvs j).lo (iB o.dvs j).hi hky.1 hky.2.1 hky.2.2) fun H6 hS6 => ?_
  simp (disch := omega) only [↓RA, RZ, simprocAttr, hn, h3]
  refine hS6.eNew 2 [(.int .u64 0), (.int .u64 0)] rfl rfl rfl lK fun A3 H7 hS7 => ?_
  simp only [RT] at hS7
  simp (disch := omega) only [↓RA, RZ, simprocAttr, hn, h3]
  refine hS7.aa 2 rfl [(.int .u64 (zM (iB o.dvs j).lo (iB o.dvs j).hi).1), (.int .u64 (zM (iB o.dvs j).lo (iB o.dvs j).hi).2)] rfl rfl lK (by simp) fun H8 hS8 => ?_
  simp only [RT] at hS8
  simp (disch := omega) only [↓RA, RZ, simprocAttr, hn, h3]
  refine Wp.drw kC (by kernel_rfl) ?_
  simp (disch := omega) only [↓RA, RZ, simprocAttr, hn, g1, (hS8.sl hk.sl).idx, (hS8.sl hk.sl).ae, ntc, hS8.ae 2 rfl]
  refine hS8.cF (a9V (iB ks j) (zM (iB o.dvs j).lo (iB o.dvs j).hi)) fun H9 hS9 => ?_
  simp (disch := omega) only [↓RA, RB, simprocAttr, hn]
  refine jL (fun h4 => ?_) (fun h4 => ?_)
  ·have h5 : ¬ woF (iB ks j) (zM (iB o.dvs j).lo (iB o.dvs j).hi) = (0, 0) := by simpa using h4
   simp (disch := omega) only [↓RA, RB, simprocAttr, hn, b8n, h4]
   exact ⟨by unfold mH; rw [if_neg h1, if_neg (by omega), if_pos ⟨j, by omega, h5⟩], hS9.forget⟩
  have h5 : woF (iB ks j) (zM (iB o.dvs j).lo (iB o.dvs j).hi) = (0, 0) := by simpa using h4
  simp (disch := omega) only [↓RA, RZ, simprocAttr, hn, g1, g22, g23, g24, h4]
  exact ⟨n - 1, by omega, j + 1, ⟨by omega, fun q hq' => by rcases dr.1 hq' with e | e; (· exact hq q e); (· rw [e]; exact h5)⟩, by simp, hS9.pick [0] (by decide) rfl⟩
 simp (disch := omega) only [↓RA, RZ, simprocAttr, hn, b8n, h3]
 refine ⟨?_, hS3.forget⟩
 unfold mH
 rw [if_neg h1, if_neg (by omega), if_neg]
 rintro ⟨q, hq1, hq2⟩
 exact hq2 (hq q (by omega))
def plD (ks : List Nt) (i : Nat) : List Ct := (pK (iB ks i)).map fun z => ((i : Int), z)
def iE (ks : List Nt) : List Ct := (List.range ks.length).flatMap (plD ks)
theorem c1z (ks : List Nt) (i : Nat) : (plD ks i).length ≤ 128 := by
 unfold plD
 rw [ec]
 exact a1t _
theorem a6Y (ks : List Nt) : ∀ i, ((List.range i).flatMap (plD ks)).length ≤ i * 128
 | 0 => by simp
 | i + 1 => by
   have := a6Y ks i
   have := c1z ks i
   rw [dV, dD, dj, dz, eo, di]
   omega
theorem a4o (hG : Glob gH H) (kv : Value) (ks : List Nt) (hk : Ks H kv ks) (h8 : ks.length ≤ 8) : Fn prog 74 [kv] H fun r H' => St prog H H' [⟨r, 2, pr (iE ks)⟩] := by
 refine .aT func74 rfl (by kernel_rfl) (m := 31) rfl fun l hn g0 => ?_
 simp (disch := omega) only [↓RA, RZ, simprocAttr, hn, g0, ((sR H).sl hk.sl).len]
 have hS1 := (sR H).nil 1
 simp only [RT] at hS1
 refine Wp.ak (fun n l H' => l.length = 31 ∧ get l 2 = (.slice none 0 0) ∧ get l 8 = kv ∧ get l 9 = I ks.length ∧ ∃ (i : Nat) (ov : Value), (n + i = ks.length) ∧ get l 10 = I i ∧ get l 3 = ov ∧ St prog H H' [⟨ov, 2, pr ((List.range i).flatMap (plD ks))⟩]) ks.length ?_ ?_
 ·simp (disch := omega) only [RB, RC, simprocAttr, hn]
  exact ⟨0, .slice none 0 0, by omega, rfl, rfl, hS1⟩
 rintro n l H1 ⟨hn, g2, g8, g9, i, ov, hi, oC, g3, hS2⟩
 simp (disch := omega) only [↓RA, RB, simprocAttr, hn, g9, oC]
 refine iA (fun q1 => ?_) (fun q1 => ?_)
 ·have hmo := hk.ok _ (iD (xs := ks) (j := i) (by omega))
  have hml := a1t (iB ks i)
  have hpl := a6Y ks i
  simp (disch := omega) only [↓RA, RZ, simprocAttr, hn, g8, oC, (hS2.sl hk.sl).idx, (hS2.sl hk.sl).ae, ntc, q1]
  refine hS2.eNew 2 [(.int .u64 0), (.int .u64 0)] rfl rfl rfl lK fun A1 H2 hS3 => ?_
  simp only [RT] at hS3
  simp (disch := omega) only [↓RA, RZ, simprocAttr, hn, q1]
  refine hS3.aa 1 rfl [(.int .u64 (iB ks i).1), (.int .u64 (iB ks i).2)] rfl rfl lK (by simp) fun H3 hS4 => ?_
  simp only [RT] at hS4
  simp (disch := omega) only [↓RA, RZ, simprocAttr, hn, hS4.ae 1 rfl, q1]
  refine iG ((b0s (hS4.gl hG) (iB ks i) hmo).tr) ?_
  rintro r H4 ⟨-, hT1⟩
  have hS5 := hS4.trans hT1
  simp only [RT] at hS5
  obtain ⟨mw, rfl⟩ : ∃ w, w = r := ⟨r, rfl⟩
  simp (disch := omega) only [↓RA, RZ, simprocAttr, hn, (hS5.aw 2 rfl (fun _ => rfl)).len, q1]
  refine Wp.ak (fun n l H' => l.length = 31 ∧ get l 2 = (.slice none 0 0) ∧ get l 4 = I i ∧ get l 8 = kv ∧ get l 9 = I ks.length ∧ get l 10 = I i ∧ get l 16 = mw ∧ get l 17 = I (pK (iB ks i)).length ∧ ∃ (j : Nat) (ow : Value), (n + j = (pK (iB ks i)).length) ∧ get l 18 = I j ∧ get l 3 = ow ∧ St prog H H' [⟨ow, 2, pr ((List.range i).flatMap (plD ks) ++ ((pK (iB ks i)).take j).map fun z => ((i : Int), z))⟩, ⟨ptr A1 0 2, 0, [(.int .u64 (iB ks i).1), (.int .u64 (iB ks i).2)]⟩, ⟨mw, 1, (pK (iB ks i)).flatMap (one I)⟩]) (pK (iB ks i)).length ?_ ?_
  ·simp (disch := omega) only [RB, RC, simprocAttr, hn, g2, g8, g9, oC, g3]
   refine ⟨0, ov, by omega, rfl, rfl, ?_⟩
   rw [List.take_zero, gh, di]
   exact hS5
  rintro n l H5 ⟨hn, g2, g4, g8, g9, oC, g16, g17, j, ow, hj, g18, g3, hS6⟩
  simp (disch := omega) only [↓RA, RB, simprocAttr, hn, g17, g18]
  refine iA (fun q2 => ?_) (fun q2 => ?_)
  ·have hroom : (pr ((List.range i).flatMap (plD ks) ++ ((pK (iB ks i)).take j).map fun z => ((i : Int), z))).length ≤ 4000 := by
    rw [iI, dj, ec, gf]
    omega
   simp (disch := omega) only [↓RA, RZ, simprocAttr, hn, g4, g16, g18, g3, (hS6.aw 2 rfl (fun _ => rfl)).idx, (hS6.aw 2 rfl (fun _ => rfl)).ld, one, qT, q2]
   refine hS6.aj [I i, I (iB (pK (iB ks i)) j)] qE a2i rfl rfl (by simp [Value.cells]) rfl rfl (by decide) (by decide) fun w1 H6 hS7 => ?_
   simp only [RT] at hS7
   simp (disch := omega) only [↓RA, RZ, simprocAttr, hn, q2]
   refine hS7.aq 0 rfl (hS7.rd 3 rfl) qE (by have h := hroom; simp only [dY, eK]; omega) fun w2 H7 hS8 => ?_
   simp only [RT] at hS8
   simp (disch := omega) only [↓RA, RZ, simprocAttr, hn, g2, g4, g8, g9, oC, g16, g17, g18, q2]
   refine ⟨n - 1, by omega, j + 1, w2, by omega, by simp, rfl, ?_⟩
   rw [List.take_add_one, dm (by omega), Option.toList_some, dR, ← ee, jI]
   rw [show (pK (iB ks i))[j] = iB (pK (iB ks i)) j from (jV _ _ (by omega)).symm]
   exact hS8.pick [0, 1, 2] (by decide) rfl
  simp (disch := omega) only [↓RA, RZ, simprocAttr, hn, g2, g8, g9, oC, g3, q2]
  have hjj : j = (pK (iB ks i)).length := by omega
  refine ⟨ks.length - (i + 1), by omega, i + 1, ow, by omega, by simp, rfl, ?_⟩
  rw [dV, dD, dz, eo, di]
  rw [show plD ks i = ((pK (iB ks i)).take j).map (fun z => ((i : Int), z)) from by rw [hjj, dM]; rfl]
  exact hS6.pick [0] (by decide) rfl
 have hii : i = ks.length := by omega
 simp (disch := omega) only [↓RA, RZ, simprocAttr, hn, g3, c5T, q1]
 have hfin := hS2
 rw [hii] at hfin
 exact hfin
end Go.Ds
namespace Go.Ds
open Go.Proofs
set_option maxRecDepth 10000
def nN (x : Nt) (z : Int) : Bool := if z < 64 then x.1.testBit z.toNat else x.2.testBit (z - 64).toNat
theorem sB {x i : Nat} : i ∈ oU x ↔ i < 64 ∧ x.testBit i = true := by
 unfold oU
 rw [eh, dw]
theorem a2n {x : Nt} {z : Int} : z ∈ pK x ↔ isN z ∧ nN x z = true := by
 unfold pK nN isN
 rw [dF, dx, dx]
 constructor
 ·rintro (⟨i, hi, rfl⟩ | ⟨i, hi, rfl⟩)
  ·obtain ⟨h1, h2⟩ := sB.1 hi
   exact ⟨by omega, by rw [if_pos (by omega)]; exact h2⟩
  ·obtain ⟨h1, h2⟩ := sB.1 hi
   refine ⟨by omega, ?_⟩
   rw [if_neg (by omega), show (64 + (i : Int) - 64).toNat = i by omega]
   exact h2
 ·rintro ⟨h1, h2⟩
  by_cases h : z < 64
  ·rw [if_pos h] at h2
   exact .inl ⟨z.toNat, sB.2 ⟨by omega, h2⟩, by omega⟩
  ·rw [if_neg h] at h2
   exact .inr ⟨(z - 64).toNat, sB.2 ⟨by omega, h2⟩, by omega⟩
theorem b5M (x : Nt) (n z : Int) (hn : isN n) (hz : isN z) : nN (tB x n) z = (nN x z || decide (z = n)) := by
 unfold nN tB isN at *
 by_cases h1 : n < 64
 ·rw [if_pos h1]
  by_cases h2 : z < 64
  ·rw [if_pos h2, if_pos h2, Nat.testBit_or, fW]
   congr 1
   rw [decide_eq_decide]
   omega
  ·rw [if_neg h2, if_neg h2, decide_eq_false (by omega), Bool.or_false]
 ·rw [if_neg h1]
  by_cases h2 : z < 64
  ·rw [if_pos h2, if_pos h2, decide_eq_false (by omega), Bool.or_false]
  ·rw [if_neg h2, if_neg h2, Nat.testBit_or, fW]
   congr 1
   rw [decide_eq_decide]
   omega
theorem a3X (z : Int) : nN (0, 0) z = false := by
 unfold nN
 split <;> simp
theorem a4m : ∀ (xs : List Int) (x : Nt) (z : Int), (∀ n ∈ xs, isN n) → isN z → nN (xs.foldl tB x) z = (nN x z || decide (z ∈ xs))
 | [], x, z, _, _ => by simp
 | n :: xs, x, z, h, hz => by
   rw [eR, a4m xs _ z (fun y hy => h y (dP _ hy)) hz, b5M x n z (h n (dJ ..)) hz, Bool.or_assoc]
   congr 1
   rw [ez]
   simp
theorem a1C {xs : List Int} {z : Int} (h : ∀ n ∈ xs, isN n) (hz : isN z) : nN (jY xs) z = decide (z ∈ xs) := by
 unfold jY
 rw [a4m xs _ z h hz, a3X, Bool.false_or]
theorem a2K {lo hi z : Int} (h0 : 0 ≤ lo) (h2 : hi ≤ 127) (hz : isN z) : nN (zM lo hi) z = (decide (lo ≤ z) && decide (z ≤ hi)) := by
 unfold zM
 rw [a1C (fun n hn => by
  obtain ⟨k, hk, rfl⟩ := dx.1 hn
  have := dw.1 hk
  exact ⟨by omega, by omega⟩) hz, ez, cU, decide_eq_true_eq, decide_eq_true_eq, decide_eq_true_eq, dx]
 constructor
 ·rintro ⟨k, hk, rfl⟩
  have := dw.1 hk
  omega
 ·rintro ⟨h3, h4⟩
  exact ⟨(z - lo).toNat, dw.2 (by omega), by omega⟩
theorem b1h {x y : Nt} (hx : Nt.Ok x) {z : Int} (hz : isN z) : nN (woF x y) z = (nN x z && !nN y z) := by
 obtain ⟨h1, h2⟩ := hz
 unfold nN woF
 by_cases h : z < 64
 ·rw [if_pos h, if_pos h, if_pos h, a6t _ _ _ hx.1 (by omega)]
 ·rw [if_neg h, if_neg h, if_neg h, a6t _ _ _ hx.2 (by omega)]
theorem a2B {x y : Nt} (hx : Nt.Ok x) (h : woF x y = (0, 0)) {z : Int} (hz : isN z) (hh : nN x z = true) : nN y z = true := by
 have := b1h (y := y) hx hz
 rw [h, a3X, hh] at this
 simpa using this.symm
theorem nU {o : Org} {ks : List Nt} (h : mH o ks = 0) : organE o = 0 ∧ ks.length = o.dvs.length ∧ ∀ j, j < o.dvs.length → woF (iB ks j) (zM (iB o.dvs j).lo (iB o.dvs j).hi) = (0, 0) := by
 unfold mH at h
 split at h
 ·rename_i hh; exact absurd h hh
 rename_i h1
 split at h
 ·omega
 rename_i h2
 split at h
 ·omega
 rename_i h3
 refine ⟨du.1 h1, by omega, fun j hj => ?_⟩
 by_cases hh : woF (iB ks j) (zM (iB o.dvs j).lo (iB o.dvs j).hi) = (0, 0)
 ·exact hh
 ·exact absurd ⟨j, hj, hh⟩ h3
theorem nX {o : Org} {ks : List Nt} (hok : ∀ x ∈ ks, Nt.Ok x) (h : mH o ks = 0) : ∀ c ∈ iE ks, mN o c = true := by
 obtain ⟨h1, h2, h3⟩ := nU h
 have hf := Org.aN h1
 intro c hc
 unfold iE at hc
 obtain ⟨i, hi, hc⟩ := dT.1 hc
 have hi := dw.1 hi
 unfold plD at hc
 obtain ⟨z, hz, rfl⟩ := dx.1 hc
 obtain ⟨hz1, hz2⟩ := a2n.1 hz
 have hky := hf.keys i (by omega)
 have hw := a2B (hok _ (iD hi)) (h3 i (by omega)) hz1 hz2
 rw [a2K hky.1 hky.2.2 hz1] at hw
 simp only [cU, decide_eq_true_eq] at hw
 unfold mN
 simp only [cU, decide_eq_true_eq, dG]
 omega
theorem pD {o : Org} {ks : List Nt} (h : mH o ks = 0) : (iE ks).length ≤ 1024 := by
 obtain ⟨h1, h2, _⟩ := nU h
 have h8 := (Org.aN h1).dlen
 have := a6Y ks ks.length
 unfold iE
 omega
structure SegsOk (m : Nat) (lo hi : Int) (gs : List Seg) : Prop where
 ord : ∀ i, i < gs.length → (iB gs i).lo ≤ (iB gs i).hi
 up : ∀ i, i < gs.length → 0 < i → (iB gs (i - 1)).hi < (iB gs i).lo
 within : ∀ i, i < gs.length → lo ≤ (iB gs i).lo ∧ (iB gs i).hi ≤ hi
 draws : ∀ i, i < gs.length → kU m (iB gs i).draws = 0
 len : gs.length ≤ 12
theorem zI {o : Org} (h : organE o = 0) {j : Nat} (hj : j < o.dvs.length) {s : Stp} (hs : s ∈ (iB o.dvs j).stops) : SegsOk o.ranks.length (iB o.dvs j).lo (iB o.dvs j).hi s.segs := by
 unfold organE at h
 split at h
 ·omega
 split at h
 ·omega
 split at h
 ·rename_i hh; exact absurd h hh
 split at h
 ·omega
 split at h
 ·omega
 split at h
 ·rename_i hh; exact absurd h hh
 rename_i h6
 have h6 := du.1 h6
 have e := pB h6 j hj
 unfold sI at e
 split at e
 ·omega
 split at e
 ·omega
 unfold divE at e
 split at e
 ·rename_i hh; exact absurd e hh
 split at e
 ·omega
 obtain ⟨k, hk, rfl⟩ := dO.1 hs
 have e2 := pB e k hk
 unfold oM at e2
 rw [jV _ k hk] at e2
 split at e2
 ·rename_i hh; exact absurd e2 hh
 rename_i e3
 have e3 := du.1 e3
 unfold stopE at e3
 split at e3
 ·rename_i hh; exact absurd e3 hh
 split at e3
 ·omega
 split at e3
 ·rename_i hh; exact absurd e3 hh
 split at e3
 ·omega
 split at e3
 ·omega
 have key : ∀ i, i < ((iB o.dvs j).stops[k]).segs.length → (iB ((iB o.dvs j).stops[k]).segs i).lo ≤ (iB ((iB o.dvs j).stops[k]).segs i).hi ∧ (0 < i → (iB ((iB o.dvs j).stops[k]).segs (i - 1)).hi < (iB ((iB o.dvs j).stops[k]).segs i).lo) ∧ ((iB o.dvs j).lo ≤ (iB ((iB o.dvs j).stops[k]).segs i).lo ∧ (iB ((iB o.dvs j).stops[k]).segs i).hi ≤ (iB o.dvs j).hi) ∧ kU o.ranks.length (iB ((iB o.dvs j).stops[k]).segs i).draws = 0 := by
  intro i hi
  have e4 := pB e3 i hi
  unfold kW at e4
  split at e4
  ·omega
  split at e4
  ·omega
  exact ⟨by omega, fun h0 => by omega, ⟨by omega, by omega⟩, e4⟩
 exact ⟨fun i hi => (key i hi).1, fun i hi => (key i hi).2.1, fun i hi => (key i hi).2.2.1, fun i hi => (key i hi).2.2.2, by omega⟩
theorem SegsOk.lt {m : Nat} {lo hi : Int} {gs : List Seg} (h : SegsOk m lo hi gs) {i : Nat} : ∀ k, i + 1 + k < gs.length → (iB gs i).hi < (iB gs (i + 1 + k)).lo
 | 0, hk => h.up (i + 1) hk (by omega)
 | k + 1, hk => by
   have h1 := h.lt (i := i) k (by omega)
   have h2 := h.ord (i + 1 + k) (by omega)
   have h3 := h.up (i + 1 + (k + 1)) hk (by omega)
   rw [show i + 1 + (k + 1) - 1 = i + 1 + k by omega] at h3
   omega
theorem SegsOk.one {m : Nat} {lo hi : Int} {gs : List Seg} (h : SegsOk m lo hi gs) {key : Int} {i j : Nat} (hi' : i < gs.length) (hj : j < gs.length) (h1 : (iB gs i).lo ≤ key ∧ key ≤ (iB gs i).hi) (h2 : (iB gs j).lo ≤ key ∧ key ≤ (iB gs j).hi) : i = j := by
 rcases Nat.lt_trichotomy i j with e | e | e
 ·have := h.lt (i := i) (j - i - 1) (by omega)
  rw [show i + 1 + (j - i - 1) = j by omega] at this
  omega
 ·exact e
 ·have := h.lt (i := j) (i - j - 1) (by omega)
  rw [show j + 1 + (i - j - 1) = i by omega] at this
  omega
theorem a7C {m : Nat} {lo hi : Int} {s : Stp} (h : SegsOk m lo hi s.segs) {key : Int} {d : Drw} : d ∈ a5t s key ↔ ∃ i, i < s.segs.length ∧ uQ s key i = true ∧ d ∈ (iB s.segs i).draws := by
 unfold a5t
 by_cases hf : oZ (uQ s key) s.segs.length < 0
 ·rw [if_pos hf]
  constructor
  ·intro hd; exact absurd hd dX
  ·rintro ⟨i, hi', hp, _⟩
   have := (yE (uQ s key) s.segs.length).2 ⟨i, hi', hp⟩
   omega
 ·rw [if_neg hf]
  obtain ⟨k, hk⟩ : ∃ k : Nat, oZ (uQ s key) s.segs.length = k := ⟨(oZ (uQ s key) s.segs.length).toNat, by omega⟩
  have hkl := a1o hk
  have hkp : uQ s key k = true := by
   unfold oZ at hk
   cases e : (List.range s.segs.length).find? (uQ s key) with
   | none => rw [e] at hk; simp only at hk; omega
   | some j =>
     rw [e] at hk
     have hk : (j : Int) = k := hk
     have := List.find?_some e
     rw [show k = j by omega]
     exact this
  rw [hk, dG]
  constructor
  ·intro hd; exact ⟨k, hkl, hkp, hd⟩
  ·rintro ⟨i, hi', hp, hd⟩
   unfold uQ at hp hkp
   rw [cU, decide_eq_true_eq, decide_eq_true_eq] at hp hkp
   rw [h.one hkl hi' hkp hp]
   exact hd
def rJ (o : Org) (g : Seg) (key : Int) : List Ct := if g.lo ≤ key ∧ key ≤ g.hi then (g.draws.filter fun d => qS o.ranks d key).map fun d => mJ o.ranks d key else []
def uE (o : Org) (r : Reg) (c : Ct) (i : Nat) : List Ct := if (iB r.stops c.1.toNat).testBit i then (iB (iB o.dvs c.1.toNat).stops i).segs.flatMap fun g => rJ o g c.2 else []
def pN (o : Org) (r : Reg) (c : Ct) : List Ct := (List.range (iB o.dvs c.1.toNat).stops.length).flatMap (uE o r c)
theorem vR {o : Org} (h : organE o = 0) {r : Reg} {c : Ct} (hc : mN o c = true) {p : Ct} : p ∈ pN o r c ↔ p ∈ nC o r c := by
 have hc' := (mE o c).1 hc
 unfold pN nC
 rw [dT, dT]
 refine exists_congr fun i => and_congr_right fun hi => ?_
 have hi := dw.1 hi
 unfold uE
 split
 ·have hso := zI h (j := c.1.toNat) (by omega) (iD hi)
  unfold pT
  rw [rK, dx, dT]
  constructor
  ·rintro ⟨g, hg, hp⟩
   unfold rJ at hp
   split at hp
   ·rename_i hk
    obtain ⟨d, hd, rfl⟩ := dx.1 hp
    obtain ⟨hd1, hd2⟩ := eh.1 hd
    obtain ⟨k, hk', rfl⟩ := dO.1 hg
    refine ⟨d, eh.2 ⟨(a7C hso).2 ⟨k, hk', ?_, by rw [jV _ k hk']; exact hd1⟩, hd2⟩, rfl⟩
    unfold uQ
    rw [jV _ k hk', decide_eq_true hk.1, decide_eq_true hk.2]
    rfl
   ·exact absurd hp dX
  ·rintro ⟨d, hd, rfl⟩
   obtain ⟨hd1, hd2⟩ := eh.1 hd
   obtain ⟨k, hk, hp, hd1⟩ := (a7C hso).1 hd1
   refine ⟨iB _ k, iD hk, ?_⟩
   unfold rJ
   unfold uQ at hp
   rw [cU, decide_eq_true_eq, decide_eq_true_eq] at hp
   rw [if_pos hp]
   exact dx.2 ⟨d, eh.2 ⟨hd1, hd2⟩, rfl⟩
 ·exact Iff.rfl
theorem b8M {o : Org} (h : organE o = 0) {r : Reg} {c : Ct} (hc : mN o c = true) : dd (pG (pN o r c)) = dd (pG (nC o r c)) := b0O fun _ => vR h hc
theorem b5o {o : Org} (h : organE o = 0) {r : Reg} {l : List Ct} (hl : ∀ c ∈ l, mN o c = true) : dd (pG (l.flatMap fun c => dd (pG (pN o r c)))) = wM o r l := by
 unfold wM
 refine b0O fun p => ?_
 rw [dT, dT]
 refine exists_congr fun c => and_congr_right fun hc => ?_
 rw [rK, vR h (hl c hc)]
def rZ (r : Reg) (q : List Ct) (c : Ct) : List Ct := if !r.off.testBit c.1.toNat && !decide (c ∈ q) then q ++ [c] else q
def b5C (o : Org) (r : Reg) (l : List Ct) : List Ct := pG (l.foldl (rZ r) (bfs o r.cpl 1100 0 (kL o r.cpl l)))
theorem a2t {r : Reg} : ∀ {l q : List Ct} {x : Ct}, x ∈ l.foldl (rZ r) q ↔ x ∈ q ∨ (x ∈ l ∧ r.off.testBit x.1.toNat = false)
 | [], q, x => by simp
 | c :: l, q, x => by
   rw [eR, a2t]
   unfold rZ
   by_cases h1 : r.off.testBit c.1.toNat = false
   ·by_cases h2 : c ∈ q
    ·rw [if_neg (by simp [h2])]
     constructor
     ·rintro (h | ⟨h, k⟩)
      ·exact .inl h
      ·exact .inr ⟨dP _ h, k⟩
     ·rintro (h | ⟨h, k⟩)
      ·exact .inl h
      ·rcases dU.1 h with e | e
       ·exact .inl (by rw [e]; exact h2)
       ·exact .inr ⟨e, k⟩
    ·rw [if_pos (by simp [h1, h2])]
     constructor
     ·rintro (h | ⟨h, k⟩)
      ·rcases dF.1 h with h | h
       ·exact .inl h
       ·have := dA.1 h
        subst this
        exact .inr ⟨dJ .., h1⟩
      ·exact .inr ⟨dP _ h, k⟩
     ·rintro (h | ⟨h, k⟩)
      ·exact .inl (dF.2 (.inl h))
      ·rcases dU.1 h with e | e
       ·exact .inl (dF.2 (.inr (by rw [e]; simp)))
       ·exact .inr ⟨e, k⟩
   ·rw [if_neg (by simp [h1])]
    constructor
    ·rintro (h | ⟨h, k⟩)
     ·exact .inl h
     ·exact .inr ⟨dP _ h, k⟩
    ·rintro (h | ⟨h, k⟩)
     ·exact .inl h
     ·rcases dU.1 h with e | e
      ·subst e; exact absurd k h1
      ·exact .inr ⟨e, k⟩
theorem wV {r : Reg} : ∀ {l q : List Ct}, q.Nodup → (l.foldl (rZ r) q).Nodup
 | [], _, h => h
 | c :: l, q, h => by
   rw [eR]
   refine wV ?_
   unfold rZ
   split
   ·rename_i hh
    simp only [cU, dC, decide_eq_false_iff_not] at hh
    rw [List.nodup_append]
    exact ⟨h, by simp, fun a ha b hb e => hh.2 (by simp at hb; rw [← hb, ← e]; exact ha)⟩
   ·exact h
theorem c2R {l : List Ct} (h : l.Nodup) : (pG l).Pairwise wI := by
 have h1 : (pG l).Nodup := (mS l).nodup_iff.2 h
 refine List.Pairwise.imp₂ ?_ (tC l) h1
 intro a b h2 h3
 rw [nM] at h2
 unfold wI
 by_cases e : a.1 = b.1
 ·by_cases e2 : a.2 = b.2
  ·exact absurd (gm e e2) h3
  ·omega
 ·omega
theorem a4K {o : Org} (cp : Nat) : ∀ (n i : Nat) (q : List Ct), Que o q → Que o (bfs o cp n i q)
 | 0, _, _, h => h
 | n + 1, i, q, h => by
   rw [bfs]
   split
   ·exact a4K cp n (i + 1) _ (h.stepF cp true _)
   ·exact h
theorem b7c (o : Org) (r : Reg) (l : List Ct) : b5C o r l = kG o r l := by
 unfold b5C kG
 refine vS _ _ (c2R (wV (a4K r.cpl 1100 0 _ (a2E o r.cpl l)).1)) (a4V _) fun x => ?_
 rw [rK, (mS _).mem_iff, a2t, dF, eh]
 constructor
 ·rintro (h | ⟨h, k⟩)
  ·exact .inr h
  ·exact .inl ⟨h, by simpa using k⟩
 ·rintro (⟨h, k⟩ | h)
  ·exact .inr ⟨h, by simpa using k⟩
  ·exact .inl h
def a2r (o : Org) (ks : List Nt) (i : Nat) : List Ct := ((List.range ((iB o.dvs i).hi - (iB o.dvs i).lo + 1).toNat).filter fun (j : Nat) => nN (iB ks i) ((iB o.dvs i).lo + (j : Int))).map fun (j : Nat) => ((i : Int), (iB o.dvs i).lo + (j : Int))
def a8J (o : Org) (ks : List Nt) : List Ct := (List.range o.dvs.length).flatMap (a2r o ks)
theorem xB {f : Nat → List Ct} (h1 : ∀ i, (f i).Pairwise wI) (h2 : ∀ i, ∀ c ∈ f i, c.1 = (i : Int)) : ∀ n, ((List.range n).flatMap f).Pairwise wI
 | 0 => .nil
 | n + 1 => by
   rw [dV, dD, dz, eo, di, eX]
   refine ⟨xB h1 h2 n, h1 n, fun a ha b hb => ?_⟩
   obtain ⟨i, hi, ha⟩ := dT.1 ha
   have hi := dw.1 hi
   unfold wI
   rw [h2 i a ha, h2 n b hb]
   omega
theorem b8p (o : Org) (ks : List Nt) (i : Nat) : (a2r o ks i).Pairwise wI := by
 unfold a2r
 rw [gx]
 refine List.Pairwise.imp ?_ (List.Pairwise.filter _ List.pairwise_lt_range)
 intro a b h
 unfold wI
 omega
theorem a7M (x : Nt) : (pK x).Pairwise (· < ·) := by
 unfold pK
 rw [eX, gx, gx]
 have h : ∀ n, (oU n).Pairwise (· < ·) := fun n => List.Pairwise.filter _ List.pairwise_lt_range
 refine ⟨(h _).imp (by intro a b h; omega), (h _).imp (by intro a b h; omega), fun a ha b hb => ?_⟩
 obtain ⟨i, hi, rfl⟩ := dx.1 ha
 obtain ⟨j, _, rfl⟩ := dx.1 hb
 have := (sB.1 hi).1
 omega
theorem c1T (ks : List Nt) (i : Nat) : (plD ks i).Pairwise wI := by
 unfold plD
 rw [gx]
 exact (a7M _).imp fun h => .inr ⟨rfl, h⟩
theorem b1F (ks : List Nt) : (iE ks).Pairwise wI := xB (c1T ks) (fun i c hc => by
 unfold plD at hc
 obtain ⟨z, _, rfl⟩ := dx.1 hc
 rfl) _
theorem b7V {o : Org} {ks : List Nt} (hok : ∀ x ∈ ks, Nt.Ok x) (h : mH o ks = 0) : a8J o ks = iE ks := by
 obtain ⟨h1, h2, h3⟩ := nU h
 have hf := Org.aN h1
 refine vS _ _ (xB (b8p o ks) (fun i c hc => by
  unfold a2r at hc
  obtain ⟨z, _, rfl⟩ := dx.1 hc
  rfl) _) (b1F ks) fun x => ?_
 constructor
 ·intro hx
  obtain ⟨i, hi, hx⟩ := dT.1 hx
  have hi := dw.1 hi
  have hk := hf.keys i hi
  unfold a2r at hx
  obtain ⟨z, hz, rfl⟩ := dx.1 hx
  obtain ⟨hz1, hz2⟩ := eh.1 hz
  have hz1 := dw.1 hz1
  unfold iE
  refine dT.2 ⟨i, dw.2 (by omega), ?_⟩
  unfold plD
  exact dx.2 ⟨_, a2n.2 ⟨⟨by omega, by omega⟩, hz2⟩, rfl⟩
 ·intro hx
  unfold iE at hx
  obtain ⟨i, hi, hx⟩ := dT.1 hx
  have hi := dw.1 hi
  have hk := hf.keys i (by omega)
  unfold plD at hx
  obtain ⟨z, hz, rfl⟩ := dx.1 hx
  obtain ⟨hz1, hz2⟩ := a2n.1 hz
  have hw := a2B (hok _ (iD hi)) (h3 i (by omega)) hz1 hz2
  rw [a2K hk.1 hk.2.2 hz1, cU, decide_eq_true_eq, decide_eq_true_eq] at hw
  unfold a8J
  refine dT.2 ⟨i, dw.2 (by omega), ?_⟩
  unfold a2r
  refine dx.2 ⟨(z - (iB o.dvs i).lo).toNat, eh.2 ⟨dw.2 (by omega), ?_⟩, ?_⟩
  ·rw [show (iB o.dvs i).lo + ((z - (iB o.dvs i).lo).toNat : Int) = z by omega]
   exact hz2
  ·rw [show (iB o.dvs i).lo + ((z - (iB o.dvs i).lo).toNat : Int) = z by omega]
end Go.Ds
namespace Go.Ds
open Go.Proofs Go.Proofs.Tryz
variable {H : Heap}
set_option maxRecDepth 10000
set_option maxHeartbeats 1000000
def b5j (o : Org) (l : List (Value × Reg)) (ks : List Nt) : Int := if rM o l ≠ 0 then rM o l else mH o ks
theorem b6J (o : Org) (ho : o.In H) (lv : Value) (xs : List (Value × Reg)) (hl : Sl 3 rgc H lv xs) (hle : xs.length < 1000000000) (hr : ∀ p ∈ xs, p.2.In H p.1) (kv : Value) (ks : List Nt) (hk : Ks H kv ks) :
 Fn prog 72 [.agg #[.string o.name, o.rv, o.dv, o.cv], lv, kv] H fun r H' => r = I (b5j o xs ks) ∧ St prog H H' [] := by
 refine .bd func72 rfl (by kernel_rfl) (m := 17) rfl fun l hn g0 g1 g2 => ?_
 simp (disch := omega) only [↓RA, RB, simprocAttr, g0]
 refine (sR H).eNew 4 [(.string o.name), o.rv, o.dv, o.cv] rfl rfl (by simp [OC, ((sR H).sl ho.1).cells.2.1, ((sR H).sl ho.2.2.1).cells.2.1, ((sR H).sl ho.2.2.2.2.1).cells.2.1]) lU fun A1 H1 hS1 => ?_
 simp only [RT] at hS1
 simp (disch := omega) only [↓RA, RZ, simprocAttr, hn, g1, hS1.ae 0 rfl]
 refine hS1.cF (a4p o (ho.ab hS1) lv xs (hS1.sl hl) hle (fun p hp => (hr p hp).ab hS1)) fun H2 hS2 => ?_
 simp (disch := omega) only [↓RA, RB, simprocAttr, hn]
 refine iA (fun h1 => ?_) (fun h1 => ?_)
 ·simp (disch := omega) only [↓RA, RZ, simprocAttr, hn, c3j, h1]
  exact ⟨by unfold b5j; rw [if_pos h1], hS2.forget⟩
 simp (disch := omega) only [↓RA, RZ, simprocAttr, hn, g2, hS2.ae 0 rfl, h1]
 refine hS2.cF (a7x o (ho.ab hS2) kv ks (hk.ab hS2)) fun H3 hS3 => ?_
 simp (disch := omega) only [↓RA, RZ, simprocAttr, hn, c3j, h1]
 exact ⟨by unfold b5j; rw [if_neg h1], hS3.forget⟩
def rkE (o : Org) (rg : Reg) (ks : List Nt) : Int := if mX o rg ≠ 0 then mX o rg else mH o ks
theorem a7H (o : Org) (sv : Value) (rg : Reg) (ks : List Nt) : b5j o [(sv, rg)] ks = rkE o rg ks := by
 unfold b5j rkE
 rw [a0N]
theorem uU {o : Org} {rg : Reg} {ks : List Nt} (h : rkE o rg ks = 0) : mX o rg = 0 ∧ mH o ks = 0 := by
 unfold rkE at h
 split at h
 ·rename_i hh; exact absurd h hh
 ·rename_i hh; exact ⟨du.1 hh, h⟩
def nS (o : Org) (rg : Reg) (ks : List Nt) : List Ct := if rkE o rg ks = 0 then jO o rg (iE ks) else []
theorem a0G (hG : Glob gH H) (o : Org) (ho : o.In H) (rg : Reg) (sv : Value) (hr : rg.In H sv) (kv : Value) (ks : List Nt) (hk : Ks H kv ks) :
 Fn prog 42 [.agg #[.string o.name, o.rv, o.dv, o.cv], .agg #[sv, .int .u64 rg.cpl, .int .u64 rg.off], kv] H fun r H' => ∃ pv, r = .tuple #[pv, I (rkE o rg ks)] ∧ Slx 2 jM H' (fun B => H.length ≤ B) pv (nS o rg ks) ∧ St prog H H' [] := by
 refine .bd func42 rfl (by kernel_rfl) (m := 22) rfl fun l hn g0 g1 g2 => ?_
 simp (disch := omega) only [↓RA, RB, simprocAttr, g0]
 refine (sR H).eNew 4 [(.string o.name), o.rv, o.dv, o.cv] rfl rfl (by simp [OC, ((sR H).sl ho.1).cells.2.1, ((sR H).sl ho.2.2.1).cells.2.1, ((sR H).sl ho.2.2.2.2.1).cells.2.1]) lU fun A1 H1 hS1 => ?_
 simp only [RT] at hS1
 simp (disch := omega) only [↓RA, RB, simprocAttr, g1]
 refine hS1.eNew 3 [sv, (.int .u64 rg.cpl), (.int .u64 rg.off)] rfl rfl (by simp [OC, (hS1.sl hr.1).cells.2.1]) oA fun A2 H2 hS2 => ?_
 simp only [RT] at hS2
 simp (disch := omega) only [↓RA, RZ, simprocAttr, hn, hS2.ae 0 rfl, hS2.ae 1 rfl]
 refine hS2.aj [sv, (.int .u64 rg.cpl), (.int .u64 rg.off)] b5S b3U rfl rfl (by first | (simp []; done) | simp [Value.cells]) (by first | (simp []; done) | simp [Value.cells]) (by simp [OC, (hS2.sl hr.1).cells.2.1]) (by decide) (by decide) fun w1 H3 hS3 => ?_
 simp only [RT] at hS3
 simp (disch := omega) only [↓RA, RZ, simprocAttr, hn, g2]
 refine hS3.cF (b6J o (ho.ab hS3) w1 [(sv, rg)] (hS3.aw 2 rfl (fun _ => rfl)) (by simp) (by intro p hp; rw [dA.1 hp]; exact hr.ab hS3) kv ks (hk.ab hS3)) fun H4 hS4 => ?_
 have hsc := a7H o sv rg ks
 simp (disch := omega) only [↓RA, RB, simprocAttr, hn, hsc]
 refine iA (fun h1 => ?_) (fun h1 => ?_)
 ·simp (disch := omega) only [↓RA, RZ, simprocAttr, hn, c5r, hsc, h1]
  exact ⟨.slice none 0 0, rfl, ⟨⟨.inl ⟨rfl, by rw [nS, if_neg h1]; rfl⟩, jQ, by decide⟩, fun b h => by simp [kI] at h⟩, hS4.forget⟩
 have h0 := du.1 h1
 obtain ⟨hz1, hk0⟩ := uU h0
 obtain ⟨hz3, hz4⟩ := mD hz1
 have hf := Org.aN hz3
 have h8 : ks.length ≤ 8 := by
  have := hf.dlen
  have := (nU hk0).2.1
  omega
 simp (disch := omega) only [↓RA, RC, simprocAttr, hsc, h1]
 refine Wp.aO kC [(0, 4), (1, 4)] (by kernel_rfl) (by kernel_rfl) ?_
 simp (disch := omega) only [↓RA, RZ, simprocAttr, hn, g2, hS4.ae 0 rfl, hS4.ae 1 rfl]
 refine iG ((a4o (hS4.gl hG) kv ks (hk.ab hS4) h8).tr) ?_
 rintro r H5 ⟨-, hT2⟩
 have hS5 := hS4.trans hT2
 simp only [RT] at hS5
 obtain ⟨pv, rfl⟩ : ∃ w, w = r := ⟨r, rfl⟩
 simp (disch := omega) only [↓RA, RZ, simprocAttr, hn]
 have hSd := hS5
 refine iG (rN o (ho.ab hS5) hf rg sv (hr.ab hS5) hz4 pv (iE ks) (hS5.aw 3 rfl jQ) (pD hk0) (nX hk.ok hk0)) ?_
 rintro r H6 ⟨hx, hT3⟩
 have hS6 := hS5.trans hT3
 simp only [RT] at hS6
 obtain ⟨qv, rfl⟩ : ∃ w, w = r := ⟨r, rfl⟩
 simp (disch := omega) only [↓RA, RZ, simprocAttr, hn, hS5.ae 0 rfl, hS5.ae 1 rfl, c5r, hx.1.bE]
 rw [h0]
 refine ⟨qv, rfl, ⟨?_, fun b h => ?_⟩, hS6.forget⟩
 ·rw [nS, if_pos h0]
  exact hx.1
 ·have := hx.2 b h
  have : H.length ≤ _ := hSd.len
  omega
end Go.Ds
namespace Go.Ds
open Go.Proofs
variable {H : Heap}
set_option maxRecDepth 10000
set_option maxHeartbeats 1000000
end Go.Ds
namespace Go.Ds
open Go.Proofs Go.Proofs.Tryz
variable {H : Heap}
set_option maxRecDepth 10000
set_option maxHeartbeats 1000000
def a1K (lo : Int) (w m : Nat) : List Int := ((List.range m).filter fun j => w.testBit j).map fun (j : Nat) => lo + (j : Int)
def vT (lo hi : Int) : Nat := min 16 (hi - lo + 1).toNat
def zD (o : Org) (b : Nat → Nat) (i : Nat) : Nt := jY (a1K (iB o.dvs i).lo (b (i % 3)) (vT (iB o.dvs i).lo (iB o.dvs i).hi))
def pP (o : Org) (b : Nat → Nat) : List Nt := (List.range o.dvs.length).map (zD o b)
theorem c0Y (a b : Nat) (h : a < 65536) : ((a : Nat) : Int).fdiv (2 ^ min b (IntKind.bits .u16)) = ((a >>> b : Nat) : Int) := by
 have e : IntKind.bits .u16 = 16 := rfl
 rw [e]
 have h1 : ((a : Nat) : Int).fdiv (2 ^ min b 16) = ((a / 2 ^ min b 16 : Nat) : Int) := by
  rw [gy _ (by exact Int.le_of_lt (Int.pow_pos (by decide)))]
  simp
 rw [h1, eJ]
 by_cases hb : b ≤ 16
 ·rw [fN hb]
 ·rw [Nat.min_eq_right (by omega)]
  have h2 : a / 2 ^ 16 = 0 := gE (by simpa using h)
  have h3 : a / 2 ^ b = 0 := gE (dI (by simpa using h) (fj (by decide) (show 16 ≤ b by omega)))
  rw [h2, h3]
theorem b7J (n : Nat) (h : n < 65536) : IntKind.wrap .u16 ((BitVec.ofInt (IntKind.bits .u16) (n : Int) &&& BitVec.ofInt (IntKind.bits .u16) 1).toNat : Int) = ((n % 2 : Nat) : Int) := by
 have e : (BitVec.ofInt (IntKind.bits .u16) (n : Int) &&& BitVec.ofInt (IntKind.bits .u16) 1).toNat = n % 2 := by
  show (BitVec.ofInt 16 (n : Int) &&& BitVec.ofInt 16 1).toNat = n % 2
  rw [gF]
  have h1 : (BitVec.ofInt 16 (n : Int)).toNat = n := by
   rw [fQ, BitVec.toNat_ofNat]
   exact gz (by simpa using h)
  have h2 : (BitVec.ofInt 16 1).toNat = 1 := rfl
  rw [h1, h2, Nat.and_one_is_mod]
 rw [e]
 have : n % 2 < 2 := eQ _ (by decide)
 have hh : n % 2 = 0 ∨ n % 2 = 1 := by omega
 rcases hh with h | h <;> rw [h] <;> rfl
theorem b4c {a : Nat} (b : Nat) (h : a < 65536) : a >>> b < 65536 := by
 rw [eJ]
 exact Nat.lt_of_le_of_lt (Nat.div_le_self _ _) h
theorem b1V (lo : Int) (w m : Nat) : a1K lo w (m + 1) = a1K lo w m ++ (if w.testBit m then [lo + (m : Int)] else []) := by
 unfold a1K
 rw [dV, eM, dR]
 congr 1
 cases h : w.testBit m <;> simp [h]
theorem b4o (lo : Int) (w m : Nat) : (a1K lo w m).length ≤ m := by
 unfold a1K
 rw [ec]
 exact dy (ed _ _) (by simp)
theorem b9y (lo hi : Int) : vT lo hi ≤ 16 := Nat.min_le_left _ _
theorem uK {o : Org} (hf : o.Fine) (w : Nat) {i : Nat} (hi : i < o.dvs.length) : ∀ z ∈ a1K (iB o.dvs i).lo w (vT (iB o.dvs i).lo (iB o.dvs i).hi), isN z ∧ (iB o.dvs i).lo ≤ z ∧ z ≤ (iB o.dvs i).hi := by
 intro z hz
 have hk := hf.keys i hi
 unfold a1K vT at hz
 obtain ⟨j, hj, rfl⟩ := dx.1 hz
 have hj := dw.1 (eh.1 hj).1
 exact ⟨⟨by omega, by omega⟩, by omega, by omega⟩
theorem a8E (o : Org) (ho : o.In H) (hf : o.Fine) (b : Nat → Nat) (hb : ∀ i, b i < 65536) :
 Fn prog 14 [.agg #[.string o.name, o.rv, o.dv, o.cv], .agg #[.int .u16 (b 0), .int .u16 (b 1), .int .u16 (b 2)]] H fun r H' =>
  St prog H H' [⟨r, 2, (pP o b).flatMap ntc⟩] := by
 have hd8 := hf.dlen
 refine .aH func14 rfl (by kernel_rfl) (m := 66) rfl fun l hn g0 g1 => ?_
 simp (disch := omega) only [↓RA, RB, simprocAttr, g0]
 refine (sR H).eNew 4 [(.string o.name), o.rv, o.dv, o.cv] rfl rfl (by simp [OC, ((sR H).sl ho.1).cells.2.1, ((sR H).sl ho.2.2.1).cells.2.1, ((sR H).sl ho.2.2.2.2.1).cells.2.1]) lU fun A1 H1 hS1 => ?_
 simp only [RT] at hS1
 simp (disch := omega) only [↓RA, RB, simprocAttr, g1]
 refine hS1.eNew 3 [(.int .u16 (b 0)), (.int .u16 (b 1)), (.int .u16 (b 2))] rfl rfl rfl c2W fun A2 H2 hS2 => ?_
 simp only [RT] at hS2
 simp (disch := omega) only [↓RA, RB, simprocAttr]
 have hS3 := hS2.nil 1
 simp only [RT] at hS3
 refine Wp.ak (fun n l H' => l.length = 66 ∧ get l 2 = (ptr A1 0 4) ∧ get l 3 = (ptr A2 0 3) ∧ get l 4 = (.slice none 0 0) ∧ ∃ (i : Nat) (kv : Value), (n + i = o.dvs.length) ∧ get l 6 = I i ∧ get l 5 = kv ∧ St prog H H' [⟨ptr A1 0 4, 0, [(.string o.name), o.rv, o.dv, o.cv]⟩, ⟨ptr A2 0 3, 0, [(.int .u16 (b 0)), (.int .u16 (b 1)), (.int .u16 (b 2))]⟩, ⟨kv, 2, ((List.range i).map (zD o b)).flatMap ntc⟩]) o.dvs.length ?_ ?_
 ·simp (disch := omega) only [RB, RC, simprocAttr, hn]
  exact ⟨0, .slice none 0 0, by omega, rfl, rfl, hS3⟩
 rintro n l H3 ⟨hn, g2, g3, g4, i, kv, hi, g6, g5, hS4⟩
 simp (disch := omega) only [↓RA, RZ, simprocAttr, hn, g2, g6, hS4.ld 0 rfl, (hS4.sl ho.2.2.1).len]
 refine iA (fun q => ?_) (fun q => ?_)
 ·have hk := hf.keys i (by omega)
  simp (disch := omega) only [↓RA, RZ, simprocAttr, hn, g2, g6, hS4.ld 0 rfl, (hS4.sl ho.2.2.1).idx, (hS4.sl ho.2.2.1).aZ, (hS4.sl ho.2.2.1).cG 2, Dvn.cells, q]
  refine hS4.eNew 2 [I 0, I 0] rfl rfl rfl a0W fun A3 H4 hS5 => ?_
  simp only [RT] at hS5
  simp (disch := omega) only [↓RA, RZ, simprocAttr, hn, q]
  refine hS5.aa 3 rfl [I (iB o.dvs i).lo, I (iB o.dvs i).hi] rfl rfl a0W (by simp) fun H5 hS6 => ?_
  simp only [RT] at hS6
  simp (disch := omega) only [↓RA, RZ, simprocAttr, hn, hS6.ld 3 rfl, q]
  have hS7 := hS6.nil 0
  simp only [RT] at hS7
  refine Wp.ak (fun n l H' => l.length = 66 ∧ get l 2 = (ptr A1 0 4) ∧ get l 3 = (ptr A2 0 3) ∧ get l 4 = (.slice none 0 0) ∧ get l 5 = kv ∧ get l 6 = I i ∧ get l 8 = (ptr A3 0 2) ∧ ∃ (m : Nat) (lv : Value), (n + m = vT (iB o.dvs i).lo (iB o.dvs i).hi) ∧ get l 9 = I ((iB o.dvs i).lo + m) ∧ get l 7 = lv ∧ St prog H H' [⟨ptr A1 0 4, 0, [(.string o.name), o.rv, o.dv, o.cv]⟩, ⟨ptr A2 0 3, 0, [(.int .u16 (b 0)), (.int .u16 (b 1)), (.int .u16 (b 2))]⟩, ⟨kv, 2, ((List.range i).map (zD o b)).flatMap ntc⟩, ⟨ptr A3 0 2, 0, [I (iB o.dvs i).lo, I (iB o.dvs i).hi]⟩, ⟨lv, 1, (a1K (iB o.dvs i).lo (b (i % 3)) m).flatMap (one I)⟩]) (vT (iB o.dvs i).lo (iB o.dvs i).hi) ?_ ?_
  ·simp (disch := omega) only [RB, RC, simprocAttr, hn, g2, g3, g4, g6, g5]
   exact ⟨0, .slice none 0 0, by omega, by simp, rfl, hS7⟩
  rintro n l H6 ⟨hn, g2, g3, g4, g5, g6, g8, m, lv, hm, g9, g7, hS8⟩
  simp (disch := omega) only [↓RA, RZ, simprocAttr, hn, g8, g9, hS8.ld 3 rfl]
  have hM := b9y (iB o.dvs i).lo (iB o.dvs i).hi
  have hi3 : (i : Int).tmod 3 = ((i % 3 : Nat) : Int) := (ek i 3).symm
  have hw : ([Value.int .u16 (b 0), .int .u16 (b 1), .int .u16 (b 2)] : List Value)[i % 3]? = some (.int .u16 (b (i % 3))) := by
   have : i % 3 = 0 ∨ i % 3 = 1 ∨ i % 3 = 2 := by omega
   rcases this with e | e | e <;> rw [e] <;> rfl
  have hsub : (iB o.dvs i).lo + (m : Int) - (iB o.dvs i).lo = (m : Int) := by omega
  have e1 := c0Y (b (i % 3)) m (hb _)
  have e2 := b7J (b (i % 3) >>> m) (b4c m (hb _))
  have e3 := tb (b (i % 3)) m
  have hsu := b1V (iB o.dvs i).lo (b (i % 3)) m
  have hpl := b4o (iB o.dvs i).lo (b (i % 3)) m
  refine jH (fun q1 => ?_) (fun q1 => ?_)
  ·simp (disch := omega) only [↓RA, RZ, simprocAttr, hn, g8, g9, hS8.ld 3 rfl, q1]
   refine iA (fun q2 => ?_) (fun q2 => ?_)
   ·skip
    simp (disch := omega) only [↓RA, RC, simprocAttr, q1, q2]
    refine Wp.drw kC (by kernel_rfl) ?_
    simp (disch := omega) only [↓RA, RZ, simprocAttr, hn, g3, g6, g8, g9, hS8.ld 1 rfl, hw, hS8.ld 3 rfl, hi3, hsub, e1, e2]
    refine iA (fun q3 => ?_) (fun q3 => ?_)
    ·rw [e3, decide_eq_true (by omega), if_pos rfl] at hsu
     simp (disch := omega) only [↓RA, RZ, simprocAttr, hn, g9, g7, q3]
     refine hS8.aj [I ((iB o.dvs i).lo + m)] yH a2q rfl rfl (by simp [Value.cells]) rfl rfl (by decide) (by decide) fun w1 H7 hS9 => ?_
     simp only [RT] at hS9
     simp (disch := omega) only [↓RA, RZ, simprocAttr, hn, q3]
     refine hS9.aq 4 rfl (hS9.rd 5 rfl) yH (by rw [iR (n := 1) (cel := one I) (fun _ => rfl)]; simp; omega) fun w2 H8 hS10 => ?_
     simp only [RT] at hS10
     simp (disch := omega) only [↓RA, RZ, simprocAttr, hn, g2, g3, g4, g5, g6, g8, g9, q3]
     refine ⟨n - 1, by unfold vT at hm; omega, m + 1, w2, by unfold vT at hm ⊢; omega, by simp; omega, rfl, ?_⟩
     rw [hsu, dD]
     exact hS10.pick [0, 1, 2, 3, 4] (by decide) rfl
    rw [e3, decide_eq_false (by omega), if_neg (by simp), di] at hsu
    simp (disch := omega) only [↓RA, RZ, simprocAttr, hn, g2, g3, g4, g5, g6, g8, g9, g7, q3]
    refine ⟨n - 1, by unfold vT at hm; omega, m + 1, lv, by unfold vT at hm ⊢; omega, by simp; omega, rfl, ?_⟩
    rw [hsu]
    exact hS8.pick [0, 1, 2, 3, 4] (by decide) rfl
   have hmM : m = vT (iB o.dvs i).lo (iB o.dvs i).hi := by unfold vT at hm hM ⊢; omega
   have hz := uK hf (b (i % 3)) (show i < o.dvs.length by omega)
   subst hmM
   simp (disch := omega) only [↓RA, RZ, simprocAttr, hn, g7, q1, q2]
   refine hS8.cF (wY (a1K (iB o.dvs i).lo (b (i % 3)) (vT (iB o.dvs i).lo (iB o.dvs i).hi)) (fun z h => (hz z h).1) lv (hS8.aw 4 rfl (sW _)) (by omega)) fun H9 hS11 => ?_
   simp (disch := omega) only [↓RA, RZ, simprocAttr, hn, q1, q2]
   refine hS11.eNew 2 [(.int .u64 0), (.int .u64 0)] rfl rfl rfl lK fun A4 H10 hS12 => ?_
   simp only [RT] at hS12
   simp (disch := omega) only [↓RA, RZ, simprocAttr, hn, q1, q2]
   refine hS12.aa 5 rfl [(.int .u64 (zD o b i).1), (.int .u64 (zD o b i).2)] rfl rfl lK (by simp) fun H11 hS13 => ?_
   simp only [RT] at hS13
   simp (disch := omega) only [↓RA, RZ, simprocAttr, hn, g5, hS13.ae 5 rfl, q1, q2]
   refine hS13.aj [(.int .u64 (zD o b i).1), (.int .u64 (zD o b i).2)] b2X b8a rfl rfl (by simp [Value.cells]) rfl rfl (by decide) (by decide) fun w3 H12 hS14 => ?_
   simp only [RT] at hS14
   simp (disch := omega) only [↓RA, RZ, simprocAttr, hn, q1, q2]
   refine hS14.aq 2 rfl (hS14.rd 6 rfl) b2X (by rw [iR (n := 2) (cel := ntc) (fun _ => rfl)]; simp; omega) fun w4 H13 hS15 => ?_
   simp only [RT] at hS15
   simp (disch := omega) only [↓RA, RZ, simprocAttr, hn, g2, g3, g4, g6, q1, q2]
   refine ⟨o.dvs.length - (i + 1), by omega, i + 1, w4, by omega, by simp, rfl, ?_⟩
   rw [dV, dR, dD]
   exact hS15.pick [0, 1, 2] (by decide) rfl
  have hmM : m = vT (iB o.dvs i).lo (iB o.dvs i).hi := by unfold vT at hm hM ⊢; omega
  have hz := uK hf (b (i % 3)) (show i < o.dvs.length by omega)
  subst hmM
  simp (disch := omega) only [↓RA, RZ, simprocAttr, hn, g7, q1]
  refine hS8.cF (wY (a1K (iB o.dvs i).lo (b (i % 3)) (vT (iB o.dvs i).lo (iB o.dvs i).hi)) (fun z h => (hz z h).1) lv (hS8.aw 4 rfl (sW _)) (by omega)) fun H14 hS16 => ?_
  simp (disch := omega) only [↓RA, RZ, simprocAttr, hn, q1]
  refine hS16.eNew 2 [(.int .u64 0), (.int .u64 0)] rfl rfl rfl lK fun A5 H15 hS17 => ?_
  simp only [RT] at hS17
  simp (disch := omega) only [↓RA, RZ, simprocAttr, hn, q1]
  refine hS17.aa 5 rfl [(.int .u64 (zD o b i).1), (.int .u64 (zD o b i).2)] rfl rfl lK (by simp) fun H16 hS18 => ?_
  simp only [RT] at hS18
  simp (disch := omega) only [↓RA, RZ, simprocAttr, hn, g5, hS18.ae 5 rfl, q1]
  refine hS18.aj [(.int .u64 (zD o b i).1), (.int .u64 (zD o b i).2)] b2X b8a rfl rfl (by simp [Value.cells]) rfl rfl (by decide) (by decide) fun w5 H17 hS19 => ?_
  simp only [RT] at hS19
  simp (disch := omega) only [↓RA, RZ, simprocAttr, hn, q1]
  refine hS19.aq 2 rfl (hS19.rd 6 rfl) b2X (by rw [iR (n := 2) (cel := ntc) (fun _ => rfl)]; simp; omega) fun w6 H18 hS20 => ?_
  simp only [RT] at hS20
  simp (disch := omega) only [↓RA, RZ, simprocAttr, hn, g2, g3, g4, g6, q1]
  refine ⟨o.dvs.length - (i + 1), by omega, i + 1, w6, by omega, by simp, rfl, ?_⟩
  rw [dV, dR, dD]
  exact hS20.pick [0, 1, 2] (by decide) rfl
 simp (disch := omega) only [↓RA, RZ, simprocAttr, hn, g5, c6i, q]
 have hii : i = o.dvs.length := by omega
 subst hii
 exact hS4.pick [2] (by decide) rfl
theorem sM (o : Org) (b : Nat → Nat) : (pP o b).length = o.dvs.length := by simp [pP]
theorem a5n {o : Org} {b : Nat → Nat} {i : Nat} (hi : i < o.dvs.length) : iB (pP o b) i = zD o b i := by
 rw [jV _ i (by rw [sM]; exact hi)]
 simp [pP]
theorem b1A {o : Org} (hf : o.Fine) (b : Nat → Nat) {i : Nat} (hi : i < o.dvs.length) : Nt.Ok (zD o b i) := vP _ _ (fun z h => (uK hf (b (i % 3)) hi z h).1) ⟨by decide, by decide⟩
theorem a7D {o : Org} (hf : o.Fine) (b : Nat → Nat) : ∀ x ∈ pP o b, Nt.Ok x := by
 intro x hx
 obtain ⟨i, hi, rfl⟩ := dx.1 hx
 exact b1A hf b (dw.1 hi)
theorem b5u {x y : Nt} (hx : Nt.Ok x) (h : ∀ z, isN z → nN x z = true → nN y z = true) : woF x y = (0, 0) := by
 have k : ∀ z, isN z → nN (woF x y) z = false := fun z hz => by
  rw [b1h hx hz]
  cases e : nN x z with
  | false => rfl
  | true => rw [h z hz e]; rfl
 have big : ∀ a : Nat, a < 18446744073709551616 → ∀ j, 64 ≤ j → a.testBit j = false := fun a ha j hj =>
  Nat.testBit_lt_two_pow (dI (show a < 2 ^ 64 from ha) (fj (by decide) hj))
 obtain ⟨h1, h2⟩ := c0W x y
 apply gm
 ·apply fS
  intro j
  rw [ic]
  by_cases hj : 64 ≤ j
  ·exact big _ h1 j hj
  ·have := k (j : Int) ⟨by omega, by omega⟩
   unfold nN at this
   rw [if_pos (by omega)] at this
   exact this
 ·apply fS
  intro j
  rw [ic]
  by_cases hj : 64 ≤ j
  ·exact big _ h2 j hj
  ·have := k (64 + j : Int) ⟨by omega, by omega⟩
   unfold nN at this
   rw [if_neg (by omega), show (64 + (j : Int) - 64).toNat = j by omega] at this
   exact this
theorem a9f {o : Org} (h0 : organE o = 0) (b : Nat → Nat) : mH o (pP o b) = 0 := by
 have hf := Org.aN h0
 unfold mH
 rw [if_neg (by rw [h0]; simp), if_neg (by rw [sM]; simp), if_neg]
 rintro ⟨j, hj, hne⟩
 apply hne
 have hk := hf.keys j hj
 rw [a5n hj]
 refine b5u (b1A hf b hj) fun z hz hh => ?_
 rw [zD, a1C (fun n hn => (uK hf (b (j % 3)) hj n hn).1) hz] at hh
 have := uK hf (b (j % 3)) hj z (of_decide_eq_true hh)
 rw [a2K hk.1 hk.2.2 hz, decide_eq_true this.2.1, decide_eq_true this.2.2]
 rfl
end Go.Ds
namespace Go.Ds
open Go.Proofs
set_option maxRecDepth 10000
theorem Star.mono {α : Type} {R R' : α → α → Prop} (h : ∀ a b, R a b → R' a b) {a b : α} (hs : Star R a b) : Star R' a b := by
 induction hs with
 | refl => exact .refl _
 | tail _ h2 ih => exact .tail ih (h _ _ h2)
end Go.Ds
namespace Go.Ds
open Go.Proofs Go.Proofs.Tryz Go.Shelf Go.RowKit Go.Lib Go.Sort
def sm (x : Int × Int) : Prop := -1000000000 ≤ x.1 ∧ x.1 ≤ 1000000000 ∧ -1000000000 ≤ x.2 ∧ x.2 ≤ 1000000000
abbrev Sm := {x : Int × Int // sm x}
instance : Inhabited Sm := ⟨⟨(0, 0), by unfold sm; decide⟩⟩
def cfd (x y : Sm) : Int := if x.1.1 ≠ y.1.1 then x.1.1 - y.1.1 else x.1.2 - y.1.2
theorem ltd (x y : Sm) : ltOf cfd x y = decide (x.1.1 < y.1.1 ∨ (x.1.1 = y.1.1 ∧ x.1.2 < y.1.2)) := by
 unfold ltOf cfd
 congr 1
 apply propext
 split <;> omega
theorem c4X : SWO (ltOf cfd) where
 irrefl x := by rw [ltd]; simp
 trans x y z h1 h2 := by rw [ltd] at *; simp at *; omega
 ntrans x y z h1 h2 := by rw [ltd] at *; simp at *; omega
theorem c5f (x y : Sm) (h1 : ltOf cfd x y = false) (h2 : ltOf cfd y x = false) : x = y := by
 rw [ltd] at *
 simp at h1 h2
 apply Subtype.ext
 apply gm <;> omega
theorem c2X (x y : Sm) : (!(ltOf cfd) y x) = le2 x.1 y.1 := by
 rw [ltd, ← a8Z]
 simp only [lt2]
theorem b3Y (l : Array Sm) : flatK (fun x : Sm => jM x.1) 2 l = flatK jM 2 (l.map (·.1)) := by
 unfold flatK
 rw [Array.size_map]
 congr 1
 funext t
 congr 2
 by_cases h : t / 2 < l.size
 ·simp [h]
 ·simp [h]
  rfl
theorem b4t (w : World) (kI off n : Nat) (l : List Sm) (os : Array Obj) : sortWorldK (fun x : Sm => jM x.1) 2 w kI off n l.toArray os = sortWorldK jM 2 w kI off n (l.map (·.1)).toArray os := by
 unfold sortWorldK putRowK
 rw [b3Y, List.map_toArray]
theorem b9d (l : List (Int × Int)) (h : ∀ x ∈ l, sm x) : (l.attachWith sm h).map (·.1) = l := by
 rw [List.map_attachWith]
 exact List.attach_map_subtype_val l
theorem b4B (l : List Sm) : (l.mergeSort fun x y => !(ltOf cfd) y x).map (·.1) = (l.map (·.1)).mergeSort le2 :=
 List.map_mergeSort fun x _ y _ => c2X x y
theorem c3Q (kc : FuncId) (eg : ∀ args w, (callFunc kc args).run prog w = .ok (.enter kc args) w) (hf : ∀ x y : Sm, Fn prog kc [.agg #[I x.1.1, I x.1.2], .agg #[I y.1.1, I y.1.2]] .nil fun r H' => r = I (cfd x y) ∧ St prog (.nil : Heap) H' []) : a0u prog 46 kc sm :=
 fun kI off cap d w hs hH hblk hsz => by
  have hd : (d.toList.attachWith sm hs).toArray.map (·.1) = d := by
   rw [List.map_toArray, b9d]
  have hl : (d.toList.attachWith sm hs).toArray.size = d.size := by simp
  have hH' : HoldsK (fun x : Sm => jM x.1) 2 w kI off (d.toList.attachWith sm hs).toArray := by
   unfold HoldsK at hH ⊢
   rw [b3Y, hd]
   exact hH
  have h := AnyQ.slices_SortFunc_total Tryz.bC 2 Tryz.isAgg55 Tryz.sizeOf55 (fun x : Sm => jM x.1) (fun _ => rfl) (fun x => xV x.1) cfd c4X kc #[] kI off cap (d.toList.attachWith sm hs).toArray w eg (a2e (fun x : Sm => x.1) cfd hf kI off _ w) hH' hblk (by rw [hl]; exact hsz) c5f
  rw [hl] at h
  refine h.mono ?_
  rintro e w' ⟨h1, n, os, h2⟩
  exact ⟨h1, n, os, by rw [h2, b4t, List.toList_toArray, b4B, b9d]⟩
def b1q (K kc : FuncId) : Prop := ∀ {H : Heap} {B : Base} {os : List Ob} (hS : St prog B H os) (i : Nat) {v : Value} {es : List (Int × Int)} (ho : os[i]? = some ⟨v, 2, pr es⟩) (hl : es.length < 100000000000) (hsm : ∀ x ∈ es, sm x) {Q : Value → Heap → Prop}
    (h : ∀ H1, St prog B H1 (os.set i ⟨v, 2, pr (pG es)⟩) → Q (.tuple #[]) H1), uJ prog K [v, .func (.func kc) #[] #[]] H Q
section
variable {H : Heap}
theorem b7y (x y : Sm) : Fn prog 47 [.agg #[I x.1.1, I x.1.2], .agg #[I y.1.1, I y.1.2]] H fun r H' => r = I (cfd x y) ∧ St prog H H' [] := by
 obtain ⟨⟨x1, x2⟩, hx⟩ := x
 obtain ⟨⟨y1, y2⟩, hy⟩ := y
 unfold sm at hx hy
 simp only at hx hy ⊢
 refine .aH func47 rfl (by kernel_rfl) (m := 20) rfl fun l hn g0 g1 => ?_
 simp (disch := omega) only [↓RA, RB, simprocAttr, g0]
 refine (sR H).eNew 2 [I x1, I x2] rfl rfl rfl pL fun A1 H1 hS1 => ?_
 simp only [RT] at hS1
 simp (disch := omega) only [↓RA, RB, simprocAttr, g1]
 refine hS1.eNew 2 [I y1, I y2] rfl rfl rfl pL fun A2 H2 hS2 => ?_
 simp only [RT] at hS2
 simp (disch := omega) only [↓RA, RZ, simprocAttr, hn, hS2.ld 0 rfl, hS2.ld 1 rfl]
 refine iA (fun q => ?_) (fun q => ?_)
 ·simp (disch := omega) only [↓RA, RZ, simprocAttr, hn, hS2.ld 0 rfl, hS2.ld 1 rfl, c3M, q]
  exact ⟨by unfold cfd; rw [if_pos q], hS2.forget⟩
 simp (disch := omega) only [↓RA, RZ, simprocAttr, hn, hS2.ld 0 rfl, hS2.ld 1 rfl, c3M, q]
 exact ⟨by unfold cfd; rw [if_neg q], hS2.forget⟩
end
theorem c0E : b1q 46 47 := fun hS i _ _ ho hl hsm _ h => uM (c3Q 47 (enters_of func47 (by kernel_rfl) rfl) fun x y => b7y x y) c1y c0X hS i ho hl hsm h
end Go.Ds
namespace Go.Ds
open Go.Proofs Go.Proofs.Tryz
variable {H : Heap}
set_option maxRecDepth 10000
set_option maxHeartbeats 1000000
theorem c4u (o : Org) (ho : o.In H) (d z : Int) : Fn prog 55 [.agg #[.string o.name, o.rv, o.dv, o.cv], .agg #[I d, I z]] H fun r H' => r = .bool (mN o (d, z)) ∧ St prog H H' [] := by
 have hl := ho.2.2.2.2.2.2.1
 by_cases hd : 0 ≤ d
 ·obtain ⟨j, rfl⟩ := fG hd
  refine .aH func55 rfl (by kernel_rfl) (m := 42) rfl fun l hn g0 g1 => ?_
  simp (disch := omega) only [↓RA, RB, simprocAttr, g0]
  refine (sR H).eNew 4 [(.string o.name), o.rv, o.dv, o.cv] rfl rfl (by simp [OC, ((sR H).sl ho.1).cells.2.1, ((sR H).sl ho.2.2.1).cells.2.1, ((sR H).sl ho.2.2.2.2.1).cells.2.1]) lU fun A1 H1 hS1 => ?_
  simp only [RT] at hS1
  simp (disch := omega) only [↓RA, RB, simprocAttr, g1]
  refine hS1.eNew 2 [I j, I z] rfl rfl rfl lQ fun A2 H2 hS2 => ?_
  simp only [RT] at hS2
  simp (disch := omega) only [↓RA, RB, simprocAttr]
  refine Wp.drw kC (by kernel_rfl) ?_
  simp (disch := omega) only [↓RA, RZ, simprocAttr, hn, hS2.ld 1 rfl]
  refine jH (fun g1 => ?_) (fun g1 => ?_)
  rotate_left
  ·exfalso; first | omega | (simp at g1; omega)
  simp (disch := omega) only [↓RA, RZ, simprocAttr, hn, hS2.ld 1 rfl, hS2.ld 0 rfl, (hS2.sl ho.2.2.1).len, g1]
  refine jH (fun g2 => ?_) (fun g2 => ?_)
  ·simp (disch := omega) only [↓RA, RZ, simprocAttr, hn, hS2.ld 1 rfl, hS2.ld 0 rfl, (hS2.sl ho.2.2.1).idx, (hS2.sl ho.2.2.1).aZ, (hS2.sl ho.2.2.1).ld, Dvn.cells, g1, g2]
   refine jH (fun g3 => ?_) (fun g3 => ?_)
   ·simp (disch := omega) only [↓RA, RZ, simprocAttr, hn, hS2.ld 1 rfl, hS2.ld 0 rfl, (hS2.sl ho.2.2.1).idx, (hS2.sl ho.2.2.1).aZ, (hS2.sl ho.2.2.1).ld, Dvn.cells, b9e, g1, g2, g3]
    exact ⟨by unfold mN; simp only [dG]; congr 1; simp; omega, hS2.forget⟩
   simp (disch := omega) only [↓RA, RZ, simprocAttr, hn, b9e, g1, g2, g3]
   exact ⟨by congr 1; symm; rw [← eG, mE]; simp only [dG]; omega, hS2.forget⟩
  simp (disch := omega) only [↓RA, RZ, simprocAttr, hn, b9e, g1, g2]
  exact ⟨by congr 1; symm; rw [← eG, mE]; simp only [dG]; omega, hS2.forget⟩
 ·refine .aH func55 rfl (by kernel_rfl) (m := 42) rfl fun l hn g0 g1 => ?_
  simp (disch := omega) only [↓RA, RB, simprocAttr, g0]
  refine (sR H).eNew 4 [(.string o.name), o.rv, o.dv, o.cv] rfl rfl (by simp [OC, ((sR H).sl ho.1).cells.2.1, ((sR H).sl ho.2.2.1).cells.2.1, ((sR H).sl ho.2.2.2.2.1).cells.2.1]) lU fun A1 H1 hS1 => ?_
  simp only [RT] at hS1
  simp (disch := omega) only [↓RA, RB, simprocAttr, g1]
  refine hS1.eNew 2 [I d, I z] rfl rfl rfl lQ fun A2 H2 hS2 => ?_
  simp only [RT] at hS2
  simp (disch := omega) only [↓RA, RB, simprocAttr]
  refine Wp.drw kC (by kernel_rfl) ?_
  simp (disch := omega) only [↓RA, RZ, simprocAttr, hn, hS2.ld 1 rfl]
  refine jH (fun g1 => ?_) (fun g1 => ?_)
  ·exfalso; first | omega | (simp at g1; omega)
  simp (disch := omega) only [↓RA, RZ, simprocAttr, hn, b9e, g1]
  exact ⟨by congr 1; symm; rw [← eG, mE]; simp only; omega, hS2.forget⟩
theorem b1y (o : Org) (ho : o.In H) (c : Ct) : Fn prog 55 [.agg #[.string o.name, o.rv, o.dv, o.cv], .agg #[I c.1, I c.2]] H fun r H' => r = .bool (mN o c) ∧ St prog H H' [] := c4u o ho c.1 c.2
def a7K (o : Org) (ks : List Nt) (i n : Nat) : List Ct := ((List.range n).filter fun (j : Nat) => nN (iB ks i) ((iB o.dvs i).lo + (j : Int))).map fun (j : Nat) => ((i : Int), (iB o.dvs i).lo + (j : Int))
theorem b2E (o : Org) (ks : List Nt) (i n : Nat) : a7K o ks i (n + 1) = a7K o ks i n ++ (if nN (iB ks i) ((iB o.dvs i).lo + (n : Int)) then [((i : Int), (iB o.dvs i).lo + (n : Int))] else []) := by
 unfold a7K
 rw [dV, eM, dR]
 congr 1
 cases h : nN (iB ks i) ((iB o.dvs i).lo + (n : Int)) <;> simp [h]
theorem b0T (o : Org) (ks : List Nt) (i n : Nat) : (a7K o ks i n).length ≤ n := by
 unfold a7K
 rw [ec]
 exact dy (ed _ _) (by simp)
theorem a8c {o : Org} (hf : o.Fine) (ks : List Nt) : ∀ i, i ≤ o.dvs.length → ((List.range i).flatMap (a2r o ks)).length ≤ i * 128
 | 0, _ => by simp
 | i + 1, h => by
   have h1 := a8c hf ks i (by omega)
   have h2 := b0T o ks i ((iB o.dvs i).hi - (iB o.dvs i).lo + 1).toNat
   have hk := hf.keys i (by omega)
   have h3 : (a2r o ks i).length ≤ 128 := dy h2 (by omega)
   rw [dV, dD, dj, dz, eo, di]
   omega
theorem a7F (o : Org) (ho : o.In H) (hf : o.Fine) (kv : Value) (ks : List Nt) (hk : Ks H kv ks) (hl : ks.length = o.dvs.length) :
 Fn prog 75 [.agg #[.string o.name, o.rv, o.dv, o.cv], kv] H fun r H' => St prog H H' [⟨r, 2, pr (a8J o ks)⟩] := by
 have hd8 := hf.dlen
 refine .aH func75 rfl (by kernel_rfl) (m := 55) rfl fun l hn g0 g1 => ?_
 simp (disch := omega) only [↓RA, RB, simprocAttr, g0]
 refine (sR H).eNew 4 [(.string o.name), o.rv, o.dv, o.cv] rfl rfl (by simp [OC, ((sR H).sl ho.1).cells.2.1, ((sR H).sl ho.2.2.1).cells.2.1, ((sR H).sl ho.2.2.2.2.1).cells.2.1]) lU fun A1 H1 hS1 => ?_
 simp only [RT] at hS1
 simp (disch := omega) only [↓RA, RZ, simprocAttr, hn, hS1.ld 0 rfl, (hS1.sl ho.2.2.1).len]
 have hS2 := hS1.nil 1
 simp only [RT] at hS2
 refine Wp.ak (fun n l H' => l.length = 55 ∧ get l 1 = kv ∧ get l 4 = (.slice none 0 0) ∧ get l 11 = o.dv ∧ get l 12 = I o.dvs.length ∧ ∃ (i : Nat) (ov : Value), (n + i = o.dvs.length) ∧ get l 13 = I i ∧ get l 5 = ov ∧ St prog H H' [⟨ptr A1 0 4, 0, [(.string o.name), o.rv, o.dv, o.cv]⟩, ⟨ov, 2, pr ((List.range i).flatMap (a2r o ks))⟩]) o.dvs.length ?_ ?_
 ·simp (disch := omega) only [RB, RC, simprocAttr, hn, g1]
  exact ⟨0, .slice none 0 0, by omega, rfl, rfl, hS2⟩
 rintro n l H2 ⟨hn, g1, g4, g11, g12, i, ov, hi, g13, g5, hS3⟩
 simp (disch := omega) only [↓RA, RB, simprocAttr, hn, g12, g13]
 refine iA (fun q => ?_) (fun q => ?_)
 ·have hky := hf.keys i (by omega)
  have hx := hk.ok _ (iD (xs := ks) (j := i) (by omega))
  have hpl := a8c hf ks i (by omega)
  simp (disch := omega) only [↓RA, RZ, simprocAttr, hn, g11, g13, (hS3.sl ho.2.2.1).idx, (hS3.sl ho.2.2.1).ae, Dvn.cells, q]
  refine hS3.eNew 5 [(.string ⟨#[]⟩), (.bool false), I 0, I 0, (.slice none 0 0)] rfl rfl rfl yO fun A2 H3 hS4 => ?_
  simp only [RT] at hS4
  simp (disch := omega) only [↓RA, RZ, simprocAttr, hn, q]
  refine hS4.aa 2 rfl [(.string (iB o.dvs i).name), (.bool (iB o.dvs i).pedal), I (iB o.dvs i).lo, I (iB o.dvs i).hi, (iB o.dvs i).sv] rfl (by simp [OC, (hS4.sl (ho.2.2.2.1 (iB o.dvs i) (iD (by omega))).1).cells.2.1]) yO (by simp) fun H4 hS5 => ?_
  simp only [RT] at hS5
  simp (disch := omega) only [↓RA, RZ, simprocAttr, hn, hS5.ld 2 rfl, q]
  refine Wp.ak (fun n l H' => l.length = 55 ∧ get l 1 = kv ∧ get l 4 = (.slice none 0 0) ∧ get l 6 = I i ∧ get l 7 = (ptr A2 0 5) ∧ get l 11 = o.dv ∧ get l 12 = I o.dvs.length ∧ get l 13 = I i ∧ ∃ (j : Nat) (ow : Value), (n + j = ((iB o.dvs i).hi - (iB o.dvs i).lo + 1).toNat) ∧ get l 8 = I ((iB o.dvs i).lo + j) ∧ get l 5 = ow ∧ St prog H H' [⟨ptr A1 0 4, 0, [(.string o.name), o.rv, o.dv, o.cv]⟩, ⟨ow, 2, pr ((List.range i).flatMap (a2r o ks) ++ a7K o ks i j)⟩, ⟨ptr A2 0 5, 0, [(.string (iB o.dvs i).name), (.bool (iB o.dvs i).pedal), I (iB o.dvs i).lo, I (iB o.dvs i).hi, (iB o.dvs i).sv]⟩]) ((iB o.dvs i).hi - (iB o.dvs i).lo + 1).toNat ?_ ?_
  ·simp (disch := omega) only [RB, RC, simprocAttr, hn, g1, g4, g11, g12, g13, g5]
   refine ⟨0, ov, by omega, by simp, rfl, ?_⟩
   rw [show a7K o ks i 0 = [] from rfl, di]
   exact hS5
  rintro n l H5 ⟨hn, g1, g4, g6, g7, g11, g12, g13, j, ow, hj, g8, g5, hS6⟩
  simp (disch := omega) only [↓RA, RZ, simprocAttr, hn, g7, g8, hS6.ld 2 rfl]
  refine iA (fun q2 => ?_) (fun q2 => ?_)
  ·have hsu := b2E o ks i j
   have hpj := b0T o ks i j
   obtain ⟨m, hm⟩ : ∃ m : Nat, (iB o.dvs i).lo + (j : Int) = m := ⟨((iB o.dvs i).lo + (j : Int)).toNat, by omega⟩
   rw [hm] at hsu
   simp (disch := omega) only [↓RA, RZ, simprocAttr, hn, g1, g6, g8, (hS6.sl hk.sl).idx, (hS6.sl hk.sl).aZ, (hS6.sl hk.sl).ld, ntc, hm]
   refine iA (fun q3 => ?_) (fun q3 => ?_)
   ·have e0 : (m : Int).tmod 64 = ((m - 64 : Nat) : Int) := by rw [show (m : Int).tmod 64 = ((m % 64 : Nat) : Int) from (ek m 64).symm]; omega
    have e1 := a0x (iB ks i).2 (m - 64) hx.2
    have e2 := xX ((iB ks i).2 >>> (m - 64)) (sT _ hx.2)
    have e3 := tb (iB ks i).2 (m - 64)
    have e4 : nN (iB ks i) (m : Int) = (iB ks i).2.testBit (m - 64) := by unfold nN; rw [if_neg (by omega), show ((m : Int) - 64).toNat = m - 64 by omega]
    simp (disch := omega) only [↓RA, RZ, simprocAttr, hn, g1, g6, g8, (hS6.sl hk.sl).idx, (hS6.sl hk.sl).aZ, (hS6.sl hk.sl).ld, ntc, hm, q3, e0, e1, e2]
    refine iA (fun q4 => ?_) (fun q4 => ?_)
    ·rw [e4, e3, decide_eq_true (by omega), if_pos rfl] at hsu
     simp (disch := omega) only [↓RA, RZ, simprocAttr, hn, g6, g8, g5, qT, hm, q3, q4]
     refine hS6.aj [I i, I m] qE a2i rfl rfl (by simp [Value.cells]) rfl rfl (by decide) (by decide) fun w1 H6 hS7 => ?_
     simp only [RT] at hS7
     simp (disch := omega) only [↓RA, RZ, simprocAttr, hn, hm, q3, q4]
     refine hS7.aq 1 rfl (hS7.rd 3 rfl) qE (by rw [iI, dj]; simp only [dY, eK]; omega) fun w2 H7 hS8 => ?_
     simp only [RT] at hS8
     simp (disch := omega) only [↓RA, RZ, simprocAttr, hn, g1, g4, g6, g7, g11, g12, g13, g8, hm, q3, q4]
     refine ⟨n - 1, by omega, j + 1, w2, by omega, by simp; omega, rfl, ?_⟩
     rw [hsu, ← ee, jI]
     exact hS8.pick [0, 1, 2] (by decide) rfl
    rw [e4, e3, decide_eq_false (by omega), if_neg (by simp), di] at hsu
    simp (disch := omega) only [↓RA, RZ, simprocAttr, hn, g1, g4, g6, g7, g11, g12, g13, g8, g5, hm, q3, q4]
    refine ⟨n - 1, by omega, j + 1, ow, by omega, by simp; omega, rfl, ?_⟩
    rw [hsu]
    exact hS6.pick [0, 1, 2] (by decide) rfl
   have e0 : (m : Int).tmod 64 = ((m : Nat) : Int) := by rw [show (m : Int).tmod 64 = ((m % 64 : Nat) : Int) from (ek m 64).symm]; omega
   have e1 := a0x (iB ks i).1 m hx.1
   have e2 := xX ((iB ks i).1 >>> m) (sT _ hx.1)
   have e3 := tb (iB ks i).1 m
   have e4 : nN (iB ks i) (m : Int) = (iB ks i).1.testBit m := by unfold nN; rw [if_pos (by omega)]; rfl
   simp (disch := omega) only [↓RA, RZ, simprocAttr, hn, g8, hm, q3, e0, e1, e2]
   refine iA (fun q4 => ?_) (fun q4 => ?_)
   ·rw [e4, e3, decide_eq_true (by omega), if_pos rfl] at hsu
    simp (disch := omega) only [↓RA, RZ, simprocAttr, hn, g6, g8, g5, qT, hm, q3, q4]
    refine hS6.aj [I i, I m] qE a2i rfl rfl (by simp [Value.cells]) rfl rfl (by decide) (by decide) fun w3 H8 hS9 => ?_
    simp only [RT] at hS9
    simp (disch := omega) only [↓RA, RZ, simprocAttr, hn, hm, q3, q4]
    refine hS9.aq 1 rfl (hS9.rd 3 rfl) qE (by rw [iI, dj]; simp only [dY, eK]; omega) fun w4 H9 hS10 => ?_
    simp only [RT] at hS10
    simp (disch := omega) only [↓RA, RZ, simprocAttr, hn, g1, g4, g6, g7, g11, g12, g13, g8, hm, q3, q4]
    refine ⟨n - 1, by omega, j + 1, w4, by omega, by simp; omega, rfl, ?_⟩
    rw [hsu, ← ee, jI]
    exact hS10.pick [0, 1, 2] (by decide) rfl
   rw [e4, e3, decide_eq_false (by omega), if_neg (by simp), di] at hsu
   simp (disch := omega) only [↓RA, RZ, simprocAttr, hn, g1, g4, g6, g7, g11, g12, g13, g8, g5, hm, q3, q4]
   refine ⟨n - 1, by omega, j + 1, ow, by omega, by simp; omega, rfl, ?_⟩
   rw [hsu]
   exact hS6.pick [0, 1, 2] (by decide) rfl
  simp (disch := omega) only [↓RA, RZ, simprocAttr, hn, g1, g4, g11, g12, g13, g5, q2]
  refine ⟨o.dvs.length - (i + 1), by omega, i + 1, ow, by omega, by simp, rfl, ?_⟩
  have hjj : j = ((iB o.dvs i).hi - (iB o.dvs i).lo + 1).toNat := by omega
  rw [dV, dD, dz, eo, di]
  rw [show a2r o ks i = a7K o ks i j from by rw [hjj]; rfl]
  exact hS6.pick [0, 1] (by decide) rfl
 simp (disch := omega) only [↓RA, RZ, simprocAttr, hn, g5, c6d, q]
 have hii : i = o.dvs.length := by omega
 subst hii
 exact hS3.pick [1] (by decide) rfl
end Go.Ds
namespace Go.Ds
open Go.Proofs Go.Proofs.Tryz Go.Shelf Go.RowKit Go.Lib Go.Sort
theorem c1k (kc : FuncId) (eg : ∀ args w, (callFunc kc args).run prog w = .ok (.enter kc args) w) (hf : ∀ x y : Sm, Fn prog kc [.agg #[I x.1.1, I x.1.2], .agg #[I y.1.1, I y.1.2]] .nil fun r H' => r = I (cfd x y) ∧ St prog (.nil : Heap) H' []) : a0u prog 78 kc sm :=
 fun kI off cap d w hs hH hblk hsz => by
  have hd : (d.toList.attachWith sm hs).toArray.map (·.1) = d := by
   rw [List.map_toArray, b9d]
  have hl : (d.toList.attachWith sm hs).toArray.size = d.size := by simp
  have hH' : HoldsK (fun x : Sm => jM x.1) 2 w kI off (d.toList.attachWith sm hs).toArray := by
   unfold HoldsK at hH ⊢
   rw [b3Y, hd]
   exact hH
  have h := AnyQ.slices_SortFunc_total Tryz.bl 2 Tryz.isAgg64 Tryz.sizeOf64 (fun x : Sm => jM x.1) (fun _ => rfl) (fun x => xV x.1) cfd c4X kc #[] kI off cap (d.toList.attachWith sm hs).toArray w eg (a2e (fun x : Sm => x.1) cfd hf kI off _ w) hH' hblk (by rw [hl]; exact hsz) c5f
  rw [hl] at h
  refine h.mono ?_
  rintro e w' ⟨h1, n, os, h2⟩
  exact ⟨h1, n, os, by rw [h2, b4t, List.toList_toArray, b4B, b9d]⟩
section
variable {H : Heap}
theorem b8A (x y : Sm) : Fn prog 79 [.agg #[I x.1.1, I x.1.2], .agg #[I y.1.1, I y.1.2]] H fun r H' => r = I (cfd x y) ∧ St prog H H' [] := by
 obtain ⟨⟨x1, x2⟩, hx⟩ := x
 obtain ⟨⟨y1, y2⟩, hy⟩ := y
 unfold sm at hx hy
 simp only at hx hy ⊢
 refine .aH func79 rfl (by kernel_rfl) (m := 20) rfl fun l hn g0 g1 => ?_
 simp (disch := omega) only [↓RA, RB, simprocAttr, g0]
 refine (sR H).eNew 2 [I x1, I x2] rfl rfl rfl lQ fun A1 H1 hS1 => ?_
 simp only [RT] at hS1
 simp (disch := omega) only [↓RA, RB, simprocAttr, g1]
 refine hS1.eNew 2 [I y1, I y2] rfl rfl rfl lQ fun A2 H2 hS2 => ?_
 simp only [RT] at hS2
 simp (disch := omega) only [↓RA, RZ, simprocAttr, hn, hS2.ld 0 rfl, hS2.ld 1 rfl]
 refine iA (fun q => ?_) (fun q => ?_)
 ·simp (disch := omega) only [↓RA, RZ, simprocAttr, hn, hS2.ld 0 rfl, hS2.ld 1 rfl, c3V, q]
  exact ⟨by unfold cfd; rw [if_pos q], hS2.forget⟩
 simp (disch := omega) only [↓RA, RZ, simprocAttr, hn, hS2.ld 0 rfl, hS2.ld 1 rfl, c3V, q]
 exact ⟨by unfold cfd; rw [if_neg q], hS2.forget⟩
end
theorem c4C : b1q 78 79 := fun hS i _ _ ho hl hsm _ h => uM (c1k 79 (enters_of func79 (by kernel_rfl) rfl) fun x y => b8A x y) c0e c0h hS i ho hl hsm h
end Go.Ds
namespace Go.Ds
open Go.Proofs Go.Proofs.Tryz
variable {H : Heap}
set_option maxRecDepth 10000
set_option maxHeartbeats 1000000
theorem Ct.cP (a b : Ct) : (a.1 = b.1 ∧ a.2 = b.2) ↔ b = a := ⟨fun h => gm h.1.symm h.2.symm, fun h => by rw [h]; exact ⟨rfl, rfl⟩⟩
theorem a8W (v : Value) (xs : List Ct) (hv : Sl 2 jM H v xs) (hl : xs.length < 1000000000) (d : Ct) :
 Fn prog 106 [v, .agg #[I d.1, I d.2]] H fun r H' => r = I (oZ (fun j => decide (iB xs j = d)) xs.length) ∧ St prog H H' [] := by
 refine .aH func106 rfl (by kernel_rfl) (m := 19) rfl fun l hn g0 g1 => ?_
 simp (disch := omega) only [↓RA, RB, simprocAttr, g1]
 refine (sR H).eNew 2 [I d.1, I d.2] rfl rfl rfl lQ fun A1 H1 hS1 => ?_
 simp only [RT] at hS1
 simp (disch := omega) only [↓RA, RZ, simprocAttr, hn, g0, (hS1.sl hv).len]
 refine Wp.ak (fun n l H' => l.length = 19 ∧ get l 0 = v ∧ get l 3 = (ptr A1 0 2) ∧ get l 7 = I xs.length ∧ ∃ (j : Nat), (n + j = xs.length ∧ ∀ q, q < j → decide (iB xs q = d) = false) ∧ get l 8 = I j ∧ St prog H H' [⟨ptr A1 0 2, 0, [I d.1, I d.2]⟩]) xs.length ?_ ?_
 ·simp (disch := omega) only [RB, RC, simprocAttr, hn, g0]
  exact ⟨0, ⟨by omega, fun q hq => absurd hq (dL _)⟩, rfl, hS1⟩
 rintro n l H2 ⟨hn, g0, g3, g7, j, ⟨hi,h0⟩, g8, hS2⟩
 simp (disch := omega) only [↓RA, RB, simprocAttr, hn, g7, g8]
 refine iA (fun h => ?_) (fun h => ?_)
 ·simp (disch := omega) only [↓RA, RZ, simprocAttr, hn, g8, h]
  refine Wp.drw kC (by kernel_rfl) ?_
  simp (disch := omega) only [↓RA, RZ, simprocAttr, hn, g0, g3, hS2.ae 0 rfl, (hS2.sl hv).idx, (hS2.sl hv).ae, jM]
  refine iA (fun hp => ?_) (fun hp => ?_)
  ·simp (disch := omega) only [↓RA, RZ, simprocAttr, hn, b9X, hp]
   exact ⟨by rw [yU _ xs.length j (by omega) (by simpa using (Ct.cP _ _).1 hp) h0], hS2.forget⟩
  simp (disch := omega) only [↓RA, RZ, simprocAttr, hn, g0, g3, g7, g8, hp]
  exact ⟨n - 1, by omega, j + 1, ⟨by omega, fun q hq => by rcases dr.1 hq with e | e; (· exact h0 q e); (· rw [e]; simpa using fun hh => hp ((Ct.cP _ _).2 hh))⟩, by simp, hS2⟩
 simp (disch := omega) only [↓RA, RZ, simprocAttr, hn, b9X, h]
 exact ⟨by rw [xN _ xs.length fun q hq => h0 q (by omega)], hS2.forget⟩
theorem a1Y (v : Value) (xs : List Ct) (hv : Sl 2 jM H v xs) (hl : xs.length < 1000000000) (d : Ct) :
 Fn prog 77 [v, .agg #[I d.1, I d.2]] H fun r H' => r = .bool (decide (d ∈ xs)) ∧ St prog H H' [] := by
 have e : decide (0 ≤ oZ (fun j => decide (iB xs j = d)) xs.length) = decide (d ∈ xs) := by
  rw [ez, decide_eq_true_iff, decide_eq_true_iff, yE]
  constructor
  ·rintro ⟨j, hj, hp⟩
   rw [← of_decide_eq_true hp]; exact iD hj
  ·intro hx
   obtain ⟨j, hj, rfl⟩ := dO.1 hx
   exact ⟨j, hj, by rw [jV xs j hj]; simp⟩
 refine .aH func77 rfl (by kernel_rfl) (m := 9) rfl fun l hn g0 g1 => ?_
 simp (disch := omega) only [↓RA, RB, simprocAttr, g1]
 refine (sR H).eNew 2 [I d.1, I d.2] rfl rfl rfl lQ fun A1 H1 hS1 => ?_
 simp only [RT] at hS1
 simp (disch := omega) only [↓RA, RZ, simprocAttr, hn, g0, hS1.ae 0 rfl]
 refine hS1.cF (a8W v xs (hS1.sl hv) hl d) fun H2 hS2 => ?_
 simp (disch := omega) only [↓RA, RB, simprocAttr, hn, c6L]
 rw [← e]
 first | exact hS2.forget | exact ⟨rfl, hS2.forget⟩
theorem a5X {B : Base} (o : Org) (r : Reg) (sv : Value) (c : Ct) (thr : Bool) (AO AR AQ : Nat) (qv : Value) (q : List Ct)
 (hS : St prog B H [⟨ptr AQ 0 1, 0, [qv]⟩, ⟨qv, 2, pr q⟩])
 (hO : ∀ {H1 : Heap} {os : List Ob}, St prog B H1 os → Var H1 AO 4 [.string o.name, o.rv, o.dv, o.cv] ∧ o.In H1 ∧ Var H1 AR 3 [sv, .int .u64 r.cpl, .int .u64 r.off])
 (hq : Que o q) (ho : o.Fine) (hr : r.Ok) :
 Fn prog 105 [.agg #[I c.1, I c.2], .bool thr, ptr AO 0 4, ptr AR 0 3, ptr AQ 0 1] H fun rr H' => ∃ qv', rr = .tuple #[] ∧
  St prog B H' [⟨ptr AQ 0 1, 0, [qv']⟩, ⟨qv', 2, pr (stepF o r.cpl thr c q)⟩] := by
 have hcl := ho.clen
 refine .cQ func105 rfl (by kernel_rfl) (m := 64) rfl fun l hn g0 g1 g2 g3 g4 => ?_
 simp (disch := omega) only [↓RA, RB, simprocAttr, g0]
 refine hS.eNew 2 [I c.1, I c.2] rfl rfl rfl lQ fun A1 H1 hS1 => ?_
 simp only [RT] at hS1
 simp (disch := omega) only [↓RA, RZ, simprocAttr, hn, g2, ((hO hS1).1).ld, ((hO hS1).2.1.2.2.2.2.1).len]
 refine Wp.ak (fun n l H' => l.length = 64 ∧ get l 1 = (.bool thr) ∧ get l 2 = (ptr AO 0 4) ∧ get l 3 = (ptr AR 0 3) ∧ get l 4 = (ptr AQ 0 1) ∧ get l 5 = (ptr A1 0 2) ∧ get l 11 = o.cv ∧ get l 12 = I o.cpls.length ∧ ∃ (i : Nat) (qv' : Value), (n + i = o.cpls.length) ∧ get l 13 = I i ∧ St prog B H' [⟨ptr AQ 0 1, 0, [qv']⟩, ⟨qv', 2, pr (stepN o r.cpl thr c q i)⟩, ⟨ptr A1 0 2, 0, [I c.1, I c.2]⟩]) o.cpls.length ?_ ?_
 ·simp (disch := omega) only [RB, RC, simprocAttr, hn, g1, g2, g3, g4]
  exact ⟨0, qv, by omega, rfl, hS1⟩
 rintro n l H2 ⟨hn, g1, g2, g3, g4, g5, g11, g12, i, qv', hi, g13, hS2⟩
 simp (disch := omega) only [↓RA, RB, simprocAttr, hn, g12, g13]
 refine iA (fun q1 => ?_) (fun q1 => ?_)
 ·have hql : (stepN o r.cpl thr c q i).length ≤ 1024 := (hq.stepN r.cpl thr c i).len ho
  have e1 := a0x r.cpl i hr.2.2.1
  have e2 := xX (r.cpl >>> i) (sT i hr.2.2.1)
  have e3 := tb r.cpl i
  have hstay : (sL r.cpl thr c (iB o.cpls i) i && mN o (to1 (iB o.cpls i) c) && !decide (to1 (iB o.cpls i) c ∈ stepN o r.cpl thr c q i)) = false → stepN o r.cpl thr c q (i + 1) = stepN o r.cpl thr c q i := fun h => by
   rw [lT, step1, if_neg (by rw [h]; simp)]
  simp (disch := omega) only [↓RA, RZ, simprocAttr, hn, g11, g13, ((hO hS2).2.1.2.2.2.2.1).idx, ((hO hS2).2.1.2.2.2.2.1).ae, Cpl.cells, q1]
  refine hS2.eNew 5 [(.string ⟨#[]⟩), I 0, I 0, I 0, (.bool false)] rfl rfl rfl tK fun A2 H3 hS3 => ?_
  simp only [RT] at hS3
  simp (disch := omega) only [↓RA, RZ, simprocAttr, hn, q1]
  refine hS3.aa 3 rfl [(.string (iB o.cpls i).name), I (iB o.cpls i).src, I (iB o.cpls i).dst, I (iB o.cpls i).shift, (.bool (iB o.cpls i).thr)] rfl rfl tK (by simp) fun H4 hS4 => ?_
  simp only [RT] at hS4
  simp (disch := omega) only [↓RA, RZ, simprocAttr, hn, g5, hS4.ld 3 rfl, hS4.ld 2 rfl, q1]
  simp (disch := omega) only [↓RA, RZ, simprocAttr, qT]
  refine hS4.eNew 2 [I 0, I 0] rfl rfl rfl lQ fun A3 H5 hS5 => ?_
  simp only [RT] at hS5
  simp (disch := omega) only [↓RA, RZ, simprocAttr, hn, q1]
  refine hS5.aa 4 rfl [I (iB o.cpls i).dst, I (oB (c.2 + (iB o.cpls i).shift))] rfl rfl lQ (by simp) fun H6 hS6 => ?_
  simp only [RT] at hS6
  simp (disch := omega) only [↓RA, RZ, simprocAttr, hn, g3, ((hO hS6).2.2).ld, q1, e1, e2]
  refine jH (fun b1 => ?_) (fun b1 => ?_)
  ·have hb : r.cpl.testBit i = true := by rw [e3]; exact decide_eq_true (by omega)
   simp (disch := omega) only [↓RA, RZ, simprocAttr, hn, g5, hS6.ld 3 rfl, hS6.ld 2 rfl, q1, b1]
   refine jH (fun b2 => ?_) (fun b2 => ?_)
   ·have hsrc : (iB o.cpls i).src = c.1 := by omega
    have hgg : sL r.cpl thr c (iB o.cpls i) i = (!thr || (iB o.cpls i).thr) := by unfold sL; rw [hb, decide_eq_true hsrc]; rfl
    simp (disch := omega) only [↓RA, RZ, simprocAttr, hn, hS6.ld 3 rfl, q1, b1, b2]
    refine qM (fun b3 => ?_) (fun b3 => ?_)
    ·have hg : sL r.cpl thr c (iB o.cpls i) i = true := by rw [hgg, b3]; simp
     simp (disch := omega) only [↓RA, RZ, simprocAttr, hn, g2, ((hO hS6).1).ae, hS6.ae 4 rfl, q1, b1, b2, b3]
     refine hS6.cF (b1y o (hO hS6).2.1 ((iB o.cpls i).dst, oB (c.2 + (iB o.cpls i).shift))) fun H7 hS7 => ?_
     simp (disch := omega) only [↓RA, RZ, simprocAttr, hn, q1, b1, b2, b3]
     refine qM (fun b5 => ?_) (fun b5 => ?_)
     ·simp (disch := omega) only [↓RA, RZ, simprocAttr, hn, g4, hS7.ld 0 rfl, hS7.ae 4 rfl, q1, b1, b2, b3, b5]
      refine hS7.cF (a1Y qv' (stepN o r.cpl thr c q i) (hS7.aw 1 rfl (fun _ => rfl)) (by omega) ((iB o.cpls i).dst, oB (c.2 + (iB o.cpls i).shift))) fun H8 hS8 => ?_
      simp (disch := omega) only [↓RA, RZ, simprocAttr, hn, q1, b1, b2, b3, b5]
      refine jL (fun b6 => ?_) (fun b6 => ?_)
      ·have hs : stepN o r.cpl thr c q (i + 1) = stepN o r.cpl thr c q i ++ [((iB o.cpls i).dst, oB (c.2 + (iB o.cpls i).shift))] := by
        rw [lT]
        unfold step1
        have hnot : ((iB o.cpls i).dst, oB (c.2 + (iB o.cpls i).shift)) ∉ stepN o r.cpl thr c q i := by simpa using b6
        rw [if_pos (by rw [hg]; simp only [to1, b5]; simp [hnot])]
        rfl
       simp (disch := omega) only [↓RA, RZ, simprocAttr, hn, g4, hS8.ld 0 rfl, hS8.ae 4 rfl, q1, b1, b2, b3, b5, b6]
       refine hS8.aj [I (iB o.cpls i).dst, I (oB (c.2 + (iB o.cpls i).shift))] qE a2i rfl rfl (by simp [Value.cells]) rfl rfl (by decide) (by decide) fun w1 H9 hS9 => ?_
       simp only [RT] at hS9
       simp (disch := omega) only [↓RA, RZ, simprocAttr, hn, q1, b1, b2, b3, b5, b6]
       refine hS9.aq 1 rfl (hS9.rd 5 rfl) qE (by rw [iI]; simp; omega) fun w2 H10 hS10 => ?_
       simp only [RT] at hS10
       simp (disch := omega) only [↓RA, RZ, simprocAttr, hn, g4, q1, b1, b2, b3, b5, b6]
       refine hS10.aa 0 rfl [w2] (by rw [(hS10.rd 1 rfl).cells.1]) (by simp [(hS10.rd 1 rfl).cells.2.1]) a8u (by simp) fun H11 hS11 => ?_
       simp only [RT] at hS11
       simp (disch := omega) only [↓RA, RZ, simprocAttr, hn, g1, g2, g3, g4, g5, g11, g12, g13, q1, b1, b2, b3, b5, b6]
       refine ⟨n - 1, by omega, i + 1, w2, by omega, by simp, ?_⟩
       rw [hs, jI]
       exact hS11.pick [0, 1, 2] (by decide) rfl
      have hin : ((iB o.cpls i).dst, oB (c.2 + (iB o.cpls i).shift)) ∈ stepN o r.cpl thr c q i := by simpa using b6
      have hs := hstay (by simp only [to1]; simp [hin])
      simp (disch := omega) only [↓RA, RZ, simprocAttr, hn, g1, g2, g3, g4, g5, g11, g12, g13, q1, b1, b2, b3, b5, b6]
      exact ⟨n - 1, by omega, i + 1, qv', by omega, by simp, by rw [hs]; exact hS8.pick [0, 1, 2] (by decide) rfl⟩
     have hs := hstay (by rw [eI, eI]; exact .inl (.inr (by simpa [to1] using b5)))
     simp (disch := omega) only [↓RA, RZ, simprocAttr, hn, g1, g2, g3, g4, g5, g11, g12, g13, q1, b1, b2, b3, b5]
     exact ⟨n - 1, by omega, i + 1, qv', by omega, by simp, by rw [hs]; exact hS7.pick [0, 1, 2] (by decide) rfl⟩
    simp (disch := omega) only [↓RA, RZ, simprocAttr, hn, g1, q1, b1, b2, b3]
    refine qM (fun b4 => ?_) (fun b4 => ?_)
    ·have hg : sL r.cpl thr c (iB o.cpls i) i = true := by
      have : thr = false := by simpa using b4
      rw [hgg, this]; rfl
     simp (disch := omega) only [↓RA, RZ, simprocAttr, hn, g2, ((hO hS6).1).ae, hS6.ae 4 rfl, q1, b1, b2, b3, b4]
     refine hS6.cF (b1y o (hO hS6).2.1 ((iB o.cpls i).dst, oB (c.2 + (iB o.cpls i).shift))) fun H12 hS12 => ?_
     simp (disch := omega) only [↓RA, RZ, simprocAttr, hn, q1, b1, b2, b3, b4]
     refine qM (fun b5 => ?_) (fun b5 => ?_)
     ·simp (disch := omega) only [↓RA, RZ, simprocAttr, hn, g4, hS12.ld 0 rfl, hS12.ae 4 rfl, q1, b1, b2, b3, b4, b5]
      refine hS12.cF (a1Y qv' (stepN o r.cpl thr c q i) (hS12.aw 1 rfl (fun _ => rfl)) (by omega) ((iB o.cpls i).dst, oB (c.2 + (iB o.cpls i).shift))) fun H13 hS13 => ?_
      simp (disch := omega) only [↓RA, RZ, simprocAttr, hn, q1, b1, b2, b3, b4, b5]
      refine jL (fun b6 => ?_) (fun b6 => ?_)
      ·have hs : stepN o r.cpl thr c q (i + 1) = stepN o r.cpl thr c q i ++ [((iB o.cpls i).dst, oB (c.2 + (iB o.cpls i).shift))] := by
        rw [lT]
        unfold step1
        have hnot : ((iB o.cpls i).dst, oB (c.2 + (iB o.cpls i).shift)) ∉ stepN o r.cpl thr c q i := by simpa using b6
        rw [if_pos (by rw [hg]; simp only [to1, b5]; simp [hnot])]
        rfl
       simp (disch := omega) only [↓RA, RZ, simprocAttr, hn, g4, hS13.ld 0 rfl, hS13.ae 4 rfl, q1, b1, b2, b3, b4, b5, b6]
       refine hS13.aj [I (iB o.cpls i).dst, I (oB (c.2 + (iB o.cpls i).shift))] qE a2i rfl rfl (by simp [Value.cells]) rfl rfl (by decide) (by decide) fun w3 H14 hS14 => ?_
       simp only [RT] at hS14
       simp (disch := omega) only [↓RA, RZ, simprocAttr, hn, q1, b1, b2, b3, b4, b5, b6]
       refine hS14.aq 1 rfl (hS14.rd 5 rfl) qE (by rw [iI]; simp; omega) fun w4 H15 hS15 => ?_
       simp only [RT] at hS15
       simp (disch := omega) only [↓RA, RZ, simprocAttr, hn, g4, q1, b1, b2, b3, b4, b5, b6]
       refine hS15.aa 0 rfl [w4] (by rw [(hS15.rd 1 rfl).cells.1]) (by simp [(hS15.rd 1 rfl).cells.2.1]) a8u (by simp) fun H16 hS16 => ?_
       simp only [RT] at hS16
       simp (disch := omega) only [↓RA, RZ, simprocAttr, hn, g1, g2, g3, g4, g5, g11, g12, g13, q1, b1, b2, b3, b4, b5, b6]
       refine ⟨n - 1, by omega, i + 1, w4, by omega, by simp, ?_⟩
       rw [hs, jI]
       exact hS16.pick [0, 1, 2] (by decide) rfl
      have hin : ((iB o.cpls i).dst, oB (c.2 + (iB o.cpls i).shift)) ∈ stepN o r.cpl thr c q i := by simpa using b6
      have hs := hstay (by simp only [to1]; simp [hin])
      simp (disch := omega) only [↓RA, RZ, simprocAttr, hn, g1, g2, g3, g4, g5, g11, g12, g13, q1, b1, b2, b3, b4, b5, b6]
      exact ⟨n - 1, by omega, i + 1, qv', by omega, by simp, by rw [hs]; exact hS13.pick [0, 1, 2] (by decide) rfl⟩
     have hs := hstay (by rw [eI, eI]; exact .inl (.inr (by simpa [to1] using b5)))
     simp (disch := omega) only [↓RA, RZ, simprocAttr, hn, g1, g2, g3, g4, g5, g11, g12, g13, q1, b1, b2, b3, b4, b5]
     exact ⟨n - 1, by omega, i + 1, qv', by omega, by simp, by rw [hs]; exact hS12.pick [0, 1, 2] (by decide) rfl⟩
    have h4 : thr = true := by simpa using b4
    have h3 : (iB o.cpls i).thr = false := by simpa using b3
    have hs := hstay (by rw [hgg, h4, h3]; rfl)
    simp (disch := omega) only [↓RA, RZ, simprocAttr, hn, g1, g2, g3, g4, g5, g11, g12, g13, q1, b1, b2, b3, b4]
    exact ⟨n - 1, by omega, i + 1, qv', by omega, by simp, by rw [hs]; exact hS6.pick [0, 1, 2] (by decide) rfl⟩
   have hs := hstay (by unfold sL; rw [decide_eq_false (by omega)]; simp)
   simp (disch := omega) only [↓RA, RZ, simprocAttr, hn, g1, g2, g3, g4, g5, g11, g12, g13, q1, b1, b2]
   exact ⟨n - 1, by omega, i + 1, qv', by omega, by simp, by rw [hs]; exact hS6.pick [0, 1, 2] (by decide) rfl⟩
  have hs := hstay (by unfold sL; rw [e3, decide_eq_false (by omega)]; rfl)
  simp (disch := omega) only [↓RA, RZ, simprocAttr, hn, g1, g2, g3, g4, g5, g11, g12, g13, q1, b1]
  exact ⟨n - 1, by omega, i + 1, qv', by omega, by simp, by rw [hs]; exact hS6.pick [0, 1, 2] (by decide) rfl⟩
 simp (disch := omega) only [↓RA, RZ, simprocAttr, c4i, q1]
 have hii : i = o.cpls.length := by omega
 subst hii
 exact ⟨qv', hS2.pick [0, 1] (by decide) rfl⟩
theorem a4F (o : Org) (ho : o.In H) (hf : o.Fine) (r : Reg) (sv : Value) (hr : r.In H sv) (fv : Value) (first : List Ct) (hfi : Sl 2 jM H fv first) (hfl : first.length ≤ 1024) :
 Fn prog 76 [.agg #[.string o.name, o.rv, o.dv, o.cv], .agg #[sv, .int .u64 r.cpl, .int .u64 r.off], fv] H fun rr H' => St prog H H' [⟨rr, 2, pr (bfs o r.cpl 1100 0 (kL o r.cpl first))⟩] := by
 refine .bd func76 rfl (by kernel_rfl) (m := 36) rfl fun l hn g0 g1 g2 => ?_
 simp (disch := omega) only [↓RA, RB, simprocAttr, g0]
 refine (sR H).eNew 4 [(.string o.name), o.rv, o.dv, o.cv] rfl rfl (by simp [OC, ((sR H).sl ho.1).cells.2.1, ((sR H).sl ho.2.2.1).cells.2.1, ((sR H).sl ho.2.2.2.2.1).cells.2.1]) lU fun A1 H1 hS1 => ?_
 simp only [RT] at hS1
 simp (disch := omega) only [↓RA, RB, simprocAttr, g1]
 refine hS1.eNew 3 [sv, (.int .u64 r.cpl), (.int .u64 r.off)] rfl rfl (by simp [OC, (hS1.sl hr.1).cells.2.1]) oA fun A2 H2 hS2 => ?_
 simp only [RT] at hS2
 simp (disch := omega) only [↓RA, RZ, simprocAttr]
 refine hS2.eNew 1 [(.slice none 0 0)] rfl rfl rfl a8u fun A3 H3 hS3 => ?_
 simp only [RT] at hS3
 simp (disch := omega) only [↓RA, RZ, simprocAttr, hn, g2, (hS3.sl hfi).len]
 have hS4 := hS3.nil 1
 simp only [RT] at hS4
 refine Wp.ak (fun n l H' => l.length = 36 ∧ get l 6 = (.slice none 0 0) ∧ get l 7 = (ptr A3 0 1) ∧ get l 8 = (.func (.func 105) #[] #[(ptr A1 0 4), (ptr A2 0 3), (ptr A3 0 1)]) ∧ get l 13 = fv ∧ get l 14 = I first.length ∧ ∃ (i : Nat) (qv : Value), (n + i = first.length) ∧ get l 15 = I i ∧ St prog H H' [⟨ptr A1 0 4, 0, [(.string o.name), o.rv, o.dv, o.cv]⟩, ⟨ptr A2 0 3, 0, [sv, (.int .u64 r.cpl), (.int .u64 r.off)]⟩, ⟨ptr A3 0 1, 0, [qv]⟩, ⟨qv, 2, pr (kL o r.cpl (first.take i))⟩]) first.length ?_ ?_
 ·simp (disch := omega) only [RB, RC, simprocAttr, hn]
  refine ⟨0, .slice none 0 0, by omega, rfl, ?_⟩
  rw [show kL o r.cpl (first.take 0) = [] from rfl]
  exact hS4
 rintro n l H4 ⟨hn, g6, g7, g8, g13, g14, i, qv, hi, g15, hS5⟩
 simp (disch := omega) only [↓RA, RB, simprocAttr, hn, g14, g15]
 refine iA (fun q1 => ?_) (fun q1 => ?_)
 ·have hqu := nO o r.cpl (first.take i)
  have hqs := a0J o r.cpl first i (by omega)
  simp (disch := omega) only [↓RA, RZ, simprocAttr, hn, g13, g15, (hS5.sl hfi).idx, (hS5.sl hfi).ae, jM, q1]
  refine hS5.eNew 2 [I 0, I 0] rfl rfl rfl lQ fun A4 H5 hS6 => ?_
  simp only [RT] at hS6
  simp (disch := omega) only [↓RA, RZ, simprocAttr, hn, q1]
  refine hS6.aa 4 rfl [I (iB first i).1, I (iB first i).2] rfl rfl lQ (by simp) fun H6 hS7 => ?_
  simp only [RT] at hS7
  simp (disch := omega) only [↓RA, RZ, simprocAttr, hn, g8, hS7.ae 4 rfl, q1]
  have hM1 := hS7.pick (os' := [⟨ptr A3 0 1, 0, _⟩, ⟨qv, 2, _⟩]) [2, 3] (by decide) rfl
  have hR1 := hS7.pick (os' := [⟨ptr A3 0 1, 0, _⟩, ⟨qv, 2, _⟩, ⟨ptr A1 0 4, 0, _⟩, ⟨ptr A2 0 3, 0, _⟩, ⟨ptr A4 0 2, 0, _⟩]) [2, 3, 0, 1, 4] (by decide) rfl
  refine iG (a5X o r sv (iB first i) false A1 A2 A3 qv (kL o r.cpl (first.take i)) hM1.aD (fun h => ⟨(hR1.frame h.forget).var 0 rfl, ho.ab (hR1.frame h.forget), (hR1.frame h.forget).var 1 rfl⟩) hqu hf hr.2) ?_
  rintro r H7 ⟨qv', rfl, hT1⟩
  have hS8 := hR1.frame hT1
  simp only [RT] at hS8
  simp (disch := omega) only [↓RA, RZ, simprocAttr, hn, g6, g7, g8, g13, g14, g15, q1]
  refine ⟨n - 1, by omega, i + 1, qv', by omega, by simp, ?_⟩
  rw [hqs]
  exact hS8.pick [2, 3, 0, 1] (by decide) rfl
 simp (disch := omega) only [↓RA, RZ, simprocAttr, q1]
 have hii : i = first.length := by omega
 subst hii
 rw [dM] at hS5
 have hqu := nO o r.cpl first
 refine Wp.ak (fun n l H' => l.length = 36 ∧ get l 6 = (.slice none 0 0) ∧ get l 7 = (ptr A3 0 1) ∧ get l 8 = (.func (.func 105) #[] #[(ptr A1 0 4), (ptr A2 0 3), (ptr A3 0 1)]) ∧ ∃ (j : Nat) (qv : Value) (q : List Ct), (n + j = 1100 ∧ bfs o r.cpl n j q = bfs o r.cpl 1100 0 (kL o r.cpl first) ∧ Que o q) ∧ get l 11 = I j ∧ St prog H H' [⟨ptr A1 0 4, 0, [(.string o.name), o.rv, o.dv, o.cv]⟩, ⟨ptr A2 0 3, 0, [sv, (.int .u64 r.cpl), (.int .u64 r.off)]⟩, ⟨ptr A3 0 1, 0, [qv]⟩, ⟨qv, 2, pr q⟩]) 1100 ?_ ?_
 ·simp (disch := omega) only [RB, RC, simprocAttr, hn, g6, g7, g8]
  exact ⟨0, qv, _, ⟨rfl, rfl, hqu⟩, rfl, hS5⟩
 rintro n l H8 ⟨hn, g6, g7, g8, j, qv, q, ⟨hj,hbf,hqq⟩, g11, hS9⟩
 have hql := hqq.len hf
 simp (disch := omega) only [↓RA, RZ, simprocAttr, hn, g7, g11, hS9.ld 2 rfl, (hS9.aw 3 rfl (fun _ => rfl)).len]
 refine iA (fun q3 => ?_) (fun q3 => ?_)
 ·have hjl : j < q.length := by omega
  simp (disch := omega) only [↓RA, RZ, simprocAttr, hn, g7, g8, g11, hS9.ld 2 rfl, (hS9.aw 3 rfl (fun _ => rfl)).idx, (hS9.aw 3 rfl (fun _ => rfl)).ae, jM, q3]
  have hM2 := hS9.pick (os' := [⟨ptr A3 0 1, 0, _⟩, ⟨qv, 2, _⟩]) [2, 3] (by decide) rfl
  have hR2 := hS9.pick (os' := [⟨ptr A3 0 1, 0, _⟩, ⟨qv, 2, _⟩, ⟨ptr A1 0 4, 0, _⟩, ⟨ptr A2 0 3, 0, _⟩]) [2, 3, 0, 1] (by decide) rfl
  refine iG (a5X o r sv (iB q j) true A1 A2 A3 qv q hM2.aD (fun h => ⟨(hR2.frame h.forget).var 0 rfl, ho.ab (hR2.frame h.forget), (hR2.frame h.forget).var 1 rfl⟩) hqq hf hr.2) ?_
  rintro r H9 ⟨qv', rfl, hT2⟩
  have hS10 := hR2.frame hT2
  simp only [RT] at hS10
  simp (disch := omega) only [↓RA, RZ, simprocAttr, hn, g6, g7, g8, g11, q3]
  obtain ⟨n', rfl⟩ : ∃ n', n = n' + 1 := ⟨n - 1, by omega⟩
  rw [bfs, if_pos hjl] at hbf
  exact ⟨n', by omega, j + 1, qv', _, ⟨by omega, hbf, hqq.stepF _ _ _⟩, by simp, hS10.pick [2, 3, 0, 1] (by decide) rfl⟩
 have hbq : bfs o r.cpl 1100 0 (kL o r.cpl first) = q := by
  rw [← hbf]
  cases n with
  | zero => rfl
  | succ n => rw [bfs, if_neg (by omega)]
 simp (disch := omega) only [↓RA, RZ, simprocAttr, hn, g7, hS9.ld 2 rfl, c6m, q3]
 rw [hbq]
 exact hS9.pick [3] (by decide) rfl
theorem a7I {o : Org} {r : Reg} {l q : List Ct} (hq : Que o q) (hl : ∀ c ∈ l, mN o c = true) : Que o (l.foldl (rZ r) q) :=
 ⟨wV hq.1, fun c hc => by
  rcases a2t.1 hc with h | h
  ·exact hq.2 c h
  ·exact hl c h.1⟩
theorem c3a {o : Org} (hf : o.Fine) {q : List Ct} (hq : Que o q) : ∀ x ∈ q, sm x := fun x hx => by
 have := zA hf (hq.2 x hx)
 unfold sm
 omega
theorem a3j (o : Org) (ho : o.In H) (hf : o.Fine) (rg : Reg) (sv : Value) (hr : rg.In H sv) (kv : Value) (ks : List Nt) (hk : Ks H kv ks) (h0 : mH o ks = 0) :
 Fn prog 44 [.agg #[.string o.name, o.rv, o.dv, o.cv], .agg #[sv, .int .u64 rg.cpl, .int .u64 rg.off], kv] H fun rr H' => St prog H H' [⟨rr, 2, pr (kG o rg (iE ks))⟩] := by
 have hkl := (nU h0).2.1
 have hple := b7V hk.ok h0
 have hpll := pD h0
 have hplc := nX hk.ok h0
 refine .bd func44 rfl (by kernel_rfl) (m := 46) rfl fun l hn g0 g1 g2 => ?_
 simp (disch := omega) only [↓RA, RB, simprocAttr, g0]
 refine (sR H).eNew 4 [(.string o.name), o.rv, o.dv, o.cv] rfl rfl (by simp [OC, ((sR H).sl ho.1).cells.2.1, ((sR H).sl ho.2.2.1).cells.2.1, ((sR H).sl ho.2.2.2.2.1).cells.2.1]) lU fun A1 H1 hS1 => ?_
 simp only [RT] at hS1
 simp (disch := omega) only [↓RA, RB, simprocAttr, g1]
 refine hS1.eNew 3 [sv, (.int .u64 rg.cpl), (.int .u64 rg.off)] rfl rfl (by simp [OC, (hS1.sl hr.1).cells.2.1]) oA fun A2 H2 hS2 => ?_
 simp only [RT] at hS2
 simp (disch := omega) only [↓RA, RZ, simprocAttr, hn, g2, hS2.ae 0 rfl]
 refine iG ((a7F o (ho.ab hS2) hf kv ks (hk.ab hS2) hkl).tr) ?_
 rintro r H3 ⟨-, hT1⟩
 have hS3 := hS2.trans hT1
 simp only [RT] at hS3
 obtain ⟨pv, rfl⟩ : ∃ w, w = r := ⟨r, rfl⟩
 rw [hple] at hS3
 simp (disch := omega) only [↓RA, RZ, simprocAttr, hn, hS3.ae 0 rfl, hS3.ae 1 rfl]
 refine iG ((a4F o (ho.ab hS3) hf rg sv (hr.ab hS3) pv (iE ks) (hS3.aw 2 rfl jQ) hpll).tr) ?_
 rintro r H4 ⟨-, hT2⟩
 have hS4 := hS3.trans hT2
 simp only [RT] at hS4
 obtain ⟨qv, rfl⟩ : ∃ w, w = r := ⟨r, rfl⟩
 have hQ := a4K rg.cpl 1100 0 _ (a2E o rg.cpl (iE ks))
 have hfin : b5C o rg (iE ks) = pG ((iE ks).foldl (rZ rg) (bfs o rg.cpl 1100 0 (kL o rg.cpl (iE ks)))) := rfl
 rw [b7c] at hfin
 rw [hfin]
 clear hfin
 simp (disch := omega) only [↓RA, RZ, simprocAttr, hn, (hS4.aw 2 rfl jQ).len]
 refine Wp.ak (fun n l H' => l.length = 46 ∧ get l 4 = (ptr A2 0 3) ∧ get l 6 = (.slice none 0 0) ∧ get l 18 = pv ∧ get l 19 = I (iE ks).length ∧ ∃ (i : Nat) (ov : Value), (n + i = (iE ks).length) ∧ get l 20 = I i ∧ get l 8 = ov ∧ St prog H H' [⟨ptr A1 0 4, 0, [(.string o.name), o.rv, o.dv, o.cv]⟩, ⟨ptr A2 0 3, 0, [sv, (.int .u64 rg.cpl), (.int .u64 rg.off)]⟩, ⟨pv, 2, pr (iE ks)⟩, ⟨ov, 2, pr (((iE ks).take i).foldl (rZ rg) (bfs o rg.cpl 1100 0 (kL o rg.cpl (iE ks))))⟩]) (iE ks).length ?_ ?_
 ·simp (disch := omega) only [RB, RC, simprocAttr, hn]
  exact ⟨0, qv, by omega, rfl, rfl, hS4⟩
 rintro n l H5 ⟨hn, g4, g6, g18, g19, i, ov, hi, g20, g8, hS5⟩
 simp (disch := omega) only [↓RA, RB, simprocAttr, hn, g19, g20]
 refine iA (fun q1 => ?_) (fun q1 => ?_)
 ·have hci := (mE o _).1 (hplc _ (iD (xs := iE ks) (j := i) (by omega)))
  have hqi : Que o (((iE ks).take i).foldl (rZ rg) (bfs o rg.cpl 1100 0 (kL o rg.cpl (iE ks)))) := a7I hQ fun c hc => hplc c (fR hc)
  have hql := hqi.len hf
  have hsu : ((iE ks).take (i + 1)).foldl (rZ rg) (bfs o rg.cpl 1100 0 (kL o rg.cpl (iE ks))) = rZ rg (((iE ks).take i).foldl (rZ rg) (bfs o rg.cpl 1100 0 (kL o rg.cpl (iE ks)))) (iB (iE ks) i) := by
   rw [kH _ i (by omega), fu]
   rfl
  generalize ((iE ks).take i).foldl (rZ rg) (bfs o rg.cpl 1100 0 (kL o rg.cpl (iE ks))) = Q at *
  have hd8 := hf.dlen
  obtain ⟨d, hd⟩ : ∃ d : Nat, (iB (iE ks) i).1.toNat = d := ⟨_, rfl⟩
  have hwd : IntKind.wrap .u64 (iB (iE ks) i).1 = ((d : Nat) : Int) := by rw [oP _ (by omega) (by omega)]; omega
  have e1 := a0x rg.off d hr.2.2.2.2
  have e2 := xX (rg.off >>> d) (sT _ hr.2.2.2.2)
  have e3 := tb rg.off d
  simp (disch := omega) only [↓RA, RZ, simprocAttr, hn, g18, g20, (hS5.aw 2 rfl jQ).idx, (hS5.aw 2 rfl jQ).ae, jM, q1]
  refine hS5.eNew 2 [I 0, I 0] rfl rfl rfl lQ fun A3 H6 hS6 => ?_
  simp only [RT] at hS6
  simp (disch := omega) only [↓RA, RZ, simprocAttr, hn, q1]
  refine hS6.aa 4 rfl [I (iB (iE ks) i).1, I (iB (iE ks) i).2] rfl rfl lQ (by simp) fun H7 hS7 => ?_
  simp only [RT] at hS7
  simp (disch := omega) only [↓RA, RZ, simprocAttr, hn, g4, hS7.ld 1 rfl, hS7.ld 4 rfl, q1, e1, e2, hwd]
  refine jH (fun q2 => ?_) (fun q2 => ?_)
  ·have hb : rg.off.testBit (iB (iE ks) i).1.toNat = false := by rw [hd, e3]; exact decide_eq_false (by omega)
   simp (disch := omega) only [↓RA, RZ, simprocAttr, hn, g8, hS7.ae 4 rfl, q1, q2]
   refine hS7.cF (a1Y ov Q (hS7.aw 3 rfl jQ) (by omega) (iB (iE ks) i)) fun H8 hS8 => ?_
   simp (disch := omega) only [↓RA, RZ, simprocAttr, hn, q1, q2]
   refine jL (fun q3 => ?_) (fun q3 => ?_)
   ·have hs : rZ rg Q (iB (iE ks) i) = Q ++ [iB (iE ks) i] := by unfold rZ; rw [if_pos (by rw [hb]; simpa using q3)]
    simp (disch := omega) only [↓RA, RZ, simprocAttr, hn, g8, hS8.ae 4 rfl, q1, q2, q3]
    refine hS8.aj [I (iB (iE ks) i).1, I (iB (iE ks) i).2] qE a2i rfl rfl (by simp [Value.cells]) rfl rfl (by decide) (by decide) fun w1 H9 hS9 => ?_
    simp only [RT] at hS9
    simp (disch := omega) only [↓RA, RZ, simprocAttr, hn, q1, q2, q3]
    refine hS9.aq 3 rfl (hS9.rd 5 rfl) qE (by rw [iI]; simp; omega) fun w2 H10 hS10 => ?_
    simp only [RT] at hS10
    simp (disch := omega) only [↓RA, RZ, simprocAttr, hn, g4, g6, g18, g19, g20, q1, q2, q3]
    refine ⟨n - 1, by omega, i + 1, w2, by omega, by simp, rfl, ?_⟩
    rw [hsu, hs, jI]
    exact hS10.pick [0, 1, 2, 3] (by decide) rfl
   have hs : rZ rg Q (iB (iE ks) i) = Q := by unfold rZ; rw [if_neg (by rw [hb]; simpa using q3)]
   simp (disch := omega) only [↓RA, RZ, simprocAttr, hn, g4, g6, g18, g19, g20, g8, q1, q2, q3]
   refine ⟨n - 1, by omega, i + 1, ov, by omega, by simp, rfl, ?_⟩
   rw [hsu, hs]
   exact hS8.pick [0, 1, 2, 3] (by decide) rfl
  have hb : rg.off.testBit (iB (iE ks) i).1.toNat = true := by rw [hd, e3]; exact decide_eq_true (by omega)
  have hs : rZ rg Q (iB (iE ks) i) = Q := by unfold rZ; rw [if_neg (by rw [hb]; simp)]
  simp (disch := omega) only [↓RA, RZ, simprocAttr, hn, g4, g6, g18, g19, g20, g8, q1, q2]
  refine ⟨n - 1, by omega, i + 1, ov, by omega, by simp, rfl, ?_⟩
  rw [hsu, hs]
  exact hS7.pick [0, 1, 2, 3] (by decide) rfl
 simp (disch := omega) only [↓RA, RZ, simprocAttr, hn, g8, q1]
 have hii : i = (iE ks).length := by omega
 rw [hii, dM] at hS5
 have hqn : Que o ((iE ks).foldl (rZ rg) (bfs o rg.cpl 1100 0 (kL o rg.cpl (iE ks)))) := a7I hQ hplc
 have hql := hqn.len hf
 refine c4C hS5 3 rfl (by omega) (c3a hf hqn) fun HS hSS => ?_
 simp only [gj, fh] at hSS
 simp (disch := omega) only [↓RA, RZ, simprocAttr, hn, g8, c6z, q1]
 exact hSS.pick [3] (by decide) rfl
theorem a6J {m : Nat} {l : List Drw} (h : kU m l = 0) : l.length ≤ 8 ∧ ∀ q, q < l.length → 0 ≤ (iB l q).rank ∧ (iB l q).rank < m := by
 unfold kU at h
 split at h
 ·omega
 refine ⟨by omega, fun q hq => ?_⟩
 have e := pB h q hq
 unfold kM at e
 split at e
 ·omega
 ·omega
def tX (o : Org) (rg : Reg) (j i : Nat) (z : Int) (k : Nat) : List Ct := if (iB rg.stops j).testBit i then ((iB (iB o.dvs j).stops i).segs.take k).flatMap fun g => rJ o g z else []
def dr3 (o : Org) (z : Int) (l : List Drw) : List Ct := (l.filter fun d => qS o.ranks d z).map fun d => mJ o.ranks d z
theorem b5a (o : Org) (z : Int) (l : List Drw) : (dr3 o z l).length ≤ l.length := by
 unfold dr3
 rw [ec]
 exact ed _ _
theorem b6K (o : Org) (z : Int) (l : List Drw) (q : Nat) (h : q < l.length) : dr3 o z (l.take (q + 1)) = dr3 o z (l.take q) ++ (if qS o.ranks (iB l q) z then [mJ o.ranks (iB l q) z] else []) := by
 unfold dr3
 rw [kH l q h, eM, dR]
 congr 1
 cases e : qS o.ranks (iB l q) z <;> simp [e]
theorem b6I {o : Org} (g : Seg) (z : Int) (h : g.draws.length ≤ 8) : (rJ o g z).length ≤ 8 := by
 unfold rJ
 split
 ·exact dy (b5a o z g.draws) h
 ·simp
theorem b0Y {o : Org} (z : Int) : ∀ (gs : List Seg), (∀ g ∈ gs, g.draws.length ≤ 8) → (gs.flatMap fun g => rJ o g z).length ≤ gs.length * 8
 | [], _ => by simp
 | g :: gs, h => by
   have h1 := b6I (o := o) g z (h g (dJ ..))
   have h2 := b0Y (o := o) z gs fun x hx => h x (dP _ hx)
   rw [dz, dj, dY]
   omega
theorem b7G {o : Org} (rg : Reg) (j i : Nat) (z : Int) (k : Nat) (h : ∀ g ∈ (iB (iB o.dvs j).stops i).segs, g.draws.length ≤ 8) (h2 : (iB (iB o.dvs j).stops i).segs.length ≤ 12) : (tX o rg j i z k).length ≤ 96 := by
 unfold tX
 split
 ·have h1 := b0Y (o := o) z ((iB (iB o.dvs j).stops i).segs.take k) fun g hg => h g (fR hg)
  have h3 := List.length_take_le k (iB (iB o.dvs j).stops i).segs
  have h4 : ((iB (iB o.dvs j).stops i).segs.take k).length ≤ (iB (iB o.dvs j).stops i).segs.length := by rw [gf]; omega
  omega
 ·simp
theorem a4n (o : Org) (rg : Reg) (j i : Nat) (z : Int) : uE o rg ((j : Int), z) i = tX o rg j i z (iB (iB o.dvs j).stops i).segs.length := by
 unfold uE tX
 simp only [dG]
 rw [dM]
theorem a3q {o : Org} (rg : Reg) (j : Nat) (z : Int) (h : ∀ i, i < (iB o.dvs j).stops.length → (tX o rg j i z (iB (iB o.dvs j).stops i).segs.length).length ≤ 96) : ∀ i, i ≤ (iB o.dvs j).stops.length → ((List.range i).flatMap (uE o rg ((j : Int), z))).length ≤ i * 96
 | 0, _ => by simp
 | i + 1, hi => by
   have h1 := a3q rg j z h i (by omega)
   have h2 := h i (by omega)
   rw [dV, dD, dj, dz, eo, di, a4n]
   omega
theorem b5s (o : Org) (ho : o.In H) (h0 : organE o = 0) (rg : Reg) (sv : Value) (hr : rg.In H sv) (hrl : rg.stops.length = o.dvs.length) (j : Nat) (z : Int) (hc : mN o ((j : Int), z) = true) :
 Fn prog 45 [.agg #[.string o.name, o.rv, o.dv, o.cv], .agg #[sv, .int .u64 rg.cpl, .int .u64 rg.off], .agg #[I j, I z]] H fun rr H' => Slx 2 jM H' (fun B => H.length ≤ B) rr (dd (pG (pN o rg ((j : Int), z)))) ∧ St prog H H' [] := by
 have hf := Org.aN h0
 have hcc := (mE o _).1 hc
 simp only [dG] at hcc
 have hj : j < o.dvs.length := by omega
 have hky := hf.keys j hj
 have hst := hf.stops j hj
 have hsb : ∀ i, i < (iB o.dvs j).stops.length → iB (iB o.dvs j).stops i ∈ (iB o.dvs j).stops := fun i hi => iD hi
 have hsl : ∀ i, i < (iB o.dvs j).stops.length → ∀ k, (tX o rg j i z k).length ≤ 96 := fun i hi k => b7G rg j i z k (hf.draws j hj _ (hsb i hi)) (zI h0 hj (hsb i hi)).len
 have hdl := a3q rg j z fun i hi => hsl i hi _
 refine .bd func45 rfl (by kernel_rfl) (m := 108) rfl fun l hn g0 g1 g2 => ?_
 simp (disch := omega) only [↓RA, RB, simprocAttr, g0]
 refine (sR H).eNew 4 [(.string o.name), o.rv, o.dv, o.cv] rfl rfl (by simp [OC, ((sR H).sl ho.1).cells.2.1, ((sR H).sl ho.2.2.1).cells.2.1, ((sR H).sl ho.2.2.2.2.1).cells.2.1]) lU fun A1 H1 hS1 => ?_
 simp only [RT] at hS1
 simp (disch := omega) only [↓RA, RB, simprocAttr, g1]
 refine hS1.eNew 3 [sv, (.int .u64 rg.cpl), (.int .u64 rg.off)] rfl rfl (by simp [OC, (hS1.sl hr.1).cells.2.1]) oA fun A2 H2 hS2 => ?_
 simp only [RT] at hS2
 simp (disch := omega) only [↓RA, RB, simprocAttr, g2]
 refine hS2.eNew 2 [I j, I z] rfl rfl rfl lQ fun A3 H3 hS3 => ?_
 simp only [RT] at hS3
 simp (disch := omega) only [↓RA, RZ, simprocAttr, hn, hS3.ld 0 rfl, hS3.ld 2 rfl, (hS3.sl ho.2.2.1).idx, (hS3.sl ho.2.2.1).aZ, (hS3.sl ho.2.2.1).ld, Dvn.cells, (hS3.sl (ho.2.2.2.1 (iB o.dvs j) (iD (by omega))).1).len]
 have hS4 := hS3.nil 1
 simp only [RT] at hS4
 refine Wp.ak (fun n l H' => l.length = 108 ∧ get l 3 = (ptr A1 0 4) ∧ get l 4 = (ptr A2 0 3) ∧ get l 5 = (ptr A3 0 2) ∧ get l 6 = (.slice none 0 0) ∧ get l 21 = (iB o.dvs j).sv ∧ get l 22 = I (iB o.dvs j).stops.length ∧ ∃ (i : Nat) (ov : Value), (n + i = (iB o.dvs j).stops.length) ∧ get l 23 = I i ∧ get l 7 = ov ∧ St prog H H' [⟨ptr A1 0 4, 0, [(.string o.name), o.rv, o.dv, o.cv]⟩, ⟨ptr A2 0 3, 0, [sv, (.int .u64 rg.cpl), (.int .u64 rg.off)]⟩, ⟨ptr A3 0 2, 0, [I j, I z]⟩, ⟨ov, 2, pr ((List.range i).flatMap (uE o rg ((j : Int), z)))⟩]) (iB o.dvs j).stops.length ?_ ?_
 ·simp (disch := omega) only [RB, RC, simprocAttr, hn]
  exact ⟨0, .slice none 0 0, by omega, rfl, rfl, hS4⟩
 rintro n l H4 ⟨hn, g3, g4, g5, g6, g21, g22, i, ov, hi, g23, g7, hS5⟩
 simp (disch := omega) only [↓RA, RB, simprocAttr, hn, g22, g23]
 refine iA (fun q1 => ?_) (fun q1 => ?_)
 ·have hil : i < (iB o.dvs j).stops.length := by omega
  have hso := zI h0 hj (hsb i hil)
  have hsu : (List.range (i + 1)).flatMap (uE o rg ((j : Int), z)) = (List.range i).flatMap (uE o rg ((j : Int), z)) ++ tX o rg j i z (iB (iB o.dvs j).stops i).segs.length := by
   rw [dV, dD, dz, eo, di, a4n]
  have hpl := hdl i (by omega)
  have hsn : (iB (iB o.dvs j).stops i).segs.length < 1000000000 := ((ho.2.2.2.1 _ (iD hj)).2.1 _ (hsb i hil)).2.2
  have e1 := a0x (iB rg.stops j) i (hr.2.2.1 _ (iD (by omega)))
  have e2 := xX ((iB rg.stops j) >>> i) (sT _ (hr.2.2.1 _ (iD (by omega))))
  have e3 := tb (iB rg.stops j) i
  simp (disch := omega) only [↓RA, RZ, simprocAttr, hn, g21, g23, (hS5.sl (ho.2.2.2.1 (iB o.dvs j) (iD (by omega))).1).idx, (hS5.sl (ho.2.2.2.1 (iB o.dvs j) (iD (by omega))).1).ae, Stp.cells, q1]
  refine hS5.eNew 4 [(.string ⟨#[]⟩), I 0, I 0, (.slice none 0 0)] rfl rfl rfl nW fun A4 H5 hS6 => ?_
  simp only [RT] at hS6
  simp (disch := omega) only [↓RA, RZ, simprocAttr, hn, q1]
  refine hS6.aa 4 rfl [(.string (iB (iB o.dvs j).stops i).name), I (iB (iB o.dvs j).stops i).num, I (iB (iB o.dvs j).stops i).den, (iB (iB o.dvs j).stops i).gv] rfl (by simp [OC, (hS6.sl ((ho.2.2.2.1 (iB o.dvs j) (iD (by omega))).2.1 (iB (iB o.dvs j).stops i) (iD (by omega))).1).cells.2.1]) nW (by simp) fun H6 hS7 => ?_
  simp only [RT] at hS7
  simp (disch := omega) only [↓RA, RZ, simprocAttr, hn, hS7.ld 4 rfl, (hS7.sl ((ho.2.2.2.1 (iB o.dvs j) (iD (by omega))).2.1 (iB (iB o.dvs j).stops i) (iD (by omega))).1).len, q1]
  refine Wp.ak (fun n l H' => l.length = 108 ∧ get l 3 = (ptr A1 0 4) ∧ get l 4 = (ptr A2 0 3) ∧ get l 5 = (ptr A3 0 2) ∧ get l 6 = (.slice none 0 0) ∧ get l 8 = I i ∧ get l 21 = (iB o.dvs j).sv ∧ get l 22 = I (iB o.dvs j).stops.length ∧ get l 23 = I i ∧ get l 29 = (iB (iB o.dvs j).stops i).gv ∧ get l 30 = I (iB (iB o.dvs j).stops i).segs.length ∧ ∃ (k : Nat) (ow : Value), (n + k = (iB (iB o.dvs j).stops i).segs.length) ∧ get l 31 = I k ∧ get l 7 = ow ∧ St prog H H' [⟨ptr A1 0 4, 0, [(.string o.name), o.rv, o.dv, o.cv]⟩, ⟨ptr A2 0 3, 0, [sv, (.int .u64 rg.cpl), (.int .u64 rg.off)]⟩, ⟨ptr A3 0 2, 0, [I j, I z]⟩, ⟨ow, 2, pr ((List.range i).flatMap (uE o rg ((j : Int), z)) ++ tX o rg j i z k)⟩, ⟨ptr A4 0 4, 0, [(.string (iB (iB o.dvs j).stops i).name), I (iB (iB o.dvs j).stops i).num, I (iB (iB o.dvs j).stops i).den, (iB (iB o.dvs j).stops i).gv]⟩]) (iB (iB o.dvs j).stops i).segs.length ?_ ?_
  ·simp (disch := omega) only [RB, RC, simprocAttr, hn, g3, g4, g5, g6, g21, g22, g23, g7]
   refine ⟨0, ov, by omega, rfl, rfl, ?_⟩
   rw [show tX o rg j i z 0 = [] from by unfold tX; split <;> rfl, di]
   exact hS7
  rintro n l H7 ⟨hn, g3, g4, g5, g6, g8, g21, g22, g23, g29, g30, k, ow, hk, g31, g7, hS8⟩
  simp (disch := omega) only [↓RA, RB, simprocAttr, hn, g30, g31]
  refine iA (fun q2 => ?_) (fun q2 => ?_)
  ·have hkl : k < (iB (iB o.dvs j).stops i).segs.length := by omega
   have hsk := hsl i hil k
   have hgd := hso.draws k hkl
   have hgd2 := a6J hgd
   simp (disch := omega) only [↓RA, RZ, simprocAttr, hn, g29, g31, (hS8.sl ((ho.2.2.2.1 (iB o.dvs j) (iD (by omega))).2.1 (iB (iB o.dvs j).stops i) (iD (by omega))).1).idx, (hS8.sl ((ho.2.2.2.1 (iB o.dvs j) (iD (by omega))).2.1 (iB (iB o.dvs j).stops i) (iD (by omega))).1).ae, Seg.cells, q2]
   refine hS8.eNew 3 [I 0, I 0, (.slice none 0 0)] rfl rfl rfl xI fun A5 H8 hS9 => ?_
   simp only [RT] at hS9
   simp (disch := omega) only [↓RA, RZ, simprocAttr, hn, q2]
   refine hS9.aa 5 rfl [I (iB (iB (iB o.dvs j).stops i).segs k).lo, I (iB (iB (iB o.dvs j).stops i).segs k).hi, (iB (iB (iB o.dvs j).stops i).segs k).dv] rfl (by simp [OC, (hS9.sl (((ho.2.2.2.1 (iB o.dvs j) (iD (by omega))).2.1 (iB (iB o.dvs j).stops i) (iD (by omega))).2.1 (iB (iB (iB o.dvs j).stops i).segs k) (iD (by omega))).1).cells.2.1]) xI (by simp) fun H9 hS10 => ?_
   simp only [RT] at hS10
   simp (disch := omega) only [↓RA, RZ, simprocAttr, hn, g4, g5, g8, hS10.ld 1 rfl, hS10.ld 2 rfl, (hS10.sl hr.1).idx, (hS10.sl hr.1).ld, one, u64, q2, e1, e2]
   refine iM (fun q3 => ?_) (fun q3 => ?_)
   ·have hb : (iB rg.stops j).testBit i = false := by rw [e3]; exact decide_eq_false (by omega)
    have hsg : ∀ k, tX o rg j i z k = [] := fun k => by unfold tX; rw [if_neg (by rw [hb]; simp)]
    simp (disch := omega) only [↓RA, RZ, simprocAttr, hn, g3, g4, g5, g6, g8, g21, g22, g23, g29, g30, g31, g7, q2, q3]
    refine ⟨n - 1, by omega, k + 1, ow, by omega, by simp, rfl, ?_⟩
    rw [hsg, ← hsg k]
    exact hS10.pick [0, 1, 2, 3, 4] (by decide) rfl
   have hb : (iB rg.stops j).testBit i = true := by rw [e3]; exact decide_eq_true (by omega)
   have hsg : tX o rg j i z (k + 1) = tX o rg j i z k ++ rJ o (iB (iB (iB o.dvs j).stops i).segs k) z := by
    unfold tX
    rw [if_pos hb, if_pos hb, List.take_add_one, dm hkl, Option.toList_some, ← jV _ k hkl, dD, dz, eo, di]
   simp (disch := omega) only [↓RA, RZ, simprocAttr, hn, g5, hS10.ld 2 rfl, hS10.ld 5 rfl, q2, q3]
   refine iM (fun q4 => ?_) (fun q4 => ?_)
   ·have hd1 : rJ o (iB (iB (iB o.dvs j).stops i).segs k) z = [] := by unfold rJ; rw [if_neg (by omega)]
    simp (disch := omega) only [↓RA, RZ, simprocAttr, hn, g3, g4, g5, g6, g8, g21, g22, g23, g29, g30, g31, g7, q2, q3, q4]
    refine ⟨n - 1, by omega, k + 1, ow, by omega, by simp, rfl, ?_⟩
    rw [hsg, hd1, di]
    exact hS10.pick [0, 1, 2, 3, 4] (by decide) rfl
   simp (disch := omega) only [↓RA, RZ, simprocAttr, hn, g5, hS10.ld 2 rfl, hS10.ld 5 rfl, q2, q3, q4]
   refine iA (fun q5 => ?_) (fun q5 => ?_)
   ·have hd1 : rJ o (iB (iB (iB o.dvs j).stops i).segs k) z = [] := by unfold rJ; rw [if_neg (by omega)]
    simp (disch := omega) only [↓RA, RZ, simprocAttr, hn, g3, g4, g5, g6, g8, g21, g22, g23, g29, g30, g31, g7, q2, q3, q4, q5]
    refine ⟨n - 1, by omega, k + 1, ow, by omega, by simp, rfl, ?_⟩
    rw [hsg, hd1, di]
    exact hS10.pick [0, 1, 2, 3, 4] (by decide) rfl
   have hd1 : rJ o (iB (iB (iB o.dvs j).stops i).segs k) z = dr3 o z (iB (iB (iB o.dvs j).stops i).segs k).draws := by unfold rJ; rw [if_pos (by omega)]; rfl
   have hsm2 : (tX o rg j i z k).length ≤ 96 := hsk
   simp (disch := omega) only [↓RA, RZ, simprocAttr, hn, hS10.ld 5 rfl, (hS10.sl (((ho.2.2.2.1 (iB o.dvs j) (iD (by omega))).2.1 (iB (iB o.dvs j).stops i) (iD (by omega))).2.1 (iB (iB (iB o.dvs j).stops i).segs k) (iD (by omega))).1).len, q2, q3, q4, q5]
   refine Wp.ak (fun n l H' => l.length = 108 ∧ get l 3 = (ptr A1 0 4) ∧ get l 4 = (ptr A2 0 3) ∧ get l 5 = (ptr A3 0 2) ∧ get l 6 = (.slice none 0 0) ∧ get l 8 = I i ∧ get l 21 = (iB o.dvs j).sv ∧ get l 22 = I (iB o.dvs j).stops.length ∧ get l 23 = I i ∧ get l 29 = (iB (iB o.dvs j).stops i).gv ∧ get l 30 = I (iB (iB o.dvs j).stops i).segs.length ∧ get l 31 = I k ∧ get l 61 = (iB (iB (iB o.dvs j).stops i).segs k).dv ∧ get l 62 = I (iB (iB (iB o.dvs j).stops i).segs k).draws.length ∧ ∃ (q : Nat) (oy : Value), (n + q = (iB (iB (iB o.dvs j).stops i).segs k).draws.length) ∧ get l 63 = I q ∧ get l 7 = oy ∧ St prog H H' [⟨ptr A1 0 4, 0, [(.string o.name), o.rv, o.dv, o.cv]⟩, ⟨ptr A2 0 3, 0, [sv, (.int .u64 rg.cpl), (.int .u64 rg.off)]⟩, ⟨ptr A3 0 2, 0, [I j, I z]⟩, ⟨oy, 2, pr ((List.range i).flatMap (uE o rg ((j : Int), z)) ++ tX o rg j i z k ++ dr3 o z ((iB (iB (iB o.dvs j).stops i).segs k).draws.take q))⟩, ⟨ptr A4 0 4, 0, [(.string (iB (iB o.dvs j).stops i).name), I (iB (iB o.dvs j).stops i).num, I (iB (iB o.dvs j).stops i).den, (iB (iB o.dvs j).stops i).gv]⟩, ⟨ptr A5 0 3, 0, [I (iB (iB (iB o.dvs j).stops i).segs k).lo, I (iB (iB (iB o.dvs j).stops i).segs k).hi, (iB (iB (iB o.dvs j).stops i).segs k).dv]⟩]) (iB (iB (iB o.dvs j).stops i).segs k).draws.length ?_ ?_
   ·simp (disch := omega) only [RB, RC, simprocAttr, hn, g3, g4, g5, g6, g8, g21, g22, g23, g29, g30, g31, g7]
    refine ⟨0, ow, by omega, rfl, rfl, ?_⟩
    rw [List.take_zero, show dr3 o z [] = [] from rfl, di]
    exact hS10
   rintro n l H10 ⟨hn, g3, g4, g5, g6, g8, g21, g22, g23, g29, g30, g31, g61, g62, q, oy, hq, g63, g7, hS11⟩
   simp (disch := omega) only [↓RA, RB, simprocAttr, hn, g62, g63]
   refine iA (fun q6 => ?_) (fun q6 => ?_)
   ·have hql : q < (iB (iB (iB o.dvs j).stops i).segs k).draws.length := by omega
    have hdr := hgd2.2 q hql
    obtain ⟨e, he⟩ : ∃ e : Nat, (iB (iB (iB (iB o.dvs j).stops i).segs k).draws q).rank = e := ⟨(iB (iB (iB (iB o.dvs j).stops i).segs k).draws q).rank.toNat, by omega⟩
    have hel : e < o.ranks.length := by omega
    have hd3 := b6K o z (iB (iB (iB o.dvs j).stops i).segs k).draws q hql
    have hd3l := b5a o z ((iB (iB (iB o.dvs j).stops i).segs k).draws.take q)
    have hwl : (iB o.ranks e).wind.length < 1000000000 := (ho.2.1 _ (iD hel)).2
    have htl := List.length_take_le q (iB (iB (iB o.dvs j).stops i).segs k).draws
    have hp1 : mJ o.ranks (iB (iB (iB (iB o.dvs j).stops i).segs k).draws q) z = ((e : Int), oB (oB (z + (iB (iB (iB (iB o.dvs j).stops i).segs k).draws q).shift) - (iB o.ranks e).first)) := by
     unfold mJ
     rw [if_neg (by omega), he]
     rfl
    have hhp : qS o.ranks (iB (iB (iB (iB o.dvs j).stops i).segs k).draws q) z = (decide (0 ≤ oB (oB (z + (iB (iB (iB (iB o.dvs j).stops i).segs k).draws q).shift) - (iB o.ranks e).first)) && decide (oB (oB (z + (iB (iB (iB (iB o.dvs j).stops i).segs k).draws q).shift) - (iB o.ranks e).first) < (iB o.ranks e).wind.length)) := by
     unfold qS
     rw [hp1, decide_eq_false (by omega), he]
     rfl
    simp (disch := omega) only [↓RA, RZ, simprocAttr, hn, g61, g63, (hS11.sl (((ho.2.2.2.1 (iB o.dvs j) (iD (by omega))).2.1 (iB (iB o.dvs j).stops i) (iD (by omega))).2.1 (iB (iB (iB o.dvs j).stops i).segs k) (iD (by omega))).1).idx, (hS11.sl (((ho.2.2.2.1 (iB o.dvs j) (iD (by omega))).2.1 (iB (iB o.dvs j).stops i) (iD (by omega))).2.1 (iB (iB (iB o.dvs j).stops i).segs k) (iD (by omega))).1).ae, Drw.cells, q6]
    refine hS11.eNew 2 [I 0, I 0] rfl rfl rfl wH fun A6 H11 hS12 => ?_
    simp only [RT] at hS12
    simp (disch := omega) only [↓RA, RZ, simprocAttr, hn, q6]
    refine hS12.aa 6 rfl [I (iB (iB (iB (iB o.dvs j).stops i).segs k).draws q).rank, I (iB (iB (iB (iB o.dvs j).stops i).segs k).draws q).shift] rfl rfl wH (by simp) fun H12 hS13 => ?_
    simp only [RT] at hS13
    simp (disch := omega) only [↓RA, RZ, simprocAttr, q6]
    refine Wp.drw kC (by kernel_rfl) ?_
    simp (disch := omega) only [↓RA, RZ, simprocAttr, hn, g3, g5, hS13.ld 2 rfl, hS13.ld 6 rfl, hS13.ld 0 rfl]
    simp (disch := omega) only [↓RA, RZ, simprocAttr, hn, (hS13.sl ho.1).idx, (hS13.sl ho.1).aZ, (hS13.sl ho.1).ld, Rk.cells, he]
    refine jH (fun q7 => ?_) (fun q7 => ?_)
    ·simp (disch := omega) only [↓RA, RZ, simprocAttr, hn, g3, hS13.ld 0 rfl, hS13.ld 6 rfl, (hS13.sl ho.1).idx, (hS13.sl ho.1).aZ, (hS13.sl ho.1).ld, Rk.cells, (hS13.sl (ho.2.1 (iB o.ranks e) (iD (by omega))).1).len, he, q7]
     refine iA (fun q8 => ?_) (fun q8 => ?_)
     ·have hht : qS o.ranks (iB (iB (iB (iB o.dvs j).stops i).segs k).draws q) z = true := by rw [hhp, decide_eq_true (by omega), decide_eq_true (by omega)]; rfl
      simp (disch := omega) only [↓RA, RZ, simprocAttr, hn, g7, hS13.ld 6 rfl, a6F, he, q7, q8]
      refine hS13.aj [I e, I (oB (oB (z + (iB (iB (iB (iB o.dvs j).stops i).segs k).draws q).shift) - (iB o.ranks e).first))] a5N c2N rfl rfl (by simp [Value.cells]) rfl rfl (by decide) (by decide) fun w1 H13 hS14 => ?_
      simp only [RT] at hS14
      simp (disch := omega) only [↓RA, RZ, simprocAttr, hn, he, q7, q8]
      refine hS14.aq 3 rfl (hS14.rd 7 rfl) a5N (by rw [iI, dj, dj]; simp only [dY, eK]; omega) fun w2 H14 hS15 => ?_
      simp only [RT] at hS15
      simp (disch := omega) only [↓RA, RZ, simprocAttr, hn, g3, g4, g5, g6, g8, g21, g22, g23, g29, g30, g31, g61, g62, g63, he, q7, q8]
      refine ⟨n - 1, by omega, q + 1, w2, by omega, by simp, rfl, ?_⟩
      rw [hd3, hht, if_pos rfl, hp1, ← ee, jI]
      exact hS15.pick [0, 1, 2, 3, 4, 5] (by decide) rfl
     have hhf : qS o.ranks (iB (iB (iB (iB o.dvs j).stops i).segs k).draws q) z = false := by rw [hhp, decide_eq_false (show ¬ oB (oB (z + (iB (iB (iB (iB o.dvs j).stops i).segs k).draws q).shift) - (iB o.ranks e).first) < _ by omega), Bool.and_false]
     simp (disch := omega) only [↓RA, RZ, simprocAttr, hn, g3, g4, g5, g6, g8, g21, g22, g23, g29, g30, g31, g61, g62, g63, g7, he, q7, q8]
     refine ⟨n - 1, by omega, q + 1, oy, by omega, by simp, rfl, ?_⟩
     rw [hd3, hhf, if_neg (by simp), di]
     exact hS13.pick [0, 1, 2, 3, 4, 5] (by decide) rfl
    have hhf : qS o.ranks (iB (iB (iB (iB o.dvs j).stops i).segs k).draws q) z = false := by rw [hhp, decide_eq_false (show ¬ 0 ≤ oB (oB (z + (iB (iB (iB (iB o.dvs j).stops i).segs k).draws q).shift) - (iB o.ranks e).first) by omega), ft]
    simp (disch := omega) only [↓RA, RZ, simprocAttr, hn, g3, g4, g5, g6, g8, g21, g22, g23, g29, g30, g31, g61, g62, g63, g7, he, q7]
    refine ⟨n - 1, by omega, q + 1, oy, by omega, by simp, rfl, ?_⟩
    rw [hd3, hhf, if_neg (by simp), di]
    exact hS13.pick [0, 1, 2, 3, 4, 5] (by decide) rfl
   simp (disch := omega) only [↓RA, RZ, simprocAttr, hn, g3, g4, g5, g6, g8, g21, g22, g23, g29, g30, g31, g7, q6]
   have hqq : q = (iB (iB (iB o.dvs j).stops i).segs k).draws.length := by omega
   refine ⟨(iB (iB o.dvs j).stops i).segs.length - (k + 1), by omega, k + 1, oy, by omega, by simp, rfl, ?_⟩
   rw [hsg, hd1, ← ee]
   rw [hqq, dM] at hS11
   exact hS11.pick [0, 1, 2, 3, 4] (by decide) rfl
  simp (disch := omega) only [↓RA, RZ, simprocAttr, hn, g3, g4, g5, g6, g21, g22, g23, g7, q2]
  have hkk : k = (iB (iB o.dvs j).stops i).segs.length := by omega
  refine ⟨(iB o.dvs j).stops.length - (i + 1), by omega, i + 1, ow, by omega, by simp, rfl, ?_⟩
  rw [hsu, ← hkk]
  exact hS8.pick [0, 1, 2, 3] (by decide) rfl
 simp (disch := omega) only [↓RA, RZ, simprocAttr, hn, g7, q1]
 have hii : i = (iB o.dvs j).stops.length := by omega
 rw [hii] at hS5
 have hdl2 := hdl _ (dg _)
 have hc2 : mN o ((j : Int), z) = true := hc
 have hd3e : (List.range (iB o.dvs j).stops.length).flatMap (uE o rg ((j : Int), z)) = pN o rg ((j : Int), z) := by unfold pN; rfl
 rw [hd3e] at hS5
 rw [hd3e] at hdl2
 have hsm : ∀ x ∈ pN o rg ((j : Int), z), sm x := fun x hx => (xC ((vR h0 hc2).1 hx)).small hf ho
 refine c0E hS5 3 rfl (by omega) hsm fun HS hSS => ?_
 simp only [gj, fh] at hSS
 simp (disch := omega) only [↓RA, RZ, simprocAttr, hn, g7, q1]
 have hM1 := hSS.pick (os' := [⟨ov, 2, _⟩]) [3] (by decide) rfl
 have hR1 := hSS.pick (os' := [⟨ov, 2, _⟩, ⟨ptr A1 0 4, 0, _⟩, ⟨ptr A2 0 3, 0, _⟩, ⟨ptr A3 0 2, 0, _⟩]) [3, 0, 1, 2] (by decide) rfl
 refine iG (rH hM1.aD (by rw [lR]; omega)) ?_
 rintro r H15 ⟨rest, hb, hrd, hT1⟩
 have hS16 := hR1.frame hT1
 simp only [RT] at hS16
 have hrr := hrd _ (hS16.rd 0 rfl)
 have hrc := hrr.cells
 simp (disch := omega) only [↓RA, RZ, simprocAttr, hn, c6B, q1]
 refine ⟨⟨⟨hrr, jQ, by decide⟩, fun b h => ?_⟩, hS16.forget⟩
 rcases hS16.new _ (dJ ..) b (hb b h) with h | h
 ·exact h
 ·exact h.elim
theorem a8N (o : Org) (ho : o.In H) (h0 : organE o = 0) (rg : Reg) (sv : Value) (hr : rg.In H sv) (hrl : rg.stops.length = o.dvs.length) (c : Ct) (hc : mN o c = true) :
 Fn prog 45 [.agg #[.string o.name, o.rv, o.dv, o.cv], .agg #[sv, .int .u64 rg.cpl, .int .u64 rg.off], .agg #[I c.1, I c.2]] H fun rr H' => Slx 2 jM H' (fun B => H.length ≤ B) rr (dd (pG (pN o rg c))) ∧ St prog H H' [] := by
 obtain ⟨d, z⟩ := c
 have h := (mE o _).1 hc
 obtain ⟨j, rfl⟩ := fG h.1
 exact b5s o ho h0 rg sv hr hrl j z hc
theorem b6q {o : Org} (h0 : organE o = 0) (rg : Reg) {c : Ct} (hc : mN o c = true) : (dd (pG (pN o rg c))).length ≤ 480 := by
 rw [b8M h0 hc]
 have h1 := a6p (pG (nC o rg c))
 rw [lR] at h1
 exact dy h1 (a3D (Org.aN h0) rg hc)
theorem b1x {o : Org} (h0 : organE o = 0) (rg : Reg) : ∀ (l : List Ct), (∀ c ∈ l, mN o c = true) → (l.flatMap fun c => dd (pG (pN o rg c))).length ≤ l.length * 480
 | [], _ => by simp
 | c :: l, h => by
   have h1 := b6q h0 rg (h c (dJ ..))
   have h2 := b1x h0 rg l fun x hx => h x (dP _ hx)
   rw [dz, dj, dY]
   omega
theorem vV (o : Org) (ho : o.In H) (h0 : organE o = 0) (rg : Reg) (sv : Value) (hr : rg.In H sv) (hrl : rg.stops.length = o.dvs.length) (kv : Value) (ks : List Nt) (hk : Ks H kv ks) (hke : mH o ks = 0) :
 Fn prog 17 [.agg #[.string o.name, o.rv, o.dv, o.cv], .agg #[sv, .int .u64 rg.cpl, .int .u64 rg.off], kv] H fun rr H' => Slx 2 jM H' (fun B => H.length ≤ B) rr (jO o rg (iE ks)) ∧ St prog H H' [] := by
 have hf := Org.aN h0
 have hplc := nX hk.ok hke
 have hpll := pD hke
 have hsc := mC (o := o) (rg := rg) hplc
 have hsl := sQ hf (rg := rg) hpll
 have hsp : dd (pG ((kG o rg (iE ks)).flatMap fun c => dd (pG (pN o rg c)))) = jO o rg (iE ks) := b5o h0 hsc
 have hsm : ∀ x ∈ (kG o rg (iE ks)).flatMap (fun c => dd (pG (pN o rg c))), sm x := fun x hx => by
  obtain ⟨c, hc, hx⟩ := dT.1 hx
  exact (xC ((vR h0 (hsc c hc)).1 (rK.1 hx))).small hf ho
 have hle : ∀ i, (((kG o rg (iE ks)).take i).flatMap fun c => dd (pG (pN o rg c))).length ≤ 2048 * 480 := fun i => by
  have h1 := b1x h0 rg ((kG o rg (iE ks)).take i) fun c hc => hsc c (fR hc)
  have h2 : ((kG o rg (iE ks)).take i).length ≤ (kG o rg (iE ks)).length := by rw [gf]; omega
  exact dy h1 (dH _ (by omega))
 rw [← hsp]
 refine .bd func17 rfl (by kernel_rfl) (m := 30) rfl fun l hn g0 g1 g2 => ?_
 simp (disch := omega) only [↓RA, RB, simprocAttr, g0]
 refine (sR H).eNew 4 [(.string o.name), o.rv, o.dv, o.cv] rfl rfl (by simp [OC, ((sR H).sl ho.1).cells.2.1, ((sR H).sl ho.2.2.1).cells.2.1, ((sR H).sl ho.2.2.2.2.1).cells.2.1]) lU fun A1 H1 hS1 => ?_
 simp only [RT] at hS1
 simp (disch := omega) only [↓RA, RB, simprocAttr, g1]
 refine hS1.eNew 3 [sv, (.int .u64 rg.cpl), (.int .u64 rg.off)] rfl rfl (by simp [OC, (hS1.sl hr.1).cells.2.1]) oA fun A2 H2 hS2 => ?_
 simp only [RT] at hS2
 simp (disch := omega) only [↓RA, RZ, simprocAttr, hn, g2, hS2.ae 0 rfl, hS2.ae 1 rfl]
 refine iG ((a3j o (ho.ab hS2) hf rg sv (hr.ab hS2) kv ks (hk.ab hS2) hke).tr) ?_
 rintro r H3 ⟨-, hT1⟩
 have hS3 := hS2.trans hT1
 simp only [RT] at hS3
 obtain ⟨cv, rfl⟩ : ∃ w, w = r := ⟨r, rfl⟩
 simp (disch := omega) only [↓RA, RZ, simprocAttr, hn, (hS3.aw 2 rfl jQ).len]
 have hS4 := hS3.nil 1
 simp only [RT] at hS4
 refine Wp.ak (fun n l H' => l.length = 30 ∧ get l 3 = (ptr A1 0 4) ∧ get l 4 = (ptr A2 0 3) ∧ get l 6 = (.slice none 0 0) ∧ get l 13 = cv ∧ get l 14 = I (kG o rg (iE ks)).length ∧ ∃ (i : Nat) (ov : Value), (n + i = (kG o rg (iE ks)).length) ∧ get l 15 = I i ∧ get l 7 = ov ∧ St prog H H' [⟨ptr A1 0 4, 0, [(.string o.name), o.rv, o.dv, o.cv]⟩, ⟨ptr A2 0 3, 0, [sv, (.int .u64 rg.cpl), (.int .u64 rg.off)]⟩, ⟨cv, 2, pr (kG o rg (iE ks))⟩, ⟨ov, 2, pr (((kG o rg (iE ks)).take i).flatMap fun c => dd (pG (pN o rg c)))⟩]) (kG o rg (iE ks)).length ?_ ?_
 ·simp (disch := omega) only [RB, RC, simprocAttr, hn]
  exact ⟨0, .slice none 0 0, by omega, rfl, rfl, hS4⟩
 rintro n l H4 ⟨hn, g3, g4, g6, g13, g14, i, ov, hi, g15, g7, hS5⟩
 simp (disch := omega) only [↓RA, RB, simprocAttr, hn, g14, g15]
 refine iA (fun q1 => ?_) (fun q1 => ?_)
 ·have hci := hsc _ (iD (xs := kG o rg (iE ks)) (j := i) (by omega))
  have htk := kH (kG o rg (iE ks)) i (by omega)
  have hli := hle i
  have hl1 := b6q h0 rg hci
  simp (disch := omega) only [↓RA, RZ, simprocAttr, hn, g13, g15, (hS5.aw 2 rfl jQ).idx, (hS5.aw 2 rfl jQ).ae, jM, q1]
  refine hS5.eNew 2 [I 0, I 0] rfl rfl rfl lQ fun A3 H5 hS6 => ?_
  simp only [RT] at hS6
  simp (disch := omega) only [↓RA, RZ, simprocAttr, hn, q1]
  refine hS6.aa 4 rfl [I (iB (kG o rg (iE ks)) i).1, I (iB (kG o rg (iE ks)) i).2] rfl rfl lQ (by simp) fun H6 hS7 => ?_
  simp only [RT] at hS7
  simp (disch := omega) only [↓RA, RZ, simprocAttr, hn, g3, g4, g7, hS7.ae 0 rfl, hS7.ae 1 rfl, hS7.ae 4 rfl, q1]
  refine iG (a8N o (ho.ab hS7) h0 rg sv (hr.ab hS7) hrl (iB (kG o rg (iE ks)) i) hci) ?_
  rintro r H7 ⟨hqx, hT2⟩
  have hS8 := hS7.trans hT2
  simp only [RT] at hS8
  obtain ⟨qv, rfl⟩ : ∃ w, w = r := ⟨r, rfl⟩
  simp (disch := omega) only [↓RA, RZ, simprocAttr, hn, q1]
  refine hS8.aq 3 rfl hqx.1.rd a5N (by rw [iI, show ((dd (pG (pN o rg (iB (kG o rg (iE ks)) i)))).flatMap jM).length = (dd (pG (pN o rg (iB (kG o rg (iE ks)) i)))).length * 2 from iI _]; omega) fun w1 H8 hS9 => ?_
  simp only [RT] at hS9
  simp (disch := omega) only [↓RA, RZ, simprocAttr, hn, g3, g4, g6, g13, g14, g15, q1]
  refine ⟨n - 1, by omega, i + 1, w1, by omega, by simp, rfl, ?_⟩
  rw [htk, dD, jI, dz, eo, di]
  exact hS9.pick [0, 1, 2, 3] (by decide) rfl
 simp (disch := omega) only [↓RA, RZ, simprocAttr, hn, g7, q1]
 have hii : i = (kG o rg (iE ks)).length := by omega
 have hli := hle i
 rw [hii, dM] at hS5
 rw [hii, dM] at hli
 refine c0E hS5 3 rfl (by omega) hsm fun HS hSS => ?_
 simp only [gj, fh] at hSS
 simp (disch := omega) only [↓RA, RZ, simprocAttr, hn, g7, q1]
 have hM1 := hSS.pick (os' := [⟨ov, 2, _⟩]) [3] (by decide) rfl
 have hR1 := hSS.pick (os' := [⟨ov, 2, _⟩, ⟨ptr A1 0 4, 0, _⟩, ⟨ptr A2 0 3, 0, _⟩, ⟨cv, 2, _⟩]) [3, 0, 1, 2] (by decide) rfl
 refine iG (rH hM1.aD (by rw [lR]; omega)) ?_
 rintro r H9 ⟨rest, hb, hrd, hT3⟩
 have hS10 := hR1.frame hT3
 simp only [RT] at hS10
 have hrr := hrd _ (hS10.rd 0 rfl)
 have hrc := hrr.cells
 simp (disch := omega) only [↓RA, RZ, simprocAttr, hn, c5L, q1]
 refine ⟨⟨⟨hrr, jQ, by decide⟩, fun b h => ?_⟩, hS10.forget⟩
 rcases hS10.new _ (dJ ..) b (hb b h) with h | h
 ·exact h
 ·exact h.elim
end Go.Ds
namespace Go.Ds
open Go.Proofs
variable {H : Heap}
set_option maxRecDepth 10000
set_option maxHeartbeats 1000000
end Go.Ds
namespace Go.Ds
open Go.Proofs Go.Proofs.Tryz
variable {H : Heap}
set_option maxRecDepth 10000
set_option maxHeartbeats 1000000
theorem b3T {x y : Int × Int} : cf2 x y < 0 ↔ wI x y := by
 unfold cf2 wI
 split
 ·omega
 ·split
  ·omega
  ·split
   ·omega
   ·split <;> omega
theorem b7e {x y : Int × Int} : cf2 x y = 0 ↔ x = y := by
 unfold cf2
 constructor
 ·intro h
  split at h
  ·omega
  ·split at h
   ·omega
   ·split at h
    ·omega
    ·split at h
     ·omega
     ·exact gm (by omega) (by omega)
 ·rintro rfl
  rw [if_neg (by omega), if_neg (by omega), if_neg (by omega), if_neg (by omega)]
theorem a4L {xs : List Ct} (hs : xs.Pairwise wI) {i j : Nat} (h : i < j) (hj : j < xs.length) : wI (iB xs i) (iB xs j) := by
 rw [jV _ _ (by omega), jV _ _ hj]
 exact eF.1 hs i j (by omega) hj h
theorem c2k (v : Value) (xs : List Ct) (hv : Sl 2 jM H v xs) (hl : xs.length < 1000000000) (hs : xs.Pairwise wI) (t : Ct) :
 Fn prog 118 [v, .agg #[I t.1, I t.2], .func (.func 119) #[] #[]] H fun r H' => ∃ k : Nat, r = .tuple #[I k, .bool (decide (t ∈ xs))] ∧ St prog H H' [] := by
 refine .bd func118 rfl (by kernel_rfl) (m := 49) rfl fun l hn g0 g1 g2 => ?_
 simp (disch := omega) only [↓RA, RB, simprocAttr, g1]
 refine (sR H).eNew 2 [I t.1, I t.2] rfl rfl rfl pL fun A1 H1 hS1 => ?_
 simp only [RT] at hS1
 simp (disch := omega) only [↓RA, RZ, simprocAttr, hn, g0, (hS1.sl hv).len]
 refine Wp.ak (fun n l H' => l.length = 49 ∧ get l 0 = v ∧ get l 2 = (.func (.func 119) #[] #[]) ∧ get l 4 = (ptr A1 0 2) ∧ get l 6 = I 0 ∧ get l 7 = (.bool false) ∧ get l 8 = I xs.length ∧ ∃ (i : Nat) (j : Nat), (n + i = j ∧ j ≤ xs.length ∧ (∀ q, q < i → wI (iB xs q) t) ∧ ∀ q, j ≤ q → q < xs.length → ¬ wI (iB xs q) t) ∧ get l 9 = I i ∧ get l 10 = I j ∧ St prog H H' [⟨ptr A1 0 2, 0, [I t.1, I t.2]⟩]) xs.length ?_ ?_
 ·simp (disch := omega) only [RB, RC, simprocAttr, hn, g0, g2]
  exact ⟨0, xs.length, ⟨by omega, by omega, fun q hq => absurd hq (dL _), fun q h1 h2 => absurd h2 (by omega)⟩, rfl, rfl, hS1⟩
 rintro n l H2 ⟨hn, g0, g2, g4, g6, g7, g8, i, j, ⟨h1,h2,h3,h4⟩, g9, oC, hS2⟩
 simp (disch := omega) only [↓RA, RB, simprocAttr, hn, g9, oC]
 refine iA (fun q1 => ?_) (fun q1 => ?_)
 ·obtain ⟨m, hm⟩ : ∃ m : Nat, (i + j) / 2 = m := ⟨_, rfl⟩
  have e1 : ((i : Int) + j).fdiv (2 ^ min 1 (IntKind.bits .u64)) = ((m : Nat) : Int) := by
   have h := a0x (i + j) 1 (by omega)
   rw [eJ] at h
   rw [← hm]
   exact h
  simp (disch := omega) only [↓RA, RZ, simprocAttr, hn, g9, oC, q1, e1]
  refine Wp.drw kC (by kernel_rfl) ?_
  simp (disch := omega) only [↓RA, RZ, simprocAttr, hn, g0, g2]
  simp (disch := omega) only [↓RA, RZ, simprocAttr, hn, g4, (hS2.sl hv).idx, (hS2.sl hv).ae, jM, hS2.ae 0 rfl]
  refine hS2.cF (a4y (iB xs m) t) fun H3 hS3 => ?_
  simp (disch := omega) only [↓RA, RB, simprocAttr, hn]
  refine iA (fun q2 => ?_) (fun q2 => ?_)
  ·have hlt := b3T.1 q2
   simp (disch := omega) only [↓RA, RZ, simprocAttr, hn, g0, g2, g4, g6, g7, g8, oC, q2]
   refine ⟨j - (m + 1), by omega, m + 1, j, ⟨by omega, h2, fun q hq => ?_, h4⟩, by simp, rfl, hS3⟩
   by_cases e : q = m
   ·rw [e]; exact hlt
   ·exact zQ (a4L hs (show q < m by omega) (by omega)) hlt
  have hnl : ¬ wI (iB xs m) t := fun h => q2 (b3T.2 h)
  simp (disch := omega) only [↓RA, RZ, simprocAttr, hn, g0, g2, g4, g6, g7, g8, g9, q2]
  refine ⟨m - i, by omega, i, m, ⟨by omega, by omega, h3, fun q hq hql h => ?_⟩, rfl, by simp, hS3⟩
  by_cases e : q = m
  ·rw [e] at h; exact hnl h
  ·exact hnl (zQ (a4L hs (show m < q by omega) hql) h)
 have hij : i = j := by omega
 have hno : ∀ q, q < xs.length → q ≠ i → iB xs q ≠ t := fun q hq hne e => by
  by_cases hqi : q < i
  ·have := h3 q hqi
   rw [e] at this
   exact a1m this
  ·have h5 := h4 i (by omega) (by omega)
   have h6 := a4L hs (show i < q by omega) hq
   rw [e] at h6
   exact h5 h6
 simp (disch := omega) only [↓RA, RC, simprocAttr, q1]
 refine Wp.drw kC (by kernel_rfl) ?_
 simp (disch := omega) only [↓RA, RZ, simprocAttr, hn, g8, g9]
 refine jH (fun q3 => ?_) (fun q3 => ?_)
 ·simp (disch := omega) only [↓RA, RZ, simprocAttr, hn, g0, g2, g4, g9, (hS2.sl hv).idx, (hS2.sl hv).ae, jM, hS2.ae 0 rfl, q3]
  refine hS2.cF (a4y (iB xs i) t) fun H4 hS4 => ?_
  simp (disch := omega) only [↓RA, RZ, simprocAttr, hn, c0A, q3]
  have he : decide (cf2 (iB xs i) t = 0) = decide (t ∈ xs) := by
   rw [decide_eq_decide, b7e]
   constructor
   ·intro e
    rw [← e]
    exact iD (by omega)
   ·intro hm
    obtain ⟨q, hq, e⟩ := dO.1 hm
    rw [← jV _ _ hq] at e
    by_cases hqi : q = i
    ·rw [hqi] at e; exact e
    ·exact absurd e (hno q hq hqi)
  exact ⟨i, by rw [← he], hS4.forget⟩
 have hf : decide (t ∈ xs) = false := by
  rw [decide_eq_false_iff_not]
  intro hm
  obtain ⟨q, hq, e⟩ := dO.1 hm
  rw [← jV _ _ hq] at e
  exact hno q hq (by omega) e
 simp (disch := omega) only [↓RA, RZ, simprocAttr, hn, c0A, q3]
 exact ⟨i, by rw [hf], hS2.forget⟩
def a1X (xs ys : List Ct) : List Ct := xs.filter fun c => !decide (c ∈ ys)
theorem a5W (xs ys : List Ct) : (a1X xs ys).length ≤ xs.length := ed _ _
theorem b0e (xs ys : List Ct) (i : Nat) (h : i < xs.length) : a1X (xs.take (i + 1)) ys = a1X (xs.take i) ys ++ (if iB xs i ∈ ys then [] else [iB xs i]) := by
 unfold a1X
 rw [kH xs i h, eM]
 congr 1
 by_cases e : iB xs i ∈ ys <;> simp [e]
theorem a6G (v w : Value) (xs ys : List Ct) (hv : Sl 2 jM H v xs) (hw : Sl 2 jM H w ys) (hl : xs.length < 100000000) (hl2 : ys.length < 100000000) (hs : ys.Pairwise wI) :
 Fn prog 88 [v, w] H fun r H' => St prog H H' [⟨r, 2, pr (a1X xs ys)⟩] := by
 refine .aH func88 rfl (by kernel_rfl) (m := 30) rfl fun l hn g0 g1 => ?_
 simp (disch := omega) only [↓RA, RZ, simprocAttr, hn, g0, ((sR H).sl hv).len]
 have hS1 := (sR H).nil 1
 simp only [RT] at hS1
 refine Wp.ak (fun n l H' => l.length = 30 ∧ get l 1 = w ∧ get l 4 = (.slice none 0 0) ∧ get l 10 = v ∧ get l 11 = I xs.length ∧ ∃ (i : Nat) (ov : Value), (n + i = xs.length) ∧ get l 12 = I i ∧ get l 5 = ov ∧ St prog H H' [⟨ov, 2, pr (a1X (xs.take i) ys)⟩]) xs.length ?_ ?_
 ·simp (disch := omega) only [RB, RC, simprocAttr, hn, g1]
  exact ⟨0, .slice none 0 0, by omega, rfl, rfl, hS1⟩
 rintro n l H1 ⟨hn, g1, g4, oC, g11, i, ov, hi, g12, g5, hS2⟩
 simp (disch := omega) only [↓RA, RB, simprocAttr, hn, g11, g12]
 refine iA (fun q1 => ?_) (fun q1 => ?_)
 ·have hsu := b0e xs ys i (by omega)
  have hle := a5W (xs.take i) ys
  have htl := List.length_take_le i xs
  simp (disch := omega) only [↓RA, RZ, simprocAttr, hn, oC, g12, (hS2.sl hv).idx, (hS2.sl hv).ae, jM, q1]
  refine hS2.eNew 2 [I 0, I 0] rfl rfl rfl pL fun A1 H2 hS3 => ?_
  simp only [RT] at hS3
  simp (disch := omega) only [↓RA, RZ, simprocAttr, hn, q1]
  refine hS3.aa 1 rfl [I (iB xs i).1, I (iB xs i).2] rfl rfl pL (by simp) fun H3 hS4 => ?_
  simp only [RT] at hS4
  simp (disch := omega) only [↓RA, RZ, simprocAttr, hn, g1, hS4.ae 1 rfl, q1]
  refine iG (c2k w ys (hS4.sl hw) (by omega) hs (iB xs i)) ?_
  rintro r H4 ⟨k, rfl, hT1⟩
  have hS5 := hS4.trans hT1
  simp only [RT] at hS5
  simp (disch := omega) only [↓RA, RZ, simprocAttr, hn, q1]
  refine jL (fun q2 => ?_) (fun q2 => ?_)
  ·have hni : ¬ iB xs i ∈ ys := by simpa using q2
   rw [if_neg hni] at hsu
   simp (disch := omega) only [↓RA, RZ, simprocAttr, hn, g5, hS5.ae 1 rfl, q1, q2]
   refine hS5.aj [I (iB xs i).1, I (iB xs i).2] a5N c2N rfl rfl (by simp [Value.cells]) rfl rfl (by decide) (by decide) fun w1 H5 hS6 => ?_
   simp only [RT] at hS6
   simp (disch := omega) only [↓RA, RZ, simprocAttr, hn, q1, q2]
   refine hS6.aq 0 rfl (hS6.rd 2 rfl) a5N (by rw [iI]; simp only [dY, eK]; omega) fun w2 H6 hS7 => ?_
   simp only [RT] at hS7
   simp (disch := omega) only [↓RA, RZ, simprocAttr, hn, g1, g4, oC, g11, g12, q1, q2]
   refine ⟨n - 1, by omega, i + 1, w2, by omega, by simp, rfl, ?_⟩
   rw [hsu, jI]
   exact hS7.pick [0] (by decide) rfl
  have hni : iB xs i ∈ ys := by simpa using q2
  rw [if_pos hni, di] at hsu
  simp (disch := omega) only [↓RA, RZ, simprocAttr, hn, g1, g4, oC, g11, g12, g5, q1, q2]
  refine ⟨n - 1, by omega, i + 1, ov, by omega, by simp, rfl, ?_⟩
  rw [hsu]
  exact hS5.pick [0] (by decide) rfl
 simp (disch := omega) only [↓RA, RZ, simprocAttr, hn, g5, c6p, q1]
 have hii : i = xs.length := by omega
 rw [hii, dM] at hS2
 exact hS2
end Go.Ds
namespace Go.Ds
open Go.Proofs
set_option maxRecDepth 10000
section
variable {o : Org} {b : Nat → Nat} {l : List Ct}
end
def uN (o : Org) (p : Ct) : Int := iB (iB o.ranks p.1.toNat).wind p.2.toNat
def rL (o : Org) (l : List Ct) : Int := l.foldl (fun n p => oB (n + uN o p)) 0
theorem a1R (o : Org) (l : List Ct) (i : Nat) (h : i < l.length) : rL o (l.take (i + 1)) = oB (rL o (l.take i) + uN o (iB l i)) := by
 unfold rL
 rw [kH l i h, fu]
 rfl
end Go.Ds
namespace Go.Ds
open Go.Proofs Go.Proofs.Tryz
variable {H : Heap}
set_option maxRecDepth 10000
set_option maxHeartbeats 1000000
theorem a2c (o : Org) (ho : o.In H) (v : Value) (ps : List Ct) (hv : Sl 2 jM H v ps) (hl : ps.length < 100000000) (hp : ∀ p ∈ ps, IsP o p) :
 Fn prog 43 [.agg #[.string o.name, o.rv, o.dv, o.cv], v] H fun r H' => r = I (rL o ps) ∧ St prog H H' [] := by
 refine .aH func43 rfl (by kernel_rfl) (m := 29) rfl fun l hn g0 g1 => ?_
 simp (disch := omega) only [↓RA, RB, simprocAttr, g0]
 refine (sR H).eNew 4 [(.string o.name), o.rv, o.dv, o.cv] rfl rfl (by simp [OC, ((sR H).sl ho.1).cells.2.1, ((sR H).sl ho.2.2.1).cells.2.1, ((sR H).sl ho.2.2.2.2.1).cells.2.1]) lU fun A1 H1 hS1 => ?_
 simp only [RT] at hS1
 simp (disch := omega) only [↓RA, RZ, simprocAttr, hn, g1, (hS1.sl hv).len]
 refine Wp.ak (fun n l H' => l.length = 29 ∧ get l 2 = (ptr A1 0 4) ∧ get l 4 = I 0 ∧ get l 8 = v ∧ get l 9 = I ps.length ∧ ∃ (i : Nat), (n + i = ps.length) ∧ get l 10 = I i ∧ get l 5 = I (rL o (ps.take i)) ∧ St prog H H' [⟨ptr A1 0 4, 0, [(.string o.name), o.rv, o.dv, o.cv]⟩]) ps.length ?_ ?_
 ·simp (disch := omega) only [RB, RC, simprocAttr, hn]
  exact ⟨0, by omega, rfl, rfl, hS1⟩
 rintro n l H2 ⟨hn, g2, g4, g8, g9, i, hi, oC, g5, hS2⟩
 simp (disch := omega) only [↓RA, RB, simprocAttr, hn, g9, oC]
 refine iA (fun q1 => ?_) (fun q1 => ?_)
 ·have hpi := hp _ (iD (xs := ps) (j := i) (by omega))
  obtain ⟨e, he⟩ : ∃ e : Nat, (iB ps i).1 = e := ⟨(iB ps i).1.toNat, by have := hpi.1; omega⟩
  obtain ⟨f, hf⟩ : ∃ f : Nat, (iB ps i).2 = f := ⟨(iB ps i).2.toNat, by have := hpi.2.2.1; omega⟩
  have hel : e < o.ranks.length := by have := hpi.2.1; omega
  have hfl : f < (iB o.ranks e).wind.length := by
   have := hpi.2.2.2
   rw [he, dG] at this
   omega
  have hsu := a1R o ps i (by omega)
  have hwt : uN o (iB ps i) = iB (iB o.ranks e).wind f := by unfold uN; rw [he, hf, dG, dG]
  rw [hwt] at hsu
  simp (disch := omega) only [↓RA, RZ, simprocAttr, hn, g8, oC, (hS2.sl hv).idx, (hS2.sl hv).ae, jM, q1]
  refine hS2.eNew 2 [I 0, I 0] rfl rfl rfl pL fun A2 H3 hS3 => ?_
  simp only [RT] at hS3
  simp (disch := omega) only [↓RA, RZ, simprocAttr, hn, q1]
  refine hS3.aa 1 rfl [I (iB ps i).1, I (iB ps i).2] rfl rfl pL (by simp) fun H4 hS4 => ?_
  simp only [RT] at hS4
  simp (disch := omega) only [↓RA, RZ, simprocAttr, q1]
  refine Wp.drw kC (by kernel_rfl) ?_
  simp (disch := omega) only [↓RA, RZ, simprocAttr, hn, g2, g5, hS4.ld 0 rfl]
  simp (disch := omega) only [↓RA, RZ, simprocAttr, hn, g2, g4, g8, g9, oC, hS4.ld 1 rfl, (hS4.sl ho.1).idx, (hS4.sl ho.1).aZ, (hS4.sl ho.1).ld, Rk.cells, (hS4.sl (ho.2.1 (iB o.ranks e) (iD (by omega))).1).idx, (hS4.sl (ho.2.1 (iB o.ranks e) (iD (by omega))).1).ld, one, he, hf]
  refine ⟨n - 1, by omega, i + 1, by omega, by simp, ?_, hS4.pick [0] (by decide) rfl⟩
  first | (rw [hsu]; done) | (rw [hsu]; rfl) | (rw [hsu]; simp)
 simp (disch := omega) only [↓RA, RZ, simprocAttr, hn, g5, c5X, q1]
 have hii : i = ps.length := by omega
 rw [hii, dM]
 exact ⟨rfl, hS2.forget⟩
theorem b4Q (o : Org) (ho : o.In H) (v : Value) (ps : List Ct) (hv : Sl 2 jM H v ps) (hl : ps.length < 100000000) (hp : ∀ p ∈ ps, IsP o p) :
 Fn prog 22 [.agg #[.string o.name, o.rv, o.dv, o.cv], v] H fun r H' => r = I (rL o ps) ∧ St prog H H' [] := by
 refine .aH func22 rfl (by kernel_rfl) (m := 29) rfl fun l hn g0 g1 => ?_
 simp (disch := omega) only [↓RA, RB, simprocAttr, g0]
 refine (sR H).eNew 4 [(.string o.name), o.rv, o.dv, o.cv] rfl rfl (by simp [OC, ((sR H).sl ho.1).cells.2.1, ((sR H).sl ho.2.2.1).cells.2.1, ((sR H).sl ho.2.2.2.2.1).cells.2.1]) lU fun A1 H1 hS1 => ?_
 simp only [RT] at hS1
 simp (disch := omega) only [↓RA, RZ, simprocAttr, hn, g1, (hS1.sl hv).len]
 refine Wp.ak (fun n l H' => l.length = 29 ∧ get l 2 = (ptr A1 0 4) ∧ get l 4 = I 0 ∧ get l 8 = v ∧ get l 9 = I ps.length ∧ ∃ (i : Nat), (n + i = ps.length) ∧ get l 10 = I i ∧ get l 5 = I (rL o (ps.take i)) ∧ St prog H H' [⟨ptr A1 0 4, 0, [(.string o.name), o.rv, o.dv, o.cv]⟩]) ps.length ?_ ?_
 ·simp (disch := omega) only [RB, RC, simprocAttr, hn]
  exact ⟨0, by omega, rfl, rfl, hS1⟩
 rintro n l H2 ⟨hn, g2, g4, g8, g9, i, hi, oC, g5, hS2⟩
 simp (disch := omega) only [↓RA, RB, simprocAttr, hn, g9, oC]
 refine iA (fun q1 => ?_) (fun q1 => ?_)
 ·have hpi := hp _ (iD (xs := ps) (j := i) (by omega))
  obtain ⟨e, he⟩ : ∃ e : Nat, (iB ps i).1 = e := ⟨(iB ps i).1.toNat, by have := hpi.1; omega⟩
  obtain ⟨f, hf⟩ : ∃ f : Nat, (iB ps i).2 = f := ⟨(iB ps i).2.toNat, by have := hpi.2.2.1; omega⟩
  have hel : e < o.ranks.length := by have := hpi.2.1; omega
  have hfl : f < (iB o.ranks e).wind.length := by
   have := hpi.2.2.2
   rw [he, dG] at this
   omega
  have hsu := a1R o ps i (by omega)
  have hwt : uN o (iB ps i) = iB (iB o.ranks e).wind f := by unfold uN; rw [he, hf, dG, dG]
  rw [hwt] at hsu
  simp (disch := omega) only [↓RA, RZ, simprocAttr, hn, g8, oC, (hS2.sl hv).idx, (hS2.sl hv).ae, jM, q1]
  refine hS2.eNew 2 [I 0, I 0] rfl rfl rfl pL fun A2 H3 hS3 => ?_
  simp only [RT] at hS3
  simp (disch := omega) only [↓RA, RZ, simprocAttr, hn, q1]
  refine hS3.aa 1 rfl [I (iB ps i).1, I (iB ps i).2] rfl rfl pL (by simp) fun H4 hS4 => ?_
  simp only [RT] at hS4
  simp (disch := omega) only [↓RA, RZ, simprocAttr, q1]
  refine Wp.drw kC (by kernel_rfl) ?_
  simp (disch := omega) only [↓RA, RZ, simprocAttr, hn, g2, g5, hS4.ld 0 rfl]
  simp (disch := omega) only [↓RA, RZ, simprocAttr, hn, g2, g4, g8, g9, oC, hS4.ld 1 rfl, (hS4.sl ho.1).idx, (hS4.sl ho.1).aZ, (hS4.sl ho.1).ld, Rk.cells, (hS4.sl (ho.2.1 (iB o.ranks e) (iD (by omega))).1).idx, (hS4.sl (ho.2.1 (iB o.ranks e) (iD (by omega))).1).ld, one, he, hf]
  refine ⟨n - 1, by omega, i + 1, by omega, by simp, ?_, hS4.pick [0] (by decide) rfl⟩
  first | (rw [hsu]; done) | (rw [hsu]; rfl) | (rw [hsu]; simp)
 simp (disch := omega) only [↓RA, RZ, simprocAttr, hn, g5, c6D, q1]
 have hii : i = ps.length := by omega
 rw [hii, dM]
 exact ⟨rfl, hS2.forget⟩
theorem b0C {o : Org} {rg : Reg} {ks : List Nt} : ∀ p ∈ nS o rg ks, IsP o p := by
 intro p hp
 unfold nS at hp
 split at hp
 ·exact qR hp
 ·exact absurd hp dX
theorem b4k {o : Org} {rg : Reg} {ks : List Nt} (hok : ∀ x ∈ ks, Nt.Ok x) : (nS o rg ks).length ≤ 1000000 := by
 unfold nS
 split
 ·rename_i h
  obtain ⟨h1, h2⟩ := uU h
  exact qH (Org.aN (mD h1).1) rg (pD h2) (mC (nX hok h2))
 ·simp
def a7d (o : Org) (rg : Reg) (ks : List Nt) : Int := rL o (nS o rg ks)
theorem b3Q (hG : Glob gH H) (o : Org) (ho : o.In H) (rg : Reg) (sv : Value) (hr : rg.In H sv) (kv : Value) (ks : List Nt) (hk : Ks H kv ks) :
 Fn prog 15 [.agg #[.string o.name, o.rv, o.dv, o.cv], .agg #[sv, .int .u64 rg.cpl, .int .u64 rg.off], kv] H fun r H' => r = .tuple #[I (a7d o rg ks), I (rkE o rg ks)] ∧ St prog H H' [] := by
 have hle := b4k (o := o) (rg := rg) hk.ok
 refine .bd func15 rfl (by kernel_rfl) (m := 23) rfl fun l hn g0 g1 g2 => ?_
 simp (disch := omega) only [↓RA, RB, simprocAttr, g0]
 refine (sR H).eNew 4 [(.string o.name), o.rv, o.dv, o.cv] rfl rfl (by simp [OC, ((sR H).sl ho.1).cells.2.1, ((sR H).sl ho.2.2.1).cells.2.1, ((sR H).sl ho.2.2.2.2.1).cells.2.1]) lU fun A1 H1 hS1 => ?_
 simp only [RT] at hS1
 simp (disch := omega) only [↓RA, RB, simprocAttr, g1]
 refine hS1.eNew 3 [sv, (.int .u64 rg.cpl), (.int .u64 rg.off)] rfl rfl (by simp [OC, (hS1.sl hr.1).cells.2.1]) oA fun A2 H2 hS2 => ?_
 simp only [RT] at hS2
 simp (disch := omega) only [↓RA, RZ, simprocAttr, hn, g2, hS2.ae 0 rfl, hS2.ae 1 rfl]
 refine iG (a0G (hS2.gl hG) o (ho.ab hS2) rg sv (hr.ab hS2) kv ks (hk.ab hS2)) ?_
 rintro r H3 ⟨pv, rfl, hx, hT1⟩
 have hS3 := hS2.trans hT1
 simp only [RT] at hS3
 simp (disch := omega) only [↓RA, RB, simprocAttr, hn]
 refine iA (fun h1 => ?_) (fun h1 => ?_)
 ·have hs : a7d o rg ks = 0 := by unfold a7d nS; rw [if_neg h1]; rfl
  simp (disch := omega) only [↓RA, RZ, simprocAttr, hn, c3O, h1]
  exact ⟨by rw [hs], hS3.forget⟩
 have h0 := du.1 h1
 simp (disch := omega) only [↓RA, RZ, simprocAttr, hn, hS3.ae 0 rfl, h1]
 refine hS3.cF (a2c o (ho.ab hS3) pv (nS o rg ks) hx.1 (by omega) b0C) fun H4 hS4 => ?_
 simp (disch := omega) only [↓RA, RZ, simprocAttr, hn, c3O, h1]
 rw [h0]
 exact ⟨rfl, hS4.forget⟩
def tV (o : Org) (rg : Reg) (c : Ct) : Int := rL o (ofF o rg c)
theorem c2J {o : Org} {rg : Reg} {c : Ct} : (ofF o rg c).length ≤ 1000000 := by
 by_cases h : a2X o rg c = 0
 ·exact c2y (Org.aN (mD (a0r h).1).1) rg c
 ·unfold ofF
  rw [if_neg h]
  simp
theorem b8Q (o : Org) (ho : o.In H) (rg : Reg) (sv : Value) (hr : rg.In H sv) (c : Ct) :
 Fn prog 28 [.agg #[.string o.name, o.rv, o.dv, o.cv], .agg #[sv, .int .u64 rg.cpl, .int .u64 rg.off], .agg #[I c.1, I c.2]] H fun r H' => r = .tuple #[I (tV o rg c), I (a2X o rg c)] ∧ St prog H H' [] := by
 have hle := c2J (o := o) (rg := rg) (c := c)
 refine .bd func28 rfl (by kernel_rfl) (m := 23) rfl fun l hn g0 g1 g2 => ?_
 simp (disch := omega) only [↓RA, RB, simprocAttr, g0]
 refine (sR H).eNew 4 [(.string o.name), o.rv, o.dv, o.cv] rfl rfl (by simp [OC, ((sR H).sl ho.1).cells.2.1, ((sR H).sl ho.2.2.1).cells.2.1, ((sR H).sl ho.2.2.2.2.1).cells.2.1]) lU fun A1 H1 hS1 => ?_
 simp only [RT] at hS1
 simp (disch := omega) only [↓RA, RB, simprocAttr, g1]
 refine hS1.eNew 3 [sv, (.int .u64 rg.cpl), (.int .u64 rg.off)] rfl rfl (by simp [OC, (hS1.sl hr.1).cells.2.1]) oA fun A2 H2 hS2 => ?_
 simp only [RT] at hS2
 simp (disch := omega) only [↓RA, RB, simprocAttr, g2]
 refine hS2.eNew 2 [I c.1, I c.2] rfl rfl rfl lQ fun A3 H3 hS3 => ?_
 simp only [RT] at hS3
 simp (disch := omega) only [↓RA, RZ, simprocAttr, hn, hS3.ae 0 rfl, hS3.ae 1 rfl, hS3.ae 2 rfl]
 refine iG (c3p o (ho.ab hS3) rg sv (hr.ab hS3) c) ?_
 rintro r H4 ⟨pv, rfl, hx, hT1⟩
 have hS4 := hS3.trans hT1
 simp only [RT] at hS4
 simp (disch := omega) only [↓RA, RB, simprocAttr, hn]
 refine iA (fun h1 => ?_) (fun h1 => ?_)
 ·have hs : tV o rg c = 0 := by unfold tV ofF; rw [if_neg h1]; rfl
  simp (disch := omega) only [↓RA, RZ, simprocAttr, hn, c5d, h1]
  exact ⟨by rw [hs], hS4.forget⟩
 have h0 := du.1 h1
 simp (disch := omega) only [↓RA, RZ, simprocAttr, hn, hS4.ae 0 rfl, h1]
 refine hS4.cF (a2c o (ho.ab hS4) pv (ofF o rg c) hx.1 (by omega) (fun p hp => b8o hp)) fun H5 hS5 => ?_
 simp (disch := omega) only [↓RA, RZ, simprocAttr, hn, c5d, h1]
 rw [h0]
 exact ⟨rfl, hS5.forget⟩
theorem c2Z (o : Org) (ho : o.In H) (h0 : organE o = 0) (rg : Reg) (sv : Value) (hr : rg.In H sv) (hrl : rg.stops.length = o.dvs.length) (kv : Value) (ks : List Nt) (hk : Ks H kv ks) (hke : mH o ks = 0) :
 Fn prog 18 [.agg #[.string o.name, o.rv, o.dv, o.cv], .agg #[sv, .int .u64 rg.cpl, .int .u64 rg.off], kv] H fun r H' => r = I (rL o (jO o rg (iE ks))) ∧ St prog H H' [] := by
 have hf := Org.aN h0
 have hle := qH hf rg (pD hke) (mC (nX hk.ok hke))
 refine .bd func18 rfl (by kernel_rfl) (m := 13) rfl fun l hn g0 g1 g2 => ?_
 simp (disch := omega) only [↓RA, RB, simprocAttr, g0]
 refine (sR H).eNew 4 [(.string o.name), o.rv, o.dv, o.cv] rfl rfl (by simp [OC, ((sR H).sl ho.1).cells.2.1, ((sR H).sl ho.2.2.1).cells.2.1, ((sR H).sl ho.2.2.2.2.1).cells.2.1]) lU fun A1 H1 hS1 => ?_
 simp only [RT] at hS1
 simp (disch := omega) only [↓RA, RB, simprocAttr, g1]
 refine hS1.eNew 3 [sv, (.int .u64 rg.cpl), (.int .u64 rg.off)] rfl rfl (by simp [OC, (hS1.sl hr.1).cells.2.1]) oA fun A2 H2 hS2 => ?_
 simp only [RT] at hS2
 simp (disch := omega) only [↓RA, RB, simprocAttr]
 refine Wp.aO kC [(0, 5)] (by kernel_rfl) (by kernel_rfl) ?_
 simp (disch := omega) only [↓RA, RZ, simprocAttr, hn, g2, hS2.ae 0 rfl, hS2.ae 1 rfl]
 refine iG (vV o (ho.ab hS2) h0 rg sv (hr.ab hS2) hrl kv ks (hk.ab hS2) hke) ?_
 rintro r H3 ⟨hx, hT1⟩
 have hS3 := hS2.trans hT1
 simp only [RT] at hS3
 obtain ⟨pv, rfl⟩ : ∃ w, w = r := ⟨r, rfl⟩
 simp (disch := omega) only [↓RA, RZ, simprocAttr, hn]
 refine hS3.cF (b4Q o (ho.ab hS3) pv (jO o rg (iE ks)) hx.1 (by omega) (fun p hp => qR hp)) fun H4 hS4 => ?_
 simp (disch := omega) only [↓RA, RZ, simprocAttr, hn, hS3.ae 0 rfl, c6T]
 exact hS4.forget
end Go.Ds
namespace Go.Ds
open Go.Proofs
set_option maxRecDepth 10000
def grS (f : Ct → Int) (a : Ct × Int) (c : Ct) : Ct × Int := if f c > a.2 then (c, f c) else a
def grF (f : Ct → Int) (l : List Ct) (a : Ct × Int) : Ct × Int := l.foldl (grS f) a
theorem b8z (f : Ct → Int) (l : List Ct) (c : Ct) (a : Ct × Int) : grF f (l ++ [c]) a = grS f (grF f l a) c := by
 unfold grF
 rw [fu]
 rfl
end Go.Ds
namespace Go.Ds
open Go.Proofs Go.Proofs.Tryz
variable {H : Heap}
set_option maxRecDepth 10000
set_option maxHeartbeats 1000000
structure Kv where
 v : Value
 l : List Nt
 deriving Inhabited
def Kv.cells (k : Kv) : List Value := [k.v]
def Kv.In (H : Heap) (k : Kv) : Prop := Ks H k.v k.l
theorem Kv.In.ab {P : Program} {H' : Heap} {k : Kv} {os : List Ob} (h : k.In H) (hS : St P H H' os) : k.In H' := Ks.ab h hS
def a0R (o : Org) (rg : Reg) (l : List Kv) : Int := if organE o ≠ 0 then organE o else if mX o rg ≠ 0 then mX o rg else if 200 < l.length then 4 else lG (fun j => mH o (iB l j).l) l.length
theorem b8X (o : Org) (ho : o.In H) (rg : Reg) (sv : Value) (hr : rg.In H sv) (lv : Value) (ls : List Kv) (hl : Sl 1 Kv.cells H lv ls) (hle : ls.length < 1000000000) (hk : ∀ k ∈ ls, k.In H) :
 Fn prog 49 [.agg #[.string o.name, o.rv, o.dv, o.cv], .agg #[sv, .int .u64 rg.cpl, .int .u64 rg.off], lv] H fun r H' => r = I (a0R o rg ls) ∧ St prog H H' [] := by
 have hlc := hl.cells
 refine .bd func49 rfl (by kernel_rfl) (m := 39) rfl fun l hn g0 g1 g2 => ?_
 simp (disch := omega) only [↓RA, RB, simprocAttr, g0]
 refine (sR H).eNew 4 [(.string o.name), o.rv, o.dv, o.cv] rfl rfl (by simp [OC, ((sR H).sl ho.1).cells.2.1, ((sR H).sl ho.2.2.1).cells.2.1, ((sR H).sl ho.2.2.2.2.1).cells.2.1]) lU fun A1 H1 hS1 => ?_
 simp only [RT] at hS1
 simp (disch := omega) only [↓RA, RB, simprocAttr, g1]
 refine hS1.eNew 3 [sv, (.int .u64 rg.cpl), (.int .u64 rg.off)] rfl rfl (by simp [OC, (hS1.sl hr.1).cells.2.1]) oA fun A2 H2 hS2 => ?_
 simp only [RT] at hS2
 simp (disch := omega) only [↓RA, RZ, simprocAttr, hn, hS2.ae 0 rfl]
 refine hS2.cF (yR o (ho.ab hS2)) fun H3 hS3 => ?_
 simp (disch := omega) only [↓RA, RB, simprocAttr, hn]
 refine iA (fun h1 => ?_) (fun h1 => ?_)
 ·simp (disch := omega) only [↓RA, RZ, simprocAttr, hn, b6b, h1]
  exact ⟨by rw [a0R, if_pos h1], hS3.forget⟩
 simp (disch := omega) only [↓RA, RZ, simprocAttr, hn, hS3.ae 0 rfl, hS3.ae 1 rfl, h1]
 refine hS3.cF (b5I o (ho.ab hS3) rg sv (hr.ab hS3)) fun H4 hS4 => ?_
 simp (disch := omega) only [↓RA, RZ, simprocAttr, hn, h1]
 refine iA (fun h2 => ?_) (fun h2 => ?_)
 ·simp (disch := omega) only [↓RA, RZ, simprocAttr, hn, b6b, h1, h2]
  exact ⟨by rw [a0R, if_neg h1, if_pos h2], hS4.forget⟩
 simp (disch := omega) only [↓RA, RZ, simprocAttr, hn, g2, (hS4.sl hl).len, h1, h2]
 refine iA (fun h3 => ?_) (fun h3 => ?_)
 ·simp (disch := omega) only [↓RA, RZ, simprocAttr, hn, b6b, h1, h2, h3]
  exact ⟨by rw [a0R, if_neg h1, if_neg h2, if_pos (by omega)], hS4.forget⟩
 have hE : a0R o rg ls = lG (fun j => mH o (iB ls j).l) ls.length := by rw [a0R, if_neg h1, if_neg h2, if_neg (by omega)]
 simp (disch := omega) only [↓RA, RZ, simprocAttr, hn, g2, (hS4.sl hl).len, h1, h2, h3]
 refine Wp.ak (fun n l H' => l.length = 39 ∧ get l 3 = (ptr A1 0 4) ∧ get l 26 = lv ∧ get l 27 = I ls.length ∧ ∃ (j : Nat), (n + j = ls.length ∧ ∀ q, q < j → mH o (iB ls q).l = 0) ∧ get l 28 = I j ∧ St prog H H' [⟨ptr A1 0 4, 0, [(.string o.name), o.rv, o.dv, o.cv]⟩, ⟨ptr A2 0 3, 0, [sv, (.int .u64 rg.cpl), (.int .u64 rg.off)]⟩]) ls.length ?_ ?_
 ·simp (disch := omega) only [RB, RC, simprocAttr, hn]
  exact ⟨0, ⟨by omega, fun q hq => absurd hq (dL _)⟩, rfl, hS4⟩
 rintro n l H5 ⟨hn, g3, g26, g27, j, ⟨hj,hz⟩, g28, hS5⟩
 simp (disch := omega) only [↓RA, RB, simprocAttr, hn, g27, g28]
 refine iA (fun q1 => ?_) (fun q1 => ?_)
 ·simp (disch := omega) only [↓RA, RZ, simprocAttr, hn, g3, g26, g28, (hS5.sl hl).idx, (hS5.sl hl).ld, Kv.cells, hS5.ae 0 rfl, q1]
  refine hS5.cF (a7x o (ho.ab hS5) (iB ls j).v (iB ls j).l ((hk _ (iD (by omega))).ab hS5)) fun H6 hS6 => ?_
  simp (disch := omega) only [↓RA, RZ, simprocAttr, hn, q1]
  refine iA (fun q2 => ?_) (fun q2 => ?_)
  ·simp (disch := omega) only [↓RA, RZ, simprocAttr, hn, b6b, q1, q2]
   exact ⟨by rw [hE, nF (fun j => mH o (iB ls j).l) ls.length j (by omega) q2 hz], hS6.forget⟩
  simp (disch := omega) only [↓RA, RZ, simprocAttr, hn, g3, g26, g27, g28, q1, q2]
  exact ⟨n - 1, by omega, j + 1, ⟨by omega, fun q hq => by rcases dr.1 hq with e | e; (· exact hz q e); (· rw [e]; exact du.1 q2)⟩, by simp, hS6.pick [0, 1] (by decide) rfl⟩
 simp (disch := omega) only [↓RA, RZ, simprocAttr, hn, b6b, q1]
 exact ⟨by rw [hE, kJ (fun j => mH o (iB ls j).l) ls.length fun q hq => hz q (by omega)], hS5.forget⟩
theorem a0T (a : Addr) (m c : Nat) : kV prog .eql 90 90 false true (.slice (some a) m c) (.slice none 0 0) = some (.bool false) := by kernel_rfl
theorem uD {v : Value} {a : Addr} {m c : Nat} (h : v = .slice (some a) m c) (K : Value → Prop) : kY prog .eql 90 90 false true v (.slice none 0 0) K = oS (.bool false) K := by
 subst h
 show jX (kV prog .eql 90 90 false true (.slice (some a) m c) (.slice none 0 0)) K = _
 rw [a0T]
 rfl
theorem zL : kV prog .eql 90 90 false true (.slice none 0 0) (.slice none 0 0) = some (.bool true) := by kernel_rfl
theorem oT (K : Value → Prop) : kY prog .eql 90 90 false true (.slice none 0 0) (.slice none 0 0) K = oS (.bool true) K := by
 show jX (kV prog .eql 90 90 false true (.slice none 0 0) (.slice none 0 0)) K = _
 rw [zL]
 rfl
theorem a8p (v : Value) (xs : List Ct) (hv : Sl 2 jM H v xs) (hl : xs.length < 100000000) : Fn prog 89 [v] H fun r H' => St prog H H' [⟨r, 2, xs.flatMap jM⟩] := by
 rcases hv.rd with ⟨rfl, h2⟩ | ⟨A, i, e, row, ty, rw', lo, ver, m, _, _, _, _, _, _, hvv⟩
 ·have hx : xs = [] := by
   have := congrArg List.length h2
   rw [show (xs.flatMap jM).length = xs.length * 2 from iR (n := 2) (cel := jM) (fun _ => rfl) xs, eK] at this
   exact fE.1 (by omega)
  subst hx
  refine .aT func89 rfl (by kernel_rfl) (m := 8) rfl fun l hn g0 => ?_
  have hbe := oT
  simp (disch := omega) only [↓RA, RB, simprocAttr, hn, g0, oT]
  have hS1 := (sR H).nil 1
  simp only [RT] at hS1
  simp (disch := omega) only [RB, simprocAttr, hn, c3F]
  exact hS1
 ·refine .aT func89 rfl (by kernel_rfl) (m := 8) rfl fun l hn g0 => ?_
  simp (disch := omega) only [↓RA, RB, simprocAttr, hn, g0, uD hvv]
  refine (sR H).bT qE fun w1 H1 hS1 => ?_
  simp only [RT] at hS1
  simp (disch := omega) only [↓RA, RZ, simprocAttr, hn, g0]
  refine hS1.aq 0 rfl (hS1.sl hv).rd qE (by rw [show (xs.flatMap jM).length = xs.length * 2 from iR (n := 2) (cel := jM) (fun _ => rfl) xs]; simp; omega) fun w2 H2 hS2 => ?_
  simp only [RT] at hS2
  simp (disch := omega) only [↓RA, RB, simprocAttr, hn, c3F]
  exact hS2
end Go.Ds
namespace Go.Ds
open Go.Proofs
variable {H : Heap}
set_option maxRecDepth 10000
set_option maxHeartbeats 1000000
end Go.Ds
namespace Go.Ds
open Go.Proofs Go.Proofs.Tryz
variable {H : Heap}
set_option maxRecDepth 10000
set_option maxHeartbeats 1000000
def a5q (o : Org) (rg : Reg) (ks : List Nt) (c : Ct) : Int := if rkE o rg ks ≠ 0 then rkE o rg ks else tY o c
def adF (o : Org) (rg : Reg) (ks : List Nt) (c : Ct) : List Ct := if a5q o rg ks c = 0 then a1X (jO o rg (iE ks ++ [c])) (jO o rg (iE ks)) else []
theorem b4F (hG : Glob gH H) (o : Org) (ho : o.In H) (hdv : o.dvs.length ≤ 7) (rg : Reg) (sv : Value) (hr : rg.In H sv) (kv : Value) (ks : List Nt) (hk : Ks H kv ks) (c : Ct) :
 Fn prog 54 [.agg #[.string o.name, o.rv, o.dv, o.cv], .agg #[sv, .int .u64 rg.cpl, .int .u64 rg.off], kv, .agg #[I c.1, I c.2]] H fun r H' => ∃ v, r = .tuple #[v, I (a5q o rg ks c)] ∧ Slx 2 jM H' (fun B => H.length ≤ B) v (adF o rg ks c) ∧ St prog H H' [] := by
 have hnil : ∀ {H' : Heap}, Slx 2 jM H' (fun B => H.length ≤ B) (.slice none 0 0) ([] : List Ct) := fun {H'} => ⟨⟨.inl ⟨rfl, rfl⟩, jQ, by decide⟩, fun b h => by simp [kI] at h⟩
 refine .cH func54 rfl (by kernel_rfl) (m := 42) rfl fun l hn g0 g1 g2 g3 => ?_
 simp (disch := omega) only [↓RA, RB, simprocAttr, g0]
 refine (sR H).eNew 4 [(.string o.name), o.rv, o.dv, o.cv] rfl rfl (by simp [OC, ((sR H).sl ho.1).cells.2.1, ((sR H).sl ho.2.2.1).cells.2.1, ((sR H).sl ho.2.2.2.2.1).cells.2.1]) lU fun A1 H1 hS1 => ?_
 simp only [RT] at hS1
 simp (disch := omega) only [↓RA, RB, simprocAttr, g1]
 refine hS1.eNew 3 [sv, (.int .u64 rg.cpl), (.int .u64 rg.off)] rfl rfl (by simp [OC, (hS1.sl hr.1).cells.2.1]) oA fun A2 H2 hS2 => ?_
 simp only [RT] at hS2
 simp (disch := omega) only [↓RA, RB, simprocAttr, g3]
 refine hS2.eNew 2 [I c.1, I c.2] rfl rfl rfl lQ fun A3 H3 hS3 => ?_
 simp only [RT] at hS3
 simp (disch := omega) only [↓RA, RZ, simprocAttr, hn, hS3.ae 0 rfl, hS3.ae 1 rfl]
 refine hS3.aj [sv, (.int .u64 rg.cpl), (.int .u64 rg.off)] b5S b3U rfl rfl (by first | (simp []; done) | simp [Value.cells]) (by first | (simp []; done) | simp [Value.cells]) (by simp [OC, (hS3.sl hr.1).cells.2.1]) (by decide) (by decide) fun w1 H4 hS4 => ?_
 simp only [RT] at hS4
 simp (disch := omega) only [↓RA, RZ, simprocAttr, hn, g2]
 refine hS4.cF (b6J o (ho.ab hS4) w1 [(sv, rg)] (hS4.aw 3 rfl (fun _ => rfl)) (by simp) (by intro p hp; rw [dA.1 hp]; exact hr.ab hS4) kv ks (hk.ab hS4)) fun H5 hS5 => ?_
 have hsc := a7H o sv rg ks
 simp (disch := omega) only [↓RA, RB, simprocAttr, hn, hsc]
 refine iA (fun h1 => ?_) (fun h1 => ?_)
 ·have hd : a5q o rg ks c = rkE o rg ks := by rw [a5q, if_pos h1]
  simp (disch := omega) only [↓RA, RZ, simprocAttr, hn, c2l, hsc, h1]
  rw [hd, adF, if_neg (by rw [hd]; exact h1)]
  exact ⟨.slice none 0 0, rfl, hnil, hS5.forget⟩
 have hd : a5q o rg ks c = tY o c := by rw [a5q, if_neg h1]
 have h0 := du.1 h1
 simp (disch := omega) only [↓RA, RZ, simprocAttr, hn, hS5.ae 0 rfl, hS5.ae 2 rfl, hsc, h1]
 refine hS5.cF (sJ o (ho.ab hS5) c) fun H6 hS6 => ?_
 simp (disch := omega) only [↓RA, RZ, simprocAttr, hn, hsc, h1]
 refine iA (fun h2 => ?_) (fun h2 => ?_)
 ·simp (disch := omega) only [↓RA, RZ, simprocAttr, hn, c2l, hsc, h1, h2]
  rw [hd, adF, if_neg (by rw [hd]; exact h2)]
  exact ⟨.slice none 0 0, rfl, hnil, hS6.forget⟩
 have h3 := du.1 h2
 have hc := (qX o c).1 h3
 obtain ⟨hz1, hz2⟩ := uU h0
 obtain ⟨hz3, hz4⟩ := mD hz1
 have hf := Org.aN hz3
 have hplc := nX hk.ok hz2
 have hkl := (nU hz2).2.1
 have hpl := a6Y ks ks.length
 have hpl2 : (iE ks).length ≤ 896 := by unfold iE; omega
 have hpll := pD hz2
 have hplc2 : ∀ x ∈ iE ks ++ [c], mN o x = true := fun x hx => by
  rcases dF.1 hx with h | h
  ·exact hplc x h
  ·rw [dA.1 h]; exact hc
 have hpll2 : (iE ks ++ [c]).length ≤ 1024 := by rw [dj, gr]; omega
 rw [hd, h3, adF, if_pos (by rw [hd]; exact h3)]
 simp (disch := omega) only [↓RA, RZ, simprocAttr, hn, g2, hsc, h1]
 refine iG ((a4o (hS6.gl hG) kv ks (hk.ab hS6) (by omega)).tr) ?_
 rintro r H7 ⟨-, hT3⟩
 have hS7 := hS6.trans hT3
 simp only [RT] at hS7
 obtain ⟨pv, rfl⟩ : ∃ w, w = r := ⟨r, rfl⟩
 simp (disch := omega) only [↓RA, RZ, simprocAttr, hn, hsc, h1]
 refine Wp.aO kC [(0, 4), (0, 7), (1, 4), (1, 7), (4, 0), (8, 0), (8, 4), (8, 7), (9, 0), (9, 4), (9, 7)] (by kernel_rfl) (by kernel_rfl) ?_
 simp (disch := omega) only [↓RA, RZ, simprocAttr, hn, hS7.ae 0 rfl, hS7.ae 1 rfl]
 refine iG ((a8p pv (iE ks) (hS7.aw 4 rfl jQ) (by omega)).tr) ?_
 rintro r H8 ⟨-, hT4⟩
 have hS8 := hS7.trans hT4
 simp only [RT] at hS8
 obtain ⟨qv, rfl⟩ : ∃ w, w = r := ⟨r, rfl⟩
 simp (disch := omega) only [↓RA, RZ, simprocAttr, hn, hS8.ae 2 rfl]
 refine hS8.aj [I c.1, I c.2] qE a2i rfl rfl (by simp [Value.cells]) rfl rfl (by decide) (by decide) fun w2 H9 hS9 => ?_
 simp only [RT] at hS9
 simp (disch := omega) only [↓RA, RZ, simprocAttr, hn]
 refine hS9.aq 5 rfl (hS9.rd 6 rfl) qE (by rw [show ((iE ks).flatMap jM).length = (iE ks).length * 2 from iI _]; simp only [dY, eK]; omega) fun w3 H10 hS10 => ?_
 simp only [RT] at hS10
 simp (disch := omega) only [↓RA, RZ, simprocAttr, hn]
 have happ : (iE ks).flatMap jM ++ [I c.1, I c.2] = pr (iE ks ++ [c]) := by rw [jI]; rfl
 rw [happ] at hS10
 have hS1 := hS10
 refine iG (rN o (ho.ab hS10) hf rg sv (hr.ab hS10) hz4 w3 (iE ks ++ [c]) (hS10.aw 5 rfl jQ) hpll2 hplc2) ?_
 rintro r H11 ⟨hx, hT5⟩
 have hS11 := hS10.trans hT5
 simp only [RT] at hS11
 obtain ⟨av, rfl⟩ : ∃ w, w = r := ⟨r, rfl⟩
 have hx2 := hx.step (hS1.aY (H' := H11))
 obtain ⟨X, hBX, hS12⟩ := hS11.aB (os := [⟨ptr A1 0 4, 0, _⟩, ⟨ptr A2 0 3, 0, _⟩, ⟨ptr A3 0 2, 0, _⟩, ⟨w1, 3, _⟩, ⟨pv, 2, _⟩, ⟨w3, 2, _⟩, ⟨w2, 2, _⟩])
 simp (disch := omega) only [↓RA, RZ, simprocAttr, hn, hS12.ae 0 rfl, hS12.ae 1 rfl]
 have hS2 := hS12
 refine iG (rN o (ho.ab (hS11.ai hBX hS12)) hf rg sv (hr.ab (hS11.ai hBX hS12)) hz4 pv (iE ks) (hS12.aw 4 rfl jQ) hpll hplc) ?_
 rintro r H12 ⟨hy, hT6⟩
 have hS13 := hS12.trans hT6
 simp only [RT] at hS13
 obtain ⟨bv, rfl⟩ : ∃ w, w = r := ⟨r, rfl⟩
 have hx3 := hx2.step (hS13.kept hBX)
 have hy2 := hy.step (hS2.aY (H' := H12))
 obtain ⟨Y, hBY, hS14⟩ := hS13.aB (os := [⟨ptr A1 0 4, 0, _⟩, ⟨ptr A2 0 3, 0, _⟩, ⟨ptr A3 0 2, 0, _⟩, ⟨w1, 3, _⟩, ⟨pv, 2, _⟩, ⟨w3, 2, _⟩, ⟨w2, 2, _⟩])
 have hla := qH hf rg hpll2 (mC hplc2)
 have hlb := qH hf rg hpll (mC hplc)
 have hsb := b1S o rg (iE ks)
 have hx4 := hx3.step (hS14.kept hBY)
 have hy3 := hy2.step (hS14.kept hBY)
 simp (disch := omega) only [↓RA, RZ, simprocAttr, hn]
 refine iG ((a6G av bv (jO o rg (iE ks ++ [c])) (jO o rg (iE ks)) hx4.1 hy3.1 (by omega) (by omega) hsb).tr) ?_
 rintro r H13 ⟨-, hT7⟩
 have hS15 := hS14.trans hT7
 simp only [RT] at hS15
 obtain ⟨gv, rfl⟩ : ∃ w, w = r := ⟨r, rfl⟩
 have hnt1 := (hS15.aw (cel := jM) 7 rfl jQ).bE
 simp (disch := omega) only [↓RA, RZ, simprocAttr, hn, hS8.ae 0 rfl, hS10.ae 0 rfl, hS8.ae 1 rfl, hS10.ae 1 rfl, hS7.ae 2 rfl, hS7.ae 0 rfl, hS7.ae 1 rfl, c2l, hnt1]
 exact ⟨gv, rfl, (hS11.ai hBX (hS13.ai hBY hS15)).cm 7 rfl jQ, (hS11.ai hBX (hS13.ai hBY hS15)).forget⟩
theorem b6n (o : Org) (rg : Reg) : a0R o rg [] = mX o rg := by
 unfold a0R
 split
 ·rename_i h
  unfold mX
  rw [if_pos h]
 ·split
  ·rfl
  ·rename_i h
   rw [if_neg (by simp), du.1 h]
   exact kJ _ _ fun j hj => absurd hj (dL _)
theorem c0O {H : Heap} : Sl 1 Kv.cells H (.slice none 0 0) [] := ⟨.inl ⟨rfl, rfl⟩, fun _ => rfl, by decide⟩
theorem b4P (o : Org) (ho : o.In H) (rg : Reg) (sv : Value) (hr : rg.In H sv) :
 Fn prog 49 [.agg #[.string o.name, o.rv, o.dv, o.cv], .agg #[sv, .int .u64 rg.cpl, .int .u64 rg.off], .slice none 0 0] H fun r H' => r = I (mX o rg) ∧ St prog H H' [] := by
 have h := b8X o ho rg sv hr (.slice none 0 0) [] c0O (by simp) (by simp)
 rw [b6n] at h
 exact h
def c1G (o : Org) (rg : Reg) (ks : List Nt) (c : Ct) : Int := rL o (adF o rg ks c)
theorem b8c {o : Org} {rg : Reg} {ks : List Nt} {c : Ct} : ∀ p ∈ adF o rg ks c, IsP o p := by
 intro p hp
 unfold adF at hp
 split at hp
 ·exact qR (eh.1 hp).1
 ·exact absurd hp dX
theorem c2O {o : Org} (hdv : o.dvs.length ≤ 7) {rg : Reg} {ks : List Nt} {c : Ct} (hok : ∀ x ∈ ks, Nt.Ok x) : (adF o rg ks c).length ≤ 1000000 := by
 unfold adF
 split
 ·rename_i h
  refine dy (a5W _ _) ?_
  have h1 : rkE o rg ks = 0 := by
   unfold a5q at h
   split at h
   ·rename_i h2; exact absurd h h2
   ·rename_i h2; exact du.1 h2
  have h2 : tY o c = 0 := by
   unfold a5q at h
   rw [if_neg (by rw [h1]; simp)] at h
   exact h
  obtain ⟨z1, z2⟩ := uU h1
  have hf := Org.aN (mD z1).1
  have hcc := (qX o c).1 h2
  have hwl : (iE ks ++ [c]).length ≤ 1024 := by
   have hkl := (nU z2).2.1
   have hd := hf.dlen
   have hpl := a6Y ks ks.length
   rw [dj, gr]
   unfold iE
   omega
  exact qH hf rg hwl (mC fun x hx => by
   rcases dF.1 hx with h | h
   ·exact nX hok z2 x h
   ·rw [dA.1 h]; exact hcc)
 ·simp
theorem c0J (hG : Glob gH H) (o : Org) (ho : o.In H) (hdv : o.dvs.length ≤ 7) (rg : Reg) (sv : Value) (hr : rg.In H sv) (kv : Value) (ks : List Nt) (hk : Ks H kv ks) (c : Ct) :
 Fn prog 29 [.agg #[.string o.name, o.rv, o.dv, o.cv], .agg #[sv, .int .u64 rg.cpl, .int .u64 rg.off], kv, .agg #[I c.1, I c.2]] H fun r H' => r = .tuple #[I (c1G o rg ks c), I (a5q o rg ks c)] ∧ St prog H H' [] := by
 have hle := c2O hdv (rg := rg) (c := c) hk.ok
 refine .cH func29 rfl (by kernel_rfl) (m := 26) rfl fun l hn g0 g1 g2 g3 => ?_
 simp (disch := omega) only [↓RA, RB, simprocAttr, g0]
 refine (sR H).eNew 4 [(.string o.name), o.rv, o.dv, o.cv] rfl rfl (by simp [OC, ((sR H).sl ho.1).cells.2.1, ((sR H).sl ho.2.2.1).cells.2.1, ((sR H).sl ho.2.2.2.2.1).cells.2.1]) lU fun A1 H1 hS1 => ?_
 simp only [RT] at hS1
 simp (disch := omega) only [↓RA, RB, simprocAttr, g1]
 refine hS1.eNew 3 [sv, (.int .u64 rg.cpl), (.int .u64 rg.off)] rfl rfl (by simp [OC, (hS1.sl hr.1).cells.2.1]) oA fun A2 H2 hS2 => ?_
 simp only [RT] at hS2
 simp (disch := omega) only [↓RA, RB, simprocAttr, g3]
 refine hS2.eNew 2 [I c.1, I c.2] rfl rfl rfl lQ fun A3 H3 hS3 => ?_
 simp only [RT] at hS3
 simp (disch := omega) only [↓RA, RZ, simprocAttr, hn, g2, hS3.ae 0 rfl, hS3.ae 1 rfl, hS3.ae 2 rfl]
 refine iG (b4F (hS3.gl hG) o (ho.ab hS3) hdv rg sv (hr.ab hS3) kv ks (hk.ab hS3) c) ?_
 rintro r H4 ⟨av, rfl, hx, hT1⟩
 have hS4 := hS3.trans hT1
 simp only [RT] at hS4
 simp (disch := omega) only [↓RA, RB, simprocAttr, hn]
 refine iA (fun h1 => ?_) (fun h1 => ?_)
 ·have hs : c1G o rg ks c = 0 := by unfold c1G adF; rw [if_neg h1]; rfl
  simp (disch := omega) only [↓RA, RZ, simprocAttr, hn, c4d, h1]
  exact ⟨by rw [hs], hS4.forget⟩
 have h0 := du.1 h1
 simp (disch := omega) only [↓RA, RZ, simprocAttr, hn, hS4.ae 0 rfl, h1]
 refine hS4.cF (a2c o (ho.ab hS4) av (adF o rg ks c) hx.1 (by omega) b8c) fun H5 hS5 => ?_
 simp (disch := omega) only [↓RA, RZ, simprocAttr, hn, c4d, h1]
 rw [h0]
 exact ⟨rfl, hS5.forget⟩
def grR (o : Org) (rg : Reg) : Ct × Int := if mX o rg = 0 then grF (tV o rg) (c0M o) (((0 : Int), (iB o.dvs 0).lo), 0) else ((0, 0), 0)
theorem c3U (l : List Value) (H : Heap) : iC prog Tryz.f20 l H = (pO (jR prog 64) (iF prog 64) H (get l 4)).bind fun v => if (jE v && (jE (get l 5) && (jE (get l 6) && true))) = true then some (.tuple #[v, get l 5, get l 6]) else none := by
 show (Option.bind (Option.bind (lO prog H 64 (get l 4)) fun v => some [v, get l 5, get l 6]) fun vs => _) = _
 rw [lE]
 cases pO _ _ H (get l 4) <;> rfl
theorem a7p (o : Org) (ho : o.In H) (rg : Reg) (sv : Value) (hr : rg.In H sv) :
 Fn prog 20 [.agg #[.string o.name, o.rv, o.dv, o.cv], .agg #[sv, .int .u64 rg.cpl, .int .u64 rg.off]] H fun r H' => r = .tuple #[.agg #[I (grR o rg).1.1, I (grR o rg).1.2], I (grR o rg).2, I (mX o rg)] ∧ St prog H H' [] := by
 refine .aH func20 rfl (by kernel_rfl) (m := 64) rfl fun l hn g0 g1 => ?_
 simp (disch := omega) only [↓RA, RB, simprocAttr, g0]
 refine (sR H).eNew 4 [(.string o.name), o.rv, o.dv, o.cv] rfl rfl (by simp [OC, ((sR H).sl ho.1).cells.2.1, ((sR H).sl ho.2.2.1).cells.2.1, ((sR H).sl ho.2.2.2.2.1).cells.2.1]) lU fun A1 H1 hS1 => ?_
 simp only [RT] at hS1
 simp (disch := omega) only [↓RA, RB, simprocAttr, g1]
 refine hS1.eNew 3 [sv, (.int .u64 rg.cpl), (.int .u64 rg.off)] rfl rfl (by simp [OC, (hS1.sl hr.1).cells.2.1]) oA fun A2 H2 hS2 => ?_
 simp only [RT] at hS2
 simp (disch := omega) only [↓RA, RZ, simprocAttr]
 refine hS2.eNew 2 [I 0, I 0] rfl rfl rfl lQ fun A3 H3 hS3 => ?_
 simp only [RT] at hS3
 simp (disch := omega) only [↓RA, RZ, simprocAttr, hn, hS3.ae 0 rfl, hS3.ae 1 rfl]
 refine hS3.cF (b4P o (ho.ab hS3) rg sv (hr.ab hS3)) fun H4 hS4 => ?_
 simp (disch := omega) only [↓RA, RB, simprocAttr, hn]
 refine iA (fun h1 => ?_) (fun h1 => ?_)
 ·have e : grR o rg = ((0, 0), 0) := by unfold grR; rw [if_neg h1]
  simp (disch := omega) only [↓RA, RZ, simprocAttr, hn, c3l, h1]
  refine hS4.aa 2 rfl [I 0, I 0] rfl rfl lQ (by simp) fun H5 hS5 => ?_
  simp only [RT] at hS5
  simp (disch := omega) only [↓RA, RZ, simprocAttr, hn, c3U, hS5.ae 2 rfl, h1]
  exact ⟨by rw [e], hS5.forget⟩
 have h0 := du.1 h1
 have hf := Org.aN (mD h0).1
 have hd := hf.dpos
 have hdl := hf.dlen
 have e : grR o rg = grF (tV o rg) (c0M o) (((0 : Int), (iB o.dvs 0).lo), 0) := by unfold grR; rw [if_pos h0]
 simp (disch := omega) only [↓RA, RZ, simprocAttr, hn, hS4.ld 0 rfl, (hS4.sl ho.2.2.1).idx, (hS4.sl ho.2.2.1).aZ, (hS4.sl ho.2.2.1).ld, Dvn.cells, h1]
 refine hS4.aa 2 rfl [I (iB o.dvs 0).lo] rfl rfl tS3 (by simp) fun H6 hS6 => ?_
 simp only [RT] at hS6
 simp (disch := omega) only [↓RA, RZ, simprocAttr, hn, hS6.ld 0 rfl, (hS6.sl ho.2.2.1).len, h1]
 refine Wp.ak (fun n l H' => l.length = 64 ∧ get l 2 = (ptr A1 0 4) ∧ get l 3 = (ptr A2 0 3) ∧ get l 4 = (ptr A3 0 2) ∧ get l 6 = I 0 ∧ get l 29 = o.dv ∧ get l 30 = I o.dvs.length ∧ ∃ (i : Nat), (n + i = o.dvs.length) ∧ get l 31 = I i ∧ get l 5 = I (grF (tV o rg) ((List.range i).flatMap (xH o)) (((0 : Int), (iB o.dvs 0).lo), 0)).2 ∧ St prog H H' [⟨ptr A1 0 4, 0, [(.string o.name), o.rv, o.dv, o.cv]⟩, ⟨ptr A2 0 3, 0, [sv, (.int .u64 rg.cpl), (.int .u64 rg.off)]⟩, ⟨ptr A3 0 2, 0, [I (grF (tV o rg) ((List.range i).flatMap (xH o)) (((0 : Int), (iB o.dvs 0).lo), 0)).1.1, I (grF (tV o rg) ((List.range i).flatMap (xH o)) (((0 : Int), (iB o.dvs 0).lo), 0)).1.2]⟩]) o.dvs.length ?_ ?_
 ·simp (disch := omega) only [RB, RC, simprocAttr, hn]
  exact ⟨0, by omega, rfl, rfl, hS6⟩
 rintro n l H7 ⟨hn, g2, g3, g4, g6, g29, g30, i, hi, g31, g5, hS7⟩
 simp (disch := omega) only [↓RA, RB, simprocAttr, hn, g30, g31]
 refine iA (fun q1 => ?_) (fun q1 => ?_)
 ·have hki := hf.keys i (by omega)
  have hcn : (b2K o i : Int) = (iB o.dvs i).hi - (iB o.dvs i).lo + 1 := by unfold b2K; omega
  have hpre : a1d o i 0 = (List.range i).flatMap (xH o) := by unfold a1d; simp
  simp (disch := omega) only [↓RA, RZ, simprocAttr, hn, g29, g31, (hS7.sl ho.2.2.1).idx, (hS7.sl ho.2.2.1).ae, Dvn.cells, q1]
  refine hS7.eNew 5 [(.string ⟨#[]⟩), (.bool false), I 0, I 0, (.slice none 0 0)] rfl rfl rfl yO fun A4 H8 hS8 => ?_
  simp only [RT] at hS8
  simp (disch := omega) only [↓RA, RZ, simprocAttr, hn, q1]
  refine hS8.aa 3 rfl [(.string (iB o.dvs i).name), (.bool (iB o.dvs i).pedal), I (iB o.dvs i).lo, I (iB o.dvs i).hi, (iB o.dvs i).sv] rfl (by simp [OC, (hS8.sl (ho.2.2.2.1 (iB o.dvs i) (iD (by omega))).1).cells.2.1]) yO (by simp) fun H9 hS9 => ?_
  simp only [RT] at hS9
  simp (disch := omega) only [↓RA, RZ, simprocAttr, hn, hS9.ld 3 rfl, q1]
  refine Wp.ak (fun n l H' => l.length = 64 ∧ get l 2 = (ptr A1 0 4) ∧ get l 3 = (ptr A2 0 3) ∧ get l 4 = (ptr A3 0 2) ∧ get l 6 = I 0 ∧ get l 8 = I i ∧ get l 9 = (ptr A4 0 5) ∧ get l 29 = o.dv ∧ get l 30 = I o.dvs.length ∧ get l 31 = I i ∧ ∃ (k : Nat), (n + k = b2K o i) ∧ get l 10 = I ((iB o.dvs i).lo + k) ∧ get l 5 = I (grF (tV o rg) (a1d o i k) (((0 : Int), (iB o.dvs 0).lo), 0)).2 ∧ St prog H H' [⟨ptr A1 0 4, 0, [(.string o.name), o.rv, o.dv, o.cv]⟩, ⟨ptr A2 0 3, 0, [sv, (.int .u64 rg.cpl), (.int .u64 rg.off)]⟩, ⟨ptr A3 0 2, 0, [I (grF (tV o rg) (a1d o i k) (((0 : Int), (iB o.dvs 0).lo), 0)).1.1, I (grF (tV o rg) (a1d o i k) (((0 : Int), (iB o.dvs 0).lo), 0)).1.2]⟩, ⟨ptr A4 0 5, 0, [(.string (iB o.dvs i).name), (.bool (iB o.dvs i).pedal), I (iB o.dvs i).lo, I (iB o.dvs i).hi, (iB o.dvs i).sv]⟩]) (b2K o i) ?_ ?_
  ·simp (disch := omega) only [RB, RC, simprocAttr, hn, g2, g3, g4, g6, g29, g30, g31, g5]
   refine ⟨0, by omega, by simp, ?_⟩
   rw [hpre]
   exact ⟨rfl, hS9⟩
  rintro n l H10 ⟨hn, g2, g3, g4, g6, g8, g9, g29, g30, g31, k, hk, oC, g5, hS10⟩
  simp (disch := omega) only [↓RA, RZ, simprocAttr, hn, g9, oC, hS10.ld 3 rfl]
  refine iA (fun q2 => ?_) (fun q2 => ?_)
  ·have hsu : grF (tV o rg) (a1d o i (k + 1)) (((0 : Int), (iB o.dvs 0).lo), 0) = grS (tV o rg) (grF (tV o rg) (a1d o i k) (((0 : Int), (iB o.dvs 0).lo), 0)) (kAt o i k) := by rw [b1K, b8z]
   unfold grS at hsu
   simp (disch := omega) only [↓RA, RZ, simprocAttr, hn, g8, oC, qT, q2]
   refine hS10.eNew 2 [I 0, I 0] rfl rfl rfl lQ fun A5 H11 hS11 => ?_
   simp only [RT] at hS11
   simp (disch := omega) only [↓RA, RZ, simprocAttr, hn, q2]
   refine hS11.aa 4 rfl [I i, I ((iB o.dvs i).lo + k)] rfl rfl lQ (by simp) fun H12 hS12 => ?_
   simp only [RT] at hS12
   simp (disch := omega) only [↓RA, RZ, simprocAttr, hn, g2, g3, hS12.ae 0 rfl, hS12.ae 1 rfl, hS12.ae 4 rfl, q2]
   refine hS12.cF (b8Q o (ho.ab hS12) rg sv (hr.ab hS12) (kAt o i k)) fun H13 hS13 => ?_
   simp (disch := omega) only [↓RA, RZ, simprocAttr, hn, g5, q2]
   refine iA (fun q3 => ?_) (fun q3 => ?_)
   ·simp (disch := omega) only [↓RA, RZ, simprocAttr, hn, g4, hS13.ae 4 rfl, q2, q3]
    refine hS13.aa 2 rfl [I i, I ((iB o.dvs i).lo + k)] rfl rfl lQ (by simp) fun H14 hS14 => ?_
    simp only [RT] at hS14
    simp (disch := omega) only [↓RA, RZ, simprocAttr, hn, g2, g3, g4, g6, g8, g9, g29, g30, g31, oC, q2, q3]
    rw [if_pos q3] at hsu
    refine ⟨n - 1, by omega, k + 1, by omega, by congr 1; omega, by rw [hsu], ?_⟩
    rw [hsu]
    exact hS14.pick [0, 1, 2, 3] (by decide) rfl
   simp (disch := omega) only [↓RA, RZ, simprocAttr, hn, g2, g3, g4, g6, g8, g9, g29, g30, g31, oC, g5, q2, q3]
   rw [if_neg q3] at hsu
   refine ⟨n - 1, by omega, k + 1, by omega, by congr 1; omega, by rw [hsu], ?_⟩
   rw [hsu]
   exact hS13.pick [0, 1, 2, 3] (by decide) rfl
  simp (disch := omega) only [↓RA, RZ, simprocAttr, hn, g2, g3, g4, g6, g29, g30, g31, g5, q2]
  have hkk : k = b2K o i := by omega
  rw [hkk, a4g] at hS10
  refine ⟨o.dvs.length - (i + 1), by omega, i + 1, by omega, by simp, ?_, ?_⟩
  ·rw [hkk, a4g]
  ·exact hS10.pick [0, 1, 2] (by decide) rfl
 simp (disch := omega) only [↓RA, RZ, simprocAttr, hn, g4, g5, hS7.ae 2 rfl, q1]
 refine hS7.aa 2 rfl [I (grF (tV o rg) ((List.range i).flatMap (xH o)) (((0 : Int), (iB o.dvs 0).lo), 0)).1.1, I (grF (tV o rg) ((List.range i).flatMap (xH o)) (((0 : Int), (iB o.dvs 0).lo), 0)).1.2] rfl rfl lQ (by simp) fun H15 hS15 => ?_
 simp only [RT] at hS15
 simp (disch := omega) only [↓RA, RZ, simprocAttr, hn, g4, c3U, hS15.ae 2 rfl, q1]
 have hii : i = o.dvs.length := by omega
 rw [h0]
 refine ⟨?_, hS15.forget⟩
 rw [hii, e]
 rfl
end Go.Ds
namespace Go.Ds
open Go.Proofs Go.Proofs.Tryz
variable {H : Heap}
set_option maxRecDepth 100000
set_option maxHeartbeats 1000000
def b0B (r : Rs) (n : Int) : Bool := match r with
 | .ok (.tuple vs) _ => (match vs.toList with
   | [.int .u64 a, .int .u64 b] => decide (a = 0) && decide (b = n)
   | _ => false)
 | .th (.tuple vs) _ => (match vs.toList with
   | [.int .u64 a, .int .u64 b] => decide (a = 0) && decide (b = n)
   | _ => false)
 | _ => false
theorem c1j : (tP prog [52, 84, 85] .e fun T => [(25 : Int)].all fun n => b0B (mT T (exF prog T 4000) [] (kR 52) [.int .u64 1, .int .u64 n] gH) n) = true := by kernel_rfl
theorem b4h {T : LT} (hT : TOk prog T) {k : FuncId} {args : List Value} {n : Int} (h : b0B (mT T (exF prog T 4000) [] (kR k) args gH) n = true) : Fn prog k args gH fun r _ => r = .tuple #[.int .u64 0, .int .u64 n] := by
 have hv : ∀ (vs : Array Value), (match vs.toList with
  | [.int .u64 a, .int .u64 b] => decide (a = 0) && decide (b = n)
  | _ => false) = true → Value.tuple vs = .tuple #[.int .u64 0, .int .u64 n] := by
  intro vs h
  split at h
  ·rename_i a b e
   rw [cU, decide_eq_true_eq, decide_eq_true_eq] at h
   obtain ⟨rfl, rfl⟩ := h
   congr 1
   exact gN e
  ·cases h
 unfold b0B at h
 split at h
 ·rename_i vs H1 e
  rw [← hv vs h]
  exact mB hT (.inl e)
 ·rename_i vs H1 e
  rw [← hv vs h]
  exact mB hT (.inr e)
 ·cases h
theorem b4I (hG : Glob gH H) : Fn prog 52 [.int .u64 1, .int .u64 25] H fun r H' => r = .tuple #[.int .u64 0, .int .u64 25] ∧ St prog H H' [] := by
 obtain ⟨T, hT, h⟩ := rA (ps := [(25 : Int)]) (f := fun T n => b0B (mT T (exF prog T 4000) [] (kR 52) [.int .u64 1, .int .u64 n] gH) n) c1j
 exact rU (by simp [flat, jB, iX]) rfl (b4h hT (h 25 (by simp))) hG
theorem rC (c z : Value) : ∀ (m x n : Nat), x + m ≤ n → iZ (List.replicate x c ++ List.replicate (n - x) z) x (List.replicate m c) = List.replicate (x + m) c ++ List.replicate (n - (x + m)) z := by
 intro m x n h
 have e : List.replicate (n - x) z = List.replicate m z ++ List.replicate (n - (x + m)) z := by
  rw [List.replicate_append_replicate]; congr 1; omega
 have := mW (List.replicate m c) (List.replicate x c) (List.replicate (n - x) z) (by simp; omega)
 rw [eN] at this
 rw [this, List.replicate_append_replicate]
 congr 1
 simp
 omega
theorem a8k {H : Heap} {v : Value} {cs : List Value} (h : RdAt H v 1 cs) (h0 : cs ≠ []) : qN v 1 0 cs.length = v := by
 rcases h with ⟨rfl, rfl⟩ | ⟨A, i, e, row, ty, rw, lo', ver, n, h1, h2, h3, h4, h5, h6, rfl⟩
 ·exact (h0 rfl).elim
 ·simp [qN, h6]
theorem St.cj {P : Program} {H0 : Base} {os : List Ob} (hS : St P H0 H os) (i : Nat) {v : Value} {cs : List Value} (ho : os[i]? = some ⟨v, 1, cs⟩) {x : Value} {ys : List Value} (hx : RdAt H x 1 ys) (h0 : 0 < cs.length) (hy : 0 < ys.length) {t : TypeId} (ht : iT P t = some 1) {K : Value → Heap → Prop}
 (h : ∀ H1, St P H0 H1 (os.set i ⟨v, 1, iZ cs 0 (ys.take (min ys.length cs.length))⟩) → K (.int .i64 ((min ys.length cs.length : Nat) : Int)) H1) : a3z P H t v x K := by
 have e := a8k (hS.rd (size := 0) i ho) (by intro e; simp [e] at h0)
 have := hS.bL i ho hx 0 cs.length (by omega) h0 hy ht h
 rwa [e] at this
theorem a2A (hG : Glob gH H) {c : Int} (v : Value) (hv : Sl 1 (one I) H v [c]) : Fn prog 38 [v, I 25] H fun r H' => St prog H H' [⟨r, 1, List.replicate 25 (I c)⟩] := by
 have h1 : (([c] : List Int).length : Int) = 1 := rfl
 refine .aH func38 rfl (by kernel_rfl) (m := 48) rfl fun l hn g0 g1 => ?_
 simp (disch := omega) only [↓RA, RZ, simprocAttr, hn, g0, g1, ((sR H).sl hv).len]
 refine (sR H).cF (b4I ((sR H).gl hG)) fun H1 hS1 => ?_
 simp (disch := omega) only [↓RA, RZ, simprocAttr, hn]
 refine hS1.bA 25 c2V (by omega) fun w H2 hS2 => ?_
 simp only [RT] at hS2
 simp (disch := omega) only [↓RA, RB, simprocAttr, hn, g0]
 refine hS2.cj 0 rfl (hS2.sl hv).rd (by simp) (by simp [one]) c2v fun H3 hS3 => ?_
 have e1 : min ([c].flatMap (one I)).length (List.replicate 25 (Value.int .i64 0)).length = 1 := by simp [one]
 rw [e1] at hS3 ⊢
 have e2 := rC (I c) (.int .i64 0) 1 0 25 (by omega)
 simp only [List.replicate_zero, ff, Nat.sub_zero, fP] at e2
 have hS4 : St prog H H3 [⟨w, 1, List.replicate 1 (I c) ++ List.replicate (25 - 1) (.int .i64 0)⟩] := by
  rw [← e2]
  exact hS3
 simp (disch := omega) only [↓RA, RB, simprocAttr, hn]
 have e3 : ∀ x : Nat, List.replicate x (I c) ++ List.replicate (25 - x) (.int .i64 0) = (List.replicate x (c : Int) ++ List.replicate (25 - x) 0).flatMap (one I) := fun x => by
  rw [nH, dR, gQ, gQ]
 refine Wp.ak (fun n l H' => l.length = 48 ∧ get l 4 = (.slice none 0 0) ∧ ∃ (x : Nat), (n + x = 25 ∧ 1 ≤ x) ∧ get l 8 = I x ∧ get l 7 = w ∧ St prog H H' [⟨w, 1, (List.replicate x (c : Int) ++ List.replicate (25 - x) 0).flatMap (one I)⟩]) 24 ?_ ?_
 ·simp (disch := omega) only [RB, RC, simprocAttr, hn]
  rw [e3] at hS4
  exact ⟨1, ⟨by omega, by omega⟩, rfl, hS4⟩
 rintro n l H2 ⟨hn, g4, x, ⟨hx,hx1⟩, g8, g7, hS2⟩
 have hln : (List.replicate x (c : Int) ++ List.replicate (25 - x) 0).length = 25 := by simp; omega
 simp (disch := omega) only [↓RA, RZ, simprocAttr, hn, g8, g7, (hS2.aw 0 rfl (fun _ => rfl)).len, hln]
 refine iA (fun q1 => ?_) (fun q1 => ?_)
 ·simp (disch := omega) only [↓RA, RC, simprocAttr, q1]
  refine Wp.drw kC (by kernel_rfl) ?_
  simp (disch := omega) only [↓RA, RZ, simprocAttr, hn, g8, g7, (hS2.aw 0 rfl (fun _ => rfl)).aU, (hS2.aw 0 rfl (fun _ => rfl)).aV, hln]
  have hxt : ((25 : Int) - (x : Int)).toNat = 25 - x := by omega
  rw [hxt]
  have hlc : ((List.replicate x (c : Int) ++ List.replicate (25 - x) 0).flatMap (one I)).length = 25 := by rw [nH, ec, hln]
  have hrd := hS2.rd 0 rfl
  have hsub := hrd.sub 0 x (by rw [hlc]; omega) (by intro e; rw [e] at hlc; simp at hlc)
  have e5 : (((List.replicate x (c : Int) ++ List.replicate (25 - x) 0).flatMap (one I)).drop (0 * (0 + 1))).take (x * (0 + 1)) = List.replicate x (I c) := by
   rw [← e3]
   simp []
  rw [e5] at hsub
  refine hS2.bL 0 rfl hsub x (25 - x) (by rw [hlc]; omega) (by omega) (by simp; omega) c2v fun H4 hS5 => ?_
  have e6 : (List.replicate x (I c)).take (min (List.replicate x (I c)).length (25 - x)) = List.replicate (min x (25 - x)) (I c) := by simp
  rw [e6] at hS5
  have e7 : min (List.replicate x (I c)).length (25 - x) = min x (25 - x) := by simp
  rw [e7]
  have e8 := rC (I c) (.int .i64 0) (min x (25 - x)) x 25 (by omega)
  have hS6 : St prog H H4 [⟨w, 1, (List.replicate (x + min x (25 - x)) (c : Int) ++ List.replicate (25 - (x + min x (25 - x))) 0).flatMap (one I)⟩] := by
   rw [← e3, ← e8, e3]
   exact hS5
  simp (disch := omega) only [↓RA, RZ, simprocAttr, hn, g4, g7]
  exact ⟨25 - (x + min x (25 - x)), by omega, x + min x (25 - x), ⟨by omega, by omega⟩, by simp, hS6⟩
 simp (disch := omega) only [↓RA, RZ, simprocAttr, hn, g7, c5P, q1]
 have e : x = 25 := by omega
 subst e
 have hfin : ((List.replicate 25 (c : Int) ++ List.replicate (25 - 25) 0).flatMap (one I)) = List.replicate 25 (I c) := by rw [← e3]; rfl
 have h9 := hS2
 rw [hfin] at h9
 exact h9
end Go.Ds
namespace Go.Ds
open Go.Proofs
variable {H : Heap}
set_option maxRecDepth 10000
set_option maxHeartbeats 1000000
section
variable (w1 w2 w3 w4 w5 w6 w7 : Value)
def a9B (x : Int × Int) : List (Int × Int) → List (Int × Int)
 | [] => [x]
 | y :: l => if le2 x y then x :: y :: l else y :: a9B x l
def a3k : List (Int × Int) → List (Int × Int)
 | [] => []
 | x :: l => a9B x (a3k l)
theorem zX (x : Int × Int) : ∀ l, (a9B x l).Perm (x :: l)
 | [] => .refl _
 | y :: l => by
   unfold a9B
   split
   ·exact .refl _
   ·exact ((zX x l).cons y).trans (.swap ..)
theorem a3E : ∀ l, (a3k l).Perm l
 | [] => .refl _
 | x :: l => (zX x _).trans ((a3E l).cons x)
theorem b1U (x y : Int × Int) : le2 x y = false → le2 y x = true := by
 intro h
 rw [← eG] at h
 rw [nM] at h ⊢
 omega
theorem a0H (x : Int × Int) : ∀ l : List (Int × Int), l.Pairwise (fun a b => le2 a b = true) → (a9B x l).Pairwise fun a b => le2 a b = true
 | [], _ => by simp [a9B]
 | y :: l, h => by
   have h1 := gP.1 h
   unfold a9B
   split
   ·rename_i hxy
    refine gP.2 ⟨fun z hz => ?_, h⟩
    rcases dU.1 hz with rfl | hz
    ·exact hxy
    ·have h2 := h1.1 z hz
     rw [nM] at *
     omega
   ·rename_i hxy
    refine gP.2 ⟨fun z hz => ?_, a0H x l h1.2⟩
    rcases dU.1 ((zX x l).mem_iff.1 hz) with rfl | hz
    ·exact b1U _ _ (by simpa using hxy)
    ·exact h1.1 z hz
theorem a0I : ∀ l : List (Int × Int), (a3k l).Pairwise fun a b => le2 a b = true
 | [] => .nil
 | x :: l => a0H x _ (a0I l)
theorem c2o : pG = a3k := by
 funext l
 refine List.Perm.eq_of_pairwise (le := fun a b => le2 a b = true) (fun a b _ _ h1 h2 => ?_) (tC l) (a0I l) ((mS l).trans (a3E l).symm)
 rw [nM] at h1 h2
 exact gm (by omega) (by omega)
def b6G (s : List Ct → List Ct) (o : Org) (r : Reg) (l : List Ct) : List Ct := dd (s (l.filter (fun c => !r.off.testBit c.1.toNat) ++ bfs o r.cpl 1100 0 (kL o r.cpl l)))
def c2T (s : List Ct → List Ct) (rs : List Rk) (p : Stp) (key : Int) : List Ct := dd (s (((a5t p key).filter fun d => qS rs d key).map fun d => mJ rs d key))
def b5p (s : List Ct → List Ct) (o : Org) (r : Reg) (c : Ct) : List Ct := (List.range (iB o.dvs c.1.toNat).stops.length).flatMap fun i => if (iB r.stops c.1.toNat).testBit i then c2T s o.ranks (iB (iB o.dvs c.1.toNat).stops i) c.2 else []
end
end Go.Ds
namespace Go.Ds
open Go.Proofs Go.Proofs.Tryz
variable {H : Heap}
set_option maxRecDepth 10000
set_option maxHeartbeats 1000000
theorem a3U (hG : Glob gH H) (s : ByteArray) : Fn prog 66 [.string s] H fun r H' => ∃ wv, r = .agg #[.string s, .string ⟨#[102, 108, 117, 116, 101]⟩, I 8, I 1, I 36, wv] ∧ St prog H H' [⟨wv, 1, List.replicate 25 (I 1)⟩] := by
 refine .aT func66 rfl (by kernel_rfl) (m := 8) rfl fun l hn g0 => ?_
 simp (disch := omega) only [↓RA, RZ, simprocAttr]
 refine (sR H).eNew 6 [(.string ⟨#[]⟩), (.string ⟨#[]⟩), I 0, I 0, I 0, (.slice none 0 0)] rfl rfl rfl a0X fun A1 H1 hS1 => ?_
 simp only [RT] at hS1
 simp (disch := omega) only [↓RA, RB, simprocAttr, g0, xJ]
 refine hS1.aj [I 1] yH a2q rfl rfl (by simp [Value.cells]) rfl rfl (by decide) (by decide) fun w1 H2 hS2 => ?_
 simp only [RT] at hS2
 simp (disch := omega) only [↓RA, RZ, simprocAttr, hn]
 refine iG ((a2A (hS2.gl hG) w1 (hS2.aw 1 rfl (fun _ => rfl))).tr) ?_
 rintro r H3 ⟨-, hT1⟩
 have hS3 := hS2.trans hT1
 simp only [RT] at hS3
 obtain ⟨wv, rfl⟩ : ∃ w, w = r := ⟨r, rfl⟩
 simp (disch := omega) only [↓RA, RB, simprocAttr, hn, a2P (hS3.rd 2 rfl).cells]
 refine hS3.aa 0 rfl [(.string s), (.string ⟨#[102, 108, 117, 116, 101]⟩), I 8, I 1, I 36, wv] rfl (by simp [OC, (hS3.rd 2 rfl).cells.2.1]) a0X (by simp) fun H4 hS4 => ?_
 simp only [RT] at hS4
 simp (disch := omega) only [↓RA, RZ, simprocAttr, hn, c5M, hS4.ae 0 rfl]
 exact ⟨wv, rfl, hS4.pick [2] (by decide) rfl⟩
theorem a4d (n feet shift : Int) : Fn prog 65 [I n, I feet, I shift] H fun r H' => ∃ dv gv, St prog H H' [⟨dv, 2, [I n, I shift]⟩, ⟨gv, 3, [I 36, I 48, dv]⟩, ⟨r, 4, [.string ⟨#[97]⟩, I feet, I 1, gv]⟩] := by
 refine .bd func65 rfl (by kernel_rfl) (m := 17) rfl fun l hn g0 g1 g2 => ?_
 simp (disch := omega) only [↓RA, RB, simprocAttr, hn, g0, g1, g2, xJ, qI]
 refine (sR H).aj [I n, I shift] a3F a4i rfl rfl (by simp [Value.cells]) rfl rfl (by decide) (by decide) fun w1 H1 hS1 => ?_
 simp only [RT] at hS1
 simp (disch := omega) only [↓RA, RB, simprocAttr, hn, lI (hS1.rd 0 rfl).cells]
 refine hS1.aj [I 36, I 48, w1] pW wA rfl rfl (by first | (simp []; done) | simp [Value.cells]) (by first | (simp []; done) | simp [Value.cells]) (by simp [OC, (hS1.rd 0 rfl).cells.2.1]) (by decide) (by decide) fun w2 H2 hS2 => ?_
 simp only [RT] at hS2
 simp (disch := omega) only [↓RA, RB, simprocAttr, hn, a7i (hS2.rd 1 rfl).cells]
 refine hS2.aj [(.string ⟨#[97]⟩), I feet, I 1, w2] c0R c4n rfl rfl (by first | (simp []; done) | simp [Value.cells]) (by first | (simp []; done) | simp [Value.cells]) (by simp [OC, (hS2.rd 1 rfl).cells.2.1]) (by decide) (by decide) fun w3 H3 hS3 => ?_
 simp only [RT] at hS3
 simp (disch := omega) only [↓RA, RB, simprocAttr, hn, c6k]
 exact ⟨w1, w2, hS3⟩
section
variable (w1 w2 d1 g1 s1 d2 g2 s2 w3 w4 w5 : Value)
end
def zW (c1 c2 : Int) (w1 w2 : Value) : List Rk := [⟨⟨#[114]⟩, ⟨#[102, 108, 117, 116, 101]⟩, 8, 1, 36, w1, List.replicate 25 c1⟩, ⟨⟨#[115]⟩, ⟨#[102, 108, 117, 116, 101]⟩, 8, 1, 36, w2, List.replicate 25 c2⟩]
def b5U (d1 g1 s1 d2 g2 s2 : Value) : List Dvn := [⟨⟨#[111, 110, 101]⟩, false, 36, 48, s1, [⟨⟨#[97]⟩, 8, 1, g1, [⟨36, 48, d1, [⟨0, 0⟩]⟩]⟩]⟩, ⟨⟨#[116, 119, 111]⟩, false, 36, 48, s2, [⟨⟨#[97]⟩, 4, 1, g2, [⟨36, 48, d2, [⟨1, 12⟩]⟩]⟩]⟩]
def b9o : List Cpl := [⟨⟨#[99]⟩, 0, 1, 0, false⟩]
def exW (c1 c2 : Int) (w1 w2 d1 g1 s1 d2 g2 s2 w3 w4 w5 : Value) : Org := ⟨⟨#[101]⟩, w3, zW c1 c2 w1 w2, w4, b5U d1 g1 s1 d2 g2 s2, w5, b9o⟩
theorem a7q (hG : Glob gH H) : Fn prog 37 [] H fun r H' => ∃ w1 w2 d1 g1 s1 d2 g2 s2 w3 w4 w5, r = .agg #[.string ⟨#[101]⟩, w3, w4, w5] ∧ St prog H H' [⟨w1, 1, (List.replicate 25 (1 : Int)).flatMap (one I)⟩, ⟨w2, 1, (List.replicate 25 (1 : Int)).flatMap (one I)⟩,
 ⟨d1, 2, [(⟨0, 0⟩ : Drw)].flatMap Drw.cells⟩, ⟨g1, 3, [(⟨36, 48, d1, [⟨0, 0⟩]⟩ : Seg)].flatMap Seg.cells⟩, ⟨s1, 4, [(⟨⟨#[97]⟩, 8, 1, g1, [⟨36, 48, d1, [⟨0, 0⟩]⟩]⟩ : Stp)].flatMap Stp.cells⟩,
 ⟨d2, 2, [(⟨1, 12⟩ : Drw)].flatMap Drw.cells⟩, ⟨g2, 3, [(⟨36, 48, d2, [⟨1, 12⟩]⟩ : Seg)].flatMap Seg.cells⟩, ⟨s2, 4, [(⟨⟨#[97]⟩, 4, 1, g2, [⟨36, 48, d2, [⟨1, 12⟩]⟩]⟩ : Stp)].flatMap Stp.cells⟩,
 ⟨w3, 6, (zW 1 1 w1 w2).flatMap Rk.cells⟩, ⟨w4, 5, (b5U d1 g1 s1 d2 g2 s2).flatMap Dvn.cells⟩, ⟨w5, 5, b9o.flatMap Cpl.cells⟩] := by
 refine .cM func37 rfl (by kernel_rfl) (m := 19) rfl fun l hn => ?_
 simp (disch := omega) only [↓RA, RZ, simprocAttr]
 refine (sR H).eNew 4 [(.string ⟨#[]⟩), (.slice none 0 0), (.slice none 0 0), (.slice none 0 0)] rfl rfl rfl lU fun A1 H1 hS1 => ?_
 simp only [RT] at hS1
 simp (disch := omega) only [↓RA, RZ, simprocAttr, a6S]
 refine hS1.eNew 2 [I 0, I 0] rfl rfl rfl a0W fun A2 H2 hS2 => ?_
 simp only [RT] at hS2
 simp (disch := omega) only [↓RA, RB, simprocAttr, hn]
 refine hS2.aa 1 rfl [I 36, I 48] rfl rfl a0W (by simp) fun H3 hS3 => ?_
 simp only [RT] at hS3
 simp (disch := omega) only [↓RA, RB, simprocAttr]
 refine Wp.cg kC [0, 1, 4, 5, 8, 9, 2, 3, 6, 7, 10, 11, 12, 13, 14, 15] [0, 1, 6, 7, 2, 3, 8, 9, 4, 5, 10, 11, 12, 13, 14, 15] ⟨true, [36], []⟩ [(7, 0), (7, 1), (7, 2), (7, 4), (7, 6), (9, 0), (9, 1), (9, 2), (9, 4), (9, 6)] (by kernel_rfl) (by kernel_rfl) (by kernel_rfl) ?_
 simp (disch := omega) only [↓RA, RZ, simprocAttr]
 refine iG (a3U (hS3.gl hG) _) ?_
 rintro r H4 ⟨wv1, rfl, hT1⟩
 have hS4 := hS3.trans hT1
 simp only [RT] at hS4
 simp (disch := omega) only [↓RA, RZ, simprocAttr]
 refine iG (a3U (hS4.gl hG) _) ?_
 rintro r H5 ⟨wv2, rfl, hT2⟩
 have hS5 := hS4.trans hT2
 simp only [RT] at hS5
 simp (disch := omega) only [↓RA, RZ, simprocAttr, hn]
 refine iG (a4d 0 8 0) ?_
 rintro r H6 ⟨d1, g1, hT3⟩
 have hS6 := hS5.trans hT3
 simp only [RT] at hS6
 obtain ⟨s1, rfl⟩ : ∃ w, w = r := ⟨r, rfl⟩
 simp (disch := omega) only [↓RA, RZ, simprocAttr, hn]
 refine iG (a4d 1 4 12) ?_
 rintro r H7 ⟨d2, g2, hT4⟩
 have hS7 := hS6.trans hT4
 simp only [RT] at hS7
 obtain ⟨s2, rfl⟩ : ∃ w, w = r := ⟨r, rfl⟩
 simp (disch := omega) only [↓RA, RB, simprocAttr, hn]
 refine hS7.aj [(.string ⟨#[114]⟩), (.string ⟨#[102, 108, 117, 116, 101]⟩), I 8, I 1, I 36, wv1, (.string ⟨#[115]⟩), (.string ⟨#[102, 108, 117, 116, 101]⟩), I 8, I 1, I 36, wv2] c2b c4Z rfl rfl (by first | (simp []; done) | simp [Value.cells]) (by first | (simp []; done) | simp [Value.cells]) (by simp [OC, (hS7.rd 2 rfl).cells.2.1, (hS7.rd 3 rfl).cells.2.1]) (by decide) (by decide) fun w1 H8 hS8 => ?_
 simp only [RT] at hS8
 simp (disch := omega) only [↓RA, RZ, simprocAttr, hn, hS8.ae 1 rfl, a1L (hS8.rd 6 rfl).cells, a1L (hS8.rd 9 rfl).cells]
 refine hS8.aj [(.string ⟨#[111, 110, 101]⟩), (.bool false), I 36, I 48, s1, (.string ⟨#[116, 119, 111]⟩), (.bool false), I 36, I 48, s2] c1L c4F rfl rfl (by first | (simp []; done) | simp [Value.cells]) (by first | (simp []; done) | simp [Value.cells]) (by simp [OC, (hS8.rd 6 rfl).cells.2.1, (hS8.rd 9 rfl).cells.2.1]) (by decide) (by decide) fun w2 H9 hS9 => ?_
 simp only [RT] at hS9
 simp (disch := omega) only [↓RA, RB, simprocAttr, hn, a5Q]
 refine hS9.aj [(.string ⟨#[99]⟩), I 0, I 1, I 0, (.bool false)] a9E b9N rfl rfl (by simp [Value.cells]) rfl rfl (by decide) (by decide) fun w3 H10 hS10 => ?_
 simp only [RT] at hS10
 simp (disch := omega) only [↓RA, RB, simprocAttr, hn, a4u (hS10.rd 10 rfl).cells (hS10.rd 11 rfl).cells (hS10.rd 12 rfl).cells]
 refine hS10.aa 0 rfl [(.string ⟨#[101]⟩), w1, w2, w3] rfl (by simp [OC, (hS10.rd 10 rfl).cells.2.1, (hS10.rd 11 rfl).cells.2.1, (hS10.rd 12 rfl).cells.2.1]) lU (by simp) fun H11 hS11 => ?_
 simp only [RT] at hS11
 simp (disch := omega) only [↓RA, RZ, simprocAttr, hn, hS3.ae 1 rfl, hS4.ae 1 rfl, hS5.ae 1 rfl, hS6.ae 1 rfl, hS7.ae 1 rfl, c6x, hS11.ae 0 rfl]
 exact ⟨wv1, wv2, d1, g1, s1, d2, g2, s2, w1, w2, w3, rfl, hS11.pick [2, 3, 4, 5, 6, 7, 8, 9, 10, 11, 12] (by decide) rfl⟩
section
variable (w1 w2 d1 g1 s1 d2 g2 s2 w3 w4 w5 : Value)
theorem a5u : mX (exW 7 2 w1 w2 d1 g1 s1 d2 g2 s2 w3 w4 w5) ⟨[1, 1], 1, 0⟩ = 0 := by kernel_rfl
theorem b6a : mH (exW 7 2 w1 w2 d1 g1 s1 d2 g2 s2 w3 w4 w5) [jY [40, 41], (0, 0)] = 0 := by kernel_rfl
theorem b0d : rkE (exW 7 2 w1 w2 d1 g1 s1 d2 g2 s2 w3 w4 w5) ⟨[1, 1], 1, 0⟩ [jY [40, 41], (0, 0)] = 0 := by
 unfold rkE
 rw [a5u, if_neg (by decide), b6a]
end
def rkS (o : Org) (acc : List Int) (p : Ct) : List Int := acc.set p.1.toNat (oB (iB acc p.1.toNat + uN o p))
def rkF (o : Org) (ps : List Ct) : List Int := ps.foldl (rkS o) (List.replicate o.ranks.length 0)
theorem b1o (o : Org) : ∀ (ps : List Ct) (acc : List Int), (ps.foldl (rkS o) acc).length = acc.length
 | [], _ => rfl
 | p :: ps, acc => by
   rw [eR, b1o o ps]
   unfold rkS
   rw [gM]
theorem a4I (o : Org) (ps : List Ct) : (rkF o ps).length = o.ranks.length := by unfold rkF; rw [b1o, eN]
theorem a6N (o : Org) (ps : List Ct) (i : Nat) (h : i < ps.length) : rkF o (ps.take (i + 1)) = rkS o (rkF o (ps.take i)) (iB ps i) := by
 unfold rkF
 rw [kH ps i h, fu]
 rfl
theorem a6x (acc : List Int) (e : Nat) (x : Int) : ((acc.flatMap (one I)).set e (I x)) = (acc.set e x).flatMap (one I) := by
 rw [nH, nH, gW]
def byF (o : Org) (rg : Reg) (ks : List Nt) : List Int := if rkE o rg ks = 0 then rkF o (nS o rg ks) else []
theorem a3Q (hG : Glob gH H) (o : Org) (ho : o.In H) (rg : Reg) (sv : Value) (hr : rg.In H sv) (kv : Value) (ks : List Nt) (hk : Ks H kv ks) :
 Fn prog 16 [.agg #[.string o.name, o.rv, o.dv, o.cv], .agg #[sv, .int .u64 rg.cpl, .int .u64 rg.off], kv] H fun r H' => ∃ v, r = .tuple #[v, I (rkE o rg ks)] ∧ St prog H H' [⟨v, 1, (byF o rg ks).flatMap (one I)⟩] := by
 have hle := b4k (o := o) (rg := rg) hk.ok
 refine .bd func16 rfl (by kernel_rfl) (m := 53) rfl fun l hn g0 g1 g2 => ?_
 simp (disch := omega) only [↓RA, RB, simprocAttr, g0]
 refine (sR H).eNew 4 [(.string o.name), o.rv, o.dv, o.cv] rfl rfl (by simp [OC, ((sR H).sl ho.1).cells.2.1, ((sR H).sl ho.2.2.1).cells.2.1, ((sR H).sl ho.2.2.2.2.1).cells.2.1]) lU fun A1 H1 hS1 => ?_
 simp only [RT] at hS1
 simp (disch := omega) only [↓RA, RB, simprocAttr, g1]
 refine hS1.eNew 3 [sv, (.int .u64 rg.cpl), (.int .u64 rg.off)] rfl rfl (by simp [OC, (hS1.sl hr.1).cells.2.1]) oA fun A2 H2 hS2 => ?_
 simp only [RT] at hS2
 simp (disch := omega) only [↓RA, RZ, simprocAttr, hn, g2, hS2.ae 0 rfl, hS2.ae 1 rfl]
 have hS1 := hS2
 refine iG (a0G (hS2.gl hG) o (ho.ab hS2) rg sv (hr.ab hS2) kv ks (hk.ab hS2)) ?_
 rintro r H3 ⟨pv, rfl, hx, hT1⟩
 have hS3 := hS2.trans hT1
 simp only [RT] at hS3
 simp (disch := omega) only [↓RA, RB, simprocAttr, hn]
 refine iA (fun h1 => ?_) (fun h1 => ?_)
 ·have hb : byF o rg ks = [] := by unfold byF; rw [if_neg h1]
  have hS4 := hS3.nil 0
  simp only [RT] at hS4
  simp (disch := omega) only [↓RA, RZ, simprocAttr, hn, c5y, h1]
  rw [hb]
  exact ⟨.slice none 0 0, rfl, hS4.pick [2] (by decide) rfl⟩
 have h0 := du.1 h1
 obtain ⟨hz1, hz2⟩ := uU h0
 have hf := Org.aN (mD hz1).1
 have hrl := hf.rlen
 have hb : byF o rg ks = rkF o (nS o rg ks) := by unfold byF; rw [if_pos h0]
 have hx2 := hx.step (hS1.aY (H' := H3))
 obtain ⟨X, hBX, hS5⟩ := hS3.aB (os := [⟨ptr A1 0 4, 0, _⟩, ⟨ptr A2 0 3, 0, _⟩])
 have hx3 := hx2.step (hS5.kept hBX)
 simp (disch := omega) only [↓RA, RZ, simprocAttr, hn, hS5.ld 0 rfl, ((hS3.ai hBX hS5).sl ho.1).len, h1]
 refine hS5.bA o.ranks.length c2V (by omega) fun w1 H4 hS6 => ?_
 simp only [RT] at hS6
 rw [show List.replicate o.ranks.length (Value.int .i64 0) = (List.replicate o.ranks.length (0 : Int)).flatMap (one I) from by rw [nH, gQ]] at hS6
 simp (disch := omega) only [↓RA, RZ, simprocAttr, hn, (hx2.step (hS6.kept hBX)).1.len, h1]
 refine Wp.ak (fun n l H' => l.length = 53 ∧ get l 3 = (ptr A1 0 4) ∧ get l 6 = (.slice none 0 0) ∧ get l 7 = I 0 ∧ get l 27 = pv ∧ get l 28 = I (nS o rg ks).length ∧ ∃ (i : Nat), (n + i = (nS o rg ks).length) ∧ get l 29 = I i ∧ get l 10 = w1 ∧ St prog X H' [⟨ptr A1 0 4, 0, [(.string o.name), o.rv, o.dv, o.cv]⟩, ⟨ptr A2 0 3, 0, [sv, (.int .u64 rg.cpl), (.int .u64 rg.off)]⟩, ⟨w1, 1, (rkF o ((nS o rg ks).take i)).flatMap (one I)⟩]) (nS o rg ks).length ?_ ?_
 ·simp (disch := omega) only [RB, RC, simprocAttr, hn]
  exact ⟨0, by omega, rfl, hS6⟩
 rintro n l H5 ⟨hn, g3, g6, g7, g27, g28, i, hi, g29, oC, hS7⟩
 simp (disch := omega) only [↓RA, RB, simprocAttr, hn, g28, g29]
 refine iA (fun q1 => ?_) (fun q1 => ?_)
 ·have hpi := b0C (o := o) (rg := rg) (ks := ks) _ (iD (xs := nS o rg ks) (j := i) (by omega))
  obtain ⟨e, he⟩ : ∃ e : Nat, (iB (nS o rg ks) i).1 = e := ⟨(iB (nS o rg ks) i).1.toNat, by have := hpi.1; omega⟩
  obtain ⟨f, hff⟩ : ∃ f : Nat, (iB (nS o rg ks) i).2 = f := ⟨(iB (nS o rg ks) i).2.toNat, by have := hpi.2.2.1; omega⟩
  have hel : e < o.ranks.length := by have := hpi.2.1; omega
  have hfl : f < (iB o.ranks e).wind.length := by
   have := hpi.2.2.2
   rw [he, dG] at this
   omega
  have hlr := a4I o ((nS o rg ks).take i)
  have hsu := a6N o (nS o rg ks) i (by omega)
  have hwt : uN o (iB (nS o rg ks) i) = iB (iB o.ranks e).wind f := by unfold uN; rw [he, hff, dG, dG]
  unfold rkS at hsu
  rw [hwt, he, dG] at hsu
  simp (disch := omega) only [↓RA, RZ, simprocAttr, hn, g27, g29, (hx2.step (hS7.kept hBX)).1.idx, (hx2.step (hS7.kept hBX)).1.ae, jM, q1]
  refine hS7.eNew 2 [I 0, I 0] rfl rfl rfl pL fun A3 H6 hS8 => ?_
  simp only [RT] at hS8
  simp (disch := omega) only [↓RA, RZ, simprocAttr, hn, q1]
  refine hS8.aa 3 rfl [I (iB (nS o rg ks) i).1, I (iB (nS o rg ks) i).2] rfl rfl pL (by simp) fun H7 hS9 => ?_
  simp only [RT] at hS9
  simp (disch := omega) only [↓RA, RZ, simprocAttr, q1]
  refine Wp.drw kC (by kernel_rfl) ?_
  simp (disch := omega) only [↓RA, RZ, simprocAttr, hn, oC]
  simp (disch := omega) only [↓RA, RZ, simprocAttr, hn, g3, hS9.ld 3 rfl, (hS9.aw 2 rfl (fun _ => rfl)).idx, (hS9.aw 2 rfl (fun _ => rfl)).ld, one, hS9.ld 0 rfl, ((hS3.ai hBX hS9).sl ho.1).idx, ((hS3.ai hBX hS9).sl ho.1).aZ, ((hS3.ai hBX hS9).sl ho.1).ld, Rk.cells, ((hS3.ai hBX hS9).sl (ho.2.1 (iB o.ranks e) (iD (by omega))).1).idx, ((hS3.ai hBX hS9).sl (ho.2.1 (iB o.ranks e) (iD (by omega))).1).ld, he, hff]
  refine hS9.aS 2 rfl [_] rfl rfl tS3 (by simp) (by rw [nH, ec, hlr]; simp; omega) fun H8 hS10 => ?_
  simp only [RT] at hS10
  simp (disch := omega) only [↓RA, RZ, simprocAttr, hn, g3, g6, g7, g27, g28, g29, oC, he, hff]
  refine ⟨n - 1, by omega, i + 1, by omega, by simp, ?_⟩
  rw [hsu, ← a6x]
  exact hS10.pick [0, 1, 2] (by decide) rfl
 have hnt := (hS7.aw (cel := one I) 2 rfl (fun _ => rfl)).bE
 simp (disch := omega) only [↓RA, RZ, simprocAttr, hn, oC, c5y, q1, hnt]
 have hii : i = (nS o rg ks).length := by omega
 rw [hb, h0]
 refine ⟨_, rfl, ?_⟩
 have h9 := (hS3.ai hBX hS7).pick (os' := [⟨w1, 1, _⟩]) [2] (by decide) rfl
 rw [hii, dM] at h9
 exact h9
end Go.Ds
namespace Go.Ds
open Go.Proofs
variable {H : Heap}
set_option maxRecDepth 10000
set_option maxHeartbeats 1000000
theorem a4a (o : Org) (r : Reg) (l : List Ct) : jO o r l = dd (a3k ((b6G a3k o r l).flatMap (b5p a3k o r))) := by
 rw [← c2o]
 rfl
section
variable (w1 w2 d1 g1 s1 d2 g2 s2 w3 w4 w5 : Value)
end
end Go.Ds
namespace Go.Ds
open Go.Proofs Go.Proofs.Tryz
variable {H : Heap}
set_option maxRecDepth 10000
set_option maxHeartbeats 1000000
theorem a4e (v w : Value) (xs ys : List Int) (hv : Sl 1 (one I) H v xs) (hw : Sl 1 (one I) H w ys) (hl : xs.length < 1000000000) (hl2 : ys.length < 1000000000) :
 Fn prog 19 [v, w] H fun r H' => r = .bool (decide (xs = ys)) ∧ St prog H H' [] := by
 refine .aH func19 rfl (by kernel_rfl) (m := 26) rfl fun l hn g0 g1 => ?_
 simp (disch := omega) only [↓RA, RZ, simprocAttr, hn, g0, g1, ((sR H).sl hv).len, ((sR H).sl hw).len]
 refine iA (fun h1 => ?_) (fun h1 => ?_)
 ·simp (disch := omega) only [↓RA, RZ, simprocAttr, hn, c2j, h1]
  exact ⟨by rw [decide_eq_false]; intro e; rw [e] at h1; exact h1 rfl, (sR H)⟩
 simp (disch := omega) only [↓RA, RZ, simprocAttr, hn, g0, ((sR H).sl hv).len, h1]
 refine Wp.ak (fun n l H' => l.length = 26 ∧ get l 0 = v ∧ get l 1 = w ∧ get l 12 = I xs.length ∧ ∃ (j : Nat), (n + j = xs.length ∧ ∀ q, q < j → iB xs q = iB ys q) ∧ get l 13 = I j ∧ St prog H H' []) xs.length ?_ ?_
 ·simp (disch := omega) only [RB, RC, simprocAttr, hn, g0, g1]
  exact ⟨0, ⟨by omega, fun q hq => absurd hq (dL _)⟩, rfl, (sR H)⟩
 rintro n l H1 ⟨hn, g0, g1, g12, j, ⟨hj,hz⟩, g13, hS1⟩
 simp (disch := omega) only [↓RA, RB, simprocAttr, hn, g12, g13]
 refine iA (fun q1 => ?_) (fun q1 => ?_)
 ·simp (disch := omega) only [↓RA, RZ, simprocAttr, hn, g13, q1]
  refine Wp.drw kC (by kernel_rfl) ?_
  simp (disch := omega) only [↓RA, RZ, simprocAttr, hn, g0, g1, (hS1.sl hv).idx, (hS1.sl hv).ld, one, (hS1.sl hw).idx, (hS1.sl hw).ld]
  refine iA (fun q2 => ?_) (fun q2 => ?_)
  ·simp (disch := omega) only [↓RA, RZ, simprocAttr, hn, c2j, q2]
   refine ⟨?_, hS1⟩
   rw [decide_eq_false]
   intro e
   rw [e] at q2
   exact q2 rfl
  have q3 := du.1 q2
  simp (disch := omega) only [↓RA, RZ, simprocAttr, hn, g0, g1, g12, g13, q2]
  exact ⟨n - 1, by omega, j + 1, ⟨by omega, fun q hq => by rcases dr.1 hq with e | e; (· exact hz q e); (· rw [e]; exact q3)⟩, by simp, hS1⟩
 simp (disch := omega) only [↓RA, RZ, simprocAttr, hn, c2j, q1]
 exact ⟨by rw [decide_eq_true]; exact a8B (by omega) fun q hq => hz q (by omega), hS1⟩
def rgX : Reg := ⟨[1, 1], 1, 0⟩
def ksX : List Nt := [jY [40, 41], (0, 0)]
section
variable (w1 w2 d1 g1 s1 d2 g2 s2 w3 w4 w5 : Value)
theorem b1n : nS (exW 7 2 w1 w2 d1 g1 s1 d2 g2 s2 w3 w4 w5) rgX ksX = [(0, 4), (0, 5), (1, 16), (1, 17)] := by
 unfold nS
 rw [show rkE (exW 7 2 w1 w2 d1 g1 s1 d2 g2 s2 w3 w4 w5) rgX ksX = 0 from b0d .., if_pos rfl, a4a]
 kernel_rfl
theorem b9A : a7d (exW 7 2 w1 w2 d1 g1 s1 d2 g2 s2 w3 w4 w5) rgX ksX = 18 := by
 unfold a7d
 rw [b1n]
 kernel_rfl
theorem c2c : byF (exW 7 2 w1 w2 d1 g1 s1 d2 g2 s2 w3 w4 w5) rgX ksX = [14, 4] := by
 unfold byF
 rw [show rkE (exW 7 2 w1 w2 d1 g1 s1 d2 g2 s2 w3 w4 w5) rgX ksX = 0 from b0d .., if_pos rfl, b1n]
 kernel_rfl
theorem b8G (o : Org) (rg : Reg) : tV o rg = fun c => rL o (if a2X o rg c = 0 then dd (a3k ((b6G a3k o rg [c]).flatMap (b5p a3k o rg))) else []) := by
 funext c
 unfold tV ofF
 rw [a4a]
theorem c1x : grR (exW 7 2 w1 w2 d1 g1 s1 d2 g2 s2 w3 w4 w5) rgX = ((0, 36), 9) := by
 unfold grR
 rw [show mX (exW 7 2 w1 w2 d1 g1 s1 d2 g2 s2 w3 w4 w5) rgX = 0 from a5u .., if_pos rfl, b8G]
 kernel_rfl
end
theorem a8t : rgX.Ok := ⟨by decide, by decide, by decide, by decide⟩
theorem b4M : ∀ x ∈ ksX, Nt.Ok x := by
 intro x hx
 simp only [ksX, dU, dX, or_false] at hx
 rcases hx with rfl | rfl <;> exact ⟨by decide, by decide⟩
theorem a2v (hG : Glob gH H) : Fn prog 10 [] H fun r H' => r = .bool true ∧ St prog H H' [] := by
 refine .cM func10 rfl (by kernel_rfl) (m := 89) rfl fun l hn => ?_
 simp (disch := omega) only [↓RA, RZ, simprocAttr]
 refine iG (a7q ((sR H).gl hG)) ?_
 rintro r H1 ⟨xa, xb, da, ga, sa, db, gb, sb, xr, xd, xc, rfl, hT1⟩
 have hS1 := (sR H).trans hT1
 simp only [RT] at hS1
 simp (disch := omega) only [↓RA, RZ, simprocAttr]
 refine hS1.eNew 4 [(.string ⟨#[]⟩), (.slice none 0 0), (.slice none 0 0), (.slice none 0 0)] rfl rfl rfl lU fun A1 H2 hS2 => ?_
 simp only [RT] at hS2
 simp (disch := omega) only [↓RA, RB, simprocAttr, hn]
 refine hS2.aa 11 rfl [(.string ⟨#[101]⟩), xr, xd, xc] rfl (by simp [OC, (hS2.rd 8 rfl).cells.2.1, (hS2.rd 9 rfl).cells.2.1, (hS2.rd 10 rfl).cells.2.1]) lU (by simp) fun H3 hS3 => ?_
 simp only [RT] at hS3
 simp (disch := omega) only [↓RA, RB, simprocAttr]
 refine Wp.aO kC [(1, 3), (1, 4)] (by kernel_rfl) (by kernel_rfl) ?_
 simp (disch := omega) only [↓RA, RZ, simprocAttr, hn, hS3.ld 11 rfl]
 refine hS3.aj [I 7] yH a2q rfl rfl (by simp [Value.cells]) rfl rfl (by decide) (by decide) fun w1 H4 hS4 => ?_
 simp only [RT] at hS4
 simp (disch := omega) only [↓RA, RZ, simprocAttr, hn]
 refine iG ((a2A (c := 7) (hS4.gl hG) w1 (hS4.aw 12 rfl (fun _ => rfl))).tr) ?_
 rintro r H5 ⟨-, hT2⟩
 have hS5 := hS4.trans hT2
 simp only [RT] at hS5
 obtain ⟨ya, rfl⟩ : ∃ w, w = r := ⟨r, rfl⟩
 have hl1 : (zW 1 1 xa xb).length = 2 := rfl
 simp (disch := omega) only [↓RA, RZ, simprocAttr, hn, (hS5.aw 8 rfl (fun _ => rfl)).idx, (hS5.aw 8 rfl (fun _ => rfl)).aZ]
 refine hS5.aS 8 rfl [ya] (by rw [(hS5.rd 13 rfl).cells.1]) (by simp [(hS5.rd 13 rfl).cells.2.1]) b1I (by simp) (by simp [zW, Rk.cells]) fun H6 hS6 => ?_
 simp only [RT] at hS6
 simp (disch := omega) only [↓RA, RZ, simprocAttr, hn, hS4.ld 11 rfl, hS5.ld 11 rfl]
 refine Wp.aO kC [(1, 3), (1, 4)] (by kernel_rfl) (by kernel_rfl) ?_
 simp (disch := omega) only [↓RA, RZ, simprocAttr, hn, hS6.ld 11 rfl]
 refine hS6.aj [I 2] yH a2q rfl rfl (by simp [Value.cells]) rfl rfl (by decide) (by decide) fun w2 H7 hS7 => ?_
 simp only [RT] at hS7
 simp (disch := omega) only [↓RA, RZ, simprocAttr, hn]
 have hset1 : ((zW 1 1 xa xb).flatMap Rk.cells).set 5 ya = (zW 7 1 ya xb).flatMap Rk.cells := rfl
 simp only [Nat.zero_mul, fP, hset1] at hS7
 refine iG ((a2A (c := 2) (hS7.gl hG) w2 (hS7.aw 14 rfl (fun _ => rfl))).tr) ?_
 rintro r H8 ⟨-, hT3⟩
 have hS8 := hS7.trans hT3
 simp only [RT] at hS8
 obtain ⟨yb, rfl⟩ : ∃ w, w = r := ⟨r, rfl⟩
 have hl2 : (zW 7 1 ya xb).length = 2 := rfl
 simp (disch := omega) only [↓RA, RZ, simprocAttr, hn, (hS8.aw 8 rfl (fun _ => rfl)).idx, (hS8.aw 8 rfl (fun _ => rfl)).aZ]
 refine hS8.aS 8 rfl [yb] (by rw [(hS8.rd 15 rfl).cells.1]) (by simp [(hS8.rd 15 rfl).cells.2.1]) b1I (by simp) (by simp [zW, Rk.cells]) fun H9 hS9 => ?_
 simp only [RT] at hS9
 simp (disch := omega) only [↓RA, RZ, simprocAttr, hn, hS7.ld 11 rfl, hS8.ld 11 rfl]
 have hset2 : ((zW 7 1 ya xb).flatMap Rk.cells).set 11 yb = (zW 7 2 ya yb).flatMap Rk.cells := rfl
 simp only [Nat.one_mul, Nat.reduceAdd, hset2] at hS9
 have h1 : Sl 1 (one I) H9 ya (List.replicate 25 7) := hS9.aw 13 rfl (fun _ => rfl)
 have h2 : Sl 1 (one I) H9 yb (List.replicate 25 2) := hS9.aw 15 rfl (fun _ => rfl)
 have h3 : Sl 2 Drw.cells H9 da [⟨0, 0⟩] := hS9.aw 2 rfl (fun _ => rfl)
 have h4 : Sl 3 Seg.cells H9 ga [⟨36, 48, da, [⟨0, 0⟩]⟩] := hS9.aw 3 rfl (fun _ => rfl)
 have h5 : Sl 4 Stp.cells H9 sa [⟨⟨#[97]⟩, 8, 1, ga, [⟨36, 48, da, [⟨0, 0⟩]⟩]⟩] := hS9.aw 4 rfl (fun _ => rfl)
 have h6 : Sl 2 Drw.cells H9 db [⟨1, 12⟩] := hS9.aw 5 rfl (fun _ => rfl)
 have h7 : Sl 3 Seg.cells H9 gb [⟨36, 48, db, [⟨1, 12⟩]⟩] := hS9.aw 6 rfl (fun _ => rfl)
 have h8 : Sl 4 Stp.cells H9 sb [⟨⟨#[97]⟩, 4, 1, gb, [⟨36, 48, db, [⟨1, 12⟩]⟩]⟩] := hS9.aw 7 rfl (fun _ => rfl)
 have h9 : Sl 6 Rk.cells H9 xr (zW 7 2 ya yb) := hS9.aw 8 rfl (fun _ => rfl)
 have h10 : Sl 5 Dvn.cells H9 xd (b5U da ga sa db gb sb) := hS9.aw 9 rfl (fun _ => rfl)
 have h11 : Sl 5 Cpl.cells H9 xc b9o := hS9.aw 10 rfl (fun _ => rfl)
 have hS0 := hS9
 have hG2 := hS0.gl hG
 have hvA : Var H9 A1 4 [.string ⟨#[101]⟩, xr, xd, xc] := hS0.var 11 rfl
 obtain ⟨o, hoe⟩ : ∃ o, o = exW 7 2 ya yb da ga sa db gb sb xr xd xc := ⟨_, rfl⟩
 have ho : o.In H9 := by
  subst hoe
  refine ⟨h9, ?_, h10, ?_, h11, by simp [exW, zW], by simp [exW, b5U], by simp [exW, b9o]⟩
  ·intro r hr
   simp only [exW, zW, dU, dX, or_false] at hr
   rcases hr with rfl | rfl
   ·exact ⟨h1, by simp⟩
   ·exact ⟨h2, by simp⟩
  ·intro d hd
   simp only [exW, b5U, dU, dX, or_false] at hd
   rcases hd with rfl | rfl
   ·exact ⟨h5, fun s hs => by rw [dA.1 hs]; exact ⟨h4, fun g hg => by rw [dA.1 hg]; exact ⟨h3, by simp⟩, by simp⟩, by simp⟩
   ·exact ⟨h8, fun s hs => by rw [dA.1 hs]; exact ⟨h7, fun g hg => by rw [dA.1 hg]; exact ⟨h6, by simp⟩, by simp⟩, by simp⟩
 have hv0 : Var H9 A1 4 [.string o.name, o.rv, o.dv, o.cv] := by rw [hoe]; exact hvA
 have q1 : rkE o rgX ksX = 0 := by subst hoe; exact b0d ..
 have q2 : a7d o rgX ksX = 18 := by subst hoe; exact b9A ..
 have q3 : byF o rgX ksX = [14, 4] := by subst hoe; exact c2c ..
 have q4 : grR o rgX = ((0, 36), 9) := by subst hoe; exact c1x ..
 have q5 : mX o rgX = 0 := by subst hoe; exact a5u ..
 have hG1 : ∀ z ∈ [(40 : Int), 41], isN z := fun z hz => by
  simp only [dU, dX, or_false] at hz
  rcases hz with rfl | rfl <;> exact ⟨by decide, by decide⟩
 clear hoe h1 h2 h3 h4 h5 h6 h7 h8 h9 h10 h11 hvA
 refine (sR H9).aj [(.int .u64 1), (.int .u64 1)] c2s c3Y rfl rfl (by simp [Value.cells]) rfl rfl (by decide) (by decide) fun w3 H10 hS10 => ?_
 simp only [RT] at hS10
 simp (disch := omega) only [↓RA, RZ, simprocAttr, hn, b4u (hS10.rd 0 rfl).cells]
 refine hS10.eNew 3 [(.slice none 0 0), (.int .u64 0), (.int .u64 0)] rfl rfl rfl oA fun A2 H11 hS11 => ?_
 simp only [RT] at hS11
 simp (disch := omega) only [↓RA, RB, simprocAttr, hn]
 refine hS11.aa 1 rfl [w3, (.int .u64 1), (.int .u64 0)] rfl (by simp [OC, (hS11.rd 0 rfl).cells.2.1]) oA (by simp) fun H12 hS12 => ?_
 simp only [RT] at hS12
 simp (disch := omega) only [↓RA, RB, simprocAttr]
 refine hS12.aj [I 40, I 41] yH a2q rfl rfl (by simp [Value.cells]) rfl rfl (by decide) (by decide) fun w4 H13 hS13 => ?_
 simp only [RT] at hS13
 simp (disch := omega) only [↓RA, RZ, simprocAttr, hn]
 refine hS13.cF (wY [40, 41] hG1 w4 (hS13.aw 2 rfl (fun _ => rfl)) (by simp)) fun H14 hS14 => ?_
 simp (disch := omega) only [↓RA, RZ, simprocAttr, hn]
 refine hS14.eNew 2 [(.int .u64 0), (.int .u64 0)] rfl rfl rfl lK fun A3 H15 hS15 => ?_
 simp only [RT] at hS15
 simp (disch := omega) only [↓RA, RB, simprocAttr, hn]
 refine hS15.aa 3 rfl [(.int .u64 (jY [40, 41]).1), (.int .u64 (jY [40, 41]).2)] rfl rfl lK (by simp) fun H16 hS16 => ?_
 simp only [RT] at hS16
 simp (disch := omega) only [↓RA, RZ, simprocAttr, hn, (hv0.ab hS16.ab).ae, hS16.ae 1 rfl, hS16.ae 3 rfl, b0i]
 refine hS16.aj [(.int .u64 (jY [40, 41]).1), (.int .u64 (jY [40, 41]).2), (.int .u64 0), (.int .u64 0)] b2X b8a rfl rfl (by simp [Value.cells]) rfl rfl (by decide) (by decide) fun w5 H17 hS17 => ?_
 simp only [RT] at hS17
 simp (disch := omega) only [↓RA, RZ, simprocAttr, hn]
 refine hS17.cF (b3Q (hS17.gl hG2) o (ho.ab hS17) rgX w3 ⟨hS17.aw 0 rfl (fun _ => rfl), a8t⟩ w5 ksX ⟨hS17.aw 4 rfl (fun _ => rfl), by decide, b4M⟩) fun H18 hS18 => ?_
 rw [q1, q2]
 simp (disch := omega) only [↓RA, RZ, simprocAttr, hn, (hv0.ab hS18.ab).ae, hS18.ae 1 rfl, hS18.ae 3 rfl, b0i]
 refine hS18.aj [(.int .u64 (jY [40, 41]).1), (.int .u64 (jY [40, 41]).2), (.int .u64 0), (.int .u64 0)] b2X b8a rfl rfl (by simp [Value.cells]) rfl rfl (by decide) (by decide) fun w6 H19 hS19 => ?_
 simp only [RT] at hS19
 simp (disch := omega) only [↓RA, RZ, simprocAttr, hn]
 refine iG (a3Q (hS19.gl hG2) o (ho.ab hS19) rgX w3 ⟨hS19.aw 0 rfl (fun _ => rfl), a8t⟩ w6 ksX ⟨hS19.aw 5 rfl (fun _ => rfl), by decide, b4M⟩) ?_
 rintro r H20 ⟨bv, rfl, hT6⟩
 have hS20 := hS19.trans hT6
 simp only [RT] at hS20
 rw [q1]
 rw [q3] at hS20
 simp (disch := omega) only [↓RA, RZ, simprocAttr, hn, (hv0.ab hS20.ab).ae, hS20.ae 1 rfl]
 refine hS20.cF (a7p o (ho.ab hS20) rgX w3 ⟨hS20.aw 0 rfl (fun _ => rfl), a8t⟩) fun H21 hS21 => ?_
 rw [q4, q5]
 dsimp only
 simp (disch := omega) only [↓RA, RZ, simprocAttr, hn]
 refine hS21.eNew 2 [I 0, I 0] rfl rfl rfl lQ fun A4 H22 hS22 => ?_
 simp only [RT] at hS22
 simp (disch := omega) only [↓RA, RB, simprocAttr, hn]
 refine hS22.aa 7 rfl [I 0, I 36] rfl rfl lQ (by simp) fun H23 hS23 => ?_
 simp only [RT] at hS23
 simp (disch := omega) only [↓RA, RZ, simprocAttr, hn]
 refine hS23.aj [I 14, I 4] yH a2q rfl rfl (by simp [Value.cells]) rfl rfl (by decide) (by decide) fun w7 H24 hS24 => ?_
 simp only [RT] at hS24
 simp (disch := omega) only [↓RA, RZ, simprocAttr, hn]
 refine hS24.cF (a4e bv w7 [14, 4] [14, 4] (hS24.aw 6 rfl (fun _ => rfl)) (hS24.aw 8 rfl (fun _ => rfl)) (by simp) (by simp)) fun H25 hS25 => ?_
 rw [decide_eq_true rfl]
 simp (disch := omega) only [↓RA, RZ, simprocAttr, hn, hS25.ae 7 rfl, c2w]
 simp (disch := omega) only [RB, RC, simprocAttr, hn, c5W]
 exact hS0.forget.trans hS25.forget
theorem b0m (hG : Glob gH H) (p : Pln) (hp : p.In H) (hk : p.Ok) (b : Nat → Nat) (hb : ∀ i, b i < 256) (c : Nat → Nat) (hc : ∀ i, c i < 65536) :
 Fn prog 3 [.agg #[p.rv, p.dv, p.cv], .agg #[.int .u8 (b 0), .int .u8 (b 1), .int .u8 (b 2), .int .u8 (b 3), .int .u8 (b 4)], .agg #[.int .u16 (c 0), .int .u16 (c 1), .int .u16 (c 2)]] H fun r H' => r = .bool true ∧ St prog H H' [] := by
 refine .bd func3 rfl (by kernel_rfl) (m := 98) rfl fun l hn g0 g1 g2 => ?_
 simp (disch := omega) only [↓RA, RB, simprocAttr, g0]
 refine (sR H).eNew 3 [p.rv, p.dv, p.cv] rfl rfl (by simp [((sR H).sl hp.1).cells.2.1, ((sR H).sl hp.2.1).cells.2.1, ((sR H).sl hp.2.2.2.1).cells.2.1]) b7E fun A1 H1 hS1 => ?_
 simp only [RT] at hS1
 simp (disch := omega) only [↓RA, RB, simprocAttr, g1]
 refine hS1.eNew 5 [(.int .u8 (b 0)), (.int .u8 (b 1)), (.int .u8 (b 2)), (.int .u8 (b 3)), (.int .u8 (b 4))] rfl rfl rfl c1l fun A2 H2 hS2 => ?_
 simp only [RT] at hS2
 simp (disch := omega) only [↓RA, RB, simprocAttr, g2]
 refine hS2.eNew 3 [(.int .u16 (c 0)), (.int .u16 (c 1)), (.int .u16 (c 2))] rfl rfl rfl c2W fun A3 H3 hS3 => ?_
 simp only [RT] at hS3
 simp (disch := omega) only [↓RA, RZ, simprocAttr]
 refine hS3.cF (a2v (hS3.gl hG)) fun H4 hS4 => ?_
 simp (disch := omega) only [↓RA, RZ, simprocAttr, hn, hS4.ae 0 rfl]
 refine hS4.cF (b7B p (hp.ab hS4)) fun H5 hS5 => ?_
 simp (disch := omega) only [↓RA, RZ, simprocAttr, hn]
 refine jL (fun h1 => ?_) (fun h1 => ?_)
 ·simp (disch := omega) only [↓RA, RZ, simprocAttr]
  refine hS5.cF (a2v (hS5.gl hG)) fun H6 hS6 => ?_
  simp (disch := omega) only [↓RA, RZ, simprocAttr, hn, tR3, h1]
  exact hS6.forget
 have hf : wB p = true := by simpa using h1
 simp (disch := omega) only [↓RA, RZ, simprocAttr, hn, hS5.ae 0 rfl, h1]
 refine iG (b2f (hS5.gl hG) p (hp.ab hS5) hk hf) ?_
 rintro r H7 ⟨o, rfl, ho, hm, hT4⟩
 have hS7 := hS5.trans hT4
 simp only [RT] at hS7
 have hS0 := hS7
 have hG2 := hS0.gl hG
 have hoe := hm.ok.organE
 have hrg := b2M b hoe
 have hf0 := Org.aN hoe
 obtain ⟨k1, k2, k3⟩ := hm.small hf
 have hok := b1R (o := o) hb k2
 have hkl := sM o c
 have hkO := a7D hf0 c
 have hkE := a9f hoe c
 simp (disch := omega) only [↓RA, RZ, simprocAttr]
 refine (sR H7).eNew 4 [(.string ⟨#[]⟩), (.slice none 0 0), (.slice none 0 0), (.slice none 0 0)] rfl rfl rfl lU fun A4 H8 hS8 => ?_
 simp only [RT] at hS8
 simp (disch := omega) only [↓RA, RB, simprocAttr, hn, h1]
 refine hS8.aa 0 rfl [(.string o.name), o.rv, o.dv, o.cv] rfl (by simp [OC, (hS8.sl ho.1).cells.2.1, (hS8.sl ho.2.2.1).cells.2.1, (hS8.sl ho.2.2.2.2.1).cells.2.1]) lU (by simp) fun H9 hS9 => ?_
 simp only [RT] at hS9
 simp (disch := omega) only [↓RA, RB, simprocAttr, h1]
 refine Wp.aO kC [(3, 0), (4, 0)] (by kernel_rfl) (by kernel_rfl) ?_
 simp (disch := omega) only [↓RA, RZ, simprocAttr, hn, hS9.ae 0 rfl, ((hS0.var 1 rfl).ab hS9.ab).ae]
 have hD := a8O o (ho.ab hS9) k1 k2 k3 b hb
 generalize hrgE : vD o b = rg at hrg hok hD
 refine iG (hD) ?_
 rintro r H10 ⟨sv, rfl, hT5⟩
 have hS10 := hS9.trans hT5
 simp only [RT] at hS10
 simp (disch := omega) only [↓RA, RZ, simprocAttr, hn, hS10.ae 0 rfl, ((hS0.var 2 rfl).ab hS10.ab).ae]
 have hP := a8E o (ho.ab hS10) hf0 c hc
 generalize hksE : pP o c = ks at hkl hkO hkE hP
 refine iG (hP.tr) ?_
 rintro r H11 ⟨-, hT6⟩
 have hS11 := hS10.trans hT6
 simp only [RT] at hS11
 obtain ⟨kv, rfl⟩ : ∃ w, w = r := ⟨r, rfl⟩
 simp (disch := omega) only [↓RA, RZ, simprocAttr]
 refine hS11.eNew 3 [(.slice none 0 0), (.int .u64 0), (.int .u64 0)] rfl rfl rfl oA fun A5 H12 hS12 => ?_
 simp only [RT] at hS12
 simp (disch := omega) only [↓RA, RB, simprocAttr, hn]
 refine hS12.aa 3 rfl [sv, (.int .u64 rg.cpl), (.int .u64 rg.off)] rfl (by simp [OC, (hS12.rd 1 rfl).cells.2.1]) oA (by simp) fun H13 hS13 => ?_
 simp only [RT] at hS13
 simp (disch := omega) only [↓RA, RZ, simprocAttr, hn, hS9.ae 0 rfl, hS13.ae 0 rfl, ((hS0.var 2 rfl).ab hS9.ab).ae, hS13.ae 3 rfl]
 have hrk : rkE o rg ks = 0 := by unfold rkE; rw [if_neg (by rw [hrg]; simp)]; exact hkE
 have hrl : rg.stops.length = o.dvs.length := (mD hrg).2
 have hplc := nX hkO hkE
 have hpll := pD hkE
 have hsp : nS o rg ks = jO o rg (iE ks) := by unfold nS; rw [if_pos hrk]
 have hdF : a7d o rg ks = rL o (jO o rg (iE ks)) := by unfold a7d; rw [hsp]
 have hbF : byF o rg ks = rkF o (jO o rg (iE ks)) := by unfold byF; rw [if_pos hrk, hsp]
 have hle := qH hf0 rg hpll (mC hplc)
 have hrl0 := hf0.rlen
 refine hS13.cF (b3Q (hS13.gl hG2) o (ho.ab hS13) rg sv ⟨hS13.aw 1 rfl (fun _ => rfl), hok⟩ kv ks ⟨hS13.aw 2 rfl (fun _ => rfl), by omega, hkO⟩) fun H14 hS14 => ?_
 rw [hrk, hdF]
 simp (disch := omega) only [↓RA, RZ, simprocAttr, hn, hS14.ae 0 rfl, hS14.ae 3 rfl]
 refine iG (a3Q (hS14.gl hG2) o (ho.ab hS14) rg sv ⟨hS14.aw 1 rfl (fun _ => rfl), hok⟩ kv ks ⟨hS14.aw 2 rfl (fun _ => rfl), by omega, hkO⟩) ?_
 rintro r H15 ⟨bv, rfl, hT8⟩
 have hS15 := hS14.trans hT8
 simp only [RT] at hS15
 rw [hrk]
 rw [hbF] at hS15
 simp (disch := omega) only [↓RA, RZ, simprocAttr, hn, hS15.ld 0 rfl, (hS15.sl ho.1).len]
 refine hS15.bA o.ranks.length c2V (by omega) fun w1 H16 hS16 => ?_
 simp only [RT] at hS16
 rw [show List.replicate o.ranks.length (Value.int .i64 0) = (List.replicate o.ranks.length (0 : Int)).flatMap (one I) from by rw [nH, gQ]] at hS16
 simp (disch := omega) only [↓RA, RZ, simprocAttr, hn, hS16.ae 0 rfl, hS16.ae 3 rfl]
 have hSp := hS16
 refine iG (vV o (ho.ab hS16) hoe rg sv ⟨hS16.aw 1 rfl (fun _ => rfl), hok⟩ hrl kv ks ⟨hS16.aw 2 rfl (fun _ => rfl), by omega, hkO⟩ hkE) ?_
 rintro r H17 ⟨hx, hT9⟩
 have hS17 := hS16.trans hT9
 simp only [RT] at hS17
 obtain ⟨pv, rfl⟩ : ∃ w, w = r := ⟨r, rfl⟩
 have hx2 := hx.step (hSp.aY (H' := H17))
 obtain ⟨X, hBX, hS18⟩ := hS17.aB (os := [⟨ptr A4 0 4, 0, _⟩, ⟨sv, 1, _⟩, ⟨kv, 2, _⟩, ⟨ptr A5 0 3, 0, _⟩, ⟨bv, 1, _⟩, ⟨w1, 1, _⟩])
 have hx3 := hx2.step (hS18.kept hBX)
 simp (disch := omega) only [↓RA, RZ, simprocAttr, hn, (hx2.step (hS18.kept hBX)).1.len]
 have hpL : ∀ p ∈ jO o rg (iE ks), IsP o p := fun p hp => qR hp
 refine Wp.ak (fun n l H' => l.length = 98 ∧ get l 6 = (.bool false) ∧ get l 7 = (ptr A4 0 4) ∧ get l 8 = (ptr A5 0 3) ∧ get l 9 = kv ∧ get l 10 = I (rL o (jO o rg (iE ks))) ∧ get l 11 = I 0 ∧ get l 12 = bv ∧ get l 13 = I 0 ∧ get l 54 = pv ∧ get l 55 = I (jO o rg (iE ks)).length ∧ ∃ (i : Nat), (n + i = (jO o rg (iE ks)).length) ∧ get l 56 = I i ∧ get l 14 = w1 ∧ St prog X H' [⟨ptr A4 0 4, 0, [(.string o.name), o.rv, o.dv, o.cv]⟩, ⟨sv, 1, rg.stops.flatMap (one u64)⟩, ⟨kv, 2, ks.flatMap ntc⟩, ⟨ptr A5 0 3, 0, [sv, (.int .u64 rg.cpl), (.int .u64 rg.off)]⟩, ⟨bv, 1, (rkF o (jO o rg (iE ks))).flatMap (one I)⟩, ⟨w1, 1, (rkF o ((jO o rg (iE ks)).take i)).flatMap (one I)⟩]) (jO o rg (iE ks)).length ?_ ?_
 ·simp (disch := omega) only [RB, RC, simprocAttr, hn]
  exact ⟨0, by omega, rfl, hS18⟩
 rintro n l H18 ⟨hn, g6, g7, g8, g9, oC, g11, g12, g13, g54, g55, i, hi, g56, g14, hS19⟩
 simp (disch := omega) only [↓RA, RB, simprocAttr, hn, g55, g56]
 refine iA (fun q1 => ?_) (fun q1 => ?_)
 ·have hpi := hpL _ (iD (xs := (jO o rg (iE ks))) (j := i) (by omega))
  obtain ⟨e, he⟩ : ∃ e : Nat, (iB (jO o rg (iE ks)) i).1 = e := ⟨(iB (jO o rg (iE ks)) i).1.toNat, by have := hpi.1; omega⟩
  obtain ⟨f, hff⟩ : ∃ f : Nat, (iB (jO o rg (iE ks)) i).2 = f := ⟨(iB (jO o rg (iE ks)) i).2.toNat, by have := hpi.2.2.1; omega⟩
  have hel : e < o.ranks.length := by have := hpi.2.1; omega
  have hfl : f < (iB o.ranks e).wind.length := by
   have := hpi.2.2.2
   rw [he, dG] at this
   omega
  have hlr := a4I o ((jO o rg (iE ks)).take i)
  have hsu := a6N o (jO o rg (iE ks)) i (by omega)
  have hwt : uN o (iB (jO o rg (iE ks)) i) = iB (iB o.ranks e).wind f := by unfold uN; rw [he, hff, dG, dG]
  unfold rkS at hsu
  rw [hwt, he, dG] at hsu
  simp (disch := omega) only [↓RA, RZ, simprocAttr, hn, g54, g56, (hx2.step (hS19.kept hBX)).1.idx, (hx2.step (hS19.kept hBX)).1.ae, jM, q1]
  refine hS19.eNew 2 [I 0, I 0] rfl rfl rfl pL fun A6 H19 hS20 => ?_
  simp only [RT] at hS20
  simp (disch := omega) only [↓RA, RZ, simprocAttr, hn, q1]
  refine hS20.aa 6 rfl [I (iB (jO o rg (iE ks)) i).1, I (iB (jO o rg (iE ks)) i).2] rfl rfl pL (by simp) fun H20 hS21 => ?_
  simp only [RT] at hS21
  simp (disch := omega) only [↓RA, RZ, simprocAttr, q1]
  refine Wp.drw kC (by kernel_rfl) ?_
  simp (disch := omega) only [↓RA, RZ, simprocAttr, hn, g14]
  simp (disch := omega) only [↓RA, RZ, simprocAttr, hn, g7, hS21.ld 6 rfl, (hS21.aw 5 rfl (fun _ => rfl)).idx, (hS21.aw 5 rfl (fun _ => rfl)).ld, one, hS21.ld 0 rfl, ((hS17.ai hBX hS21).sl ho.1).idx, ((hS17.ai hBX hS21).sl ho.1).aZ, ((hS17.ai hBX hS21).sl ho.1).ld, Rk.cells, ((hS17.ai hBX hS21).sl (ho.2.1 (iB o.ranks e) (iD (by omega))).1).idx, ((hS17.ai hBX hS21).sl (ho.2.1 (iB o.ranks e) (iD (by omega))).1).ld, he, hff]
  refine hS21.aS 5 rfl [_] rfl rfl tS3 (by simp) (by rw [nH, ec, hlr]; simp; omega) fun H21 hS22 => ?_
  simp only [RT] at hS22
  simp (disch := omega) only [↓RA, RZ, simprocAttr, hn, g6, g7, g8, g9, oC, g11, g12, g13, g54, g55, g56, g14, he, hff]
  refine ⟨n - 1, by omega, i + 1, by omega, by simp, ?_⟩
  rw [hsu, ← a6x]
  exact hS22.pick [0, 1, 2, 3, 4, 5] (by decide) rfl
 have hii : i = (jO o rg (iE ks)).length := by omega
 rw [hii, dM] at hS19
 simp (disch := omega) only [↓RA, RZ, simprocAttr, hn, g7, g8, g9, oC, g11, g13, hS19.ae 0 rfl, hS19.ae 3 rfl, q1]
 refine hS19.cF (c2Z o (ho.ab (hS17.ai hBX hS19)) hoe rg sv ⟨hS19.aw 1 rfl (fun _ => rfl), hok⟩ hrl kv ks ⟨hS19.aw 2 rfl (fun _ => rfl), by omega, hkO⟩ hkE) fun H22 hS23 => ?_
 simp (disch := omega) only [↓RA, RZ, simprocAttr, hn, g12, g14, q1]
 have hrkl := a4I o (jO o rg (iE ks))
 refine hS23.cF (a4e bv w1 (rkF o (jO o rg (iE ks))) (rkF o (jO o rg (iE ks))) (hS23.aw 4 rfl (fun _ => rfl)) (hS23.aw 5 rfl (fun _ => rfl)) (by omega) (by omega)) fun H23 hS24 => ?_
 rw [decide_eq_true rfl]
 simp (disch := omega) only [↓RA, RZ, simprocAttr, hn, tR3, q1]
 exact hS0.forget.trans (hS17.ai hBX hS24).forget
end Go.Ds
