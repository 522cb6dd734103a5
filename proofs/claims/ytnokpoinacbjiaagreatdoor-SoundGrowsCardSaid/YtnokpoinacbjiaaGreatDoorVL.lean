/-
  A part of the proof of SoundGrows.
-/
import Derived.Test.YtnokpoinacbjiaaGreatDoorVJ
import Derived.Test.YtnokpoinacbjiaaGreatDoorVD
import Derived.Test.YtnokpoinacbjiaaGreatDoorVE
set_option linter.unusedVariables false
set_option linter.unusedSimpArgs false
set_option linter.defProp false
set_option linter.unusedSectionVars false
namespace Go.Ds
open Go.Proofs Go.Proofs.Tryz Go.ChangeShapes Go.WideShapes Go.RowKit Go.Deep
set_option maxRecDepth 10000
theorem c5n : prog.cellsOf 28 = 1 := by kernel_rfl
theorem c4N : prog.cellsOf 29 = 3 := by kernel_rfl
section
variable {H0 : Type} {enc : TypeId × Value → H0} {w : World} {base n : Nat} {spare : Nat → Bool} {kX : Bool} {x : DataW H0 × List MemPlace}
theorem a9f {v : Value} (h : DataW.trod enc prog w base spare kX n 28 [v] = some x) : ∃ m : Nat, v = .int .u16 m ∧ m < 65536 := by
 obtain ⟨m, hv, _, hw⟩ := DataW.trod_int underlying28 h
 have hv : v = .int .u16 m := by simpa using hv
 have hm : 0 ≤ m ∧ m ≤ 65535 := by simpa [Lit.wf, IntKind.min, IntKind.max, IntKind.signed, IntKind.bits] using hw
 exact ⟨m.toNat, by rw [hv, fp hm.1], by omega⟩
theorem c0w {cs : List Value} (h : DataW.trod enc prog w base spare kX n 29 cs = some x) : ∃ b : Nat → Nat, (∀ i, b i < 65536) ∧ cs = [.int .u16 (b 0), .int .u16 (b 1), .int .u16 (b 2)] := by
 obtain ⟨xs, m, _, _, hl, hxl, hf⟩ := DataW.trod_array underlying29 h
 rw [c4N] at hl
 match cs, hl with
 | [c0, c1, c2], _ =>
   have hy : ∀ i, i < 3 → ∃ y, DataW.trod enc prog w base spare kX m 28 ((([c0, c1, c2] : List Value).drop (i * 1)).take 1) = some y := fun i hi => by
    have := hf i hi
    rw [c5n] at this
    exact ⟨xs[i], by rw [this, de (by omega)]⟩
   obtain ⟨_, h0⟩ := hy 0 (by decide)
   obtain ⟨_, h1⟩ := hy 1 (by decide)
   obtain ⟨_, h2⟩ := hy 2 (by decide)
   obtain ⟨b0, rfl, k0⟩ := a9f h0
   obtain ⟨b1, rfl, k1⟩ := a9f h1
   obtain ⟨b2, rfl, k2⟩ := a9f h2
   exact ⟨fun i => match i with | 0 => b0 | 1 => b1 | _ => b2, fun i => by
    match i with
    | 0 => exact k0
    | 1 => exact k1
    | _ + 2 => exact k2, rfl⟩
end
section
variable {H0 : Type} {enc : TypeId × Value → H0} {w : World} {base : Nat} {kX : Bool}
theorem c2w {v0 : Value} {d0 : DataW H0} {p0 : List MemPlace} {c0 : Nat} (h0 : DataW.Trod enc prog w base (fun _ => true) kX 29 v0 d0 p0) (hval : Value.okWide prog w .any c0 29 v0) :
 ∃ b : Nat → Nat, (∀ i, b i < 65536) ∧ v0 = .agg #[.int .u16 (b 0), .int .u16 (b 1), .int .u16 (b 2)] := by
 simp only [Value.okWide, underlying29] at hval
 obtain ⟨cs, rfl, _, _⟩ := hval
 obtain ⟨fuel, hf⟩ := h0
 obtain ⟨b, hb, he⟩ := c0w hf
 obtain ⟨l⟩ := cs
 have he : l = _ := he
 exact ⟨b, hb, by rw [he]⟩
end
end Go.Ds
namespace Go.Ds
open Go.Proofs
set_option maxRecDepth 10000
def ltP (x y : Int × Int) : Prop := x.1 < y.1 ∨ (x.1 = y.1 ∧ x.2 < y.2)
theorem a4S {x : Int × Int} : ¬ ltP x x := by unfold ltP; omega
theorem b1g {x y z : Int × Int} (h : ltP x y) (k : ltP y z) : ltP x z := by unfold ltP at *; omega
theorem a2W : ∀ (l m : List (Int × Int)), l.Pairwise ltP → m.Pairwise ltP → (∀ x, x ∈ l ↔ x ∈ m) → l = m
 | [], [], _, _, _ => rfl
 | [], b :: m, _, _, h => absurd ((h b).2 (dI ..)) dU
 | a :: l, [], _, _, h => absurd ((h a).1 (dI ..)) dU
 | a :: l, b :: m, hl, hm, h => by
   rw [gF] at hl hm
   have hab : a = b := by
    rcases dO.1 ((h a).1 (dI ..)) with e | e
    ·exact e
    ·rcases dO.1 ((h b).2 (dI ..)) with e2 | e2
     ·exact e2.symm
     ·exact absurd (b1g (hm.1 a e) (hl.1 b e2)) a4S
   subst hab
   congr 1
   refine a2W l m hl.2 hm.2 fun x => ?_
   constructor
   ·intro hx
    rcases dO.1 ((h x).1 (dT _ hx)) with e | e
    ·subst e
     exact absurd (hl.1 x hx) a4S
    ·exact e
   ·intro hx
    rcases dO.1 ((h x).2 (dT _ hx)) with e | e
    ·subst e
     exact absurd (hm.1 x hx) a4S
    ·exact e
theorem b5q {es : List (Int × Int)} (h : es.Pairwise fun a b => le2 a b = true) {i j : Nat} (hij : i < j) (hj : j < es.length) : le2 (iB es i) (iB es j) = true := by
 rw [jP _ _ (by omega), jP _ _ hj]
 exact eh.1 h i j (by omega) hj hij
theorem a9L {es : List (Int × Int)} (h : es.Pairwise fun a b => le2 a b = true) : ∀ m, m ≤ es.length → (xP es m).Pairwise ltP ∧ ∀ x, x ∈ xP es m ↔ ∃ j, j < m ∧ iB es j = x
 | 0, _ => ⟨by simp [xP], fun x => by simp [xP]⟩
 | m + 1, hm => by
   obtain ⟨h1, h2⟩ := a9L h m (by omega)
   rw [qY]
   by_cases hc : m = 0 ∨ iB es m ≠ iB es (m - 1)
   ·rw [if_pos hc]
    refine ⟨?_, fun x => ?_⟩
    ·rw [eP]
     refine ⟨h1, by simp, fun a ha b hb => ?_⟩
     obtain ⟨j, hj, rfl⟩ := (h2 a).1 ha
     obtain rfl := dC.1 hb
     have h3 := (nU _ _).1 (b5q h hj (by omega))
     rcases hc with hc | hc
     ·omega
     ·by_cases he : j = m - 1
      ·subst he
       have hne : ¬ (iB es (m - 1) = iB es m) := fun e => hc e.symm
       rw [Prod.ext_iff] at hne
       unfold ltP
       omega
      ·have h4 := (nU _ _).1 (b5q h (show j < m - 1 by omega) (by omega))
       have h5 := (nU _ _).1 (b5q h (show m - 1 < m by omega) (by omega))
       have hne : ¬ (iB es (m - 1) = iB es m) := fun e => hc e.symm
       rw [Prod.ext_iff] at hne
       unfold ltP
       omega
    ·rw [dF, h2, dC]
     constructor
     ·rintro (⟨j, hj, e⟩ | e)
      ·exact ⟨j, by omega, e⟩
      ·exact ⟨m, by omega, e.symm⟩
     ·rintro ⟨j, hj, e⟩
      rcases dg.1 hj with e2 | e2
      ·exact .inl ⟨j, e2, e⟩
      ·subst e2
       exact .inr e.symm
   ·rw [if_neg hc, dh]
    refine ⟨h1, fun x => ?_⟩
    rw [h2]
    constructor
    ·rintro ⟨j, hj, e⟩
     exact ⟨j, by omega, e⟩
    ·rintro ⟨j, hj, e⟩
     rcases dg.1 hj with e2 | e2
     ·exact ⟨j, e2, e⟩
     ·subst e2
      have hc' : ¬ (j = 0) ∧ iB es j = iB es (j - 1) := ⟨fun e => hc (.inl e), fJ fun e => hc (.inr e)⟩
      exact ⟨j - 1, by omega, by rw [← hc'.2]; exact e⟩
theorem c1t (l : List (Int × Int)) : (dd (vF l)).Pairwise ltP := (a9L (vY l) _ (db _)).1
theorem a4s {l : List (Int × Int)} {x : Int × Int} : x ∈ dd (vF l) ↔ x ∈ l := by
 unfold dd
 rw [(a9L (vY l) _ (db _)).2 x, ← (nO l).mem_iff]
 constructor
 ·rintro ⟨j, hj, rfl⟩
  exact iE hj
 ·intro hx
  obtain ⟨j, hj, e⟩ := dH.1 hx
  exact ⟨j, hj, by rw [jP _ _ hj]; exact e⟩
def a1z (o : Org) (cp : Nat) (thr : Bool) (c x : Ct) : Prop := ∃ i, i < o.cpls.length ∧ tL cp thr c (iB o.cpls i) i = true ∧ qE o (to1 (iB o.cpls i) c) = true ∧ x = to1 (iB o.cpls i) c
theorem a2P {o : Org} {cp : Nat} {thr : Bool} {c x : Ct} {q : List Ct} : ∀ n, x ∈ stepN o cp thr c q n ↔ x ∈ q ∨ ∃ i, i < n ∧ tL cp thr c (iB o.cpls i) i = true ∧ qE o (to1 (iB o.cpls i) c) = true ∧ x = to1 (iB o.cpls i) c
 | 0 => by
   unfold stepN
   simp
 | n + 1 => by
   rw [lY]
   have ih := a2P (o := o) (cp := cp) (thr := thr) (c := c) (x := x) (q := q) n
   have hs : x ∈ step1 o cp thr c (stepN o cp thr c q n) n ↔ x ∈ stepN o cp thr c q n ∨ (tL cp thr c (iB o.cpls n) n = true ∧ qE o (to1 (iB o.cpls n) c) = true ∧ x = to1 (iB o.cpls n) c) := by
    unfold step1
    split
    ·rename_i hh
     simp only [cU] at hh
     rw [dF, dC]
     constructor
     ·rintro (h | h)
      ·exact .inl h
      ·exact .inr ⟨hh.1.1, hh.1.2, h⟩
     ·rintro (h | ⟨_, _, h⟩)
      ·exact .inl h
      ·exact .inr h
    ·rename_i hh
     simp only [cU, dx, decide_eq_false_iff_not, not_and, dy] at hh
     constructor
     ·exact fun h => .inl h
     ·rintro (h | ⟨h1, h2, h3⟩)
      ·exact h
      ·rw [h3]
       exact hh ⟨h1, h2⟩
   rw [hs, ih]
   constructor
   ·rintro ((h | ⟨i, hi, h⟩) | h)
    ·exact .inl h
    ·exact .inr ⟨i, by omega, h⟩
    ·exact .inr ⟨n, by omega, h⟩
   ·rintro (h | ⟨i, hi, h⟩)
    ·exact .inl (.inl h)
    ·rcases dg.1 hi with e | e
     ·exact .inl (.inr ⟨i, e, h⟩)
     ·subst e
      exact .inr h
theorem qW {o : Org} {cp : Nat} {thr : Bool} {c x : Ct} {q : List Ct} : x ∈ stepF o cp thr c q ↔ x ∈ q ∨ a1z o cp thr c x := a2P _
inductive Star {α : Type} (R : α → α → Prop) : α → α → Prop
 | refl (a : α) : Star R a a
 | tail {a b c : α} : Star R a b → R b c → Star R a c
theorem Star.stay {α : Type} {R : α → α → Prop} {p : α → Prop} (hc : ∀ a, p a → ∀ b, R a b → p b) {a b : α} (ha : p a) (h : Star R a b) : p b := by
 induction h with
 | refl => exact ha
 | tail _ h2 ih => exact hc _ ih _ h2
theorem a1B {o : Org} {cp : Nat} {l : List Ct} {x : Ct} : x ∈ mC o cp l ↔ ∃ c, c ∈ l ∧ a1z o cp false c x := by
 unfold mC
 have h : ∀ (l : List Ct) (q : List Ct), x ∈ l.foldl (fun q c => stepF o cp false c q) q ↔ x ∈ q ∨ ∃ c, c ∈ l ∧ a1z o cp false c x := by
  intro l
  induction l with
  | nil => intro q; simp
  | cons a l ih =>
    intro q
    rw [eW, ih, qW]
    constructor
    ·rintro ((h | h) | ⟨c, hc, h⟩)
     ·exact .inl h
     ·exact .inr ⟨a, dI .., h⟩
     ·exact .inr ⟨c, dT _ hc, h⟩
    ·rintro (h | ⟨c, hc, h⟩)
     ·exact .inl (.inl h)
     ·rcases dO.1 hc with e | e
      ·subst e
       exact .inl (.inr h)
      ·exact .inr ⟨c, e, h⟩
 rw [h]
 simp
theorem a3n {o : Org} {cp : Nat} {thr : Bool} {c : Ct} {q : List Ct} : ∀ n, ∃ t, stepN o cp thr c q n = q ++ t
 | 0 => ⟨[], by simp [stepN]⟩
 | n + 1 => by
   obtain ⟨t, ht⟩ := a3n (o := o) (cp := cp) (thr := thr) (c := c) (q := q) n
   rw [lY, ht]
   unfold step1
   split
   ·exact ⟨t ++ [to1 (iB o.cpls n) c], by rw [ec]⟩
   ·exact ⟨t, rfl⟩
theorem a6q {α : Type} [Inhabited α] (q t : List α) {j : Nat} (h : j < q.length) : iB (q ++ t) j = iB q j := by
 rw [jP _ _ (by simp; omega), jP _ _ h, List.getElem_append_left h]
theorem b0I {o : Org} (hf : o.Fine) (cp : Nat) : ∀ (n i : Nat) (q : List Ct), Que o q → 1025 ≤ n + i → (∀ j, j < i → j < q.length → ∀ y, a1z o cp true (iB q j) y → y ∈ q) →
 ∀ x, x ∈ bfs o cp n i q ↔ ∃ a, a ∈ q ∧ Star (a1z o cp true) a x
 | 0, i, q, hq, hn, hc, x => by
   have hl := hq.len hf
   have hcl : ∀ a, a ∈ q → ∀ y, a1z o cp true a y → y ∈ q := fun a ha y hy => by
    obtain ⟨j, hj, e⟩ := dH.1 ha
    exact hc j (by omega) hj y (by rw [jP _ _ hj, e]; exact hy)
   unfold bfs
   exact ⟨fun h => ⟨x, h, .refl x⟩, fun ⟨a, ha, hs⟩ => hs.stay hcl ha⟩
 | n + 1, i, q, hq, hn, hc, x => by
   rw [bfs]
   split
   ·rename_i hi
    obtain ⟨t, ht⟩ := a3n (o := o) (cp := cp) (thr := true) (c := iB q i) (q := q) o.cpls.length
    have ht : stepF o cp true (iB q i) q = q ++ t := ht
    rw [b0I hf cp n (i + 1) _ (hq.stepF cp true _) (by omega) (fun j hj hjl y hy => ?_)]
    ·constructor
     ·rintro ⟨a, ha, hs⟩
      rcases qW.1 ha with h | h
      ·exact ⟨a, h, hs⟩
      ·refine ⟨iB q i, iE hi, ?_⟩
       clear ha
       induction hs with
       | refl => exact .tail (.refl _) h
       | tail _ h2 ih => exact .tail ih h2
     ·rintro ⟨a, ha, hs⟩
      exact ⟨a, qW.2 (.inl ha), hs⟩
    ·rcases dg.1 hj with e | e
     ·rw [ht, a6q _ _ (by omega)] at hy
      exact qW.2 (.inl (hc j e (by omega) y hy))
     ·subst e
      rw [ht, a6q _ _ hi] at hy
      exact qW.2 (.inr hy)
   ·rename_i hi
    have hcl : ∀ a, a ∈ q → ∀ y, a1z o cp true a y → y ∈ q := fun a ha y hy => by
     obtain ⟨j, hj, e⟩ := dH.1 ha
     exact hc j (by omega) hj y (by rw [jP _ _ hj, e]; exact hy)
    exact ⟨fun h => ⟨x, h, .refl x⟩, fun ⟨a, ha, hs⟩ => hs.stay hcl ha⟩
def Snd (o : Org) (r : Reg) (c x : Ct) : Prop := (x = c ∧ r.off.testBit c.1.toNat = false) ∨ ∃ a, a1z o r.cpl false c a ∧ Star (a1z o r.cpl true) a x
theorem a9M (o : Org) (cp : Nat) (l : List Ct) : Que o (mC o cp l) := by
 unfold mC
 have h : ∀ (l : List Ct) (q : List Ct), Que o q → Que o (l.foldl (fun q c => stepF o cp false c q) q) := by
  intro l
  induction l with
  | nil => exact fun q h => h
  | cons a l ih => exact fun q h => ih _ (h.stepF cp false a)
 exact h l [] (Que.nil o)
theorem vW {o : Org} (hf : o.Fine) {r : Reg} {l : List Ct} {x : Ct} : x ∈ lT o r l ↔ ∃ c, c ∈ l ∧ Snd o r c x := by
 unfold lT
 rw [a4s, dF, fq, b0I hf r.cpl 1100 0 _ (a9M o r.cpl l) (by decide) (fun j hj => absurd hj (dz _))]
 constructor
 ·rintro (⟨h1, h2⟩ | ⟨a, ha, hs⟩)
  ·exact ⟨x, h1, .inl ⟨rfl, by simpa using h2⟩⟩
  ·obtain ⟨c, hc, h⟩ := a1B.1 ha
   exact ⟨c, hc, .inr ⟨a, h, hs⟩⟩
 ·rintro ⟨c, hc, h⟩
  rcases h with ⟨rfl, h2⟩ | ⟨a, h, hs⟩
  ·exact .inl ⟨hc, by simpa using h2⟩
  ·exact .inr ⟨a, a1B.2 ⟨c, hc, h⟩, hs⟩
theorem b2A (o : Org) (r : Reg) (l : List Ct) : (lT o r l).Pairwise ltP := c1t _
theorem a8S {o : Org} (hf : o.Fine) {r : Reg} {l : List Ct} {p : Ct} : p ∈ kC o r l ↔ ∃ c, c ∈ l ∧ ∃ x, Snd o r c x ∧ p ∈ mB o r x := by
 unfold kC a4n
 rw [a4s, eI]
 constructor
 ·rintro ⟨x, hx, hp⟩
  obtain ⟨c, hc, h⟩ := (vW hf).1 hx
  exact ⟨c, hc, x, h, hp⟩
 ·rintro ⟨c, hc, x, h, hp⟩
  exact ⟨x, (vW hf).2 ⟨c, hc, h⟩, hp⟩
def IsP (o : Org) (p : Ct) : Prop := 0 ≤ p.1 ∧ p.1 < o.ranks.length ∧ 0 ≤ p.2 ∧ p.2 < (iB o.ranks p.1.toNat).wind.length
theorem IsP.small {o : Org} {H : Heap} (hf : o.Fine) (ho : o.In H) {p : Ct} (h : IsP o p) : -1000000000 ≤ p.1 ∧ p.1 ≤ 1000000000 ∧ -1000000000 ≤ p.2 ∧ p.2 ≤ 1000000000 := by
 obtain ⟨h1, h2, h3, h4⟩ := h
 have hr := (ho.2.1 _ (iE (xs := o.ranks) (j := p.1.toNat) (by omega))).2
 have := hf.rlen
 exact ⟨by omega, by omega, by omega, by omega⟩
theorem b2w {o : Org} (hf : o.Fine) (rg : Reg) {l : List Ct} (hl : l.length ≤ 1024) (ho : ∀ c ∈ lT o rg l, qE o c = true) : (kC o rg l).length ≤ 1000000 := by
 have h1 := uE hf rg (lT o rg l) ho
 have h2 := a1c hf (rg := rg) hl
 have h3 := b3i (vF ((lT o rg l).flatMap (mB o rg)))
 rw [oI] at h3
 have : (kC o rg l).length ≤ (lT o rg l).length * 480 := dw h3 h1
 omega
end Go.Ds
namespace Go.Ds
open Go.Proofs Go.Proofs.Tryz
variable {H : Heap}
set_option maxRecDepth 10000
set_option maxHeartbeats 1000000
abbrev Nt := Nat × Nat
def ntc (x : Nt) : List Value := [.int .u64 x.1, .int .u64 x.2]
def Nt.Ok (x : Nt) : Prop := x.1 < 18446744073709551616 ∧ x.2 < 18446744073709551616
def sA (x : Nt) (n : Int) : Nt := if n < 64 then (x.1 ||| 2 ^ n.toNat, x.2) else (x.1, x.2 ||| 2 ^ (n - 64).toNat)
theorem a4l (i : Nat) (h : i < 64) : 2 ^ i < 18446744073709551616 := by
 have : 2 ^ i ≤ 2 ^ 63 := fc (by decide) (by omega)
 have e : 2 ^ 63 = 9223372036854775808 := rfl
 omega
theorem b4B {a b : Nat} (ha : a < 18446744073709551616) (hb : b < 18446744073709551616) : a ||| b < 18446744073709551616 := Nat.or_lt_two_pow (n := 64) ha hb
theorem orB (a b : Nat) (ha : a < 18446744073709551616) (hb : b < 18446744073709551616) : IntKind.wrap .u64 ((BitVec.ofInt (IntKind.bits .u64) (a : Int) ||| BitVec.ofInt (IntKind.bits .u64) (b : Int)).toNat : Int) = ((a ||| b : Nat) : Int) := by
 have e : (BitVec.ofInt (IntKind.bits .u64) (a : Int) ||| BitVec.ofInt (IntKind.bits .u64) (b : Int)).toNat = a ||| b := by
  rw [BitVec.toNat_or, uA a ha, uA b hb]
 rw [e]
 have := b4B ha hb
 exact oQ _ (by omega) (by omega)
theorem orN (n i : Nat) (hn : n < 18446744073709551616) (hi : i < 64) : IntKind.wrap .u64 ((BitVec.ofInt (IntKind.bits .u64) (n : Int) ||| BitVec.ofInt (IntKind.bits .u64) (IntKind.wrap .u64 (1 * 2 ^ min i (IntKind.bits .u64)))).toNat : Int) = ((n ||| 2 ^ i : Nat) : Int) := by
 rw [c3T i hi]
 exact orB n (2 ^ i) hn (a4l i hi)
theorem b6M {x : Nt} (hx : Nt.Ok x) {z : Int} (h0 : 0 ≤ z) (h1 : z < 128) : Nt.Ok (sA x z) := by
 unfold sA
 split
 ·exact ⟨b4B hx.1 (a4l _ (by omega)), hx.2⟩
 ·exact ⟨hx.1, b4B hx.2 (a4l _ (by omega))⟩
theorem a5i (x : Nt) (hx : Nt.Ok x) (z : Int) (h0 : 0 ≤ z) (h1 : z < 128) : Fn prog 86 [.agg #[.int .u64 x.1, .int .u64 x.2], I z] H fun r H' => r = .agg #[.int .u64 (sA x z).1, .int .u64 (sA x z).2] ∧ St prog H H' [] := by
 obtain ⟨m, rfl⟩ := gI h0
 refine .aG func86 rfl (by kernel_rfl) (m := 21) rfl fun l hn g0 g1 => ?_
 simp (disch := omega) only [↓RA, RB, simprocAttr, g0]
 refine (sR H).eNew 2 [(.int .u64 x.1), (.int .u64 x.2)] rfl rfl rfl lB fun A1 H1 hS1 => ?_
 simp only [RT] at hS1
 simp (disch := omega) only [↓RA, RZ, simprocAttr]
 refine hS1.eNew 2 [(.int .u64 0), (.int .u64 0)] rfl rfl rfl lB fun A2 H2 hS2 => ?_
 simp only [RT] at hS2
 simp (disch := omega) only [↓RA, RB, simprocAttr, hn, g1]
 refine iA (fun q1 => ?_) (fun q1 => ?_)
 ·have e1 := orN x.1 m hx.1 (by omega)
  have e2 : sA x (m : Int) = (x.1 ||| 2 ^ m, x.2) := by unfold sA; rw [if_pos q1]; rfl
  simp (disch := omega) only [↓RA, RC, simprocAttr, q1]
  refine Wp.drw kE (by kernel_rfl) ?_
  simp (disch := omega) only [↓RA, RZ, simprocAttr, hn, g1, hS2.ld 0 rfl, e1]
  refine hS2.ab 0 rfl [(.int .u64 (x.1 ||| 2 ^ m : Nat))] rfl rfl b6G (by simp) fun H3 hS3 => ?_
  simp only [RT] at hS3
  simp (disch := omega) only [↓RA, RZ, simprocAttr, hn, hS3.aj 0 rfl]
  refine hS3.ab 1 rfl [(.int .u64 (x.1 ||| 2 ^ m : Nat)), (.int .u64 x.2)] rfl rfl lB (by simp) fun H4 hS4 => ?_
  simp only [RT] at hS4
  simp (disch := omega) only [↓RA, RZ, simprocAttr, hn, c3x, hS4.aj 1 rfl]
  rw [e2]
  exact ⟨rfl, hS4.forget⟩
 have e1 := orN x.2 (m - 64) hx.2 (by omega)
 have e3 : (m : Int) - 64 = ((m - 64 : Nat) : Int) := by omega
 have e2 : sA x (m : Int) = (x.1, x.2 ||| 2 ^ (m - 64)) := by unfold sA; rw [if_neg q1, e3]; rfl
 simp (disch := omega) only [↓RA, RC, simprocAttr, q1]
 refine Wp.drw kE (by kernel_rfl) ?_
 simp (disch := omega) only [↓RA, RZ, simprocAttr, hn, g1, hS2.ld 0 rfl, e1, e3]
 refine hS2.ab 0 rfl [(.int .u64 (x.2 ||| 2 ^ (m - 64) : Nat))] rfl rfl b6G (by simp) fun H5 hS5 => ?_
 simp only [RT] at hS5
 simp (disch := omega) only [↓RA, RZ, simprocAttr, hn, hS5.aj 0 rfl]
 refine hS5.ab 1 rfl [(.int .u64 x.1), (.int .u64 (x.2 ||| 2 ^ (m - 64) : Nat))] rfl rfl lB (by simp) fun H6 hS6 => ?_
 simp only [RT] at hS6
 simp (disch := omega) only [↓RA, RZ, simprocAttr, hn, c3x, hS6.aj 1 rfl]
 rw [e2]
 exact ⟨rfl, hS6.forget⟩
def jD (xs : List Int) : Nt := xs.foldl sA (0, 0)
def isN (z : Int) : Prop := 0 ≤ z ∧ z < 128
theorem uL : ∀ (xs : List Int) (x : Nt), (∀ z ∈ xs, isN z) → Nt.Ok x → Nt.Ok (xs.foldl sA x)
 | [], _, _, h => h
 | z :: xs, x, hz, h => by
   rw [eW]
   exact uL xs _ (fun y hy => hz y (dT _ hy)) (b6M h (hz z (dI ..)).1 (hz z (dI ..)).2)
theorem a6A (xs : List Int) {j : Nat} (hj : j < xs.length) : jD (xs.take (j + 1)) = sA (jD (xs.take j)) (iB xs j) := by
 unfold jD
 rw [List.take_add_one, de hj, Option.toList_some, gV, ← jP _ j hj]
 rfl
theorem b0Y (z : Int) (h : isN z) : Fn prog 85 [I z] H fun r H' => r = .bool true ∧ St prog H H' [] := by
 have h0 := h.1
 have h1 := h.2
 refine .aT func85 rfl (by kernel_rfl) (m := 9) rfl fun l hn g0 => ?_
 simp (disch := omega) only [↓RA, RZ, simprocAttr, hn, g0]
 refine kM (fun q1 => ?_) (fun q1 => ?_)
 rotate_left
 ·exfalso; first | omega | (simp at q1; omega)
 simp (disch := omega) only [↓RA, RZ, simprocAttr, hn, g0, c5x, q1]
 simpa using ⟨(by omega : z ≤ 127), (sR H)⟩
theorem wA (xs : List Int) (hz : ∀ z ∈ xs, isN z) (v : Value) (hv : Sl 1 (one I) H v xs) (hl : xs.length < 1000000000) :
 Fn prog 42 [v] H fun r H' => r = .tuple #[.agg #[.int .u64 (jD xs).1, .int .u64 (jD xs).2], I 0] ∧ St prog H H' [] := by
 refine .aT func42 rfl (by kernel_rfl) (m := 22) rfl fun l hn g0 => ?_
 simp (disch := omega) only [↓RA, RZ, simprocAttr]
 refine (sR H).eNew 2 [(.int .u64 0), (.int .u64 0)] rfl rfl rfl lB fun A1 H1 hS1 => ?_
 simp only [RT] at hS1
 simp (disch := omega) only [↓RA, RZ, simprocAttr]
 refine hS1.eNew 2 [(.int .u64 0), (.int .u64 0)] rfl rfl rfl lB fun A2 H2 hS2 => ?_
 simp only [RT] at hS2
 simp (disch := omega) only [↓RA, RZ, simprocAttr, hn, g0, (hS2.sl hv).len]
 refine Wp.al (fun n l H' => l.length = 22 ∧ get l 2 = (ptr A1 0 2) ∧ get l 4 = (ptr A2 0 2) ∧ get l 7 = v ∧ get l 8 = I xs.length ∧ ∃ (j : Nat), (n + j = xs.length) ∧ get l 9 = I j ∧ St prog H H' [⟨ptr A1 0 2, 0, [(.int .u64 0), (.int .u64 0)]⟩, ⟨ptr A2 0 2, 0, [.int .u64 (jD (xs.take j)).1, .int .u64 (jD (xs.take j)).2]⟩]) xs.length ?_ ?_
 ·simp (disch := omega) only [RB, RC, simprocAttr, hn]
  exact ⟨0, by omega, rfl, hS2⟩
 rintro n l H3 ⟨hn, g2, g4, g7, g8, j, hj, g9, hS3⟩
 simp (disch := omega) only [↓RA, RB, simprocAttr, hn, g8, g9]
 refine iA (fun q1 => ?_) (fun q1 => ?_)
 ·have hx := hz _ (iE (xs := xs) (j := j) (by omega))
  have hok : Nt.Ok (jD (xs.take j)) := uL _ _ (fun z h => hz z (List.mem_of_mem_take h)) ⟨by decide, by decide⟩
  simp (disch := omega) only [↓RA, RZ, simprocAttr, hn, g7, g9, (hS3.sl hv).idx, (hS3.sl hv).ld, one, q1]
  refine hS3.cF (b0Y (iB xs j) hx) fun H4 hS4 => ?_
  simp (disch := omega) only [↓RA, RZ, simprocAttr, hn, g4, hS4.aj 1 rfl, q1]
  refine hS4.cF (a5i (jD (xs.take j)) hok (iB xs j) hx.1 hx.2) fun H5 hS5 => ?_
  simp (disch := omega) only [↓RA, RZ, simprocAttr, hn, g4, q1]
  refine hS5.ab 1 rfl [(.int .u64 (sA (jD (xs.take j)) (iB xs j)).1), (.int .u64 (sA (jD (xs.take j)) (iB xs j)).2)] rfl rfl lB (by simp) fun H6 hS6 => ?_
  simp only [RT] at hS6
  simp (disch := omega) only [↓RA, RZ, simprocAttr, hn, g2, g4, g7, g8, g9, q1]
  refine ⟨n - 1, by omega, j + 1, by omega, by simp, ?_⟩
  rw [a6A xs (by omega)]
  exact hS6.pick [0, 1] (by decide) rfl
 have hjj : j = xs.length := by omega
 simp (disch := omega) only [↓RA, RZ, simprocAttr, hn, g2, g4, hS3.aj 1 rfl, q1]
 refine hS3.ab 0 rfl [(.int .u64 (jD (xs.take j)).1), (.int .u64 (jD (xs.take j)).2)] rfl rfl lB (by simp) fun H7 hS7 => ?_
 simp only [RT] at hS7
 simp (disch := omega) only [↓RA, RZ, simprocAttr, hn, g2, c4w, hS7.aj 0 rfl, q1]
 rw [hjj, eo]
 exact ⟨rfl, hS7.forget⟩
end Go.Ds
namespace Go.Ds
open Go.Proofs
variable {H : Heap}
set_option maxRecDepth 10000
set_option maxHeartbeats 1000000
theorem St.perm {P : Program} {H0 : Base} {os os' : List Ob} (h : St P H0 H os) (hp : os.Perm os') : St P H0 H os' where
 len := h.len
 old := h.old
 own o ho := h.own o (hp.mem_iff.2 ho)
 new o ho := h.new o (hp.mem_iff.2 ho)
 sep := (List.Perm.pairwise_iff (fun {_ _} hxy B hB hB2 => hxy B hB2 hB) hp).1 h.sep
theorem Lp.swap {P : Program} {B : Base} {L : Nat} {r : Loop} {xs ys zs : List Ob} (h : Lp P B L r H ((xs ++ ys) ++ zs)) : Lp P B L r H ((xs ++ zs) ++ ys) := by
 have hp : ((xs ++ ys) ++ zs).Perm ((xs ++ zs) ++ ys) := by
  rw [ec, ec]
  exact (List.perm_append_comm).append_left xs
 exact ⟨h.st.perm hp, h.get, h.lo, fun o ho => h.ne o (hp.mem_iff.2 ho)⟩
end Go.Ds
namespace Go.Ds
open Go.Proofs Go.Proofs.Tryz
variable {H : Heap}
set_option maxRecDepth 10000
set_option maxHeartbeats 1000000
def ctz (x : Nat) : Nat := ((List.range 64).find? fun i => x.testBit i).getD 64
theorem a2g {x : Nat} (h0 : x ≠ 0) (h1 : x < 18446744073709551616) : ctz x < 64 ∧ x.testBit (ctz x) = true ∧ ∀ j, j < ctz x → x.testBit j = false := by
 have hx : ∃ i, i < 64 ∧ x.testBit i = true := by
  refine fJ fun hn => h0 ?_
  refine fO fun i => ?_
  rw [fG]
  by_cases hi : i < 64
  ·by_cases hb : x.testBit i = true
   ·exact absurd ⟨i, hi, hb⟩ hn
   ·simpa using hb
  ·exact Nat.testBit_lt_two_pow (dA (show x < 2 ^ 64 by simpa using h1) (fc (by decide) (by omega)))
 unfold ctz
 cases hf : (List.range 64).find? fun i => x.testBit i with
 | none =>
   obtain ⟨i, hi, hb⟩ := hx
   have := fX.1 hf i (dp.2 hi)
   exact absurd hb (by simpa using this)
 | some i =>
   obtain ⟨hb, ys, bs, he, hn⟩ := List.find?_eq_some_iff_append.1 hf
   have hi : i < 64 := dp.1 (he ▸ (by simp : i ∈ ys ++ i :: bs))
   refine ⟨hi, hb, fun j hj0 => ?_⟩
   have hj : j < i := hj0
   have hl : ys.length = i := by
    have h2 : (List.range 64)[ys.length]? = some i := by rw [he]; simp
    have h3 : ys.length < 64 := by
     have := congrArg List.length he
     simp at this
     omega
    rw [gA h3] at h2
    exact cS h2
   have hm : j ∈ ys := by
    have h2 : (List.range 64)[j]? = some j := gA (by omega)
    rw [he, dZ (by simpa using (hl ▸ hj))] at h2
    exact dG h2
   simpa using hn j hm
theorem a3a {x : Nat} (h0 : x ≠ 0) (h1 : x < 18446744073709551616) : ∃ m, x = 2 ^ ctz x * (2 * m + 1) := by
 obtain ⟨c1, c2, c3⟩ := a2g h0 h1
 generalize ctz x = k at c1 c2 c3
 have hd : x % 2 ^ k = 0 := by
  refine fO fun i => ?_
  rw [gJ, fG]
  by_cases hi : i < k
  ·rw [c3 i hi, Bool.and_false]
  ·rw [decide_eq_false hi, fA]
 have h2 : x / 2 ^ k % 2 = 1 := by
  rw [← eE]
  have := c2
  rw [tb] at this
  exact of_decide_eq_true this
 refine ⟨x / 2 ^ k / 2, ?_⟩
 have h3 := Nat.div_add_mod x (2 ^ k)
 have h4 := Nat.div_add_mod (x / 2 ^ k) 2
 rw [hd, gK] at h3
 rw [← h3]
 congr 1
 rw [h3]
 omega
theorem b7P {x : Nat} (h0 : x ≠ 0) (h1 : x < 18446744073709551616) : x &&& (18446744073709551616 - x) = 2 ^ ctz x := by
 obtain ⟨m, hm⟩ := a3a h0 h1
 obtain ⟨c1, _, _⟩ := a2g h0 h1
 generalize ctz x = k at hm c1
 have e64 : (18446744073709551616 : Nat) = 2 ^ k * (2 * 2 ^ (63 - k)) := by
  have : 2 ^ k * (2 * 2 ^ (63 - k)) = 2 ^ 64 := by rw [← Nat.pow_succ', ← Nat.pow_add]; congr 1; omega
  rw [this]
 have hml : m < 2 ^ (63 - k) := by
  rw [e64, hm] at h1
  have := Nat.lt_of_mul_lt_mul_left h1
  omega
 have e2 : 18446744073709551616 - x = 2 ^ k * (2 * (2 ^ (63 - k) - (m + 1)) + 1) := by
  rw [e64, hm, ← Nat.mul_sub]
  congr 1
  omega
 rw [e2, hm]
 refine fO fun i => ?_
 rw [Nat.testBit_and, fS]
 have hs : ∀ y : Nat, (2 ^ k * y).testBit i = (decide (k ≤ i) && y.testBit (i - k)) := fun y => by rw [Nat.mul_comm, Nat.testBit_mul_two_pow]
 rw [hs, hs]
 by_cases hi : k ≤ i
 ·rw [decide_eq_true hi, gb, gb]
  by_cases he : i = k
  ·subst he
   rw [gT, Nat.testBit_zero, Nat.testBit_zero]
   simp
  ·obtain ⟨j, hj⟩ : ∃ j, i - k = j + 1 := ⟨i - k - 1, by omega⟩
   rw [hj, Nat.testBit_succ, Nat.testBit_succ, show (2 * m + 1) / 2 = m by omega, show (2 * (2 ^ (63 - k) - (m + 1)) + 1) / 2 = 2 ^ (63 - k) - (m + 1) by omega, Nat.testBit_two_pow_sub_succ hml, decide_eq_false (by omega : ¬ k = i)]
   cases m.testBit j <;> simp
 ·rw [decide_eq_false hi, fA, decide_eq_false (by omega)]
  rfl
theorem c3g : ((List.range 64).all fun k => decide (2 ^ k * 285870213051353865 % 18446744073709551616 / 288230376151711744 < 64) && decide (t64.getD (2 ^ k * 285870213051353865 % 18446744073709551616 / 288230376151711744) 99 = k)) = true := by kernel_rfl
theorem b3K {P : Program} {t : TypeId} {n : Nat} {elem : TypeId} {size : Nat} (ha : P.underlying t = some (.array n elem)) (hs : iD P elem = some size) (A i : Nat) (k : IntKind) (j : Int) (h0 : 0 ≤ j) (h1 : j < n) :
 vN (iR P t) P t (.pointer (some ⟨A, i, none⟩)) (.int k j) = some (.pointer (some ⟨A, i + j.toNat * size, none⟩)) := by
 have hn : iR P t = none := by simp [iR, iJ, ha]
 rw [hn]
 simp only [vN, a1R, ha, hs, cT]
 rw [if_pos (by simp [h0, h1])]
theorem b9A (k : IntKind) (j : Int) (h0 : 0 ≤ j) (h1 : j < 64) : vN (iR prog 251) prog 251 (.pointer (some ⟨0, 0, none⟩)) (.int k j) = some (.pointer (some ⟨0, 0 + j.toNat * 1, none⟩)) :=
 b3K (n := 64) (elem := 5) (size := 1) (by kernel_rfl) (by kernel_rfl) 0 0 k j h0 h1
theorem b1f (g : Nat) (l : List Value) (K : Value → Prop) : jG (.global g) l K = K (.pointer (some ⟨g, 0, none⟩)) := by simp [jG, iN, ev]
theorem gld (hG : Glob gH H) (j : Nat) (hj : j < 64) (s : Option Nat) : oZ (some false) s H (.pointer (some ⟨0, j, none⟩)) = some (.int .u8 (t64.getD j 0 : Nat)) := by
 have h0 : iP H 0 = some (.cells (t64.map fun (n : Nat) => Value.int .u8 (.ofNat n)) 5 false 0 1) := by
  rw [hG.same 0 (by decide)]
  rfl
 simp only [oZ, jB, h0]
 have hl : (t64.map fun (n : Nat) => Value.int .u8 (.ofNat n)).length = 64 := by rw [dY]; rfl
 rw [if_pos (by rw [hl]; simp; omega)]
 simp only [cT]
 rw [dJ (by omega), dq, gK, eu, de (show j < t64.length from hj)]
 rw [dE, cX, de (show j < t64.length from hj)]
 rfl
theorem a8W (m : Int) : IntKind.wrap .u64 m = m % 18446744073709551616 := by
 show (if (false && decide (m % 18446744073709551616 ≥ 9223372036854775808)) = true then m % 18446744073709551616 - 18446744073709551616 else m % 18446744073709551616) = _
 simp
theorem c2C (hG : Glob gH H) (x : Nat) (h0 : x ≠ 0) (h1 : x < 18446744073709551616) : Fn prog 136 [.int .u64 x] H fun r H' => r = I (ctz x) ∧ St prog H H' [] := by
 obtain ⟨c1, _, _⟩ := a2g h0 h1
 have hd := di.1 c3g (ctz x) (dp.2 c1)
 rw [cU, decide_eq_true_eq, decide_eq_true_eq] at hd
 have eA : IntKind.wrap .u64 (0 - (x : Int)) = ((18446744073709551616 - x : Nat) : Int) := by
  rw [a8W]
  omega
 have eB : IntKind.wrap .u64 ((BitVec.ofInt (IntKind.bits .u64) (x : Int) &&& BitVec.ofInt (IntKind.bits .u64) ((18446744073709551616 - x : Nat) : Int)).toNat : Int) = ((2 ^ ctz x : Nat) : Int) := by
  rw [gy, uA x h1, uA _ (by omega), b7P h0 h1]
  exact oQ _ (by omega) (by have := a4l (ctz x) c1; omega)
 have eC : IntKind.wrap .u64 (((2 ^ ctz x : Nat) : Int) * 285870213051353865) = ((2 ^ ctz x * 285870213051353865 % 18446744073709551616 : Nat) : Int) := by
  rw [a8W]
  rfl
 have eD : ((2 ^ ctz x * 285870213051353865 % 18446744073709551616 : Nat) : Int).fdiv (2 ^ min 58 (IntKind.bits .u64)) = ((2 ^ ctz x * 285870213051353865 % 18446744073709551616 / 288230376151711744 : Nat) : Int) := by
  rw [show (2 : Int) ^ min 58 (IntKind.bits .u64) = ((288230376151711744 : Nat) : Int) from rfl]
  exact gn _ (by omega)
 have hd1 := hd.1
 have hd2 := hd.2
 generalize 2 ^ ctz x * 285870213051353865 % 18446744073709551616 / 288230376151711744 = i at eD hd1 hd2
 refine .aT func136 rfl (by kernel_rfl) (m := 14) rfl fun l hn g0 => ?_
 have iP := gld hG i hd1 (some 1)
 rw [show t64.getD i 0 = ctz x from by rw [← hd2, cX, cX, de (show i < t64.length from hd1)]; rfl] at iP
 have hidx := b9A .u64 (i : Int) (by omega) (by omega)
 rw [gL, Nat.mul_one, fU] at hidx
 simp (disch := omega) only [↓RA, RB, simprocAttr, hn, g0]
 refine iA (fun q => ?_) (fun q => ?_)
 ·exfalso; omega
 simp (disch := omega) only [↓RA, RZ, simprocAttr, hn, g0, c1O, eA, eB, eC, eD, b1f, iP, hidx, q]
 first | exact (sR H) | exact ⟨rfl, (sR H)⟩
theorem a4I {x : Nat} (h0 : x ≠ 0) (h1 : x < 18446744073709551616) (j : Nat) : (x &&& (x - 1)).testBit j = (x.testBit j && !decide (j = ctz x)) := by
 obtain ⟨m, hm⟩ := a3a h0 h1
 generalize ctz x = k at hm
 have hp : 0 < 2 ^ k := Nat.two_pow_pos k
 have e1 : x = 2 ^ (k + 1) * m + 2 ^ k := by rw [hm, Nat.pow_succ, Nat.mul_add, Nat.mul_one, Nat.mul_assoc]
 have e2 : x - 1 = 2 ^ (k + 1) * m + (2 ^ k - 1) := by omega
 have hl : 2 ^ k < 2 ^ (k + 1) := Nat.pow_lt_pow_right (by decide) (by omega)
 rw [Nat.testBit_and, e2]
 rw [e1, Nat.testBit_two_pow_mul_add m hl, Nat.testBit_two_pow_mul_add m (by omega : 2 ^ k - 1 < 2 ^ (k + 1))]
 by_cases hj : j < k + 1
 ·rw [if_pos hj, if_pos hj, fS, Nat.testBit_two_pow_sub_one]
  by_cases he : j = k
  ·simp [he]
  ·simp [show ¬ k = j by omega]
 ·rw [if_neg hj, if_neg hj, show decide (j = k) = false from decide_eq_false (by omega)]
  simp
theorem b0O {x : Nat} (h0 : x ≠ 0) (h1 : x < 18446744073709551616) : oD x = ctz x :: oD (x &&& (x - 1)) := by
 obtain ⟨c1, c2, c3⟩ := a2g h0 h1
 have hb := a4I h0 h1
 generalize ctz x = k at c1 c2 c3 hb
 obtain ⟨t, ht⟩ := a6t c1
 have hnd : (List.range 64).Nodup := List.nodup_range
 unfold oD
 rw [ht, eG, eG, List.filter_cons_of_pos (by simpa using c2), List.filter_cons_of_neg (by rw [hb]; simp)]
 rw [ht] at hnd
 have e1 : (List.range k).filter (fun i => x.testBit i) = [] := fY.2 fun i hi => by simpa using c3 i (dp.1 hi)
 have e2 : (List.range k).filter (fun i => (x &&& (x - 1)).testBit i) = [] := fY.2 fun i hi => by rw [hb, c3 i (dp.1 hi)]; simp
 rw [e1, e2, eX, eX]
 congr 1
 refine List.filter_congr fun i hi => ?_
 have hne : i ≠ k := fun e => by
  subst e
  exact (List.nodup_cons.1 (List.nodup_append.1 hnd).2.1).1 hi
 rw [hb, decide_eq_false hne]
 simp
theorem a9E : oD 0 = [] := fY.2 fun i _ => by simp
def mD (x : Nt) : List Int := (oD x.1).map (fun (i : Nat) => (i : Int)) ++ (oD x.2).map fun (i : Nat) => 64 + (i : Int)
def a6r (x : Nt) (i : Nat) : Nat := if i = 0 then x.1 else x.2
def a4c (x : Nt) (i : Nat) : List Int := (oD (a6r x i)).map fun (j : Nat) => 64 * (i : Int) + (j : Int)
def a3W (x : Nt) (i : Nat) : List Int := (List.range i).flatMap (a4c x)
theorem zV (x : Nt) (i : Nat) : a3W x (i + 1) = a3W x i ++ a4c x i := by
 unfold a3W
 rw [ed, dM, dD, fg, dh]
theorem a6e (x : Nt) : a3W x 2 = mD x := by
 rw [zV, zV]
 unfold mD a3W a4c a6r
 simp
theorem b7I {x : Nt} (hx : Nt.Ok x) (i : Nat) : a6r x i < 18446744073709551616 := by
 unfold a6r
 split
 ·exact hx.1
 ·exact hx.2
theorem c2e (a b : Int) : oH prog 219 (.agg #[.int .u64 a, .int .u64 b]) (I 0) = some (.int .u64 a) := by kernel_rfl
theorem c3a (a b : Int) : oH prog 219 (.agg #[.int .u64 a, .int .u64 b]) (I 1) = some (.int .u64 b) := by kernel_rfl
theorem c5z (x : Nt) (i : Nat) (h : i < 2) : a1J (nI prog 219) prog 219 (.agg #[.int .u64 x.1, .int .u64 x.2]) (I i) = some (.int .u64 (a6r x i)) := by
 rw [← a7b]
 rcases (by omega : i = 0 ∨ i = 1) with rfl | rfl
 ·exact c2e _ _
 ·exact c3a _ _
theorem c1o (x : Nt) (hx : Nt.Ok x) (A : Nat) (f : Value) (J : List Int → Heap → Prop) (h0 : J [] H) (hg : ∀ d H1, J d H1 → Var H1 A 2 [.int .u64 x.1, .int .u64 x.2] ∧ Glob gH H1)
 (hst : ∀ d H1 H2, J d H1 → St prog H1 H2 [] → J d H2)
 (hf : ∀ d c e H1, mD x = d ++ c :: e → J d H1 → sL prog f [I c] H1 fun v H2 => v = .bool true ∧ J (d ++ [c]) H2) :
 FnS prog 135 [f, ptr A 0 2] H fun _ H' => J (mD x) H' := by
 have hV0 := (hg _ _ h0).1
 refine FnS.aV func135 rfl (by kernel_rfl) fun l hl => ?_
 have hn : l.length = 29 := by rw [hl]; rfl
 have g0 : get l 0 = f := by rw [hl]; rfl
 have g1 : get l 1 = (ptr A 0 2) := by rw [hl]; rfl
 clear hl
 simp (disch := omega) only [↓RA, RZ, simprocAttr, hn, g1, hV0.ld, b2f]
 refine Wp.al (fun n l H' => l.length = 29 ∧ get l 0 = f ∧ get l 1 = ptr A 0 2 ∧ get l 9 = .agg #[.int .u64 x.1, .int .u64 x.2] ∧ ∃ i : Nat, n + i = 2 ∧ get l 10 = I i ∧ J (a3W x i) H') 2 ?_ ?_
 ·simp (disch := omega) only [RB, RC, simprocAttr, hn, g0, g1]
  exact ⟨0, rfl, rfl, h0⟩
 rintro n l H9 ⟨hn, g0, g1, g9, i, hi, sW, hJ⟩
 simp (disch := omega) only [↓RA, RB, simprocAttr, hn, sW]
 refine iA (fun q1 => ?_) (fun q1 => ?_)
 ·have hix := c5z x i (by omega)
  have hwl := b7I hx i
  simp (disch := omega) only [↓RA, RZ, simprocAttr, hn, g9, sW, q1, hix]
  refine Wp.al (fun n2 l H' => l.length = 29 ∧ get l 0 = f ∧ get l 1 = ptr A 0 2 ∧ get l 9 = .agg #[.int .u64 x.1, .int .u64 x.2] ∧ get l 10 = I i ∧ get l 3 = I i ∧ ∃ (y : Nat) (d : List Nat), (n2 = (oD y).length ∧ y < 18446744073709551616 ∧ oD (a6r x i) = d ++ oD y) ∧ get l 4 = .int .u64 y ∧ J (a3W x i ++ d.map fun (j : Nat) => 64 * (i : Int) + (j : Int)) H') (oD (a6r x i)).length ?_ ?_
  ·simp (disch := omega) only [RB, RC, simprocAttr, hn, g0, g1, g9, sW]
   exact ⟨a6r x i, [], ⟨rfl, hwl, rfl⟩, rfl, by rw [fM, dh]; exact hJ⟩
  rintro n2 l H8 ⟨hn, g0, g1, g9, sW, g3, y, d, ⟨hn2, hy, hbd⟩, g4, hJ2⟩
  simp (disch := omega) only [↓RA, RB, simprocAttr, hn, g4]
  refine iA (fun q2 => ?_) (fun q2 => ?_)
  ·have hy0 : y ≠ 0 := by omega
   have hc := a2g hy0 hy
   have hlow := b0O hy0 hy
   have hGl := (hg _ _ hJ2).2
   have eY1 : IntKind.wrap .u64 ((y : Int) - 1) = ((y - 1 : Nat) : Int) := by
    rw [a8W]
    omega
   have eY2 : IntKind.wrap .u64 ((BitVec.ofInt (IntKind.bits .u64) (y : Int) &&& BitVec.ofInt (IntKind.bits .u64) ((y - 1 : Nat) : Int)).toNat : Int) = ((y &&& (y - 1) : Nat) : Int) := by
    rw [gy, uA y hy, uA _ (by omega)]
    have := Nat.and_le_left (n := y) (m := y - 1)
    exact oQ _ (by omega) (by omega)
   have hyl : y &&& (y - 1) < 18446744073709551616 := Nat.lt_of_le_of_lt Nat.and_le_left hy
   have hmem : mD x = (a3W x i ++ d.map fun (j : Nat) => 64 * (i : Int) + (j : Int)) ++ (64 * (i : Int) + (ctz y : Int)) :: ((oD (y &&& (y - 1))).map (fun (j : Nat) => 64 * (i : Int) + (j : Int)) ++ ((List.range 2).drop (i + 1)).flatMap (a4c x)) := by
    rw [← a6e]
    unfold a3W
    have e : List.range 2 = List.range i ++ i :: (List.range 2).drop (i + 1) := by
     rcases (by omega : i = 0 ∨ i = 1) with rfl | rfl <;> rfl
    rw [congrArg (List.flatMap (a4c x)) e, dM, dD]
    rw [show a4c x i = (d ++ oD y).map (fun (j : Nat) => 64 * (i : Int) + (j : Int)) from by unfold a4c; rw [hbd]]
    rw [hlow, dN, dV]
    simp only [ec, ia]
   have hc1 := hc.1
   simp (disch := omega) only [↓RA, RZ, simprocAttr, hn, g0, g3, g4, q2]
   refine (sR H8).cF (c2C ((sR H8).gl hGl) y hy0 hy) fun H1 hS1 => ?_
   simp (disch := omega) only [↓RA, RZ, simprocAttr, hn, q2]
   refine a7M (hf _ _ _ _ hmem (hst _ _ _ hJ2 hS1)) ?_
   rintro r H10 ⟨rfl, hJ3⟩
   simp (disch := omega) only [↓RA, RZ, simprocAttr, hn, g0, g1, g9, sW, g3, g4, q2, eY1, eY2]
   refine ⟨(oD (y &&& (y - 1))).length, by rw [hn2, hlow]; simp, y &&& (y - 1), d ++ [ctz y], ⟨rfl, hyl, by rw [hbd, hlow]; simp⟩, rfl, ?_⟩
   rw [dN, dV, fM, ← ec]
   exact hJ3
  simp (disch := omega) only [↓RA, RZ, simprocAttr, hn, g0, g1, g9, sW, q2]
  have hy0 : y = 0 := by omega
  subst hy0
  refine ⟨n - 1, by omega, i + 1, by omega, by simp, ?_⟩
  rw [zV]
  have : a4c x i = d.map fun (j : Nat) => 64 * (i : Int) + (j : Int) := by
   unfold a4c
   rw [hbd, a9E, dh]
  rw [this]
  exact hJ2
 simp (disch := omega) only [↓RA, RZ, simprocAttr, c2m, q1]
 have e : i = 2 := by omega
 subst e
 rw [← a6e]
 exact hJ
theorem yA (x : Nt) : (mD x).length ≤ 128 := by
 unfold mD
 rw [dm, dY, dY]
 have h1 := a5O x.1 64
 have h2 := a5O x.2 64
 unfold b3m at h1 h2
 unfold oD
 omega
theorem b1o (hG : Glob gH H) (x : Nt) (hx : Nt.Ok x) (A : Nat) (hA : Var H A 2 [.int .u64 x.1, .int .u64 x.2]) :
 Fn prog 134 [.slice none 0 0, .func (.func 135) #[] #[ptr A 0 2]] H fun r H' => St prog H H' [⟨r, 1, (mD x).flatMap (one I)⟩] := by
 refine .aG func134 rfl (by kernel_rfl) (m := 13) rfl fun l hn g0 g1 => ?_
 simp (disch := omega) only [↓RA, RB, simprocAttr, g0]
 refine (sR H).eNew 1 [(.slice none 0 0)] rfl rfl rfl b6y fun A1 H1 hS1 => ?_
 simp only [RT] at hS1
 simp (disch := omega) only [↓RA, RB, simprocAttr, g1]
 have hS2 := hS1.nil 0
 simp only [RT] at hS2
 refine Wp.cE fun lrg1 hlrg1 => ?_
 have hnrg1 : lrg1.length = 13 := by rw [hlrg1]; simp (disch := omega) only [RB, simprocAttr, hn]
 have g2rg1 : get lrg1 2 = (ptr A1 0 1) := by rw [hlrg1]; simp (disch := omega) only [RB, simprocAttr, hn]
 have g4rg1 : get lrg1 4 = (.slice none 0 0) := by rw [hlrg1]; simp (disch := omega) only [RB, simprocAttr, hn]
 have gfrg1 : get lrg1 6 = .func (.func 135) #[] [(ptr A 0 2)].toArray := by rw [hlrg1]; simp (disch := omega) only [RB, simprocAttr, hn]
 clear hlrg1
 refine Wp.cg gfrg1 fun rg1 hstrg1 hpdrg1 htmrg1 hpsrg1 hasrg1 hbdrg1 => ?_
 have hreqrg1 : ({ rg1 with state := .ready, pending := none } : Loop) = rg1 := by
  cases rg1
  simp only at hstrg1 hpdrg1
  subst hstrg1 hpdrg1
  rfl
 have hLprg1 := Lp.enter hS2 rg1
 generalize H1.cons (.loop rg1) = Hcrg1 at hLprg1 ⊢
 generalize H1.length = Lrg1 at hLprg1 ⊢
 refine (c1o x hx A (.func (.yield Lrg1) #[] #[]) (fun d H1 => ∃ ow, Lp prog H Lrg1 rg1 H1 [⟨ptr A1 0 1, 0, [ow]⟩, ⟨ow, 1, d.flatMap (one I)⟩]) ⟨.slice none 0 0, hLprg1⟩ ?_ ?_ ?_).mono ?_
 ·rintro d H1 ⟨ow, h⟩
  exact ⟨hA.ag h.st.ag, h.st.gl hG⟩
 ·rintro d H1 H2 ⟨ow, h⟩ hS
  exact ⟨ow, by simpa using h.ext hS⟩
 ·rintro d c e H20 hm ⟨ow, hLpj⟩
  have hml := yA x
  have hdl : d.length < 128 := by
   rw [hm, dm, ew] at hml
   omega
  refine a0s hLpj.get (by rw [hpsrg1]; rfl) hstrg1 ?_
  refine Wp.bM (l := put lrg1 (some 7) (I c)) hasrg1 (by rw [hpsrg1, htmrg1]; first | exact (mR ..).symm | rfl | simp [put, mR]) ?_
  simp (disch := omega) only [↓RA, RZ, simprocAttr, hnrg1]
  refine ⟨rg1, hLpj.get, hstrg1, ?_⟩
  have hYBs1 := hLpj.set (fun h => h) { rg1 with state := .busy }
  have hKBs1 : ∀ B, B ≠ Lrg1 → iP (hset H20 Lrg1 (.loop { rg1 with state := .busy })) B = iP H20 B := fun B h => iZ _ (eQ h)
  have hNBs1 : (hset H20 Lrg1 (.loop { rg1 with state := .busy })).length = H20.length := jK ..
  generalize hset H20 Lrg1 (.loop { rg1 with state := .busy }) = HBs1 at hYBs1 hKBs1 hNBs1 ⊢
  refine Wp.bM hbdrg1 rfl ?_
  have hZBs1 := hYBs1.st
  obtain ⟨Bs1, hBBs1, hS3⟩ := hZBs1.ay (os := [⟨ptr A1 0 1, 0, _⟩, ⟨ow, 1, _⟩])
  simp (disch := omega) only [↓RA, RZ, simprocAttr, hnrg1, g2rg1, hS3.ld 0 rfl]
  refine hS3.ai [I c] a0S a6n rfl rfl (by simp [Value.cells]) rfl rfl (by decide) (by decide) fun w1 H2 hS4 => ?_
  simp only [RT] at hS4
  simp (disch := omega) only [↓RA, RZ, simprocAttr, hnrg1]
  refine hS4.aq 1 rfl (hS4.rd 2 rfl) a0S (by rw [yD, dY]; simp; omega) fun w2 H3 hS5 => ?_
  simp only [RT] at hS5
  simp (disch := omega) only [↓RA, RB, simprocAttr, hnrg1, g2rg1]
  refine hS5.ab 0 rfl [w2] (by rw [(hS5.rd 1 rfl).cells.1]) (by simp [(hS5.rd 1 rfl).cells.2.1]) b6y (by simp) fun H4 hS6 => ?_
  simp only [RT] at hS6
  simp (disch := omega) only [↓RA, simprocAttr]
  have hS7 := hS6.pick (os' := [⟨ptr A1 0 1, 0, _⟩, ⟨w2, 1, _⟩]) [0, 1] (by decide) rfl
  have hWBs1 := (hYBs1.body (hBBs1 ▸ hS7)).set (fun h => h) rg1
  rw [← hreqrg1] at hWBs1
  refine ⟨_, (hYBs1.body (hBBs1 ▸ hS7)).get, rfl, w2, ?_⟩
  rw [dM]
  exact hreqrg1 ▸ hWBs1
 ·rintro _ H21 ⟨ow, hLp2⟩
  refine ⟨_, hLp2.get, (by rw [hstrg1]; exact fun h => by cases h), fun _ => ?_, fun c hc => by rw [hpdrg1] at hc; cases hc⟩
  have hAAf1 := (hLp2.set (fun h => h) { rg1 with state := .exhausted }).st
  have hKAf1 : ∀ B, B ≠ Lrg1 → iP (hset H21 Lrg1 (.loop { rg1 with state := .exhausted })) B = iP H21 B := fun B h => iZ _ (eQ h)
  generalize hset H21 Lrg1 (.loop { rg1 with state := .exhausted }) = HAf1 at hAAf1 hKAf1 ⊢
  simp (disch := omega) only [↓RA, RZ, simprocAttr, hnrg1, g2rg1, hAAf1.ld 0 rfl, c3y]
  exact hAAf1.pick [1] (by decide) rfl
theorem a8L (hG : Glob gH H) (x : Nt) (hx : Nt.Ok x) (A : Nat) (hA : Var H A 2 [.int .u64 x.1, .int .u64 x.2]) :
 Fn prog 101 [.func (.func 135) #[] #[ptr A 0 2]] H fun r H' => St prog H H' [⟨r, 1, (mD x).flatMap (one I)⟩] := by
 refine .aT func101 rfl (by kernel_rfl) (m := 5) rfl fun l hn g0 => ?_
 simp (disch := omega) only [↓RA, RZ, simprocAttr, hn, g0]
 refine iF ((b1o ((sR H).gl hG) x hx A (hA.ag (sR H).ag)).tr) ?_
 rintro r H1 ⟨-, hT1⟩
 have hS1 := (sR H).trans hT1
 simp only [RT] at hS1
 simp (disch := omega) only [↓RA, RB, simprocAttr, hn, c2u]
 exact hS1
theorem b7m (x : Nt) : Fn prog 102 [.agg #[.int .u64 x.1, .int .u64 x.2]] H fun r H' => ∃ A, r = .func (.func 135) #[] #[ptr A 0 2] ∧ St prog H H' [⟨ptr A 0 2, 0, [.int .u64 x.1, .int .u64 x.2]⟩] := by
 refine .aT func102 rfl (by kernel_rfl) (m := 4) rfl fun l hn g0 => ?_
 simp (disch := omega) only [↓RA, RB, simprocAttr, g0]
 refine (sR H).eNew 2 [(.int .u64 x.1), (.int .u64 x.2)] rfl rfl rfl lB fun A1 H1 hS1 => ?_
 simp only [RT] at hS1
 simp (disch := omega) only [↓RA, RZ, simprocAttr, hn, c3q]
 exact ⟨A1, rfl, hS1⟩
theorem a1u (hG : Glob gH H) (x : Nt) (hx : Nt.Ok x) :
 Fn prog 57 [.agg #[.int .u64 x.1, .int .u64 x.2]] H fun r H' => St prog H H' [⟨r, 1, (mD x).flatMap (one I)⟩] := by
 refine .aT func57 rfl (by kernel_rfl) (m := 6) rfl fun l hn g0 => ?_
 simp (disch := omega) only [↓RA, RB, simprocAttr, g0]
 refine (sR H).eNew 2 [(.int .u64 x.1), (.int .u64 x.2)] rfl rfl rfl lB fun A1 H1 hS1 => ?_
 simp only [RT] at hS1
 simp (disch := omega) only [↓RA, RZ, simprocAttr, hn, hS1.aj 0 rfl]
 refine iF (b7m x) ?_
 rintro r H2 ⟨A2, rfl, hT1⟩
 have hS2 := hS1.trans hT1
 simp only [RT] at hS2
 simp (disch := omega) only [↓RA, RZ, simprocAttr, hn]
 refine iF ((a8L (hS2.gl hG) x hx A2 (hS2.var 1 rfl)).tr) ?_
 rintro r H3 ⟨-, hT2⟩
 have hS3 := hS2.trans hT2
 simp only [RT] at hS3
 simp (disch := omega) only [↓RA, RB, simprocAttr, hn, c4W]
 exact hS3.pick [2] (by decide) rfl
def a5H (a b : Nat) : Nat := (BitVec.ofNat 64 a &&& ~~~ BitVec.ofNat 64 b).toNat
theorem a4E (a b : Nat) : a5H a b < 18446744073709551616 := (BitVec.ofNat 64 a &&& ~~~ BitVec.ofNat 64 b).isLt
theorem b9n (a b : Nat) : IntKind.wrap .u64 ((BitVec.ofInt (IntKind.bits .u64) (a : Int) &&& ~~~ BitVec.ofInt (IntKind.bits .u64) (b : Int)).toNat : Int) = ((a5H a b : Nat) : Int) := by
 have e : (BitVec.ofInt (IntKind.bits .u64) (a : Int) &&& ~~~ BitVec.ofInt (IntKind.bits .u64) (b : Int)).toNat = a5H a b := by
  unfold a5H
  rw [fN, fN]
  rfl
 rw [e]
 have := a4E a b
 exact oQ _ (by omega) (by omega)
theorem a5Y (a b j : Nat) (ha : a < 18446744073709551616) (hj : j < 64) : (a5H a b).testBit j = (a.testBit j && !b.testBit j) := by
 unfold a5H
 have h1 : (BitVec.ofNat 64 a &&& ~~~ BitVec.ofNat 64 b).toNat.testBit j = (BitVec.ofNat 64 a &&& ~~~ BitVec.ofNat 64 b).getLsbD j := rfl
 rw [h1, BitVec.getLsbD_and, BitVec.getLsbD_not, BitVec.getLsbD_ofNat, BitVec.getLsbD_ofNat]
 simp [hj]
def woF (x y : Nt) : Nt := (a5H x.1 y.1, a5H x.2 y.2)
theorem c0P (x y : Nt) : Nt.Ok (woF x y) := ⟨a4E _ _, a4E _ _⟩
theorem c0c (x y : Nt) : Fn prog 98 [.agg #[.int .u64 x.1, .int .u64 x.2], .agg #[.int .u64 y.1, .int .u64 y.2]] H fun r H' => r = .agg #[.int .u64 (woF x y).1, .int .u64 (woF x y).2] ∧ St prog H H' [] := by
 have e1 := b9n x.1 y.1
 have e2 := b9n x.2 y.2
 refine .aG func98 rfl (by kernel_rfl) (m := 16) rfl fun l hn g0 g1 => ?_
 simp (disch := omega) only [↓RA, RB, simprocAttr, g0]
 refine (sR H).eNew 2 [(.int .u64 x.1), (.int .u64 x.2)] rfl rfl rfl lB fun A1 H1 hS1 => ?_
 simp only [RT] at hS1
 simp (disch := omega) only [↓RA, RB, simprocAttr, g1]
 refine hS1.eNew 2 [(.int .u64 y.1), (.int .u64 y.2)] rfl rfl rfl lB fun A2 H2 hS2 => ?_
 simp only [RT] at hS2
 simp (disch := omega) only [↓RA, RZ, simprocAttr]
 refine hS2.eNew 2 [(.int .u64 0), (.int .u64 0)] rfl rfl rfl lB fun A3 H3 hS3 => ?_
 simp only [RT] at hS3
 simp (disch := omega) only [↓RA, RZ, simprocAttr, hn, hS3.ld 0 rfl, hS3.ld 1 rfl, b2Q, e1, e2]
 refine hS3.ab 2 rfl [_, _] rfl rfl lB (by simp) fun H4 hS4 => ?_
 simp only [RT] at hS4
 simp (disch := omega) only [↓RA, RZ, simprocAttr, hn, c4E, hS4.aj 2 rfl]
 exact ⟨rfl, hS4.forget⟩
theorem a9k (x y : Nt) : Fn prog 54 [.agg #[.int .u64 x.1, .int .u64 x.2], .agg #[.int .u64 y.1, .int .u64 y.2]] H fun r H' => r = .bool (decide (woF x y = (0, 0))) ∧ St prog H H' [] := by
 refine .aG func54 rfl (by kernel_rfl) (m := 10) rfl fun l hn g0 g1 => ?_
 simp (disch := omega) only [↓RA, RB, simprocAttr, g0]
 refine (sR H).eNew 2 [(.int .u64 x.1), (.int .u64 x.2)] rfl rfl rfl lB fun A1 H1 hS1 => ?_
 simp only [RT] at hS1
 simp (disch := omega) only [↓RA, RB, simprocAttr, g1]
 refine hS1.eNew 2 [(.int .u64 y.1), (.int .u64 y.2)] rfl rfl rfl lB fun A2 H2 hS2 => ?_
 simp only [RT] at hS2
 simp (disch := omega) only [↓RA, RZ, simprocAttr, hn, hS2.aj 0 rfl, hS2.aj 1 rfl]
 refine hS2.cF (c0c x y) fun H3 hS3 => ?_
 simp (disch := omega) only [↓RA, RZ, simprocAttr, hn, b3C, c4A]
 refine ⟨?_, hS3.forget⟩
 congr 1
 rw [decide_eq_decide]
 constructor
 ·rintro ⟨h1, h2⟩
  exact gm (by simpa using h1) (by simpa using h2)
 ·intro h
  rw [h]
  exact ⟨rfl, rfl⟩
def zQ (lo hi : Int) : Nt := jD ((List.range (hi - lo + 1).toNat).map fun (k : Nat) => lo + (k : Int))
theorem b2m (lo hi : Int) (h0 : 0 ≤ lo) (h1 : lo ≤ hi) (h2 : hi ≤ 127) : Fn prog 53 [.agg #[I lo, I hi]] H fun r H' => r = .tuple #[.agg #[.int .u64 (zQ lo hi).1, .int .u64 (zQ lo hi).2], I 0] ∧ St prog H H' [] := by
 have hce : qD lo hi = 0 := by
  unfold qD
  rw [if_neg (by omega), if_neg (by omega)]
 refine .aT func53 rfl (by kernel_rfl) (m := 25) rfl fun l hn g0 => ?_
 simp (disch := omega) only [↓RA, RB, simprocAttr, g0]
 refine (sR H).eNew 2 [I lo, I hi] rfl rfl rfl sN fun A1 H1 hS1 => ?_
 simp only [RT] at hS1
 simp (disch := omega) only [↓RA, RZ, simprocAttr]
 refine hS1.eNew 2 [(.int .u64 0), (.int .u64 0)] rfl rfl rfl lB fun A2 H2 hS2 => ?_
 simp only [RT] at hS2
 simp (disch := omega) only [↓RA, RZ, simprocAttr]
 refine hS2.eNew 2 [(.int .u64 0), (.int .u64 0)] rfl rfl rfl lB fun A3 H3 hS3 => ?_
 simp only [RT] at hS3
 simp (disch := omega) only [↓RA, RZ, simprocAttr, hn, hS3.aj 0 rfl]
 refine hS3.cF (a0K lo hi) fun H4 hS4 => ?_
 rw [hce]
 simp (disch := omega) only [↓RA, RZ, simprocAttr, hn, hS4.ld 0 rfl]
 refine Wp.al (fun n l H' => l.length = 25 ∧ get l 1 = (ptr A1 0 2) ∧ get l 2 = (ptr A2 0 2) ∧ get l 3 = I 0 ∧ get l 4 = (ptr A3 0 2) ∧ ∃ (j : Nat), (n + j = (hi - lo + 1).toNat) ∧ get l 6 = I (lo + (j : Int)) ∧ St prog H H' [⟨ptr A1 0 2, 0, [I lo, I hi]⟩, ⟨ptr A2 0 2, 0, [(.int .u64 0), (.int .u64 0)]⟩, ⟨ptr A3 0 2, 0, [.int .u64 (jD ((List.range j).map fun (k : Nat) => lo + (k : Int))).1, .int .u64 (jD ((List.range j).map fun (k : Nat) => lo + (k : Int))).2]⟩]) (hi - lo + 1).toNat ?_ ?_
 ·simp (disch := omega) only [RB, RC, simprocAttr, hn]
  exact ⟨0, by omega, by simp, hS4⟩
 rintro n l H5 ⟨hn, g1, g2, g3, g4, j, hj, g6, hS5⟩
 simp (disch := omega) only [↓RA, RZ, simprocAttr, hn, g1, g6, hS5.ld 0 rfl]
 refine iA (fun q1 => ?_) (fun q1 => ?_)
 ·have hok : Nt.Ok (jD ((List.range j).map fun (k : Nat) => lo + (k : Int))) := uL _ _ (fun z h => by
   obtain ⟨k, hk, rfl⟩ := dr.1 h
   have := dp.1 hk
   exact ⟨by omega, by omega⟩) ⟨by decide, by decide⟩
  have hsu : jD ((List.range (j + 1)).map fun (k : Nat) => lo + (k : Int)) = sA (jD ((List.range j).map fun (k : Nat) => lo + (k : Int))) (lo + (j : Int)) := by
   unfold jD
   rw [ed, dN, gV]
   rfl
  simp (disch := omega) only [↓RA, RZ, simprocAttr, hn, g4, g6, hS5.aj 2 rfl, q1]
  refine hS5.cF (a5i (jD ((List.range j).map fun (k : Nat) => lo + (k : Int))) hok (lo + (j : Int)) (by omega) (by omega)) fun H6 hS6 => ?_
  simp (disch := omega) only [↓RA, RZ, simprocAttr, hn, g4, q1]
  refine hS6.ab 2 rfl [(.int .u64 (sA (jD ((List.range j).map fun (k : Nat) => lo + (k : Int))) (lo + (j : Int))).1), (.int .u64 (sA (jD ((List.range j).map fun (k : Nat) => lo + (k : Int))) (lo + (j : Int))).2)] rfl rfl lB (by simp) fun H7 hS7 => ?_
  simp only [RT] at hS7
  simp (disch := omega) only [↓RA, RZ, simprocAttr, hn, g1, g2, g3, g4, g6, q1]
  refine ⟨n - 1, by omega, j + 1, by omega, by congr 1; omega, ?_⟩
  rw [hsu]
  exact hS7.pick [0, 1, 2] (by decide) rfl
 have hjj : j = (hi - lo + 1).toNat := by omega
 simp (disch := omega) only [↓RA, RZ, simprocAttr, hn, g2, g4, hS5.aj 2 rfl, q1]
 refine hS5.ab 1 rfl [(.int .u64 (jD ((List.range j).map fun (k : Nat) => lo + (k : Int))).1), (.int .u64 (jD ((List.range j).map fun (k : Nat) => lo + (k : Int))).2)] rfl rfl lB (by simp) fun H8 hS8 => ?_
 simp only [RT] at hS8
 simp (disch := omega) only [↓RA, RZ, simprocAttr, hn, g2, c4R, hS8.aj 1 rfl, q1]
 rw [hjj]
 exact ⟨rfl, hS8.forget⟩
structure Ks (H : Heap) (kv : Value) (ks : List Nt) : Prop where
 sl : Sl 2 ntc H kv ks
 len : ks.length < 1000000000
 ok : ∀ x ∈ ks, Nt.Ok x
theorem Ks.ag {P : Program} {H' : Heap} {kv : Value} {ks : List Nt} {os : List Ob} (h : Ks H kv ks) (hS : St P H H' os) : Ks H' kv ks := ⟨hS.sl h.sl, h.len, h.ok⟩
def oS (o : Org) (ks : List Nt) : Int := if organE o ≠ 0 then organE o else if ks.length ≠ o.dvs.length then 5 else if ∃ j, j < o.dvs.length ∧ woF (iB ks j) (zQ (iB o.dvs j).lo (iB o.dvs j).hi) ≠ (0, 0) then 23 else 0
theorem a7y (o : Org) (ho : o.In H) (kv : Value) (ks : List Nt) (hk : Ks H kv ks) : Fn prog 19 [.agg #[.string o.name, o.rv, o.dv, o.cv], kv] H fun r H' => r = I (oS o ks) ∧ St prog H H' [] := by
 have hkl := hk.len
 have hdl := ho.2.2.2.2.2.2.1
 refine .aG func19 rfl (by kernel_rfl) (m := 43) rfl fun l hn g0 g1 => ?_
 simp (disch := omega) only [↓RA, RB, simprocAttr, g0]
 refine (sR H).eNew 4 [(.string o.name), o.rv, o.dv, o.cv] rfl rfl (by simp [OC, ((sR H).sl ho.1).cells.2.1, ((sR H).sl ho.2.2.1).cells.2.1, ((sR H).sl ho.2.2.2.2.1).cells.2.1]) oN fun A1 H1 hS1 => ?_
 simp only [RT] at hS1
 simp (disch := omega) only [↓RA, RZ, simprocAttr, hn, hS1.aj 0 rfl]
 refine hS1.cF (a1G o (ho.ag hS1)) fun H2 hS2 => ?_
 simp (disch := omega) only [↓RA, RB, simprocAttr, hn]
 refine iA (fun h1 => ?_) (fun h1 => ?_)
 ·simp (disch := omega) only [↓RA, RZ, simprocAttr, hn, b7v, h1]
  exact ⟨by unfold oS; rw [if_pos h1], hS2.forget⟩
 have hz : organE o = 0 := dy.1 h1
 have hf := Org.bk hz
 simp (disch := omega) only [↓RA, RZ, simprocAttr, hn, g1, (hS2.sl hk.sl).len, hS2.ld 0 rfl, (hS2.sl ho.2.2.1).len, h1]
 refine iA (fun h2 => ?_) (fun h2 => ?_)
 ·simp (disch := omega) only [↓RA, RZ, simprocAttr, hn, b7v, h1, h2]
  exact ⟨by unfold oS; rw [if_neg h1, if_pos (by omega)], hS2.forget⟩
 have hlen : ks.length = o.dvs.length := by omega
 simp (disch := omega) only [↓RA, RZ, simprocAttr, hn, hS2.ld 0 rfl, (hS2.sl ho.2.2.1).len, h1, h2]
 refine Wp.al (fun n l H' => l.length = 43 ∧ get l 1 = kv ∧ get l 22 = o.dv ∧ get l 23 = I o.dvs.length ∧ ∃ (j : Nat), (n + j = o.dvs.length ∧ ∀ q, q < j → woF (iB ks q) (zQ (iB o.dvs q).lo (iB o.dvs q).hi) = (0, 0)) ∧ get l 24 = I j ∧ St prog H H' [⟨ptr A1 0 4, 0, [(.string o.name), o.rv, o.dv, o.cv]⟩]) o.dvs.length ?_ ?_
 ·simp (disch := omega) only [RB, RC, simprocAttr, hn, g1]
  exact ⟨0, ⟨by omega, fun q hq => absurd hq (dz _)⟩, rfl, hS2⟩
 rintro n l H3 ⟨hn, g1, g22, g23, j, ⟨hj,hq⟩, g24, hS3⟩
 simp (disch := omega) only [↓RA, RB, simprocAttr, hn, g23, g24]
 refine iA (fun h3 => ?_) (fun h3 => ?_)
 ·have hky := hf.keys j (by omega)
  simp (disch := omega) only [↓RA, RZ, simprocAttr, hn, g22, g24, (hS3.sl ho.2.2.1).idx, (hS3.sl ho.2.2.1).aj, Dvn.cells, h3]
  refine hS3.eNew 5 [(.string ⟨#[]⟩), (.bool false), I 0, I 0, (.slice none 0 0)] rfl rfl rfl uX fun A2 H4 hS4 => ?_
  simp only [RT] at hS4
  simp (disch := omega) only [↓RA, RZ, simprocAttr, hn, h3]
  refine hS4.ab 1 rfl [(.string (iB o.dvs j).name), (.bool (iB o.dvs j).pedal), I (iB o.dvs j).lo, I (iB o.dvs j).hi, (iB o.dvs j).sv] rfl (by simp [OC, (hS4.sl (ho.2.2.2.1 (iB o.dvs j) (iE (by omega))).1).cells.2.1]) uX (by simp) fun H5 hS5 => ?_
  simp only [RT] at hS5
  simp (disch := omega) only [↓RA, RZ, simprocAttr, hn, hS5.aj 1 rfl, h3]
  refine hS5.cF (b2m (iB o.dvs j).lo (iB o.dvs j).hi hky.1 hky.2.1 hky.2.2) fun H6 hS6 => ?_
  simp (disch := omega) only [↓RA, RZ, simprocAttr, hn, h3]
  refine hS6.eNew 2 [(.int .u64 0), (.int .u64 0)] rfl rfl rfl lB fun A3 H7 hS7 => ?_
  simp only [RT] at hS7
  simp (disch := omega) only [↓RA, RZ, simprocAttr, hn, h3]
  refine hS7.ab 2 rfl [(.int .u64 (zQ (iB o.dvs j).lo (iB o.dvs j).hi).1), (.int .u64 (zQ (iB o.dvs j).lo (iB o.dvs j).hi).2)] rfl rfl lB (by simp) fun H8 hS8 => ?_
  simp only [RT] at hS8
  simp (disch := omega) only [↓RA, RZ, simprocAttr, hn, h3]
  refine Wp.drw kE (by kernel_rfl) ?_
  simp (disch := omega) only [↓RA, RZ, simprocAttr, hn, g1, (hS8.sl hk.sl).idx, (hS8.sl hk.sl).aj, ntc, hS8.aj 2 rfl]
  refine hS8.cF (a9k (iB ks j) (zQ (iB o.dvs j).lo (iB o.dvs j).hi)) fun H9 hS9 => ?_
  simp (disch := omega) only [↓RA, RB, simprocAttr, hn]
  refine jQ (fun h4 => ?_) (fun h4 => ?_)
  ·have h5 : ¬ woF (iB ks j) (zQ (iB o.dvs j).lo (iB o.dvs j).hi) = (0, 0) := by simpa using h4
   simp (disch := omega) only [↓RA, RB, simprocAttr, hn, b7v, h4]
   exact ⟨by unfold oS; rw [if_neg h1, if_neg (by omega), if_pos ⟨j, by omega, h5⟩], hS9.forget⟩
  have h5 : woF (iB ks j) (zQ (iB o.dvs j).lo (iB o.dvs j).hi) = (0, 0) := by simpa using h4
  simp (disch := omega) only [↓RA, RZ, simprocAttr, hn, g1, g22, g23, g24, h4]
  exact ⟨n - 1, by omega, j + 1, ⟨by omega, fun q hq' => by rcases dg.1 hq' with e | e; (· exact hq q e); (· rw [e]; exact h5)⟩, by simp, hS9.pick [0] (by decide) rfl⟩
 simp (disch := omega) only [↓RA, RZ, simprocAttr, hn, b7v, h3]
 refine ⟨?_, hS3.forget⟩
 unfold oS
 rw [if_neg h1, if_neg (by omega), if_neg]
 rintro ⟨q, hq1, hq2⟩
 exact hq2 (hq q (by omega))
def plD (ks : List Nt) (i : Nat) : List Ct := (mD (iB ks i)).map fun z => ((i : Int), z)
def jJ (ks : List Nt) : List Ct := (List.range ks.length).flatMap (plD ks)
theorem c0r (ks : List Nt) (i : Nat) : (plD ks i).length ≤ 128 := by
 unfold plD
 rw [dY]
 exact yA _
theorem b0d (ks : List Nt) : ∀ i, ((List.range i).flatMap (plD ks)).length ≤ i * 128
 | 0 => by simp
 | i + 1 => by
   have := b0d ks i
   have := c0r ks i
   rw [ed, dM, dm, dD, fg, dh]
   omega
theorem a3z (hG : Glob gH H) (kv : Value) (ks : List Nt) (hk : Ks H kv ks) (h8 : ks.length ≤ 8) : Fn prog 47 [kv] H fun r H' => St prog H H' [⟨r, 2, pr (jJ ks)⟩] := by
 refine .aT func47 rfl (by kernel_rfl) (m := 31) rfl fun l hn g0 => ?_
 simp (disch := omega) only [↓RA, RZ, simprocAttr, hn, g0, ((sR H).sl hk.sl).len]
 have hS1 := (sR H).nil 1
 simp only [RT] at hS1
 refine Wp.al (fun n l H' => l.length = 31 ∧ get l 2 = (.slice none 0 0) ∧ get l 8 = kv ∧ get l 9 = I ks.length ∧ ∃ (i : Nat) (ov : Value), (n + i = ks.length) ∧ get l 10 = I i ∧ get l 3 = ov ∧ St prog H H' [⟨ov, 2, pr ((List.range i).flatMap (plD ks))⟩]) ks.length ?_ ?_
 ·simp (disch := omega) only [RB, RC, simprocAttr, hn]
  exact ⟨0, .slice none 0 0, by omega, rfl, rfl, hS1⟩
 rintro n l H1 ⟨hn, g2, g8, g9, i, ov, hi, sW, g3, hS2⟩
 simp (disch := omega) only [↓RA, RB, simprocAttr, hn, g9, sW]
 refine iA (fun q1 => ?_) (fun q1 => ?_)
 ·have hmo := hk.ok _ (iE (xs := ks) (j := i) (by omega))
  have hml := yA (iB ks i)
  have hpl := b0d ks i
  simp (disch := omega) only [↓RA, RZ, simprocAttr, hn, g8, sW, (hS2.sl hk.sl).idx, (hS2.sl hk.sl).aj, ntc, q1]
  refine hS2.eNew 2 [(.int .u64 0), (.int .u64 0)] rfl rfl rfl lB fun A1 H2 hS3 => ?_
  simp only [RT] at hS3
  simp (disch := omega) only [↓RA, RZ, simprocAttr, hn, q1]
  refine hS3.ab 1 rfl [(.int .u64 (iB ks i).1), (.int .u64 (iB ks i).2)] rfl rfl lB (by simp) fun H3 hS4 => ?_
  simp only [RT] at hS4
  simp (disch := omega) only [↓RA, RZ, simprocAttr, hn, hS4.aj 1 rfl, q1]
  refine iF ((a1u (hS4.gl hG) (iB ks i) hmo).tr) ?_
  rintro r H4 ⟨-, hT1⟩
  have hS5 := hS4.trans hT1
  simp only [RT] at hS5
  obtain ⟨mw, rfl⟩ : ∃ w, w = r := ⟨r, rfl⟩
  simp (disch := omega) only [↓RA, RZ, simprocAttr, hn, (hS5.aw 2 rfl (fun _ => rfl)).len, q1]
  refine Wp.al (fun n l H' => l.length = 31 ∧ get l 2 = (.slice none 0 0) ∧ get l 4 = I i ∧ get l 8 = kv ∧ get l 9 = I ks.length ∧ get l 10 = I i ∧ get l 16 = mw ∧ get l 17 = I (mD (iB ks i)).length ∧ ∃ (j : Nat) (ow : Value), (n + j = (mD (iB ks i)).length) ∧ get l 18 = I j ∧ get l 3 = ow ∧ St prog H H' [⟨ow, 2, pr ((List.range i).flatMap (plD ks) ++ ((mD (iB ks i)).take j).map fun z => ((i : Int), z))⟩, ⟨ptr A1 0 2, 0, [(.int .u64 (iB ks i).1), (.int .u64 (iB ks i).2)]⟩, ⟨mw, 1, (mD (iB ks i)).flatMap (one I)⟩]) (mD (iB ks i)).length ?_ ?_
  ·simp (disch := omega) only [RB, RC, simprocAttr, hn, g2, g8, g9, sW, g3]
   refine ⟨0, ov, by omega, rfl, rfl, ?_⟩
   rw [List.take_zero, fM, dh]
   exact hS5
  rintro n l H5 ⟨hn, g2, g4, g8, g9, sW, g16, g17, j, ow, hj, g18, g3, hS6⟩
  simp (disch := omega) only [↓RA, RB, simprocAttr, hn, g17, g18]
  refine iA (fun q2 => ?_) (fun q2 => ?_)
  ·have hroom : (pr ((List.range i).flatMap (plD ks) ++ ((mD (iB ks i)).take j).map fun z => ((i : Int), z))).length ≤ 4000 := by
    rw [iI, dm, dY, ff]
    omega
   simp (disch := omega) only [↓RA, RZ, simprocAttr, hn, g4, g16, g18, g3, (hS6.aw 2 rfl (fun _ => rfl)).idx, (hS6.aw 2 rfl (fun _ => rfl)).ld, one, tP, q2]
   refine hS6.ai [I i, I (iB (mD (iB ks i)) j)] a0z b2n rfl rfl (by simp [Value.cells]) rfl rfl (by decide) (by decide) fun w1 H6 hS7 => ?_
   simp only [RT] at hS7
   simp (disch := omega) only [↓RA, RZ, simprocAttr, hn, q2]
   refine hS7.aq 0 rfl (hS7.rd 3 rfl) a0z (by have h := hroom; simp only [ew, eY]; omega) fun w2 H7 hS8 => ?_
   simp only [RT] at hS8
   simp (disch := omega) only [↓RA, RZ, simprocAttr, hn, g2, g4, g8, g9, sW, g16, g17, g18, q2]
   refine ⟨n - 1, by omega, j + 1, w2, by omega, by simp, rfl, ?_⟩
   rw [List.take_add_one, de (by omega), Option.toList_some, dN, ← ec, jO]
   rw [show (mD (iB ks i))[j] = iB (mD (iB ks i)) j from (jP _ _ (by omega)).symm]
   exact hS8.pick [0, 1, 2] (by decide) rfl
  simp (disch := omega) only [↓RA, RZ, simprocAttr, hn, g2, g8, g9, sW, g3, q2]
  have hjj : j = (mD (iB ks i)).length := by omega
  refine ⟨ks.length - (i + 1), by omega, i + 1, ow, by omega, by simp, rfl, ?_⟩
  rw [ed, dM, dD, fg, dh]
  rw [show plD ks i = ((mD (iB ks i)).take j).map (fun z => ((i : Int), z)) from by rw [hjj, eo]; rfl]
  exact hS6.pick [0] (by decide) rfl
 have hii : i = ks.length := by omega
 simp (disch := omega) only [↓RA, RZ, simprocAttr, hn, g3, c4z, q1]
 have hfin := hS2
 rw [hii] at hfin
 exact hfin
end Go.Ds
namespace Go.Ds
open Go.Proofs
set_option maxRecDepth 10000
def pV (x : Nt) (z : Int) : Bool := if z < 64 then x.1.testBit z.toNat else x.2.testBit (z - 64).toNat
theorem qZ {x i : Nat} : i ∈ oD x ↔ i < 64 ∧ x.testBit i = true := by
 unfold oD
 rw [fq, dp]
theorem b5s {x : Nt} {z : Int} : z ∈ mD x ↔ isN z ∧ pV x z = true := by
 unfold mD pV isN
 rw [dF, dr, dr]
 constructor
 ·rintro (⟨i, hi, rfl⟩ | ⟨i, hi, rfl⟩)
  ·obtain ⟨h1, h2⟩ := qZ.1 hi
   exact ⟨by omega, by rw [if_pos (by omega)]; exact h2⟩
  ·obtain ⟨h1, h2⟩ := qZ.1 hi
   refine ⟨by omega, ?_⟩
   rw [if_neg (by omega), show (64 + (i : Int) - 64).toNat = i by omega]
   exact h2
 ·rintro ⟨h1, h2⟩
  by_cases h : z < 64
  ·rw [if_pos h] at h2
   exact .inl ⟨z.toNat, qZ.2 ⟨by omega, h2⟩, by omega⟩
  ·rw [if_neg h] at h2
   exact .inr ⟨(z - 64).toNat, qZ.2 ⟨by omega, h2⟩, by omega⟩
theorem b3x (x : Nt) (n z : Int) (hn : isN n) (hz : isN z) : pV (sA x n) z = (pV x z || decide (z = n)) := by
 unfold pV sA isN at *
 by_cases h1 : n < 64
 ·rw [if_pos h1]
  by_cases h2 : z < 64
  ·rw [if_pos h2, if_pos h2, Nat.testBit_or, fS]
   congr 1
   rw [decide_eq_decide]
   omega
  ·rw [if_neg h2, if_neg h2, decide_eq_false (by omega), Bool.or_false]
 ·rw [if_neg h1]
  by_cases h2 : z < 64
  ·rw [if_pos h2, if_pos h2, decide_eq_false (by omega), Bool.or_false]
  ·rw [if_neg h2, if_neg h2, Nat.testBit_or, fS]
   congr 1
   rw [decide_eq_decide]
   omega
theorem a2V (z : Int) : pV (0, 0) z = false := by
 unfold pV
 split <;> simp
theorem a3c : ∀ (xs : List Int) (x : Nt) (z : Int), (∀ n ∈ xs, isN n) → isN z → pV (xs.foldl sA x) z = (pV x z || decide (z ∈ xs))
 | [], x, z, _, _ => by simp
 | n :: xs, x, z, h, hz => by
   rw [eW, a3c xs _ z (fun y hy => h y (dT _ hy)) hz, b3x x n z (h n (dI ..)) hz, Bool.or_assoc]
   congr 1
   rw [dR]
   simp
theorem a1K {xs : List Int} {z : Int} (h : ∀ n ∈ xs, isN n) (hz : isN z) : pV (jD xs) z = decide (z ∈ xs) := by
 unfold jD
 rw [a3c xs _ z h hz, a2V, Bool.false_or]
theorem a6p {lo hi z : Int} (h0 : 0 ≤ lo) (h2 : hi ≤ 127) (hz : isN z) : pV (zQ lo hi) z = (decide (lo ≤ z) && decide (z ≤ hi)) := by
 unfold zQ
 rw [a1K (fun n hn => by
  obtain ⟨k, hk, rfl⟩ := dr.1 hn
  have := dp.1 hk
  exact ⟨by omega, by omega⟩) hz, dR, cU, decide_eq_true_eq, decide_eq_true_eq, decide_eq_true_eq, dr]
 constructor
 ·rintro ⟨k, hk, rfl⟩
  have := dp.1 hk
  omega
 ·rintro ⟨h3, h4⟩
  exact ⟨(z - lo).toNat, dp.2 (by omega), by omega⟩
theorem b0t {x y : Nt} (hx : Nt.Ok x) {z : Int} (hz : isN z) : pV (woF x y) z = (pV x z && !pV y z) := by
 obtain ⟨h1, h2⟩ := hz
 unfold pV woF
 by_cases h : z < 64
 ·rw [if_pos h, if_pos h, if_pos h, a5Y _ _ _ hx.1 (by omega)]
 ·rw [if_neg h, if_neg h, if_neg h, a5Y _ _ _ hx.2 (by omega)]
theorem a7C {x y : Nt} (hx : Nt.Ok x) (h : woF x y = (0, 0)) {z : Int} (hz : isN z) (hh : pV x z = true) : pV y z = true := by
 have := b0t (y := y) hx hz
 rw [h, a2V, hh] at this
 simpa using this.symm
theorem pT {o : Org} {ks : List Nt} (h : oS o ks = 0) : organE o = 0 ∧ ks.length = o.dvs.length ∧ ∀ j, j < o.dvs.length → woF (iB ks j) (zQ (iB o.dvs j).lo (iB o.dvs j).hi) = (0, 0) := by
 unfold oS at h
 split at h
 ·rename_i hh; exact absurd h hh
 rename_i h1
 split at h
 ·omega
 rename_i h2
 split at h
 ·omega
 rename_i h3
 refine ⟨dy.1 h1, by omega, fun j hj => ?_⟩
 by_cases hh : woF (iB ks j) (zQ (iB o.dvs j).lo (iB o.dvs j).hi) = (0, 0)
 ·exact hh
 ·exact absurd ⟨j, hj, hh⟩ h3
theorem zR {o : Org} {ks : List Nt} (hok : ∀ x ∈ ks, Nt.Ok x) (h : oS o ks = 0) : ∀ c ∈ jJ ks, qE o c = true := by
 obtain ⟨h1, h2, h3⟩ := pT h
 have hf := Org.bk h1
 intro c hc
 unfold jJ at hc
 obtain ⟨i, hi, hc⟩ := eI.1 hc
 have hi := dp.1 hi
 unfold plD at hc
 obtain ⟨z, hz, rfl⟩ := dr.1 hc
 obtain ⟨hz1, hz2⟩ := b5s.1 hz
 have hky := hf.keys i (by omega)
 have hw := a7C (hok _ (iE hi)) (h3 i (by omega)) hz1 hz2
 rw [a6p hky.1 hky.2.2 hz1] at hw
 simp only [cU, decide_eq_true_eq] at hw
 unfold qE
 simp only [cU, decide_eq_true_eq, gL]
 omega
theorem yL {o : Org} {ks : List Nt} (h : oS o ks = 0) : (jJ ks).length ≤ 1024 := by
 obtain ⟨h1, h2, _⟩ := pT h
 have h8 := (Org.bk h1).dlen
 have := b0d ks ks.length
 unfold jJ
 omega
structure SegsOk (m : Nat) (lo hi : Int) (gs : List Seg) : Prop where
 ord : ∀ i, i < gs.length → (iB gs i).lo ≤ (iB gs i).hi
 up : ∀ i, i < gs.length → 0 < i → (iB gs (i - 1)).hi < (iB gs i).lo
 within : ∀ i, i < gs.length → lo ≤ (iB gs i).lo ∧ (iB gs i).hi ≤ hi
 draws : ∀ i, i < gs.length → lD m (iB gs i).draws = 0
 len : gs.length ≤ 12
theorem SegsOk.lt {m : Nat} {lo hi : Int} {gs : List Seg} (h : SegsOk m lo hi gs) {i : Nat} : ∀ k, i + 1 + k < gs.length → (iB gs i).hi < (iB gs (i + 1 + k)).lo
 | 0, hk => h.up (i + 1) hk (by omega)
 | k + 1, hk => by
   have h1 := h.lt (i := i) k (by omega)
   have h2 := h.ord (i + 1 + k) (by omega)
   have h3 := h.up (i + 1 + (k + 1)) hk (by omega)
   rw [show i + 1 + (k + 1) - 1 = i + 1 + k by omega] at h3
   omega
theorem SegsOk.one {m : Nat} {lo hi : Int} {gs : List Seg} (h : SegsOk m lo hi gs) {key : Int} {i j : Nat} (hi' : i < gs.length) (hj : j < gs.length) (h1 : (iB gs i).lo ≤ key ∧ key ≤ (iB gs i).hi) (h2 : (iB gs j).lo ≤ key ∧ key ≤ (iB gs j).hi) : i = j := by
 rcases Nat.lt_trichotomy i j with e | e | e
 ·have := h.lt (i := i) (j - i - 1) (by omega)
  rw [show i + 1 + (j - i - 1) = j by omega] at this
  omega
 ·exact e
 ·have := h.lt (i := j) (i - j - 1) (by omega)
  rw [show j + 1 + (i - j - 1) = i by omega] at this
  omega
theorem a1v {f : Nat → List Ct} (h1 : ∀ i, (f i).Pairwise ltP) (h2 : ∀ i, ∀ c ∈ f i, c.1 = (i : Int)) : ∀ n, ((List.range n).flatMap f).Pairwise ltP
 | 0 => .nil
 | n + 1 => by
   rw [ed, dM, dD, fg, dh, eP]
   refine ⟨a1v h1 h2 n, h1 n, fun a ha b hb => ?_⟩
   obtain ⟨i, hi, ha⟩ := eI.1 ha
   have hi := dp.1 hi
   unfold ltP
   rw [h2 i a ha, h2 n b hb]
   omega
theorem a7x (x : Nt) : (mD x).Pairwise (· < ·) := by
 unfold mD
 rw [eP, gW, gW]
 have h : ∀ n, (oD n).Pairwise (· < ·) := fun n => List.Pairwise.filter _ List.pairwise_lt_range
 refine ⟨(h _).imp (by intro a b h; omega), (h _).imp (by intro a b h; omega), fun a ha b hb => ?_⟩
 obtain ⟨i, hi, rfl⟩ := dr.1 ha
 obtain ⟨j, _, rfl⟩ := dr.1 hb
 have := (qZ.1 hi).1
 omega
theorem c0e (ks : List Nt) (i : Nat) : (plD ks i).Pairwise ltP := by
 unfold plD
 rw [gW]
 exact (a7x _).imp fun h => .inr ⟨rfl, h⟩
theorem b2D (ks : List Nt) : (jJ ks).Pairwise ltP := a1v (c0e ks) (fun i c hc => by
 unfold plD at hc
 obtain ⟨z, _, rfl⟩ := dr.1 hc
 rfl) _
end Go.Ds
namespace Go.Ds
open Go.Proofs Go.Proofs.Tryz
variable {H : Heap}
set_option maxRecDepth 10000
set_option maxHeartbeats 1000000
def b4I (o : Org) (l : List (Value × Reg)) (ks : List Nt) : Int := if qH o l ≠ 0 then qH o l else oS o ks
theorem b6c (o : Org) (ho : o.In H) (lv : Value) (xs : List (Value × Reg)) (hl : Sl 3 rgc H lv xs) (hle : xs.length < 1000000000) (hr : ∀ p ∈ xs, p.2.In H p.1) (kv : Value) (ks : List Nt) (hk : Ks H kv ks) :
 Fn prog 45 [.agg #[.string o.name, o.rv, o.dv, o.cv], lv, kv] H fun r H' => r = I (b4I o xs ks) ∧ St prog H H' [] := by
 refine .bF func45 rfl (by kernel_rfl) (m := 17) rfl fun l hn g0 g1 g2 => ?_
 simp (disch := omega) only [↓RA, RB, simprocAttr, g0]
 refine (sR H).eNew 4 [(.string o.name), o.rv, o.dv, o.cv] rfl rfl (by simp [OC, ((sR H).sl ho.1).cells.2.1, ((sR H).sl ho.2.2.1).cells.2.1, ((sR H).sl ho.2.2.2.2.1).cells.2.1]) oN fun A1 H1 hS1 => ?_
 simp only [RT] at hS1
 simp (disch := omega) only [↓RA, RZ, simprocAttr, hn, g1, hS1.aj 0 rfl]
 refine hS1.cF (b1i o (ho.ag hS1) lv xs (hS1.sl hl) hle (fun p hp => (hr p hp).ag hS1)) fun H2 hS2 => ?_
 simp (disch := omega) only [↓RA, RB, simprocAttr, hn]
 refine iA (fun h1 => ?_) (fun h1 => ?_)
 ·simp (disch := omega) only [↓RA, RZ, simprocAttr, hn, c3L, h1]
  exact ⟨by unfold b4I; rw [if_pos h1], hS2.forget⟩
 simp (disch := omega) only [↓RA, RZ, simprocAttr, hn, g2, hS2.aj 0 rfl, h1]
 refine hS2.cF (a7y o (ho.ag hS2) kv ks (hk.ag hS2)) fun H3 hS3 => ?_
 simp (disch := omega) only [↓RA, RZ, simprocAttr, hn, c3L, h1]
 exact ⟨by unfold b4I; rw [if_neg h1], hS3.forget⟩
def rkE (o : Org) (rg : Reg) (ks : List Nt) : Int := if qF o rg ≠ 0 then qF o rg else oS o ks
theorem a5C (o : Org) (sv : Value) (rg : Reg) (ks : List Nt) : b4I o [(sv, rg)] ks = rkE o rg ks := by
 unfold b4I rkE
 rw [a5P]
theorem a5z {o : Org} {rg : Reg} {ks : List Nt} (h : rkE o rg ks = 0) : qF o rg = 0 ∧ oS o ks = 0 := by
 unfold rkE at h
 split at h
 ·rename_i hh; exact absurd h hh
 ·rename_i hh; exact ⟨dy.1 hh, h⟩
def wO (o : Org) (rg : Reg) (ks : List Nt) : List Ct := if rkE o rg ks = 0 then kC o rg (jJ ks) else []
def a5e (o : Org) (rg : Reg) (ks : List Nt) : List Ct := if rkE o rg ks = 0 then lT o rg (jJ ks) else []
theorem qM (hG : Glob gH H) (o : Org) (ho : o.In H) (rg : Reg) (sv : Value) (hr : rg.In H sv) (kv : Value) (ks : List Nt) (hk : Ks H kv ks) :
 Fn prog 20 [.agg #[.string o.name, o.rv, o.dv, o.cv], .agg #[sv, .int .u64 rg.cpl, .int .u64 rg.off], kv] H fun r H' => ∃ pv, r = .tuple #[pv, I (rkE o rg ks)] ∧ Slx 2 kD H' (fun B => H.length ≤ B) pv (wO o rg ks) ∧ St prog H H' [] := by
 refine .bF func20 rfl (by kernel_rfl) (m := 22) rfl fun l hn g0 g1 g2 => ?_
 simp (disch := omega) only [↓RA, RB, simprocAttr, g0]
 refine (sR H).eNew 4 [(.string o.name), o.rv, o.dv, o.cv] rfl rfl (by simp [OC, ((sR H).sl ho.1).cells.2.1, ((sR H).sl ho.2.2.1).cells.2.1, ((sR H).sl ho.2.2.2.2.1).cells.2.1]) oN fun A1 H1 hS1 => ?_
 simp only [RT] at hS1
 simp (disch := omega) only [↓RA, RB, simprocAttr, g1]
 refine hS1.eNew 3 [sv, (.int .u64 rg.cpl), (.int .u64 rg.off)] rfl rfl (by simp [OC, (hS1.sl hr.1).cells.2.1]) sV fun A2 H2 hS2 => ?_
 simp only [RT] at hS2
 simp (disch := omega) only [↓RA, RZ, simprocAttr, hn, hS2.aj 0 rfl, hS2.aj 1 rfl]
 refine hS2.ai [sv, (.int .u64 rg.cpl), (.int .u64 rg.off)] b9t b8W rfl rfl (by first | (simp []; done) | simp [Value.cells]) (by first | (simp []; done) | simp [Value.cells]) (by simp [OC, (hS2.sl hr.1).cells.2.1]) (by decide) (by decide) fun w1 H3 hS3 => ?_
 simp only [RT] at hS3
 simp (disch := omega) only [↓RA, RZ, simprocAttr, hn, g2]
 refine hS3.cF (b6c o (ho.ag hS3) w1 [(sv, rg)] (hS3.aw 2 rfl (fun _ => rfl)) (by simp) (by intro p hp; rw [dC.1 hp]; exact hr.ag hS3) kv ks (hk.ag hS3)) fun H4 hS4 => ?_
 have hsc := a5C o sv rg ks
 simp (disch := omega) only [↓RA, RB, simprocAttr, hn, hsc]
 refine iA (fun h1 => ?_) (fun h1 => ?_)
 ·simp (disch := omega) only [↓RA, RZ, simprocAttr, hn, c1Q, hsc, h1]
  exact ⟨.slice none 0 0, rfl, ⟨⟨.inl ⟨rfl, by rw [wO, if_neg h1]; rfl⟩, lI, by decide⟩, fun b h => by simp [kG] at h⟩, hS4.forget⟩
 have h0 := dy.1 h1
 obtain ⟨hz1, hk0⟩ := a5z h0
 obtain ⟨hz3, hz4⟩ := vL hz1
 have hf := Org.bk hz3
 have h8 : ks.length ≤ 8 := by
  have := hf.dlen
  have := (pT hk0).2.1
  omega
 simp (disch := omega) only [↓RA, RC, simprocAttr, hsc, h1]
 refine Wp.aS kE [(0, 4), (1, 4)] (by kernel_rfl) (by kernel_rfl) ?_
 simp (disch := omega) only [↓RA, RZ, simprocAttr, hn, g2, hS4.aj 0 rfl, hS4.aj 1 rfl]
 refine iF ((a3z (hS4.gl hG) kv ks (hk.ag hS4) h8).tr) ?_
 rintro r H5 ⟨-, hT2⟩
 have hS5 := hS4.trans hT2
 simp only [RT] at hS5
 obtain ⟨pv, rfl⟩ : ∃ w, w = r := ⟨r, rfl⟩
 simp (disch := omega) only [↓RA, RZ, simprocAttr, hn]
 have hSd := hS5
 refine iF (a6h o (ho.ag hS5) hf rg sv (hr.ag hS5) hz4 pv (jJ ks) (hS5.aw 3 rfl lI) (yL hk0) (zR hk.ok hk0)) ?_
 rintro r H6 ⟨hx, hT3⟩
 have hS6 := hS5.trans hT3
 simp only [RT] at hS6
 obtain ⟨qv, rfl⟩ : ∃ w, w = r := ⟨r, rfl⟩
 simp (disch := omega) only [↓RA, RZ, simprocAttr, hn, hS5.aj 0 rfl, hS5.aj 1 rfl, c1Q, hx.1.bB]
 rw [h0]
 refine ⟨qv, rfl, ⟨?_, fun b h => ?_⟩, hS6.forget⟩
 ·rw [wO, if_pos h0]
  exact hx.1
 ·have := hx.2 b h
  have : H.length ≤ _ := hSd.len
  omega
theorem xR (hG : Glob gH H) (o : Org) (ho : o.In H) (rg : Reg) (sv : Value) (hr : rg.In H sv) (kv : Value) (ks : List Nt) (hk : Ks H kv ks) :
 Fn prog 15 [.agg #[.string o.name, o.rv, o.dv, o.cv], .agg #[sv, .int .u64 rg.cpl, .int .u64 rg.off], kv] H fun r H' => ∃ pv, r = .tuple #[pv, I (rkE o rg ks)] ∧ Slx 2 kD H' (fun B => H.length ≤ B) pv (a5e o rg ks) ∧ St prog H H' [] := by
 refine .bF func15 rfl (by kernel_rfl) (m := 22) rfl fun l hn g0 g1 g2 => ?_
 simp (disch := omega) only [↓RA, RB, simprocAttr, g0]
 refine (sR H).eNew 4 [(.string o.name), o.rv, o.dv, o.cv] rfl rfl (by simp [OC, ((sR H).sl ho.1).cells.2.1, ((sR H).sl ho.2.2.1).cells.2.1, ((sR H).sl ho.2.2.2.2.1).cells.2.1]) oN fun A1 H1 hS1 => ?_
 simp only [RT] at hS1
 simp (disch := omega) only [↓RA, RB, simprocAttr, g1]
 refine hS1.eNew 3 [sv, (.int .u64 rg.cpl), (.int .u64 rg.off)] rfl rfl (by simp [OC, (hS1.sl hr.1).cells.2.1]) sV fun A2 H2 hS2 => ?_
 simp only [RT] at hS2
 simp (disch := omega) only [↓RA, RZ, simprocAttr, hn, hS2.aj 0 rfl, hS2.aj 1 rfl]
 refine hS2.ai [sv, (.int .u64 rg.cpl), (.int .u64 rg.off)] b9t b8W rfl rfl (by first | (simp []; done) | simp [Value.cells]) (by first | (simp []; done) | simp [Value.cells]) (by simp [OC, (hS2.sl hr.1).cells.2.1]) (by decide) (by decide) fun w1 H3 hS3 => ?_
 simp only [RT] at hS3
 simp (disch := omega) only [↓RA, RZ, simprocAttr, hn, g2]
 refine hS3.cF (b6c o (ho.ag hS3) w1 [(sv, rg)] (hS3.aw 2 rfl (fun _ => rfl)) (by simp) (by intro p hp; rw [dC.1 hp]; exact hr.ag hS3) kv ks (hk.ag hS3)) fun H4 hS4 => ?_
 have hsc := a5C o sv rg ks
 simp (disch := omega) only [↓RA, RB, simprocAttr, hn, hsc]
 refine iA (fun h1 => ?_) (fun h1 => ?_)
 ·simp (disch := omega) only [↓RA, RZ, simprocAttr, hn, c2T, hsc, h1]
  exact ⟨.slice none 0 0, rfl, ⟨⟨.inl ⟨rfl, by rw [a5e, if_neg h1]; rfl⟩, lI, by decide⟩, fun b h => by simp [kG] at h⟩, hS4.forget⟩
 have h0 := dy.1 h1
 obtain ⟨hz1, hk0⟩ := a5z h0
 obtain ⟨hz3, hz4⟩ := vL hz1
 have hf := Org.bk hz3
 have h8 : ks.length ≤ 8 := by
  have := hf.dlen
  have := (pT hk0).2.1
  omega
 simp (disch := omega) only [↓RA, RC, simprocAttr, hsc, h1]
 refine Wp.aS kE [(0, 4), (1, 4)] (by kernel_rfl) (by kernel_rfl) ?_
 simp (disch := omega) only [↓RA, RZ, simprocAttr, hn, g2, hS4.aj 0 rfl, hS4.aj 1 rfl]
 refine iF ((a3z (hS4.gl hG) kv ks (hk.ag hS4) h8).tr) ?_
 rintro r H5 ⟨-, hT2⟩
 have hS5 := hS4.trans hT2
 simp only [RT] at hS5
 obtain ⟨pv, rfl⟩ : ∃ w, w = r := ⟨r, rfl⟩
 simp (disch := omega) only [↓RA, RZ, simprocAttr, hn]
 have hSd := hS5
 refine iF (a0b o (ho.ag hS5) hf rg sv (hr.ag hS5) pv (jJ ks) (hS5.aw 3 rfl lI) (yL hk0) (zR hk.ok hk0)) ?_
 rintro r H6 ⟨hx, hT3⟩
 have hS6 := hS5.trans hT3
 simp only [RT] at hS6
 obtain ⟨qv, rfl⟩ : ∃ w, w = r := ⟨r, rfl⟩
 simp (disch := omega) only [↓RA, RZ, simprocAttr, hn, hS5.aj 0 rfl, hS5.aj 1 rfl, c2T, hx.1.bB]
 rw [h0]
 refine ⟨qv, rfl, ⟨?_, fun b h => ?_⟩, hS6.forget⟩
 ·rw [a5e, if_pos h0]
  exact hx.1
 ·have := hx.2 b h
  have : H.length ≤ _ := hSd.len
  omega
theorem a3K (hG : Glob gH H) (o : Org) (ho : o.In H) (kv : Value) (ks : List Nt) (hk : Ks H kv ks) (h0 : oS o ks = 0) :
 Fn prog 23 [.agg #[.string o.name, o.rv, o.dv, o.cv], kv] H fun r H' => ∃ cv, r = .tuple #[cv, I 0] ∧ St prog H H' [⟨cv, 2, pr (jJ ks)⟩] := by
 have h8 : ks.length ≤ 8 := by
  obtain ⟨h1, h2, _⟩ := pT h0
  have := (Org.bk h1).dlen
  omega
 refine .aG func23 rfl (by kernel_rfl) (m := 41) rfl fun l hn g0 g1 => ?_
 simp (disch := omega) only [↓RA, RB, simprocAttr, g0]
 refine (sR H).eNew 4 [(.string o.name), o.rv, o.dv, o.cv] rfl rfl (by simp [OC, ((sR H).sl ho.1).cells.2.1, ((sR H).sl ho.2.2.1).cells.2.1, ((sR H).sl ho.2.2.2.2.1).cells.2.1]) oN fun A1 H1 hS1 => ?_
 simp only [RT] at hS1
 simp (disch := omega) only [↓RA, RZ, simprocAttr, hn, g1, hS1.aj 0 rfl]
 refine hS1.cF (a7y o (ho.ag hS1) kv ks (hk.ag hS1)) fun H2 hS2 => ?_
 rw [h0]
 simp (disch := omega) only [↓RA, RZ, simprocAttr, hn, g1, (hS2.sl hk.sl).len]
 have hS3 := hS2.nil 1
 simp only [RT] at hS3
 refine Wp.al (fun n l H' => l.length = 41 ∧ get l 4 = (.slice none 0 0) ∧ get l 5 = I 0 ∧ get l 18 = kv ∧ get l 19 = I ks.length ∧ ∃ (i : Nat) (ov : Value), (n + i = ks.length) ∧ get l 20 = I i ∧ get l 7 = ov ∧ St prog H H' [⟨ptr A1 0 4, 0, [(.string o.name), o.rv, o.dv, o.cv]⟩, ⟨ov, 2, pr ((List.range i).flatMap (plD ks))⟩]) ks.length ?_ ?_
 ·simp (disch := omega) only [RB, RC, simprocAttr, hn]
  exact ⟨0, .slice none 0 0, by omega, rfl, rfl, hS3⟩
 rintro n l H3 ⟨hn, g4, g5, g18, g19, i, ov, hi, g20, g7, hS4⟩
 simp (disch := omega) only [↓RA, RB, simprocAttr, hn, g19, g20]
 refine iA (fun q1 => ?_) (fun q1 => ?_)
 ·have hmo := hk.ok _ (iE (xs := ks) (j := i) (by omega))
  have hml := yA (iB ks i)
  have hpl := b0d ks i
  simp (disch := omega) only [↓RA, RZ, simprocAttr, hn, g18, g20, (hS4.sl hk.sl).idx, (hS4.sl hk.sl).aj, ntc, q1]
  refine hS4.eNew 2 [(.int .u64 0), (.int .u64 0)] rfl rfl rfl lB fun A2 H4 hS5 => ?_
  simp only [RT] at hS5
  simp (disch := omega) only [↓RA, RZ, simprocAttr, hn, q1]
  refine hS5.ab 2 rfl [(.int .u64 (iB ks i).1), (.int .u64 (iB ks i).2)] rfl rfl lB (by simp) fun H5 hS6 => ?_
  simp only [RT] at hS6
  simp (disch := omega) only [↓RA, RZ, simprocAttr, hn, hS6.aj 2 rfl, q1]
  refine iF ((a1u (hS6.gl hG) (iB ks i) hmo).tr) ?_
  rintro r H6 ⟨-, hT2⟩
  have hS7 := hS6.trans hT2
  simp only [RT] at hS7
  obtain ⟨mw, rfl⟩ : ∃ w, w = r := ⟨r, rfl⟩
  simp (disch := omega) only [↓RA, RZ, simprocAttr, hn, (hS7.aw 3 rfl (fun _ => rfl)).len, q1]
  refine Wp.al (fun n l H' => l.length = 41 ∧ get l 4 = (.slice none 0 0) ∧ get l 5 = I 0 ∧ get l 8 = I i ∧ get l 18 = kv ∧ get l 19 = I ks.length ∧ get l 20 = I i ∧ get l 26 = mw ∧ get l 27 = I (mD (iB ks i)).length ∧ ∃ (j : Nat) (ow : Value), (n + j = (mD (iB ks i)).length) ∧ get l 28 = I j ∧ get l 7 = ow ∧ St prog H H' [⟨ptr A1 0 4, 0, [(.string o.name), o.rv, o.dv, o.cv]⟩, ⟨ow, 2, pr ((List.range i).flatMap (plD ks) ++ ((mD (iB ks i)).take j).map fun z => ((i : Int), z))⟩, ⟨ptr A2 0 2, 0, [(.int .u64 (iB ks i).1), (.int .u64 (iB ks i).2)]⟩, ⟨mw, 1, (mD (iB ks i)).flatMap (one I)⟩]) (mD (iB ks i)).length ?_ ?_
  ·simp (disch := omega) only [RB, RC, simprocAttr, hn, g4, g5, g18, g19, g20, g7]
   refine ⟨0, ov, by omega, rfl, rfl, ?_⟩
   rw [List.take_zero, fM, dh]
   exact hS7
  rintro n l H7 ⟨hn, g4, g5, g8, g18, g19, g20, g26, g27, j, ow, hj, g28, g7, hS8⟩
  simp (disch := omega) only [↓RA, RB, simprocAttr, hn, g27, g28]
  refine iA (fun q2 => ?_) (fun q2 => ?_)
  ·have hroom : (pr ((List.range i).flatMap (plD ks) ++ ((mD (iB ks i)).take j).map fun z => ((i : Int), z))).length ≤ 4000 := by
    rw [iI, dm, dY, ff]
    omega
   simp (disch := omega) only [↓RA, RZ, simprocAttr, hn, g8, g26, g28, g7, (hS8.aw 3 rfl (fun _ => rfl)).idx, (hS8.aw 3 rfl (fun _ => rfl)).ld, one, tP, q2]
   refine hS8.ai [I i, I (iB (mD (iB ks i)) j)] a0z b2n rfl rfl (by simp [Value.cells]) rfl rfl (by decide) (by decide) fun w1 H8 hS9 => ?_
   simp only [RT] at hS9
   simp (disch := omega) only [↓RA, RZ, simprocAttr, hn, q2]
   refine hS9.aq 1 rfl (hS9.rd 4 rfl) a0z (by have h := hroom; simp only [ew, eY]; omega) fun w2 H9 hS10 => ?_
   simp only [RT] at hS10
   simp (disch := omega) only [↓RA, RZ, simprocAttr, hn, g4, g5, g8, g18, g19, g20, g26, g27, g28, q2]
   refine ⟨n - 1, by omega, j + 1, w2, by omega, by simp, rfl, ?_⟩
   rw [List.take_add_one, de (by omega), Option.toList_some, dN, ← ec, jO]
   rw [show (mD (iB ks i))[j] = iB (mD (iB ks i)) j from (jP _ _ (by omega)).symm]
   exact hS10.pick [0, 1, 2, 3] (by decide) rfl
  simp (disch := omega) only [↓RA, RZ, simprocAttr, hn, g4, g5, g18, g19, g20, g7, q2]
  have hjj : j = (mD (iB ks i)).length := by omega
  refine ⟨ks.length - (i + 1), by omega, i + 1, ow, by omega, by simp, rfl, ?_⟩
  rw [ed, dM, dD, fg, dh]
  rw [show plD ks i = ((mD (iB ks i)).take j).map (fun z => ((i : Int), z)) from by rw [hjj, eo]; rfl]
  exact hS8.pick [0, 1] (by decide) rfl
 have hii : i = ks.length := by omega
 have hnt := (hS4.aw (cel := kD) 1 rfl lI).bB
 simp (disch := omega) only [↓RA, RZ, simprocAttr, hn, g7, c4T, q1, hnt]
 have hfin := hS4.pick (os' := [⟨ov, 2, pr ((List.range i).flatMap (plD ks))⟩]) [1] (by decide) rfl
 rw [hii] at hfin
 exact ⟨ov, rfl, hfin⟩
def a1x (lo : Int) (w m : Nat) : List Int := ((List.range m).filter fun j => w.testBit j).map fun (j : Nat) => lo + (j : Int)
def uR (lo hi : Int) : Nat := min 16 (hi - lo + 1).toNat
def yG (o : Org) (b : Nat → Nat) (i : Nat) : Nt := jD (a1x (iB o.dvs i).lo (b (i % 3)) (uR (iB o.dvs i).lo (iB o.dvs i).hi))
def oY (o : Org) (b : Nat → Nat) : List Nt := (List.range o.dvs.length).map (yG o b)
theorem c0K (a b : Nat) (h : a < 65536) : ((a : Nat) : Int).fdiv (2 ^ min b (IntKind.bits .u16)) = ((a >>> b : Nat) : Int) := by
 have e : IntKind.bits .u16 = 16 := rfl
 rw [e]
 have h1 : ((a : Nat) : Int).fdiv (2 ^ min b 16) = ((a / 2 ^ min b 16 : Nat) : Int) := by
  rw [gn _ (by exact Int.le_of_lt (Int.pow_pos (by decide)))]
  simp
 rw [h1, eE]
 by_cases hb : b ≤ 16
 ·rw [ft hb]
 ·rw [Nat.min_eq_right (by omega)]
  have h2 : a / 2 ^ 16 = 0 := gx (by simpa using h)
  have h3 : a / 2 ^ b = 0 := gx (dA (by simpa using h) (fc (by decide) (show 16 ≤ b by omega)))
  rw [h2, h3]
theorem b7Z (n : Nat) (h : n < 65536) : IntKind.wrap .u16 ((BitVec.ofInt (IntKind.bits .u16) (n : Int) &&& BitVec.ofInt (IntKind.bits .u16) 1).toNat : Int) = ((n % 2 : Nat) : Int) := by
 have e : (BitVec.ofInt (IntKind.bits .u16) (n : Int) &&& BitVec.ofInt (IntKind.bits .u16) 1).toNat = n % 2 := by
  show (BitVec.ofInt 16 (n : Int) &&& BitVec.ofInt 16 1).toNat = n % 2
  rw [gy]
  have h1 : (BitVec.ofInt 16 (n : Int)).toNat = n := by
   rw [fN, BitVec.toNat_ofNat]
   exact gp (by simpa using h)
  have h2 : (BitVec.ofInt 16 1).toNat = 1 := rfl
  rw [h1, h2, Nat.and_one_is_mod]
 rw [e]
 have : n % 2 < 2 := eF _ (by decide)
 have hh : n % 2 = 0 ∨ n % 2 = 1 := by omega
 rcases hh with h | h <;> rw [h] <;> rfl
theorem b3E {a : Nat} (b : Nat) (h : a < 65536) : a >>> b < 65536 := by
 rw [eE]
 exact Nat.lt_of_le_of_lt (Nat.div_le_self _ _) h
theorem b2u (lo : Int) (w m : Nat) : a1x lo w (m + 1) = a1x lo w m ++ (if w.testBit m then [lo + (m : Int)] else []) := by
 unfold a1x
 rw [ed, eG, dN]
 congr 1
 cases h : w.testBit m <;> simp [h]
theorem b3t (lo : Int) (w m : Nat) : (a1x lo w m).length ≤ m := by
 unfold a1x
 rw [dY]
 exact dw (ef _ _) (by simp)
theorem b7J (lo hi : Int) : uR lo hi ≤ 16 := Nat.min_le_left _ _
theorem tJ {o : Org} (hf : o.Fine) (w : Nat) {i : Nat} (hi : i < o.dvs.length) : ∀ z ∈ a1x (iB o.dvs i).lo w (uR (iB o.dvs i).lo (iB o.dvs i).hi), isN z ∧ (iB o.dvs i).lo ≤ z ∧ z ≤ (iB o.dvs i).hi := by
 intro z hz
 have hk := hf.keys i hi
 unfold a1x uR at hz
 obtain ⟨j, hj, rfl⟩ := dr.1 hz
 have hj := dp.1 (fq.1 hj).1
 exact ⟨⟨by omega, by omega⟩, by omega, by omega⟩
theorem a8b (o : Org) (ho : o.In H) (hf : o.Fine) (b : Nat → Nat) (hb : ∀ i, b i < 65536) :
 Fn prog 14 [.agg #[.string o.name, o.rv, o.dv, o.cv], .agg #[.int .u16 (b 0), .int .u16 (b 1), .int .u16 (b 2)]] H fun r H' =>
  St prog H H' [⟨r, 2, (oY o b).flatMap ntc⟩] := by
 have hd8 := hf.dlen
 refine .aG func14 rfl (by kernel_rfl) (m := 66) rfl fun l hn g0 g1 => ?_
 simp (disch := omega) only [↓RA, RB, simprocAttr, g0]
 refine (sR H).eNew 4 [(.string o.name), o.rv, o.dv, o.cv] rfl rfl (by simp [OC, ((sR H).sl ho.1).cells.2.1, ((sR H).sl ho.2.2.1).cells.2.1, ((sR H).sl ho.2.2.2.2.1).cells.2.1]) oN fun A1 H1 hS1 => ?_
 simp only [RT] at hS1
 simp (disch := omega) only [↓RA, RB, simprocAttr, g1]
 refine hS1.eNew 3 [(.int .u16 (b 0)), (.int .u16 (b 1)), (.int .u16 (b 2))] rfl rfl rfl c1k fun A2 H2 hS2 => ?_
 simp only [RT] at hS2
 simp (disch := omega) only [↓RA, RB, simprocAttr]
 have hS3 := hS2.nil 1
 simp only [RT] at hS3
 refine Wp.al (fun n l H' => l.length = 66 ∧ get l 2 = (ptr A1 0 4) ∧ get l 3 = (ptr A2 0 3) ∧ get l 4 = (.slice none 0 0) ∧ ∃ (i : Nat) (kv : Value), (n + i = o.dvs.length) ∧ get l 6 = I i ∧ get l 5 = kv ∧ St prog H H' [⟨ptr A1 0 4, 0, [(.string o.name), o.rv, o.dv, o.cv]⟩, ⟨ptr A2 0 3, 0, [(.int .u16 (b 0)), (.int .u16 (b 1)), (.int .u16 (b 2))]⟩, ⟨kv, 2, ((List.range i).map (yG o b)).flatMap ntc⟩]) o.dvs.length ?_ ?_
 ·simp (disch := omega) only [RB, RC, simprocAttr, hn]
  exact ⟨0, .slice none 0 0, by omega, rfl, rfl, hS3⟩
 rintro n l H3 ⟨hn, g2, g3, g4, i, kv, hi, g6, g5, hS4⟩
 simp (disch := omega) only [↓RA, RZ, simprocAttr, hn, g2, g6, hS4.ld 0 rfl, (hS4.sl ho.2.2.1).len]
 refine iA (fun q => ?_) (fun q => ?_)
 ·have hk := hf.keys i (by omega)
  simp (disch := omega) only [↓RA, RZ, simprocAttr, hn, g2, g6, hS4.ld 0 rfl, (hS4.sl ho.2.2.1).idx, (hS4.sl ho.2.2.1).bu, (hS4.sl ho.2.2.1).cG 2, Dvn.cells, q]
  refine hS4.eNew 2 [I 0, I 0] rfl rfl rfl sN fun A3 H4 hS5 => ?_
  simp only [RT] at hS5
  simp (disch := omega) only [↓RA, RZ, simprocAttr, hn, q]
  refine hS5.ab 3 rfl [I (iB o.dvs i).lo, I (iB o.dvs i).hi] rfl rfl sN (by simp) fun H5 hS6 => ?_
  simp only [RT] at hS6
  simp (disch := omega) only [↓RA, RZ, simprocAttr, hn, hS6.ld 3 rfl, q]
  have hS7 := hS6.nil 0
  simp only [RT] at hS7
  refine Wp.al (fun n l H' => l.length = 66 ∧ get l 2 = (ptr A1 0 4) ∧ get l 3 = (ptr A2 0 3) ∧ get l 4 = (.slice none 0 0) ∧ get l 5 = kv ∧ get l 6 = I i ∧ get l 8 = (ptr A3 0 2) ∧ ∃ (m : Nat) (lv : Value), (n + m = uR (iB o.dvs i).lo (iB o.dvs i).hi) ∧ get l 9 = I ((iB o.dvs i).lo + m) ∧ get l 7 = lv ∧ St prog H H' [⟨ptr A1 0 4, 0, [(.string o.name), o.rv, o.dv, o.cv]⟩, ⟨ptr A2 0 3, 0, [(.int .u16 (b 0)), (.int .u16 (b 1)), (.int .u16 (b 2))]⟩, ⟨kv, 2, ((List.range i).map (yG o b)).flatMap ntc⟩, ⟨ptr A3 0 2, 0, [I (iB o.dvs i).lo, I (iB o.dvs i).hi]⟩, ⟨lv, 1, (a1x (iB o.dvs i).lo (b (i % 3)) m).flatMap (one I)⟩]) (uR (iB o.dvs i).lo (iB o.dvs i).hi) ?_ ?_
  ·simp (disch := omega) only [RB, RC, simprocAttr, hn, g2, g3, g4, g6, g5]
   exact ⟨0, .slice none 0 0, by omega, by simp, rfl, hS7⟩
  rintro n l H6 ⟨hn, g2, g3, g4, g5, g6, g8, m, lv, hm, g9, g7, hS8⟩
  simp (disch := omega) only [↓RA, RZ, simprocAttr, hn, g8, g9, hS8.ld 3 rfl]
  have hM := b7J (iB o.dvs i).lo (iB o.dvs i).hi
  have hi3 : (i : Int).tmod 3 = ((i % 3 : Nat) : Int) := (ee i 3).symm
  have hw : ([Value.int .u16 (b 0), .int .u16 (b 1), .int .u16 (b 2)] : List Value)[i % 3]? = some (.int .u16 (b (i % 3))) := by
   have : i % 3 = 0 ∨ i % 3 = 1 ∨ i % 3 = 2 := by omega
   rcases this with e | e | e <;> rw [e] <;> rfl
  have hsub : (iB o.dvs i).lo + (m : Int) - (iB o.dvs i).lo = (m : Int) := by omega
  have e1 := c0K (b (i % 3)) m (hb _)
  have e2 := b7Z (b (i % 3) >>> m) (b3E m (hb _))
  have e3 := tb (b (i % 3)) m
  have hsu := b2u (iB o.dvs i).lo (b (i % 3)) m
  have hpl := b3t (iB o.dvs i).lo (b (i % 3)) m
  refine kM (fun q1 => ?_) (fun q1 => ?_)
  ·simp (disch := omega) only [↓RA, RZ, simprocAttr, hn, g8, g9, hS8.ld 3 rfl, q1]
   refine iA (fun q2 => ?_) (fun q2 => ?_)
   ·skip
    simp (disch := omega) only [↓RA, RC, simprocAttr, q1, q2]
    refine Wp.drw kE (by kernel_rfl) ?_
    simp (disch := omega) only [↓RA, RZ, simprocAttr, hn, g3, g6, g8, g9, hS8.ld 1 rfl, hw, hS8.ld 3 rfl, hi3, hsub, e1, e2]
    refine iA (fun q3 => ?_) (fun q3 => ?_)
    ·rw [e3, decide_eq_true (by omega), if_pos rfl] at hsu
     simp (disch := omega) only [↓RA, RZ, simprocAttr, hn, g9, g7, q3]
     refine hS8.ai [I ((iB o.dvs i).lo + m)] a0S a6n rfl rfl (by simp [Value.cells]) rfl rfl (by decide) (by decide) fun w1 H7 hS9 => ?_
     simp only [RT] at hS9
     simp (disch := omega) only [↓RA, RZ, simprocAttr, hn, q3]
     refine hS9.aq 4 rfl (hS9.rd 5 rfl) a0S (by rw [iS (n := 1) (cel := one I) (fun _ => rfl)]; simp; omega) fun w2 H8 hS10 => ?_
     simp only [RT] at hS10
     simp (disch := omega) only [↓RA, RZ, simprocAttr, hn, g2, g3, g4, g5, g6, g8, g9, q3]
     refine ⟨n - 1, by unfold uR at hm; omega, m + 1, w2, by unfold uR at hm ⊢; omega, by simp; omega, rfl, ?_⟩
     rw [hsu, dM]
     exact hS10.pick [0, 1, 2, 3, 4] (by decide) rfl
    rw [e3, decide_eq_false (by omega), if_neg (by simp), dh] at hsu
    simp (disch := omega) only [↓RA, RZ, simprocAttr, hn, g2, g3, g4, g5, g6, g8, g9, g7, q3]
    refine ⟨n - 1, by unfold uR at hm; omega, m + 1, lv, by unfold uR at hm ⊢; omega, by simp; omega, rfl, ?_⟩
    rw [hsu]
    exact hS8.pick [0, 1, 2, 3, 4] (by decide) rfl
   have hmM : m = uR (iB o.dvs i).lo (iB o.dvs i).hi := by unfold uR at hm hM ⊢; omega
   have hz := tJ hf (b (i % 3)) (show i < o.dvs.length by omega)
   subst hmM
   simp (disch := omega) only [↓RA, RZ, simprocAttr, hn, g7, q1, q2]
   refine hS8.cF (wA (a1x (iB o.dvs i).lo (b (i % 3)) (uR (iB o.dvs i).lo (iB o.dvs i).hi)) (fun z h => (hz z h).1) lv (hS8.aw 4 rfl (rO _)) (by omega)) fun H9 hS11 => ?_
   simp (disch := omega) only [↓RA, RZ, simprocAttr, hn, q1, q2]
   refine hS11.eNew 2 [(.int .u64 0), (.int .u64 0)] rfl rfl rfl lB fun A4 H10 hS12 => ?_
   simp only [RT] at hS12
   simp (disch := omega) only [↓RA, RZ, simprocAttr, hn, q1, q2]
   refine hS12.ab 5 rfl [(.int .u64 (yG o b i).1), (.int .u64 (yG o b i).2)] rfl rfl lB (by simp) fun H11 hS13 => ?_
   simp only [RT] at hS13
   simp (disch := omega) only [↓RA, RZ, simprocAttr, hn, g5, hS13.aj 5 rfl, q1, q2]
   refine hS13.ai [(.int .u64 (yG o b i).1), (.int .u64 (yG o b i).2)] b3j c1x rfl rfl (by simp [Value.cells]) rfl rfl (by decide) (by decide) fun w3 H12 hS14 => ?_
   simp only [RT] at hS14
   simp (disch := omega) only [↓RA, RZ, simprocAttr, hn, q1, q2]
   refine hS14.aq 2 rfl (hS14.rd 6 rfl) b3j (by rw [iS (n := 2) (cel := ntc) (fun _ => rfl)]; simp; omega) fun w4 H13 hS15 => ?_
   simp only [RT] at hS15
   simp (disch := omega) only [↓RA, RZ, simprocAttr, hn, g2, g3, g4, g6, q1, q2]
   refine ⟨o.dvs.length - (i + 1), by omega, i + 1, w4, by omega, by simp, rfl, ?_⟩
   rw [ed, dN, dM]
   exact hS15.pick [0, 1, 2] (by decide) rfl
  have hmM : m = uR (iB o.dvs i).lo (iB o.dvs i).hi := by unfold uR at hm hM ⊢; omega
  have hz := tJ hf (b (i % 3)) (show i < o.dvs.length by omega)
  subst hmM
  simp (disch := omega) only [↓RA, RZ, simprocAttr, hn, g7, q1]
  refine hS8.cF (wA (a1x (iB o.dvs i).lo (b (i % 3)) (uR (iB o.dvs i).lo (iB o.dvs i).hi)) (fun z h => (hz z h).1) lv (hS8.aw 4 rfl (rO _)) (by omega)) fun H14 hS16 => ?_
  simp (disch := omega) only [↓RA, RZ, simprocAttr, hn, q1]
  refine hS16.eNew 2 [(.int .u64 0), (.int .u64 0)] rfl rfl rfl lB fun A5 H15 hS17 => ?_
  simp only [RT] at hS17
  simp (disch := omega) only [↓RA, RZ, simprocAttr, hn, q1]
  refine hS17.ab 5 rfl [(.int .u64 (yG o b i).1), (.int .u64 (yG o b i).2)] rfl rfl lB (by simp) fun H16 hS18 => ?_
  simp only [RT] at hS18
  simp (disch := omega) only [↓RA, RZ, simprocAttr, hn, g5, hS18.aj 5 rfl, q1]
  refine hS18.ai [(.int .u64 (yG o b i).1), (.int .u64 (yG o b i).2)] b3j c1x rfl rfl (by simp [Value.cells]) rfl rfl (by decide) (by decide) fun w5 H17 hS19 => ?_
  simp only [RT] at hS19
  simp (disch := omega) only [↓RA, RZ, simprocAttr, hn, q1]
  refine hS19.aq 2 rfl (hS19.rd 6 rfl) b3j (by rw [iS (n := 2) (cel := ntc) (fun _ => rfl)]; simp; omega) fun w6 H18 hS20 => ?_
  simp only [RT] at hS20
  simp (disch := omega) only [↓RA, RZ, simprocAttr, hn, g2, g3, g4, g6, q1]
  refine ⟨o.dvs.length - (i + 1), by omega, i + 1, w6, by omega, by simp, rfl, ?_⟩
  rw [ed, dN, dM]
  exact hS20.pick [0, 1, 2] (by decide) rfl
 simp (disch := omega) only [↓RA, RZ, simprocAttr, hn, g5, c4F, q]
 have hii : i = o.dvs.length := by omega
 subst hii
 exact hS4.pick [2] (by decide) rfl
theorem rQ (o : Org) (b : Nat → Nat) : (oY o b).length = o.dvs.length := by simp [oY]
theorem a4C {o : Org} {b : Nat → Nat} {i : Nat} (hi : i < o.dvs.length) : iB (oY o b) i = yG o b i := by
 rw [jP _ i (by rw [rQ]; exact hi)]
 simp [oY]
theorem b0y {o : Org} (hf : o.Fine) (b : Nat → Nat) {i : Nat} (hi : i < o.dvs.length) : Nt.Ok (yG o b i) := uL _ _ (fun z h => (tJ hf (b (i % 3)) hi z h).1) ⟨by decide, by decide⟩
theorem a6Y {o : Org} (hf : o.Fine) (b : Nat → Nat) : ∀ x ∈ oY o b, Nt.Ok x := by
 intro x hx
 obtain ⟨i, hi, rfl⟩ := dr.1 hx
 exact b0y hf b (dp.1 hi)
theorem b5a {x y : Nt} (hx : Nt.Ok x) (h : ∀ z, isN z → pV x z = true → pV y z = true) : woF x y = (0, 0) := by
 have k : ∀ z, isN z → pV (woF x y) z = false := fun z hz => by
  rw [b0t hx hz]
  cases e : pV x z with
  | false => rfl
  | true => rw [h z hz e]; rfl
 have big : ∀ a : Nat, a < 18446744073709551616 → ∀ j, 64 ≤ j → a.testBit j = false := fun a ha j hj =>
  Nat.testBit_lt_two_pow (dA (show a < 2 ^ 64 from ha) (fc (by decide) hj))
 obtain ⟨h1, h2⟩ := c0P x y
 apply gm
 ·apply fO
  intro j
  rw [fG]
  by_cases hj : 64 ≤ j
  ·exact big _ h1 j hj
  ·have := k (j : Int) ⟨by omega, by omega⟩
   unfold pV at this
   rw [if_pos (by omega)] at this
   exact this
 ·apply fO
  intro j
  rw [fG]
  by_cases hj : 64 ≤ j
  ·exact big _ h2 j hj
  ·have := k (64 + j : Int) ⟨by omega, by omega⟩
   unfold pV at this
   rw [if_neg (by omega), show (64 + (j : Int) - 64).toNat = j by omega] at this
   exact this
theorem a7T {o : Org} (h0 : organE o = 0) (b : Nat → Nat) : oS o (oY o b) = 0 := by
 have hf := Org.bk h0
 unfold oS
 rw [if_neg (by rw [h0]; simp), if_neg (by rw [rQ]; simp), if_neg]
 rintro ⟨j, hj, hne⟩
 apply hne
 have hk := hf.keys j hj
 rw [a4C hj]
 refine b5a (b0y hf b hj) fun z hz hh => ?_
 rw [yG, a1K (fun n hn => (tJ hf (b (j % 3)) hj n hn).1) hz] at hh
 have := tJ hf (b (j % 3)) hj z (of_decide_eq_true hh)
 rw [a6p hk.1 hk.2.2 hz, decide_eq_true this.2.1, decide_eq_true this.2.2]
 rfl
end Go.Ds
namespace Go.Ds
open Go.Proofs
set_option maxRecDepth 10000
theorem vM {o : Org} (hf : o.Fine) {r r' : Reg} {l : List Ct} (h1 : ∀ c x, Snd o r c x → Snd o r' c x) (h2 : ∀ x p, p ∈ mB o r x → p ∈ mB o r' x) : ∀ p ∈ kC o r l, p ∈ kC o r' l := by
 intro p hp
 rw [a8S hf] at hp ⊢
 obtain ⟨c, hc, x, hx, hp⟩ := hp
 exact ⟨c, hc, x, h1 c x hx, h2 x p hp⟩
theorem tM {o : Org} {r r' : Reg} (h : ∀ (d i : Nat), i < (iB o.dvs d).stops.length → (iB r.stops d).testBit i = true → (iB r'.stops d).testBit i = true) : ∀ x p, p ∈ mB o r x → p ∈ mB o r' x := by
 intro x p hp
 unfold mB at hp ⊢
 obtain ⟨i, hi, hp⟩ := eI.1 hp
 refine eI.2 ⟨i, hi, ?_⟩
 split at hp
 ·rename_i hb
  rw [if_pos (h _ i (dp.1 hi) hb)]
  exact hp
 ·exact absurd hp dU
theorem a2M {o : Org} {cp cp' : Nat} (h : ∀ i, i < o.cpls.length → cp.testBit i = true → cp'.testBit i = true) {thr : Bool} {c x : Ct} (hs : a1z o cp thr c x) : a1z o cp' thr c x := by
 obtain ⟨i, hi, hg, h3, h4⟩ := hs
 refine ⟨i, hi, ?_, h3, h4⟩
 unfold tL at hg ⊢
 rw [cU, cU] at hg ⊢
 exact ⟨⟨h i hi hg.1.1, hg.1.2⟩, hg.2⟩
theorem Star.mono {α : Type} {R R' : α → α → Prop} (h : ∀ a b, R a b → R' a b) {a b : α} (hs : Star R a b) : Star R' a b := by
 induction hs with
 | refl => exact .refl _
 | tail _ h2 ih => exact .tail ih (h _ _ h2)
theorem b0g {o : Org} {r r' : Reg} (ho : r.off = r'.off) (h : ∀ i, i < o.cpls.length → r.cpl.testBit i = true → r'.cpl.testBit i = true) : ∀ c x, Snd o r c x → Snd o r' c x := by
 intro c x hs
 rcases hs with ⟨h1, h2⟩ | ⟨a, h1, h2⟩
 ·exact .inl ⟨h1, by rw [← ho]; exact h2⟩
 ·exact .inr ⟨a, a2M h h1, h2.mono fun _ _ h3 => a2M h h3⟩
theorem b6J {o : Org} {r r' : Reg} (hc : r.cpl = r'.cpl) (h : ∀ i, r'.off.testBit i = true → r.off.testBit i = true) : ∀ c x, Snd o r c x → Snd o r' c x := by
 intro c x hs
 rcases hs with ⟨h1, h2⟩ | ⟨a, h1, h2⟩
 ·refine .inl ⟨h1, ?_⟩
  rw [← ek]
  intro hb
  rw [h _ hb] at h2
  cases h2
 ·exact .inr ⟨a, by rw [← hc]; exact h1, by rw [← hc]; exact h2⟩
theorem a8Z {o : Org} {r : Reg} (h : ∀ (d i : Nat), i < (iB o.dvs d).stops.length → (iB r.stops d).testBit i = false) (l : List Ct) : kC o r l = [] := by
 unfold kC a4n
 have e : (lT o r l).flatMap (mB o r) = [] := by
  rw [List.flatMap_eq_nil_iff]
  intro x _
  unfold mB
  rw [List.flatMap_eq_nil_iff]
  intro i hi
  rw [if_neg]
  rw [h _ i (dp.1 hi)]
  simp
 rw [e]
 exact List.eq_nil_iff_forall_not_mem.2 fun x hx => dU (a4s.1 hx)
theorem a7v {o : Org} (hf : o.Fine) {r : Reg} (hc : ∀ i, i < o.cpls.length → r.cpl.testBit i = false) {l : List Ct} (ho : ∀ c ∈ l, r.off.testBit c.1.toNat = false) (hl : l.Pairwise ltP) : lT o r l = l := by
 refine a2W _ _ (b2A o r l) hl fun x => ?_
 rw [vW hf]
 constructor
 ·rintro ⟨c, hcl, ⟨rfl, _⟩ | ⟨a, ⟨i, hi, hg, _⟩, _⟩⟩
  ·exact hcl
  ·unfold tL at hg
   rw [hc i hi] at hg
   cases hg
 ·intro hx
  exact ⟨x, hx, .inl ⟨rfl, ho x hx⟩⟩
theorem a1d (n i : Nat) (h : n ≤ 8) (hi : i < n) : (255 % 2 ^ n).testBit i = true := by
 have hn : n = 1 ∨ n = 2 ∨ n = 3 ∨ n = 4 ∨ n = 5 ∨ n = 6 ∨ n = 7 ∨ n = 8 := by omega
 rw [gJ, decide_eq_true hi, gb]
 have hi8 : i = 0 ∨ i = 1 ∨ i = 2 ∨ i = 3 ∨ i = 4 ∨ i = 5 ∨ i = 6 ∨ i = 7 := by omega
 rcases hi8 with rfl | rfl | rfl | rfl | rfl | rfl | rfl | rfl <;> rfl
end Go.Ds
namespace Go.Ds
open Go.Proofs Go.Shelf Go.RowKit Go.Lib Go.Sort
def sm (x : Int × Int) : Prop := -1000000000 ≤ x.1 ∧ x.1 ≤ 1000000000 ∧ -1000000000 ≤ x.2 ∧ x.2 ≤ 1000000000
abbrev Sm := {x : Int × Int // sm x}
instance : Inhabited Sm := ⟨⟨(0, 0), by unfold sm; decide⟩⟩
section
variable {H : Heap}
end
end Go.Ds
namespace Go.Ds
open Go.Proofs
variable {H : Heap}
set_option maxRecDepth 10000
set_option maxHeartbeats 1000000
end Go.Ds
namespace Go.Ds
open Go.Proofs Go.Shelf Go.RowKit Go.Lib Go.Sort
section
variable {H : Heap}
end
end Go.Ds
namespace Go.Ds
open Go.Proofs
variable {H : Heap}
set_option maxRecDepth 10000
set_option maxHeartbeats 1000000
theorem Ct.cP (a b : Ct) : (a.1 = b.1 ∧ a.2 = b.2) ↔ b = a := ⟨fun h => gm h.1.symm h.2.symm, fun h => by rw [h]; exact ⟨rfl, rfl⟩⟩
end Go.Ds
namespace Go.Ds
open Go.Proofs Go.Proofs.Tryz
variable {H : Heap}
set_option maxRecDepth 10000
set_option maxHeartbeats 1000000
theorem a9g (v : Value) (xs : List Ct) (hv : Sl 2 kD H v xs) (hl : xs.length < 1000000000) (d : Ct) :
 Fn prog 104 [v, .agg #[I d.1, I d.2]] H fun r H' => r = I (nW (fun j => decide (iB xs j = d)) xs.length) ∧ St prog H H' [] := by
 refine .aG func104 rfl (by kernel_rfl) (m := 19) rfl fun l hn g0 g1 => ?_
 simp (disch := omega) only [↓RA, RB, simprocAttr, g1]
 refine (sR H).eNew 2 [I d.1, I d.2] rfl rfl rfl qO fun A1 H1 hS1 => ?_
 simp only [RT] at hS1
 simp (disch := omega) only [↓RA, RZ, simprocAttr, hn, g0, (hS1.sl hv).len]
 refine Wp.al (fun n l H' => l.length = 19 ∧ get l 0 = v ∧ get l 3 = (ptr A1 0 2) ∧ get l 7 = I xs.length ∧ ∃ (j : Nat), (n + j = xs.length ∧ ∀ q, q < j → decide (iB xs q = d) = false) ∧ get l 8 = I j ∧ St prog H H' [⟨ptr A1 0 2, 0, [I d.1, I d.2]⟩]) xs.length ?_ ?_
 ·simp (disch := omega) only [RB, RC, simprocAttr, hn, g0]
  exact ⟨0, ⟨by omega, fun q hq => absurd hq (dz _)⟩, rfl, hS1⟩
 rintro n l H2 ⟨hn, g0, g3, g7, j, ⟨hi,h0⟩, g8, hS2⟩
 simp (disch := omega) only [↓RA, RB, simprocAttr, hn, g7, g8]
 refine iA (fun h => ?_) (fun h => ?_)
 ·simp (disch := omega) only [↓RA, RZ, simprocAttr, hn, g8, h]
  refine Wp.drw kE (by kernel_rfl) ?_
  simp (disch := omega) only [↓RA, RZ, simprocAttr, hn, g0, g3, hS2.aj 0 rfl, (hS2.sl hv).idx, (hS2.sl hv).aj, kD]
  refine iA (fun hp => ?_) (fun hp => ?_)
  ·simp (disch := omega) only [↓RA, RZ, simprocAttr, hn, b9g, hp]
   exact ⟨by rw [uC _ xs.length j (by omega) (by simpa using (Ct.cP _ _).1 hp) h0], hS2.forget⟩
  simp (disch := omega) only [↓RA, RZ, simprocAttr, hn, g0, g3, g7, g8, hp]
  exact ⟨n - 1, by omega, j + 1, ⟨by omega, fun q hq => by rcases dg.1 hq with e | e; (· exact h0 q e); (· rw [e]; simpa using fun hh => hp ((Ct.cP _ _).2 hh))⟩, by simp, hS2⟩
 simp (disch := omega) only [↓RA, RZ, simprocAttr, hn, b9g, h]
 exact ⟨by rw [uD _ xs.length fun q hq => h0 q (by omega)], hS2.forget⟩
theorem b5d (v : Value) (xs : List Ct) (hv : Sl 2 kD H v xs) (hl : xs.length < 1000000000) (d : Ct) :
 Fn prog 61 [v, .agg #[I d.1, I d.2]] H fun r H' => r = .bool (decide (d ∈ xs)) ∧ St prog H H' [] := by
 have e : decide (0 ≤ nW (fun j => decide (iB xs j = d)) xs.length) = decide (d ∈ xs) := by
  rw [dR, decide_eq_true_iff, decide_eq_true_iff, yF]
  constructor
  ·rintro ⟨j, hj, hp⟩
   rw [← of_decide_eq_true hp]; exact iE hj
  ·intro hx
   obtain ⟨j, hj, rfl⟩ := dH.1 hx
   exact ⟨j, hj, by rw [jP xs j hj]; simp⟩
 refine .aG func61 rfl (by kernel_rfl) (m := 9) rfl fun l hn g0 g1 => ?_
 simp (disch := omega) only [↓RA, RB, simprocAttr, g1]
 refine (sR H).eNew 2 [I d.1, I d.2] rfl rfl rfl qO fun A1 H1 hS1 => ?_
 simp only [RT] at hS1
 simp (disch := omega) only [↓RA, RZ, simprocAttr, hn, g0, hS1.aj 0 rfl]
 refine hS1.cF (a9g v xs (hS1.sl hv) hl d) fun H2 hS2 => ?_
 simp (disch := omega) only [↓RA, RB, simprocAttr, hn, c4J]
 rw [← e]
 first | exact hS2.forget | exact ⟨rfl, hS2.forget⟩
theorem b5C (v : Value) (xs : List Ct) (hv : Sl 2 kD H v xs) (hl : xs.length < 1000000000) (k : FuncId) (caps : List Value) (p : Nat → Bool)
 (hf : ∀ j H1, j < xs.length → St prog H H1 [] → Fn prog k (.agg #[I (iB xs j).1, I (iB xs j).2] :: caps) H1 fun r H2 => r = .bool (p j) ∧ St prog H1 H2 []) :
 Fn prog 103 [v, .func (.func k) #[] caps.toArray] H fun r H' => r = I (nW p xs.length) ∧ St prog H H' [] := by
 refine .aG func103 rfl (by kernel_rfl) (m := 19) rfl fun l hn g0 g1 => ?_
 simp (disch := omega) only [↓RA, RZ, simprocAttr, hn, g0, ((sR H).sl hv).len]
 refine Wp.al (fun n l H' => l.length = 19 ∧ get l 0 = v ∧ get l 1 = .func (.func k) #[] caps.toArray ∧ get l 7 = I xs.length ∧ ∃ (j : Nat), (n + j = xs.length ∧ ∀ q, q < j → p q = false) ∧ get l 8 = I j ∧ St prog H H' []) xs.length ?_ ?_
 ·simp (disch := omega) only [RB, RC, simprocAttr, hn, g0, g1]
  exact ⟨0, ⟨by omega, fun q hq => absurd hq (dz _)⟩, rfl, (sR H)⟩
 rintro n l H1 ⟨hn, g0, g1, g7, j, ⟨hi,h0⟩, g8, hS1⟩
 simp (disch := omega) only [↓RA, RB, simprocAttr, hn, g7, g8]
 refine iA (fun h => ?_) (fun h => ?_)
 ·simp (disch := omega) only [↓RA, RZ, simprocAttr, hn, g0, g1, g8, (hS1.sl hv).idx, (hS1.sl hv).aj, kD, h]
  refine hS1.cF (hf j _ (by omega) hS1) fun H2 hS2 => ?_
  simp (disch := omega) only [↓RA, RZ, simprocAttr, hn, h]
  refine jQ (fun hp => ?_) (fun hp => ?_)
  ·simp (disch := omega) only [↓RA, RZ, simprocAttr, hn, b8U, h, hp]
   exact ⟨by rw [uC p xs.length j (by omega) hp h0], hS2⟩
  simp (disch := omega) only [↓RA, RZ, simprocAttr, hn, g0, g1, g7, g8, h, hp]
  exact ⟨n - 1, by omega, j + 1, ⟨by omega, fun q hq => by rcases dg.1 hq with e | e; (· exact h0 q e); (· rw [e]; exact hp)⟩, by simp, hS2⟩
 simp (disch := omega) only [↓RA, RZ, simprocAttr, hn, b8U, h]
 exact ⟨by rw [uD p xs.length fun q hq => h0 q (by omega)], hS1⟩
theorem c2d : a6W prog 58 = some (1 + 1) := by kernel_rfl
theorem c2I {B : Base} {v : Value} {xs : List Ct} (hS : St prog B H [⟨v, 2, pr xs⟩]) (hl : xs.length < 100000000) (k : FuncId) (caps : List Value) (p : Ct → Bool)
 (hf : ∀ c ∈ xs, ∀ {H1 : Heap} {os : List Ob}, St prog B H1 os → Fn prog k (.agg #[I c.1, I c.2] :: caps) H1 fun r H2 => r = .bool (p c) ∧ St prog H1 H2 []) :
 Fn prog 58 [v, .func (.func k) #[] caps.toArray] H fun r H' => ∃ rest : List Value, (∀ b, kG r = some b → kG v = some b) ∧ (∀ H2, RdAt H2 v 2 (pr (xs.filter fun c => !p c) ++ rest) → RdAt H2 r 2 (pr (xs.filter fun c => !p c))) ∧
  St prog B H' [⟨v, 2, pr (xs.filter fun c => !p c) ++ rest⟩] := by
 refine .aG func58 rfl (by kernel_rfl) (m := 42) rfl fun l hn g0 g1 => ?_
 simp (disch := omega) only [↓RA, RZ, simprocAttr, hn, g0, g1]
 refine hS.cF (b5C v xs (hS.aw 0 rfl (fun _ => rfl)) (by omega) k caps (fun j => p (iB xs j)) (fun j H1 hj hS' => hf _ (iE hj) (hS.trans hS'))) fun H1 hS1 => ?_
 simp (disch := omega) only [↓RA, RB, simprocAttr, hn]
 refine iA (fun h1 => ?_) (fun h1 => ?_)
 ·have hno : ∀ c ∈ xs, p c = false := by
   intro c hc
   obtain ⟨j, hj, rfl⟩ := dH.1 hc
   have h2 : ¬ 0 ≤ nW (fun j => p (iB xs j)) xs.length := by omega
   rw [yF] at h2
   rw [← jP xs j hj, ← ek]
   exact fun hp => h2 ⟨j, hj, hp⟩
  have hfe : (xs.filter fun c => !p c) = xs := List.filter_eq_self.2 fun c hc => by rw [hno c hc]; rfl
  simp (disch := omega) only [↓RA, RZ, simprocAttr, hn, g0, c1Y, h1]
  exact ⟨[], fun _ h => h, by rw [hfe, dh]; exact fun _ h => h, by rw [hfe, dh]; exact hS1⟩
 have hge : 0 ≤ nW (fun j => p (iB xs j)) xs.length := by
  unfold nW at h1 ⊢
  split
  ·omega
  ·rename_i hq
   rw [hq] at h1
   exact absurd rfl h1
 obtain ⟨i0, hi0⟩ : ∃ i0 : Nat, nW (fun j => p (iB xs j)) xs.length = i0 := ⟨_, (fp hge).symm⟩
 have hi0l := a0L hi0
 have hi0b : (∀ j, j < i0 → p (iB xs j) = false) ∧ p (iB xs i0) = true := by
  unfold nW at hi0
  split at hi0
  ·rename_i q hq
   have hqi : q = i0 := by omega
   subst hqi
   rw [List.find?_range_eq_some] at hq
   exact ⟨fun j hj => by have := hq.2.2 j hj; simpa using this, hq.1⟩
  ·omega
 have hD0 : ((xs.take (i0 + 1)).filter fun c => !p c) = xs.take i0 := by
  rw [lP xs i0 hi0l, eG]
  have e1 : ([iB xs i0].filter fun c => !p c) = [] := by simp [hi0b.2]
  rw [e1, dh]
  refine List.filter_eq_self.2 fun c hc => ?_
  obtain ⟨j, hj, rfl⟩ := dH.1 hc
  have hj2 : j < i0 := by rw [ff] at hj; omega
  have := hi0b.1 j hj2
  rw [jP xs j (by omega)] at this
  rw [List.getElem_take, this]
  rfl
 simp (disch := omega) only [↓RA, RZ, simprocAttr, hn, hi0]
 have hrow : St prog B H1 [⟨v, 2, pr (((xs.take (i0 + 1)).filter fun c => !p c) ++ xs.drop ((xs.take (i0 + 1)).filter fun c => !p c).length)⟩] := by
  rw [hD0, ff, ft (by omega), gi]
  exact hS1
 have hlt0 : ((xs.take (i0 + 1)).filter fun c => !p c).length < i0 + 1 := by
  rw [hD0, ff]
  omega
 refine Wp.al (fun n l H' => l.length = 42 ∧ get l 0 = v ∧ get l 1 = .func (.func k) #[] caps.toArray ∧ ∃ j : Nat, (n + j = xs.length ∧ ((xs.take j).filter fun c => !p c).length < j) ∧ get l 5 = I ((xs.take j).filter fun c => !p c).length ∧ get l 6 = I j ∧ St prog B H' [⟨v, 2, pr (((xs.take j).filter fun c => !p c) ++ xs.drop ((xs.take j).filter fun c => !p c).length)⟩]) (xs.length - (i0 + 1)) ?_ ?_
 ·simp (disch := omega) only [RB, RC, simprocAttr, hn, g0, g1]
  refine ⟨i0 + 1, ⟨by omega, hlt0⟩, ?_, by simp, hrow⟩
  rw [hD0, ff, ft (by omega)]
 clear hrow hlt0
 rintro n l H9 ⟨hn, g0, g1, j, ⟨hj, hlt⟩, g5, g6, hS9⟩
 have hsucc : j < xs.length → ((xs.take (j + 1)).filter fun c => !p c) = ((xs.take j).filter fun c => !p c) ++ (if p (iB xs j) = true then [] else [iB xs j]) := fun h => by
  rw [lP xs j h, eG]
  congr 1
  by_cases hp : p (iB xs j) = true
  ·rw [if_pos hp]; simp [hp]
  ·rw [if_neg hp]; simp [hp]
 have hall : j = xs.length → ((xs.take j).filter fun c => !p c) = xs.filter fun c => !p c := fun h => by rw [h, eo]
 generalize hD : ((xs.take j).filter fun c => !p c) = D at g5 hlt hS9 hsucc hall
 have hjl : j ≤ xs.length := by omega
 have hrl : (D ++ xs.drop D.length).length = xs.length := by rw [dm, eJ]; omega
 have hat : ∀ q, D.length ≤ q → iB (D ++ xs.drop D.length) q = iB xs q := fun q hq => by
  unfold iB
  rw [cX, dS hq, dq, cX]
  congr 2; omega
 have hatj := hat j (by omega)
 simp (disch := omega) only [↓RA, RZ, simprocAttr, hn, g0, g6, (hS9.aw 0 rfl (fun _ => rfl)).len, hrl]
 refine iA (fun h4 => ?_) (fun h4 => ?_)
 ·have hjx : j < xs.length := by omega
  have hsu := hsucc hjx
  simp (disch := omega) only [↓RA, RZ, simprocAttr, hn, g0, g6, (hS9.aw 0 rfl (fun _ => rfl)).idx, (hS9.aw 0 rfl (fun _ => rfl)).aj, kD, hatj, h4]
  refine hS9.eNew 2 [I 0, I 0] rfl rfl rfl qO fun A1 H2 hS2 => ?_
  simp only [RT] at hS2
  simp (disch := omega) only [↓RA, RZ, simprocAttr, hn, h4]
  refine hS2.ab 1 rfl [I (iB xs j).1, I (iB xs j).2] rfl rfl qO (by simp) fun H3 hS3 => ?_
  simp only [RT] at hS3
  simp (disch := omega) only [↓RA, RZ, simprocAttr, hn, g1, hS3.aj 1 rfl, h4]
  refine hS3.cF (hf (iB xs j) (iE hjx) hS3) fun H4 hS4 => ?_
  simp (disch := omega) only [↓RA, RZ, simprocAttr, hn, h4]
  refine jQ (fun h5 => ?_) (fun h5 => ?_)
  ·have hpf : ¬ p (iB xs j) = true := by simpa using h5
   rw [if_neg hpf] at hsu
   simp (disch := omega) only [↓RA, RZ, simprocAttr, hn, g0, g5, hS4.aj 1 rfl, (hS4.aw 0 rfl (fun _ => rfl)).idx, h4, h5]
   refine hS4.bd 0 rfl [I (iB xs j).1, I (iB xs j).2] rfl rfl qO (by simp) (by rw [iI, hrl]; simp; omega) fun H5 hS5 => ?_
   simp only [RT] at hS5
   simp (disch := omega) only [↓RA, RZ, simprocAttr, hn, g0, g1, g5, g6, h4, h5]
   refine ⟨n - 1, by omega, j + 1, ?_⟩
   rw [hsu]
   refine ⟨⟨by omega, by simp; omega⟩, by simp, by simp, ?_⟩
   have e3 : pr (D ++ [iB xs j] ++ xs.drop (D ++ [iB xs j]).length) = ((pr (D ++ xs.drop D.length)).set (D.length * 2) (I (iB xs j).1)).set (D.length * 2 + 1) (I (iB xs j).2) := by
    have hx : xs.drop D.length = iB xs D.length :: xs.drop (D.length + 1) := by
     rw [jP xs _ (by omega)]
     exact eS (by omega)
    rw [hx, dm, List.length_singleton, jO, jO, jO]
    have e4 : pr (iB xs D.length :: xs.drop (D.length + 1)) = I (iB xs D.length).1 :: I (iB xs D.length).2 :: pr (xs.drop (D.length + 1)) := rfl
    have e5 : pr [iB xs j] = [I (iB xs j).1, I (iB xs j).2] := rfl
    have e6 : (pr D).length = D.length * 2 := iI D
    rw [e4, e5, eL _ _ (by omega), eL _ _ (by omega), e6, gT, fD]
    simp
   rw [e3]
   exact hS5.pick [0] (by decide) rfl
  have hpt : p (iB xs j) = true := by simpa using h5
  rw [if_pos hpt, dh] at hsu
  simp (disch := omega) only [↓RA, RZ, simprocAttr, hn, g0, g1, g5, g6, h4, h5]
  refine ⟨n - 1, by omega, j + 1, ?_⟩
  rw [hsu]
  exact ⟨⟨by omega, by omega⟩, rfl, by simp, hS4.pick [0] (by decide) rfl⟩
 have hje : j = xs.length := by omega
 have hDe := hall hje
 have hcl : (pr (D ++ xs.drop D.length)).length = xs.length * (1 + 1) := by rw [iI, hrl]
 have hDn : D.length ≤ xs.length := by omega
 simp (disch := omega) only [↓RA, RZ, simprocAttr, hn, g0, g5, (hS9.aw 0 rfl (fun _ => rfl)).aN, hrl, h4]
 rw [show ((xs.length : Int) - D.length).toNat = xs.length - D.length from by omega]
 refine hS9.bq (size := 1) 0 rfl D.length (xs.length - D.length) (by rw [hcl]; omega) (by
  intro e
  have h2 : (pr (D ++ xs.drop D.length)).length = 0 := by rw [e]; rfl
  rw [hcl] at h2; omega) c2d fun z H3 hz hSc => ?_
 simp only [RT] at hSc
 have e3 : iW (pr (D ++ xs.drop D.length)) (D.length * 2) z = pr D ++ z := by
  rw [jO, show D.length * 2 = (pr D).length from (iI D).symm, lZ z (pr D) (pr (xs.drop D.length)) (by rw [iI, eJ]; omega)]
  rw [List.drop_of_length_le (by rw [iI, eJ]; omega), dh]
 rw [show D.length * (1 + 1) = D.length * 2 from rfl, e3] at hSc
 have hw : RdAt H3 v (1 + 1) (pr D ++ z) := hSc.rd 0 rfl
 have hwl : (pr D ++ z).length = xs.length * (1 + 1) := by rw [dm, iI, hz]; omega
 simp (disch := omega) only [↓RA, RZ, simprocAttr, hn, g0, g5, hw.aO hwl, c1Y, h4]
 refine ⟨z, fun b h => a1P h, fun H2 h2 => ?_, by rw [← hDe]; exact hSc⟩
 rw [← hDe] at h2 ⊢
 have h5 := RdAt.sub h2 0 D.length (by rw [hwl]; omega) (by
  intro e
  rw [e] at hwl
  simp at hwl; omega)
 rw [Nat.zero_mul, List.drop_zero, show D.length * 2 = (pr D).length from (iI D).symm, List.take_left' rfl] at h5
 exact h5
theorem b8a (a : Addr) (m c : Nat) : kR prog .eql 58 58 false true (.slice (some a) m c) (.slice none 0 0) = some (.bool false) := by kernel_rfl
theorem a4B {v : Value} {a : Addr} {m c : Nat} (h : v = .slice (some a) m c) (K : Value → Prop) : kU prog .eql 58 58 false true v (.slice none 0 0) K = oA (.bool false) K := by
 subst h
 show jU (kR prog .eql 58 58 false true (.slice (some a) m c) (.slice none 0 0)) K = _
 rw [b8a]
 rfl
theorem b3c : kR prog .eql 58 58 false true (.slice none 0 0) (.slice none 0 0) = some (.bool true) := by kernel_rfl
theorem vE (K : Value → Prop) : kU prog .eql 58 58 false true (.slice none 0 0) (.slice none 0 0) K = oA (.bool true) K := by
 show jU (kR prog .eql 58 58 false true (.slice none 0 0) (.slice none 0 0)) K = _
 rw [b3c]
 rfl
theorem a7W (v : Value) (xs : List Ct) (hv : Sl 2 kD H v xs) (hl : xs.length < 100000000) : Fn prog 59 [v] H fun r H' => St prog H H' [⟨r, 2, pr xs⟩] := by
 rcases hv.rd with ⟨rfl, h2⟩ | ⟨A, i, e, row, ty, rw', lo, ver, m, _, _, _, _, _, _, hvv⟩
 ·have hx : xs = [] := by
   have := congrArg List.length h2
   rw [show (xs.flatMap kD).length = xs.length * 2 from iI xs, eY] at this
   exact fB.1 (by omega)
  subst hx
  refine .aT func59 rfl (by kernel_rfl) (m := 8) rfl fun l hn g0 => ?_
  have hbe := vE
  simp (disch := omega) only [↓RA, RB, simprocAttr, hn, g0, vE]
  have hS1 := (sR H).nil 1
  simp only [RT] at hS1
  simp (disch := omega) only [RB, simprocAttr, hn, c4b]
  exact hS1
 ·refine .aT func59 rfl (by kernel_rfl) (m := 8) rfl fun l hn g0 => ?_
  simp (disch := omega) only [↓RA, RB, simprocAttr, hn, g0, a4B hvv]
  refine (sR H).bR b0U fun w1 H1 hS1 => ?_
  simp only [RT] at hS1
  simp (disch := omega) only [↓RA, RZ, simprocAttr, hn, g0]
  refine hS1.aq 0 rfl (hS1.sl hv).rd b0U (by rw [show (xs.flatMap kD).length = xs.length * 2 from iI xs]; simp; omega) fun w2 H2 hS2 => ?_
  simp only [RT] at hS2
  simp (disch := omega) only [↓RA, RB, simprocAttr, hn, c4b]
  exact hS2
theorem a5p (c : Ct) (A : Nat) (bv : Value) (ys : List Ct) (hA : Var H A 1 [bv]) (hb : Sl 2 kD H bv ys) (hl : ys.length < 100000000) :
 Fn prog 60 [.agg #[I c.1, I c.2], ptr A 0 1] H fun r H' => r = .bool (decide (c ∈ ys)) ∧ St prog H H' [] := by
 refine .aG func60 rfl (by kernel_rfl) (m := 7) rfl fun l hn g0 g1 => ?_
 simp (disch := omega) only [↓RA, RB, simprocAttr, g0]
 refine (sR H).eNew 2 [I c.1, I c.2] rfl rfl rfl qO fun A1 H1 hS1 => ?_
 simp only [RT] at hS1
 simp (disch := omega) only [↓RA, RZ, simprocAttr, hn, g1, (hA.ag hS1.ag).ld, hS1.aj 0 rfl]
 refine hS1.cF (b5d bv ys (hS1.sl hb) (by omega) c) fun H2 hS2 => ?_
 simp (disch := omega) only [↓RA, RZ, simprocAttr, hn, c4M]
 exact hS2.forget
theorem rW (v w : Value) (xs ys : List Ct) (hv : Sl 2 kD H v xs) (hw : Sl 2 kD H w ys) (hl : xs.length < 10000000) (hl2 : ys.length < 10000000) :
 Fn prog 24 [v, w] H fun r H' => Slx 2 kD H' (fun B => H.length ≤ B) r (xs.filter fun c => !decide (c ∈ ys)) ∧ St prog H H' [] := by
 refine .aG func24 rfl (by kernel_rfl) (m := 9) rfl fun l hn g0 g1 => ?_
 simp (disch := omega) only [↓RA, RB, simprocAttr, g1]
 refine (sR H).eNew 1 [w] (by rw [((sR H).sl hw).cells.1]) rfl (by simp [((sR H).sl hw).cells.2.1]) c1J fun A1 H1 hS1 => ?_
 simp only [RT] at hS1
 simp (disch := omega) only [↓RA, RZ, simprocAttr, hn, g0]
 refine iF ((a7W v xs (hS1.sl hv) (by omega)).tr) ?_
 rintro r H2 ⟨-, hT1⟩
 have hS2 := hS1.trans hT1
 simp only [RT] at hS2
 obtain ⟨cw, rfl⟩ : ∃ w, w = r := ⟨r, rfl⟩
 simp (disch := omega) only [↓RA, RZ, simprocAttr, hn]
 have hM1 := hS2.pick (os' := [⟨cw, 2, _⟩]) [1] (by decide) rfl
 have hR1 := hS2.pick (os' := [⟨cw, 2, _⟩, ⟨ptr A1 0 1, 0, _⟩]) [1, 0] (by decide) rfl
 refine iF (c2I (xs := xs) hM1.aJ (by omega) 60 [ptr A1 0 1] (fun c => decide (c ∈ ys)) (fun c hc {H9 os} h => by
  have q1 := hR1.frame h.forget
  exact a5p c A1 w ys (q1.var 0 rfl) (q1.sl hw) (by omega))) ?_
 rintro r H3 ⟨rest, hb, hrd, hT2⟩
 have hS3 := hR1.frame hT2
 simp only [RT] at hS3
 have hrr := hrd _ (hS3.rd 0 rfl)
 have hrc := hrr.cells
 simp (disch := omega) only [↓RA, RB, simprocAttr, hn, c4y]
 refine ⟨⟨⟨hrr, lI, by decide⟩, fun b h => ?_⟩, hS3.forget⟩
 rcases hS3.new _ (dI ..) b (hb b h) with h | h
 ·exact h
 ·exact h.elim
end Go.Ds
namespace Go.Ds
open Go.Proofs
variable {H : Heap}
set_option maxRecDepth 10000
set_option maxHeartbeats 1000000
def a5o (xs ys : List Ct) : List Ct := xs.filter fun c => !decide (c ∈ ys)
end Go.Ds
namespace Go.Ds
open Go.Proofs
set_option maxRecDepth 10000
def gS (b : Nat → Nat) : Nat → Nat
 | 0 => 255
 | 1 => 255
 | 2 => 255
 | n + 3 => b (n + 3)
def gC (b : Nat → Nat) : Nat → Nat
 | 0 => b 0
 | 1 => b 1
 | 2 => b 2
 | 3 => 255
 | n + 4 => b (n + 4)
def gO (b : Nat → Nat) : Nat → Nat
 | 0 => b 0
 | 1 => b 1
 | 2 => b 2
 | 3 => b 3
 | _ + 4 => 255
def gN (b : Nat → Nat) : Nat → Nat
 | 0 => 0
 | 1 => 0
 | 2 => 0
 | n + 3 => b (n + 3)
def gP (b : Nat → Nat) : Nat → Nat
 | 0 => b 0
 | 1 => b 1
 | 2 => b 2
 | _ + 3 => 0
theorem c3b {b : Nat → Nat} (hb : ∀ i, b i < 256) (i : Nat) : gS b i < 256 := by unfold gS; split <;> first | decide | exact hb _
theorem c3e {b : Nat → Nat} (hb : ∀ i, b i < 256) (i : Nat) : gC b i < 256 := by unfold gC; split <;> first | decide | exact hb _
theorem c1F {b : Nat → Nat} (hb : ∀ i, b i < 256) (i : Nat) : gO b i < 256 := by unfold gO; split <;> first | decide | exact hb _
theorem c2L {b : Nat → Nat} (hb : ∀ i, b i < 256) (i : Nat) : gN b i < 256 := by unfold gN; split <;> first | decide | exact hb _
theorem b8M {b : Nat → Nat} (hb : ∀ i, b i < 256) (i : Nat) : gP b i < 256 := by unfold gP; split <;> first | decide | exact hb _
theorem rI {o : Org} (b : Nat → Nat) {d : Nat} (h : d < o.dvs.length) : iB (jI o b).stops d = b (d % 3) % 2 ^ (iB o.dvs d).stops.length := by
 unfold jI
 rw [jP _ _ (by simpa using h)]
 simp
theorem b7R (d : Nat) : d % 3 = 0 ∨ d % 3 = 1 ∨ d % 3 = 2 := by omega
theorem c1N (b : Nat → Nat) (d : Nat) : gC b (d % 3) = b (d % 3) := by rcases b7R d with e | e | e <;> rw [e] <;> rfl
theorem c3r (b : Nat → Nat) (d : Nat) : gO b (d % 3) = b (d % 3) := by rcases b7R d with e | e | e <;> rw [e] <;> rfl
theorem c3I (b : Nat → Nat) (d : Nat) : gS b (d % 3) = 255 := by rcases b7R d with e | e | e <;> rw [e] <;> rfl
theorem c3d (b : Nat → Nat) (d : Nat) : gN b (d % 3) = 0 := by rcases b7R d with e | e | e <;> rw [e] <;> rfl
theorem a0A {o : Org} {d i : Nat} (h : ¬ d < o.dvs.length) : ¬ i < (iB o.dvs d).stops.length := by
 unfold iB
 rw [cX, dQ (by omega)]
 exact dz i
theorem yS {xs ys : List Ct} (h : ∀ x ∈ xs, x ∈ ys) : a5o xs ys = [] := by
 unfold a5o
 rw [fY]
 intro x hx
 simp [h x hx]
section
variable {o : Org} {b : Nat → Nat} {l : List Ct}
theorem a9h (hf : o.Fine) (h3 : ∀ j, j < o.dvs.length → (iB o.dvs j).stops.length ≤ 3) : a5o (kC o (jI o b) l) (kC o (jI o (gS b)) l) = [] := by
 refine yS (vM hf (fun c x h => b0g rfl (fun _ _ h => h) c x h) (tM fun d i hi hb => ?_))
 by_cases hd : d < o.dvs.length
 ·rw [rI _ hd, c3I]
  have := h3 d hd
  exact a1d _ i (by omega) hi
 ·exact absurd hi (a0A hd)
theorem b1D (hf : o.Fine) (h3 : o.cpls.length ≤ 3) : a5o (kC o (jI o b) l) (kC o (jI o (gC b)) l) = [] := by
 refine yS (vM hf (b0g rfl fun i hi _ => a1d _ i (by omega) hi) (tM fun d i hi hb => ?_))
 by_cases hd : d < o.dvs.length
 ·rw [rI _ hd] at hb ⊢
  rw [c1N]
  exact hb
 ·exact absurd hi (a0A hd)
theorem b3D (hf : o.Fine) (h3 : o.dvs.length ≤ 3) : a5o (kC o (jI o (gO b)) l) (kC o (jI o b) l) = [] := by
 refine yS (vM hf (b6J rfl fun i hb => ?_) (tM fun d i hi hb => ?_))
 ·have hb : (b 4 % 2 ^ o.dvs.length).testBit i = true := hb
  rw [gJ, cU, decide_eq_true_eq] at hb
  exact a1d _ i (by omega) hb.1
 ·by_cases hd : d < o.dvs.length
  ·rw [rI _ hd] at hb ⊢
   rw [c3r] at hb
   exact hb
  ·exact absurd hi (a0A hd)
theorem b2j : kC o (jI o (gN b)) l = [] := by
 refine a8Z (fun d i hi => ?_) l
 by_cases hd : d < o.dvs.length
 ·rw [rI _ hd, c3d, Nat.zero_mod, fG]
 ·exact absurd hi (a0A hd)
theorem a9H (hf : o.Fine) (hl : l.Pairwise ltP) : lT o (jI o (gP b)) l = l := by
 refine a7v hf (fun i _ => ?_) (fun c _ => ?_) hl
 ·show (0 % 2 ^ o.cpls.length).testBit i = false
  rw [Nat.zero_mod, fG]
 ·show (0 % 2 ^ o.dvs.length).testBit c.1.toNat = false
  rw [Nat.zero_mod, fG]
end
end Go.Ds
namespace Go.Ds
open Go.Proofs Go.Proofs.Tryz
variable {H : Heap}
set_option maxRecDepth 100000
set_option maxHeartbeats 1000000
def b0s (r : Rs) (n : Int) : Bool := match r with
 | .ok (.tuple vs) _ => (match vs.toList with
   | [.int .u64 a, .int .u64 b] => decide (a = 0) && decide (b = n)
   | _ => false)
 | .th (.tuple vs) _ => (match vs.toList with
   | [.int .u64 a, .int .u64 b] => decide (a = 0) && decide (b = n)
   | _ => false)
 | _ => false
theorem b9W : (sQ prog [168, 201, 202] .e fun T => [(25 : Int)].all fun n => b0s (mJ T (exF prog T 4000) [] (kN 168) [.int .u64 1, .int .u64 n] gH) n) = true := by kernel_rfl
theorem b3Z {T : LT} (hT : TOk prog T) {k : FuncId} {args : List Value} {n : Int} (h : b0s (mJ T (exF prog T 4000) [] (kN k) args gH) n = true) : Fn prog k args gH fun r _ => r = .tuple #[.int .u64 0, .int .u64 n] := by
 have hv : ∀ (vs : Array Value), (match vs.toList with
  | [.int .u64 a, .int .u64 b] => decide (a = 0) && decide (b = n)
  | _ => false) = true → Value.tuple vs = .tuple #[.int .u64 0, .int .u64 n] := by
  intro vs h
  split at h
  ·rename_i a b e
   rw [cU, decide_eq_true_eq, decide_eq_true_eq] at h
   obtain ⟨rfl, rfl⟩ := h
   congr 1
   exact gD e
  ·cases h
 unfold b0s at h
 split at h
 ·rename_i vs H1 e
  rw [← hv vs h]
  exact lX hT (.inl e)
 ·rename_i vs H1 e
  rw [← hv vs h]
  exact lX hT (.inr e)
 ·cases h
theorem b5G (hG : Glob gH H) : Fn prog 168 [.int .u64 1, .int .u64 25] H fun r H' => r = .tuple #[.int .u64 0, .int .u64 25] ∧ St prog H H' [] := by
 obtain ⟨T, hT, h⟩ := pQ (ps := [(25 : Int)]) (f := fun T n => b0s (mJ T (exF prog T 4000) [] (kN 168) [.int .u64 1, .int .u64 n] gH) n) b9W
 exact qX (by simp [flat, jA, iX]) rfl (b3Z hT (h 25 (by simp))) hG
theorem qG (c z : Value) : ∀ (m x n : Nat), x + m ≤ n → iW (List.replicate x c ++ List.replicate (n - x) z) x (List.replicate m c) = List.replicate (x + m) c ++ List.replicate (n - (x + m)) z := by
 intro m x n h
 have e : List.replicate (n - x) z = List.replicate m z ++ List.replicate (n - (x + m)) z := by
  rw [List.replicate_append_replicate]; congr 1; omega
 have := lZ (List.replicate m c) (List.replicate x c) (List.replicate (n - x) z) (by simp; omega)
 rw [eV] at this
 rw [this, List.replicate_append_replicate]
 congr 1
 simp
 omega
theorem a9s {H : Heap} {v : Value} {cs : List Value} (h : RdAt H v 1 cs) (h0 : cs ≠ []) : qB v 1 0 cs.length = v := by
 rcases h with ⟨rfl, rfl⟩ | ⟨A, i, e, row, ty, rw, lo', ver, n, h1, h2, h3, h4, h5, h6, rfl⟩
 ·exact (h0 rfl).elim
 ·simp [qB, h6]
theorem St.ch {P : Program} {H0 : Base} {os : List Ob} (hS : St P H0 H os) (i : Nat) {v : Value} {cs : List Value} (ho : os[i]? = some ⟨v, 1, cs⟩) {x : Value} {ys : List Value} (hx : RdAt H x 1 ys) (h0 : 0 < cs.length) (hy : 0 < ys.length) {t : TypeId} (ht : iR P t = some 1) {K : Value → Heap → Prop}
 (h : ∀ H1, St P H0 H1 (os.set i ⟨v, 1, iW cs 0 (ys.take (min ys.length cs.length))⟩) → K (.int .i64 ((min ys.length cs.length : Nat) : Int)) H1) : a2U P H t v x K := by
 have e := a9s (hS.rd (size := 0) i ho) (by intro e; simp [e] at h0)
 have := hS.bJ i ho hx 0 cs.length (by omega) h0 hy ht h
 rwa [e] at this
theorem b5H (hG : Glob gH H) {c : Int} (v : Value) (hv : Sl 1 (one I) H v [c]) : Fn prog 122 [v, I 25] H fun r H' => St prog H H' [⟨r, 1, List.replicate 25 (I c)⟩] := by
 have h1 : (([c] : List Int).length : Int) = 1 := rfl
 refine .aG func122 rfl (by kernel_rfl) (m := 48) rfl fun l hn g0 g1 => ?_
 simp (disch := omega) only [↓RA, RZ, simprocAttr, hn, g0, g1, ((sR H).sl hv).len]
 refine (sR H).cF (b5G ((sR H).gl hG)) fun H1 hS1 => ?_
 simp (disch := omega) only [↓RA, RZ, simprocAttr, hn]
 refine hS1.bZ 25 c4B (by omega) fun w H2 hS2 => ?_
 simp only [RT] at hS2
 simp (disch := omega) only [↓RA, RB, simprocAttr, hn, g0]
 refine hS2.ch 0 rfl (hS2.sl hv).rd (by simp) (by simp [one]) c0N fun H3 hS3 => ?_
 have e1 : min ([c].flatMap (one I)).length (List.replicate 25 (Value.int .i64 0)).length = 1 := by simp [one]
 rw [e1] at hS3 ⊢
 have e2 := qG (I c) (.int .i64 0) 1 0 25 (by omega)
 simp only [List.replicate_zero, eX, Nat.sub_zero, fU] at e2
 have hS4 : St prog H H3 [⟨w, 1, List.replicate 1 (I c) ++ List.replicate (25 - 1) (.int .i64 0)⟩] := by
  rw [← e2]
  exact hS3
 simp (disch := omega) only [↓RA, RB, simprocAttr, hn]
 have e3 : ∀ x : Nat, List.replicate x (I c) ++ List.replicate (25 - x) (.int .i64 0) = (List.replicate x (c : Int) ++ List.replicate (25 - x) 0).flatMap (one I) := fun x => by
  rw [yD, dN, List.map_replicate, List.map_replicate]
 refine Wp.al (fun n l H' => l.length = 48 ∧ get l 4 = (.slice none 0 0) ∧ ∃ (x : Nat), (n + x = 25 ∧ 1 ≤ x) ∧ get l 8 = I x ∧ get l 7 = w ∧ St prog H H' [⟨w, 1, (List.replicate x (c : Int) ++ List.replicate (25 - x) 0).flatMap (one I)⟩]) 24 ?_ ?_
 ·simp (disch := omega) only [RB, RC, simprocAttr, hn]
  rw [e3] at hS4
  exact ⟨1, ⟨by omega, by omega⟩, rfl, hS4⟩
 rintro n l H2 ⟨hn, g4, x, ⟨hx,hx1⟩, g8, g7, hS2⟩
 have hln : (List.replicate x (c : Int) ++ List.replicate (25 - x) 0).length = 25 := by simp; omega
 simp (disch := omega) only [↓RA, RZ, simprocAttr, hn, g8, g7, (hS2.aw 0 rfl (fun _ => rfl)).len, hln]
 refine iA (fun q1 => ?_) (fun q1 => ?_)
 ·simp (disch := omega) only [↓RA, RC, simprocAttr, q1]
  refine Wp.drw kE (by kernel_rfl) ?_
  simp (disch := omega) only [↓RA, RZ, simprocAttr, hn, g8, g7, (hS2.aw 0 rfl (fun _ => rfl)).aN, (hS2.aw 0 rfl (fun _ => rfl)).aO, hln]
  have hxt : ((25 : Int) - (x : Int)).toNat = 25 - x := by omega
  rw [hxt]
  have hlc : ((List.replicate x (c : Int) ++ List.replicate (25 - x) 0).flatMap (one I)).length = 25 := by rw [yD, dY, hln]
  have hrd := hS2.rd 0 rfl
  have hsub := hrd.sub 0 x (by rw [hlc]; omega) (by intro e; rw [e] at hlc; simp at hlc)
  have e5 : (((List.replicate x (c : Int) ++ List.replicate (25 - x) 0).flatMap (one I)).drop (0 * (0 + 1))).take (x * (0 + 1)) = List.replicate x (I c) := by
   rw [← e3]
   simp []
  rw [e5] at hsub
  refine hS2.bJ 0 rfl hsub x (25 - x) (by rw [hlc]; omega) (by omega) (by simp; omega) c0N fun H4 hS5 => ?_
  have e6 : (List.replicate x (I c)).take (min (List.replicate x (I c)).length (25 - x)) = List.replicate (min x (25 - x)) (I c) := by simp
  rw [e6] at hS5
  have e7 : min (List.replicate x (I c)).length (25 - x) = min x (25 - x) := by simp
  rw [e7]
  have e8 := qG (I c) (.int .i64 0) (min x (25 - x)) x 25 (by omega)
  have hS6 : St prog H H4 [⟨w, 1, (List.replicate (x + min x (25 - x)) (c : Int) ++ List.replicate (25 - (x + min x (25 - x))) 0).flatMap (one I)⟩] := by
   rw [← e3, ← e8, e3]
   exact hS5
  simp (disch := omega) only [↓RA, RZ, simprocAttr, hn, g4, g7]
  exact ⟨25 - (x + min x (25 - x)), by omega, x + min x (25 - x), ⟨by omega, by omega⟩, by simp, hS6⟩
 simp (disch := omega) only [↓RA, RZ, simprocAttr, hn, g7, c3E, q1]
 have e : x = 25 := by omega
 subst e
 have hfin : ((List.replicate 25 (c : Int) ++ List.replicate (25 - 25) 0).flatMap (one I)) = List.replicate 25 (I c) := by rw [← e3]; rfl
 have h9 := hS2
 rw [hfin] at h9
 exact h9
end Go.Ds
namespace Go.Ds
open Go.Proofs
variable {H : Heap}
set_option maxRecDepth 10000
set_option maxHeartbeats 1000000
section
variable (w1 w2 w3 w4 w5 w6 w7 : Value)
def a8o (x : Int × Int) : List (Int × Int) → List (Int × Int)
 | [] => [x]
 | y :: l => if le2 x y then x :: y :: l else y :: a8o x l
def a7L : List (Int × Int) → List (Int × Int)
 | [] => []
 | x :: l => a8o x (a7L l)
theorem zY (x : Int × Int) : ∀ l, (a8o x l).Perm (x :: l)
 | [] => .refl _
 | y :: l => by
   unfold a8o
   split
   ·exact .refl _
   ·exact ((zY x l).cons y).trans (.swap ..)
theorem a2I : ∀ l, (a7L l).Perm l
 | [] => .refl _
 | x :: l => (zY x _).trans ((a2I l).cons x)
theorem b1E (x y : Int × Int) : le2 x y = false → le2 y x = true := by
 intro h
 rw [← ek] at h
 rw [nU] at h ⊢
 omega
theorem a0c (x : Int × Int) : ∀ l : List (Int × Int), l.Pairwise (fun a b => le2 a b = true) → (a8o x l).Pairwise fun a b => le2 a b = true
 | [], _ => by simp [a8o]
 | y :: l, h => by
   have h1 := gF.1 h
   unfold a8o
   split
   ·rename_i hxy
    refine gF.2 ⟨fun z hz => ?_, h⟩
    rcases dO.1 hz with rfl | hz
    ·exact hxy
    ·have h2 := h1.1 z hz
     rw [nU] at *
     omega
   ·rename_i hxy
    refine gF.2 ⟨fun z hz => ?_, a0c x l h1.2⟩
    rcases dO.1 ((zY x l).mem_iff.1 hz) with rfl | hz
    ·exact b1E _ _ (by simpa using hxy)
    ·exact h1.1 z hz
theorem a0r : ∀ l : List (Int × Int), (a7L l).Pairwise fun a b => le2 a b = true
 | [] => .nil
 | x :: l => a0c x _ (a0r l)
theorem b5p : vF = a7L := by
 funext l
 refine List.Perm.eq_of_pairwise (le := fun a b => le2 a b = true) (fun a b _ _ h1 h2 => ?_) (vY l) (a0r l) ((nO l).trans (a2I l).symm)
 rw [nU] at h1 h2
 exact gm (by omega) (by omega)
def c0j (s : List Ct → List Ct) (o : Org) (r : Reg) (l : List Ct) : List Ct := dd (s (l.filter (fun c => !r.off.testBit c.1.toNat) ++ bfs o r.cpl 1100 0 (mC o r.cpl l)))
def b9P (s : List Ct → List Ct) (rs : List Rk) (p : Stp) (key : Int) : List Ct := dd (s (((a9C p key).filter fun d => zF rs d key).map fun d => oX rs d key))
def c0W (s : List Ct → List Ct) (o : Org) (r : Reg) (c : Ct) : List Ct := (List.range (iB o.dvs c.1.toNat).stops.length).flatMap fun i => if (iB r.stops c.1.toNat).testBit i then b9P s o.ranks (iB (iB o.dvs c.1.toNat).stops i) c.2 else []
end
end Go.Ds
namespace Go.Ds
open Go.Proofs Go.Proofs.Tryz
variable {H : Heap}
set_option maxRecDepth 10000
set_option maxHeartbeats 1000000
theorem a3d (hG : Glob gH H) (s : ByteArray) : Fn prog 84 [.string s] H fun r H' => ∃ wv, r = .agg #[.string s, .string ⟨#[102, 108, 117, 116, 101]⟩, I 8, I 1, I 36, wv] ∧ St prog H H' [⟨wv, 1, List.replicate 25 (I 1)⟩] := by
 refine .aT func84 rfl (by kernel_rfl) (m := 8) rfl fun l hn g0 => ?_
 simp (disch := omega) only [↓RA, RZ, simprocAttr]
 refine (sR H).eNew 6 [(.string ⟨#[]⟩), (.string ⟨#[]⟩), I 0, I 0, I 0, (.slice none 0 0)] rfl rfl rfl xF fun A1 H1 hS1 => ?_
 simp only [RT] at hS1
 simp (disch := omega) only [↓RA, RB, simprocAttr, g0, tC]
 refine hS1.ai [I 1] a0S a6n rfl rfl (by simp [Value.cells]) rfl rfl (by decide) (by decide) fun w1 H2 hS2 => ?_
 simp only [RT] at hS2
 simp (disch := omega) only [↓RA, RZ, simprocAttr, hn]
 refine iF ((b5H (hS2.gl hG) w1 (hS2.aw 1 rfl (fun _ => rfl))).tr) ?_
 rintro r H3 ⟨-, hT1⟩
 have hS3 := hS2.trans hT1
 simp only [RT] at hS3
 obtain ⟨wv, rfl⟩ : ∃ w, w = r := ⟨r, rfl⟩
 simp (disch := omega) only [↓RA, RB, simprocAttr, hn, a1e (hS3.rd 2 rfl).cells]
 refine hS3.ab 0 rfl [(.string s), (.string ⟨#[102, 108, 117, 116, 101]⟩), I 8, I 1, I 36, wv] rfl (by simp [OC, (hS3.rd 2 rfl).cells.2.1]) xF (by simp) fun H4 hS4 => ?_
 simp only [RT] at hS4
 simp (disch := omega) only [↓RA, RZ, simprocAttr, hn, c5A, hS4.aj 0 rfl]
 exact ⟨wv, rfl, hS4.pick [2] (by decide) rfl⟩
theorem a3F (n feet shift : Int) : Fn prog 83 [I n, I feet, I shift] H fun r H' => ∃ dv gv, St prog H H' [⟨dv, 2, [I n, I shift]⟩, ⟨gv, 3, [I 36, I 48, dv]⟩, ⟨r, 4, [.string ⟨#[97]⟩, I feet, I 1, gv]⟩] := by
 refine .bF func83 rfl (by kernel_rfl) (m := 17) rfl fun l hn g0 g1 g2 => ?_
 simp (disch := omega) only [↓RA, RB, simprocAttr, hn, g0, g1, g2, tC, pM]
 refine (sR H).ai [I n, I shift] a3B a2S rfl rfl (by simp [Value.cells]) rfl rfl (by decide) (by decide) fun w1 H1 hS1 => ?_
 simp only [RT] at hS1
 simp (disch := omega) only [↓RA, RB, simprocAttr, hn, lF (hS1.rd 0 rfl).cells]
 refine hS1.ai [I 36, I 48, w1] pC uV rfl rfl (by first | (simp []; done) | simp [Value.cells]) (by first | (simp []; done) | simp [Value.cells]) (by simp [OC, (hS1.rd 0 rfl).cells.2.1]) (by decide) (by decide) fun w2 H2 hS2 => ?_
 simp only [RT] at hS2
 simp (disch := omega) only [↓RA, RB, simprocAttr, hn, a7j (hS2.rd 1 rfl).cells]
 refine hS2.ai [(.string ⟨#[97]⟩), I feet, I 1, w2] b3e b9b rfl rfl (by first | (simp []; done) | simp [Value.cells]) (by first | (simp []; done) | simp [Value.cells]) (by simp [OC, (hS2.rd 1 rfl).cells.2.1]) (by decide) (by decide) fun w3 H3 hS3 => ?_
 simp only [RT] at hS3
 simp (disch := omega) only [↓RA, RB, simprocAttr, hn, c4H]
 exact ⟨w1, w2, hS3⟩
def exE (w1 w2 : Value) (d1 g1 s1 d2 g2 s2 : Value) (w3 w4 w5 : Value) : Org := ⟨⟨#[101]⟩, w3, [⟨⟨#[114]⟩, ⟨#[102, 108, 117, 116, 101]⟩, 8, 1, 36, w1, List.replicate 25 1⟩, ⟨⟨#[115]⟩, ⟨#[102, 108, 117, 116, 101]⟩, 8, 1, 36, w2, List.replicate 25 1⟩], w4,
 [⟨⟨#[111, 110, 101]⟩, false, 36, 48, s1, [⟨⟨#[97]⟩, 8, 1, g1, [⟨36, 48, d1, [⟨0, 0⟩]⟩]⟩]⟩, ⟨⟨#[116, 119, 111]⟩, false, 36, 48, s2, [⟨⟨#[97]⟩, 4, 1, g2, [⟨36, 48, d2, [⟨1, 12⟩]⟩]⟩]⟩], w5, [⟨⟨#[99]⟩, 0, 1, 0, false⟩]⟩
theorem a6S (hG : Glob gH H) : Fn prog 41 [] H fun r H' => ∃ w1 w2 d1 g1 s1 d2 g2 s2 w3 w4 w5, r = .agg #[.string (exE w1 w2 d1 g1 s1 d2 g2 s2 w3 w4 w5).name, w3, w4, w5] ∧ (exE w1 w2 d1 g1 s1 d2 g2 s2 w3 w4 w5).In H' ∧ St prog H H' [] := by
 refine .cM func41 rfl (by kernel_rfl) (m := 19) rfl fun l hn => ?_
 simp (disch := omega) only [↓RA, RZ, simprocAttr]
 refine (sR H).eNew 4 [(.string ⟨#[]⟩), (.slice none 0 0), (.slice none 0 0), (.slice none 0 0)] rfl rfl rfl oN fun A1 H1 hS1 => ?_
 simp only [RT] at hS1
 simp (disch := omega) only [↓RA, RZ, simprocAttr, a3f]
 refine hS1.eNew 2 [I 0, I 0] rfl rfl rfl sN fun A2 H2 hS2 => ?_
 simp only [RT] at hS2
 simp (disch := omega) only [↓RA, RB, simprocAttr, hn]
 refine hS2.ab 1 rfl [I 36, I 48] rfl rfl sN (by simp) fun H3 hS3 => ?_
 simp only [RT] at hS3
 simp (disch := omega) only [↓RA, RB, simprocAttr]
 refine Wp.cd kE [0, 1, 4, 5, 8, 9, 2, 3, 6, 7, 10, 11, 12, 13, 14, 15] [0, 1, 6, 7, 2, 3, 8, 9, 4, 5, 10, 11, 12, 13, 14, 15] ⟨true, [36], []⟩ [(7, 0), (7, 1), (7, 2), (7, 4), (7, 6), (9, 0), (9, 1), (9, 2), (9, 4), (9, 6)] (by kernel_rfl) (by kernel_rfl) (by kernel_rfl) ?_
 simp (disch := omega) only [↓RA, RZ, simprocAttr]
 refine iF (a3d (hS3.gl hG) _) ?_
 rintro r H4 ⟨wv1, rfl, hT1⟩
 have hS4 := hS3.trans hT1
 simp only [RT] at hS4
 simp (disch := omega) only [↓RA, RZ, simprocAttr]
 refine iF (a3d (hS4.gl hG) _) ?_
 rintro r H5 ⟨wv2, rfl, hT2⟩
 have hS5 := hS4.trans hT2
 simp only [RT] at hS5
 simp (disch := omega) only [↓RA, RZ, simprocAttr, hn]
 refine iF (a3F 0 8 0) ?_
 rintro r H6 ⟨d1, g1, hT3⟩
 have hS6 := hS5.trans hT3
 simp only [RT] at hS6
 obtain ⟨s1, rfl⟩ : ∃ w, w = r := ⟨r, rfl⟩
 simp (disch := omega) only [↓RA, RZ, simprocAttr, hn]
 refine iF (a3F 1 4 12) ?_
 rintro r H7 ⟨d2, g2, hT4⟩
 have hS7 := hS6.trans hT4
 simp only [RT] at hS7
 obtain ⟨s2, rfl⟩ : ∃ w, w = r := ⟨r, rfl⟩
 simp (disch := omega) only [↓RA, RB, simprocAttr, hn]
 refine hS7.ai [(.string ⟨#[114]⟩), (.string ⟨#[102, 108, 117, 116, 101]⟩), I 8, I 1, I 36, wv1, (.string ⟨#[115]⟩), (.string ⟨#[102, 108, 117, 116, 101]⟩), I 8, I 1, I 36, wv2] b9Y c2R rfl rfl (by first | (simp []; done) | simp [Value.cells]) (by first | (simp []; done) | simp [Value.cells]) (by simp [OC, (hS7.rd 2 rfl).cells.2.1, (hS7.rd 3 rfl).cells.2.1]) (by decide) (by decide) fun w1 H8 hS8 => ?_
 simp only [RT] at hS8
 simp (disch := omega) only [↓RA, RZ, simprocAttr, hn, hS8.aj 1 rfl, a0q (hS8.rd 6 rfl).cells, a0q (hS8.rd 9 rfl).cells]
 refine hS8.ai [(.string ⟨#[111, 110, 101]⟩), (.bool false), I 36, I 48, s1, (.string ⟨#[116, 119, 111]⟩), (.bool false), I 36, I 48, s2] c1p c2A rfl rfl (by first | (simp []; done) | simp [Value.cells]) (by first | (simp []; done) | simp [Value.cells]) (by simp [OC, (hS8.rd 6 rfl).cells.2.1, (hS8.rd 9 rfl).cells.2.1]) (by decide) (by decide) fun w2 H9 hS9 => ?_
 simp only [RT] at hS9
 simp (disch := omega) only [↓RA, RB, simprocAttr, hn, a6P]
 refine hS9.ai [(.string ⟨#[99]⟩), I 0, I 1, I 0, (.bool false)] a9d b7n rfl rfl (by simp [Value.cells]) rfl rfl (by decide) (by decide) fun w3 H10 hS10 => ?_
 simp only [RT] at hS10
 simp (disch := omega) only [↓RA, RB, simprocAttr, hn, a3P (hS10.rd 10 rfl).cells (hS10.rd 11 rfl).cells (hS10.rd 12 rfl).cells]
 refine hS10.ab 0 rfl [(.string ⟨#[101]⟩), w1, w2, w3] rfl (by simp [OC, (hS10.rd 10 rfl).cells.2.1, (hS10.rd 11 rfl).cells.2.1, (hS10.rd 12 rfl).cells.2.1]) oN (by simp) fun H11 hS11 => ?_
 simp only [RT] at hS11
 simp (disch := omega) only [↓RA, RZ, simprocAttr, hn, hS3.aj 1 rfl, hS4.aj 1 rfl, hS5.aj 1 rfl, hS6.aj 1 rfl, hS7.aj 1 rfl, c4u, hS11.aj 0 rfl]
 have h1 : Sl 1 (one I) H11 wv1 (List.replicate 25 1) := hS11.aw 2 rfl (fun _ => rfl)
 have h2 : Sl 1 (one I) H11 wv2 (List.replicate 25 1) := hS11.aw 3 rfl (fun _ => rfl)
 have h3 : Sl 2 Drw.cells H11 d1 [⟨0, 0⟩] := hS11.aw 4 rfl (fun _ => rfl)
 have h4 : Sl 3 Seg.cells H11 g1 [⟨36, 48, d1, [⟨0, 0⟩]⟩] := hS11.aw 5 rfl (fun _ => rfl)
 have h5 : Sl 4 Stp.cells H11 s1 [⟨⟨#[97]⟩, 8, 1, g1, [⟨36, 48, d1, [⟨0, 0⟩]⟩]⟩] := hS11.aw 6 rfl (fun _ => rfl)
 have h6 : Sl 2 Drw.cells H11 d2 [⟨1, 12⟩] := hS11.aw 7 rfl (fun _ => rfl)
 have h7 : Sl 3 Seg.cells H11 g2 [⟨36, 48, d2, [⟨1, 12⟩]⟩] := hS11.aw 8 rfl (fun _ => rfl)
 have h8 : Sl 4 Stp.cells H11 s2 [⟨⟨#[97]⟩, 4, 1, g2, [⟨36, 48, d2, [⟨1, 12⟩]⟩]⟩] := hS11.aw 9 rfl (fun _ => rfl)
 have h9 : Sl 6 Rk.cells H11 w1 (exE wv1 wv2 d1 g1 s1 d2 g2 s2 w1 w2 w3).ranks := hS11.aw 10 rfl (fun _ => rfl)
 have h10 : Sl 5 Dvn.cells H11 w2 (exE wv1 wv2 d1 g1 s1 d2 g2 s2 w1 w2 w3).dvs := hS11.aw 11 rfl (fun _ => rfl)
 have h11 : Sl 5 Cpl.cells H11 w3 (exE wv1 wv2 d1 g1 s1 d2 g2 s2 w1 w2 w3).cpls := hS11.aw 12 rfl (fun _ => rfl)
 refine ⟨wv1, wv2, d1, g1, s1, d2, g2, s2, w1, w2, w3, rfl, ⟨h9, ?_, h10, ?_, h11, by simp [exE], by simp [exE], by simp [exE]⟩, hS11.forget⟩
 ·intro r hr
  simp only [exE, dO, dU, or_false] at hr
  rcases hr with rfl | rfl
  ·exact ⟨h1, by simp⟩
  ·exact ⟨h2, by simp⟩
 ·intro d hd
  simp only [exE, dO, dU, or_false] at hd
  rcases hd with rfl | rfl
  ·exact ⟨h5, fun s hs => by rw [dC.1 hs]; exact ⟨h4, fun g hg => by rw [dC.1 hg]; exact ⟨h3, by simp⟩, by simp⟩, by simp⟩
  ·exact ⟨h8, fun s hs => by rw [dC.1 hs]; exact ⟨h7, fun g hg => by rw [dC.1 hg]; exact ⟨h6, by simp⟩, by simp⟩, by simp⟩
section
variable (w1 w2 d1 g1 s1 d2 g2 s2 w3 w4 w5 : Value)
theorem b7w (off : Nat) (h : off < 2) : qF (exE w1 w2 d1 g1 s1 d2 g2 s2 w3 w4 w5) ⟨[1, 1], 1, off⟩ = 0 := by
 rcases (by omega : off = 0 ∨ off = 1) with rfl | rfl
 ·kernel_rfl
 ·kernel_rfl
theorem b4m : oS (exE w1 w2 d1 g1 s1 d2 g2 s2 w3 w4 w5) [jD [40], (0, 0)] = 0 := by kernel_rfl
theorem b6x : lT (exE w1 w2 d1 g1 s1 d2 g2 s2 w3 w4 w5) ⟨[1, 1], 1, 0⟩ (jJ [jD [40], (0, 0)]) = [(0, 40), (1, 40)] := by
 unfold lT
 rw [b5p]
 kernel_rfl
end
theorem b7a (v : Value) (k : FuncId) : Fn prog 120 [v, I 0, I 1, .func (.func k) #[] #[]] H fun r H' => r = .tuple #[] ∧ St prog H H' [] := by
 refine .cH func120 rfl (by kernel_rfl) (m := 53) rfl fun l hn g0 g1 g2 g3 => ?_
 simp (disch := omega) only [↓RA, RB, simprocAttr, hn, g1]
 refine Wp.al (fun n l H' => l.length = 53 ∧ get l 8 = I 1 ∧ get l 2 = I 1 ∧ St prog H H' []) 1 ?_ ?_
 ·simp (disch := omega) only [RB, RC, simprocAttr, hn, g2]
  exact (sR H)
 rintro n l H9 ⟨hn, g8, g2, hS9⟩
 simp (disch := omega) only [↓RA, RZ, simprocAttr, hn, g8, g2, c1H]
 first | exact hS9 | exact ⟨rfl, hS9⟩
theorem a8m (v : Value) (k : FuncId) : Fn prog 82 [v, I 1, .func (.func k) #[] #[]] H fun r H' => r = .tuple #[] ∧ St prog H H' [] := by
 refine .bF func82 rfl (by kernel_rfl) (m := 63) rfl fun l hn g0 g1 g2 => ?_
 simp (disch := omega) only [↓RA, RB, simprocAttr, hn]
 refine Wp.al (fun n l H' => l.length = 63 ∧ get l 0 = v ∧ get l 1 = I 1 ∧ get l 2 = .func (.func k) #[] #[] ∧ get l 6 = I 20 ∧ get l 7 = I 0 ∧ get l 8 = I 20 ∧ St prog H H' []) 1 ?_ ?_
 ·simp (disch := omega) only [RB, RC, simprocAttr, hn, g0, g1, g2]
  exact (sR H)
 rintro n l H9 ⟨hn, g0, g1, g2, g6, g7, g8, hS9⟩
 simp (disch := omega) only [↓RA, RZ, simprocAttr, hn, g0, g1, g2, g7, g8]
 refine (sR H9).cF (b7a v k) fun H1 hS1 => ?_
 simp (disch := omega) only [↓RA, simprocAttr]
 have hS8 := hS9.trans hS1
 refine Wp.al (fun n l H' => l.length = 63 ∧ get l 1 = I 1 ∧ get l 6 = I 20 ∧ St prog H H' []) 1 ?_ ?_
 ·simp (disch := omega) only [RB, RC, simprocAttr, hn, g1, g6]
  exact hS8
 rintro n l H7 ⟨hn, g1, g6, hS7⟩
 simp (disch := omega) only [↓RA, RZ, simprocAttr, hn, g1, g6, c5q]
 first | exact hS7 | exact ⟨rfl, hS7⟩
def a7q (x : Ct × Int) : List Value := [I x.1.1, I x.1.2, I x.2]
theorem a7k (v : Value) (x : Ct × Int) (hv : Sl 3 a7q H v [x]) (k : FuncId) : Fn prog 38 [v, .func (.func k) #[] #[]] H fun r H' => r = .tuple #[] ∧ St prog H H' [] := by
 have h1 : (([x] : List (Ct × Int)).length : Int) = 1 := rfl
 refine .aG func38 rfl (by kernel_rfl) (m := 9) rfl fun l hn g0 g1 => ?_
 simp (disch := omega) only [↓RA, RZ, simprocAttr, hn, g0, g1, ((sR H).sl hv).len]
 refine (sR H).cF (a8m v k) fun H1 hS1 => ?_
 simp (disch := omega) only [↓RA, RZ, simprocAttr, c4D]
 first | exact hS1 | exact ⟨rfl, hS1⟩
theorem b1W (hG : Glob gH H) : Fn prog 78 [.agg #[I 8, I 1], .agg #[I 8, I 1]] H fun r H' => r = .tuple #[I 0, I 0] ∧ St prog H H' [] := by
 have h := a2j hG (a := (8, 1)) (b := (8, 1)) (by simp [kT]) (by simp [lQ])
 rw [show shF (8, 1) (8, 1) = 0 from by kernel_rfl] at h
 exact h.mono fun _ _ h => ⟨h.1.1, h.2⟩
def a5c (o : Org) (p : Ct) : Ct × Int := (p, (iB o.ranks p.1.toNat).first + p.2 + 0)
theorem a7P (hG : Glob gH H) (o : Org) (ho : o.In H) (rg : Reg) (sv : Value) (hr : rg.In H sv) (kv : Value) (ks : List Nt) (hk : Ks H kv ks) (h0 : rkE o rg ks = 0) (i m : Nat) (hsp : wO o rg ks = [((i : Int), (m : Int))]) (hi : i < o.ranks.length) (hm : m < 1000)
 (hf : (iB o.ranks i).num = 8 ∧ (iB o.ranks i).den = 1 ∧ -1000 ≤ (iB o.ranks i).first ∧ (iB o.ranks i).first ≤ 1000) :
 Fn prog 36 [.agg #[.string o.name, o.rv, o.dv, o.cv], .agg #[sv, .int .u64 rg.cpl, .int .u64 rg.off], kv] H fun r H' => ∃ hv, r = .tuple #[hv, I 0] ∧ St prog H H' [⟨hv, 3, a7q (a5c o ((i : Int), (m : Int)))⟩] := by
 obtain ⟨f1, f2, f3, f4⟩ := hf
 refine .bF func36 rfl (by kernel_rfl) (m := 61) rfl fun l hn g0 g1 g2 => ?_
 simp (disch := omega) only [↓RA, RB, simprocAttr, g0]
 refine (sR H).eNew 4 [(.string o.name), o.rv, o.dv, o.cv] rfl rfl (by simp [OC, ((sR H).sl ho.1).cells.2.1, ((sR H).sl ho.2.2.1).cells.2.1, ((sR H).sl ho.2.2.2.2.1).cells.2.1]) oN fun A1 H1 hS1 => ?_
 simp only [RT] at hS1
 simp (disch := omega) only [↓RA, RB, simprocAttr, g1]
 refine hS1.eNew 3 [sv, (.int .u64 rg.cpl), (.int .u64 rg.off)] rfl rfl (by simp [OC, (hS1.sl hr.1).cells.2.1]) sV fun A2 H2 hS2 => ?_
 simp only [RT] at hS2
 simp (disch := omega) only [↓RA, RZ, simprocAttr, hn, g2, hS2.aj 0 rfl, hS2.aj 1 rfl]
 refine iF (qM (hS2.gl hG) o (ho.ag hS2) rg sv (hr.ag hS2) kv ks (hk.ag hS2)) ?_
 rintro r H3 ⟨pv, rfl, hx, hT1⟩
 have hS3 := hS2.trans hT1
 simp only [RT] at hS3
 rw [h0]
 rw [hsp] at hx
 have hl1 : (([((i : Int), (m : Int))] : List Ct).length : Int) = 1 := rfl
 have hS0 := hS3
 have ho2 := ho.ag hS0
 have hG2 := hS0.gl hG
 simp (disch := omega) only [↓RA, RZ, simprocAttr, hn, ((sR H3).sl hx.1).len]
 have hS4 := (sR H3).nil 2
 simp only [RT] at hS4
 refine Wp.al (fun n l H' => l.length = 61 ∧ get l 3 = (ptr A1 0 4) ∧ get l 6 = (.slice none 0 0) ∧ get l 7 = I 0 ∧ get l 26 = pv ∧ ∃ (j : Nat) (ov : Value), (n + j = 1) ∧ get l 28 = I j ∧ get l 10 = ov ∧ get l 27 = I 1 ∧ St prog H3 H' [⟨ov, 3, ([a5c o ((i : Int), (m : Int))].take j).flatMap a7q⟩]) 1 ?_ ?_
 ·simp (disch := omega) only [RB, RC, simprocAttr, hn]
  exact ⟨0, .slice none 0 0, by omega, rfl, rfl, hS4⟩
 rintro n l H4 ⟨hn, g3, g6, g7, g26, j, ov, hj, g28, sW, g27, hS5⟩
 simp (disch := omega) only [↓RA, RB, simprocAttr, hn, g28, g27]
 refine iA (fun q1 => ?_) (fun q1 => ?_)
 ·have hj0 : j = 0 := by omega
  have hn0 : iB ([((i : Int), (m : Int))] : List Ct) j = ((i : Int), (m : Int)) := by rw [hj0]; rfl
  simp (disch := omega) only [↓RA, RZ, simprocAttr, hn, g26, g28, (hS5.sl hx.1).idx, (hS5.sl hx.1).aj, kD, q1, hn0]
  refine hS5.eNew 2 [I 0, I 0] rfl rfl rfl qO fun A3 H5 hS6 => ?_
  simp only [RT] at hS6
  simp (disch := omega) only [↓RA, RZ, simprocAttr, hn, q1]
  refine hS6.ab 1 rfl [I i, I m] rfl rfl qO (by simp) fun H6 hS7 => ?_
  simp only [RT] at hS7
  simp (disch := omega) only [↓RA, RZ, simprocAttr, hn, g3, ((hS0.var 0 rfl).ag hS7.ag).ld, hS7.ld 1 rfl, (hS7.sl ho2.1).idx, (hS7.sl ho2.1).aj, Rk.cells, q1]
  refine hS7.eNew 6 [(.string ⟨#[]⟩), (.string ⟨#[]⟩), I 0, I 0, I 0, (.slice none 0 0)] rfl rfl rfl xF fun A4 H7 hS8 => ?_
  simp only [RT] at hS8
  simp (disch := omega) only [↓RA, RZ, simprocAttr, hn, q1]
  refine hS8.ab 2 rfl [(.string (iB o.ranks i).name), (.string (iB o.ranks i).tone), I (iB o.ranks i).num, I (iB o.ranks i).den, I (iB o.ranks i).first, (iB o.ranks i).wv] rfl (by simp [OC, (hS8.sl (ho2.2.1 (iB o.ranks i) (iE (by omega))).1).cells.2.1]) xF (by simp) fun H8 hS9 => ?_
  simp only [RT] at hS9
  simp (disch := omega) only [↓RA, RZ, simprocAttr, hn, hS9.aj 2 rfl, tC, q1]
  rw [f1, f2]
  refine hS9.cF (b1W (hS9.gl hG2)) fun H9 hS10 => ?_
  simp (disch := omega) only [↓RA, RZ, simprocAttr, hn, sW, hS10.aj 1 rfl, hS10.ld 2 rfl, hS10.ld 1 rfl, a5b, q1]
  refine hS10.ai [I i, I m, _] c0Q c1I rfl rfl (by simp [Value.cells]) rfl rfl (by decide) (by decide) fun w1 H10 hS11 => ?_
  simp only [RT] at hS11
  simp (disch := omega) only [↓RA, RZ, simprocAttr, hn, q1]
  refine hS11.aq 0 rfl (hS11.rd 3 rfl) c0Q (by rw [hj0]; simp) fun w2 H11 hS12 => ?_
  simp only [RT] at hS12
  simp (disch := omega) only [↓RA, RZ, simprocAttr, hn, g3, g6, g7, g26, g28, g27, q1]
  refine ⟨0, by omega, 1, w2, by omega, by rw [hj0]; rfl, rfl, ?_⟩
  have h9 := hS12.pick (os' := [⟨w2, 3, _⟩]) [0] (by decide) rfl
  rw [hj0] at h9
  exact h9
 have hj1 : j = 1 := by omega
 simp (disch := omega) only [↓RA, RZ, simprocAttr, hn, sW, q1]
 have hnt := (hS5.aw (cel := a7q) (xs := [a5c o ((i : Int), (m : Int))].take j) 0 rfl (fun _ => rfl)).bB
 refine hS5.cF (a7k ov (a5c o ((i : Int), (m : Int))) (by have h := hS5.aw (cel := a7q) (xs := [a5c o ((i : Int), (m : Int))].take j) 0 rfl (fun _ => rfl); rw [hj1] at h; exact h) 79) fun H12 hS13 => ?_
 simp (disch := omega) only [↓RA, RZ, simprocAttr, hn, sW, c4l, q1, hnt]
 refine ⟨ov, rfl, ?_⟩
 have hfin := hS13
 rw [hj1] at hfin
 exact hS0.forget.trans hfin
theorem a1o (v w : Value) (xs ys : List Ct) (hv : Sl 2 kD H v xs) (hw : Sl 2 kD H w ys) (hl : xs.length < 1000000000) (hl2 : ys.length < 1000000000) :
 Fn prog 16 [v, w] H fun r H' => r = .bool (decide (xs = ys)) ∧ St prog H H' [] := by
 refine .aG func16 rfl (by kernel_rfl) (m := 26) rfl fun l hn g0 g1 => ?_
 simp (disch := omega) only [↓RA, RZ, simprocAttr, hn, g0, g1, ((sR H).sl hv).len, ((sR H).sl hw).len]
 refine iA (fun h1 => ?_) (fun h1 => ?_)
 ·simp (disch := omega) only [↓RA, RZ, simprocAttr, hn, b9O, h1]
  exact ⟨by rw [decide_eq_false]; intro e; rw [e] at h1; exact h1 rfl, (sR H)⟩
 simp (disch := omega) only [↓RA, RZ, simprocAttr, hn, g0, ((sR H).sl hv).len, h1]
 refine Wp.al (fun n l H' => l.length = 26 ∧ get l 0 = v ∧ get l 1 = w ∧ get l 12 = I xs.length ∧ ∃ (j : Nat), (n + j = xs.length ∧ ∀ q, q < j → iB xs q = iB ys q) ∧ get l 13 = I j ∧ St prog H H' []) xs.length ?_ ?_
 ·simp (disch := omega) only [RB, RC, simprocAttr, hn, g0, g1]
  exact ⟨0, ⟨by omega, fun q hq => absurd hq (dz _)⟩, rfl, (sR H)⟩
 rintro n l H1 ⟨hn, g0, g1, g12, j, ⟨hj,hz⟩, g13, hS1⟩
 simp (disch := omega) only [↓RA, RB, simprocAttr, hn, g12, g13]
 refine iA (fun q1 => ?_) (fun q1 => ?_)
 ·simp (disch := omega) only [↓RA, RZ, simprocAttr, hn, g13, q1]
  refine Wp.drw kE (by kernel_rfl) ?_
  simp (disch := omega) only [↓RA, RZ, simprocAttr, hn, g0, g1, (hS1.sl hv).idx, (hS1.sl hv).aj, kD, (hS1.sl hw).idx, (hS1.sl hw).aj]
  refine iA (fun q2 => ?_) (fun q2 => ?_)
  ·simp (disch := omega) only [↓RA, RZ, simprocAttr, hn, b9O, q2]
   refine ⟨?_, hS1⟩
   rw [decide_eq_false]
   intro e
   rw [e] at q2
   exact q2 ⟨rfl, rfl⟩
  have q3 := dy.1 q2
  simp (disch := omega) only [↓RA, RZ, simprocAttr, hn, g0, g1, g12, g13, q2]
  exact ⟨n - 1, by omega, j + 1, ⟨by omega, fun q hq => by rcases dg.1 hq with e | e; (· exact hz q e); (· rw [e]; exact gm q3.1 q3.2)⟩, by simp, hS1⟩
 simp (disch := omega) only [↓RA, RZ, simprocAttr, hn, b9O, q1]
 exact ⟨by rw [decide_eq_true]; exact wI (by omega) fun q hq => hz q (by omega), hS1⟩
theorem b3p (a b c : Int) : iK prog (part 70 #[I a, I b, I c] 0) = some (.agg #[I a, I b]) := by kernel_rfl
theorem b9u (a b c : Int) : iK prog (part 3 #[I a, I b, I c] 2) = some (I c) := by kernel_rfl
theorem c1P (x y : Ct × Int) : iK prog (Op.equalIn (9999 + 1) 94 (.agg [I x.1.1, I x.1.2, I x.2].toArray) (.agg [I y.1.1, I y.1.2, I y.2].toArray)) = some (decide (x = y)) := by
 have h52 : iK prog (Op.equalIn (9997 + 2) 70 (.agg [I x.1.1, I x.1.2].toArray) (.agg [I y.1.1, I y.1.2].toArray)) = some ((List.range [I x.1.1, I x.1.2].length).all fun j => eqC ([I x.1.1, I x.1.2].getD j undef) ([I y.1.1, I y.1.2].getD j undef)) :=
  xN 9997 (by kernel_rfl) (by kernel_rfl) (by kernel_rfl) rfl (by kernel_rfl)
 rw [a6f (fs := sT prog 94) (by kernel_rfl) (by kernel_rfl) (fun f => if f.offset = 0 then decide (x.1 = y.1) else decide (x.2 = y.2))]
 ·congr 1
  have hfl : (sT prog 94).map (·.offset) = [0, 2] := by kernel_rfl
  have e : (sT prog 94).all (fun f => if f.offset = 0 then decide (x.1 = y.1) else decide (x.2 = y.2)) = ((sT prog 94).map (·.offset)).all fun n => if n = 0 then decide (x.1 = y.1) else decide (x.2 = y.2) := by
   rw [List.all_map]
   rfl
  rw [e, hfl, dR]
  simp [Prod.ext_iff]
 ·intro f hf
  have hfs : (sT prog 94).map (fun f => (f.name != "_", f.type, f.offset)) = [(true, 70, 0), (true, 3, 2)] := by kernel_rfl
  have hm : (f.name != "_", f.type, f.offset) ∈ [(true, 70, 0), (true, 3, 2)] := by
   rw [← hfs]
   exact fE hf
  simp only [dO, dU, or_false, ga] at hm
  rcases hm with ⟨h1, h2, h3⟩ | ⟨h1, h2, h3⟩
  ·refine ⟨by simpa using h1, ?_⟩
   rw [h2, h3, if_pos rfl, iG, b3p, cT, iG, b3p, cT]
   refine h52.trans ?_
   congr 1
   show ((x.1.1 == y.1.1) && ((x.1.2 == y.1.2) && true)) = _
   rw [dR]
   first | done | simp [Prod.ext_iff]
  ·refine ⟨by simpa using h1, ?_⟩
   rw [h2, h3, if_neg (by decide), iG, b9u, cT, iG, b9u, cT]
   exact eq1 (P := prog) (t := 3) 9998 (by kernel_rfl)
theorem c2X (x y : Ct × Int) (t2 : TypeId) (cx cy : Bool) : kR prog .neq 94 t2 cx cy (.agg #[I x.1.1, I x.1.2, I x.2]) (.agg #[I y.1.1, I y.1.2, I y.2]) = some (.bool (decide (¬ x = y))) := by
 have h := a6l (t2 := t2) (cx := cx) (cy := cy) (decide (x = y)) (by kernel_rfl) (by rfl) (by rfl) (c1P x y)
 rw [h]
 simp
theorem a8E (v w : Value) (xs ys : List (Ct × Int)) (hv : Sl 3 a7q H v xs) (hw : Sl 3 a7q H w ys) (hl : xs.length < 1000000000) (hl2 : ys.length < 1000000000) :
 Fn prog 40 [v, w] H fun r H' => r = .bool (decide (xs = ys)) ∧ St prog H H' [] := by
 refine .aG func40 rfl (by kernel_rfl) (m := 26) rfl fun l hn g0 g1 => ?_
 simp (disch := omega) only [↓RA, RZ, simprocAttr, hn, g0, g1, ((sR H).sl hv).len, ((sR H).sl hw).len]
 refine iA (fun h1 => ?_) (fun h1 => ?_)
 ·simp (disch := omega) only [↓RA, RZ, simprocAttr, hn, c0g, h1]
  exact ⟨by rw [decide_eq_false]; intro e; rw [e] at h1; exact h1 rfl, (sR H)⟩
 simp (disch := omega) only [↓RA, RZ, simprocAttr, hn, g0, ((sR H).sl hv).len, h1]
 refine Wp.al (fun n l H' => l.length = 26 ∧ get l 0 = v ∧ get l 1 = w ∧ get l 12 = I xs.length ∧ ∃ (j : Nat), (n + j = xs.length ∧ ∀ q, q < j → iB xs q = iB ys q) ∧ get l 13 = I j ∧ St prog H H' []) xs.length ?_ ?_
 ·simp (disch := omega) only [RB, RC, simprocAttr, hn, g0, g1]
  exact ⟨0, ⟨by omega, fun q hq => absurd hq (dz _)⟩, rfl, (sR H)⟩
 rintro n l H1 ⟨hn, g0, g1, g12, j, ⟨hj,hz⟩, g13, hS1⟩
 simp (disch := omega) only [↓RA, RB, simprocAttr, hn, g12, g13]
 refine iA (fun q1 => ?_) (fun q1 => ?_)
 ·have hne := fun t2 cx cy => c2X (iB xs j) (iB ys j) t2 cx cy
  simp (disch := omega) only [↓RA, RZ, simprocAttr, hn, g13, q1]
  refine Wp.drw kE (by kernel_rfl) ?_
  simp (disch := omega) only [↓RA, RZ, simprocAttr, hn, g0, g1, (hS1.sl hv).idx, (hS1.sl hv).aj, a7q, (hS1.sl hw).idx, (hS1.sl hw).aj, hne]
  refine iA (fun q2 => ?_) (fun q2 => ?_)
  ·simp (disch := omega) only [↓RA, RZ, simprocAttr, hn, c0g, q2]
   refine ⟨?_, hS1⟩
   rw [decide_eq_false]
   intro e
   rw [e] at q2
   exact q2 rfl
  have q3 := dy.1 q2
  simp (disch := omega) only [↓RA, RZ, simprocAttr, hn, g0, g1, g12, g13, q2]
  exact ⟨n - 1, by omega, j + 1, ⟨by omega, fun q hq => by rcases dg.1 hq with e | e; (· exact hz q e); (· rw [e]; exact q3)⟩, by simp, hS1⟩
 simp (disch := omega) only [↓RA, RZ, simprocAttr, hn, c0g, q1]
 exact ⟨by rw [decide_eq_true]; exact wI (by omega) fun q hq => hz q (by omega), hS1⟩
theorem a3i (o : Org) (r : Reg) (l : List Ct) : kC o r l = dd (a7L ((c0j a7L o r l).flatMap (c0W a7L o r))) := by
 rw [← b5p]
 rfl
section
variable (w1 w2 d1 g1 s1 d2 g2 s2 w3 w4 w5 : Value)
theorem a2k (off : Nat) (h : off < 2) : rkE (exE w1 w2 d1 g1 s1 d2 g2 s2 w3 w4 w5) ⟨[1, 1], 1, off⟩ [jD [40], (0, 0)] = 0 := by
 unfold rkE
 rw [b7w _ _ _ _ _ _ _ _ _ _ _ off h, if_neg (by decide), b4m]
theorem b4H : a5e (exE w1 w2 d1 g1 s1 d2 g2 s2 w3 w4 w5) ⟨[1, 1], 1, 0⟩ [jD [40], (0, 0)] = [(0, 40), (1, 40)] := by
 unfold a5e
 rw [a2k _ _ _ _ _ _ _ _ _ _ _ 0 (by decide), if_pos rfl, b6x]
theorem b5Y : wO (exE w1 w2 d1 g1 s1 d2 g2 s2 w3 w4 w5) ⟨[1, 1], 1, 0⟩ [jD [40], (0, 0)] = [(0, 4), (1, 16)] := by
 unfold wO
 rw [a2k _ _ _ _ _ _ _ _ _ _ _ 0 (by decide), if_pos rfl, a3i]
 kernel_rfl
theorem b3U : wO (exE w1 w2 d1 g1 s1 d2 g2 s2 w3 w4 w5) ⟨[1, 1], 1, 1⟩ [jD [40], (0, 0)] = [(1, 16)] := by
 unfold wO
 rw [a2k _ _ _ _ _ _ _ _ _ _ _ 1 (by decide), if_pos rfl, a3i]
 kernel_rfl
end
theorem a4p (hG : Glob gH H) : Fn prog 41 [] H fun r H' => ∃ o : Org, r = .agg #[.string o.name, o.rv, o.dv, o.cv] ∧ (∃ w1 w2 d1 g1 s1 d2 g2 s2 w3 w4 w5, o = exE w1 w2 d1 g1 s1 d2 g2 s2 w3 w4 w5) ∧ o.In H' ∧ St prog H H' [] := by
 obtain ⟨h1, v, H1, h2, w1, w2, d1, g1, s1, d2, g2, s2, w3, w4, w5, h3, h4, h5⟩ := a6S hG
 exact ⟨h1, v, H1, h2, _, h3, ⟨w1, w2, d1, g1, s1, d2, g2, s2, w3, w4, w5, rfl⟩, h4, h5⟩
theorem a1X (hG : Glob gH H) : Fn prog 10 [] H fun r H' => r = .bool true ∧ St prog H H' [] := by
 refine .cM func10 rfl (by kernel_rfl) (m := 80) rfl fun l hn => ?_
 simp (disch := omega) only [↓RA, RZ, simprocAttr]
 refine iF (a4p ((sR H).gl hG)) ?_
 rintro r H1 ⟨o, rfl, ⟨v1, v2, v3, v4, v5, v6, v7, v8, v9, v10, v11, hoe⟩, ho, hT1⟩
 have hS1 := (sR H).trans hT1
 simp only [RT] at hS1
 have q1 : rkE o ⟨[1, 1], 1, 0⟩ [jD [40], (0, 0)] = 0 := by subst hoe; exact a2k _ _ _ _ _ _ _ _ _ _ _ 0 (by decide)
 have q2 : rkE o ⟨[1, 1], 1, 1⟩ [jD [40], (0, 0)] = 0 := by subst hoe; exact a2k _ _ _ _ _ _ _ _ _ _ _ 1 (by decide)
 have q3 : a5e o ⟨[1, 1], 1, 0⟩ [jD [40], (0, 0)] = [(0, 40), (1, 40)] := by subst hoe; exact b4H _ _ _ _ _ _ _ _ _ _ _
 have q4 : wO o ⟨[1, 1], 1, 0⟩ [jD [40], (0, 0)] = [(0, 4), (1, 16)] := by subst hoe; exact b5Y _ _ _ _ _ _ _ _ _ _ _
 have q5 : wO o ⟨[1, 1], 1, 1⟩ [jD [40], (0, 0)] = [(1, 16)] := by subst hoe; exact b3U _ _ _ _ _ _ _ _ _ _ _
 have q6 : o.ranks.length = 2 ∧ (iB o.ranks 1).num = 8 ∧ (iB o.ranks 1).den = 1 ∧ (iB o.ranks 1).first = 36 := by subst hoe; exact ⟨rfl, rfl, rfl, rfl⟩
 clear hoe
 have hG1 : ∀ z ∈ [(40 : Int)], isN z := fun z hz => by rw [dC.1 hz]; exact ⟨by decide, by decide⟩
 have hS0 := hS1
 have hG2 := hS0.gl hG
 simp (disch := omega) only [↓RA, RZ, simprocAttr]
 refine (sR H1).eNew 4 [(.string ⟨#[]⟩), (.slice none 0 0), (.slice none 0 0), (.slice none 0 0)] rfl rfl rfl oN fun A1 H2 hS2 => ?_
 simp only [RT] at hS2
 simp (disch := omega) only [↓RA, RB, simprocAttr, hn]
 refine hS2.ab 0 rfl [(.string o.name), o.rv, o.dv, o.cv] rfl (by simp [OC, (hS2.sl ho.1).cells.2.1, (hS2.sl ho.2.2.1).cells.2.1, (hS2.sl ho.2.2.2.2.1).cells.2.1]) oN (by simp) fun H3 hS3 => ?_
 simp only [RT] at hS3
 simp (disch := omega) only [↓RA, RB, simprocAttr]
 refine hS3.ai [I 40] a0S a6n rfl rfl (by simp [Value.cells]) rfl rfl (by decide) (by decide) fun w1 H4 hS4 => ?_
 simp only [RT] at hS4
 simp (disch := omega) only [↓RA, RZ, simprocAttr, hn]
 refine hS4.cF (wA [40] hG1 w1 (hS4.aw 1 rfl (fun _ => rfl)) (by simp)) fun H5 hS5 => ?_
 have hKo : ∀ x ∈ ([jD [40], (0, 0)] : List Nt), Nt.Ok x := by
  intro x hx
  simp only [dO, dU, or_false] at hx
  rcases hx with rfl | rfl <;> exact ⟨by decide, by decide⟩
 have hRo : (⟨[1, 1], 1, 0⟩ : Reg).Ok := ⟨by decide, by decide, by decide, by decide⟩
 have hRo1 : (⟨[1, 1], 1, 1⟩ : Reg).Ok := ⟨by decide, by decide, by decide, by decide⟩
 simp (disch := omega) only [↓RA, RZ, simprocAttr, hn]
 refine hS5.eNew 2 [(.int .u64 0), (.int .u64 0)] rfl rfl rfl lB fun A2 H6 hS6 => ?_
 simp only [RT] at hS6
 simp (disch := omega) only [↓RA, RB, simprocAttr, hn]
 refine hS6.ab 2 rfl [(.int .u64 (jD [40]).1), (.int .u64 (jD [40]).2)] rfl rfl lB (by simp) fun H7 hS7 => ?_
 simp only [RT] at hS7
 simp (disch := omega) only [↓RA, RZ, simprocAttr, hn, hS7.aj 2 rfl, b3C]
 refine hS7.ai [(.int .u64 (jD [40]).1), (.int .u64 (jD [40]).2), (.int .u64 0), (.int .u64 0)] b3j c1x rfl rfl (by simp [Value.cells]) rfl rfl (by decide) (by decide) fun w2 H8 hS8 => ?_
 simp only [RT] at hS8
 simp (disch := omega) only [↓RA, RB, simprocAttr, hn]
 refine hS8.ai [(.int .u64 1), (.int .u64 1)] c1B c2h rfl rfl (by simp [Value.cells]) rfl rfl (by decide) (by decide) fun w3 H9 hS9 => ?_
 simp only [RT] at hS9
 simp (disch := omega) only [↓RA, RZ, simprocAttr, hn, b5y (hS9.rd 4 rfl).cells]
 refine hS9.eNew 3 [(.slice none 0 0), (.int .u64 0), (.int .u64 0)] rfl rfl rfl sV fun A3 H10 hS10 => ?_
 simp only [RT] at hS10
 simp (disch := omega) only [↓RA, RB, simprocAttr, hn]
 refine hS10.ab 5 rfl [w3, (.int .u64 1), (.int .u64 0)] rfl (by simp [OC, (hS10.rd 4 rfl).cells.2.1]) sV (by simp) fun H11 hS11 => ?_
 simp only [RT] at hS11
 simp (disch := omega) only [↓RA, RZ, simprocAttr, hn, hS11.aj 0 rfl, hS11.aj 5 rfl]
 have hS2 := hS11
 refine iF (xR (hS11.gl hG2) o (ho.ag hS11) ⟨[1, 1], 1, 0⟩ w3 ⟨hS11.aw 4 rfl (fun _ => rfl), hRo⟩ w2 [jD [40], (0, 0)] ⟨hS11.aw 3 rfl (fun _ => rfl), by simp, hKo⟩) ?_
 rintro r H12 ⟨cv, rfl, hcx, hT3⟩
 have hS12 := hS11.trans hT3
 simp only [RT] at hS12
 rw [q3] at hcx
 rw [q1]
 have hcx2 := hcx.step (hS2.aE (H' := H12))
 obtain ⟨X, hBX, hS13⟩ := hS12.ay (os := [⟨ptr A1 0 4, 0, _⟩, ⟨w1, 1, _⟩, ⟨ptr A2 0 2, 0, _⟩, ⟨w2, 2, _⟩, ⟨w3, 1, _⟩, ⟨ptr A3 0 3, 0, _⟩])
 simp (disch := omega) only [↓RA, RZ, simprocAttr, hn, hS13.aj 0 rfl, hS13.aj 5 rfl]
 have hS3 := hS13
 refine iF (qM ((hS12.aa hBX hS13).gl hG2) o (ho.ag (hS12.aa hBX hS13)) ⟨[1, 1], 1, 0⟩ w3 ⟨hS13.aw 4 rfl (fun _ => rfl), hRo⟩ w2 [jD [40], (0, 0)] ⟨hS13.aw 3 rfl (fun _ => rfl), by simp, hKo⟩) ?_
 rintro r H13 ⟨pv, rfl, hpx, hT4⟩
 have hS14 := hS13.trans hT4
 simp only [RT] at hS14
 rw [q4] at hpx
 rw [q1]
 have hcx3 := hcx2.step (hS14.kept hBX)
 have hpx2 := hpx.step (hS3.aE (H' := H13))
 obtain ⟨Y, hBY, hS15⟩ := hS14.ay (os := [⟨ptr A1 0 4, 0, _⟩, ⟨w1, 1, _⟩, ⟨ptr A2 0 2, 0, _⟩, ⟨w2, 2, _⟩, ⟨w3, 1, _⟩, ⟨ptr A3 0 3, 0, _⟩])
 simp (disch := omega) only [↓RA, RZ, simprocAttr, hn]
 refine hS15.ab 5 rfl [(.int .u64 1)] rfl rfl b6G (by simp) fun H14 hS16 => ?_
 simp only [RT] at hS16
 simp (disch := omega) only [↓RA, RZ, simprocAttr, hn, hS16.aj 0 rfl, hS16.aj 5 rfl]
 refine iF (a7P ((hS12.aa hBX (hS14.aa hBY hS16)).gl hG2) o (ho.ag (hS12.aa hBX (hS14.aa hBY hS16))) ⟨[1, 1], 1, 1⟩ w3 ⟨hS16.aw 4 rfl (fun _ => rfl), hRo1⟩ w2 [jD [40], (0, 0)] ⟨hS16.aw 3 rfl (fun _ => rfl), by simp, hKo⟩ q2 1 16 q5 (by rw [q6.1]; decide) (by decide) ⟨q6.2.1, q6.2.2.1, by rw [q6.2.2.2]; decide, by rw [q6.2.2.2]; decide⟩) ?_
 rintro r H15 ⟨dv, rfl, hT5⟩
 have hS17 := hS16.trans hT5
 simp only [RT] at hS17
 have hcx4 := hcx3.step (hS17.kept hBY)
 have hpx4 := hpx2.step (hS17.kept hBY)
 simp (disch := omega) only [↓RA, RZ, simprocAttr, hn, tP]
 refine hS17.ai [I 0, I 40, I 1, I 40] a0z b2n rfl rfl (by simp [Value.cells]) rfl rfl (by decide) (by decide) fun w4 H16 hS18 => ?_
 simp only [RT] at hS18
 simp (disch := omega) only [↓RA, RZ, simprocAttr, hn]
 refine hS18.cF (a1o cv w4 [(0, 40), (1, 40)] [(0, 40), (1, 40)] (hcx3.step (hS18.kept hBY)).1 (hS18.aw 7 rfl lI) (by simp) (by simp)) fun H17 hS19 => ?_
 rw [decide_eq_true rfl]
 simp (disch := omega) only [↓RA, RZ, simprocAttr, hn, a1m]
 refine hS19.ai [I 0, I 4, I 1, I 16] b0U c3Q rfl rfl (by simp [Value.cells]) rfl rfl (by decide) (by decide) fun w5 H18 hS20 => ?_
 simp only [RT] at hS20
 simp (disch := omega) only [↓RA, RZ, simprocAttr, hn]
 refine hS20.cF (b5k pv w5 [(0, 4), (1, 16)] [(0, 4), (1, 16)] (hpx2.step (hS20.kept hBY)).1 (hS20.aw 8 rfl lI) (by simp) (by simp)) fun H19 hS21 => ?_
 rw [decide_eq_true rfl]
 simp (disch := omega) only [↓RA, RZ, simprocAttr, hn, a1m, a5b]
 refine hS21.ai [I 1, I 16, I 52] c0Q c1I rfl rfl (by simp [Value.cells]) rfl rfl (by decide) (by decide) fun w6 H20 hS22 => ?_
 simp only [RT] at hS22
 simp (disch := omega) only [↓RA, RZ, simprocAttr, hn]
 have hhe : [a5c o (1, 16)] = [((1, 16), (52 : Int))] := by
  unfold a5c
  rw [show ((1, 16) : Ct).1.toNat = 1 from rfl, q6.2.2.2]
  rfl
 refine hS22.cF (a8E dv w6 [a5c o (1, 16)] [((1, 16), 52)] (hS22.aw 6 rfl (fun _ => rfl)) (hS22.aw 9 rfl (fun _ => rfl)) (by simp) (by simp)) fun H21 hS23 => ?_
 rw [decide_eq_true hhe]
 simp (disch := omega) only [↓RA, RZ, simprocAttr, hn, c4X]
 exact hS0.forget.trans (hS12.aa hBX (hS14.aa hBY hS23)).forget
theorem uP (hG : Glob gH H) (o : Org) (ho : o.In H) (hoe : organE o = 0) (k1 : o.cpls.length ≤ 3) (k2 : o.dvs.length ≤ 3) (k3 : ∀ j, j < o.dvs.length → (iB o.dvs j).stops.length ≤ 3) (kv : Value) (ks : List Nt) (hk : Ks H kv ks) (hkE : oS o ks = 0) (b : Nat → Nat) (hb : ∀ i, b i < 256) (AO AK AE : Nat)
 (hO : Var H AO 4 [.string o.name, o.rv, o.dv, o.cv]) (hK : Var H AK 1 [kv]) :
 Fn prog 22 [.agg #[.int .u8 (b 0), .int .u8 (b 1), .int .u8 (b 2), .int .u8 (b 3), .int .u8 (b 4)], ptr AO 0 4, ptr AK 0 1, ptr AE 0 1] H fun r H' => Slx 2 kD H' (fun B => H.length ≤ B) r (kC o (jI o b) (jJ ks)) ∧ St prog H H' [] := by
 have hrg := yI b hoe
 have hok := zL (o := o) hb k2
 have hrk : rkE o (jI o b) ks = 0 := by unfold rkE; rw [if_neg (by rw [hrg]; simp)]; exact hkE
 have hsp : wO o (jI o b) ks = kC o (jI o b) (jJ ks) := by unfold wO; rw [if_pos hrk]
 refine .cH func22 rfl (by kernel_rfl) (m := 21) rfl fun l hn g0 g1 g2 g3 => ?_
 simp (disch := omega) only [↓RA, RB, simprocAttr, g0]
 refine (sR H).eNew 5 [(.int .u8 (b 0)), (.int .u8 (b 1)), (.int .u8 (b 2)), (.int .u8 (b 3)), (.int .u8 (b 4))] rfl rfl rfl b7W fun A1 H1 hS1 => ?_
 simp only [RT] at hS1
 simp (disch := omega) only [↓RA, RB, simprocAttr]
 refine Wp.aS kE [(0, 4), (4, 0)] (by kernel_rfl) (by kernel_rfl) ?_
 simp (disch := omega) only [↓RA, RZ, simprocAttr, hn, g1, (hO.ag hS1.ag).aj, hS1.aj 0 rfl]
 refine iF (vK o (ho.ag hS1) k1 k2 k3 b hb) ?_
 rintro r H2 ⟨sv, rfl, hT1⟩
 have hS2 := hS1.trans hT1
 simp only [RT] at hS2
 simp (disch := omega) only [↓RA, RZ, simprocAttr, hn, g2, (hK.ag hS2.ag).ld]
 have hSd := hS2
 refine iF (qM (hS2.gl hG) o (ho.ag hS2) (jI o b) sv ⟨hS2.aw 1 rfl (fun _ => rfl), hok⟩ kv ks (hk.ag hS2)) ?_
 rintro r H3 ⟨pv, rfl, hx, hT2⟩
 have hS3 := hS2.trans hT2
 simp only [RT] at hS3
 rw [hsp] at hx
 rw [hrk]
 simp (disch := omega) only [↓RA, RZ, simprocAttr, hn, g1, g2, (hO.ag hS2.ag).aj, (hK.ag hS1.ag).ld, c5c]
 refine ⟨⟨hx.1, fun B h => ?_⟩, hS3.forget⟩
 have := hx.2 B h
 have : H.length ≤ _ := hSd.len
 omega
theorem a5s (hG : Glob gH H) (p : Pln) (hp : p.In H) (hk : p.Ok) (b : Nat → Nat) (hb : ∀ i, b i < 256) (c : Nat → Nat) (hc : ∀ i, c i < 65536) :
 Fn prog 5 [.agg #[p.rv, p.dv, p.cv], .agg #[.int .u8 (b 0), .int .u8 (b 1), .int .u8 (b 2), .int .u8 (b 3), .int .u8 (b 4)], .agg #[.int .u16 (c 0), .int .u16 (c 1), .int .u16 (c 2)]] H fun r H' => r = .bool true ∧ St prog H H' [] := by
 refine .bF func5 rfl (by kernel_rfl) (m := 139) rfl fun l hn g0 g1 g2 => ?_
 simp (disch := omega) only [↓RA, RB, simprocAttr, g0]
 refine (sR H).eNew 3 [p.rv, p.dv, p.cv] rfl rfl (by simp [((sR H).sl hp.1).cells.2.1, ((sR H).sl hp.2.1).cells.2.1, ((sR H).sl hp.2.2.2.1).cells.2.1]) b8F fun A1 H1 hS1 => ?_
 simp only [RT] at hS1
 simp (disch := omega) only [↓RA, RB, simprocAttr, g1]
 refine hS1.eNew 5 [(.int .u8 (b 0)), (.int .u8 (b 1)), (.int .u8 (b 2)), (.int .u8 (b 3)), (.int .u8 (b 4))] rfl rfl rfl b7W fun A2 H2 hS2 => ?_
 simp only [RT] at hS2
 simp (disch := omega) only [↓RA, RB, simprocAttr, g2]
 refine hS2.eNew 3 [(.int .u16 (c 0)), (.int .u16 (c 1)), (.int .u16 (c 2))] rfl rfl rfl c1k fun A3 H3 hS3 => ?_
 simp only [RT] at hS3
 simp (disch := omega) only [↓RA, RZ, simprocAttr]
 refine hS3.cF (a1X (hS3.gl hG)) fun H4 hS4 => ?_
 simp (disch := omega) only [↓RA, RZ, simprocAttr, hn, hS4.aj 0 rfl]
 refine hS4.cF (b6H p (hp.ag hS4)) fun H5 hS5 => ?_
 simp (disch := omega) only [↓RA, RZ, simprocAttr, hn]
 refine jQ (fun h1 => ?_) (fun h1 => ?_)
 ·simp (disch := omega) only [↓RA, RZ, simprocAttr]
  refine hS5.cF (a1X (hS5.gl hG)) fun H6 hS6 => ?_
  simp (disch := omega) only [↓RA, RZ, simprocAttr, hn, tR5, h1]
  exact hS6.forget
 have hf : uT p = true := by simpa using h1
 simp (disch := omega) only [↓RA, RZ, simprocAttr, hn, hS5.aj 0 rfl, h1]
 refine iF (b1C (hS5.gl hG) p (hp.ag hS5) hk hf) ?_
 rintro r H7 ⟨o, rfl, ho, hm, hT4⟩
 have hS7 := hS5.trans hT4
 simp only [RT] at hS7
 have hS0 := hS7
 have hG2 := hS0.gl hG
 have hoe := hm.ok.organE
 have hrg := yI b hoe
 have hf0 := Org.bk hoe
 obtain ⟨k1, k2, k3⟩ := hm.small hf
 have hok := zL (o := o) hb k2
 have hkl := rQ o c
 have hkO := a6Y hf0 c
 have hkE := a7T hoe c
 simp (disch := omega) only [↓RA, RZ, simprocAttr]
 refine (sR H7).eNew 4 [(.string ⟨#[]⟩), (.slice none 0 0), (.slice none 0 0), (.slice none 0 0)] rfl rfl rfl oN fun A4 H8 hS8 => ?_
 simp only [RT] at hS8
 simp (disch := omega) only [↓RA, RB, simprocAttr, hn, h1]
 refine hS8.ab 0 rfl [(.string o.name), o.rv, o.dv, o.cv] rfl (by simp [OC, (hS8.sl ho.1).cells.2.1, (hS8.sl ho.2.2.1).cells.2.1, (hS8.sl ho.2.2.2.2.1).cells.2.1]) oN (by simp) fun H9 hS9 => ?_
 simp only [RT] at hS9
 simp (disch := omega) only [↓RA, RB, simprocAttr, h1]
 refine Wp.aS kE [(3, 0), (4, 0)] (by kernel_rfl) (by kernel_rfl) ?_
 simp (disch := omega) only [↓RA, RZ, simprocAttr, hn, hS9.aj 0 rfl, ((hS0.var 1 rfl).ag hS9.ag).aj]
 have hD := vK o (ho.ag hS9) k1 k2 k3 b hb
 generalize hrgE : jI o b = rg at hrg hok hD
 refine iF (hD) ?_
 rintro r H10 ⟨sv, rfl, hT5⟩
 have hS10 := hS9.trans hT5
 simp only [RT] at hS10
 simp (disch := omega) only [↓RA, RZ, simprocAttr, hn, hS10.aj 0 rfl, ((hS0.var 2 rfl).ag hS10.ag).aj]
 have hP := a8b o (ho.ag hS10) hf0 c hc
 generalize hksE : oY o c = ks at hkl hkO hkE hP
 refine iF (hP.tr) ?_
 rintro r H11 ⟨-, hT6⟩
 have hS11 := hS10.trans hT6
 simp only [RT] at hS11
 obtain ⟨kv, rfl⟩ : ∃ w, w = r := ⟨r, rfl⟩
 simp (disch := omega) only [↓RA, RZ, simprocAttr]
 refine hS11.eNew 3 [(.slice none 0 0), (.int .u64 0), (.int .u64 0)] rfl rfl rfl sV fun A5 H12 hS12 => ?_
 simp only [RT] at hS12
 simp (disch := omega) only [↓RA, RZ, simprocAttr]
 refine hS12.eNew 1 [(.slice none 0 0)] rfl rfl rfl c1e fun A6 H13 hS13 => ?_
 simp only [RT] at hS13
 simp (disch := omega) only [↓RA, RB, simprocAttr, hn]
 refine hS13.ab 3 rfl [sv, (.int .u64 rg.cpl), (.int .u64 rg.off)] rfl (by simp [OC, (hS13.rd 1 rfl).cells.2.1]) sV (by simp) fun H14 hS14 => ?_
 simp only [RT] at hS14
 simp (disch := omega) only [↓RA, RB, simprocAttr, hn]
 refine hS14.ab 4 rfl [kv] (by rw [(hS14.rd 2 rfl).cells.1]) (by simp [(hS14.rd 2 rfl).cells.2.1]) c1e (by simp) fun H15 hS15 => ?_
 simp only [RT] at hS15
 simp (disch := omega) only [↓RA, RZ, simprocAttr, hn, hS9.aj 0 rfl, hS15.aj 0 rfl, ((hS0.var 2 rfl).ag hS9.ag).aj, hS15.aj 3 rfl, hS15.ld 4 rfl]
 have hrk : rkE o rg ks = 0 := by unfold rkE; rw [if_neg (by rw [hrg]; simp)]; exact hkE
 have hrl : rg.stops.length = o.dvs.length := (vL hrg).2
 have hplc := zR hkO hkE
 have hpll := yL hkE
 have hsp : wO o rg ks = kC o rg (jJ ks) := by unfold wO; rw [if_pos hrk]
 have hSp := hS15
 refine iF (qM (hS15.gl hG2) o (ho.ag hS15) rg sv ⟨hS15.aw 1 rfl (fun _ => rfl), hok⟩ kv ks ⟨hS15.aw 2 rfl (fun _ => rfl), by omega, hkO⟩) ?_
 rintro r H16 ⟨pv, rfl, hp0, hT7⟩
 have hS16 := hS15.trans hT7
 simp only [RT] at hS16
 rw [hrk]
 rw [hsp] at hp0
 have hp1 := hp0.step (hSp.aE (H' := H16))
 obtain ⟨X1, hBX1, hS17⟩ := hS16.ay (os := [⟨ptr A4 0 4, 0, _⟩, ⟨sv, 1, _⟩, ⟨kv, 2, _⟩, ⟨ptr A5 0 3, 0, _⟩, ⟨ptr A6 0 1, 0, _⟩])
 simp (disch := omega) only [↓RA, RZ, simprocAttr, hn]
 refine hS17.eNew 1 [I 0] rfl rfl rfl c0Z fun A7 H17 hS18 => ?_
 simp only [RT] at hS18
 simp (disch := omega) only [↓RA, RB, simprocAttr, hn]
 refine hS18.ab 5 rfl [I 0] rfl rfl c0Z (by simp) fun H18 hS19 => ?_
 simp only [RT] at hS19
 simp (disch := omega) only [↓RA, RZ, simprocAttr, hn, hS19.ld 5 rfl, ((hS0.var 1 rfl).ag (hS16.aa hBX1 hS19).ag).ld, mP]
 have hC := uP ((hS16.aa hBX1 hS19).gl hG2) o (ho.ag (hS16.aa hBX1 hS19)) hoe k1 k2 k3 kv ks ⟨hS19.aw 2 rfl (fun _ => rfl), by omega, hkO⟩ hkE (gS b) (c3b hb) A4 A6 A7 (hS19.var 0 rfl) (hS19.var 4 rfl)
 rw [show ((gS b 0 : Nat) : Int) = 255 from rfl, show ((gS b 1 : Nat) : Int) = 255 from rfl, show ((gS b 2 : Nat) : Int) = 255 from rfl, show ((gS b 3 : Nat) : Int) = (b 3 : Int) from rfl, show ((gS b 4 : Nat) : Int) = (b 4 : Int) from rfl] at hC
 have hSq0 := hS19
 refine iF (hC) ?_
 rintro r H19 ⟨hgS0, hT8⟩
 have hS20 := hS19.trans hT8
 simp only [RT] at hS20
 obtain ⟨qgS, rfl⟩ : ∃ w, w = r := ⟨r, rfl⟩
 have hp2 := hp1.step (hS20.kept hBX1)
 have hgS1 := hgS0.step (hSq0.aE (H' := H19))
 obtain ⟨X2, hBX2, hS21⟩ := hS20.ay (os := [⟨ptr A4 0 4, 0, _⟩, ⟨sv, 1, _⟩, ⟨kv, 2, _⟩, ⟨ptr A5 0 3, 0, _⟩, ⟨ptr A6 0 1, 0, _⟩, ⟨ptr A7 0 1, 0, _⟩])
 simp (disch := omega) only [↓RA, RZ, simprocAttr, hn, ((hS0.var 1 rfl).ag (hS16.aa hBX1 (hS20.aa hBX2 hS21)).ag).ld, mP]
 have hC := uP ((hS16.aa hBX1 (hS20.aa hBX2 hS21)).gl hG2) o (ho.ag (hS16.aa hBX1 (hS20.aa hBX2 hS21))) hoe k1 k2 k3 kv ks ⟨hS21.aw 2 rfl (fun _ => rfl), by omega, hkO⟩ hkE (gC b) (c3e hb) A4 A6 A7 (hS21.var 0 rfl) (hS21.var 4 rfl)
 rw [show ((gC b 0 : Nat) : Int) = (b 0 : Int) from rfl, show ((gC b 1 : Nat) : Int) = (b 1 : Int) from rfl, show ((gC b 2 : Nat) : Int) = (b 2 : Int) from rfl, show ((gC b 3 : Nat) : Int) = 255 from rfl, show ((gC b 4 : Nat) : Int) = (b 4 : Int) from rfl] at hC
 have hSq1 := hS21
 refine iF (hC) ?_
 rintro r H20 ⟨hgC0, hT9⟩
 have hS22 := hS21.trans hT9
 simp only [RT] at hS22
 obtain ⟨qgC, rfl⟩ : ∃ w, w = r := ⟨r, rfl⟩
 have hp3 := hp2.step (hS22.kept hBX2)
 have hgS2 := hgS1.step (hS22.kept hBX2)
 have hgC1 := hgC0.step (hSq1.aE (H' := H20))
 obtain ⟨X3, hBX3, hS23⟩ := hS22.ay (os := [⟨ptr A4 0 4, 0, _⟩, ⟨sv, 1, _⟩, ⟨kv, 2, _⟩, ⟨ptr A5 0 3, 0, _⟩, ⟨ptr A6 0 1, 0, _⟩, ⟨ptr A7 0 1, 0, _⟩])
 simp (disch := omega) only [↓RA, RZ, simprocAttr, hn, ((hS0.var 1 rfl).ag (hS16.aa hBX1 (hS20.aa hBX2 (hS22.aa hBX3 hS23))).ag).ld, mP]
 have hC := uP ((hS16.aa hBX1 (hS20.aa hBX2 (hS22.aa hBX3 hS23))).gl hG2) o (ho.ag (hS16.aa hBX1 (hS20.aa hBX2 (hS22.aa hBX3 hS23)))) hoe k1 k2 k3 kv ks ⟨hS23.aw 2 rfl (fun _ => rfl), by omega, hkO⟩ hkE (gO b) (c1F hb) A4 A6 A7 (hS23.var 0 rfl) (hS23.var 4 rfl)
 rw [show ((gO b 0 : Nat) : Int) = (b 0 : Int) from rfl, show ((gO b 1 : Nat) : Int) = (b 1 : Int) from rfl, show ((gO b 2 : Nat) : Int) = (b 2 : Int) from rfl, show ((gO b 3 : Nat) : Int) = (b 3 : Int) from rfl, show ((gO b 4 : Nat) : Int) = 255 from rfl] at hC
 have hSq2 := hS23
 refine iF (hC) ?_
 rintro r H21 ⟨hgO0, hT10⟩
 have hS24 := hS23.trans hT10
 simp only [RT] at hS24
 obtain ⟨qgO, rfl⟩ : ∃ w, w = r := ⟨r, rfl⟩
 have hp4 := hp3.step (hS24.kept hBX3)
 have hgS3 := hgS2.step (hS24.kept hBX3)
 have hgC2 := hgC1.step (hS24.kept hBX3)
 have hgO1 := hgO0.step (hSq2.aE (H' := H21))
 obtain ⟨X4, hBX4, hS25⟩ := hS24.ay (os := [⟨ptr A4 0 4, 0, _⟩, ⟨sv, 1, _⟩, ⟨kv, 2, _⟩, ⟨ptr A5 0 3, 0, _⟩, ⟨ptr A6 0 1, 0, _⟩, ⟨ptr A7 0 1, 0, _⟩])
 simp (disch := omega) only [↓RA, RZ, simprocAttr, hn, ((hS0.var 1 rfl).ag (hS16.aa hBX1 (hS20.aa hBX2 (hS22.aa hBX3 (hS24.aa hBX4 hS25)))).ag).ld, mP]
 have hC := uP ((hS16.aa hBX1 (hS20.aa hBX2 (hS22.aa hBX3 (hS24.aa hBX4 hS25)))).gl hG2) o (ho.ag (hS16.aa hBX1 (hS20.aa hBX2 (hS22.aa hBX3 (hS24.aa hBX4 hS25))))) hoe k1 k2 k3 kv ks ⟨hS25.aw 2 rfl (fun _ => rfl), by omega, hkO⟩ hkE (gN b) (c2L hb) A4 A6 A7 (hS25.var 0 rfl) (hS25.var 4 rfl)
 rw [show ((gN b 0 : Nat) : Int) = 0 from rfl, show ((gN b 1 : Nat) : Int) = 0 from rfl, show ((gN b 2 : Nat) : Int) = 0 from rfl, show ((gN b 3 : Nat) : Int) = (b 3 : Int) from rfl, show ((gN b 4 : Nat) : Int) = (b 4 : Int) from rfl] at hC
 have hSq3 := hS25
 refine iF (hC) ?_
 rintro r H22 ⟨hgN0, hT11⟩
 have hS26 := hS25.trans hT11
 simp only [RT] at hS26
 obtain ⟨qgN, rfl⟩ : ∃ w, w = r := ⟨r, rfl⟩
 have hp5 := hp4.step (hS26.kept hBX4)
 have hgS4 := hgS3.step (hS26.kept hBX4)
 have hgC3 := hgC2.step (hS26.kept hBX4)
 have hgO2 := hgO1.step (hS26.kept hBX4)
 have hgN1 := hgN0.step (hSq3.aE (H' := H22))
 obtain ⟨X5, hBX5, hS27⟩ := hS26.ay (os := [⟨ptr A4 0 4, 0, _⟩, ⟨sv, 1, _⟩, ⟨kv, 2, _⟩, ⟨ptr A5 0 3, 0, _⟩, ⟨ptr A6 0 1, 0, _⟩, ⟨ptr A7 0 1, 0, _⟩])
 simp (disch := omega) only [↓RA, RB, simprocAttr, hn]
 refine Wp.aS kE [(0, 10), (10, 0)] (by kernel_rfl) (by kernel_rfl) ?_
 simp (disch := omega) only [↓RA, RZ, simprocAttr, hn, hS27.aj 0 rfl, ((hS0.var 1 rfl).ag (hS16.aa hBX1 (hS20.aa hBX2 (hS22.aa hBX3 (hS24.aa hBX4 (hS26.aa hBX5 hS27))))).ag).ld, mP]
 have hrgP := yI (gP b) hoe
 have hokP := zL (o := o) (b8M hb) k2
 have hDP := vK o (ho.ag (hS16.aa hBX1 (hS20.aa hBX2 (hS22.aa hBX3 (hS24.aa hBX4 (hS26.aa hBX5 hS27)))))) k1 k2 k3 (gP b) (b8M hb)
 rw [show ((gP b 0 : Nat) : Int) = (b 0 : Int) from rfl, show ((gP b 1 : Nat) : Int) = (b 1 : Int) from rfl, show ((gP b 2 : Nat) : Int) = (b 2 : Int) from rfl, show ((gP b 3 : Nat) : Int) = 0 from rfl, show ((gP b 4 : Nat) : Int) = 0 from rfl] at hDP
 refine iF (hDP) ?_
 rintro r H23 ⟨zv, rfl, hT12⟩
 have hS28 := hS27.trans hT12
 simp only [RT] at hS28
 simp (disch := omega) only [↓RA, RZ, simprocAttr, hn, hS28.ld 4 rfl]
 have hrkP : rkE o (jI o (gP b)) ks = 0 := by unfold rkE; rw [if_neg (by rw [hrgP]; simp)]; exact hkE
 have hsn : a5e o (jI o (gP b)) ks = jJ ks := by unfold a5e; rw [if_pos hrkP]; exact a9H hf0 (b2D ks)
 have hSz := hS28
 refine iF (xR ((hS16.aa hBX1 (hS20.aa hBX2 (hS22.aa hBX3 (hS24.aa hBX4 (hS26.aa hBX5 hS28))))).gl hG2) o (ho.ag (hS16.aa hBX1 (hS20.aa hBX2 (hS22.aa hBX3 (hS24.aa hBX4 (hS26.aa hBX5 hS28)))))) (jI o (gP b)) zv ⟨hS28.aw 6 rfl (fun _ => rfl), hokP⟩ kv ks ⟨hS28.aw 2 rfl (fun _ => rfl), by omega, hkO⟩) ?_
 rintro r H24 ⟨lv, rfl, hl0, hT13⟩
 have hS29 := hS28.trans hT13
 simp only [RT] at hS29
 rw [hrkP]
 rw [hsn] at hl0
 have hp6 := hp5.step (hS29.kept hBX5)
 have hgS5 := hgS4.step (hS29.kept hBX5)
 have hgC4 := hgC3.step (hS29.kept hBX5)
 have hgO3 := hgO2.step (hS29.kept hBX5)
 have hgN2 := hgN1.step (hS29.kept hBX5)
 have hl1 := hl0.step (hSz.aE (H' := H24))
 obtain ⟨X6, hBX6, hS30⟩ := hS29.ay (os := [⟨ptr A4 0 4, 0, _⟩, ⟨sv, 1, _⟩, ⟨kv, 2, _⟩, ⟨ptr A5 0 3, 0, _⟩, ⟨ptr A6 0 1, 0, _⟩, ⟨ptr A7 0 1, 0, _⟩, ⟨zv, 1, _⟩])
 simp (disch := omega) only [↓RA, RZ, simprocAttr, hn, hS28.aj 0 rfl, hS30.aj 0 rfl, hS27.ld 4 rfl, hS30.ld 4 rfl]
 refine iF (a3K ((hS16.aa hBX1 (hS20.aa hBX2 (hS22.aa hBX3 (hS24.aa hBX4 (hS26.aa hBX5 (hS29.aa hBX6 hS30)))))).gl hG2) o (ho.ag (hS16.aa hBX1 (hS20.aa hBX2 (hS22.aa hBX3 (hS24.aa hBX4 (hS26.aa hBX5 (hS29.aa hBX6 hS30))))))) kv ks ⟨hS30.aw 2 rfl (fun _ => rfl), by omega, hkO⟩ hkE) ?_
 rintro r H25 ⟨mv, rfl, hT14⟩
 have hS31 := hS30.trans hT14
 simp only [RT] at hS31
 subst hrgE
 have gS1 := a9h (b := b) (l := jJ ks) hf0 k3
 have gC1 := b1D (b := b) (l := jJ ks) hf0 k1
 have gO1 := b3D (b := b) (l := jJ ks) hf0 k2
 have gN1 := b2j (o := o) (b := b) (l := jJ ks)
 have hsc := wB (o := o) (rg := jI o b) hplc
 have hle := fun r => b2w hf0 r hpll (wB (rg := r) hplc)
 have hle0 := hle (jI o b)
 have hle1 := hle (jI o (gS b))
 have hle2 := hle (jI o (gC b))
 have hle3 := hle (jI o (gO b))
 have hn9 := (hgN2.step (hS31.kept hBX6)).1
 rw [gN1] at hn9
 simp (disch := omega) only [↓RA, RZ, simprocAttr, hn, hS31.ld 5 rfl]
 refine iF (rW pv qgS (kC o (jI o b) (jJ ks)) (kC o (jI o (gS b)) (jJ ks)) (hp6.step (hS31.kept hBX6)).1 (hgS5.step (hS31.kept hBX6)).1 (by omega) (by omega)) ?_
 rintro r H26 ⟨hu1, hT15⟩
 have hS32 := hS31.trans hT15
 simp only [RT] at hS32
 obtain ⟨u1, rfl⟩ : ∃ w, w = r := ⟨r, rfl⟩
 rw [show (kC o (jI o b) (jJ ks)).filter (fun c => !decide (c ∈ kC o (jI o (gS b)) (jJ ks))) = [] from gS1] at hu1
 simp (disch := omega) only [↓RA, RZ, simprocAttr, hn, hu1.1.len]
 refine iF (rW pv qgC (kC o (jI o b) (jJ ks)) (kC o (jI o (gC b)) (jJ ks)) (hp6.step (hS32.kept hBX6)).1 (hgC4.step (hS32.kept hBX6)).1 (by omega) (by omega)) ?_
 rintro r H27 ⟨hu2, hT16⟩
 have hS33 := hS32.trans hT16
 simp only [RT] at hS33
 obtain ⟨u2, rfl⟩ : ∃ w, w = r := ⟨r, rfl⟩
 rw [show (kC o (jI o b) (jJ ks)).filter (fun c => !decide (c ∈ kC o (jI o (gC b)) (jJ ks))) = [] from gC1] at hu2
 simp (disch := omega) only [↓RA, RZ, simprocAttr, hn, hu2.1.len]
 refine iF (rW qgO pv (kC o (jI o (gO b)) (jJ ks)) (kC o (jI o b) (jJ ks)) (hgO3.step (hS33.kept hBX6)).1 (hp6.step (hS33.kept hBX6)).1 (by omega) (by omega)) ?_
 rintro r H28 ⟨hu3, hT17⟩
 have hS34 := hS33.trans hT17
 simp only [RT] at hS34
 obtain ⟨u3, rfl⟩ : ∃ w, w = r := ⟨r, rfl⟩
 rw [show (kC o (jI o (gO b)) (jJ ks)).filter (fun c => !decide (c ∈ kC o (jI o b) (jJ ks))) = [] from gO1] at hu3
 have hn10 := (hgN2.step (hS34.kept hBX6)).1
 rw [gN1] at hn10
 simp (disch := omega) only [↓RA, RZ, simprocAttr, hn, hu3.1.len, hn10.len]
 refine hS34.cF (a1o lv mv (jJ ks) (jJ ks) (hl1.step (hS34.kept hBX6)).1 (hS34.aw 7 rfl lI) (by omega) (by omega)) fun H29 hS35 => ?_
 rw [decide_eq_true rfl]
 simp (disch := omega) only [↓RA, RZ, simprocAttr, hn, tR5]
 exact hS0.forget.trans (hS16.aa hBX1 (hS20.aa hBX2 (hS22.aa hBX3 (hS24.aa hBX4 (hS26.aa hBX5 (hS29.aa hBX6 hS35)))))).forget
end Go.Ds
