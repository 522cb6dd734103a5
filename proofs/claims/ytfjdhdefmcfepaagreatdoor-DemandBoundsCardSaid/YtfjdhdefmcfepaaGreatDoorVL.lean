/-
  A part of the proof of DemandBounds.
-/
import Derived.Test.YtfjdhdefmcfepaaGreatDoorVJ
import Derived.Test.YtfjdhdefmcfepaaGreatDoorVD
import Derived.Test.YtfjdhdefmcfepaaGreatDoorVE
set_option linter.unusedVariables false
set_option linter.unusedSimpArgs false
set_option linter.defProp false
set_option linter.unusedSectionVars false
namespace Go.Ds
open Go.Proofs Go.Proofs.Tryz Go.ChangeShapes Go.WideShapes Go.RowKit Go.Deep
set_option maxRecDepth 10000
theorem c5x : prog.cellsOf 28 = 1 := by kernel_rfl
theorem c5M : prog.cellsOf 29 = 3 := by kernel_rfl
section
variable {H0 : Type} {enc : TypeId × Value → H0} {w : World} {base n : Nat} {spare : Nat → Bool} {kX : Bool} {x : DataW H0 × List MemPlace}
theorem a8X {v : Value} (h : DataW.trod enc prog w base spare kX n 28 [v] = some x) : ∃ m : Nat, v = .int .u16 m ∧ m < 65536 := by
 obtain ⟨m, hv, _, hw⟩ := DataW.trod_int underlying28 h
 have hv : v = .int .u16 m := by simpa using hv
 have hm : 0 ≤ m ∧ m ≤ 65535 := by simpa [Lit.wf, IntKind.min, IntKind.max, IntKind.signed, IntKind.bits] using hw
 exact ⟨m.toNat, by rw [hv, fF hm.1], by omega⟩
theorem c2d {cs : List Value} (h : DataW.trod enc prog w base spare kX n 29 cs = some x) : ∃ b : Nat → Nat, (∀ i, b i < 65536) ∧ cs = [.int .u16 (b 0), .int .u16 (b 1), .int .u16 (b 2)] := by
 obtain ⟨xs, m, _, _, hl, hxl, hf⟩ := DataW.trod_array underlying29 h
 rw [c5M] at hl
 match cs, hl with
 | [c0, c1, c2], _ =>
   have hy : ∀ i, i < 3 → ∃ y, DataW.trod enc prog w base spare kX m 28 ((([c0, c1, c2] : List Value).drop (i * 1)).take 1) = some y := fun i hi => by
    have := hf i hi
    rw [c5x] at this
    exact ⟨xs[i], by rw [this, dh (by omega)]⟩
   obtain ⟨_, h0⟩ := hy 0 (by decide)
   obtain ⟨_, h1⟩ := hy 1 (by decide)
   obtain ⟨_, h2⟩ := hy 2 (by decide)
   obtain ⟨b0, rfl, k0⟩ := a8X h0
   obtain ⟨b1, rfl, k1⟩ := a8X h1
   obtain ⟨b2, rfl, k2⟩ := a8X h2
   exact ⟨fun i => match i with | 0 => b0 | 1 => b1 | _ => b2, fun i => by
    match i with
    | 0 => exact k0
    | 1 => exact k1
    | _ + 2 => exact k2, rfl⟩
end
section
variable {H0 : Type} {enc : TypeId × Value → H0} {w : World} {base : Nat} {kX : Bool}
theorem c4a {v0 : Value} {d0 : DataW H0} {p0 : List MemPlace} {c0 : Nat} (h0 : DataW.Trod enc prog w base (fun _ => true) kX 29 v0 d0 p0) (hval : Value.okWide prog w .any c0 29 v0) :
 ∃ b : Nat → Nat, (∀ i, b i < 65536) ∧ v0 = .agg #[.int .u16 (b 0), .int .u16 (b 1), .int .u16 (b 2)] := by
 simp only [Value.okWide, underlying29] at hval
 obtain ⟨cs, rfl, _, _⟩ := hval
 obtain ⟨fuel, hf⟩ := h0
 obtain ⟨b, hb, he⟩ := c2d hf
 obtain ⟨l⟩ := cs
 have he : l = _ := he
 exact ⟨b, hb, by rw [he]⟩
end
end Go.Ds
namespace Go.Ds
open Go.Proofs
set_option maxRecDepth 10000
def vX (x y : Int × Int) : Prop := x.1 < y.1 ∨ (x.1 = y.1 ∧ x.2 < y.2)
theorem a1g {x : Int × Int} : ¬ vX x x := by unfold vX; omega
theorem zP {x y z : Int × Int} (h : vX x y) (k : vX y z) : vX x z := by unfold vX at *; omega
theorem zN : ∀ (l m : List (Int × Int)), l.Pairwise vX → m.Pairwise vX → (∀ x, x ∈ l ↔ x ∈ m) → l = m
 | [], [], _, _, _ => rfl
 | [], b :: m, _, _, h => absurd ((h b).2 (dC ..)) dV
 | a :: l, [], _, _, h => absurd ((h a).1 (dC ..)) dV
 | a :: l, b :: m, hl, hm, h => by
   rw [gL] at hl hm
   have hab : a = b := by
    rcases dS.1 ((h a).1 (dC ..)) with e | e
    ·exact e
    ·rcases dS.1 ((h b).2 (dC ..)) with e2 | e2
     ·exact e2.symm
     ·exact absurd (zP (hm.1 a e) (hl.1 b e2)) a1g
   subst hab
   congr 1
   refine zN l m hl.2 hm.2 fun x => ?_
   constructor
   ·intro hx
    rcases dS.1 ((h x).1 (dE _ hx)) with e | e
    ·subst e
     exact absurd (hl.1 x hx) a1g
    ·exact e
   ·intro hx
    rcases dS.1 ((h x).2 (dE _ hx)) with e | e
    ·subst e
     exact absurd (hm.1 x hx) a1g
    ·exact e
theorem b6t {es : List (Int × Int)} (h : es.Pairwise fun a b => le2 a b = true) {i j : Nat} (hij : i < j) (hj : j < es.length) : le2 (iB es i) (iB es j) = true := by
 rw [jK _ _ (by omega), jK _ _ hj]
 exact ek.1 h i j (by omega) hj hij
theorem b0s {es : List (Int × Int)} (h : es.Pairwise fun a b => le2 a b = true) : ∀ m, m ≤ es.length → (yS es m).Pairwise vX ∧ ∀ x, x ∈ yS es m ↔ ∃ j, j < m ∧ iB es j = x
 | 0, _ => ⟨by simp [yS], fun x => by simp [yS]⟩
 | m + 1, hm => by
   obtain ⟨h1, h2⟩ := b0s h m (by omega)
   rw [sC]
   by_cases hc : m = 0 ∨ iB es m ≠ iB es (m - 1)
   ·rw [if_pos hc]
    refine ⟨?_, fun x => ?_⟩
    ·rw [fC]
     refine ⟨h1, by simp, fun a ha b hb => ?_⟩
     obtain ⟨j, hj, rfl⟩ := (h2 a).1 ha
     obtain rfl := du.1 hb
     have h3 := (oD _ _).1 (b6t h hj (by omega))
     rcases hc with hc | hc
     ·omega
     ·by_cases he : j = m - 1
      ·subst he
       have hne : ¬ (iB es (m - 1) = iB es m) := fun e => hc e.symm
       rw [Prod.ext_iff] at hne
       unfold vX
       omega
      ·have h4 := (oD _ _).1 (b6t h (show j < m - 1 by omega) (by omega))
       have h5 := (oD _ _).1 (b6t h (show m - 1 < m by omega) (by omega))
       have hne : ¬ (iB es (m - 1) = iB es m) := fun e => hc e.symm
       rw [Prod.ext_iff] at hne
       unfold vX
       omega
    ·rw [dD, h2, du]
     constructor
     ·rintro (⟨j, hj, e⟩ | e)
      ·exact ⟨j, by omega, e⟩
      ·exact ⟨m, by omega, e.symm⟩
     ·rintro ⟨j, hj, e⟩
      rcases di.1 hj with e2 | e2
      ·exact .inl ⟨j, e2, e⟩
      ·subst e2
       exact .inr e.symm
   ·rw [if_neg hc, dr]
    refine ⟨h1, fun x => ?_⟩
    rw [h2]
    constructor
    ·rintro ⟨j, hj, e⟩
     exact ⟨j, by omega, e⟩
    ·rintro ⟨j, hj, e⟩
     rcases di.1 hj with e2 | e2
     ·exact ⟨j, e2, e⟩
     ·subst e2
      have hc' : ¬ (j = 0) ∧ iB es j = iB es (j - 1) := ⟨fun e => hc (.inl e), fK fun e => hc (.inr e)⟩
      exact ⟨j - 1, by omega, by rw [← hc'.2]; exact e⟩
theorem c0W (l : List (Int × Int)) : (dd (vO l)).Pairwise vX := (b0s (wJ l) _ (de _)).1
theorem a1i {l : List (Int × Int)} {x : Int × Int} : x ∈ dd (vO l) ↔ x ∈ l := by
 unfold dd
 rw [(b0s (wJ l) _ (de _)).2 x, ← (nX l).mem_iff]
 constructor
 ·rintro ⟨j, hj, rfl⟩
  exact iE hj
 ·intro hx
  obtain ⟨j, hj, e⟩ := dL.1 hx
  exact ⟨j, hj, by rw [jK _ _ hj]; exact e⟩
def a5M (o : Org) (cp : Nat) (thr : Bool) (c x : Ct) : Prop := ∃ i, i < o.cpls.length ∧ wG cp thr c (iB o.cpls i) i = true ∧ nA o (to1 (iB o.cpls i) c) = true ∧ x = to1 (iB o.cpls i) c
theorem a3A {o : Org} {cp : Nat} {thr : Bool} {c x : Ct} {q : List Ct} : ∀ n, x ∈ stepN o cp thr c q n ↔ x ∈ q ∨ ∃ i, i < n ∧ wG cp thr c (iB o.cpls i) i = true ∧ nA o (to1 (iB o.cpls i) c) = true ∧ x = to1 (iB o.cpls i) c
 | 0 => by
   unfold stepN
   simp
 | n + 1 => by
   rw [mA]
   have ih := a3A (o := o) (cp := cp) (thr := thr) (c := c) (x := x) (q := q) n
   have hs : x ∈ step1 o cp thr c (stepN o cp thr c q n) n ↔ x ∈ stepN o cp thr c q n ∨ (wG cp thr c (iB o.cpls n) n = true ∧ nA o (to1 (iB o.cpls n) c) = true ∧ x = to1 (iB o.cpls n) c) := by
    unfold step1
    split
    ·rename_i hh
     simp only [cT] at hh
     rw [dD, du]
     constructor
     ·rintro (h | h)
      ·exact .inl h
      ·exact .inr ⟨hh.1.1, hh.1.2, h⟩
     ·rintro (h | ⟨_, _, h⟩)
      ·exact .inl h
      ·exact .inr h
    ·rename_i hh
     simp only [cT, dA, decide_eq_false_iff_not, not_and, dp] at hh
     constructor
     ·exact fun h => .inl h
     ·rintro (h | ⟨h1, h2, h3⟩)
      ·exact h
      ·rw [h3]
       exact hh ⟨h1, h2⟩
   rw [hs, ih]
   constructor
   ·rintro ((h | ⟨i, hi, h⟩) | h)
    ·exact .inl h
    ·exact .inr ⟨i, by omega, h⟩
    ·exact .inr ⟨n, by omega, h⟩
   ·rintro (h | ⟨i, hi, h⟩)
    ·exact .inl (.inl h)
    ·rcases di.1 hi with e | e
     ·exact .inl (.inr ⟨i, e, h⟩)
     ·subst e
      exact .inr h
theorem rY {o : Org} {cp : Nat} {thr : Bool} {c x : Ct} {q : List Ct} : x ∈ stepF o cp thr c q ↔ x ∈ q ∨ a5M o cp thr c x := a3A _
inductive Star {α : Type} (R : α → α → Prop) : α → α → Prop
 | refl (a : α) : Star R a a
 | tail {a b c : α} : Star R a b → R b c → Star R a c
theorem Star.stay {α : Type} {R : α → α → Prop} {p : α → Prop} (hc : ∀ a, p a → ∀ b, R a b → p b) {a b : α} (ha : p a) (h : Star R a b) : p b := by
 induction h with
 | refl => exact ha
 | tail _ h2 ih => exact hc _ ih _ h2
theorem a2C {o : Org} {cp : Nat} {l : List Ct} {x : Ct} : x ∈ mE o cp l ↔ ∃ c, c ∈ l ∧ a5M o cp false c x := by
 unfold mE
 have h : ∀ (l : List Ct) (q : List Ct), x ∈ l.foldl (fun q c => stepF o cp false c q) q ↔ x ∈ q ∨ ∃ c, c ∈ l ∧ a5M o cp false c x := by
  intro l
  induction l with
  | nil => intro q; simp
  | cons a l ih =>
    intro q
    rw [eE, ih, rY]
    constructor
    ·rintro ((h | h) | ⟨c, hc, h⟩)
     ·exact .inl h
     ·exact .inr ⟨a, dC .., h⟩
     ·exact .inr ⟨c, dE _ hc, h⟩
    ·rintro (h | ⟨c, hc, h⟩)
     ·exact .inl (.inl h)
     ·rcases dS.1 hc with e | e
      ·subst e
       exact .inl (.inr h)
      ·exact .inr ⟨c, e, h⟩
 rw [h]
 simp
theorem a4x {o : Org} {cp : Nat} {thr : Bool} {c : Ct} {q : List Ct} : ∀ n, ∃ t, stepN o cp thr c q n = q ++ t
 | 0 => ⟨[], by simp [stepN]⟩
 | n + 1 => by
   obtain ⟨t, ht⟩ := a4x (o := o) (cp := cp) (thr := thr) (c := c) (q := q) n
   rw [mA, ht]
   unfold step1
   split
   ·exact ⟨t ++ [to1 (iB o.cpls n) c], by rw [ec]⟩
   ·exact ⟨t, rfl⟩
theorem a8e {α : Type} [Inhabited α] (q t : List α) {j : Nat} (h : j < q.length) : iB (q ++ t) j = iB q j := by
 rw [jK _ _ (by simp; omega), jK _ _ h, List.getElem_append_left h]
theorem b1m {o : Org} (hf : o.Fine) (cp : Nat) : ∀ (n i : Nat) (q : List Ct), Que o q → 1025 ≤ n + i → (∀ j, j < i → j < q.length → ∀ y, a5M o cp true (iB q j) y → y ∈ q) →
 ∀ x, x ∈ bfs o cp n i q ↔ ∃ a, a ∈ q ∧ Star (a5M o cp true) a x
 | 0, i, q, hq, hn, hc, x => by
   have hl := hq.len hf
   have hcl : ∀ a, a ∈ q → ∀ y, a5M o cp true a y → y ∈ q := fun a ha y hy => by
    obtain ⟨j, hj, e⟩ := dL.1 ha
    exact hc j (by omega) hj y (by rw [jK _ _ hj, e]; exact hy)
   unfold bfs
   exact ⟨fun h => ⟨x, h, .refl x⟩, fun ⟨a, ha, hs⟩ => hs.stay hcl ha⟩
 | n + 1, i, q, hq, hn, hc, x => by
   rw [bfs]
   split
   ·rename_i hi
    obtain ⟨t, ht⟩ := a4x (o := o) (cp := cp) (thr := true) (c := iB q i) (q := q) o.cpls.length
    have ht : stepF o cp true (iB q i) q = q ++ t := ht
    rw [b1m hf cp n (i + 1) _ (hq.stepF cp true _) (by omega) (fun j hj hjl y hy => ?_)]
    ·constructor
     ·rintro ⟨a, ha, hs⟩
      rcases rY.1 ha with h | h
      ·exact ⟨a, h, hs⟩
      ·refine ⟨iB q i, iE hi, ?_⟩
       clear ha
       induction hs with
       | refl => exact .tail (.refl _) h
       | tail _ h2 ih => exact .tail ih h2
     ·rintro ⟨a, ha, hs⟩
      exact ⟨a, rY.2 (.inl ha), hs⟩
    ·rcases di.1 hj with e | e
     ·rw [ht, a8e _ _ (by omega)] at hy
      exact rY.2 (.inl (hc j e (by omega) y hy))
     ·subst e
      rw [ht, a8e _ _ hi] at hy
      exact rY.2 (.inr hy)
   ·rename_i hi
    have hcl : ∀ a, a ∈ q → ∀ y, a5M o cp true a y → y ∈ q := fun a ha y hy => by
     obtain ⟨j, hj, e⟩ := dL.1 ha
     exact hc j (by omega) hj y (by rw [jK _ _ hj, e]; exact hy)
    exact ⟨fun h => ⟨x, h, .refl x⟩, fun ⟨a, ha, hs⟩ => hs.stay hcl ha⟩
def Snd (o : Org) (r : Reg) (c x : Ct) : Prop := (x = c ∧ r.off.testBit c.1.toNat = false) ∨ ∃ a, a5M o r.cpl false c a ∧ Star (a5M o r.cpl true) a x
theorem a9z (o : Org) (cp : Nat) (l : List Ct) : Que o (mE o cp l) := by
 unfold mE
 have h : ∀ (l : List Ct) (q : List Ct), Que o q → Que o (l.foldl (fun q c => stepF o cp false c q) q) := by
  intro l
  induction l with
  | nil => exact fun q h => h
  | cons a l ih => exact fun q h => ih _ (h.stepF cp false a)
 exact h l [] (Que.nil o)
theorem a2u {o : Org} (hf : o.Fine) {r : Reg} {l : List Ct} {x : Ct} : x ∈ oG o r l ↔ ∃ c, c ∈ l ∧ Snd o r c x := by
 unfold oG
 rw [a1i, dD, eu, b1m hf r.cpl 1100 0 _ (a9z o r.cpl l) (by decide) (fun j hj => absurd hj (dJ _))]
 constructor
 ·rintro (⟨h1, h2⟩ | ⟨a, ha, hs⟩)
  ·exact ⟨x, h1, .inl ⟨rfl, by simpa using h2⟩⟩
  ·obtain ⟨c, hc, h⟩ := a2C.1 ha
   exact ⟨c, hc, .inr ⟨a, h, hs⟩⟩
 ·rintro ⟨c, hc, h⟩
  rcases h with ⟨rfl, h2⟩ | ⟨a, h, hs⟩
  ·exact .inl ⟨hc, by simpa using h2⟩
  ·exact .inr ⟨a, a2C.2 ⟨c, hc, h⟩, hs⟩
theorem oY {o : Org} (hf : o.Fine) {r : Reg} {l : List Ct} {p : Ct} : p ∈ jE o r l ↔ ∃ c, c ∈ l ∧ ∃ x, Snd o r c x ∧ p ∈ oC o r x := by
 unfold jE a0b
 rw [a1i, eM]
 constructor
 ·rintro ⟨x, hx, hp⟩
  obtain ⟨c, hc, h⟩ := (a2u hf).1 hx
  exact ⟨c, hc, x, h, hp⟩
 ·rintro ⟨c, hc, x, h, hp⟩
  exact ⟨x, (a2u hf).2 ⟨c, hc, h⟩, hp⟩
theorem lU (o : Org) (r : Reg) (l : List Ct) : (jE o r l).Pairwise vX := c0W _
theorem a9p {o : Org} (hf : o.Fine) {r : Reg} {c p : Ct} : p ∈ jE o r [c] ↔ ∃ x, Snd o r c x ∧ p ∈ oC o r x := by
 rw [oY hf]
 constructor
 ·rintro ⟨c', hc, h⟩
  rw [du.1 hc] at h
  exact h
 ·rintro h
  exact ⟨c, du.2 rfl, h⟩
def IsP (o : Org) (p : Ct) : Prop := 0 ≤ p.1 ∧ p.1 < o.ranks.length ∧ 0 ≤ p.2 ∧ p.2 < (iB o.ranks p.1.toNat).wind.length
theorem a8C {rs : List Rk} {s : Stp} {key : Int} {p : Ct} (h : p ∈ qX rs s key) : 0 ≤ p.1 ∧ p.1 < rs.length ∧ 0 ≤ p.2 ∧ p.2 < (iB rs p.1.toNat).wind.length := by
 unfold qX at h
 obtain ⟨d, hd, rfl⟩ := dx.1 (a1i.1 h)
 have hh := (eu.1 hd).2
 unfold yY at hh
 rw [cT, cT, dA, decide_eq_true_eq, decide_eq_true_eq, decide_eq_false_iff_not] at hh
 obtain ⟨⟨h1, h2⟩, h3⟩ := hh
 have e : (oJ rs d key).1 = d.rank := by unfold oJ; rw [if_neg h1]
 rw [e]
 exact ⟨by omega, by omega, h2, h3⟩
theorem a8N {o : Org} {r : Reg} {c p : Ct} (h : p ∈ oC o r c) : IsP o p := by
 unfold oC at h
 obtain ⟨i, _, h⟩ := eM.1 h
 split at h
 ·exact a8C h
 ·exact absurd h dV
theorem a7o {o : Org} {r : Reg} {l : List Ct} {p : Ct} (h : p ∈ a0b o r l) : IsP o p := by
 unfold a0b at h
 obtain ⟨c, _, h⟩ := eM.1 (a1i.1 h)
 exact a8N h
theorem sJ {o : Org} {r : Reg} {l : List Ct} {p : Ct} (h : p ∈ jE o r l) : IsP o p := a7o h
theorem b7X {o : Org} {r : Reg} {c p : Ct} (h : p ∈ ofF o r c) : IsP o p := by
 unfold ofF at h
 split at h
 ·exact sJ h
 ·exact absurd h dV
theorem IsP.small {o : Org} {H : Heap} (hf : o.Fine) (ho : o.In H) {p : Ct} (h : IsP o p) : -1000000000 ≤ p.1 ∧ p.1 ≤ 1000000000 ∧ -1000000000 ≤ p.2 ∧ p.2 ≤ 1000000000 := by
 obtain ⟨h1, h2, h3, h4⟩ := h
 have hr := (ho.2.1 _ (iE (xs := o.ranks) (j := p.1.toNat) (by omega))).2
 have := hf.rlen
 exact ⟨by omega, by omega, by omega, by omega⟩
theorem pF {o : Org} (hf : o.Fine) (rg : Reg) {l : List Ct} (hl : l.length ≤ 1024) (ho : ∀ c ∈ oG o rg l, nA o c = true) : (jE o rg l).length ≤ 1000000 := by
 have h1 := sF hf rg (oG o rg l) ho
 have h2 := wZ hf (rg := rg) hl
 have h3 := b0I (vO ((oG o rg l).flatMap (oC o rg)))
 rw [nO] at h3
 have : (jE o rg l).length ≤ (oG o rg l).length * 480 := dy h3 h1
 omega
end Go.Ds
namespace Go.Ds
open Go.Proofs Go.Proofs.Tryz
variable {H : Heap}
set_option maxRecDepth 10000
set_option maxHeartbeats 1000000
abbrev Nt := Nat × Nat
def ntc (x : Nt) : List Value := [.int .u64 x.1, .int .u64 x.2]
def Nt.Ok (x : Nt) : Prop := x.1 < 18446744073709551616 ∧ x.2 < 18446744073709551616
def sV (x : Nt) (n : Int) : Nt := if n < 64 then (x.1 ||| 2 ^ n.toNat, x.2) else (x.1, x.2 ||| 2 ^ (n - 64).toNat)
theorem a5w (i : Nat) (h : i < 64) : 2 ^ i < 18446744073709551616 := by
 have : 2 ^ i ≤ 2 ^ 63 := ff (by decide) (by omega)
 have e : 2 ^ 63 = 9223372036854775808 := rfl
 omega
theorem b4v {a b : Nat} (ha : a < 18446744073709551616) (hb : b < 18446744073709551616) : a ||| b < 18446744073709551616 := Nat.or_lt_two_pow (n := 64) ha hb
theorem orB (a b : Nat) (ha : a < 18446744073709551616) (hb : b < 18446744073709551616) : IntKind.wrap .u64 ((BitVec.ofInt (IntKind.bits .u64) (a : Int) ||| BitVec.ofInt (IntKind.bits .u64) (b : Int)).toNat : Int) = ((a ||| b : Nat) : Int) := by
 have e : (BitVec.ofInt (IntKind.bits .u64) (a : Int) ||| BitVec.ofInt (IntKind.bits .u64) (b : Int)).toNat = a ||| b := by
  rw [BitVec.toNat_or, uR a ha, uR b hb]
 rw [e]
 have := b4v ha hb
 exact pR _ (by omega) (by omega)
theorem orN (n i : Nat) (hn : n < 18446744073709551616) (hi : i < 64) : IntKind.wrap .u64 ((BitVec.ofInt (IntKind.bits .u64) (n : Int) ||| BitVec.ofInt (IntKind.bits .u64) (IntKind.wrap .u64 (1 * 2 ^ min i (IntKind.bits .u64)))).toNat : Int) = ((n ||| 2 ^ i : Nat) : Int) := by
 rw [c3d i hi]
 exact orB n (2 ^ i) hn (a5w i hi)
theorem b9u {x : Nt} (hx : Nt.Ok x) {z : Int} (h0 : 0 ≤ z) (h1 : z < 128) : Nt.Ok (sV x z) := by
 unfold sV
 split
 ·exact ⟨b4v hx.1 (a5w _ (by omega)), hx.2⟩
 ·exact ⟨hx.1, b4v hx.2 (a5w _ (by omega))⟩
theorem a6R (x : Nt) (hx : Nt.Ok x) (z : Int) (h0 : 0 ≤ z) (h1 : z < 128) : Fn prog 68 [.agg #[.int .u64 x.1, .int .u64 x.2], I z] H fun r H' => r = .agg #[.int .u64 (sV x z).1, .int .u64 (sV x z).2] ∧ St prog H H' [] := by
 obtain ⟨m, rfl⟩ := gN h0
 refine .aJ func68 rfl (by kernel_rfl) (m := 21) rfl fun l hn g0 g1 => ?_
 simp (disch := omega) only [↓RA, RB, simprocAttr, g0]
 refine (sR H).eNew 2 [(.int .u64 x.1), (.int .u64 x.2)] rfl rfl rfl kW fun A1 H1 hS1 => ?_
 simp only [RT] at hS1
 simp (disch := omega) only [↓RA, RZ, simprocAttr]
 refine hS1.eNew 2 [(.int .u64 0), (.int .u64 0)] rfl rfl rfl kW fun A2 H2 hS2 => ?_
 simp only [RT] at hS2
 simp (disch := omega) only [↓RA, RB, simprocAttr, hn, g1]
 refine iA (fun q1 => ?_) (fun q1 => ?_)
 ·have e1 := orN x.1 m hx.1 (by omega)
  have e2 : sV x (m : Int) = (x.1 ||| 2 ^ m, x.2) := by unfold sV; rw [if_pos q1]; rfl
  simp (disch := omega) only [↓RA, RC, simprocAttr, q1]
  refine Wp.drw kE (by kernel_rfl) ?_
  simp (disch := omega) only [↓RA, RZ, simprocAttr, hn, g1, hS2.ld 0 rfl, e1]
  refine hS2.aa 0 rfl [(.int .u64 (x.1 ||| 2 ^ m : Nat))] rfl rfl c0U (by simp) fun H3 hS3 => ?_
  simp only [RT] at hS3
  simp (disch := omega) only [↓RA, RZ, simprocAttr, hn, hS3.ag 0 rfl]
  refine hS3.aa 1 rfl [(.int .u64 (x.1 ||| 2 ^ m : Nat)), (.int .u64 x.2)] rfl rfl kW (by simp) fun H4 hS4 => ?_
  simp only [RT] at hS4
  simp (disch := omega) only [↓RA, RZ, simprocAttr, hn, c3R, hS4.ag 1 rfl]
  rw [e2]
  exact ⟨rfl, hS4.forget⟩
 have e1 := orN x.2 (m - 64) hx.2 (by omega)
 have e3 : (m : Int) - 64 = ((m - 64 : Nat) : Int) := by omega
 have e2 : sV x (m : Int) = (x.1, x.2 ||| 2 ^ (m - 64)) := by unfold sV; rw [if_neg q1, e3]; rfl
 simp (disch := omega) only [↓RA, RC, simprocAttr, q1]
 refine Wp.drw kE (by kernel_rfl) ?_
 simp (disch := omega) only [↓RA, RZ, simprocAttr, hn, g1, hS2.ld 0 rfl, e1, e3]
 refine hS2.aa 0 rfl [(.int .u64 (x.2 ||| 2 ^ (m - 64) : Nat))] rfl rfl c0U (by simp) fun H5 hS5 => ?_
 simp only [RT] at hS5
 simp (disch := omega) only [↓RA, RZ, simprocAttr, hn, hS5.ag 0 rfl]
 refine hS5.aa 1 rfl [(.int .u64 x.1), (.int .u64 (x.2 ||| 2 ^ (m - 64) : Nat))] rfl rfl kW (by simp) fun H6 hS6 => ?_
 simp only [RT] at hS6
 simp (disch := omega) only [↓RA, RZ, simprocAttr, hn, c3R, hS6.ag 1 rfl]
 rw [e2]
 exact ⟨rfl, hS6.forget⟩
def jU (xs : List Int) : Nt := xs.foldl sV (0, 0)
def isN (z : Int) : Prop := 0 ≤ z ∧ z < 128
theorem rR : ∀ (xs : List Int) (x : Nt), (∀ z ∈ xs, isN z) → Nt.Ok x → Nt.Ok (xs.foldl sV x)
 | [], _, _, h => h
 | z :: xs, x, hz, h => by
   rw [eE]
   exact rR xs _ (fun y hy => hz y (dE _ hy)) (b9u h (hz z (dC ..)).1 (hz z (dC ..)).2)
theorem a6Q (xs : List Int) {j : Nat} (hj : j < xs.length) : jU (xs.take (j + 1)) = sV (jU (xs.take j)) (iB xs j) := by
 unfold jU
 rw [List.take_add_one, dh hj, Option.toList_some, fp, ← jK _ j hj]
 rfl
theorem b2G (z : Int) (h : isN z) : Fn prog 67 [I z] H fun r H' => r = .bool true ∧ St prog H H' [] := by
 have h0 := h.1
 have h1 := h.2
 refine .aQ func67 rfl (by kernel_rfl) (m := 9) rfl fun l hn g0 => ?_
 simp (disch := omega) only [↓RA, RZ, simprocAttr, hn, g0]
 refine kC (fun q1 => ?_) (fun q1 => ?_)
 rotate_left
 ·exfalso; first | omega | (simp at q1; omega)
 simp (disch := omega) only [↓RA, RZ, simprocAttr, hn, g0, c5r, q1]
 simpa using ⟨(by omega : z ≤ 127), (sR H)⟩
theorem xB (xs : List Int) (hz : ∀ z ∈ xs, isN z) (v : Value) (hv : Sl 1 (one I) H v xs) (hl : xs.length < 1000000000) :
 Fn prog 39 [v] H fun r H' => r = .tuple #[.agg #[.int .u64 (jU xs).1, .int .u64 (jU xs).2], I 0] ∧ St prog H H' [] := by
 refine .aQ func39 rfl (by kernel_rfl) (m := 22) rfl fun l hn g0 => ?_
 simp (disch := omega) only [↓RA, RZ, simprocAttr]
 refine (sR H).eNew 2 [(.int .u64 0), (.int .u64 0)] rfl rfl rfl kW fun A1 H1 hS1 => ?_
 simp only [RT] at hS1
 simp (disch := omega) only [↓RA, RZ, simprocAttr]
 refine hS1.eNew 2 [(.int .u64 0), (.int .u64 0)] rfl rfl rfl kW fun A2 H2 hS2 => ?_
 simp only [RT] at hS2
 simp (disch := omega) only [↓RA, RZ, simprocAttr, hn, g0, (hS2.sl hv).len]
 refine Wp.al (fun n l H' => l.length = 22 ∧ get l 2 = (ptr A1 0 2) ∧ get l 4 = (ptr A2 0 2) ∧ get l 7 = v ∧ get l 8 = I xs.length ∧ ∃ (j : Nat), (n + j = xs.length) ∧ get l 9 = I j ∧ St prog H H' [⟨ptr A1 0 2, 0, [(.int .u64 0), (.int .u64 0)]⟩, ⟨ptr A2 0 2, 0, [.int .u64 (jU (xs.take j)).1, .int .u64 (jU (xs.take j)).2]⟩]) xs.length ?_ ?_
 ·simp (disch := omega) only [RB, RC, simprocAttr, hn]
  exact ⟨0, by omega, rfl, hS2⟩
 rintro n l H3 ⟨hn, g2, g4, g7, g8, j, hj, g9, hS3⟩
 simp (disch := omega) only [↓RA, RB, simprocAttr, hn, g8, g9]
 refine iA (fun q1 => ?_) (fun q1 => ?_)
 ·have hx := hz _ (iE (xs := xs) (j := j) (by omega))
  have hok : Nt.Ok (jU (xs.take j)) := rR _ _ (fun z h => hz z (List.mem_of_mem_take h)) ⟨by decide, by decide⟩
  simp (disch := omega) only [↓RA, RZ, simprocAttr, hn, g7, g9, (hS3.sl hv).idx, (hS3.sl hv).ld, one, q1]
  refine hS3.cF (b2G (iB xs j) hx) fun H4 hS4 => ?_
  simp (disch := omega) only [↓RA, RZ, simprocAttr, hn, g4, hS4.ag 1 rfl, q1]
  refine hS4.cF (a6R (jU (xs.take j)) hok (iB xs j) hx.1 hx.2) fun H5 hS5 => ?_
  simp (disch := omega) only [↓RA, RZ, simprocAttr, hn, g4, q1]
  refine hS5.aa 1 rfl [(.int .u64 (sV (jU (xs.take j)) (iB xs j)).1), (.int .u64 (sV (jU (xs.take j)) (iB xs j)).2)] rfl rfl kW (by simp) fun H6 hS6 => ?_
  simp only [RT] at hS6
  simp (disch := omega) only [↓RA, RZ, simprocAttr, hn, g2, g4, g7, g8, g9, q1]
  refine ⟨n - 1, by omega, j + 1, by omega, by simp, ?_⟩
  rw [a6Q xs (by omega)]
  exact hS6.pick [0, 1] (by decide) rfl
 have hjj : j = xs.length := by omega
 simp (disch := omega) only [↓RA, RZ, simprocAttr, hn, g2, g4, hS3.ag 1 rfl, q1]
 refine hS3.aa 0 rfl [(.int .u64 (jU (xs.take j)).1), (.int .u64 (jU (xs.take j)).2)] rfl rfl kW (by simp) fun H7 hS7 => ?_
 simp only [RT] at hS7
 simp (disch := omega) only [↓RA, RZ, simprocAttr, hn, g2, c5N, hS7.ag 0 rfl, q1]
 rw [hjj, dT]
 exact ⟨rfl, hS7.forget⟩
end Go.Ds
namespace Go.Ds
open Go.Proofs
variable {H : Heap}
set_option maxRecDepth 10000
set_option maxHeartbeats 1000000
theorem St.perm {P : Program} {H0 : Base} {os os' : List Ob} (h : St P H0 H os) (hp : os.Perm os') : St P H0 H os' where
 len := h.len
 old := h.old
 own o ho := h.own o (hp.mem_iff.2 ho)
 new o ho := h.new o (hp.mem_iff.2 ho)
 sep := (List.Perm.pairwise_iff (fun {_ _} hxy B hB hB2 => hxy B hB2 hB) hp).1 h.sep
theorem Lp.swap {P : Program} {B : Base} {L : Nat} {r : Loop} {xs ys zs : List Ob} (h : Lp P B L r H ((xs ++ ys) ++ zs)) : Lp P B L r H ((xs ++ zs) ++ ys) := by
 have hp : ((xs ++ ys) ++ zs).Perm ((xs ++ zs) ++ ys) := by
  rw [ec, ec]
  exact (List.perm_append_comm).append_left xs
 exact ⟨h.st.perm hp, h.get, h.lo, fun o ho => h.ne o (hp.mem_iff.2 ho)⟩
end Go.Ds
namespace Go.Ds
open Go.Proofs Go.Proofs.Tryz
variable {H : Heap}
set_option maxRecDepth 10000
set_option maxHeartbeats 1000000
def ctz (x : Nat) : Nat := ((List.range 64).find? fun i => x.testBit i).getD 64
theorem a1O {x : Nat} (h0 : x ≠ 0) (h1 : x < 18446744073709551616) : ctz x < 64 ∧ x.testBit (ctz x) = true ∧ ∀ j, j < ctz x → x.testBit j = false := by
 have hx : ∃ i, i < 64 ∧ x.testBit i = true := by
  refine fK fun hn => h0 ?_
  refine fR fun i => ?_
  rw [ia]
  by_cases hi : i < 64
  ·by_cases hb : x.testBit i = true
   ·exact absurd ⟨i, hi, hb⟩ hn
   ·simpa using hb
  ·exact Nat.testBit_lt_two_pow (dF (show x < 2 ^ 64 by simpa using h1) (ff (by decide) (by omega)))
 unfold ctz
 cases hf : (List.range 64).find? fun i => x.testBit i with
 | none =>
   obtain ⟨i, hi, hb⟩ := hx
   have := gh.1 hf i (dw.2 hi)
   exact absurd hb (by simpa using this)
 | some i =>
   obtain ⟨hb, ys, bs, he, hn⟩ := List.find?_eq_some_iff_append.1 hf
   have hi : i < 64 := dw.1 (he ▸ (by simp : i ∈ ys ++ i :: bs))
   refine ⟨hi, hb, fun j hj0 => ?_⟩
   have hj : j < i := hj0
   have hl : ys.length = i := by
    have h2 : (List.range 64)[ys.length]? = some i := by rw [he]; simp
    have h3 : ys.length < 64 := by
     have := congrArg List.length he
     simp at this
     omega
    rw [gD h3] at h2
    exact cS h2
   have hm : j ∈ ys := by
    have h2 : (List.range 64)[j]? = some j := gD (by omega)
    rw [he, eh (by simpa using (hl ▸ hj))] at h2
    exact dK h2
   simpa using hn j hm
theorem a3H {x : Nat} (h0 : x ≠ 0) (h1 : x < 18446744073709551616) : ∃ m, x = 2 ^ ctz x * (2 * m + 1) := by
 obtain ⟨c1, c2, c3⟩ := a1O h0 h1
 generalize ctz x = k at c1 c2 c3
 have hd : x % 2 ^ k = 0 := by
  refine fR fun i => ?_
  rw [Nat.testBit_mod_two_pow, ia]
  by_cases hi : i < k
  ·rw [c3 i hi, Bool.and_false]
  ·rw [decide_eq_false hi, fD]
 have h2 : x / 2 ^ k % 2 = 1 := by
  rw [← ez]
  have := c2
  rw [tb] at this
  exact of_decide_eq_true this
 refine ⟨x / 2 ^ k / 2, ?_⟩
 have h3 := Nat.div_add_mod x (2 ^ k)
 have h4 := Nat.div_add_mod (x / 2 ^ k) 2
 rw [hd, gO] at h3
 rw [← h3]
 congr 1
 rw [h3]
 omega
theorem b9A {x : Nat} (h0 : x ≠ 0) (h1 : x < 18446744073709551616) : x &&& (18446744073709551616 - x) = 2 ^ ctz x := by
 obtain ⟨m, hm⟩ := a3H h0 h1
 obtain ⟨c1, _, _⟩ := a1O h0 h1
 generalize ctz x = k at hm c1
 have e64 : (18446744073709551616 : Nat) = 2 ^ k * (2 * 2 ^ (63 - k)) := by
  have : 2 ^ k * (2 * 2 ^ (63 - k)) = 2 ^ 64 := by rw [← Nat.pow_succ', ← Nat.pow_add]; congr 1; omega
  rw [this]
 have hml : m < 2 ^ (63 - k) := by
  rw [e64, hm] at h1
  have := Nat.lt_of_mul_lt_mul_left h1
  omega
 have e2 : 18446744073709551616 - x = 2 ^ k * (2 * (2 ^ (63 - k) - (m + 1)) + 1) := by
  rw [e64, hm, ← Nat.mul_sub]
  congr 1
  omega
 rw [e2, hm]
 refine fR fun i => ?_
 rw [Nat.testBit_and, fV]
 have hs : ∀ y : Nat, (2 ^ k * y).testBit i = (decide (k ≤ i) && y.testBit (i - k)) := fun y => by rw [Nat.mul_comm, Nat.testBit_mul_two_pow]
 rw [hs, hs]
 by_cases hi : k ≤ i
 ·rw [decide_eq_true hi, gG, gG]
  by_cases he : i = k
  ·subst he
   rw [Nat.sub_self, Nat.testBit_zero, Nat.testBit_zero]
   simp
  ·obtain ⟨j, hj⟩ : ∃ j, i - k = j + 1 := ⟨i - k - 1, by omega⟩
   rw [hj, Nat.testBit_succ, Nat.testBit_succ, show (2 * m + 1) / 2 = m by omega, show (2 * (2 ^ (63 - k) - (m + 1)) + 1) / 2 = 2 ^ (63 - k) - (m + 1) by omega, Nat.testBit_two_pow_sub_succ hml, decide_eq_false (by omega : ¬ k = i)]
   cases m.testBit j <;> simp
 ·rw [decide_eq_false hi, fD, decide_eq_false (by omega)]
  rfl
theorem c4m : ((List.range 64).all fun k => decide (2 ^ k * 285870213051353865 % 18446744073709551616 / 288230376151711744 < 64) && decide (t64.getD (2 ^ k * 285870213051353865 % 18446744073709551616 / 288230376151711744) 99 = k)) = true := by kernel_rfl
theorem b7j {P : Program} {t : TypeId} {n : Nat} {elem : TypeId} {size : Nat} (ha : P.underlying t = some (.array n elem)) (hs : iD P elem = some size) (A i : Nat) (k : IntKind) (j : Int) (h0 : 0 ≤ j) (h1 : j < n) :
 wP (iT P t) P t (.pointer (some ⟨A, i, none⟩)) (.int k j) = some (.pointer (some ⟨A, i + j.toNat * size, none⟩)) := by
 have hn : iT P t = none := by simp [iT, iG, ha]
 rw [hn]
 simp only [wP, a1L, ha, hs, cU]
 rw [if_pos (by simp [h0, h1])]
theorem c1W (k : IntKind) (j : Int) (h0 : 0 ≤ j) (h1 : j < 64) : wP (iT prog 241) prog 241 (.pointer (some ⟨0, 0, none⟩)) (.int k j) = some (.pointer (some ⟨0, 0 + j.toNat * 1, none⟩)) :=
 b7j (n := 64) (elem := 5) (size := 1) (by kernel_rfl) (by kernel_rfl) 0 0 k j h0 h1
theorem b3w (g : Nat) (l : List Value) (K : Value → Prop) : jI (.global g) l K = K (.pointer (some ⟨g, 0, none⟩)) := by simp [jI, iP, ev]
theorem gld (hG : Glob gH H) (j : Nat) (hj : j < 64) (s : Option Nat) : pM (some false) s H (.pointer (some ⟨0, j, none⟩)) = some (.int .u8 (t64.getD j 0 : Nat)) := by
 have h0 : iR H 0 = some (.cells (t64.map fun (n : Nat) => Value.int .u8 (.ofNat n)) 5 false 0 1) := by
  rw [hG.same 0 (by decide)]
  rfl
 simp only [pM, jD, h0]
 have hl : (t64.map fun (n : Nat) => Value.int .u8 (.ofNat n)).length = 64 := by rw [dO]; rfl
 rw [if_pos (by rw [hl]; simp; omega)]
 simp only [cU]
 rw [dN (by omega), dB, gO, eF, dh (show j < t64.length from hj)]
 rw [dI, cX, dh (show j < t64.length from hj)]
 rfl
theorem b0w (m : Int) : IntKind.wrap .u64 m = m % 18446744073709551616 := by
 show (if (false && decide (m % 18446744073709551616 ≥ 9223372036854775808)) = true then m % 18446744073709551616 - 18446744073709551616 else m % 18446744073709551616) = _
 simp
theorem c4q (hG : Glob gH H) (x : Nat) (h0 : x ≠ 0) (h1 : x < 18446744073709551616) : Fn prog 122 [.int .u64 x] H fun r H' => r = I (ctz x) ∧ St prog H H' [] := by
 obtain ⟨c1, _, _⟩ := a1O h0 h1
 have hd := dj.1 c4m (ctz x) (dw.2 c1)
 rw [cT, decide_eq_true_eq, decide_eq_true_eq] at hd
 have eA : IntKind.wrap .u64 (0 - (x : Int)) = ((18446744073709551616 - x : Nat) : Int) := by
  rw [b0w]
  omega
 have eB : IntKind.wrap .u64 ((BitVec.ofInt (IntKind.bits .u64) (x : Int) &&& BitVec.ofInt (IntKind.bits .u64) ((18446744073709551616 - x : Nat) : Int)).toNat : Int) = ((2 ^ ctz x : Nat) : Int) := by
  rw [gB, uR x h1, uR _ (by omega), b9A h0 h1]
  exact pR _ (by omega) (by have := a5w (ctz x) c1; omega)
 have eC : IntKind.wrap .u64 (((2 ^ ctz x : Nat) : Int) * 285870213051353865) = ((2 ^ ctz x * 285870213051353865 % 18446744073709551616 : Nat) : Int) := by
  rw [b0w]
  rfl
 have eD : ((2 ^ ctz x * 285870213051353865 % 18446744073709551616 : Nat) : Int).fdiv (2 ^ min 58 (IntKind.bits .u64)) = ((2 ^ ctz x * 285870213051353865 % 18446744073709551616 / 288230376151711744 : Nat) : Int) := by
  rw [show (2 : Int) ^ min 58 (IntKind.bits .u64) = ((288230376151711744 : Nat) : Int) from rfl]
  exact gu _ (by omega)
 have hd1 := hd.1
 have hd2 := hd.2
 generalize 2 ^ ctz x * 285870213051353865 % 18446744073709551616 / 288230376151711744 = i at eD hd1 hd2
 refine .aQ func122 rfl (by kernel_rfl) (m := 14) rfl fun l hn g0 => ?_
 have iR := gld hG i hd1 (some 1)
 rw [show t64.getD i 0 = ctz x from by rw [← hd2, cX, cX, dh (show i < t64.length from hd1)]; rfl] at iR
 have hidx := c1W .u64 (i : Int) (by omega) (by omega)
 rw [eJ, Nat.mul_one, fO] at hidx
 simp (disch := omega) only [↓RA, RB, simprocAttr, hn, g0]
 refine iA (fun q => ?_) (fun q => ?_)
 ·exfalso; omega
 simp (disch := omega) only [↓RA, RZ, simprocAttr, hn, g0, c3b, eA, eB, eC, eD, b3w, iR, hidx, q]
 first | exact (sR H) | exact ⟨rfl, (sR H)⟩
theorem a4R {x : Nat} (h0 : x ≠ 0) (h1 : x < 18446744073709551616) (j : Nat) : (x &&& (x - 1)).testBit j = (x.testBit j && !decide (j = ctz x)) := by
 obtain ⟨m, hm⟩ := a3H h0 h1
 generalize ctz x = k at hm
 have hp : 0 < 2 ^ k := Nat.two_pow_pos k
 have e1 : x = 2 ^ (k + 1) * m + 2 ^ k := by rw [hm, Nat.pow_succ, Nat.mul_add, Nat.mul_one, Nat.mul_assoc]
 have e2 : x - 1 = 2 ^ (k + 1) * m + (2 ^ k - 1) := by omega
 have hl : 2 ^ k < 2 ^ (k + 1) := Nat.pow_lt_pow_right (by decide) (by omega)
 rw [Nat.testBit_and, e2]
 rw [e1, Nat.testBit_two_pow_mul_add m hl, Nat.testBit_two_pow_mul_add m (by omega : 2 ^ k - 1 < 2 ^ (k + 1))]
 by_cases hj : j < k + 1
 ·rw [if_pos hj, if_pos hj, fV, Nat.testBit_two_pow_sub_one]
  by_cases he : j = k
  ·simp [he]
  ·simp [show ¬ k = j by omega]
 ·rw [if_neg hj, if_neg hj, show decide (j = k) = false from decide_eq_false (by omega)]
  simp
theorem b3E {x : Nat} (h0 : x ≠ 0) (h1 : x < 18446744073709551616) : pI x = ctz x :: pI (x &&& (x - 1)) := by
 obtain ⟨c1, c2, c3⟩ := a1O h0 h1
 have hb := a4R h0 h1
 generalize ctz x = k at c1 c2 c3 hb
 obtain ⟨t, ht⟩ := a7V c1
 have hnd : (List.range 64).Nodup := List.nodup_range
 unfold pI
 rw [ht, eT, eT, List.filter_cons_of_pos (by simpa using c2), List.filter_cons_of_neg (by rw [hb]; simp)]
 rw [ht] at hnd
 have e1 : (List.range k).filter (fun i => x.testBit i) = [] := List.filter_eq_nil_iff.2 fun i hi => by simpa using c3 i (dw.1 hi)
 have e2 : (List.range k).filter (fun i => (x &&& (x - 1)).testBit i) = [] := List.filter_eq_nil_iff.2 fun i hi => by rw [hb, c3 i (dw.1 hi)]; simp
 rw [e1, e2, eY, eY]
 congr 1
 refine List.filter_congr fun i hi => ?_
 have hne : i ≠ k := fun e => by
  subst e
  exact (List.nodup_cons.1 (List.nodup_append.1 hnd).2.1).1 hi
 rw [hb, decide_eq_false hne]
 simp
theorem b0p : pI 0 = [] := List.filter_eq_nil_iff.2 fun i _ => by simp
def mN (x : Nt) : List Int := (pI x.1).map (fun (i : Nat) => (i : Int)) ++ (pI x.2).map fun (i : Nat) => 64 + (i : Int)
def a7z (x : Nt) (i : Nat) : Nat := if i = 0 then x.1 else x.2
def a5b (x : Nt) (i : Nat) : List Int := (pI (a7z x i)).map fun (j : Nat) => 64 * (i : Int) + (j : Int)
def a5y (x : Nt) (i : Nat) : List Int := (List.range i).flatMap (a5b x)
theorem a0k (x : Nt) (i : Nat) : a5y x (i + 1) = a5y x i ++ a5b x i := by
 unfold a5y
 rw [ef, dM, dH, fg, dr]
theorem a7U (x : Nt) : a5y x 2 = mN x := by
 rw [a0k, a0k]
 unfold mN a5y a5b a7z
 simp
theorem b9y {x : Nt} (hx : Nt.Ok x) (i : Nat) : a7z x i < 18446744073709551616 := by
 unfold a7z
 split
 ·exact hx.1
 ·exact hx.2
theorem c4K (a b : Int) : pC prog 215 (.agg #[.int .u64 a, .int .u64 b]) (I 0) = some (.int .u64 a) := by kernel_rfl
theorem c3p (a b : Int) : pC prog 215 (.agg #[.int .u64 a, .int .u64 b]) (I 1) = some (.int .u64 b) := by kernel_rfl
theorem c6l (x : Nt) (i : Nat) (h : i < 2) : a2K (nZ prog 215) prog 215 (.agg #[.int .u64 x.1, .int .u64 x.2]) (I i) = some (.int .u64 (a7z x i)) := by
 rw [← a6k]
 rcases (by omega : i = 0 ∨ i = 1) with rfl | rfl
 ·exact c4K _ _
 ·exact c3p _ _
theorem c1c (x : Nt) (hx : Nt.Ok x) (A : Nat) (f : Value) (J : List Int → Heap → Prop) (h0 : J [] H) (hg : ∀ d H1, J d H1 → Var H1 A 2 [.int .u64 x.1, .int .u64 x.2] ∧ Glob gH H1)
 (hst : ∀ d H1 H2, J d H1 → St prog H1 H2 [] → J d H2)
 (hf : ∀ d c e H1, mN x = d ++ c :: e → J d H1 → tI prog f [I c] H1 fun v H2 => v = .bool true ∧ J (d ++ [c]) H2) :
 FnS prog 121 [f, ptr A 0 2] H fun _ H' => J (mN x) H' := by
 have hV0 := (hg _ _ h0).1
 refine FnS.aX func121 rfl (by kernel_rfl) fun l hl => ?_
 have hn : l.length = 29 := by rw [hl]; rfl
 have g0 : get l 0 = f := by rw [hl]; rfl
 have g1 : get l 1 = (ptr A 0 2) := by rw [hl]; rfl
 clear hl
 simp (disch := omega) only [↓RA, RZ, simprocAttr, hn, g1, hV0.ld, b2d]
 refine Wp.al (fun n l H' => l.length = 29 ∧ get l 0 = f ∧ get l 1 = ptr A 0 2 ∧ get l 9 = .agg #[.int .u64 x.1, .int .u64 x.2] ∧ ∃ i : Nat, n + i = 2 ∧ get l 10 = I i ∧ J (a5y x i) H') 2 ?_ ?_
 ·simp (disch := omega) only [RB, RC, simprocAttr, hn, g0, g1]
  exact ⟨0, rfl, rfl, h0⟩
 rintro n l H9 ⟨hn, g0, g1, g9, i, hi, nS, hJ⟩
 simp (disch := omega) only [↓RA, RB, simprocAttr, hn, nS]
 refine iA (fun q1 => ?_) (fun q1 => ?_)
 ·have hix := c6l x i (by omega)
  have hwl := b9y hx i
  simp (disch := omega) only [↓RA, RZ, simprocAttr, hn, g9, nS, q1, hix]
  refine Wp.al (fun n2 l H' => l.length = 29 ∧ get l 0 = f ∧ get l 1 = ptr A 0 2 ∧ get l 9 = .agg #[.int .u64 x.1, .int .u64 x.2] ∧ get l 10 = I i ∧ get l 3 = I i ∧ ∃ (y : Nat) (d : List Nat), (n2 = (pI y).length ∧ y < 18446744073709551616 ∧ pI (a7z x i) = d ++ pI y) ∧ get l 4 = .int .u64 y ∧ J (a5y x i ++ d.map fun (j : Nat) => 64 * (i : Int) + (j : Int)) H') (pI (a7z x i)).length ?_ ?_
  ·simp (disch := omega) only [RB, RC, simprocAttr, hn, g0, g1, g9, nS]
   exact ⟨a7z x i, [], ⟨rfl, hwl, rfl⟩, rfl, by rw [fP, dr]; exact hJ⟩
  rintro n2 l H8 ⟨hn, g0, g1, g9, nS, g3, y, d, ⟨hn2, hy, hbd⟩, g4, hJ2⟩
  simp (disch := omega) only [↓RA, RB, simprocAttr, hn, g4]
  refine iA (fun q2 => ?_) (fun q2 => ?_)
  ·have hy0 : y ≠ 0 := by omega
   have hc := a1O hy0 hy
   have hlow := b3E hy0 hy
   have hGl := (hg _ _ hJ2).2
   have eY1 : IntKind.wrap .u64 ((y : Int) - 1) = ((y - 1 : Nat) : Int) := by
    rw [b0w]
    omega
   have eY2 : IntKind.wrap .u64 ((BitVec.ofInt (IntKind.bits .u64) (y : Int) &&& BitVec.ofInt (IntKind.bits .u64) ((y - 1 : Nat) : Int)).toNat : Int) = ((y &&& (y - 1) : Nat) : Int) := by
    rw [gB, uR y hy, uR _ (by omega)]
    have := Nat.and_le_left (n := y) (m := y - 1)
    exact pR _ (by omega) (by omega)
   have hyl : y &&& (y - 1) < 18446744073709551616 := Nat.lt_of_le_of_lt Nat.and_le_left hy
   have hmem : mN x = (a5y x i ++ d.map fun (j : Nat) => 64 * (i : Int) + (j : Int)) ++ (64 * (i : Int) + (ctz y : Int)) :: ((pI (y &&& (y - 1))).map (fun (j : Nat) => 64 * (i : Int) + (j : Int)) ++ ((List.range 2).drop (i + 1)).flatMap (a5b x)) := by
    rw [← a7U]
    unfold a5y
    have e : List.range 2 = List.range i ++ i :: (List.range 2).drop (i + 1) := by
     rcases (by omega : i = 0 ∨ i = 1) with rfl | rfl <;> rfl
    rw [congrArg (List.flatMap (a5b x)) e, dM, dH]
    rw [show a5b x i = (d ++ pI y).map (fun (j : Nat) => 64 * (i : Int) + (j : Int)) from by unfold a5b; rw [hbd]]
    rw [hlow, dP, dZ]
    simp only [ec, gY]
   have hc1 := hc.1
   simp (disch := omega) only [↓RA, RZ, simprocAttr, hn, g0, g3, g4, q2]
   refine (sR H8).cF (c4q ((sR H8).gl hGl) y hy0 hy) fun H1 hS1 => ?_
   simp (disch := omega) only [↓RA, RZ, simprocAttr, hn, q2]
   refine a9S (hf _ _ _ _ hmem (hst _ _ _ hJ2 hS1)) ?_
   rintro r H10 ⟨rfl, hJ3⟩
   simp (disch := omega) only [↓RA, RZ, simprocAttr, hn, g0, g1, g9, nS, g3, g4, q2, eY1, eY2]
   refine ⟨(pI (y &&& (y - 1))).length, by rw [hn2, hlow]; simp, y &&& (y - 1), d ++ [ctz y], ⟨rfl, hyl, by rw [hbd, hlow]; simp⟩, rfl, ?_⟩
   rw [dP, dZ, fP, ← ec]
   exact hJ3
  simp (disch := omega) only [↓RA, RZ, simprocAttr, hn, g0, g1, g9, nS, q2]
  have hy0 : y = 0 := by omega
  subst hy0
  refine ⟨n - 1, by omega, i + 1, by omega, by simp, ?_⟩
  rw [a0k]
  have : a5b x i = d.map fun (j : Nat) => 64 * (i : Int) + (j : Int) := by
   unfold a5b
   rw [hbd, b0p, dr]
  rw [this]
  exact hJ2
 simp (disch := omega) only [↓RA, RZ, simprocAttr, c3e, q1]
 have e : i = 2 := by omega
 subst e
 rw [← a7U]
 exact hJ
theorem xJ (x : Nt) : (mN x).length ≤ 128 := by
 unfold mN
 rw [dq, dO, dO]
 have h1 := a7Q x.1 64
 have h2 := a7Q x.2 64
 unfold b7a at h1 h2
 unfold pI
 omega
theorem b2B (hG : Glob gH H) (x : Nt) (hx : Nt.Ok x) (A : Nat) (hA : Var H A 2 [.int .u64 x.1, .int .u64 x.2]) :
 Fn prog 120 [.slice none 0 0, .func (.func 121) #[] #[ptr A 0 2]] H fun r H' => St prog H H' [⟨r, 1, (mN x).flatMap (one I)⟩] := by
 refine .aJ func120 rfl (by kernel_rfl) (m := 13) rfl fun l hn g0 g1 => ?_
 simp (disch := omega) only [↓RA, RB, simprocAttr, g0]
 refine (sR H).eNew 1 [(.slice none 0 0)] rfl rfl rfl b2P fun A1 H1 hS1 => ?_
 simp only [RT] at hS1
 simp (disch := omega) only [↓RA, RB, simprocAttr, g1]
 have hS2 := hS1.nil 0
 simp only [RT] at hS2
 refine Wp.cE fun lrg1 hlrg1 => ?_
 have hnrg1 : lrg1.length = 13 := by rw [hlrg1]; simp (disch := omega) only [RB, simprocAttr, hn]
 have g2rg1 : get lrg1 2 = (ptr A1 0 1) := by rw [hlrg1]; simp (disch := omega) only [RB, simprocAttr, hn]
 have g4rg1 : get lrg1 4 = (.slice none 0 0) := by rw [hlrg1]; simp (disch := omega) only [RB, simprocAttr, hn]
 have gfrg1 : get lrg1 6 = .func (.func 121) #[] [(ptr A 0 2)].toArray := by rw [hlrg1]; simp (disch := omega) only [RB, simprocAttr, hn]
 clear hlrg1
 refine Wp.ch gfrg1 fun rg1 hstrg1 hpdrg1 htmrg1 hpsrg1 hasrg1 hbdrg1 => ?_
 have hreqrg1 : ({ rg1 with state := .ready, pending := none } : Loop) = rg1 := by
  cases rg1
  simp only at hstrg1 hpdrg1
  subst hstrg1 hpdrg1
  rfl
 have hLprg1 := Lp.enter hS2 rg1
 generalize H1.cons (.loop rg1) = Hcrg1 at hLprg1 ⊢
 generalize H1.length = Lrg1 at hLprg1 ⊢
 refine (c1c x hx A (.func (.yield Lrg1) #[] #[]) (fun d H1 => ∃ ow, Lp prog H Lrg1 rg1 H1 [⟨ptr A1 0 1, 0, [ow]⟩, ⟨ow, 1, d.flatMap (one I)⟩]) ⟨.slice none 0 0, hLprg1⟩ ?_ ?_ ?_).mono ?_
 ·rintro d H1 ⟨ow, h⟩
  exact ⟨hA.ab h.st.ab, h.st.gl hG⟩
 ·rintro d H1 H2 ⟨ow, h⟩ hS
  exact ⟨ow, by simpa using h.ext hS⟩
 ·rintro d c e H20 hm ⟨ow, hLpj⟩
  have hml := xJ x
  have hdl : d.length < 128 := by
   rw [hm, dq, dX] at hml
   omega
  refine a0v hLpj.get (by rw [hpsrg1]; rfl) hstrg1 ?_
  refine Wp.bP (l := put lrg1 (some 7) (I c)) hasrg1 (by rw [hpsrg1, htmrg1]; first | exact (mW ..).symm | rfl | simp [put, mW]) ?_
  simp (disch := omega) only [↓RA, RZ, simprocAttr, hnrg1]
  refine ⟨rg1, hLpj.get, hstrg1, ?_⟩
  have hYBs1 := hLpj.set (fun h => h) { rg1 with state := .busy }
  have hKBs1 : ∀ B, B ≠ Lrg1 → iR (hset H20 Lrg1 (.loop { rg1 with state := .busy })) B = iR H20 B := fun B h => iZ _ (eU h)
  have hNBs1 : (hset H20 Lrg1 (.loop { rg1 with state := .busy })).length = H20.length := jL ..
  generalize hset H20 Lrg1 (.loop { rg1 with state := .busy }) = HBs1 at hYBs1 hKBs1 hNBs1 ⊢
  refine Wp.bP hbdrg1 rfl ?_
  have hZBs1 := hYBs1.st
  obtain ⟨Bs1, hBBs1, hS3⟩ := hZBs1.aC (os := [⟨ptr A1 0 1, 0, _⟩, ⟨ow, 1, _⟩])
  simp (disch := omega) only [↓RA, RZ, simprocAttr, hnrg1, g2rg1, hS3.ld 0 rfl]
  refine hS3.ai [I c] yC a1J rfl rfl (by simp [Value.cells]) rfl rfl (by decide) (by decide) fun w1 H2 hS4 => ?_
  simp only [RT] at hS4
  simp (disch := omega) only [↓RA, RZ, simprocAttr, hnrg1]
  refine hS4.aq 1 rfl (hS4.rd 2 rfl) yC (by rw [pJ, dO]; simp; omega) fun w2 H3 hS5 => ?_
  simp only [RT] at hS5
  simp (disch := omega) only [↓RA, RB, simprocAttr, hnrg1, g2rg1]
  refine hS5.aa 0 rfl [w2] (by rw [(hS5.rd 1 rfl).cells.1]) (by simp [(hS5.rd 1 rfl).cells.2.1]) b2P (by simp) fun H4 hS6 => ?_
  simp only [RT] at hS6
  simp (disch := omega) only [↓RA, simprocAttr]
  have hS7 := hS6.pick (os' := [⟨ptr A1 0 1, 0, _⟩, ⟨w2, 1, _⟩]) [0, 1] (by decide) rfl
  have hWBs1 := (hYBs1.body (hBBs1 ▸ hS7)).set (fun h => h) rg1
  rw [← hreqrg1] at hWBs1
  refine ⟨_, (hYBs1.body (hBBs1 ▸ hS7)).get, rfl, w2, ?_⟩
  rw [dM]
  exact hreqrg1 ▸ hWBs1
 ·rintro _ H21 ⟨ow, hLp2⟩
  refine ⟨_, hLp2.get, (by rw [hstrg1]; exact fun h => by cases h), fun _ => ?_, fun c hc => by rw [hpdrg1] at hc; cases hc⟩
  have hAAf1 := (hLp2.set (fun h => h) { rg1 with state := .exhausted }).st
  have hKAf1 : ∀ B, B ≠ Lrg1 → iR (hset H21 Lrg1 (.loop { rg1 with state := .exhausted })) B = iR H21 B := fun B h => iZ _ (eU h)
  generalize hset H21 Lrg1 (.loop { rg1 with state := .exhausted }) = HAf1 at hAAf1 hKAf1 ⊢
  simp (disch := omega) only [↓RA, RZ, simprocAttr, hnrg1, g2rg1, hAAf1.ld 0 rfl, c3S]
  exact hAAf1.pick [1] (by decide) rfl
theorem a8D (hG : Glob gH H) (x : Nt) (hx : Nt.Ok x) (A : Nat) (hA : Var H A 2 [.int .u64 x.1, .int .u64 x.2]) :
 Fn prog 90 [.func (.func 121) #[] #[ptr A 0 2]] H fun r H' => St prog H H' [⟨r, 1, (mN x).flatMap (one I)⟩] := by
 refine .aQ func90 rfl (by kernel_rfl) (m := 5) rfl fun l hn g0 => ?_
 simp (disch := omega) only [↓RA, RZ, simprocAttr, hn, g0]
 refine iI ((b2B ((sR H).gl hG) x hx A (hA.ab (sR H).ab)).tr) ?_
 rintro r H1 ⟨-, hT1⟩
 have hS1 := (sR H).trans hT1
 simp only [RT] at hS1
 simp (disch := omega) only [↓RA, RB, simprocAttr, hn, c6A]
 exact hS1
theorem b8I (x : Nt) : Fn prog 91 [.agg #[.int .u64 x.1, .int .u64 x.2]] H fun r H' => ∃ A, r = .func (.func 121) #[] #[ptr A 0 2] ∧ St prog H H' [⟨ptr A 0 2, 0, [.int .u64 x.1, .int .u64 x.2]⟩] := by
 refine .aQ func91 rfl (by kernel_rfl) (m := 4) rfl fun l hn g0 => ?_
 simp (disch := omega) only [↓RA, RB, simprocAttr, g0]
 refine (sR H).eNew 2 [(.int .u64 x.1), (.int .u64 x.2)] rfl rfl rfl kW fun A1 H1 hS1 => ?_
 simp only [RT] at hS1
 simp (disch := omega) only [↓RA, RZ, simprocAttr, hn, c5E]
 exact ⟨A1, rfl, hS1⟩
theorem a2n (hG : Glob gH H) (x : Nt) (hx : Nt.Ok x) :
 Fn prog 58 [.agg #[.int .u64 x.1, .int .u64 x.2]] H fun r H' => St prog H H' [⟨r, 1, (mN x).flatMap (one I)⟩] := by
 refine .aQ func58 rfl (by kernel_rfl) (m := 6) rfl fun l hn g0 => ?_
 simp (disch := omega) only [↓RA, RB, simprocAttr, g0]
 refine (sR H).eNew 2 [(.int .u64 x.1), (.int .u64 x.2)] rfl rfl rfl kW fun A1 H1 hS1 => ?_
 simp only [RT] at hS1
 simp (disch := omega) only [↓RA, RZ, simprocAttr, hn, hS1.ag 0 rfl]
 refine iI (b8I x) ?_
 rintro r H2 ⟨A2, rfl, hT1⟩
 have hS2 := hS1.trans hT1
 simp only [RT] at hS2
 simp (disch := omega) only [↓RA, RZ, simprocAttr, hn]
 refine iI ((a8D (hS2.gl hG) x hx A2 (hS2.var 1 rfl)).tr) ?_
 rintro r H3 ⟨-, hT2⟩
 have hS3 := hS2.trans hT2
 simp only [RT] at hS3
 simp (disch := omega) only [↓RA, RB, simprocAttr, hn, c6h]
 exact hS3.pick [2] (by decide) rfl
def a6L (a b : Nat) : Nat := (BitVec.ofNat 64 a &&& ~~~ BitVec.ofNat 64 b).toNat
theorem a5B (a b : Nat) : a6L a b < 18446744073709551616 := (BitVec.ofNat 64 a &&& ~~~ BitVec.ofNat 64 b).isLt
theorem c0E (a b : Nat) : IntKind.wrap .u64 ((BitVec.ofInt (IntKind.bits .u64) (a : Int) &&& ~~~ BitVec.ofInt (IntKind.bits .u64) (b : Int)).toNat : Int) = ((a6L a b : Nat) : Int) := by
 have e : (BitVec.ofInt (IntKind.bits .u64) (a : Int) &&& ~~~ BitVec.ofInt (IntKind.bits .u64) (b : Int)).toNat = a6L a b := by
  unfold a6L
  rw [fQ, fQ]
  rfl
 rw [e]
 have := a5B a b
 exact pR _ (by omega) (by omega)
theorem a6X (a b j : Nat) (ha : a < 18446744073709551616) (hj : j < 64) : (a6L a b).testBit j = (a.testBit j && !b.testBit j) := by
 unfold a6L
 have h1 : (BitVec.ofNat 64 a &&& ~~~ BitVec.ofNat 64 b).toNat.testBit j = (BitVec.ofNat 64 a &&& ~~~ BitVec.ofNat 64 b).getLsbD j := rfl
 rw [h1, BitVec.getLsbD_and, BitVec.getLsbD_not, BitVec.getLsbD_ofNat, BitVec.getLsbD_ofNat]
 simp [hj]
def woF (x y : Nt) : Nt := (a6L x.1 y.1, a6L x.2 y.2)
theorem c2w (x y : Nt) : Nt.Ok (woF x y) := ⟨a5B _ _, a5B _ _⟩
theorem c1D (x y : Nt) : Fn prog 92 [.agg #[.int .u64 x.1, .int .u64 x.2], .agg #[.int .u64 y.1, .int .u64 y.2]] H fun r H' => r = .agg #[.int .u64 (woF x y).1, .int .u64 (woF x y).2] ∧ St prog H H' [] := by
 have e1 := c0E x.1 y.1
 have e2 := c0E x.2 y.2
 refine .aJ func92 rfl (by kernel_rfl) (m := 16) rfl fun l hn g0 g1 => ?_
 simp (disch := omega) only [↓RA, RB, simprocAttr, g0]
 refine (sR H).eNew 2 [(.int .u64 x.1), (.int .u64 x.2)] rfl rfl rfl kW fun A1 H1 hS1 => ?_
 simp only [RT] at hS1
 simp (disch := omega) only [↓RA, RB, simprocAttr, g1]
 refine hS1.eNew 2 [(.int .u64 y.1), (.int .u64 y.2)] rfl rfl rfl kW fun A2 H2 hS2 => ?_
 simp only [RT] at hS2
 simp (disch := omega) only [↓RA, RZ, simprocAttr]
 refine hS2.eNew 2 [(.int .u64 0), (.int .u64 0)] rfl rfl rfl kW fun A3 H3 hS3 => ?_
 simp only [RT] at hS3
 simp (disch := omega) only [↓RA, RZ, simprocAttr, hn, hS3.ld 0 rfl, hS3.ld 1 rfl, b1S, e1, e2]
 refine hS3.aa 2 rfl [_, _] rfl rfl kW (by simp) fun H4 hS4 => ?_
 simp only [RT] at hS4
 simp (disch := omega) only [↓RA, RZ, simprocAttr, hn, c5S, hS4.ag 2 rfl]
 exact ⟨rfl, hS4.forget⟩
theorem a9F (x y : Nt) : Fn prog 59 [.agg #[.int .u64 x.1, .int .u64 x.2], .agg #[.int .u64 y.1, .int .u64 y.2]] H fun r H' => r = .bool (decide (woF x y = (0, 0))) ∧ St prog H H' [] := by
 refine .aJ func59 rfl (by kernel_rfl) (m := 10) rfl fun l hn g0 g1 => ?_
 simp (disch := omega) only [↓RA, RB, simprocAttr, g0]
 refine (sR H).eNew 2 [(.int .u64 x.1), (.int .u64 x.2)] rfl rfl rfl kW fun A1 H1 hS1 => ?_
 simp only [RT] at hS1
 simp (disch := omega) only [↓RA, RB, simprocAttr, g1]
 refine hS1.eNew 2 [(.int .u64 y.1), (.int .u64 y.2)] rfl rfl rfl kW fun A2 H2 hS2 => ?_
 simp only [RT] at hS2
 simp (disch := omega) only [↓RA, RZ, simprocAttr, hn, hS2.ag 0 rfl, hS2.ag 1 rfl]
 refine hS2.cF (c1D x y) fun H3 hS3 => ?_
 simp (disch := omega) only [↓RA, RZ, simprocAttr, hn, a9E, c5L]
 refine ⟨?_, hS3.forget⟩
 congr 1
 rw [decide_eq_decide]
 constructor
 ·rintro ⟨h1, h2⟩
  exact gI (by simpa using h1) (by simpa using h2)
 ·intro h
  rw [h]
  exact ⟨rfl, rfl⟩
def rM (lo hi : Int) : Nt := jU ((List.range (hi - lo + 1).toNat).map fun (k : Nat) => lo + (k : Int))
theorem a3N (lo hi : Int) (h0 : 0 ≤ lo) (h1 : lo ≤ hi) (h2 : hi ≤ 127) : Fn prog 50 [.agg #[I lo, I hi]] H fun r H' => r = .tuple #[.agg #[.int .u64 (rM lo hi).1, .int .u64 (rM lo hi).2], I 0] ∧ St prog H H' [] := by
 have hce : qO lo hi = 0 := by
  unfold qO
  rw [if_neg (by omega), if_neg (by omega)]
 refine .aQ func50 rfl (by kernel_rfl) (m := 25) rfl fun l hn g0 => ?_
 simp (disch := omega) only [↓RA, RB, simprocAttr, g0]
 refine (sR H).eNew 2 [I lo, I hi] rfl rfl rfl a0T fun A1 H1 hS1 => ?_
 simp only [RT] at hS1
 simp (disch := omega) only [↓RA, RZ, simprocAttr]
 refine hS1.eNew 2 [(.int .u64 0), (.int .u64 0)] rfl rfl rfl kW fun A2 H2 hS2 => ?_
 simp only [RT] at hS2
 simp (disch := omega) only [↓RA, RZ, simprocAttr]
 refine hS2.eNew 2 [(.int .u64 0), (.int .u64 0)] rfl rfl rfl kW fun A3 H3 hS3 => ?_
 simp only [RT] at hS3
 simp (disch := omega) only [↓RA, RZ, simprocAttr, hn, hS3.ag 0 rfl]
 refine hS3.cF (a1f lo hi) fun H4 hS4 => ?_
 rw [hce]
 simp (disch := omega) only [↓RA, RZ, simprocAttr, hn, hS4.ld 0 rfl]
 refine Wp.al (fun n l H' => l.length = 25 ∧ get l 1 = (ptr A1 0 2) ∧ get l 2 = (ptr A2 0 2) ∧ get l 3 = I 0 ∧ get l 4 = (ptr A3 0 2) ∧ ∃ (j : Nat), (n + j = (hi - lo + 1).toNat) ∧ get l 6 = I (lo + (j : Int)) ∧ St prog H H' [⟨ptr A1 0 2, 0, [I lo, I hi]⟩, ⟨ptr A2 0 2, 0, [(.int .u64 0), (.int .u64 0)]⟩, ⟨ptr A3 0 2, 0, [.int .u64 (jU ((List.range j).map fun (k : Nat) => lo + (k : Int))).1, .int .u64 (jU ((List.range j).map fun (k : Nat) => lo + (k : Int))).2]⟩]) (hi - lo + 1).toNat ?_ ?_
 ·simp (disch := omega) only [RB, RC, simprocAttr, hn]
  exact ⟨0, by omega, by simp, hS4⟩
 rintro n l H5 ⟨hn, g1, g2, g3, g4, j, hj, g6, hS5⟩
 simp (disch := omega) only [↓RA, RZ, simprocAttr, hn, g1, g6, hS5.ld 0 rfl]
 refine iA (fun q1 => ?_) (fun q1 => ?_)
 ·have hok : Nt.Ok (jU ((List.range j).map fun (k : Nat) => lo + (k : Int))) := rR _ _ (fun z h => by
   obtain ⟨k, hk, rfl⟩ := dx.1 h
   have := dw.1 hk
   exact ⟨by omega, by omega⟩) ⟨by decide, by decide⟩
  have hsu : jU ((List.range (j + 1)).map fun (k : Nat) => lo + (k : Int)) = sV (jU ((List.range j).map fun (k : Nat) => lo + (k : Int))) (lo + (j : Int)) := by
   unfold jU
   rw [ef, dP, fp]
   rfl
  simp (disch := omega) only [↓RA, RZ, simprocAttr, hn, g4, g6, hS5.ag 2 rfl, q1]
  refine hS5.cF (a6R (jU ((List.range j).map fun (k : Nat) => lo + (k : Int))) hok (lo + (j : Int)) (by omega) (by omega)) fun H6 hS6 => ?_
  simp (disch := omega) only [↓RA, RZ, simprocAttr, hn, g4, q1]
  refine hS6.aa 2 rfl [(.int .u64 (sV (jU ((List.range j).map fun (k : Nat) => lo + (k : Int))) (lo + (j : Int))).1), (.int .u64 (sV (jU ((List.range j).map fun (k : Nat) => lo + (k : Int))) (lo + (j : Int))).2)] rfl rfl kW (by simp) fun H7 hS7 => ?_
  simp only [RT] at hS7
  simp (disch := omega) only [↓RA, RZ, simprocAttr, hn, g1, g2, g3, g4, g6, q1]
  refine ⟨n - 1, by omega, j + 1, by omega, by congr 1; omega, ?_⟩
  rw [hsu]
  exact hS7.pick [0, 1, 2] (by decide) rfl
 have hjj : j = (hi - lo + 1).toNat := by omega
 simp (disch := omega) only [↓RA, RZ, simprocAttr, hn, g2, g4, hS5.ag 2 rfl, q1]
 refine hS5.aa 1 rfl [(.int .u64 (jU ((List.range j).map fun (k : Nat) => lo + (k : Int))).1), (.int .u64 (jU ((List.range j).map fun (k : Nat) => lo + (k : Int))).2)] rfl rfl kW (by simp) fun H8 hS8 => ?_
 simp only [RT] at hS8
 simp (disch := omega) only [↓RA, RZ, simprocAttr, hn, g2, c5P, hS8.ag 1 rfl, q1]
 rw [hjj]
 exact ⟨rfl, hS8.forget⟩
structure Ks (H : Heap) (kv : Value) (ks : List Nt) : Prop where
 sl : Sl 2 ntc H kv ks
 len : ks.length < 1000000000
 ok : ∀ x ∈ ks, Nt.Ok x
theorem Ks.ab {P : Program} {H' : Heap} {kv : Value} {ks : List Nt} {os : List Ob} (h : Ks H kv ks) (hS : St P H H' os) : Ks H' kv ks := ⟨hS.sl h.sl, h.len, h.ok⟩
def mS (o : Org) (ks : List Nt) : Int := if organE o ≠ 0 then organE o else if ks.length ≠ o.dvs.length then 5 else if ∃ j, j < o.dvs.length ∧ woF (iB ks j) (rM (iB o.dvs j).lo (iB o.dvs j).hi) ≠ (0, 0) then 23 else 0
theorem a2F (o : Org) (ho : o.In H) (kv : Value) (ks : List Nt) (hk : Ks H kv ks) : Fn prog 34 [.agg #[.string o.name, o.rv, o.dv, o.cv], kv] H fun r H' => r = I (mS o ks) ∧ St prog H H' [] := by
 have hkl := hk.len
 have hdl := ho.2.2.2.2.2.2.1
 refine .aJ func34 rfl (by kernel_rfl) (m := 43) rfl fun l hn g0 g1 => ?_
 simp (disch := omega) only [↓RA, RB, simprocAttr, g0]
 refine (sR H).eNew 4 [(.string o.name), o.rv, o.dv, o.cv] rfl rfl (by simp [OC, ((sR H).sl ho.1).cells.2.1, ((sR H).sl ho.2.2.1).cells.2.1, ((sR H).sl ho.2.2.2.2.1).cells.2.1]) mJ fun A1 H1 hS1 => ?_
 simp only [RT] at hS1
 simp (disch := omega) only [↓RA, RZ, simprocAttr, hn, hS1.ag 0 rfl]
 refine hS1.cF (xN o (ho.ab hS1)) fun H2 hS2 => ?_
 simp (disch := omega) only [↓RA, RB, simprocAttr, hn]
 refine iA (fun h1 => ?_) (fun h1 => ?_)
 ·simp (disch := omega) only [↓RA, RZ, simprocAttr, hn, b9O, h1]
  exact ⟨by unfold mS; rw [if_pos h1], hS2.forget⟩
 have hz : organE o = 0 := dp.1 h1
 have hf := Org.aS hz
 simp (disch := omega) only [↓RA, RZ, simprocAttr, hn, g1, (hS2.sl hk.sl).len, hS2.ld 0 rfl, (hS2.sl ho.2.2.1).len, h1]
 refine iA (fun h2 => ?_) (fun h2 => ?_)
 ·simp (disch := omega) only [↓RA, RZ, simprocAttr, hn, b9O, h1, h2]
  exact ⟨by unfold mS; rw [if_neg h1, if_pos (by omega)], hS2.forget⟩
 have hlen : ks.length = o.dvs.length := by omega
 simp (disch := omega) only [↓RA, RZ, simprocAttr, hn, hS2.ld 0 rfl, (hS2.sl ho.2.2.1).len, h1, h2]
 refine Wp.al (fun n l H' => l.length = 43 ∧ get l 1 = kv ∧ get l 22 = o.dv ∧ get l 23 = I o.dvs.length ∧ ∃ (j : Nat), (n + j = o.dvs.length ∧ ∀ q, q < j → woF (iB ks q) (rM (iB o.dvs q).lo (iB o.dvs q).hi) = (0, 0)) ∧ get l 24 = I j ∧ St prog H H' [⟨ptr A1 0 4, 0, [(.string o.name), o.rv, o.dv, o.cv]⟩]) o.dvs.length ?_ ?_
 ·simp (disch := omega) only [RB, RC, simprocAttr, hn, g1]
  exact ⟨0, ⟨by omega, fun q hq => absurd hq (dJ _)⟩, rfl, hS2⟩
 rintro n l H3 ⟨hn, g1, g22, g23, j, ⟨hj,hq⟩, g24, hS3⟩
 simp (disch := omega) only [↓RA, RB, simprocAttr, hn, g23, g24]
 refine iA (fun h3 => ?_) (fun h3 => ?_)
 ·have hky := hf.keys j (by omega)
  simp (disch := omega) only [↓RA, RZ, simprocAttr, hn, g22, g24, (hS3.sl ho.2.2.1).idx, (hS3.sl ho.2.2.1).ag, Dvn.cells, h3]
  refine hS3.eNew 5 [(.string ⟨#[]⟩), (.bool false), I 0, I 0, (.slice none 0 0)] rfl rfl rfl yU fun A2 H4 hS4 => ?_
  simp only [RT] at hS4
  simp (disch := omega) only [↓RA, RZ, simprocAttr, hn, h3]
  refine hS4.aa 1 rfl [(.string (iB o.dvs j).name), (.bool (iB o.dvs j).pedal), I (iB o.dvs j).lo, I (iB o.dvs j).hi, (iB o.dvs j).sv] rfl (by simp [OC, (hS4.sl (ho.2.2.2.1 (iB o.dvs j) (iE (by omega))).1).cells.2.1]) yU (by simp) fun H5 hS5 => ?_
  simp only [RT] at hS5
  simp (disch := omega) only [↓RA, RZ, simprocAttr, hn, hS5.ag 1 rfl, h3]
  refine hS5.cF (a3N (iB o.dvs j).lo (iB o.dvs j).hi hky.1 hky.2.1 hky.2.2) fun H6 hS6 => ?_
  simp (disch := omega) only [↓RA, RZ, simprocAttr, hn, h3]
  refine hS6.eNew 2 [(.int .u64 0), (.int .u64 0)] rfl rfl rfl kW fun A3 H7 hS7 => ?_
  simp only [RT] at hS7
  simp (disch := omega) only [↓RA, RZ, simprocAttr, hn, h3]
  refine hS7.aa 2 rfl [(.int .u64 (rM (iB o.dvs j).lo (iB o.dvs j).hi).1), (.int .u64 (rM (iB o.dvs j).lo (iB o.dvs j).hi).2)] rfl rfl kW (by simp) fun H8 hS8 => ?_
  simp only [RT] at hS8
  simp (disch := omega) only [↓RA, RZ, simprocAttr, hn, h3]
  refine Wp.drw kE (by kernel_rfl) ?_
  simp (disch := omega) only [↓RA, RZ, simprocAttr, hn, g1, (hS8.sl hk.sl).idx, (hS8.sl hk.sl).ag, ntc, hS8.ag 2 rfl]
  refine hS8.cF (a9F (iB ks j) (rM (iB o.dvs j).lo (iB o.dvs j).hi)) fun H9 hS9 => ?_
  simp (disch := omega) only [↓RA, RB, simprocAttr, hn]
  refine jT (fun h4 => ?_) (fun h4 => ?_)
  ·have h5 : ¬ woF (iB ks j) (rM (iB o.dvs j).lo (iB o.dvs j).hi) = (0, 0) := by simpa using h4
   simp (disch := omega) only [↓RA, RB, simprocAttr, hn, b9O, h4]
   exact ⟨by unfold mS; rw [if_neg h1, if_neg (by omega), if_pos ⟨j, by omega, h5⟩], hS9.forget⟩
  have h5 : woF (iB ks j) (rM (iB o.dvs j).lo (iB o.dvs j).hi) = (0, 0) := by simpa using h4
  simp (disch := omega) only [↓RA, RZ, simprocAttr, hn, g1, g22, g23, g24, h4]
  exact ⟨n - 1, by omega, j + 1, ⟨by omega, fun q hq' => by rcases di.1 hq' with e | e; (· exact hq q e); (· rw [e]; exact h5)⟩, by simp, hS9.pick [0] (by decide) rfl⟩
 simp (disch := omega) only [↓RA, RZ, simprocAttr, hn, b9O, h3]
 refine ⟨?_, hS3.forget⟩
 unfold mS
 rw [if_neg h1, if_neg (by omega), if_neg]
 rintro ⟨q, hq1, hq2⟩
 exact hq2 (hq q (by omega))
def plD (ks : List Nt) (i : Nat) : List Ct := (mN (iB ks i)).map fun z => ((i : Int), z)
def iF (ks : List Nt) : List Ct := (List.range ks.length).flatMap (plD ks)
theorem c0S (ks : List Nt) (i : Nat) : (plD ks i).length ≤ 128 := by
 unfold plD
 rw [dO]
 exact xJ _
theorem a4b (ks : List Nt) : ∀ i, ((List.range i).flatMap (plD ks)).length ≤ i * 128
 | 0 => by simp
 | i + 1 => by
   have := a4b ks i
   have := c0S ks i
   rw [ef, dM, dq, dH, fg, dr]
   omega
theorem a4l (hG : Glob gH H) (kv : Value) (ks : List Nt) (hk : Ks H kv ks) (h8 : ks.length ≤ 8) : Fn prog 74 [kv] H fun r H' => St prog H H' [⟨r, 2, pr (iF ks)⟩] := by
 refine .aQ func74 rfl (by kernel_rfl) (m := 31) rfl fun l hn g0 => ?_
 simp (disch := omega) only [↓RA, RZ, simprocAttr, hn, g0, ((sR H).sl hk.sl).len]
 have hS1 := (sR H).nil 1
 simp only [RT] at hS1
 refine Wp.al (fun n l H' => l.length = 31 ∧ get l 2 = (.slice none 0 0) ∧ get l 8 = kv ∧ get l 9 = I ks.length ∧ ∃ (i : Nat) (ov : Value), (n + i = ks.length) ∧ get l 10 = I i ∧ get l 3 = ov ∧ St prog H H' [⟨ov, 2, pr ((List.range i).flatMap (plD ks))⟩]) ks.length ?_ ?_
 ·simp (disch := omega) only [RB, RC, simprocAttr, hn]
  exact ⟨0, .slice none 0 0, by omega, rfl, rfl, hS1⟩
 rintro n l H1 ⟨hn, g2, g8, g9, i, ov, hi, nS, g3, hS2⟩
 simp (disch := omega) only [↓RA, RB, simprocAttr, hn, g9, nS]
 refine iA (fun q1 => ?_) (fun q1 => ?_)
 ·have hmo := hk.ok _ (iE (xs := ks) (j := i) (by omega))
  have hml := xJ (iB ks i)
  have hpl := a4b ks i
  simp (disch := omega) only [↓RA, RZ, simprocAttr, hn, g8, nS, (hS2.sl hk.sl).idx, (hS2.sl hk.sl).ag, ntc, q1]
  refine hS2.eNew 2 [(.int .u64 0), (.int .u64 0)] rfl rfl rfl kW fun A1 H2 hS3 => ?_
  simp only [RT] at hS3
  simp (disch := omega) only [↓RA, RZ, simprocAttr, hn, q1]
  refine hS3.aa 1 rfl [(.int .u64 (iB ks i).1), (.int .u64 (iB ks i).2)] rfl rfl kW (by simp) fun H3 hS4 => ?_
  simp only [RT] at hS4
  simp (disch := omega) only [↓RA, RZ, simprocAttr, hn, hS4.ag 1 rfl, q1]
  refine iI ((a2n (hS4.gl hG) (iB ks i) hmo).tr) ?_
  rintro r H4 ⟨-, hT1⟩
  have hS5 := hS4.trans hT1
  simp only [RT] at hS5
  obtain ⟨mw, rfl⟩ : ∃ w, w = r := ⟨r, rfl⟩
  simp (disch := omega) only [↓RA, RZ, simprocAttr, hn, (hS5.aw 2 rfl (fun _ => rfl)).len, q1]
  refine Wp.al (fun n l H' => l.length = 31 ∧ get l 2 = (.slice none 0 0) ∧ get l 4 = I i ∧ get l 8 = kv ∧ get l 9 = I ks.length ∧ get l 10 = I i ∧ get l 16 = mw ∧ get l 17 = I (mN (iB ks i)).length ∧ ∃ (j : Nat) (ow : Value), (n + j = (mN (iB ks i)).length) ∧ get l 18 = I j ∧ get l 3 = ow ∧ St prog H H' [⟨ow, 2, pr ((List.range i).flatMap (plD ks) ++ ((mN (iB ks i)).take j).map fun z => ((i : Int), z))⟩, ⟨ptr A1 0 2, 0, [(.int .u64 (iB ks i).1), (.int .u64 (iB ks i).2)]⟩, ⟨mw, 1, (mN (iB ks i)).flatMap (one I)⟩]) (mN (iB ks i)).length ?_ ?_
  ·simp (disch := omega) only [RB, RC, simprocAttr, hn, g2, g8, g9, nS, g3]
   refine ⟨0, ov, by omega, rfl, rfl, ?_⟩
   rw [List.take_zero, fP, dr]
   exact hS5
  rintro n l H5 ⟨hn, g2, g4, g8, g9, nS, g16, g17, j, ow, hj, g18, g3, hS6⟩
  simp (disch := omega) only [↓RA, RB, simprocAttr, hn, g17, g18]
  refine iA (fun q2 => ?_) (fun q2 => ?_)
  ·have hroom : (pr ((List.range i).flatMap (plD ks) ++ ((mN (iB ks i)).take j).map fun z => ((i : Int), z))).length ≤ 4000 := by
    rw [iK, dq, dO, gf]
    omega
   simp (disch := omega) only [↓RA, RZ, simprocAttr, hn, g4, g16, g18, g3, (hS6.aw 2 rfl (fun _ => rfl)).idx, (hS6.aw 2 rfl (fun _ => rfl)).ld, one, uK, q2]
   refine hS6.ai [I i, I (iB (mN (iB ks i)) j)] vM a9l rfl rfl (by simp [Value.cells]) rfl rfl (by decide) (by decide) fun w1 H6 hS7 => ?_
   simp only [RT] at hS7
   simp (disch := omega) only [↓RA, RZ, simprocAttr, hn, q2]
   refine hS7.aq 0 rfl (hS7.rd 3 rfl) vM (by have h := hroom; simp only [dX, eG]; omega) fun w2 H7 hS8 => ?_
   simp only [RT] at hS8
   simp (disch := omega) only [↓RA, RZ, simprocAttr, hn, g2, g4, g8, g9, nS, g16, g17, g18, q2]
   refine ⟨n - 1, by omega, j + 1, w2, by omega, by simp, rfl, ?_⟩
   rw [List.take_add_one, dh (by omega), Option.toList_some, dP, ← ec, jV]
   rw [show (mN (iB ks i))[j] = iB (mN (iB ks i)) j from (jK _ _ (by omega)).symm]
   exact hS8.pick [0, 1, 2] (by decide) rfl
  simp (disch := omega) only [↓RA, RZ, simprocAttr, hn, g2, g8, g9, nS, g3, q2]
  have hjj : j = (mN (iB ks i)).length := by omega
  refine ⟨ks.length - (i + 1), by omega, i + 1, ow, by omega, by simp, rfl, ?_⟩
  rw [ef, dM, dH, fg, dr]
  rw [show plD ks i = ((mN (iB ks i)).take j).map (fun z => ((i : Int), z)) from by rw [hjj, dT]; rfl]
  exact hS6.pick [0] (by decide) rfl
 have hii : i = ks.length := by omega
 simp (disch := omega) only [↓RA, RZ, simprocAttr, hn, g3, c5Z, q1]
 have hfin := hS2
 rw [hii] at hfin
 exact hfin
end Go.Ds
namespace Go.Ds
open Go.Proofs
set_option maxRecDepth 10000
def qC (x : Nt) (z : Int) : Bool := if z < 64 then x.1.testBit z.toNat else x.2.testBit (z - 64).toNat
theorem vC {x i : Nat} : i ∈ pI x ↔ i < 64 ∧ x.testBit i = true := by
 unfold pI
 rw [eu, dw]
theorem a1Z {x : Nt} {z : Int} : z ∈ mN x ↔ isN z ∧ qC x z = true := by
 unfold mN qC isN
 rw [dD, dx, dx]
 constructor
 ·rintro (⟨i, hi, rfl⟩ | ⟨i, hi, rfl⟩)
  ·obtain ⟨h1, h2⟩ := vC.1 hi
   exact ⟨by omega, by rw [if_pos (by omega)]; exact h2⟩
  ·obtain ⟨h1, h2⟩ := vC.1 hi
   refine ⟨by omega, ?_⟩
   rw [if_neg (by omega), show (64 + (i : Int) - 64).toNat = i by omega]
   exact h2
 ·rintro ⟨h1, h2⟩
  by_cases h : z < 64
  ·rw [if_pos h] at h2
   exact .inl ⟨z.toNat, vC.2 ⟨by omega, h2⟩, by omega⟩
  ·rw [if_neg h] at h2
   exact .inr ⟨(z - 64).toNat, vC.2 ⟨by omega, h2⟩, by omega⟩
theorem b6w (x : Nt) (n z : Int) (hn : isN n) (hz : isN z) : qC (sV x n) z = (qC x z || decide (z = n)) := by
 unfold qC sV isN at *
 by_cases h1 : n < 64
 ·rw [if_pos h1]
  by_cases h2 : z < 64
  ·rw [if_pos h2, if_pos h2, Nat.testBit_or, fV]
   congr 1
   rw [decide_eq_decide]
   omega
  ·rw [if_neg h2, if_neg h2, decide_eq_false (by omega), Bool.or_false]
 ·rw [if_neg h1]
  by_cases h2 : z < 64
  ·rw [if_pos h2, if_pos h2, decide_eq_false (by omega), Bool.or_false]
  ·rw [if_neg h2, if_neg h2, Nat.testBit_or, fV]
   congr 1
   rw [decide_eq_decide]
   omega
theorem a4a (z : Int) : qC (0, 0) z = false := by
 unfold qC
 split <;> simp
theorem a3J : ∀ (xs : List Int) (x : Nt) (z : Int), (∀ n ∈ xs, isN n) → isN z → qC (xs.foldl sV x) z = (qC x z || decide (z ∈ xs))
 | [], x, z, _, _ => by simp
 | n :: xs, x, z, h, hz => by
   rw [eE, a3J xs _ z (fun y hy => h y (dE _ hy)) hz, b6w x n z (h n (dC ..)) hz, Bool.or_assoc]
   congr 1
   rw [eo]
   simp
theorem a2s {xs : List Int} {z : Int} (h : ∀ n ∈ xs, isN n) (hz : isN z) : qC (jU xs) z = decide (z ∈ xs) := by
 unfold jU
 rw [a3J xs _ z h hz, a4a, Bool.false_or]
theorem xF {lo hi z : Int} (h0 : 0 ≤ lo) (h2 : hi ≤ 127) (hz : isN z) : qC (rM lo hi) z = (decide (lo ≤ z) && decide (z ≤ hi)) := by
 unfold rM
 rw [a2s (fun n hn => by
  obtain ⟨k, hk, rfl⟩ := dx.1 hn
  have := dw.1 hk
  exact ⟨by omega, by omega⟩) hz, eo, cT, decide_eq_true_eq, decide_eq_true_eq, decide_eq_true_eq, dx]
 constructor
 ·rintro ⟨k, hk, rfl⟩
  have := dw.1 hk
  omega
 ·rintro ⟨h3, h4⟩
  exact ⟨(z - lo).toNat, dw.2 (by omega), by omega⟩
theorem b1O {x y : Nt} (hx : Nt.Ok x) {z : Int} (hz : isN z) : qC (woF x y) z = (qC x z && !qC y z) := by
 obtain ⟨h1, h2⟩ := hz
 unfold qC woF
 by_cases h : z < 64
 ·rw [if_pos h, if_pos h, if_pos h, a6X _ _ _ hx.1 (by omega)]
 ·rw [if_neg h, if_neg h, if_neg h, a6X _ _ _ hx.2 (by omega)]
theorem a9O {x y : Nt} (hx : Nt.Ok x) (h : woF x y = (0, 0)) {z : Int} (hz : isN z) (hh : qC x z = true) : qC y z = true := by
 have := b1O (y := y) hx hz
 rw [h, a4a, hh] at this
 simpa using this.symm
theorem oW {o : Org} {ks : List Nt} (h : mS o ks = 0) : organE o = 0 ∧ ks.length = o.dvs.length ∧ ∀ j, j < o.dvs.length → woF (iB ks j) (rM (iB o.dvs j).lo (iB o.dvs j).hi) = (0, 0) := by
 unfold mS at h
 split at h
 ·rename_i hh; exact absurd h hh
 rename_i h1
 split at h
 ·omega
 rename_i h2
 split at h
 ·omega
 rename_i h3
 refine ⟨dp.1 h1, by omega, fun j hj => ?_⟩
 by_cases hh : woF (iB ks j) (rM (iB o.dvs j).lo (iB o.dvs j).hi) = (0, 0)
 ·exact hh
 ·exact absurd ⟨j, hj, hh⟩ h3
theorem qH {o : Org} {ks : List Nt} (hok : ∀ x ∈ ks, Nt.Ok x) (h : mS o ks = 0) : ∀ c ∈ iF ks, nA o c = true := by
 obtain ⟨h1, h2, h3⟩ := oW h
 have hf := Org.aS h1
 intro c hc
 unfold iF at hc
 obtain ⟨i, hi, hc⟩ := eM.1 hc
 have hi := dw.1 hi
 unfold plD at hc
 obtain ⟨z, hz, rfl⟩ := dx.1 hc
 obtain ⟨hz1, hz2⟩ := a1Z.1 hz
 have hky := hf.keys i (by omega)
 have hw := a9O (hok _ (iE hi)) (h3 i (by omega)) hz1 hz2
 rw [xF hky.1 hky.2.2 hz1] at hw
 simp only [cT, decide_eq_true_eq] at hw
 unfold nA
 simp only [cT, decide_eq_true_eq, eJ]
 omega
theorem rQ {o : Org} {ks : List Nt} (h : mS o ks = 0) : (iF ks).length ≤ 1024 := by
 obtain ⟨h1, h2, _⟩ := oW h
 have h8 := (Org.aS h1).dlen
 have := a4b ks ks.length
 unfold iF
 omega
structure SegsOk (m : Nat) (lo hi : Int) (gs : List Seg) : Prop where
 ord : ∀ i, i < gs.length → (iB gs i).lo ≤ (iB gs i).hi
 up : ∀ i, i < gs.length → 0 < i → (iB gs (i - 1)).hi < (iB gs i).lo
 within : ∀ i, i < gs.length → lo ≤ (iB gs i).lo ∧ (iB gs i).hi ≤ hi
 draws : ∀ i, i < gs.length → lF m (iB gs i).draws = 0
 len : gs.length ≤ 12
theorem SegsOk.lt {m : Nat} {lo hi : Int} {gs : List Seg} (h : SegsOk m lo hi gs) {i : Nat} : ∀ k, i + 1 + k < gs.length → (iB gs i).hi < (iB gs (i + 1 + k)).lo
 | 0, hk => h.up (i + 1) hk (by omega)
 | k + 1, hk => by
   have h1 := h.lt (i := i) k (by omega)
   have h2 := h.ord (i + 1 + k) (by omega)
   have h3 := h.up (i + 1 + (k + 1)) hk (by omega)
   rw [show i + 1 + (k + 1) - 1 = i + 1 + k by omega] at h3
   omega
theorem SegsOk.one {m : Nat} {lo hi : Int} {gs : List Seg} (h : SegsOk m lo hi gs) {key : Int} {i j : Nat} (hi' : i < gs.length) (hj : j < gs.length) (h1 : (iB gs i).lo ≤ key ∧ key ≤ (iB gs i).hi) (h2 : (iB gs j).lo ≤ key ∧ key ≤ (iB gs j).hi) : i = j := by
 rcases Nat.lt_trichotomy i j with e | e | e
 ·have := h.lt (i := i) (j - i - 1) (by omega)
  rw [show i + 1 + (j - i - 1) = j by omega] at this
  omega
 ·exact e
 ·have := h.lt (i := j) (i - j - 1) (by omega)
  rw [show j + 1 + (i - j - 1) = i by omega] at this
  omega
end Go.Ds
namespace Go.Ds
open Go.Proofs Go.Proofs.Tryz
variable {H : Heap}
set_option maxRecDepth 10000
set_option maxHeartbeats 1000000
def b4H (o : Org) (l : List (Value × Reg)) (ks : List Nt) : Int := if rC o l ≠ 0 then rC o l else mS o ks
theorem b6s (o : Org) (ho : o.In H) (lv : Value) (xs : List (Value × Reg)) (hl : Sl 3 rgc H lv xs) (hle : xs.length < 1000000000) (hr : ∀ p ∈ xs, p.2.In H p.1) (kv : Value) (ks : List Nt) (hk : Ks H kv ks) :
 Fn prog 72 [.agg #[.string o.name, o.rv, o.dv, o.cv], lv, kv] H fun r H' => r = I (b4H o xs ks) ∧ St prog H H' [] := by
 refine .bq func72 rfl (by kernel_rfl) (m := 17) rfl fun l hn g0 g1 g2 => ?_
 simp (disch := omega) only [↓RA, RB, simprocAttr, g0]
 refine (sR H).eNew 4 [(.string o.name), o.rv, o.dv, o.cv] rfl rfl (by simp [OC, ((sR H).sl ho.1).cells.2.1, ((sR H).sl ho.2.2.1).cells.2.1, ((sR H).sl ho.2.2.2.2.1).cells.2.1]) mJ fun A1 H1 hS1 => ?_
 simp only [RT] at hS1
 simp (disch := omega) only [↓RA, RZ, simprocAttr, hn, g1, hS1.ag 0 rfl]
 refine hS1.cF (a3W o (ho.ab hS1) lv xs (hS1.sl hl) hle (fun p hp => (hr p hp).ab hS1)) fun H2 hS2 => ?_
 simp (disch := omega) only [↓RA, RB, simprocAttr, hn]
 refine iA (fun h1 => ?_) (fun h1 => ?_)
 ·simp (disch := omega) only [↓RA, RZ, simprocAttr, hn, c4X, h1]
  exact ⟨by unfold b4H; rw [if_pos h1], hS2.forget⟩
 simp (disch := omega) only [↓RA, RZ, simprocAttr, hn, g2, hS2.ag 0 rfl, h1]
 refine hS2.cF (a2F o (ho.ab hS2) kv ks (hk.ab hS2)) fun H3 hS3 => ?_
 simp (disch := omega) only [↓RA, RZ, simprocAttr, hn, c4X, h1]
 exact ⟨by unfold b4H; rw [if_neg h1], hS3.forget⟩
def rkE (o : Org) (rg : Reg) (ks : List Nt) : Int := if mK o rg ≠ 0 then mK o rg else mS o ks
theorem a7s (o : Org) (sv : Value) (rg : Reg) (ks : List Nt) : b4H o [(sv, rg)] ks = rkE o rg ks := by
 unfold b4H rkE
 rw [a0F]
theorem uT {o : Org} {rg : Reg} {ks : List Nt} (h : rkE o rg ks = 0) : mK o rg = 0 ∧ mS o ks = 0 := by
 unfold rkE at h
 split at h
 ·rename_i hh; exact absurd h hh
 ·rename_i hh; exact ⟨dp.1 hh, h⟩
def nB (o : Org) (rg : Reg) (ks : List Nt) : List Ct := if rkE o rg ks = 0 then jE o rg (iF ks) else []
theorem a0G (hG : Glob gH H) (o : Org) (ho : o.In H) (rg : Reg) (sv : Value) (hr : rg.In H sv) (kv : Value) (ks : List Nt) (hk : Ks H kv ks) :
 Fn prog 42 [.agg #[.string o.name, o.rv, o.dv, o.cv], .agg #[sv, .int .u64 rg.cpl, .int .u64 rg.off], kv] H fun r H' => ∃ pv, r = .tuple #[pv, I (rkE o rg ks)] ∧ Slx 2 kD H' (fun B => H.length ≤ B) pv (nB o rg ks) ∧ St prog H H' [] := by
 refine .bq func42 rfl (by kernel_rfl) (m := 22) rfl fun l hn g0 g1 g2 => ?_
 simp (disch := omega) only [↓RA, RB, simprocAttr, g0]
 refine (sR H).eNew 4 [(.string o.name), o.rv, o.dv, o.cv] rfl rfl (by simp [OC, ((sR H).sl ho.1).cells.2.1, ((sR H).sl ho.2.2.1).cells.2.1, ((sR H).sl ho.2.2.2.2.1).cells.2.1]) mJ fun A1 H1 hS1 => ?_
 simp only [RT] at hS1
 simp (disch := omega) only [↓RA, RB, simprocAttr, g1]
 refine hS1.eNew 3 [sv, (.int .u64 rg.cpl), (.int .u64 rg.off)] rfl rfl (by simp [OC, (hS1.sl hr.1).cells.2.1]) pN fun A2 H2 hS2 => ?_
 simp only [RT] at hS2
 simp (disch := omega) only [↓RA, RZ, simprocAttr, hn, hS2.ag 0 rfl, hS2.ag 1 rfl]
 refine hS2.ai [sv, (.int .u64 rg.cpl), (.int .u64 rg.off)] b6f b6L rfl rfl (by first | (simp []; done) | simp [Value.cells]) (by first | (simp []; done) | simp [Value.cells]) (by simp [OC, (hS2.sl hr.1).cells.2.1]) (by decide) (by decide) fun w1 H3 hS3 => ?_
 simp only [RT] at hS3
 simp (disch := omega) only [↓RA, RZ, simprocAttr, hn, g2]
 refine hS3.cF (b6s o (ho.ab hS3) w1 [(sv, rg)] (hS3.aw 2 rfl (fun _ => rfl)) (by simp) (by intro p hp; rw [du.1 hp]; exact hr.ab hS3) kv ks (hk.ab hS3)) fun H4 hS4 => ?_
 have hsc := a7s o sv rg ks
 simp (disch := omega) only [↓RA, RB, simprocAttr, hn, hsc]
 refine iA (fun h1 => ?_) (fun h1 => ?_)
 ·simp (disch := omega) only [↓RA, RZ, simprocAttr, hn, c2V, hsc, h1]
  exact ⟨.slice none 0 0, rfl, ⟨⟨.inl ⟨rfl, by rw [nB, if_neg h1]; rfl⟩, kF, by decide⟩, fun b h => by simp [kJ] at h⟩, hS4.forget⟩
 have h0 := dp.1 h1
 obtain ⟨hz1, hk0⟩ := uT h0
 obtain ⟨hz3, hz4⟩ := lQ hz1
 have hf := Org.aS hz3
 have h8 : ks.length ≤ 8 := by
  have := hf.dlen
  have := (oW hk0).2.1
  omega
 simp (disch := omega) only [↓RA, RC, simprocAttr, hsc, h1]
 refine Wp.aR kE [(0, 4), (1, 4)] (by kernel_rfl) (by kernel_rfl) ?_
 simp (disch := omega) only [↓RA, RZ, simprocAttr, hn, g2, hS4.ag 0 rfl, hS4.ag 1 rfl]
 refine iI ((a4l (hS4.gl hG) kv ks (hk.ab hS4) h8).tr) ?_
 rintro r H5 ⟨-, hT2⟩
 have hS5 := hS4.trans hT2
 simp only [RT] at hS5
 obtain ⟨pv, rfl⟩ : ∃ w, w = r := ⟨r, rfl⟩
 simp (disch := omega) only [↓RA, RZ, simprocAttr, hn]
 have hSd := hS5
 refine iI (rG o (ho.ab hS5) hf rg sv (hr.ab hS5) hz4 pv (iF ks) (hS5.aw 3 rfl kF) (rQ hk0) (qH hk.ok hk0)) ?_
 rintro r H6 ⟨hx, hT3⟩
 have hS6 := hS5.trans hT3
 simp only [RT] at hS6
 obtain ⟨qv, rfl⟩ : ∃ w, w = r := ⟨r, rfl⟩
 simp (disch := omega) only [↓RA, RZ, simprocAttr, hn, hS5.ag 0 rfl, hS5.ag 1 rfl, c2V, hx.1.bp]
 rw [h0]
 refine ⟨qv, rfl, ⟨?_, fun b h => ?_⟩, hS6.forget⟩
 ·rw [nB, if_pos h0]
  exact hx.1
 ·have := hx.2 b h
  have : H.length ≤ _ := hSd.len
  omega
theorem a4W (hG : Glob gH H) (o : Org) (ho : o.In H) (kv : Value) (ks : List Nt) (hk : Ks H kv ks) (h0 : mS o ks = 0) :
 Fn prog 32 [.agg #[.string o.name, o.rv, o.dv, o.cv], kv] H fun r H' => ∃ cv, r = .tuple #[cv, I 0] ∧ St prog H H' [⟨cv, 2, pr (iF ks)⟩] := by
 have h8 : ks.length ≤ 8 := by
  obtain ⟨h1, h2, _⟩ := oW h0
  have := (Org.aS h1).dlen
  omega
 refine .aJ func32 rfl (by kernel_rfl) (m := 41) rfl fun l hn g0 g1 => ?_
 simp (disch := omega) only [↓RA, RB, simprocAttr, g0]
 refine (sR H).eNew 4 [(.string o.name), o.rv, o.dv, o.cv] rfl rfl (by simp [OC, ((sR H).sl ho.1).cells.2.1, ((sR H).sl ho.2.2.1).cells.2.1, ((sR H).sl ho.2.2.2.2.1).cells.2.1]) mJ fun A1 H1 hS1 => ?_
 simp only [RT] at hS1
 simp (disch := omega) only [↓RA, RZ, simprocAttr, hn, g1, hS1.ag 0 rfl]
 refine hS1.cF (a2F o (ho.ab hS1) kv ks (hk.ab hS1)) fun H2 hS2 => ?_
 rw [h0]
 simp (disch := omega) only [↓RA, RZ, simprocAttr, hn, g1, (hS2.sl hk.sl).len]
 have hS3 := hS2.nil 1
 simp only [RT] at hS3
 refine Wp.al (fun n l H' => l.length = 41 ∧ get l 4 = (.slice none 0 0) ∧ get l 5 = I 0 ∧ get l 18 = kv ∧ get l 19 = I ks.length ∧ ∃ (i : Nat) (ov : Value), (n + i = ks.length) ∧ get l 20 = I i ∧ get l 7 = ov ∧ St prog H H' [⟨ptr A1 0 4, 0, [(.string o.name), o.rv, o.dv, o.cv]⟩, ⟨ov, 2, pr ((List.range i).flatMap (plD ks))⟩]) ks.length ?_ ?_
 ·simp (disch := omega) only [RB, RC, simprocAttr, hn]
  exact ⟨0, .slice none 0 0, by omega, rfl, rfl, hS3⟩
 rintro n l H3 ⟨hn, g4, g5, g18, g19, i, ov, hi, g20, g7, hS4⟩
 simp (disch := omega) only [↓RA, RB, simprocAttr, hn, g19, g20]
 refine iA (fun q1 => ?_) (fun q1 => ?_)
 ·have hmo := hk.ok _ (iE (xs := ks) (j := i) (by omega))
  have hml := xJ (iB ks i)
  have hpl := a4b ks i
  simp (disch := omega) only [↓RA, RZ, simprocAttr, hn, g18, g20, (hS4.sl hk.sl).idx, (hS4.sl hk.sl).ag, ntc, q1]
  refine hS4.eNew 2 [(.int .u64 0), (.int .u64 0)] rfl rfl rfl kW fun A2 H4 hS5 => ?_
  simp only [RT] at hS5
  simp (disch := omega) only [↓RA, RZ, simprocAttr, hn, q1]
  refine hS5.aa 2 rfl [(.int .u64 (iB ks i).1), (.int .u64 (iB ks i).2)] rfl rfl kW (by simp) fun H5 hS6 => ?_
  simp only [RT] at hS6
  simp (disch := omega) only [↓RA, RZ, simprocAttr, hn, hS6.ag 2 rfl, q1]
  refine iI ((a2n (hS6.gl hG) (iB ks i) hmo).tr) ?_
  rintro r H6 ⟨-, hT2⟩
  have hS7 := hS6.trans hT2
  simp only [RT] at hS7
  obtain ⟨mw, rfl⟩ : ∃ w, w = r := ⟨r, rfl⟩
  simp (disch := omega) only [↓RA, RZ, simprocAttr, hn, (hS7.aw 3 rfl (fun _ => rfl)).len, q1]
  refine Wp.al (fun n l H' => l.length = 41 ∧ get l 4 = (.slice none 0 0) ∧ get l 5 = I 0 ∧ get l 8 = I i ∧ get l 18 = kv ∧ get l 19 = I ks.length ∧ get l 20 = I i ∧ get l 26 = mw ∧ get l 27 = I (mN (iB ks i)).length ∧ ∃ (j : Nat) (ow : Value), (n + j = (mN (iB ks i)).length) ∧ get l 28 = I j ∧ get l 7 = ow ∧ St prog H H' [⟨ptr A1 0 4, 0, [(.string o.name), o.rv, o.dv, o.cv]⟩, ⟨ow, 2, pr ((List.range i).flatMap (plD ks) ++ ((mN (iB ks i)).take j).map fun z => ((i : Int), z))⟩, ⟨ptr A2 0 2, 0, [(.int .u64 (iB ks i).1), (.int .u64 (iB ks i).2)]⟩, ⟨mw, 1, (mN (iB ks i)).flatMap (one I)⟩]) (mN (iB ks i)).length ?_ ?_
  ·simp (disch := omega) only [RB, RC, simprocAttr, hn, g4, g5, g18, g19, g20, g7]
   refine ⟨0, ov, by omega, rfl, rfl, ?_⟩
   rw [List.take_zero, fP, dr]
   exact hS7
  rintro n l H7 ⟨hn, g4, g5, g8, g18, g19, g20, g26, g27, j, ow, hj, g28, g7, hS8⟩
  simp (disch := omega) only [↓RA, RB, simprocAttr, hn, g27, g28]
  refine iA (fun q2 => ?_) (fun q2 => ?_)
  ·have hroom : (pr ((List.range i).flatMap (plD ks) ++ ((mN (iB ks i)).take j).map fun z => ((i : Int), z))).length ≤ 4000 := by
    rw [iK, dq, dO, gf]
    omega
   simp (disch := omega) only [↓RA, RZ, simprocAttr, hn, g8, g26, g28, g7, (hS8.aw 3 rfl (fun _ => rfl)).idx, (hS8.aw 3 rfl (fun _ => rfl)).ld, one, uK, q2]
   refine hS8.ai [I i, I (iB (mN (iB ks i)) j)] vM a9l rfl rfl (by simp [Value.cells]) rfl rfl (by decide) (by decide) fun w1 H8 hS9 => ?_
   simp only [RT] at hS9
   simp (disch := omega) only [↓RA, RZ, simprocAttr, hn, q2]
   refine hS9.aq 1 rfl (hS9.rd 4 rfl) vM (by have h := hroom; simp only [dX, eG]; omega) fun w2 H9 hS10 => ?_
   simp only [RT] at hS10
   simp (disch := omega) only [↓RA, RZ, simprocAttr, hn, g4, g5, g8, g18, g19, g20, g26, g27, g28, q2]
   refine ⟨n - 1, by omega, j + 1, w2, by omega, by simp, rfl, ?_⟩
   rw [List.take_add_one, dh (by omega), Option.toList_some, dP, ← ec, jV]
   rw [show (mN (iB ks i))[j] = iB (mN (iB ks i)) j from (jK _ _ (by omega)).symm]
   exact hS10.pick [0, 1, 2, 3] (by decide) rfl
  simp (disch := omega) only [↓RA, RZ, simprocAttr, hn, g4, g5, g18, g19, g20, g7, q2]
  have hjj : j = (mN (iB ks i)).length := by omega
  refine ⟨ks.length - (i + 1), by omega, i + 1, ow, by omega, by simp, rfl, ?_⟩
  rw [ef, dM, dH, fg, dr]
  rw [show plD ks i = ((mN (iB ks i)).take j).map (fun z => ((i : Int), z)) from by rw [hjj, dT]; rfl]
  exact hS8.pick [0, 1] (by decide) rfl
 have hii : i = ks.length := by omega
 have hnt := (hS4.aw (cel := kD) 1 rfl kF).bp
 simp (disch := omega) only [↓RA, RZ, simprocAttr, hn, g7, c6B, q1, hnt]
 have hfin := hS4.pick (os' := [⟨ov, 2, pr ((List.range i).flatMap (plD ks))⟩]) [1] (by decide) rfl
 rw [hii] at hfin
 exact ⟨ov, rfl, hfin⟩
def a1F (lo : Int) (w m : Nat) : List Int := ((List.range m).filter fun j => w.testBit j).map fun (j : Nat) => lo + (j : Int)
def vN (lo hi : Int) : Nat := min 16 (hi - lo + 1).toNat
def yV (o : Org) (b : Nat → Nat) (i : Nat) : Nt := jU (a1F (iB o.dvs i).lo (b (i % 3)) (vN (iB o.dvs i).lo (iB o.dvs i).hi))
def pP (o : Org) (b : Nat → Nat) : List Nt := (List.range o.dvs.length).map (yV o b)
theorem c2H (a b : Nat) (h : a < 65536) : ((a : Nat) : Int).fdiv (2 ^ min b (IntKind.bits .u16)) = ((a >>> b : Nat) : Int) := by
 have e : IntKind.bits .u16 = 16 := rfl
 rw [e]
 have h1 : ((a : Nat) : Int).fdiv (2 ^ min b 16) = ((a / 2 ^ min b 16 : Nat) : Int) := by
  rw [gu _ (by exact Int.le_of_lt (Int.pow_pos (by decide)))]
  simp
 rw [h1, ez]
 by_cases hb : b ≤ 16
 ·rw [fM hb]
 ·rw [Nat.min_eq_right (by omega)]
  have h2 : a / 2 ^ 16 = 0 := gA (by simpa using h)
  have h3 : a / 2 ^ b = 0 := gA (dF (by simpa using h) (ff (by decide) (show 16 ≤ b by omega)))
  rw [h2, h3]
theorem b7W (n : Nat) (h : n < 65536) : IntKind.wrap .u16 ((BitVec.ofInt (IntKind.bits .u16) (n : Int) &&& BitVec.ofInt (IntKind.bits .u16) 1).toNat : Int) = ((n % 2 : Nat) : Int) := by
 have e : (BitVec.ofInt (IntKind.bits .u16) (n : Int) &&& BitVec.ofInt (IntKind.bits .u16) 1).toNat = n % 2 := by
  show (BitVec.ofInt 16 (n : Int) &&& BitVec.ofInt 16 1).toNat = n % 2
  rw [gB]
  have h1 : (BitVec.ofInt 16 (n : Int)).toNat = n := by
   rw [fQ, BitVec.toNat_ofNat]
   exact gw (by simpa using h)
  have h2 : (BitVec.ofInt 16 1).toNat = 1 := rfl
  rw [h1, h2, Nat.and_one_is_mod]
 rw [e]
 have : n % 2 < 2 := eK _ (by decide)
 have hh : n % 2 = 0 ∨ n % 2 = 1 := by omega
 rcases hh with h | h <;> rw [h] <;> rfl
theorem b5X {a : Nat} (b : Nat) (h : a < 65536) : a >>> b < 65536 := by
 rw [ez]
 exact Nat.lt_of_le_of_lt (Nat.div_le_self _ _) h
theorem b2f (lo : Int) (w m : Nat) : a1F lo w (m + 1) = a1F lo w m ++ (if w.testBit m then [lo + (m : Int)] else []) := by
 unfold a1F
 rw [ef, eT, dP]
 congr 1
 cases h : w.testBit m <;> simp [h]
theorem b6e (lo : Int) (w m : Nat) : (a1F lo w m).length ≤ m := by
 unfold a1F
 rw [dO]
 exact dy (ee _ _) (by simp)
theorem b8k (lo hi : Int) : vN lo hi ≤ 16 := Nat.min_le_left _ _
theorem uC {o : Org} (hf : o.Fine) (w : Nat) {i : Nat} (hi : i < o.dvs.length) : ∀ z ∈ a1F (iB o.dvs i).lo w (vN (iB o.dvs i).lo (iB o.dvs i).hi), isN z ∧ (iB o.dvs i).lo ≤ z ∧ z ≤ (iB o.dvs i).hi := by
 intro z hz
 have hk := hf.keys i hi
 unfold a1F vN at hz
 obtain ⟨j, hj, rfl⟩ := dx.1 hz
 have hj := dw.1 (eu.1 hj).1
 exact ⟨⟨by omega, by omega⟩, by omega, by omega⟩
theorem a9A (o : Org) (ho : o.In H) (hf : o.Fine) (b : Nat → Nat) (hb : ∀ i, b i < 65536) :
 Fn prog 14 [.agg #[.string o.name, o.rv, o.dv, o.cv], .agg #[.int .u16 (b 0), .int .u16 (b 1), .int .u16 (b 2)]] H fun r H' =>
  St prog H H' [⟨r, 2, (pP o b).flatMap ntc⟩] := by
 have hd8 := hf.dlen
 refine .aJ func14 rfl (by kernel_rfl) (m := 66) rfl fun l hn g0 g1 => ?_
 simp (disch := omega) only [↓RA, RB, simprocAttr, g0]
 refine (sR H).eNew 4 [(.string o.name), o.rv, o.dv, o.cv] rfl rfl (by simp [OC, ((sR H).sl ho.1).cells.2.1, ((sR H).sl ho.2.2.1).cells.2.1, ((sR H).sl ho.2.2.2.2.1).cells.2.1]) mJ fun A1 H1 hS1 => ?_
 simp only [RT] at hS1
 simp (disch := omega) only [↓RA, RB, simprocAttr, g1]
 refine hS1.eNew 3 [(.int .u16 (b 0)), (.int .u16 (b 1)), (.int .u16 (b 2))] rfl rfl rfl c2c fun A2 H2 hS2 => ?_
 simp only [RT] at hS2
 simp (disch := omega) only [↓RA, RB, simprocAttr]
 have hS3 := hS2.nil 1
 simp only [RT] at hS3
 refine Wp.al (fun n l H' => l.length = 66 ∧ get l 2 = (ptr A1 0 4) ∧ get l 3 = (ptr A2 0 3) ∧ get l 4 = (.slice none 0 0) ∧ ∃ (i : Nat) (kv : Value), (n + i = o.dvs.length) ∧ get l 6 = I i ∧ get l 5 = kv ∧ St prog H H' [⟨ptr A1 0 4, 0, [(.string o.name), o.rv, o.dv, o.cv]⟩, ⟨ptr A2 0 3, 0, [(.int .u16 (b 0)), (.int .u16 (b 1)), (.int .u16 (b 2))]⟩, ⟨kv, 2, ((List.range i).map (yV o b)).flatMap ntc⟩]) o.dvs.length ?_ ?_
 ·simp (disch := omega) only [RB, RC, simprocAttr, hn]
  exact ⟨0, .slice none 0 0, by omega, rfl, rfl, hS3⟩
 rintro n l H3 ⟨hn, g2, g3, g4, i, kv, hi, g6, g5, hS4⟩
 simp (disch := omega) only [↓RA, RZ, simprocAttr, hn, g2, g6, hS4.ld 0 rfl, (hS4.sl ho.2.2.1).len]
 refine iA (fun q => ?_) (fun q => ?_)
 ·have hk := hf.keys i (by omega)
  simp (disch := omega) only [↓RA, RZ, simprocAttr, hn, g2, g6, hS4.ld 0 rfl, (hS4.sl ho.2.2.1).idx, (hS4.sl ho.2.2.1).bh, (hS4.sl ho.2.2.1).cH 2, Dvn.cells, q]
  refine hS4.eNew 2 [I 0, I 0] rfl rfl rfl a0T fun A3 H4 hS5 => ?_
  simp only [RT] at hS5
  simp (disch := omega) only [↓RA, RZ, simprocAttr, hn, q]
  refine hS5.aa 3 rfl [I (iB o.dvs i).lo, I (iB o.dvs i).hi] rfl rfl a0T (by simp) fun H5 hS6 => ?_
  simp only [RT] at hS6
  simp (disch := omega) only [↓RA, RZ, simprocAttr, hn, hS6.ld 3 rfl, q]
  have hS7 := hS6.nil 0
  simp only [RT] at hS7
  refine Wp.al (fun n l H' => l.length = 66 ∧ get l 2 = (ptr A1 0 4) ∧ get l 3 = (ptr A2 0 3) ∧ get l 4 = (.slice none 0 0) ∧ get l 5 = kv ∧ get l 6 = I i ∧ get l 8 = (ptr A3 0 2) ∧ ∃ (m : Nat) (lv : Value), (n + m = vN (iB o.dvs i).lo (iB o.dvs i).hi) ∧ get l 9 = I ((iB o.dvs i).lo + m) ∧ get l 7 = lv ∧ St prog H H' [⟨ptr A1 0 4, 0, [(.string o.name), o.rv, o.dv, o.cv]⟩, ⟨ptr A2 0 3, 0, [(.int .u16 (b 0)), (.int .u16 (b 1)), (.int .u16 (b 2))]⟩, ⟨kv, 2, ((List.range i).map (yV o b)).flatMap ntc⟩, ⟨ptr A3 0 2, 0, [I (iB o.dvs i).lo, I (iB o.dvs i).hi]⟩, ⟨lv, 1, (a1F (iB o.dvs i).lo (b (i % 3)) m).flatMap (one I)⟩]) (vN (iB o.dvs i).lo (iB o.dvs i).hi) ?_ ?_
  ·simp (disch := omega) only [RB, RC, simprocAttr, hn, g2, g3, g4, g6, g5]
   exact ⟨0, .slice none 0 0, by omega, by simp, rfl, hS7⟩
  rintro n l H6 ⟨hn, g2, g3, g4, g5, g6, g8, m, lv, hm, g9, g7, hS8⟩
  simp (disch := omega) only [↓RA, RZ, simprocAttr, hn, g8, g9, hS8.ld 3 rfl]
  have hM := b8k (iB o.dvs i).lo (iB o.dvs i).hi
  have hi3 : (i : Int).tmod 3 = ((i % 3 : Nat) : Int) := (ey i 3).symm
  have hw : ([Value.int .u16 (b 0), .int .u16 (b 1), .int .u16 (b 2)] : List Value)[i % 3]? = some (.int .u16 (b (i % 3))) := by
   have : i % 3 = 0 ∨ i % 3 = 1 ∨ i % 3 = 2 := by omega
   rcases this with e | e | e <;> rw [e] <;> rfl
  have hsub : (iB o.dvs i).lo + (m : Int) - (iB o.dvs i).lo = (m : Int) := by omega
  have e1 := c2H (b (i % 3)) m (hb _)
  have e2 := b7W (b (i % 3) >>> m) (b5X m (hb _))
  have e3 := tb (b (i % 3)) m
  have hsu := b2f (iB o.dvs i).lo (b (i % 3)) m
  have hpl := b6e (iB o.dvs i).lo (b (i % 3)) m
  refine kC (fun q1 => ?_) (fun q1 => ?_)
  ·simp (disch := omega) only [↓RA, RZ, simprocAttr, hn, g8, g9, hS8.ld 3 rfl, q1]
   refine iA (fun q2 => ?_) (fun q2 => ?_)
   ·skip
    simp (disch := omega) only [↓RA, RC, simprocAttr, q1, q2]
    refine Wp.drw kE (by kernel_rfl) ?_
    simp (disch := omega) only [↓RA, RZ, simprocAttr, hn, g3, g6, g8, g9, hS8.ld 1 rfl, hw, hS8.ld 3 rfl, hi3, hsub, e1, e2]
    refine iA (fun q3 => ?_) (fun q3 => ?_)
    ·rw [e3, decide_eq_true (by omega), if_pos rfl] at hsu
     simp (disch := omega) only [↓RA, RZ, simprocAttr, hn, g9, g7, q3]
     refine hS8.ai [I ((iB o.dvs i).lo + m)] yC a1J rfl rfl (by simp [Value.cells]) rfl rfl (by decide) (by decide) fun w1 H7 hS9 => ?_
     simp only [RT] at hS9
     simp (disch := omega) only [↓RA, RZ, simprocAttr, hn, q3]
     refine hS9.aq 4 rfl (hS9.rd 5 rfl) yC (by rw [iM (n := 1) (cel := one I) (fun _ => rfl)]; simp; omega) fun w2 H8 hS10 => ?_
     simp only [RT] at hS10
     simp (disch := omega) only [↓RA, RZ, simprocAttr, hn, g2, g3, g4, g5, g6, g8, g9, q3]
     refine ⟨n - 1, by unfold vN at hm; omega, m + 1, w2, by unfold vN at hm ⊢; omega, by simp; omega, rfl, ?_⟩
     rw [hsu, dM]
     exact hS10.pick [0, 1, 2, 3, 4] (by decide) rfl
    rw [e3, decide_eq_false (by omega), if_neg (by simp), dr] at hsu
    simp (disch := omega) only [↓RA, RZ, simprocAttr, hn, g2, g3, g4, g5, g6, g8, g9, g7, q3]
    refine ⟨n - 1, by unfold vN at hm; omega, m + 1, lv, by unfold vN at hm ⊢; omega, by simp; omega, rfl, ?_⟩
    rw [hsu]
    exact hS8.pick [0, 1, 2, 3, 4] (by decide) rfl
   have hmM : m = vN (iB o.dvs i).lo (iB o.dvs i).hi := by unfold vN at hm hM ⊢; omega
   have hz := uC hf (b (i % 3)) (show i < o.dvs.length by omega)
   subst hmM
   simp (disch := omega) only [↓RA, RZ, simprocAttr, hn, g7, q1, q2]
   refine hS8.cF (xB (a1F (iB o.dvs i).lo (b (i % 3)) (vN (iB o.dvs i).lo (iB o.dvs i).hi)) (fun z h => (hz z h).1) lv (hS8.aw 4 rfl (sY _)) (by omega)) fun H9 hS11 => ?_
   simp (disch := omega) only [↓RA, RZ, simprocAttr, hn, q1, q2]
   refine hS11.eNew 2 [(.int .u64 0), (.int .u64 0)] rfl rfl rfl kW fun A4 H10 hS12 => ?_
   simp only [RT] at hS12
   simp (disch := omega) only [↓RA, RZ, simprocAttr, hn, q1, q2]
   refine hS12.aa 5 rfl [(.int .u64 (yV o b i).1), (.int .u64 (yV o b i).2)] rfl rfl kW (by simp) fun H11 hS13 => ?_
   simp only [RT] at hS13
   simp (disch := omega) only [↓RA, RZ, simprocAttr, hn, g5, hS13.ag 5 rfl, q1, q2]
   refine hS13.ai [(.int .u64 (yV o b i).1), (.int .u64 (yV o b i).2)] a3q b6i rfl rfl (by simp [Value.cells]) rfl rfl (by decide) (by decide) fun w3 H12 hS14 => ?_
   simp only [RT] at hS14
   simp (disch := omega) only [↓RA, RZ, simprocAttr, hn, q1, q2]
   refine hS14.aq 2 rfl (hS14.rd 6 rfl) a3q (by rw [iM (n := 2) (cel := ntc) (fun _ => rfl)]; simp; omega) fun w4 H13 hS15 => ?_
   simp only [RT] at hS15
   simp (disch := omega) only [↓RA, RZ, simprocAttr, hn, g2, g3, g4, g6, q1, q2]
   refine ⟨o.dvs.length - (i + 1), by omega, i + 1, w4, by omega, by simp, rfl, ?_⟩
   rw [ef, dP, dM]
   exact hS15.pick [0, 1, 2] (by decide) rfl
  have hmM : m = vN (iB o.dvs i).lo (iB o.dvs i).hi := by unfold vN at hm hM ⊢; omega
  have hz := uC hf (b (i % 3)) (show i < o.dvs.length by omega)
  subst hmM
  simp (disch := omega) only [↓RA, RZ, simprocAttr, hn, g7, q1]
  refine hS8.cF (xB (a1F (iB o.dvs i).lo (b (i % 3)) (vN (iB o.dvs i).lo (iB o.dvs i).hi)) (fun z h => (hz z h).1) lv (hS8.aw 4 rfl (sY _)) (by omega)) fun H14 hS16 => ?_
  simp (disch := omega) only [↓RA, RZ, simprocAttr, hn, q1]
  refine hS16.eNew 2 [(.int .u64 0), (.int .u64 0)] rfl rfl rfl kW fun A5 H15 hS17 => ?_
  simp only [RT] at hS17
  simp (disch := omega) only [↓RA, RZ, simprocAttr, hn, q1]
  refine hS17.aa 5 rfl [(.int .u64 (yV o b i).1), (.int .u64 (yV o b i).2)] rfl rfl kW (by simp) fun H16 hS18 => ?_
  simp only [RT] at hS18
  simp (disch := omega) only [↓RA, RZ, simprocAttr, hn, g5, hS18.ag 5 rfl, q1]
  refine hS18.ai [(.int .u64 (yV o b i).1), (.int .u64 (yV o b i).2)] a3q b6i rfl rfl (by simp [Value.cells]) rfl rfl (by decide) (by decide) fun w5 H17 hS19 => ?_
  simp only [RT] at hS19
  simp (disch := omega) only [↓RA, RZ, simprocAttr, hn, q1]
  refine hS19.aq 2 rfl (hS19.rd 6 rfl) a3q (by rw [iM (n := 2) (cel := ntc) (fun _ => rfl)]; simp; omega) fun w6 H18 hS20 => ?_
  simp only [RT] at hS20
  simp (disch := omega) only [↓RA, RZ, simprocAttr, hn, g2, g3, g4, g6, q1]
  refine ⟨o.dvs.length - (i + 1), by omega, i + 1, w6, by omega, by simp, rfl, ?_⟩
  rw [ef, dP, dM]
  exact hS20.pick [0, 1, 2] (by decide) rfl
 simp (disch := omega) only [↓RA, RZ, simprocAttr, hn, g5, c6p, q]
 have hii : i = o.dvs.length := by omega
 subst hii
 exact hS4.pick [2] (by decide) rfl
theorem tA (o : Org) (b : Nat → Nat) : (pP o b).length = o.dvs.length := by simp [pP]
theorem a5C {o : Org} {b : Nat → Nat} {i : Nat} (hi : i < o.dvs.length) : iB (pP o b) i = yV o b i := by
 rw [jK _ i (by rw [tA]; exact hi)]
 simp [pP]
theorem b1L {o : Org} (hf : o.Fine) (b : Nat → Nat) {i : Nat} (hi : i < o.dvs.length) : Nt.Ok (yV o b i) := rR _ _ (fun z h => (uC hf (b (i % 3)) hi z h).1) ⟨by decide, by decide⟩
theorem a6w {o : Org} (hf : o.Fine) (b : Nat → Nat) : ∀ x ∈ pP o b, Nt.Ok x := by
 intro x hx
 obtain ⟨i, hi, rfl⟩ := dx.1 hx
 exact b1L hf b (dw.1 hi)
theorem a6Y {x y : Nt} (hx : Nt.Ok x) (h : ∀ z, isN z → qC x z = true → qC y z = true) : woF x y = (0, 0) := by
 have k : ∀ z, isN z → qC (woF x y) z = false := fun z hz => by
  rw [b1O hx hz]
  cases e : qC x z with
  | false => rfl
  | true => rw [h z hz e]; rfl
 have big : ∀ a : Nat, a < 18446744073709551616 → ∀ j, 64 ≤ j → a.testBit j = false := fun a ha j hj =>
  Nat.testBit_lt_two_pow (dF (show a < 2 ^ 64 from ha) (ff (by decide) hj))
 obtain ⟨h1, h2⟩ := c2w x y
 apply gI
 ·apply fR
  intro j
  rw [ia]
  by_cases hj : 64 ≤ j
  ·exact big _ h1 j hj
  ·have := k (j : Int) ⟨by omega, by omega⟩
   unfold qC at this
   rw [if_pos (by omega)] at this
   exact this
 ·apply fR
  intro j
  rw [ia]
  by_cases hj : 64 ≤ j
  ·exact big _ h2 j hj
  ·have := k (64 + j : Int) ⟨by omega, by omega⟩
   unfold qC at this
   rw [if_neg (by omega), show (64 + (j : Int) - 64).toNat = j by omega] at this
   exact this
theorem a8k {o : Org} (h0 : organE o = 0) (b : Nat → Nat) : mS o (pP o b) = 0 := by
 have hf := Org.aS h0
 unfold mS
 rw [if_neg (by rw [h0]; simp), if_neg (by rw [tA]; simp), if_neg]
 rintro ⟨j, hj, hne⟩
 apply hne
 have hk := hf.keys j hj
 rw [a5C hj]
 refine a6Y (b1L hf b hj) fun z hz hh => ?_
 rw [yV, a2s (fun n hn => (uC hf (b (j % 3)) hj n hn).1) hz] at hh
 have := uC hf (b (j % 3)) hj z (of_decide_eq_true hh)
 rw [xF hk.1 hk.2.2 hz, decide_eq_true this.2.1, decide_eq_true this.2.2]
 rfl
end Go.Ds
namespace Go.Ds
open Go.Proofs
set_option maxRecDepth 10000
theorem a8M {o : Org} (hf : o.Fine) {r : Reg} {l m : List Ct} (h : ∀ x, x ∈ l ↔ x ∈ m) : jE o r l = jE o r m := by
 refine zN _ _ (lU o r l) (lU o r m) fun p => ?_
 rw [oY hf, oY hf]
 exact exists_congr fun c => and_congr_left fun _ => h c
theorem a6U {ks : List Nt} {x : Ct} : x ∈ iF ks ↔ (0 ≤ x.1 ∧ x.1 < ks.length) ∧ isN x.2 ∧ qC (iB ks x.1.toNat) x.2 = true := by
 unfold iF plD
 rw [eM]
 constructor
 ·rintro ⟨i, hi, h⟩
  have hi := dw.1 hi
  obtain ⟨z, hz, rfl⟩ := dx.1 h
  exact ⟨⟨by simp, by simp; omega⟩, a1Z.1 hz⟩
 ·rintro ⟨⟨h1, h2⟩, h3⟩
  refine ⟨x.1.toNat, dw.2 (by omega), dx.2 ⟨x.2, a1Z.2 h3, ?_⟩⟩
  apply gI
  ·simp; omega
  ·rfl
theorem Star.mono {α : Type} {R R' : α → α → Prop} (h : ∀ a b, R a b → R' a b) {a b : α} (hs : Star R a b) : Star R' a b := by
 induction hs with
 | refl => exact .refl _
 | tail _ h2 ih => exact .tail ih (h _ _ h2)
end Go.Ds
namespace Go.Ds
open Go.Proofs Go.Shelf Go.RowKit Go.Lib Go.Sort
def sm (x : Int × Int) : Prop := -1000000000 ≤ x.1 ∧ x.1 ≤ 1000000000 ∧ -1000000000 ≤ x.2 ∧ x.2 ≤ 1000000000
abbrev Sm := {x : Int × Int // sm x}
instance : Inhabited Sm := ⟨⟨(0, 0), by unfold sm; decide⟩⟩
section
variable {H : Heap}
end
end Go.Ds
namespace Go.Ds
open Go.Proofs
variable {H : Heap}
set_option maxRecDepth 10000
set_option maxHeartbeats 1000000
end Go.Ds
namespace Go.Ds
open Go.Proofs Go.Shelf Go.RowKit Go.Lib Go.Sort
section
variable {H : Heap}
end
end Go.Ds
namespace Go.Ds
open Go.Proofs
variable {H : Heap}
set_option maxRecDepth 10000
set_option maxHeartbeats 1000000
end Go.Ds
namespace Go.Ds
open Go.Proofs Go.Proofs.Tryz
variable {H : Heap}
set_option maxRecDepth 10000
set_option maxHeartbeats 1000000
theorem b4u {x y : Int × Int} : cf2 x y < 0 ↔ vX x y := by
 unfold cf2 vX
 split
 ·omega
 ·split
  ·omega
  ·split
   ·omega
   ·split <;> omega
theorem b6K {x y : Int × Int} : cf2 x y = 0 ↔ x = y := by
 unfold cf2
 constructor
 ·intro h
  split at h
  ·omega
  ·split at h
   ·omega
   ·split at h
    ·omega
    ·split at h
     ·omega
     ·exact gI (by omega) (by omega)
 ·rintro rfl
  rw [if_neg (by omega), if_neg (by omega), if_neg (by omega), if_neg (by omega)]
theorem a4S {xs : List Ct} (hs : xs.Pairwise vX) {i j : Nat} (h : i < j) (hj : j < xs.length) : vX (iB xs i) (iB xs j) := by
 rw [jK _ _ (by omega), jK _ _ hj]
 exact ek.1 hs i j (by omega) hj h
theorem c1k (v : Value) (xs : List Ct) (hv : Sl 2 kD H v xs) (hl : xs.length < 1000000000) (hs : xs.Pairwise vX) (t : Ct) :
 Fn prog 118 [v, .agg #[I t.1, I t.2], .func (.func 119) #[] #[]] H fun r H' => ∃ k : Nat, r = .tuple #[I k, .bool (decide (t ∈ xs))] ∧ St prog H H' [] := by
 refine .bq func118 rfl (by kernel_rfl) (m := 49) rfl fun l hn g0 g1 g2 => ?_
 simp (disch := omega) only [↓RA, RB, simprocAttr, g1]
 refine (sR H).eNew 2 [I t.1, I t.2] rfl rfl rfl rX fun A1 H1 hS1 => ?_
 simp only [RT] at hS1
 simp (disch := omega) only [↓RA, RZ, simprocAttr, hn, g0, (hS1.sl hv).len]
 refine Wp.al (fun n l H' => l.length = 49 ∧ get l 0 = v ∧ get l 2 = (.func (.func 119) #[] #[]) ∧ get l 4 = (ptr A1 0 2) ∧ get l 6 = I 0 ∧ get l 7 = (.bool false) ∧ get l 8 = I xs.length ∧ ∃ (i : Nat) (j : Nat), (n + i = j ∧ j ≤ xs.length ∧ (∀ q, q < i → vX (iB xs q) t) ∧ ∀ q, j ≤ q → q < xs.length → ¬ vX (iB xs q) t) ∧ get l 9 = I i ∧ get l 10 = I j ∧ St prog H H' [⟨ptr A1 0 2, 0, [I t.1, I t.2]⟩]) xs.length ?_ ?_
 ·simp (disch := omega) only [RB, RC, simprocAttr, hn, g0, g2]
  exact ⟨0, xs.length, ⟨by omega, by omega, fun q hq => absurd hq (dJ _), fun q h1 h2 => absurd h2 (by omega)⟩, rfl, rfl, hS1⟩
 rintro n l H2 ⟨hn, g0, g2, g4, g6, g7, g8, i, j, ⟨h1,h2,h3,h4⟩, g9, nS, hS2⟩
 simp (disch := omega) only [↓RA, RB, simprocAttr, hn, g9, nS]
 refine iA (fun q1 => ?_) (fun q1 => ?_)
 ·obtain ⟨m, hm⟩ : ∃ m : Nat, (i + j) / 2 = m := ⟨_, rfl⟩
  have e1 : ((i : Int) + j).fdiv (2 ^ min 1 (IntKind.bits .u64)) = ((m : Nat) : Int) := by
   have h := a6M (i + j) 1 (by omega)
   rw [ez] at h
   rw [← hm]
   exact h
  simp (disch := omega) only [↓RA, RZ, simprocAttr, hn, g9, nS, q1, e1]
  refine Wp.drw kE (by kernel_rfl) ?_
  simp (disch := omega) only [↓RA, RZ, simprocAttr, hn, g0, g2]
  simp (disch := omega) only [↓RA, RZ, simprocAttr, hn, g4, (hS2.sl hv).idx, (hS2.sl hv).ag, kD, hS2.ag 0 rfl]
  refine hS2.cF (a4N (iB xs m) t) fun H3 hS3 => ?_
  simp (disch := omega) only [↓RA, RB, simprocAttr, hn]
  refine iA (fun q2 => ?_) (fun q2 => ?_)
  ·have hlt := b4u.1 q2
   simp (disch := omega) only [↓RA, RZ, simprocAttr, hn, g0, g2, g4, g6, g7, g8, nS, q2]
   refine ⟨j - (m + 1), by omega, m + 1, j, ⟨by omega, h2, fun q hq => ?_, h4⟩, by simp, rfl, hS3⟩
   by_cases e : q = m
   ·rw [e]; exact hlt
   ·exact zP (a4S hs (show q < m by omega) (by omega)) hlt
  have hnl : ¬ vX (iB xs m) t := fun h => q2 (b4u.2 h)
  simp (disch := omega) only [↓RA, RZ, simprocAttr, hn, g0, g2, g4, g6, g7, g8, g9, q2]
  refine ⟨m - i, by omega, i, m, ⟨by omega, by omega, h3, fun q hq hql h => ?_⟩, rfl, by simp, hS3⟩
  by_cases e : q = m
  ·rw [e] at h; exact hnl h
  ·exact hnl (zP (a4S hs (show m < q by omega) hql) h)
 have hij : i = j := by omega
 have hno : ∀ q, q < xs.length → q ≠ i → iB xs q ≠ t := fun q hq hne e => by
  by_cases hqi : q < i
  ·have := h3 q hqi
   rw [e] at this
   exact a1g this
  ·have h5 := h4 i (by omega) (by omega)
   have h6 := a4S hs (show i < q by omega) hq
   rw [e] at h6
   exact h5 h6
 simp (disch := omega) only [↓RA, RC, simprocAttr, q1]
 refine Wp.drw kE (by kernel_rfl) ?_
 simp (disch := omega) only [↓RA, RZ, simprocAttr, hn, g8, g9]
 refine kC (fun q3 => ?_) (fun q3 => ?_)
 ·simp (disch := omega) only [↓RA, RZ, simprocAttr, hn, g0, g2, g4, g9, (hS2.sl hv).idx, (hS2.sl hv).ag, kD, hS2.ag 0 rfl, q3]
  refine hS2.cF (a4N (iB xs i) t) fun H4 hS4 => ?_
  simp (disch := omega) only [↓RA, RZ, simprocAttr, hn, c0u, q3]
  have he : decide (cf2 (iB xs i) t = 0) = decide (t ∈ xs) := by
   rw [decide_eq_decide, b6K]
   constructor
   ·intro e
    rw [← e]
    exact iE (by omega)
   ·intro hm
    obtain ⟨q, hq, e⟩ := dL.1 hm
    rw [← jK _ _ hq] at e
    by_cases hqi : q = i
    ·rw [hqi] at e; exact e
    ·exact absurd e (hno q hq hqi)
  exact ⟨i, by rw [← he], hS4.forget⟩
 have hf : decide (t ∈ xs) = false := by
  rw [decide_eq_false_iff_not]
  intro hm
  obtain ⟨q, hq, e⟩ := dL.1 hm
  rw [← jK _ _ hq] at e
  exact hno q hq (by omega) e
 simp (disch := omega) only [↓RA, RZ, simprocAttr, hn, c0u, q3]
 exact ⟨i, by rw [hf], hS2.forget⟩
def vZ (xs ys : List Ct) : List Ct := xs.filter fun c => !decide (c ∈ ys)
theorem a6h (xs ys : List Ct) : (vZ xs ys).length ≤ xs.length := ee _ _
theorem b0b (xs ys : List Ct) (i : Nat) (h : i < xs.length) : vZ (xs.take (i + 1)) ys = vZ (xs.take i) ys ++ (if iB xs i ∈ ys then [] else [iB xs i]) := by
 unfold vZ
 rw [lG xs i h, eT]
 congr 1
 by_cases e : iB xs i ∈ ys <;> simp [e]
theorem a7Y (v w : Value) (xs ys : List Ct) (hv : Sl 2 kD H v xs) (hw : Sl 2 kD H w ys) (hl : xs.length < 100000000) (hl2 : ys.length < 100000000) (hs : ys.Pairwise vX) :
 Fn prog 88 [v, w] H fun r H' => St prog H H' [⟨r, 2, pr (vZ xs ys)⟩] := by
 refine .aJ func88 rfl (by kernel_rfl) (m := 30) rfl fun l hn g0 g1 => ?_
 simp (disch := omega) only [↓RA, RZ, simprocAttr, hn, g0, ((sR H).sl hv).len]
 have hS1 := (sR H).nil 1
 simp only [RT] at hS1
 refine Wp.al (fun n l H' => l.length = 30 ∧ get l 1 = w ∧ get l 4 = (.slice none 0 0) ∧ get l 10 = v ∧ get l 11 = I xs.length ∧ ∃ (i : Nat) (ov : Value), (n + i = xs.length) ∧ get l 12 = I i ∧ get l 5 = ov ∧ St prog H H' [⟨ov, 2, pr (vZ (xs.take i) ys)⟩]) xs.length ?_ ?_
 ·simp (disch := omega) only [RB, RC, simprocAttr, hn, g1]
  exact ⟨0, .slice none 0 0, by omega, rfl, rfl, hS1⟩
 rintro n l H1 ⟨hn, g1, g4, nS, g11, i, ov, hi, g12, g5, hS2⟩
 simp (disch := omega) only [↓RA, RB, simprocAttr, hn, g11, g12]
 refine iA (fun q1 => ?_) (fun q1 => ?_)
 ·have hsu := b0b xs ys i (by omega)
  have hle := a6h (xs.take i) ys
  have htl := List.length_take_le i xs
  simp (disch := omega) only [↓RA, RZ, simprocAttr, hn, nS, g12, (hS2.sl hv).idx, (hS2.sl hv).ag, kD, q1]
  refine hS2.eNew 2 [I 0, I 0] rfl rfl rfl rX fun A1 H2 hS3 => ?_
  simp only [RT] at hS3
  simp (disch := omega) only [↓RA, RZ, simprocAttr, hn, q1]
  refine hS3.aa 1 rfl [I (iB xs i).1, I (iB xs i).2] rfl rfl rX (by simp) fun H3 hS4 => ?_
  simp only [RT] at hS4
  simp (disch := omega) only [↓RA, RZ, simprocAttr, hn, g1, hS4.ag 1 rfl, q1]
  refine iI (c1k w ys (hS4.sl hw) (by omega) hs (iB xs i)) ?_
  rintro r H4 ⟨k, rfl, hT1⟩
  have hS5 := hS4.trans hT1
  simp only [RT] at hS5
  simp (disch := omega) only [↓RA, RZ, simprocAttr, hn, q1]
  refine jT (fun q2 => ?_) (fun q2 => ?_)
  ·have hni : ¬ iB xs i ∈ ys := by simpa using q2
   rw [if_neg hni] at hsu
   simp (disch := omega) only [↓RA, RZ, simprocAttr, hn, g5, hS5.ag 1 rfl, q1, q2]
   refine hS5.ai [I (iB xs i).1, I (iB xs i).2] b6B c3n rfl rfl (by simp [Value.cells]) rfl rfl (by decide) (by decide) fun w1 H5 hS6 => ?_
   simp only [RT] at hS6
   simp (disch := omega) only [↓RA, RZ, simprocAttr, hn, q1, q2]
   refine hS6.aq 0 rfl (hS6.rd 2 rfl) b6B (by rw [iK]; simp only [dX, eG]; omega) fun w2 H6 hS7 => ?_
   simp only [RT] at hS7
   simp (disch := omega) only [↓RA, RZ, simprocAttr, hn, g1, g4, nS, g11, g12, q1, q2]
   refine ⟨n - 1, by omega, i + 1, w2, by omega, by simp, rfl, ?_⟩
   rw [hsu, jV]
   exact hS7.pick [0] (by decide) rfl
  have hni : iB xs i ∈ ys := by simpa using q2
  rw [if_pos hni, dr] at hsu
  simp (disch := omega) only [↓RA, RZ, simprocAttr, hn, g1, g4, nS, g11, g12, g5, q1, q2]
  refine ⟨n - 1, by omega, i + 1, ov, by omega, by simp, rfl, ?_⟩
  rw [hsu]
  exact hS5.pick [0] (by decide) rfl
 simp (disch := omega) only [↓RA, RZ, simprocAttr, hn, g5, c6a, q1]
 have hii : i = xs.length := by omega
 rw [hii, dT] at hS2
 exact hS2
end Go.Ds
namespace Go.Ds
open Go.Proofs
set_option maxRecDepth 10000
section
variable {o : Org} {b : Nat → Nat} {l : List Ct}
end
def qW (o : Org) (p : Ct) : Int := iB (iB o.ranks p.1.toNat).wind p.2.toNat
def lR (o : Org) (l : List Ct) : Int := l.foldl (fun n p => oN (n + qW o p)) 0
theorem a9y (o : Org) (l : List Ct) (i : Nat) (h : i < l.length) : lR o (l.take (i + 1)) = oN (lR o (l.take i) + qW o (iB l i)) := by
 unfold lR
 rw [lG l i h, fp]
 rfl
def lN (o : Org) (l : List Ct) : Int := (l.map (qW o)).sum
theorem a8P (a : Int) : oN a = if a % 18446744073709551616 ≥ 9223372036854775808 then a % 18446744073709551616 - 18446744073709551616 else a % 18446744073709551616 := by
 show IntKind.wrap .i64 a = _
 unfold IntKind.wrap
 simp [IntKind.bits, IntKind.signed]
theorem b1v (a b : Int) : oN (oN a + b) = oN (a + b) := by
 simp only [a8P]
 (repeat' split) <;> omega
theorem b9a (a b : Int) : oN (oN a - oN b) = oN (a - b) := by
 simp only [a8P]
 (repeat' split) <;> omega
theorem a1Y {a : Int} (h1 : -9223372036854775808 ≤ a) (h2 : a < 9223372036854775808) : oN a = a := by
 rw [a8P]
 split <;> omega
theorem pB (o : Org) (p : Ct) (l : List Ct) : lN o (p :: l) = qW o p + lN o l := by simp [lN]
theorem a2T (o : Org) : ∀ (l : List Ct) (a : Int), l.foldl (fun n p => oN (n + qW o p)) (oN a) = oN (a + lN o l)
 | [], a => by simp [lN]
 | p :: l, a => by
   rw [eE, b1v, a2T o l, pB, Int.add_assoc]
theorem tX (o : Org) (l : List Ct) : lR o l = oN (lN o l) := by
 have := a2T o l 0
 rw [a1Y (by decide) (by decide), Int.zero_add] at this
 exact this
theorem uN (o : Org) (q : Ct → Bool) : ∀ l : List Ct, lN o (l.filter q) + lN o (l.filter fun c => !q c) = lN o l
 | [] => rfl
 | p :: l => by
   have ih := uN o q l
   rw [hK, hK, pB]
   cases q p
   ·simp only [gQ, if_true, pB]
    rw [if_neg (by decide)]
    omega
   ·simp only [Bool.not_true, if_true, pB]
    rw [if_neg (by decide)]
    omega
theorem b3m {A B : List Ct} (hA : A.Pairwise vX) (hB : B.Pairwise vX) (h : ∀ x ∈ B, x ∈ A) : A.filter (fun c => decide (c ∈ B)) = B :=
 zN _ _ (hA.filter _) hB fun x => by
  rw [eu, decide_eq_true_eq]
  exact ⟨fun h => h.2, fun hx => ⟨h x hx, hx⟩⟩
theorem a2S {o : Org} {A B : List Ct} (hA : A.Pairwise vX) (hB : B.Pairwise vX) (h : ∀ x ∈ B, x ∈ A) : lN o B + lN o (vZ A B) = lN o A := by
 have e := uN o (fun c => decide (c ∈ B)) A
 rw [b3m hA hB h] at e
 exact e
theorem a8Z {o : Org} {A B : List Ct} (hA : A.Pairwise vX) (hB : B.Pairwise vX) (h : ∀ x ∈ B, x ∈ A) : lR o (vZ A B) = oN (lR o A - lR o B) := by
 rw [tX, tX, tX, b9a]
 congr 1
 have := a2S (o := o) hA hB h
 omega
theorem Org.cG {o : Org} (h : organE o = 0) : ∀ j, j < o.ranks.length → rankE (iB o.ranks j) = 0 := by
 unfold organE at h
 split at h
 ·omega
 split at h
 ·omega
 split at h
 ·rename_i hh; exact absurd h hh
 rename_i h3
 have h3 := dp.1 h3
 intro j hj
 have e := uZ h3 j hj
 unfold nP at e
 split at e
 ·exact e
 ·rename_i h4; exact dp.1 h4
theorem b9i {o : Org} (h : organE o = 0) {j : Nat} (hj : j < o.ranks.length) {i : Nat} (hi : i < (iB o.ranks j).wind.length) : 0 ≤ iB (iB o.ranks j).wind i ∧ iB (iB o.ranks j).wind i ≤ 1000000 := by
 have e := Org.cG h j hj
 unfold rankE at e
 split at e
 ·omega
 split at e
 ·rename_i hh; exact absurd e hh
 split at e
 ·omega
 split at e
 ·omega
 split at e
 ·omega
 unfold wK at e
 split at e
 ·omega
 rename_i hw
 have hn := iE hi
 have h2 : ¬ (decide (iB (iB o.ranks j).wind i < 0) || decide (1000000 < iB (iB o.ranks j).wind i)) = true := fun e => hw (fY.2 ⟨_, hn, e⟩)
 simp only [dY, decide_eq_true_eq] at h2
 omega
theorem a6O {o : Org} (h : organE o = 0) {p : Ct} (hp : IsP o p) : 0 ≤ qW o p ∧ qW o p ≤ 1000000 :=
 b9i h (by have := hp.1; have := hp.2.1; omega) (by have := hp.2.2.1; have := hp.2.2.2; omega)
theorem rZ {o : Org} (h : organE o = 0) : ∀ {l : List Ct}, (∀ p ∈ l, IsP o p) → 0 ≤ lN o l ∧ lN o l ≤ 1000000 * l.length
 | [], _ => by simp [lN]
 | p :: l, hl => by
   have h1 := a6O h (hl p (dC ..))
   have h2 := rZ h (l := l) fun x hx => hl x (dE _ hx)
   rw [pB, dX]
   omega
theorem yR {o : Org} (h : organE o = 0) {l : List Ct} (hl : ∀ p ∈ l, IsP o p) (hle : l.length ≤ 1000000) : lR o l = lN o l := by
 have h1 := rZ h hl
 rw [tX, a1Y (by omega) (by omega)]
theorem xA {o : Org} (h : organE o = 0) {A B : List Ct} (hA : A.Pairwise vX) (hB : B.Pairwise vX) (hAB : ∀ x ∈ B, x ∈ A) (hP : ∀ p ∈ A, IsP o p) : lN o B ≤ lN o A := by
 have h1 := a2S (o := o) hA hB hAB
 have h2 := rZ h (l := vZ A B) fun p hp => hP p (eu.1 hp).1
 omega
theorem a0w {o : Org} (h : organE o = 0) {f : Ct → List Ct} (hf : ∀ c, (f c).Pairwise vX) (hP : ∀ c, ∀ p ∈ f c, IsP o p) : ∀ (l : List Ct) {A : List Ct}, A.Pairwise vX → (∀ p ∈ A, ∃ c ∈ l, p ∈ f c) → lN o A ≤ (l.map fun c => lN o (f c)).sum
 | [], A, hA, hc => by
   have : A = [] := List.eq_nil_iff_forall_not_mem.2 fun p hp => by obtain ⟨c, h, _⟩ := hc p hp; cases h
   subst this
   simp [lN]
 | c :: l, A, hA, hc => by
   have e := uN o (fun x => decide (x ∈ f c)) A
   have h1 : lN o (A.filter fun x => decide (x ∈ f c)) ≤ lN o (f c) := xA h (hf c) (hA.filter _) (fun x hx => by simpa using (eu.1 hx).2) (hP c)
   have h2 := a0w h hf hP l (A := A.filter fun x => !decide (x ∈ f c)) (hA.filter _) fun p hp => by
    obtain ⟨hp1, hp2⟩ := eu.1 hp
    obtain ⟨d, hd, hd2⟩ := hc p hp1
    rcases dS.1 hd with rfl | hd
    ·simp [hd2] at hp2
    ·exact ⟨d, hd, hd2⟩
   rw [dZ, fj]
   omega
end Go.Ds
namespace Go.Ds
open Go.Proofs Go.Proofs.Tryz
variable {H : Heap}
set_option maxRecDepth 10000
set_option maxHeartbeats 1000000
theorem a2G (o : Org) (ho : o.In H) (v : Value) (ps : List Ct) (hv : Sl 2 kD H v ps) (hl : ps.length < 100000000) (hp : ∀ p ∈ ps, IsP o p) :
 Fn prog 43 [.agg #[.string o.name, o.rv, o.dv, o.cv], v] H fun r H' => r = I (lR o ps) ∧ St prog H H' [] := by
 refine .aJ func43 rfl (by kernel_rfl) (m := 29) rfl fun l hn g0 g1 => ?_
 simp (disch := omega) only [↓RA, RB, simprocAttr, g0]
 refine (sR H).eNew 4 [(.string o.name), o.rv, o.dv, o.cv] rfl rfl (by simp [OC, ((sR H).sl ho.1).cells.2.1, ((sR H).sl ho.2.2.1).cells.2.1, ((sR H).sl ho.2.2.2.2.1).cells.2.1]) mJ fun A1 H1 hS1 => ?_
 simp only [RT] at hS1
 simp (disch := omega) only [↓RA, RZ, simprocAttr, hn, g1, (hS1.sl hv).len]
 refine Wp.al (fun n l H' => l.length = 29 ∧ get l 2 = (ptr A1 0 4) ∧ get l 4 = I 0 ∧ get l 8 = v ∧ get l 9 = I ps.length ∧ ∃ (i : Nat), (n + i = ps.length) ∧ get l 10 = I i ∧ get l 5 = I (lR o (ps.take i)) ∧ St prog H H' [⟨ptr A1 0 4, 0, [(.string o.name), o.rv, o.dv, o.cv]⟩]) ps.length ?_ ?_
 ·simp (disch := omega) only [RB, RC, simprocAttr, hn]
  exact ⟨0, by omega, rfl, rfl, hS1⟩
 rintro n l H2 ⟨hn, g2, g4, g8, g9, i, hi, nS, g5, hS2⟩
 simp (disch := omega) only [↓RA, RB, simprocAttr, hn, g9, nS]
 refine iA (fun q1 => ?_) (fun q1 => ?_)
 ·have hpi := hp _ (iE (xs := ps) (j := i) (by omega))
  obtain ⟨e, he⟩ : ∃ e : Nat, (iB ps i).1 = e := ⟨(iB ps i).1.toNat, by have := hpi.1; omega⟩
  obtain ⟨f, hf⟩ : ∃ f : Nat, (iB ps i).2 = f := ⟨(iB ps i).2.toNat, by have := hpi.2.2.1; omega⟩
  have hel : e < o.ranks.length := by have := hpi.2.1; omega
  have hfl : f < (iB o.ranks e).wind.length := by
   have := hpi.2.2.2
   rw [he, eJ] at this
   omega
  have hsu := a9y o ps i (by omega)
  have hwt : qW o (iB ps i) = iB (iB o.ranks e).wind f := by unfold qW; rw [he, hf, eJ, eJ]
  rw [hwt] at hsu
  simp (disch := omega) only [↓RA, RZ, simprocAttr, hn, g8, nS, (hS2.sl hv).idx, (hS2.sl hv).ag, kD, q1]
  refine hS2.eNew 2 [I 0, I 0] rfl rfl rfl rX fun A2 H3 hS3 => ?_
  simp only [RT] at hS3
  simp (disch := omega) only [↓RA, RZ, simprocAttr, hn, q1]
  refine hS3.aa 1 rfl [I (iB ps i).1, I (iB ps i).2] rfl rfl rX (by simp) fun H4 hS4 => ?_
  simp only [RT] at hS4
  simp (disch := omega) only [↓RA, RZ, simprocAttr, q1]
  refine Wp.drw kE (by kernel_rfl) ?_
  simp (disch := omega) only [↓RA, RZ, simprocAttr, hn, g2, g5, hS4.ld 0 rfl]
  simp (disch := omega) only [↓RA, RZ, simprocAttr, hn, g2, g4, g8, g9, nS, hS4.ld 1 rfl, (hS4.sl ho.1).idx, (hS4.sl ho.1).bh, (hS4.sl ho.1).ld, Rk.cells, (hS4.sl (ho.2.1 (iB o.ranks e) (iE (by omega))).1).idx, (hS4.sl (ho.2.1 (iB o.ranks e) (iE (by omega))).1).ld, one, he, hf]
  refine ⟨n - 1, by omega, i + 1, by omega, by simp, ?_, hS4.pick [0] (by decide) rfl⟩
  first | (rw [hsu]; done) | (rw [hsu]; rfl) | (rw [hsu]; simp)
 simp (disch := omega) only [↓RA, RZ, simprocAttr, hn, g5, c6d, q1]
 have hii : i = ps.length := by omega
 rw [hii, dT]
 exact ⟨rfl, hS2.forget⟩
theorem b0Q {o : Org} {rg : Reg} {ks : List Nt} : ∀ p ∈ nB o rg ks, IsP o p := by
 intro p hp
 unfold nB at hp
 split at hp
 ·exact sJ hp
 ·exact absurd hp dV
theorem b6v {o : Org} {rg : Reg} {ks : List Nt} (hok : ∀ x ∈ ks, Nt.Ok x) : (nB o rg ks).length ≤ 1000000 := by
 unfold nB
 split
 ·rename_i h
  obtain ⟨h1, h2⟩ := uT h
  exact pF (Org.aS (lQ h1).1) rg (rQ h2) (mB (qH hok h2))
 ·simp
def a3a (o : Org) (rg : Reg) (ks : List Nt) : Int := lR o (nB o rg ks)
theorem a8K (hG : Glob gH H) (o : Org) (ho : o.In H) (rg : Reg) (sv : Value) (hr : rg.In H sv) (kv : Value) (ks : List Nt) (hk : Ks H kv ks) :
 Fn prog 15 [.agg #[.string o.name, o.rv, o.dv, o.cv], .agg #[sv, .int .u64 rg.cpl, .int .u64 rg.off], kv] H fun r H' => r = .tuple #[I (a3a o rg ks), I (rkE o rg ks)] ∧ St prog H H' [] := by
 have hle := b6v (o := o) (rg := rg) hk.ok
 refine .bq func15 rfl (by kernel_rfl) (m := 23) rfl fun l hn g0 g1 g2 => ?_
 simp (disch := omega) only [↓RA, RB, simprocAttr, g0]
 refine (sR H).eNew 4 [(.string o.name), o.rv, o.dv, o.cv] rfl rfl (by simp [OC, ((sR H).sl ho.1).cells.2.1, ((sR H).sl ho.2.2.1).cells.2.1, ((sR H).sl ho.2.2.2.2.1).cells.2.1]) mJ fun A1 H1 hS1 => ?_
 simp only [RT] at hS1
 simp (disch := omega) only [↓RA, RB, simprocAttr, g1]
 refine hS1.eNew 3 [sv, (.int .u64 rg.cpl), (.int .u64 rg.off)] rfl rfl (by simp [OC, (hS1.sl hr.1).cells.2.1]) pN fun A2 H2 hS2 => ?_
 simp only [RT] at hS2
 simp (disch := omega) only [↓RA, RZ, simprocAttr, hn, g2, hS2.ag 0 rfl, hS2.ag 1 rfl]
 refine iI (a0G (hS2.gl hG) o (ho.ab hS2) rg sv (hr.ab hS2) kv ks (hk.ab hS2)) ?_
 rintro r H3 ⟨pv, rfl, hx, hT1⟩
 have hS3 := hS2.trans hT1
 simp only [RT] at hS3
 simp (disch := omega) only [↓RA, RB, simprocAttr, hn]
 refine iA (fun h1 => ?_) (fun h1 => ?_)
 ·have hs : a3a o rg ks = 0 := by unfold a3a nB; rw [if_neg h1]; rfl
  simp (disch := omega) only [↓RA, RZ, simprocAttr, hn, c4t, h1]
  exact ⟨by rw [hs], hS3.forget⟩
 have h0 := dp.1 h1
 simp (disch := omega) only [↓RA, RZ, simprocAttr, hn, hS3.ag 0 rfl, h1]
 refine hS3.cF (a2G o (ho.ab hS3) pv (nB o rg ks) hx.1 (by omega) b0Q) fun H4 hS4 => ?_
 simp (disch := omega) only [↓RA, RZ, simprocAttr, hn, c4t, h1]
 rw [h0]
 exact ⟨rfl, hS4.forget⟩
def mD (o : Org) (rg : Reg) (c : Ct) : Int := lR o (ofF o rg c)
theorem c1i {o : Org} {rg : Reg} {c : Ct} : (ofF o rg c).length ≤ 1000000 := by
 by_cases h : a0U o rg c = 0
 ·exact c2o (Org.aS (lQ (zB h).1).1) rg c
 ·unfold ofF
  rw [if_neg h]
  simp
theorem b1s (o : Org) (ho : o.In H) (rg : Reg) (sv : Value) (hr : rg.In H sv) (c : Ct) :
 Fn prog 28 [.agg #[.string o.name, o.rv, o.dv, o.cv], .agg #[sv, .int .u64 rg.cpl, .int .u64 rg.off], .agg #[I c.1, I c.2]] H fun r H' => r = .tuple #[I (mD o rg c), I (a0U o rg c)] ∧ St prog H H' [] := by
 have hle := c1i (o := o) (rg := rg) (c := c)
 refine .bq func28 rfl (by kernel_rfl) (m := 23) rfl fun l hn g0 g1 g2 => ?_
 simp (disch := omega) only [↓RA, RB, simprocAttr, g0]
 refine (sR H).eNew 4 [(.string o.name), o.rv, o.dv, o.cv] rfl rfl (by simp [OC, ((sR H).sl ho.1).cells.2.1, ((sR H).sl ho.2.2.1).cells.2.1, ((sR H).sl ho.2.2.2.2.1).cells.2.1]) mJ fun A1 H1 hS1 => ?_
 simp only [RT] at hS1
 simp (disch := omega) only [↓RA, RB, simprocAttr, g1]
 refine hS1.eNew 3 [sv, (.int .u64 rg.cpl), (.int .u64 rg.off)] rfl rfl (by simp [OC, (hS1.sl hr.1).cells.2.1]) pN fun A2 H2 hS2 => ?_
 simp only [RT] at hS2
 simp (disch := omega) only [↓RA, RB, simprocAttr, g2]
 refine hS2.eNew 2 [I c.1, I c.2] rfl rfl rfl nU fun A3 H3 hS3 => ?_
 simp only [RT] at hS3
 simp (disch := omega) only [↓RA, RZ, simprocAttr, hn, hS3.ag 0 rfl, hS3.ag 1 rfl, hS3.ag 2 rfl]
 refine iI (c4G o (ho.ab hS3) rg sv (hr.ab hS3) c) ?_
 rintro r H4 ⟨pv, rfl, hx, hT1⟩
 have hS4 := hS3.trans hT1
 simp only [RT] at hS4
 simp (disch := omega) only [↓RA, RB, simprocAttr, hn]
 refine iA (fun h1 => ?_) (fun h1 => ?_)
 ·have hs : mD o rg c = 0 := by unfold mD ofF; rw [if_neg h1]; rfl
  simp (disch := omega) only [↓RA, RZ, simprocAttr, hn, c4o, h1]
  exact ⟨by rw [hs], hS4.forget⟩
 have h0 := dp.1 h1
 simp (disch := omega) only [↓RA, RZ, simprocAttr, hn, hS4.ag 0 rfl, h1]
 refine hS4.cF (a2G o (ho.ab hS4) pv (ofF o rg c) hx.1 (by omega) (fun p hp => b7X hp)) fun H5 hS5 => ?_
 simp (disch := omega) only [↓RA, RZ, simprocAttr, hn, c4o, h1]
 rw [h0]
 exact ⟨rfl, hS5.forget⟩
end Go.Ds
namespace Go.Ds
open Go.Proofs
set_option maxRecDepth 10000
def pV (o : Org) : List Nt := o.dvs.map fun d => rM d.lo d.hi
theorem vJ (o : Org) : (pV o).length = o.dvs.length := by simp [pV]
theorem zQ {o : Org} {i : Nat} (hi : i < o.dvs.length) : iB (pV o) i = rM (iB o.dvs i).lo (iB o.dvs i).hi := by
 rw [jK _ i (by rw [vJ]; exact hi)]
 simp [pV, jK _ i hi]
theorem b1t {lo hi : Int} (h0 : 0 ≤ lo) (h2 : hi ≤ 127) : Nt.Ok (rM lo hi) :=
 rR _ _ (fun z hz => by
  obtain ⟨k, hk, rfl⟩ := dx.1 hz
  have := dw.1 hk
  exact ⟨by omega, by omega⟩) ⟨by decide, by decide⟩
theorem a8d {o : Org} (hf : o.Fine) : ∀ x ∈ pV o, Nt.Ok x := by
 intro x hx
 obtain ⟨d, hd, rfl⟩ := dx.1 hx
 obtain ⟨j, hj, rfl⟩ := dL.1 hd
 have hk := hf.keys j hj
 rw [jK _ j hj] at hk
 exact b1t hk.1 hk.2.2
theorem b1d {o : Org} (h0 : organE o = 0) : mS o (pV o) = 0 := by
 unfold mS
 rw [if_neg (by rw [h0]; simp), if_neg (by rw [vJ]; simp), if_neg]
 rintro ⟨j, hj, hne⟩
 apply hne
 have hk := (Org.aS h0).keys j hj
 rw [zQ hj]
 exact a6Y (b1t hk.1 hk.2.2) fun z _ hh => hh
theorem b7k {o : Org} (hf : o.Fine) {x : Ct} : x ∈ iF (pV o) ↔ nA o x = true := by
 rw [a6U, vJ, rV]
 constructor
 ·rintro ⟨⟨h1, h2⟩, h3, h4⟩
  have hj : x.1.toNat < o.dvs.length := by omega
  have hk := hf.keys _ hj
  rw [zQ hj, xF hk.1 hk.2.2 h3, cT, decide_eq_true_eq, decide_eq_true_eq] at h4
  exact ⟨h1, h2, h4⟩
 ·rintro ⟨h1, h2, h3, h4⟩
  have hj : x.1.toNat < o.dvs.length := by omega
  have hk := hf.keys _ hj
  have hz : isN x.2 := ⟨by omega, by omega⟩
  refine ⟨⟨h1, h2⟩, hz, ?_⟩
  rw [zQ hj, xF hk.1 hk.2.2 hz, cT, decide_eq_true_eq, decide_eq_true_eq]
  exact ⟨h3, h4⟩
theorem a0r {o : Org} (hf : o.Fine) {r : Reg} {l m : List Ct} (h : ∀ x ∈ l, x ∈ m) : ∀ p ∈ jE o r l, p ∈ jE o r m := by
 intro p hp
 obtain ⟨c, hc, x, h1, h2⟩ := (oY hf).1 hp
 exact (oY hf).2 ⟨c, h c hc, x, h1, h2⟩
def grS (f : Ct → Int) (a : Ct × Int) (c : Ct) : Ct × Int := if f c > a.2 then (c, f c) else a
def grF (f : Ct → Int) (l : List Ct) (a : Ct × Int) : Ct × Int := l.foldl (grS f) a
theorem b9c (f : Ct → Int) (l : List Ct) (c : Ct) (a : Ct × Int) : grF f (l ++ [c]) a = grS f (grF f l a) c := by
 unfold grF
 rw [fp]
 rfl
def a2j (l : List Int) : Int := l.foldl (fun n x => oN (n + x)) 0
theorem a3t : ∀ (l : List Int) (a : Int), l.foldl (fun n x => oN (n + x)) (oN a) = oN (a + l.sum)
 | [], a => by simp
 | x :: l, a => by rw [eE, b1v, a3t l, fj, Int.add_assoc]
theorem b0Z (l : List Int) : a2j l = oN l.sum := by
 have := a3t l 0
 rw [a1Y (by decide) (by decide), Int.zero_add] at this
 exact this
theorem a4s (l : List Int) (i : Nat) (h : i < l.length) : a2j (l.take (i + 1)) = oN (a2j (l.take i) + iB l i) := by
 unfold a2j
 rw [rL l i h, fp]
 rfl
theorem b0u : ∀ {l : List Int}, (∀ x ∈ l, 0 ≤ x) → 0 ≤ l.sum
 | [], _ => by simp
 | x :: l, h => by
   have h1 := h x (dC ..)
   have h2 := b0u fun y hy => h y (dE _ hy)
   rw [fj]
   omega
theorem a1B : ∀ {l : List Int}, (∀ x ∈ l, 0 ≤ x) → ∀ i, i < l.length → iB l i ≤ l.sum
 | x :: l, h, 0, _ => by
   have h2 := b0u fun y hy => h y (dE _ hy)
   rw [fj]
   show x ≤ _
   omega
 | x :: l, h, i + 1, hi => by
   have h1 := h x (dC ..)
   have h2 := a1B (fun y hy => h y (dE _ hy)) i (by simpa using hi)
   rw [fj]
   show iB l i ≤ _
   omega
theorem b1o : ∀ (l : List Int) (i : Nat) (x : Int), i < l.length → (l.set i x).sum = l.sum - iB l i + x
 | y :: l, 0, x, _ => by
   rw [fJ, fj, fj]
   show x + l.sum = y + l.sum - y + x
   omega
 | y :: l, i + 1, x, h => by
   rw [List.set_cons_succ, fj, fj, b1o l i x (by simpa using h)]
   show y + _ = y + l.sum - iB l i + x
   omega
end Go.Ds
namespace Go.Ds
open Go.Proofs Go.Proofs.Tryz
variable {H : Heap}
set_option maxRecDepth 10000
set_option maxHeartbeats 1000000
structure Kv where
 v : Value
 l : List Nt
 deriving Inhabited
def Kv.cells (k : Kv) : List Value := [k.v]
def Kv.In (H : Heap) (k : Kv) : Prop := Ks H k.v k.l
theorem Kv.In.ab {P : Program} {H' : Heap} {k : Kv} {os : List Ob} (h : k.In H) (hS : St P H H' os) : k.In H' := Ks.ab h hS
def a0D (o : Org) (rg : Reg) (l : List Kv) : Int := if organE o ≠ 0 then organE o else if mK o rg ≠ 0 then mK o rg else if 200 < l.length then 4 else lD (fun j => mS o (iB l j).l) l.length
theorem b9d (o : Org) (ho : o.In H) (rg : Reg) (sv : Value) (hr : rg.In H sv) (lv : Value) (ls : List Kv) (hl : Sl 1 Kv.cells H lv ls) (hle : ls.length < 1000000000) (hk : ∀ k ∈ ls, k.In H) :
 Fn prog 49 [.agg #[.string o.name, o.rv, o.dv, o.cv], .agg #[sv, .int .u64 rg.cpl, .int .u64 rg.off], lv] H fun r H' => r = I (a0D o rg ls) ∧ St prog H H' [] := by
 have hlc := hl.cells
 refine .bq func49 rfl (by kernel_rfl) (m := 39) rfl fun l hn g0 g1 g2 => ?_
 simp (disch := omega) only [↓RA, RB, simprocAttr, g0]
 refine (sR H).eNew 4 [(.string o.name), o.rv, o.dv, o.cv] rfl rfl (by simp [OC, ((sR H).sl ho.1).cells.2.1, ((sR H).sl ho.2.2.1).cells.2.1, ((sR H).sl ho.2.2.2.2.1).cells.2.1]) mJ fun A1 H1 hS1 => ?_
 simp only [RT] at hS1
 simp (disch := omega) only [↓RA, RB, simprocAttr, g1]
 refine hS1.eNew 3 [sv, (.int .u64 rg.cpl), (.int .u64 rg.off)] rfl rfl (by simp [OC, (hS1.sl hr.1).cells.2.1]) pN fun A2 H2 hS2 => ?_
 simp only [RT] at hS2
 simp (disch := omega) only [↓RA, RZ, simprocAttr, hn, hS2.ag 0 rfl]
 refine hS2.cF (xN o (ho.ab hS2)) fun H3 hS3 => ?_
 simp (disch := omega) only [↓RA, RB, simprocAttr, hn]
 refine iA (fun h1 => ?_) (fun h1 => ?_)
 ·simp (disch := omega) only [↓RA, RZ, simprocAttr, hn, b6x, h1]
  exact ⟨by rw [a0D, if_pos h1], hS3.forget⟩
 simp (disch := omega) only [↓RA, RZ, simprocAttr, hn, hS3.ag 0 rfl, hS3.ag 1 rfl, h1]
 refine hS3.cF (b6l o (ho.ab hS3) rg sv (hr.ab hS3)) fun H4 hS4 => ?_
 simp (disch := omega) only [↓RA, RZ, simprocAttr, hn, h1]
 refine iA (fun h2 => ?_) (fun h2 => ?_)
 ·simp (disch := omega) only [↓RA, RZ, simprocAttr, hn, b6x, h1, h2]
  exact ⟨by rw [a0D, if_neg h1, if_pos h2], hS4.forget⟩
 simp (disch := omega) only [↓RA, RZ, simprocAttr, hn, g2, (hS4.sl hl).len, h1, h2]
 refine iA (fun h3 => ?_) (fun h3 => ?_)
 ·simp (disch := omega) only [↓RA, RZ, simprocAttr, hn, b6x, h1, h2, h3]
  exact ⟨by rw [a0D, if_neg h1, if_neg h2, if_pos (by omega)], hS4.forget⟩
 have hE : a0D o rg ls = lD (fun j => mS o (iB ls j).l) ls.length := by rw [a0D, if_neg h1, if_neg h2, if_neg (by omega)]
 simp (disch := omega) only [↓RA, RZ, simprocAttr, hn, g2, (hS4.sl hl).len, h1, h2, h3]
 refine Wp.al (fun n l H' => l.length = 39 ∧ get l 3 = (ptr A1 0 4) ∧ get l 26 = lv ∧ get l 27 = I ls.length ∧ ∃ (j : Nat), (n + j = ls.length ∧ ∀ q, q < j → mS o (iB ls q).l = 0) ∧ get l 28 = I j ∧ St prog H H' [⟨ptr A1 0 4, 0, [(.string o.name), o.rv, o.dv, o.cv]⟩, ⟨ptr A2 0 3, 0, [sv, (.int .u64 rg.cpl), (.int .u64 rg.off)]⟩]) ls.length ?_ ?_
 ·simp (disch := omega) only [RB, RC, simprocAttr, hn]
  exact ⟨0, ⟨by omega, fun q hq => absurd hq (dJ _)⟩, rfl, hS4⟩
 rintro n l H5 ⟨hn, g3, g26, g27, j, ⟨hj,hz⟩, g28, hS5⟩
 simp (disch := omega) only [↓RA, RB, simprocAttr, hn, g27, g28]
 refine iA (fun q1 => ?_) (fun q1 => ?_)
 ·simp (disch := omega) only [↓RA, RZ, simprocAttr, hn, g3, g26, g28, (hS5.sl hl).idx, (hS5.sl hl).ld, Kv.cells, hS5.ag 0 rfl, q1]
  refine hS5.cF (a2F o (ho.ab hS5) (iB ls j).v (iB ls j).l ((hk _ (iE (by omega))).ab hS5)) fun H6 hS6 => ?_
  simp (disch := omega) only [↓RA, RZ, simprocAttr, hn, q1]
  refine iA (fun q2 => ?_) (fun q2 => ?_)
  ·simp (disch := omega) only [↓RA, RZ, simprocAttr, hn, b6x, q1, q2]
   exact ⟨by rw [hE, nD (fun j => mS o (iB ls j).l) ls.length j (by omega) q2 hz], hS6.forget⟩
  simp (disch := omega) only [↓RA, RZ, simprocAttr, hn, g3, g26, g27, g28, q1, q2]
  exact ⟨n - 1, by omega, j + 1, ⟨by omega, fun q hq => by rcases di.1 hq with e | e; (· exact hz q e); (· rw [e]; exact dp.1 q2)⟩, by simp, hS6.pick [0, 1] (by decide) rfl⟩
 simp (disch := omega) only [↓RA, RZ, simprocAttr, hn, b6x, q1]
 exact ⟨by rw [hE, kG (fun j => mS o (iB ls j).l) ls.length fun q hq => hz q (by omega)], hS5.forget⟩
theorem a0Z (a : Addr) (m c : Nat) : kP prog .eql 44 44 false true (.slice (some a) m c) (.slice none 0 0) = some (.bool false) := by kernel_rfl
theorem uW {v : Value} {a : Addr} {m c : Nat} (h : v = .slice (some a) m c) (K : Value → Prop) : kS prog .eql 44 44 false true v (.slice none 0 0) K = nV (.bool false) K := by
 subst h
 show jP (kP prog .eql 44 44 false true (.slice (some a) m c) (.slice none 0 0)) K = _
 rw [a0Z]
 rfl
theorem a0q : kP prog .eql 44 44 false true (.slice none 0 0) (.slice none 0 0) = some (.bool true) := by kernel_rfl
theorem oQ (K : Value → Prop) : kS prog .eql 44 44 false true (.slice none 0 0) (.slice none 0 0) K = nV (.bool true) K := by
 show jP (kP prog .eql 44 44 false true (.slice none 0 0) (.slice none 0 0)) K = _
 rw [a0q]
 rfl
theorem c1I (v : Value) (xs : List Nt) (hv : Sl 2 ntc H v xs) (hl : xs.length < 100000000) : Fn prog 56 [v] H fun r H' => St prog H H' [⟨r, 2, xs.flatMap ntc⟩] := by
 rcases hv.rd with ⟨rfl, h2⟩ | ⟨A, i, e, row, ty, rw', lo, ver, m, _, _, _, _, _, _, hvv⟩
 ·have hx : xs = [] := by
   have := congrArg List.length h2
   rw [show (xs.flatMap ntc).length = xs.length * 2 from iM (n := 2) (cel := ntc) (fun _ => rfl) xs, eG] at this
   exact fb.1 (by omega)
  subst hx
  refine .aQ func56 rfl (by kernel_rfl) (m := 8) rfl fun l hn g0 => ?_
  have hbe := oQ
  simp (disch := omega) only [↓RA, RB, simprocAttr, hn, g0, oQ]
  have hS1 := (sR H).nil 1
  simp only [RT] at hS1
  simp (disch := omega) only [RB, simprocAttr, hn, c2Z]
  exact hS1
 ·refine .aQ func56 rfl (by kernel_rfl) (m := 8) rfl fun l hn g0 => ?_
  simp (disch := omega) only [↓RA, RB, simprocAttr, hn, g0, uW hvv]
  refine (sR H).bD a3q fun w1 H1 hS1 => ?_
  simp only [RT] at hS1
  simp (disch := omega) only [↓RA, RZ, simprocAttr, hn, g0]
  refine hS1.aq 0 rfl (hS1.sl hv).rd a3q (by rw [show (xs.flatMap ntc).length = xs.length * 2 from iM (n := 2) (cel := ntc) (fun _ => rfl) xs]; simp; omega) fun w2 H2 hS2 => ?_
  simp only [RT] at hS2
  simp (disch := omega) only [↓RA, RB, simprocAttr, hn, c2Z]
  exact hS2
theorem a0Q (a : Addr) (m c : Nat) : kP prog .eql 90 90 false true (.slice (some a) m c) (.slice none 0 0) = some (.bool false) := by kernel_rfl
theorem tU {v : Value} {a : Addr} {m c : Nat} (h : v = .slice (some a) m c) (K : Value → Prop) : kS prog .eql 90 90 false true v (.slice none 0 0) K = nV (.bool false) K := by
 subst h
 show jP (kP prog .eql 90 90 false true (.slice (some a) m c) (.slice none 0 0)) K = _
 rw [a0Q]
 rfl
theorem zM : kP prog .eql 90 90 false true (.slice none 0 0) (.slice none 0 0) = some (.bool true) := by kernel_rfl
theorem oR (K : Value → Prop) : kS prog .eql 90 90 false true (.slice none 0 0) (.slice none 0 0) K = nV (.bool true) K := by
 show jP (kP prog .eql 90 90 false true (.slice none 0 0) (.slice none 0 0)) K = _
 rw [zM]
 rfl
theorem b0y (v : Value) (xs : List Ct) (hv : Sl 2 kD H v xs) (hl : xs.length < 100000000) : Fn prog 89 [v] H fun r H' => St prog H H' [⟨r, 2, xs.flatMap kD⟩] := by
 rcases hv.rd with ⟨rfl, h2⟩ | ⟨A, i, e, row, ty, rw', lo, ver, m, _, _, _, _, _, _, hvv⟩
 ·have hx : xs = [] := by
   have := congrArg List.length h2
   rw [show (xs.flatMap kD).length = xs.length * 2 from iM (n := 2) (cel := kD) (fun _ => rfl) xs, eG] at this
   exact fb.1 (by omega)
  subst hx
  refine .aQ func89 rfl (by kernel_rfl) (m := 8) rfl fun l hn g0 => ?_
  have hbe := oR
  simp (disch := omega) only [↓RA, RB, simprocAttr, hn, g0, oR]
  have hS1 := (sR H).nil 1
  simp only [RT] at hS1
  simp (disch := omega) only [RB, simprocAttr, hn, c4f]
  exact hS1
 ·refine .aQ func89 rfl (by kernel_rfl) (m := 8) rfl fun l hn g0 => ?_
  simp (disch := omega) only [↓RA, RB, simprocAttr, hn, g0, tU hvv]
  refine (sR H).bD vM fun w1 H1 hS1 => ?_
  simp only [RT] at hS1
  simp (disch := omega) only [↓RA, RZ, simprocAttr, hn, g0]
  refine hS1.aq 0 rfl (hS1.sl hv).rd vM (by rw [show (xs.flatMap kD).length = xs.length * 2 from iM (n := 2) (cel := kD) (fun _ => rfl) xs]; simp; omega) fun w2 H2 hS2 => ?_
  simp only [RT] at hS2
  simp (disch := omega) only [↓RA, RB, simprocAttr, hn, c4f]
  exact hS2
end Go.Ds
namespace Go.Ds
open Go.Proofs
variable {H : Heap}
set_option maxRecDepth 10000
set_option maxHeartbeats 1000000
end Go.Ds
namespace Go.Ds
open Go.Proofs Go.Proofs.Tryz
variable {H : Heap}
set_option maxRecDepth 10000
set_option maxHeartbeats 1000000
def a2H (o : Org) (rg : Reg) (ks : List Nt) (c : Ct) : Int := if rkE o rg ks ≠ 0 then rkE o rg ks else uE o c
def adF (o : Org) (rg : Reg) (ks : List Nt) (c : Ct) : List Ct := if a2H o rg ks c = 0 then vZ (jE o rg (iF ks ++ [c])) (jE o rg (iF ks)) else []
theorem b5d (hG : Glob gH H) (o : Org) (ho : o.In H) (hdv : o.dvs.length ≤ 7) (rg : Reg) (sv : Value) (hr : rg.In H sv) (kv : Value) (ks : List Nt) (hk : Ks H kv ks) (c : Ct) :
 Fn prog 54 [.agg #[.string o.name, o.rv, o.dv, o.cv], .agg #[sv, .int .u64 rg.cpl, .int .u64 rg.off], kv, .agg #[I c.1, I c.2]] H fun r H' => ∃ v, r = .tuple #[v, I (a2H o rg ks c)] ∧ Slx 2 kD H' (fun B => H.length ≤ B) v (adF o rg ks c) ∧ St prog H H' [] := by
 have hnil : ∀ {H' : Heap}, Slx 2 kD H' (fun B => H.length ≤ B) (.slice none 0 0) ([] : List Ct) := fun {H'} => ⟨⟨.inl ⟨rfl, rfl⟩, kF, by decide⟩, fun b h => by simp [kJ] at h⟩
 refine .cI func54 rfl (by kernel_rfl) (m := 42) rfl fun l hn g0 g1 g2 g3 => ?_
 simp (disch := omega) only [↓RA, RB, simprocAttr, g0]
 refine (sR H).eNew 4 [(.string o.name), o.rv, o.dv, o.cv] rfl rfl (by simp [OC, ((sR H).sl ho.1).cells.2.1, ((sR H).sl ho.2.2.1).cells.2.1, ((sR H).sl ho.2.2.2.2.1).cells.2.1]) mJ fun A1 H1 hS1 => ?_
 simp only [RT] at hS1
 simp (disch := omega) only [↓RA, RB, simprocAttr, g1]
 refine hS1.eNew 3 [sv, (.int .u64 rg.cpl), (.int .u64 rg.off)] rfl rfl (by simp [OC, (hS1.sl hr.1).cells.2.1]) pN fun A2 H2 hS2 => ?_
 simp only [RT] at hS2
 simp (disch := omega) only [↓RA, RB, simprocAttr, g3]
 refine hS2.eNew 2 [I c.1, I c.2] rfl rfl rfl nU fun A3 H3 hS3 => ?_
 simp only [RT] at hS3
 simp (disch := omega) only [↓RA, RZ, simprocAttr, hn, hS3.ag 0 rfl, hS3.ag 1 rfl]
 refine hS3.ai [sv, (.int .u64 rg.cpl), (.int .u64 rg.off)] b6f b6L rfl rfl (by first | (simp []; done) | simp [Value.cells]) (by first | (simp []; done) | simp [Value.cells]) (by simp [OC, (hS3.sl hr.1).cells.2.1]) (by decide) (by decide) fun w1 H4 hS4 => ?_
 simp only [RT] at hS4
 simp (disch := omega) only [↓RA, RZ, simprocAttr, hn, g2]
 refine hS4.cF (b6s o (ho.ab hS4) w1 [(sv, rg)] (hS4.aw 3 rfl (fun _ => rfl)) (by simp) (by intro p hp; rw [du.1 hp]; exact hr.ab hS4) kv ks (hk.ab hS4)) fun H5 hS5 => ?_
 have hsc := a7s o sv rg ks
 simp (disch := omega) only [↓RA, RB, simprocAttr, hn, hsc]
 refine iA (fun h1 => ?_) (fun h1 => ?_)
 ·have hd : a2H o rg ks c = rkE o rg ks := by rw [a2H, if_pos h1]
  simp (disch := omega) only [↓RA, RZ, simprocAttr, hn, c1e, hsc, h1]
  rw [hd, adF, if_neg (by rw [hd]; exact h1)]
  exact ⟨.slice none 0 0, rfl, hnil, hS5.forget⟩
 have hd : a2H o rg ks c = uE o c := by rw [a2H, if_neg h1]
 have h0 := dp.1 h1
 simp (disch := omega) only [↓RA, RZ, simprocAttr, hn, hS5.ag 0 rfl, hS5.ag 2 rfl, hsc, h1]
 refine hS5.cF (tD o (ho.ab hS5) c) fun H6 hS6 => ?_
 simp (disch := omega) only [↓RA, RZ, simprocAttr, hn, hsc, h1]
 refine iA (fun h2 => ?_) (fun h2 => ?_)
 ·simp (disch := omega) only [↓RA, RZ, simprocAttr, hn, c1e, hsc, h1, h2]
  rw [hd, adF, if_neg (by rw [hd]; exact h2)]
  exact ⟨.slice none 0 0, rfl, hnil, hS6.forget⟩
 have h3 := dp.1 h2
 have hc := (oB o c).1 h3
 obtain ⟨hz1, hz2⟩ := uT h0
 obtain ⟨hz3, hz4⟩ := lQ hz1
 have hf := Org.aS hz3
 have hplc := qH hk.ok hz2
 have hkl := (oW hz2).2.1
 have hpl := a4b ks ks.length
 have hpl2 : (iF ks).length ≤ 896 := by unfold iF; omega
 have hpll := rQ hz2
 have hplc2 : ∀ x ∈ iF ks ++ [c], nA o x = true := fun x hx => by
  rcases dD.1 hx with h | h
  ·exact hplc x h
  ·rw [du.1 h]; exact hc
 have hpll2 : (iF ks ++ [c]).length ≤ 1024 := by rw [dq, gp]; omega
 rw [hd, h3, adF, if_pos (by rw [hd]; exact h3)]
 simp (disch := omega) only [↓RA, RZ, simprocAttr, hn, g2, hsc, h1]
 refine iI ((a4l (hS6.gl hG) kv ks (hk.ab hS6) (by omega)).tr) ?_
 rintro r H7 ⟨-, hT3⟩
 have hS7 := hS6.trans hT3
 simp only [RT] at hS7
 obtain ⟨pv, rfl⟩ : ∃ w, w = r := ⟨r, rfl⟩
 simp (disch := omega) only [↓RA, RZ, simprocAttr, hn, hsc, h1]
 refine Wp.aR kE [(0, 4), (0, 7), (1, 4), (1, 7), (4, 0), (8, 0), (8, 4), (8, 7), (9, 0), (9, 4), (9, 7)] (by kernel_rfl) (by kernel_rfl) ?_
 simp (disch := omega) only [↓RA, RZ, simprocAttr, hn, hS7.ag 0 rfl, hS7.ag 1 rfl]
 refine iI ((b0y pv (iF ks) (hS7.aw 4 rfl kF) (by omega)).tr) ?_
 rintro r H8 ⟨-, hT4⟩
 have hS8 := hS7.trans hT4
 simp only [RT] at hS8
 obtain ⟨qv, rfl⟩ : ∃ w, w = r := ⟨r, rfl⟩
 simp (disch := omega) only [↓RA, RZ, simprocAttr, hn, hS8.ag 2 rfl]
 refine hS8.ai [I c.1, I c.2] vM a9l rfl rfl (by simp [Value.cells]) rfl rfl (by decide) (by decide) fun w2 H9 hS9 => ?_
 simp only [RT] at hS9
 simp (disch := omega) only [↓RA, RZ, simprocAttr, hn]
 refine hS9.aq 5 rfl (hS9.rd 6 rfl) vM (by rw [show ((iF ks).flatMap kD).length = (iF ks).length * 2 from iK _]; simp only [dX, eG]; omega) fun w3 H10 hS10 => ?_
 simp only [RT] at hS10
 simp (disch := omega) only [↓RA, RZ, simprocAttr, hn]
 have happ : (iF ks).flatMap kD ++ [I c.1, I c.2] = pr (iF ks ++ [c]) := by rw [jV]; rfl
 rw [happ] at hS10
 have hS1 := hS10
 refine iI (rG o (ho.ab hS10) hf rg sv (hr.ab hS10) hz4 w3 (iF ks ++ [c]) (hS10.aw 5 rfl kF) hpll2 hplc2) ?_
 rintro r H11 ⟨hx, hT5⟩
 have hS11 := hS10.trans hT5
 simp only [RT] at hS11
 obtain ⟨av, rfl⟩ : ∃ w, w = r := ⟨r, rfl⟩
 have hx2 := hx.step (hS1.aZ (H' := H11))
 obtain ⟨X, hBX, hS12⟩ := hS11.aC (os := [⟨ptr A1 0 4, 0, _⟩, ⟨ptr A2 0 3, 0, _⟩, ⟨ptr A3 0 2, 0, _⟩, ⟨w1, 3, _⟩, ⟨pv, 2, _⟩, ⟨w3, 2, _⟩, ⟨w2, 2, _⟩])
 simp (disch := omega) only [↓RA, RZ, simprocAttr, hn, hS12.ag 0 rfl, hS12.ag 1 rfl]
 have hS2 := hS12
 refine iI (rG o (ho.ab (hS11.aj hBX hS12)) hf rg sv (hr.ab (hS11.aj hBX hS12)) hz4 pv (iF ks) (hS12.aw 4 rfl kF) hpll hplc) ?_
 rintro r H12 ⟨hy, hT6⟩
 have hS13 := hS12.trans hT6
 simp only [RT] at hS13
 obtain ⟨bv, rfl⟩ : ∃ w, w = r := ⟨r, rfl⟩
 have hx3 := hx2.step (hS13.kept hBX)
 have hy2 := hy.step (hS2.aZ (H' := H12))
 obtain ⟨Y, hBY, hS14⟩ := hS13.aC (os := [⟨ptr A1 0 4, 0, _⟩, ⟨ptr A2 0 3, 0, _⟩, ⟨ptr A3 0 2, 0, _⟩, ⟨w1, 3, _⟩, ⟨pv, 2, _⟩, ⟨w3, 2, _⟩, ⟨w2, 2, _⟩])
 have hla := pF hf rg hpll2 (mB hplc2)
 have hlb := pF hf rg hpll (mB hplc)
 have hsb := lU o rg (iF ks)
 have hx4 := hx3.step (hS14.kept hBY)
 have hy3 := hy2.step (hS14.kept hBY)
 simp (disch := omega) only [↓RA, RZ, simprocAttr, hn]
 refine iI ((a7Y av bv (jE o rg (iF ks ++ [c])) (jE o rg (iF ks)) hx4.1 hy3.1 (by omega) (by omega) hsb).tr) ?_
 rintro r H13 ⟨-, hT7⟩
 have hS15 := hS14.trans hT7
 simp only [RT] at hS15
 obtain ⟨gv, rfl⟩ : ∃ w, w = r := ⟨r, rfl⟩
 have hnt1 := (hS15.aw (cel := kD) 7 rfl kF).bp
 simp (disch := omega) only [↓RA, RZ, simprocAttr, hn, hS8.ag 0 rfl, hS10.ag 0 rfl, hS8.ag 1 rfl, hS10.ag 1 rfl, hS7.ag 2 rfl, hS7.ag 0 rfl, hS7.ag 1 rfl, c1e, hnt1]
 exact ⟨gv, rfl, (hS11.aj hBX (hS13.aj hBY hS15)).cm 7 rfl kF, (hS11.aj hBX (hS13.aj hBY hS15)).forget⟩
theorem b4i (o : Org) (rg : Reg) : a0D o rg [] = mK o rg := by
 unfold a0D
 split
 ·rename_i h
  unfold mK
  rw [if_pos h]
 ·split
  ·rfl
  ·rename_i h
   rw [if_neg (by simp), dp.1 h]
   exact kG _ _ fun j hj => absurd hj (dJ _)
theorem c1Q {H : Heap} : Sl 1 Kv.cells H (.slice none 0 0) [] := ⟨.inl ⟨rfl, rfl⟩, fun _ => rfl, by decide⟩
theorem a7J (o : Org) (ho : o.In H) (rg : Reg) (sv : Value) (hr : rg.In H sv) :
 Fn prog 49 [.agg #[.string o.name, o.rv, o.dv, o.cv], .agg #[sv, .int .u64 rg.cpl, .int .u64 rg.off], .slice none 0 0] H fun r H' => r = I (mK o rg) ∧ St prog H H' [] := by
 have h := b9d o ho rg sv hr (.slice none 0 0) [] c1Q (by simp) (by simp)
 rw [b4i] at h
 exact h
def b5M (o : Org) (rg : Reg) (ks : List Nt) (c : Ct) : Int := lR o (adF o rg ks c)
theorem b9v {o : Org} {rg : Reg} {ks : List Nt} {c : Ct} : ∀ p ∈ adF o rg ks c, IsP o p := by
 intro p hp
 unfold adF at hp
 split at hp
 ·exact sJ (eu.1 hp).1
 ·exact absurd hp dV
theorem c1Z {o : Org} (hdv : o.dvs.length ≤ 7) {rg : Reg} {ks : List Nt} {c : Ct} (hok : ∀ x ∈ ks, Nt.Ok x) : (adF o rg ks c).length ≤ 1000000 := by
 unfold adF
 split
 ·rename_i h
  refine dy (a6h _ _) ?_
  have h1 : rkE o rg ks = 0 := by
   unfold a2H at h
   split at h
   ·rename_i h2; exact absurd h h2
   ·rename_i h2; exact dp.1 h2
  have h2 : uE o c = 0 := by
   unfold a2H at h
   rw [if_neg (by rw [h1]; simp)] at h
   exact h
  obtain ⟨z1, z2⟩ := uT h1
  have hf := Org.aS (lQ z1).1
  have hcc := (oB o c).1 h2
  have hwl : (iF ks ++ [c]).length ≤ 1024 := by
   have hkl := (oW z2).2.1
   have hd := hf.dlen
   have hpl := a4b ks ks.length
   rw [dq, gp]
   unfold iF
   omega
  exact pF hf rg hwl (mB fun x hx => by
   rcases dD.1 hx with h | h
   ·exact qH hok z2 x h
   ·rw [du.1 h]; exact hcc)
 ·simp
theorem a7q (hG : Glob gH H) (o : Org) (ho : o.In H) (hdv : o.dvs.length ≤ 7) (rg : Reg) (sv : Value) (hr : rg.In H sv) (kv : Value) (ks : List Nt) (hk : Ks H kv ks) (c : Ct) :
 Fn prog 29 [.agg #[.string o.name, o.rv, o.dv, o.cv], .agg #[sv, .int .u64 rg.cpl, .int .u64 rg.off], kv, .agg #[I c.1, I c.2]] H fun r H' => r = .tuple #[I (b5M o rg ks c), I (a2H o rg ks c)] ∧ St prog H H' [] := by
 have hle := c1Z hdv (rg := rg) (c := c) hk.ok
 refine .cI func29 rfl (by kernel_rfl) (m := 26) rfl fun l hn g0 g1 g2 g3 => ?_
 simp (disch := omega) only [↓RA, RB, simprocAttr, g0]
 refine (sR H).eNew 4 [(.string o.name), o.rv, o.dv, o.cv] rfl rfl (by simp [OC, ((sR H).sl ho.1).cells.2.1, ((sR H).sl ho.2.2.1).cells.2.1, ((sR H).sl ho.2.2.2.2.1).cells.2.1]) mJ fun A1 H1 hS1 => ?_
 simp only [RT] at hS1
 simp (disch := omega) only [↓RA, RB, simprocAttr, g1]
 refine hS1.eNew 3 [sv, (.int .u64 rg.cpl), (.int .u64 rg.off)] rfl rfl (by simp [OC, (hS1.sl hr.1).cells.2.1]) pN fun A2 H2 hS2 => ?_
 simp only [RT] at hS2
 simp (disch := omega) only [↓RA, RB, simprocAttr, g3]
 refine hS2.eNew 2 [I c.1, I c.2] rfl rfl rfl nU fun A3 H3 hS3 => ?_
 simp only [RT] at hS3
 simp (disch := omega) only [↓RA, RZ, simprocAttr, hn, g2, hS3.ag 0 rfl, hS3.ag 1 rfl, hS3.ag 2 rfl]
 refine iI (b5d (hS3.gl hG) o (ho.ab hS3) hdv rg sv (hr.ab hS3) kv ks (hk.ab hS3) c) ?_
 rintro r H4 ⟨av, rfl, hx, hT1⟩
 have hS4 := hS3.trans hT1
 simp only [RT] at hS4
 simp (disch := omega) only [↓RA, RB, simprocAttr, hn]
 refine iA (fun h1 => ?_) (fun h1 => ?_)
 ·have hs : b5M o rg ks c = 0 := by unfold b5M adF; rw [if_neg h1]; rfl
  simp (disch := omega) only [↓RA, RZ, simprocAttr, hn, c4B, h1]
  exact ⟨by rw [hs], hS4.forget⟩
 have h0 := dp.1 h1
 simp (disch := omega) only [↓RA, RZ, simprocAttr, hn, hS4.ag 0 rfl, h1]
 refine hS4.cF (a2G o (ho.ab hS4) av (adF o rg ks c) hx.1 (by omega) b9v) fun H5 hS5 => ?_
 simp (disch := omega) only [↓RA, RZ, simprocAttr, hn, c4B, h1]
 rw [h0]
 exact ⟨rfl, hS5.forget⟩
def grR (o : Org) (rg : Reg) : Ct × Int := if mK o rg = 0 then grF (mD o rg) (c0v o) (((0 : Int), (iB o.dvs 0).lo), 0) else ((0, 0), 0)
theorem c4i (l : List Value) (H : Heap) : iC prog Tryz.f20 l H = (pM (jN prog 64) (iD prog 64) H (get l 4)).bind fun v => if (jC v && (jC (get l 5) && (jC (get l 6) && true))) = true then some (.tuple #[v, get l 5, get l 6]) else none := by
 show (Option.bind (Option.bind (lM prog H 64 (get l 4)) fun v => some [v, get l 5, get l 6]) fun vs => _) = _
 rw [lB]
 cases pM _ _ H (get l 4) <;> rfl
theorem a7E (o : Org) (ho : o.In H) (rg : Reg) (sv : Value) (hr : rg.In H sv) :
 Fn prog 20 [.agg #[.string o.name, o.rv, o.dv, o.cv], .agg #[sv, .int .u64 rg.cpl, .int .u64 rg.off]] H fun r H' => r = .tuple #[.agg #[I (grR o rg).1.1, I (grR o rg).1.2], I (grR o rg).2, I (mK o rg)] ∧ St prog H H' [] := by
 refine .aJ func20 rfl (by kernel_rfl) (m := 64) rfl fun l hn g0 g1 => ?_
 simp (disch := omega) only [↓RA, RB, simprocAttr, g0]
 refine (sR H).eNew 4 [(.string o.name), o.rv, o.dv, o.cv] rfl rfl (by simp [OC, ((sR H).sl ho.1).cells.2.1, ((sR H).sl ho.2.2.1).cells.2.1, ((sR H).sl ho.2.2.2.2.1).cells.2.1]) mJ fun A1 H1 hS1 => ?_
 simp only [RT] at hS1
 simp (disch := omega) only [↓RA, RB, simprocAttr, g1]
 refine hS1.eNew 3 [sv, (.int .u64 rg.cpl), (.int .u64 rg.off)] rfl rfl (by simp [OC, (hS1.sl hr.1).cells.2.1]) pN fun A2 H2 hS2 => ?_
 simp only [RT] at hS2
 simp (disch := omega) only [↓RA, RZ, simprocAttr]
 refine hS2.eNew 2 [I 0, I 0] rfl rfl rfl nU fun A3 H3 hS3 => ?_
 simp only [RT] at hS3
 simp (disch := omega) only [↓RA, RZ, simprocAttr, hn, hS3.ag 0 rfl, hS3.ag 1 rfl]
 refine hS3.cF (a7J o (ho.ab hS3) rg sv (hr.ab hS3)) fun H4 hS4 => ?_
 simp (disch := omega) only [↓RA, RB, simprocAttr, hn]
 refine iA (fun h1 => ?_) (fun h1 => ?_)
 ·have e : grR o rg = ((0, 0), 0) := by unfold grR; rw [if_neg h1]
  simp (disch := omega) only [↓RA, RZ, simprocAttr, hn, c3l, h1]
  refine hS4.aa 2 rfl [I 0, I 0] rfl rfl nU (by simp) fun H5 hS5 => ?_
  simp only [RT] at hS5
  simp (disch := omega) only [↓RA, RZ, simprocAttr, hn, c4i, hS5.ag 2 rfl, h1]
  exact ⟨by rw [e], hS5.forget⟩
 have h0 := dp.1 h1
 have hf := Org.aS (lQ h0).1
 have hd := hf.dpos
 have hdl := hf.dlen
 have e : grR o rg = grF (mD o rg) (c0v o) (((0 : Int), (iB o.dvs 0).lo), 0) := by unfold grR; rw [if_pos h0]
 simp (disch := omega) only [↓RA, RZ, simprocAttr, hn, hS4.ld 0 rfl, (hS4.sl ho.2.2.1).idx, (hS4.sl ho.2.2.1).bh, (hS4.sl ho.2.2.1).ld, Dvn.cells, h1]
 refine hS4.aa 2 rfl [I (iB o.dvs 0).lo] rfl rfl tS3 (by simp) fun H6 hS6 => ?_
 simp only [RT] at hS6
 simp (disch := omega) only [↓RA, RZ, simprocAttr, hn, hS6.ld 0 rfl, (hS6.sl ho.2.2.1).len, h1]
 refine Wp.al (fun n l H' => l.length = 64 ∧ get l 2 = (ptr A1 0 4) ∧ get l 3 = (ptr A2 0 3) ∧ get l 4 = (ptr A3 0 2) ∧ get l 6 = I 0 ∧ get l 29 = o.dv ∧ get l 30 = I o.dvs.length ∧ ∃ (i : Nat), (n + i = o.dvs.length) ∧ get l 31 = I i ∧ get l 5 = I (grF (mD o rg) ((List.range i).flatMap (xL o)) (((0 : Int), (iB o.dvs 0).lo), 0)).2 ∧ St prog H H' [⟨ptr A1 0 4, 0, [(.string o.name), o.rv, o.dv, o.cv]⟩, ⟨ptr A2 0 3, 0, [sv, (.int .u64 rg.cpl), (.int .u64 rg.off)]⟩, ⟨ptr A3 0 2, 0, [I (grF (mD o rg) ((List.range i).flatMap (xL o)) (((0 : Int), (iB o.dvs 0).lo), 0)).1.1, I (grF (mD o rg) ((List.range i).flatMap (xL o)) (((0 : Int), (iB o.dvs 0).lo), 0)).1.2]⟩]) o.dvs.length ?_ ?_
 ·simp (disch := omega) only [RB, RC, simprocAttr, hn]
  exact ⟨0, by omega, rfl, rfl, hS6⟩
 rintro n l H7 ⟨hn, g2, g3, g4, g6, g29, g30, i, hi, g31, g5, hS7⟩
 simp (disch := omega) only [↓RA, RB, simprocAttr, hn, g30, g31]
 refine iA (fun q1 => ?_) (fun q1 => ?_)
 ·have hki := hf.keys i (by omega)
  have hcn : (b3c o i : Int) = (iB o.dvs i).hi - (iB o.dvs i).lo + 1 := by unfold b3c; omega
  have hpre : a0R o i 0 = (List.range i).flatMap (xL o) := by unfold a0R; simp
  simp (disch := omega) only [↓RA, RZ, simprocAttr, hn, g29, g31, (hS7.sl ho.2.2.1).idx, (hS7.sl ho.2.2.1).ag, Dvn.cells, q1]
  refine hS7.eNew 5 [(.string ⟨#[]⟩), (.bool false), I 0, I 0, (.slice none 0 0)] rfl rfl rfl yU fun A4 H8 hS8 => ?_
  simp only [RT] at hS8
  simp (disch := omega) only [↓RA, RZ, simprocAttr, hn, q1]
  refine hS8.aa 3 rfl [(.string (iB o.dvs i).name), (.bool (iB o.dvs i).pedal), I (iB o.dvs i).lo, I (iB o.dvs i).hi, (iB o.dvs i).sv] rfl (by simp [OC, (hS8.sl (ho.2.2.2.1 (iB o.dvs i) (iE (by omega))).1).cells.2.1]) yU (by simp) fun H9 hS9 => ?_
  simp only [RT] at hS9
  simp (disch := omega) only [↓RA, RZ, simprocAttr, hn, hS9.ld 3 rfl, q1]
  refine Wp.al (fun n l H' => l.length = 64 ∧ get l 2 = (ptr A1 0 4) ∧ get l 3 = (ptr A2 0 3) ∧ get l 4 = (ptr A3 0 2) ∧ get l 6 = I 0 ∧ get l 8 = I i ∧ get l 9 = (ptr A4 0 5) ∧ get l 29 = o.dv ∧ get l 30 = I o.dvs.length ∧ get l 31 = I i ∧ ∃ (k : Nat), (n + k = b3c o i) ∧ get l 10 = I ((iB o.dvs i).lo + k) ∧ get l 5 = I (grF (mD o rg) (a0R o i k) (((0 : Int), (iB o.dvs 0).lo), 0)).2 ∧ St prog H H' [⟨ptr A1 0 4, 0, [(.string o.name), o.rv, o.dv, o.cv]⟩, ⟨ptr A2 0 3, 0, [sv, (.int .u64 rg.cpl), (.int .u64 rg.off)]⟩, ⟨ptr A3 0 2, 0, [I (grF (mD o rg) (a0R o i k) (((0 : Int), (iB o.dvs 0).lo), 0)).1.1, I (grF (mD o rg) (a0R o i k) (((0 : Int), (iB o.dvs 0).lo), 0)).1.2]⟩, ⟨ptr A4 0 5, 0, [(.string (iB o.dvs i).name), (.bool (iB o.dvs i).pedal), I (iB o.dvs i).lo, I (iB o.dvs i).hi, (iB o.dvs i).sv]⟩]) (b3c o i) ?_ ?_
  ·simp (disch := omega) only [RB, RC, simprocAttr, hn, g2, g3, g4, g6, g29, g30, g31, g5]
   refine ⟨0, by omega, by simp, ?_⟩
   rw [hpre]
   exact ⟨rfl, hS9⟩
  rintro n l H10 ⟨hn, g2, g3, g4, g6, g8, g9, g29, g30, g31, k, hk, nS, g5, hS10⟩
  simp (disch := omega) only [↓RA, RZ, simprocAttr, hn, g9, nS, hS10.ld 3 rfl]
  refine iA (fun q2 => ?_) (fun q2 => ?_)
  ·have hsu : grF (mD o rg) (a0R o i (k + 1)) (((0 : Int), (iB o.dvs 0).lo), 0) = grS (mD o rg) (grF (mD o rg) (a0R o i k) (((0 : Int), (iB o.dvs 0).lo), 0)) (kAt o i k) := by rw [b2M, b9c]
   unfold grS at hsu
   simp (disch := omega) only [↓RA, RZ, simprocAttr, hn, g8, nS, uK, q2]
   refine hS10.eNew 2 [I 0, I 0] rfl rfl rfl nU fun A5 H11 hS11 => ?_
   simp only [RT] at hS11
   simp (disch := omega) only [↓RA, RZ, simprocAttr, hn, q2]
   refine hS11.aa 4 rfl [I i, I ((iB o.dvs i).lo + k)] rfl rfl nU (by simp) fun H12 hS12 => ?_
   simp only [RT] at hS12
   simp (disch := omega) only [↓RA, RZ, simprocAttr, hn, g2, g3, hS12.ag 0 rfl, hS12.ag 1 rfl, hS12.ag 4 rfl, q2]
   refine hS12.cF (b1s o (ho.ab hS12) rg sv (hr.ab hS12) (kAt o i k)) fun H13 hS13 => ?_
   simp (disch := omega) only [↓RA, RZ, simprocAttr, hn, g5, q2]
   refine iA (fun q3 => ?_) (fun q3 => ?_)
   ·simp (disch := omega) only [↓RA, RZ, simprocAttr, hn, g4, hS13.ag 4 rfl, q2, q3]
    refine hS13.aa 2 rfl [I i, I ((iB o.dvs i).lo + k)] rfl rfl nU (by simp) fun H14 hS14 => ?_
    simp only [RT] at hS14
    simp (disch := omega) only [↓RA, RZ, simprocAttr, hn, g2, g3, g4, g6, g8, g9, g29, g30, g31, nS, q2, q3]
    rw [if_pos q3] at hsu
    refine ⟨n - 1, by omega, k + 1, by omega, by congr 1; omega, by rw [hsu], ?_⟩
    rw [hsu]
    exact hS14.pick [0, 1, 2, 3] (by decide) rfl
   simp (disch := omega) only [↓RA, RZ, simprocAttr, hn, g2, g3, g4, g6, g8, g9, g29, g30, g31, nS, g5, q2, q3]
   rw [if_neg q3] at hsu
   refine ⟨n - 1, by omega, k + 1, by omega, by congr 1; omega, by rw [hsu], ?_⟩
   rw [hsu]
   exact hS13.pick [0, 1, 2, 3] (by decide) rfl
  simp (disch := omega) only [↓RA, RZ, simprocAttr, hn, g2, g3, g4, g6, g29, g30, g31, g5, q2]
  have hkk : k = b3c o i := by omega
  rw [hkk, a4o] at hS10
  refine ⟨o.dvs.length - (i + 1), by omega, i + 1, by omega, by simp, ?_, ?_⟩
  ·rw [hkk, a4o]
  ·exact hS10.pick [0, 1, 2] (by decide) rfl
 simp (disch := omega) only [↓RA, RZ, simprocAttr, hn, g4, g5, hS7.ag 2 rfl, q1]
 refine hS7.aa 2 rfl [I (grF (mD o rg) ((List.range i).flatMap (xL o)) (((0 : Int), (iB o.dvs 0).lo), 0)).1.1, I (grF (mD o rg) ((List.range i).flatMap (xL o)) (((0 : Int), (iB o.dvs 0).lo), 0)).1.2] rfl rfl nU (by simp) fun H15 hS15 => ?_
 simp only [RT] at hS15
 simp (disch := omega) only [↓RA, RZ, simprocAttr, hn, g4, c4i, hS15.ag 2 rfl, q1]
 have hii : i = o.dvs.length := by omega
 rw [h0]
 refine ⟨?_, hS15.forget⟩
 rw [hii, e]
 rfl
def a1C (o : Org) (rg : Reg) : Int := if mK o rg = 0 then lR o (jE o rg (iF (pV o))) else 0
theorem b8n (hG : Glob gH H) (o : Org) (ho : o.In H) (rg : Reg) (sv : Value) (hr : rg.In H sv) :
 Fn prog 21 [.agg #[.string o.name, o.rv, o.dv, o.cv], .agg #[sv, .int .u64 rg.cpl, .int .u64 rg.off]] H fun r H' => r = .tuple #[I (a1C o rg), I (mK o rg)] ∧ St prog H H' [] := by
 refine .aJ func21 rfl (by kernel_rfl) (m := 42) rfl fun l hn g0 g1 => ?_
 simp (disch := omega) only [↓RA, RB, simprocAttr, g0]
 refine (sR H).eNew 4 [(.string o.name), o.rv, o.dv, o.cv] rfl rfl (by simp [OC, ((sR H).sl ho.1).cells.2.1, ((sR H).sl ho.2.2.1).cells.2.1, ((sR H).sl ho.2.2.2.2.1).cells.2.1]) mJ fun A1 H1 hS1 => ?_
 simp only [RT] at hS1
 simp (disch := omega) only [↓RA, RB, simprocAttr, g1]
 refine hS1.eNew 3 [sv, (.int .u64 rg.cpl), (.int .u64 rg.off)] rfl rfl (by simp [OC, (hS1.sl hr.1).cells.2.1]) pN fun A2 H2 hS2 => ?_
 simp only [RT] at hS2
 simp (disch := omega) only [↓RA, RZ, simprocAttr, hn, hS2.ag 0 rfl, hS2.ag 1 rfl]
 refine hS2.cF (a7J o (ho.ab hS2) rg sv (hr.ab hS2)) fun H3 hS3 => ?_
 simp (disch := omega) only [↓RA, RB, simprocAttr, hn]
 refine iA (fun h1 => ?_) (fun h1 => ?_)
 ·have e : a1C o rg = 0 := by unfold a1C; rw [if_neg h1]
  simp (disch := omega) only [↓RA, RZ, simprocAttr, hn, c3F, h1]
  exact ⟨by rw [e], hS3.forget⟩
 have h0 := dp.1 h1
 have hoe := (lQ h0).1
 have hf := Org.aS hoe
 have hdl := hf.dlen
 simp (disch := omega) only [↓RA, RZ, simprocAttr, hn, hS3.ld 0 rfl, (hS3.sl ho.2.2.1).len, h1]
 have hS4 := hS3.nil 1
 simp only [RT] at hS4
 refine Wp.al (fun n l H' => l.length = 42 ∧ get l 2 = (ptr A1 0 4) ∧ get l 3 = (ptr A2 0 3) ∧ get l 4 = I 0 ∧ get l 5 = I 0 ∧ get l 19 = o.dv ∧ get l 20 = I o.dvs.length ∧ ∃ (i : Nat) (ov : Value), (n + i = o.dvs.length) ∧ get l 21 = I i ∧ get l 7 = ov ∧ St prog H H' [⟨ptr A1 0 4, 0, [(.string o.name), o.rv, o.dv, o.cv]⟩, ⟨ptr A2 0 3, 0, [sv, (.int .u64 rg.cpl), (.int .u64 rg.off)]⟩, ⟨ov, 2, ((o.dvs.take i).map fun d => rM d.lo d.hi).flatMap ntc⟩]) o.dvs.length ?_ ?_
 ·simp (disch := omega) only [RB, RC, simprocAttr, hn]
  exact ⟨0, .slice none 0 0, by omega, rfl, rfl, hS4⟩
 rintro n l H4 ⟨hn, g2, g3, g4, g5, g19, g20, i, ov, hi, g21, g7, hS5⟩
 simp (disch := omega) only [↓RA, RB, simprocAttr, hn, g20, g21]
 refine iA (fun q1 => ?_) (fun q1 => ?_)
 ·have hki := hf.keys i (by omega)
  simp (disch := omega) only [↓RA, RZ, simprocAttr, hn, g19, g21, (hS5.sl ho.2.2.1).idx, (hS5.sl ho.2.2.1).ag, Dvn.cells, q1]
  refine hS5.eNew 5 [(.string ⟨#[]⟩), (.bool false), I 0, I 0, (.slice none 0 0)] rfl rfl rfl yU fun A3 H5 hS6 => ?_
  simp only [RT] at hS6
  simp (disch := omega) only [↓RA, RZ, simprocAttr, hn, q1]
  refine hS6.aa 3 rfl [(.string (iB o.dvs i).name), (.bool (iB o.dvs i).pedal), I (iB o.dvs i).lo, I (iB o.dvs i).hi, (iB o.dvs i).sv] rfl (by simp [OC, (hS6.sl (ho.2.2.2.1 (iB o.dvs i) (iE (by omega))).1).cells.2.1]) yU (by simp) fun H6 hS7 => ?_
  simp only [RT] at hS7
  simp (disch := omega) only [↓RA, RZ, simprocAttr, hn, hS7.ag 3 rfl, q1]
  refine hS7.cF (a3N (iB o.dvs i).lo (iB o.dvs i).hi hki.1 hki.2.1 hki.2.2) fun H7 hS8 => ?_
  simp (disch := omega) only [↓RA, RZ, simprocAttr, hn, q1]
  refine hS8.eNew 2 [(.int .u64 0), (.int .u64 0)] rfl rfl rfl kW fun A4 H8 hS9 => ?_
  simp only [RT] at hS9
  simp (disch := omega) only [↓RA, RZ, simprocAttr, hn, q1]
  refine hS9.aa 4 rfl [(.int .u64 (rM (iB o.dvs i).lo (iB o.dvs i).hi).1), (.int .u64 (rM (iB o.dvs i).lo (iB o.dvs i).hi).2)] rfl rfl kW (by simp) fun H9 hS10 => ?_
  simp only [RT] at hS10
  simp (disch := omega) only [↓RA, RZ, simprocAttr, hn, g7, hS10.ag 4 rfl, q1]
  refine hS10.ai [(.int .u64 (rM (iB o.dvs i).lo (iB o.dvs i).hi).1), (.int .u64 (rM (iB o.dvs i).lo (iB o.dvs i).hi).2)] a3q b6i rfl rfl (by simp [Value.cells]) rfl rfl (by decide) (by decide) fun w1 H10 hS11 => ?_
  simp only [RT] at hS11
  simp (disch := omega) only [↓RA, RZ, simprocAttr, hn, q1]
  refine hS11.aq 2 rfl (hS11.rd 5 rfl) a3q (by rw [iM (n := 2) (cel := ntc) (fun _ => rfl), dO, gf]; simp; omega) fun w2 H11 hS12 => ?_
  simp only [RT] at hS12
  simp (disch := omega) only [↓RA, RZ, simprocAttr, hn, g2, g3, g4, g5, g19, g20, g21, q1]
  refine ⟨n - 1, by omega, i + 1, w2, by omega, by simp, rfl, ?_⟩
  rw [rL o.dvs i (by omega), dP, dM]
  exact hS12.pick [0, 1, 2] (by decide) rfl
 have hii : i = o.dvs.length := by omega
 subst hii
 simp (disch := omega) only [↓RA, RZ, simprocAttr, hn, g2, g3, g7, hS5.ag 0 rfl, hS5.ag 1 rfl, q1]
 have hfu : Sl 2 ntc H4 ov (pV o) := by have h := hS5.aw (cel := ntc) 2 rfl (fun _ => rfl); rw [dT] at h; exact h
 refine hS5.cF (a8K (hS5.gl hG) o (ho.ab hS5) rg sv (hr.ab hS5) ov (pV o) ⟨hfu, by rw [vJ]; omega, a8d hf⟩) fun H12 hS13 => ?_
 have hrk : rkE o rg (pV o) = 0 := by unfold rkE; rw [if_neg (by rw [h0]; simp)]; exact b1d hoe
 have he : a3a o rg (pV o) = a1C o rg := by unfold a3a a1C nB; rw [if_pos hrk, if_pos h0]
 simp (disch := omega) only [↓RA, RZ, simprocAttr, hn, c3F, q1]
 rw [hrk, he, h0]
 exact ⟨rfl, hS13.forget⟩
end Go.Ds
namespace Go.Ds
open Go.Proofs Go.Proofs.Tryz
variable {H : Heap}
set_option maxRecDepth 100000
set_option maxHeartbeats 1000000
def b0Y (r : Rs) (n : Int) : Bool := match r with
 | .ok (.tuple vs) _ => (match vs.toList with
   | [.int .u64 a, .int .u64 b] => decide (a = 0) && decide (b = n)
   | _ => false)
 | .th (.tuple vs) _ => (match vs.toList with
   | [.int .u64 a, .int .u64 b] => decide (a = 0) && decide (b = n)
   | _ => false)
 | _ => false
theorem c0T : (tO prog [52, 84, 85] .e fun T => [(25 : Int)].all fun n => b0Y (mR T (exF prog T 4000) [] (kO 52) [.int .u64 1, .int .u64 n] gH) n) = true := by kernel_rfl
theorem b4c {T : LT} (hT : TOk prog T) {k : FuncId} {args : List Value} {n : Int} (h : b0Y (mR T (exF prog T 4000) [] (kO k) args gH) n = true) : Fn prog k args gH fun r _ => r = .tuple #[.int .u64 0, .int .u64 n] := by
 have hv : ∀ (vs : Array Value), (match vs.toList with
  | [.int .u64 a, .int .u64 b] => decide (a = 0) && decide (b = n)
  | _ => false) = true → Value.tuple vs = .tuple #[.int .u64 0, .int .u64 n] := by
  intro vs h
  split at h
  ·rename_i a b e
   rw [cT, decide_eq_true_eq, decide_eq_true_eq] at h
   obtain ⟨rfl, rfl⟩ := h
   congr 1
   exact gJ e
  ·cases h
 unfold b0Y at h
 split at h
 ·rename_i vs H1 e
  rw [← hv vs h]
  exact lZ hT (.inl e)
 ·rename_i vs H1 e
  rw [← hv vs h]
  exact lZ hT (.inr e)
 ·cases h
theorem b6j (hG : Glob gH H) : Fn prog 52 [.int .u64 1, .int .u64 25] H fun r H' => r = .tuple #[.int .u64 0, .int .u64 25] ∧ St prog H H' [] := by
 obtain ⟨T, hT, h⟩ := qQ (ps := [(25 : Int)]) (f := fun T n => b0Y (mR T (exF prog T 4000) [] (kO 52) [.int .u64 1, .int .u64 n] gH) n) c0T
 exact rT (by simp [flat, jB, iX]) rfl (b4c hT (h 25 (by simp))) hG
theorem rD (c z : Value) : ∀ (m x n : Nat), x + m ≤ n → iY (List.replicate x c ++ List.replicate (n - x) z) x (List.replicate m c) = List.replicate (x + m) c ++ List.replicate (n - (x + m)) z := by
 intro m x n h
 have e : List.replicate (n - x) z = List.replicate m z ++ List.replicate (n - (x + m)) z := by
  rw [List.replicate_append_replicate]; congr 1; omega
 have := mX (List.replicate m c) (List.replicate x c) (List.replicate (n - x) z) (by simp; omega)
 rw [eP] at this
 rw [this, List.replicate_append_replicate]
 congr 1
 simp
 omega
theorem a8v {H : Heap} {v : Value} {cs : List Value} (h : RdAt H v 1 cs) (h0 : cs ≠ []) : qL v 1 0 cs.length = v := by
 rcases h with ⟨rfl, rfl⟩ | ⟨A, i, e, row, ty, rw, lo', ver, n, h1, h2, h3, h4, h5, h6, rfl⟩
 ·exact (h0 rfl).elim
 ·simp [qL, h6]
theorem St.cj {P : Program} {H0 : Base} {os : List Ob} (hS : St P H0 H os) (i : Nat) {v : Value} {cs : List Value} (ho : os[i]? = some ⟨v, 1, cs⟩) {x : Value} {ys : List Value} (hx : RdAt H x 1 ys) (h0 : 0 < cs.length) (hy : 0 < ys.length) {t : TypeId} (ht : iT P t = some 1) {K : Value → Heap → Prop}
 (h : ∀ H1, St P H0 H1 (os.set i ⟨v, 1, iY cs 0 (ys.take (min ys.length cs.length))⟩) → K (.int .i64 ((min ys.length cs.length : Nat) : Int)) H1) : a3y P H t v x K := by
 have e := a8v (hS.rd (size := 0) i ho) (by intro e; simp [e] at h0)
 have := hS.bL i ho hx 0 cs.length (by omega) h0 hy ht h
 rwa [e] at this
theorem a1v (hG : Glob gH H) {c : Int} (v : Value) (hv : Sl 1 (one I) H v [c]) : Fn prog 38 [v, I 25] H fun r H' => St prog H H' [⟨r, 1, List.replicate 25 (I c)⟩] := by
 have h1 : (([c] : List Int).length : Int) = 1 := rfl
 refine .aJ func38 rfl (by kernel_rfl) (m := 48) rfl fun l hn g0 g1 => ?_
 simp (disch := omega) only [↓RA, RZ, simprocAttr, hn, g0, g1, ((sR H).sl hv).len]
 refine (sR H).cF (b6j ((sR H).gl hG)) fun H1 hS1 => ?_
 simp (disch := omega) only [↓RA, RZ, simprocAttr, hn]
 refine hS1.bK 25 c3u (by omega) fun w H2 hS2 => ?_
 simp only [RT] at hS2
 simp (disch := omega) only [↓RA, RB, simprocAttr, hn, g0]
 refine hS2.cj 0 rfl (hS2.sl hv).rd (by simp) (by simp [one]) c1h fun H3 hS3 => ?_
 have e1 : min ([c].flatMap (one I)).length (List.replicate 25 (Value.int .i64 0)).length = 1 := by simp [one]
 rw [e1] at hS3 ⊢
 have e2 := rD (I c) (.int .i64 0) 1 0 25 (by omega)
 simp only [List.replicate_zero, eY, Nat.sub_zero, fO] at e2
 have hS4 : St prog H H3 [⟨w, 1, List.replicate 1 (I c) ++ List.replicate (25 - 1) (.int .i64 0)⟩] := by
  rw [← e2]
  exact hS3
 simp (disch := omega) only [↓RA, RB, simprocAttr, hn]
 have e3 : ∀ x : Nat, List.replicate x (I c) ++ List.replicate (25 - x) (.int .i64 0) = (List.replicate x (c : Int) ++ List.replicate (25 - x) 0).flatMap (one I) := fun x => by
  rw [pJ, dP, List.map_replicate, List.map_replicate]
 refine Wp.al (fun n l H' => l.length = 48 ∧ get l 4 = (.slice none 0 0) ∧ ∃ (x : Nat), (n + x = 25 ∧ 1 ≤ x) ∧ get l 8 = I x ∧ get l 7 = w ∧ St prog H H' [⟨w, 1, (List.replicate x (c : Int) ++ List.replicate (25 - x) 0).flatMap (one I)⟩]) 24 ?_ ?_
 ·simp (disch := omega) only [RB, RC, simprocAttr, hn]
  rw [e3] at hS4
  exact ⟨1, ⟨by omega, by omega⟩, rfl, hS4⟩
 rintro n l H2 ⟨hn, g4, x, ⟨hx,hx1⟩, g8, g7, hS2⟩
 have hln : (List.replicate x (c : Int) ++ List.replicate (25 - x) 0).length = 25 := by simp; omega
 simp (disch := omega) only [↓RA, RZ, simprocAttr, hn, g8, g7, (hS2.aw 0 rfl (fun _ => rfl)).len, hln]
 refine iA (fun q1 => ?_) (fun q1 => ?_)
 ·simp (disch := omega) only [↓RA, RC, simprocAttr, q1]
  refine Wp.drw kE (by kernel_rfl) ?_
  simp (disch := omega) only [↓RA, RZ, simprocAttr, hn, g8, g7, (hS2.aw 0 rfl (fun _ => rfl)).aT, (hS2.aw 0 rfl (fun _ => rfl)).aU, hln]
  have hxt : ((25 : Int) - (x : Int)).toNat = 25 - x := by omega
  rw [hxt]
  have hlc : ((List.replicate x (c : Int) ++ List.replicate (25 - x) 0).flatMap (one I)).length = 25 := by rw [pJ, dO, hln]
  have hrd := hS2.rd 0 rfl
  have hsub := hrd.sub 0 x (by rw [hlc]; omega) (by intro e; rw [e] at hlc; simp at hlc)
  have e5 : (((List.replicate x (c : Int) ++ List.replicate (25 - x) 0).flatMap (one I)).drop (0 * (0 + 1))).take (x * (0 + 1)) = List.replicate x (I c) := by
   rw [← e3]
   simp []
  rw [e5] at hsub
  refine hS2.bL 0 rfl hsub x (25 - x) (by rw [hlc]; omega) (by omega) (by simp; omega) c1h fun H4 hS5 => ?_
  have e6 : (List.replicate x (I c)).take (min (List.replicate x (I c)).length (25 - x)) = List.replicate (min x (25 - x)) (I c) := by simp
  rw [e6] at hS5
  have e7 : min (List.replicate x (I c)).length (25 - x) = min x (25 - x) := by simp
  rw [e7]
  have e8 := rD (I c) (.int .i64 0) (min x (25 - x)) x 25 (by omega)
  have hS6 : St prog H H4 [⟨w, 1, (List.replicate (x + min x (25 - x)) (c : Int) ++ List.replicate (25 - (x + min x (25 - x))) 0).flatMap (one I)⟩] := by
   rw [← e3, ← e8, e3]
   exact hS5
  simp (disch := omega) only [↓RA, RZ, simprocAttr, hn, g4, g7]
  exact ⟨25 - (x + min x (25 - x)), by omega, x + min x (25 - x), ⟨by omega, by omega⟩, by simp, hS6⟩
 simp (disch := omega) only [↓RA, RZ, simprocAttr, hn, g7, c6q, q1]
 have e : x = 25 := by omega
 subst e
 have hfin : ((List.replicate 25 (c : Int) ++ List.replicate (25 - 25) 0).flatMap (one I)) = List.replicate 25 (I c) := by rw [← e3]; rfl
 have h9 := hS2
 rw [hfin] at h9
 exact h9
end Go.Ds
namespace Go.Ds
open Go.Proofs
variable {H : Heap}
set_option maxRecDepth 10000
set_option maxHeartbeats 1000000
section
variable (w1 w2 w3 w4 w5 w6 w7 : Value)
def a8F (x : Int × Int) : List (Int × Int) → List (Int × Int)
 | [] => [x]
 | y :: l => if le2 x y then x :: y :: l else y :: a8F x l
def a3l : List (Int × Int) → List (Int × Int)
 | [] => []
 | x :: l => a8F x (a3l l)
theorem zT (x : Int × Int) : ∀ l, (a8F x l).Perm (x :: l)
 | [] => .refl _
 | y :: l => by
   unfold a8F
   split
   ·exact .refl _
   ·exact ((zT x l).cons y).trans (.swap ..)
theorem a4f : ∀ l, (a3l l).Perm l
 | [] => .refl _
 | x :: l => (zT x _).trans ((a4f l).cons x)
theorem b1T (x y : Int × Int) : le2 x y = false → le2 y x = true := by
 intro h
 rw [← eN] at h
 rw [oD] at h ⊢
 omega
theorem a0z (x : Int × Int) : ∀ l : List (Int × Int), l.Pairwise (fun a b => le2 a b = true) → (a8F x l).Pairwise fun a b => le2 a b = true
 | [], _ => by simp [a8F]
 | y :: l, h => by
   have h1 := gL.1 h
   unfold a8F
   split
   ·rename_i hxy
    refine gL.2 ⟨fun z hz => ?_, h⟩
    rcases dS.1 hz with rfl | hz
    ·exact hxy
    ·have h2 := h1.1 z hz
     rw [oD] at *
     omega
   ·rename_i hxy
    refine gL.2 ⟨fun z hz => ?_, a0z x l h1.2⟩
    rcases dS.1 ((zT x l).mem_iff.1 hz) with rfl | hz
    ·exact b1T _ _ (by simpa using hxy)
    ·exact h1.1 z hz
theorem a0H : ∀ l : List (Int × Int), (a3l l).Pairwise fun a b => le2 a b = true
 | [] => .nil
 | x :: l => a0z x _ (a0H l)
theorem c1b : vO = a3l := by
 funext l
 refine List.Perm.eq_of_pairwise (le := fun a b => le2 a b = true) (fun a b _ _ h1 h2 => ?_) (wJ l) (a0H l) ((nX l).trans (a4f l).symm)
 rw [oD] at h1 h2
 exact gI (by omega) (by omega)
def b5n (s : List Ct → List Ct) (o : Org) (r : Reg) (l : List Ct) : List Ct := dd (s (l.filter (fun c => !r.off.testBit c.1.toNat) ++ bfs o r.cpl 1100 0 (mE o r.cpl l)))
def c1t (s : List Ct → List Ct) (rs : List Rk) (p : Stp) (key : Int) : List Ct := dd (s (((a8n p key).filter fun d => yY rs d key).map fun d => oJ rs d key))
def b4o (s : List Ct → List Ct) (o : Org) (r : Reg) (c : Ct) : List Ct := (List.range (iB o.dvs c.1.toNat).stops.length).flatMap fun i => if (iB r.stops c.1.toNat).testBit i then c1t s o.ranks (iB (iB o.dvs c.1.toNat).stops i) c.2 else []
end
end Go.Ds
namespace Go.Ds
open Go.Proofs Go.Proofs.Tryz
variable {H : Heap}
set_option maxRecDepth 10000
set_option maxHeartbeats 1000000
theorem a4z (hG : Glob gH H) (s : ByteArray) : Fn prog 66 [.string s] H fun r H' => ∃ wv, r = .agg #[.string s, .string ⟨#[102, 108, 117, 116, 101]⟩, I 8, I 1, I 36, wv] ∧ St prog H H' [⟨wv, 1, List.replicate 25 (I 1)⟩] := by
 refine .aQ func66 rfl (by kernel_rfl) (m := 8) rfl fun l hn g0 => ?_
 simp (disch := omega) only [↓RA, RZ, simprocAttr]
 refine (sR H).eNew 6 [(.string ⟨#[]⟩), (.string ⟨#[]⟩), I 0, I 0, I 0, (.slice none 0 0)] rfl rfl rfl a1a fun A1 H1 hS1 => ?_
 simp only [RT] at hS1
 simp (disch := omega) only [↓RA, RB, simprocAttr, g0, yT]
 refine hS1.ai [I 1] yC a1J rfl rfl (by simp [Value.cells]) rfl rfl (by decide) (by decide) fun w1 H2 hS2 => ?_
 simp only [RT] at hS2
 simp (disch := omega) only [↓RA, RZ, simprocAttr, hn]
 refine iI ((a1v (hS2.gl hG) w1 (hS2.aw 1 rfl (fun _ => rfl))).tr) ?_
 rintro r H3 ⟨-, hT1⟩
 have hS3 := hS2.trans hT1
 simp only [RT] at hS3
 obtain ⟨wv, rfl⟩ : ∃ w, w = r := ⟨r, rfl⟩
 simp (disch := omega) only [↓RA, RB, simprocAttr, hn, a2f (hS3.rd 2 rfl).cells]
 refine hS3.aa 0 rfl [(.string s), (.string ⟨#[102, 108, 117, 116, 101]⟩), I 8, I 1, I 36, wv] rfl (by simp [OC, (hS3.rd 2 rfl).cells.2.1]) a1a (by simp) fun H4 hS4 => ?_
 simp only [RT] at hS4
 simp (disch := omega) only [↓RA, RZ, simprocAttr, hn, c5H, hS4.ag 0 rfl]
 exact ⟨wv, rfl, hS4.pick [2] (by decide) rfl⟩
theorem a3R (n feet shift : Int) : Fn prog 65 [I n, I feet, I shift] H fun r H' => ∃ dv gv, St prog H H' [⟨dv, 2, [I n, I shift]⟩, ⟨gv, 3, [I 36, I 48, dv]⟩, ⟨r, 4, [.string ⟨#[97]⟩, I feet, I 1, gv]⟩] := by
 refine .bq func65 rfl (by kernel_rfl) (m := 17) rfl fun l hn g0 g1 g2 => ?_
 simp (disch := omega) only [↓RA, RB, simprocAttr, hn, g0, g1, g2, yT, qF]
 refine (sR H).ai [I n, I shift] a4w a3M rfl rfl (by simp [Value.cells]) rfl rfl (by decide) (by decide) fun w1 H1 hS1 => ?_
 simp only [RT] at hS1
 simp (disch := omega) only [↓RA, RB, simprocAttr, hn, lH (hS1.rd 0 rfl).cells]
 refine hS1.ai [I 36, I 48, w1] pW vT rfl rfl (by first | (simp []; done) | simp [Value.cells]) (by first | (simp []; done) | simp [Value.cells]) (by simp [OC, (hS1.rd 0 rfl).cells.2.1]) (by decide) (by decide) fun w2 H2 hS2 => ?_
 simp only [RT] at hS2
 simp (disch := omega) only [↓RA, RB, simprocAttr, hn, a7d (hS2.rd 1 rfl).cells]
 refine hS2.ai [(.string ⟨#[97]⟩), I feet, I 1, w2] c2n c4H rfl rfl (by first | (simp []; done) | simp [Value.cells]) (by first | (simp []; done) | simp [Value.cells]) (by simp [OC, (hS2.rd 1 rfl).cells.2.1]) (by decide) (by decide) fun w3 H3 hS3 => ?_
 simp only [RT] at hS3
 simp (disch := omega) only [↓RA, RB, simprocAttr, hn, c5K]
 exact ⟨w1, w2, hS3⟩
section
variable (w1 w2 d1 g1 s1 d2 g2 s2 w3 w4 w5 : Value)
end
def a0p (c1 c2 : Int) (w1 w2 : Value) : List Rk := [⟨⟨#[114]⟩, ⟨#[102, 108, 117, 116, 101]⟩, 8, 1, 36, w1, List.replicate 25 c1⟩, ⟨⟨#[115]⟩, ⟨#[102, 108, 117, 116, 101]⟩, 8, 1, 36, w2, List.replicate 25 c2⟩]
def b6h (d1 g1 s1 d2 g2 s2 : Value) : List Dvn := [⟨⟨#[111, 110, 101]⟩, false, 36, 48, s1, [⟨⟨#[97]⟩, 8, 1, g1, [⟨36, 48, d1, [⟨0, 0⟩]⟩]⟩]⟩, ⟨⟨#[116, 119, 111]⟩, false, 36, 48, s2, [⟨⟨#[97]⟩, 4, 1, g2, [⟨36, 48, d2, [⟨1, 12⟩]⟩]⟩]⟩]
def b7M : List Cpl := [⟨⟨#[99]⟩, 0, 1, 0, false⟩]
def exW (c1 c2 : Int) (w1 w2 d1 g1 s1 d2 g2 s2 w3 w4 w5 : Value) : Org := ⟨⟨#[101]⟩, w3, a0p c1 c2 w1 w2, w4, b6h d1 g1 s1 d2 g2 s2, w5, b7M⟩
theorem a6E (hG : Glob gH H) : Fn prog 37 [] H fun r H' => ∃ w1 w2 d1 g1 s1 d2 g2 s2 w3 w4 w5, r = .agg #[.string ⟨#[101]⟩, w3, w4, w5] ∧ St prog H H' [⟨w1, 1, (List.replicate 25 (1 : Int)).flatMap (one I)⟩, ⟨w2, 1, (List.replicate 25 (1 : Int)).flatMap (one I)⟩,
 ⟨d1, 2, [(⟨0, 0⟩ : Drw)].flatMap Drw.cells⟩, ⟨g1, 3, [(⟨36, 48, d1, [⟨0, 0⟩]⟩ : Seg)].flatMap Seg.cells⟩, ⟨s1, 4, [(⟨⟨#[97]⟩, 8, 1, g1, [⟨36, 48, d1, [⟨0, 0⟩]⟩]⟩ : Stp)].flatMap Stp.cells⟩,
 ⟨d2, 2, [(⟨1, 12⟩ : Drw)].flatMap Drw.cells⟩, ⟨g2, 3, [(⟨36, 48, d2, [⟨1, 12⟩]⟩ : Seg)].flatMap Seg.cells⟩, ⟨s2, 4, [(⟨⟨#[97]⟩, 4, 1, g2, [⟨36, 48, d2, [⟨1, 12⟩]⟩]⟩ : Stp)].flatMap Stp.cells⟩,
 ⟨w3, 6, (a0p 1 1 w1 w2).flatMap Rk.cells⟩, ⟨w4, 5, (b6h d1 g1 s1 d2 g2 s2).flatMap Dvn.cells⟩, ⟨w5, 5, b7M.flatMap Cpl.cells⟩] := by
 refine .cN func37 rfl (by kernel_rfl) (m := 19) rfl fun l hn => ?_
 simp (disch := omega) only [↓RA, RZ, simprocAttr]
 refine (sR H).eNew 4 [(.string ⟨#[]⟩), (.slice none 0 0), (.slice none 0 0), (.slice none 0 0)] rfl rfl rfl mJ fun A1 H1 hS1 => ?_
 simp only [RT] at hS1
 simp (disch := omega) only [↓RA, RZ, simprocAttr, a7C]
 refine hS1.eNew 2 [I 0, I 0] rfl rfl rfl a0T fun A2 H2 hS2 => ?_
 simp only [RT] at hS2
 simp (disch := omega) only [↓RA, RB, simprocAttr, hn]
 refine hS2.aa 1 rfl [I 36, I 48] rfl rfl a0T (by simp) fun H3 hS3 => ?_
 simp only [RT] at hS3
 simp (disch := omega) only [↓RA, RB, simprocAttr]
 refine Wp.cg kE [0, 1, 4, 5, 8, 9, 2, 3, 6, 7, 10, 11, 12, 13, 14, 15] [0, 1, 6, 7, 2, 3, 8, 9, 4, 5, 10, 11, 12, 13, 14, 15] ⟨true, [36], []⟩ [(7, 0), (7, 1), (7, 2), (7, 4), (7, 6), (9, 0), (9, 1), (9, 2), (9, 4), (9, 6)] (by kernel_rfl) (by kernel_rfl) (by kernel_rfl) ?_
 simp (disch := omega) only [↓RA, RZ, simprocAttr]
 refine iI (a4z (hS3.gl hG) _) ?_
 rintro r H4 ⟨wv1, rfl, hT1⟩
 have hS4 := hS3.trans hT1
 simp only [RT] at hS4
 simp (disch := omega) only [↓RA, RZ, simprocAttr]
 refine iI (a4z (hS4.gl hG) _) ?_
 rintro r H5 ⟨wv2, rfl, hT2⟩
 have hS5 := hS4.trans hT2
 simp only [RT] at hS5
 simp (disch := omega) only [↓RA, RZ, simprocAttr, hn]
 refine iI (a3R 0 8 0) ?_
 rintro r H6 ⟨d1, g1, hT3⟩
 have hS6 := hS5.trans hT3
 simp only [RT] at hS6
 obtain ⟨s1, rfl⟩ : ∃ w, w = r := ⟨r, rfl⟩
 simp (disch := omega) only [↓RA, RZ, simprocAttr, hn]
 refine iI (a3R 1 4 12) ?_
 rintro r H7 ⟨d2, g2, hT4⟩
 have hS7 := hS6.trans hT4
 simp only [RT] at hS7
 obtain ⟨s2, rfl⟩ : ∃ w, w = r := ⟨r, rfl⟩
 simp (disch := omega) only [↓RA, RB, simprocAttr, hn]
 refine hS7.ai [(.string ⟨#[114]⟩), (.string ⟨#[102, 108, 117, 116, 101]⟩), I 8, I 1, I 36, wv1, (.string ⟨#[115]⟩), (.string ⟨#[102, 108, 117, 116, 101]⟩), I 8, I 1, I 36, wv2] c1R c4Y rfl rfl (by first | (simp []; done) | simp [Value.cells]) (by first | (simp []; done) | simp [Value.cells]) (by simp [OC, (hS7.rd 2 rfl).cells.2.1, (hS7.rd 3 rfl).cells.2.1]) (by decide) (by decide) fun w1 H8 hS8 => ?_
 simp only [RT] at hS8
 simp (disch := omega) only [↓RA, RZ, simprocAttr, hn, hS8.ag 1 rfl, a1D (hS8.rd 6 rfl).cells, a1D (hS8.rd 9 rfl).cells]
 refine hS8.ai [(.string ⟨#[111, 110, 101]⟩), (.bool false), I 36, I 48, s1, (.string ⟨#[116, 119, 111]⟩), (.bool false), I 36, I 48, s2] c2J c4I rfl rfl (by first | (simp []; done) | simp [Value.cells]) (by first | (simp []; done) | simp [Value.cells]) (by simp [OC, (hS8.rd 6 rfl).cells.2.1, (hS8.rd 9 rfl).cells.2.1]) (by decide) (by decide) fun w2 H9 hS9 => ?_
 simp only [RT] at hS9
 simp (disch := omega) only [↓RA, RB, simprocAttr, hn, a7T]
 refine hS9.ai [(.string ⟨#[99]⟩), I 0, I 1, I 0, (.bool false)] a8I b8v rfl rfl (by simp [Value.cells]) rfl rfl (by decide) (by decide) fun w3 H10 hS10 => ?_
 simp only [RT] at hS10
 simp (disch := omega) only [↓RA, RB, simprocAttr, hn, a5A (hS10.rd 10 rfl).cells (hS10.rd 11 rfl).cells (hS10.rd 12 rfl).cells]
 refine hS10.aa 0 rfl [(.string ⟨#[101]⟩), w1, w2, w3] rfl (by simp [OC, (hS10.rd 10 rfl).cells.2.1, (hS10.rd 11 rfl).cells.2.1, (hS10.rd 12 rfl).cells.2.1]) mJ (by simp) fun H11 hS11 => ?_
 simp only [RT] at hS11
 simp (disch := omega) only [↓RA, RZ, simprocAttr, hn, hS3.ag 1 rfl, hS4.ag 1 rfl, hS5.ag 1 rfl, hS6.ag 1 rfl, hS7.ag 1 rfl, c6E, hS11.ag 0 rfl]
 exact ⟨wv1, wv2, d1, g1, s1, d2, g2, s2, w1, w2, w3, rfl, hS11.pick [2, 3, 4, 5, 6, 7, 8, 9, 10, 11, 12] (by decide) rfl⟩
section
variable (w1 w2 d1 g1 s1 d2 g2 s2 w3 w4 w5 : Value)
theorem a5v : mK (exW 7 2 w1 w2 d1 g1 s1 d2 g2 s2 w3 w4 w5) ⟨[1, 1], 1, 0⟩ = 0 := by kernel_rfl
theorem b5I : mS (exW 7 2 w1 w2 d1 g1 s1 d2 g2 s2 w3 w4 w5) [jU [40, 41], (0, 0)] = 0 := by kernel_rfl
theorem a9X : rkE (exW 7 2 w1 w2 d1 g1 s1 d2 g2 s2 w3 w4 w5) ⟨[1, 1], 1, 0⟩ [jU [40, 41], (0, 0)] = 0 := by
 unfold rkE
 rw [a5v, if_neg (by decide), b5I]
end
def rkS (o : Org) (acc : List Int) (p : Ct) : List Int := acc.set p.1.toNat (oN (iB acc p.1.toNat + qW o p))
def rkF (o : Org) (ps : List Ct) : List Int := ps.foldl (rkS o) (List.replicate o.ranks.length 0)
theorem b0F (o : Org) : ∀ (ps : List Ct) (acc : List Int), (ps.foldl (rkS o) acc).length = acc.length
 | [], _ => rfl
 | p :: ps, acc => by
   rw [eE, b0F o ps]
   unfold rkS
   rw [gj]
theorem b0O (o : Org) (ps : List Ct) : (rkF o ps).length = o.ranks.length := by unfold rkF; rw [b0F, eP]
theorem b6n (o : Org) (ps : List Ct) (i : Nat) (h : i < ps.length) : rkF o (ps.take (i + 1)) = rkS o (rkF o (ps.take i)) (iB ps i) := by
 unfold rkF
 rw [lG ps i h, fp]
 rfl
theorem b5u (acc : List Int) (e : Nat) (x : Int) : ((acc.flatMap (one I)).set e (I x)) = (acc.set e x).flatMap (one I) := by
 rw [pJ, pJ, gT]
def byF (o : Org) (rg : Reg) (ks : List Nt) : List Int := if rkE o rg ks = 0 then rkF o (nB o rg ks) else []
theorem a3Y (hG : Glob gH H) (o : Org) (ho : o.In H) (rg : Reg) (sv : Value) (hr : rg.In H sv) (kv : Value) (ks : List Nt) (hk : Ks H kv ks) :
 Fn prog 16 [.agg #[.string o.name, o.rv, o.dv, o.cv], .agg #[sv, .int .u64 rg.cpl, .int .u64 rg.off], kv] H fun r H' => ∃ v, r = .tuple #[v, I (rkE o rg ks)] ∧ St prog H H' [⟨v, 1, (byF o rg ks).flatMap (one I)⟩] := by
 have hle := b6v (o := o) (rg := rg) hk.ok
 refine .bq func16 rfl (by kernel_rfl) (m := 53) rfl fun l hn g0 g1 g2 => ?_
 simp (disch := omega) only [↓RA, RB, simprocAttr, g0]
 refine (sR H).eNew 4 [(.string o.name), o.rv, o.dv, o.cv] rfl rfl (by simp [OC, ((sR H).sl ho.1).cells.2.1, ((sR H).sl ho.2.2.1).cells.2.1, ((sR H).sl ho.2.2.2.2.1).cells.2.1]) mJ fun A1 H1 hS1 => ?_
 simp only [RT] at hS1
 simp (disch := omega) only [↓RA, RB, simprocAttr, g1]
 refine hS1.eNew 3 [sv, (.int .u64 rg.cpl), (.int .u64 rg.off)] rfl rfl (by simp [OC, (hS1.sl hr.1).cells.2.1]) pN fun A2 H2 hS2 => ?_
 simp only [RT] at hS2
 simp (disch := omega) only [↓RA, RZ, simprocAttr, hn, g2, hS2.ag 0 rfl, hS2.ag 1 rfl]
 have hS1 := hS2
 refine iI (a0G (hS2.gl hG) o (ho.ab hS2) rg sv (hr.ab hS2) kv ks (hk.ab hS2)) ?_
 rintro r H3 ⟨pv, rfl, hx, hT1⟩
 have hS3 := hS2.trans hT1
 simp only [RT] at hS3
 simp (disch := omega) only [↓RA, RB, simprocAttr, hn]
 refine iA (fun h1 => ?_) (fun h1 => ?_)
 ·have hb : byF o rg ks = [] := by unfold byF; rw [if_neg h1]
  have hS4 := hS3.nil 0
  simp only [RT] at hS4
  simp (disch := omega) only [↓RA, RZ, simprocAttr, hn, c3h, h1]
  rw [hb]
  exact ⟨.slice none 0 0, rfl, hS4.pick [2] (by decide) rfl⟩
 have h0 := dp.1 h1
 obtain ⟨hz1, hz2⟩ := uT h0
 have hf := Org.aS (lQ hz1).1
 have hrl := hf.rlen
 have hb : byF o rg ks = rkF o (nB o rg ks) := by unfold byF; rw [if_pos h0]
 have hx2 := hx.step (hS1.aZ (H' := H3))
 obtain ⟨X, hBX, hS5⟩ := hS3.aC (os := [⟨ptr A1 0 4, 0, _⟩, ⟨ptr A2 0 3, 0, _⟩])
 have hx3 := hx2.step (hS5.kept hBX)
 simp (disch := omega) only [↓RA, RZ, simprocAttr, hn, hS5.ld 0 rfl, ((hS3.aj hBX hS5).sl ho.1).len, h1]
 refine hS5.bK o.ranks.length c3u (by omega) fun w1 H4 hS6 => ?_
 simp only [RT] at hS6
 rw [show List.replicate o.ranks.length (Value.int .i64 0) = (List.replicate o.ranks.length (0 : Int)).flatMap (one I) from by rw [pJ, List.map_replicate]] at hS6
 simp (disch := omega) only [↓RA, RZ, simprocAttr, hn, (hx2.step (hS6.kept hBX)).1.len, h1]
 refine Wp.al (fun n l H' => l.length = 53 ∧ get l 3 = (ptr A1 0 4) ∧ get l 6 = (.slice none 0 0) ∧ get l 7 = I 0 ∧ get l 27 = pv ∧ get l 28 = I (nB o rg ks).length ∧ ∃ (i : Nat), (n + i = (nB o rg ks).length) ∧ get l 29 = I i ∧ get l 10 = w1 ∧ St prog X H' [⟨ptr A1 0 4, 0, [(.string o.name), o.rv, o.dv, o.cv]⟩, ⟨ptr A2 0 3, 0, [sv, (.int .u64 rg.cpl), (.int .u64 rg.off)]⟩, ⟨w1, 1, (rkF o ((nB o rg ks).take i)).flatMap (one I)⟩]) (nB o rg ks).length ?_ ?_
 ·simp (disch := omega) only [RB, RC, simprocAttr, hn]
  exact ⟨0, by omega, rfl, hS6⟩
 rintro n l H5 ⟨hn, g3, g6, g7, g27, g28, i, hi, g29, nS, hS7⟩
 simp (disch := omega) only [↓RA, RB, simprocAttr, hn, g28, g29]
 refine iA (fun q1 => ?_) (fun q1 => ?_)
 ·have hpi := b0Q (o := o) (rg := rg) (ks := ks) _ (iE (xs := nB o rg ks) (j := i) (by omega))
  obtain ⟨e, he⟩ : ∃ e : Nat, (iB (nB o rg ks) i).1 = e := ⟨(iB (nB o rg ks) i).1.toNat, by have := hpi.1; omega⟩
  obtain ⟨f, hff⟩ : ∃ f : Nat, (iB (nB o rg ks) i).2 = f := ⟨(iB (nB o rg ks) i).2.toNat, by have := hpi.2.2.1; omega⟩
  have hel : e < o.ranks.length := by have := hpi.2.1; omega
  have hfl : f < (iB o.ranks e).wind.length := by
   have := hpi.2.2.2
   rw [he, eJ] at this
   omega
  have hlr := b0O o ((nB o rg ks).take i)
  have hsu := b6n o (nB o rg ks) i (by omega)
  have hwt : qW o (iB (nB o rg ks) i) = iB (iB o.ranks e).wind f := by unfold qW; rw [he, hff, eJ, eJ]
  unfold rkS at hsu
  rw [hwt, he, eJ] at hsu
  simp (disch := omega) only [↓RA, RZ, simprocAttr, hn, g27, g29, (hx2.step (hS7.kept hBX)).1.idx, (hx2.step (hS7.kept hBX)).1.ag, kD, q1]
  refine hS7.eNew 2 [I 0, I 0] rfl rfl rfl rX fun A3 H6 hS8 => ?_
  simp only [RT] at hS8
  simp (disch := omega) only [↓RA, RZ, simprocAttr, hn, q1]
  refine hS8.aa 3 rfl [I (iB (nB o rg ks) i).1, I (iB (nB o rg ks) i).2] rfl rfl rX (by simp) fun H7 hS9 => ?_
  simp only [RT] at hS9
  simp (disch := omega) only [↓RA, RZ, simprocAttr, q1]
  refine Wp.drw kE (by kernel_rfl) ?_
  simp (disch := omega) only [↓RA, RZ, simprocAttr, hn, nS]
  simp (disch := omega) only [↓RA, RZ, simprocAttr, hn, g3, hS9.ld 3 rfl, (hS9.aw 2 rfl (fun _ => rfl)).idx, (hS9.aw 2 rfl (fun _ => rfl)).ld, one, hS9.ld 0 rfl, ((hS3.aj hBX hS9).sl ho.1).idx, ((hS3.aj hBX hS9).sl ho.1).bh, ((hS3.aj hBX hS9).sl ho.1).ld, Rk.cells, ((hS3.aj hBX hS9).sl (ho.2.1 (iB o.ranks e) (iE (by omega))).1).idx, ((hS3.aj hBX hS9).sl (ho.2.1 (iB o.ranks e) (iE (by omega))).1).ld, he, hff]
  refine hS9.aW 2 rfl [_] rfl rfl tS3 (by simp) (by rw [pJ, dO, hlr]; simp; omega) fun H8 hS10 => ?_
  simp only [RT] at hS10
  simp (disch := omega) only [↓RA, RZ, simprocAttr, hn, g3, g6, g7, g27, g28, g29, nS, he, hff]
  refine ⟨n - 1, by omega, i + 1, by omega, by simp, ?_⟩
  rw [hsu, ← b5u]
  exact hS10.pick [0, 1, 2] (by decide) rfl
 have hnt := (hS7.aw (cel := one I) 2 rfl (fun _ => rfl)).bp
 simp (disch := omega) only [↓RA, RZ, simprocAttr, hn, nS, c3h, q1, hnt]
 have hii : i = (nB o rg ks).length := by omega
 rw [hb, h0]
 refine ⟨_, rfl, ?_⟩
 have h9 := (hS3.aj hBX hS7).pick (os' := [⟨w1, 1, _⟩]) [2] (by decide) rfl
 rw [hii, dT] at h9
 exact h9
end Go.Ds
namespace Go.Ds
open Go.Proofs
variable {H : Heap}
set_option maxRecDepth 10000
set_option maxHeartbeats 1000000
theorem a4c (o : Org) (r : Reg) (l : List Ct) : jE o r l = dd (a3l ((b5n a3l o r l).flatMap (b4o a3l o r))) := by
 rw [← c1b]
 rfl
section
variable (w1 w2 d1 g1 s1 d2 g2 s2 w3 w4 w5 : Value)
end
end Go.Ds
namespace Go.Ds
open Go.Proofs Go.Proofs.Tryz
variable {H : Heap}
set_option maxRecDepth 10000
set_option maxHeartbeats 1000000
theorem b2q (v w : Value) (xs ys : List Int) (hv : Sl 1 (one I) H v xs) (hw : Sl 1 (one I) H w ys) (hl : xs.length < 1000000000) (hl2 : ys.length < 1000000000) :
 Fn prog 19 [v, w] H fun r H' => r = .bool (decide (xs = ys)) ∧ St prog H H' [] := by
 refine .aJ func19 rfl (by kernel_rfl) (m := 26) rfl fun l hn g0 g1 => ?_
 simp (disch := omega) only [↓RA, RZ, simprocAttr, hn, g0, g1, ((sR H).sl hv).len, ((sR H).sl hw).len]
 refine iA (fun h1 => ?_) (fun h1 => ?_)
 ·simp (disch := omega) only [↓RA, RZ, simprocAttr, hn, c1j, h1]
  exact ⟨by rw [decide_eq_false]; intro e; rw [e] at h1; exact h1 rfl, (sR H)⟩
 simp (disch := omega) only [↓RA, RZ, simprocAttr, hn, g0, ((sR H).sl hv).len, h1]
 refine Wp.al (fun n l H' => l.length = 26 ∧ get l 0 = v ∧ get l 1 = w ∧ get l 12 = I xs.length ∧ ∃ (j : Nat), (n + j = xs.length ∧ ∀ q, q < j → iB xs q = iB ys q) ∧ get l 13 = I j ∧ St prog H H' []) xs.length ?_ ?_
 ·simp (disch := omega) only [RB, RC, simprocAttr, hn, g0, g1]
  exact ⟨0, ⟨by omega, fun q hq => absurd hq (dJ _)⟩, rfl, (sR H)⟩
 rintro n l H1 ⟨hn, g0, g1, g12, j, ⟨hj,hz⟩, g13, hS1⟩
 simp (disch := omega) only [↓RA, RB, simprocAttr, hn, g12, g13]
 refine iA (fun q1 => ?_) (fun q1 => ?_)
 ·simp (disch := omega) only [↓RA, RZ, simprocAttr, hn, g13, q1]
  refine Wp.drw kE (by kernel_rfl) ?_
  simp (disch := omega) only [↓RA, RZ, simprocAttr, hn, g0, g1, (hS1.sl hv).idx, (hS1.sl hv).ld, one, (hS1.sl hw).idx, (hS1.sl hw).ld]
  refine iA (fun q2 => ?_) (fun q2 => ?_)
  ·simp (disch := omega) only [↓RA, RZ, simprocAttr, hn, c1j, q2]
   refine ⟨?_, hS1⟩
   rw [decide_eq_false]
   intro e
   rw [e] at q2
   exact q2 rfl
  have q3 := dp.1 q2
  simp (disch := omega) only [↓RA, RZ, simprocAttr, hn, g0, g1, g12, g13, q2]
  exact ⟨n - 1, by omega, j + 1, ⟨by omega, fun q hq => by rcases di.1 hq with e | e; (· exact hz q e); (· rw [e]; exact q3)⟩, by simp, hS1⟩
 simp (disch := omega) only [↓RA, RZ, simprocAttr, hn, c1j, q1]
 exact ⟨by rw [decide_eq_true]; exact b0n (by omega) fun q hq => hz q (by omega), hS1⟩
def rgX : Reg := ⟨[1, 1], 1, 0⟩
def ksX : List Nt := [jU [40, 41], (0, 0)]
section
variable (w1 w2 d1 g1 s1 d2 g2 s2 w3 w4 w5 : Value)
theorem b1a : nB (exW 7 2 w1 w2 d1 g1 s1 d2 g2 s2 w3 w4 w5) rgX ksX = [(0, 4), (0, 5), (1, 16), (1, 17)] := by
 unfold nB
 rw [show rkE (exW 7 2 w1 w2 d1 g1 s1 d2 g2 s2 w3 w4 w5) rgX ksX = 0 from a9X .., if_pos rfl, a4c]
 kernel_rfl
theorem b9f : a3a (exW 7 2 w1 w2 d1 g1 s1 d2 g2 s2 w3 w4 w5) rgX ksX = 18 := by
 unfold a3a
 rw [b1a]
 kernel_rfl
theorem c1U : byF (exW 7 2 w1 w2 d1 g1 s1 d2 g2 s2 w3 w4 w5) rgX ksX = [14, 4] := by
 unfold byF
 rw [show rkE (exW 7 2 w1 w2 d1 g1 s1 d2 g2 s2 w3 w4 w5) rgX ksX = 0 from a9X .., if_pos rfl, b1a]
 kernel_rfl
theorem b8s (o : Org) (rg : Reg) : mD o rg = fun c => lR o (if a0U o rg c = 0 then dd (a3l ((b5n a3l o rg [c]).flatMap (b4o a3l o rg))) else []) := by
 funext c
 unfold mD ofF
 rw [a4c]
theorem c1w : grR (exW 7 2 w1 w2 d1 g1 s1 d2 g2 s2 w3 w4 w5) rgX = ((0, 36), 9) := by
 unfold grR
 rw [show mK (exW 7 2 w1 w2 d1 g1 s1 d2 g2 s2 w3 w4 w5) rgX = 0 from a5v .., if_pos rfl, b8s]
 kernel_rfl
end
theorem a9B : rgX.Ok := ⟨by decide, by decide, by decide, by decide⟩
theorem b5W : ∀ x ∈ ksX, Nt.Ok x := by
 intro x hx
 simp only [ksX, dS, dV, or_false] at hx
 rcases hx with rfl | rfl <;> exact ⟨by decide, by decide⟩
theorem a2h (hG : Glob gH H) : Fn prog 10 [] H fun r H' => r = .bool true ∧ St prog H H' [] := by
 refine .cN func10 rfl (by kernel_rfl) (m := 89) rfl fun l hn => ?_
 simp (disch := omega) only [↓RA, RZ, simprocAttr]
 refine iI (a6E ((sR H).gl hG)) ?_
 rintro r H1 ⟨xa, xb, da, ga, sa, db, gb, sb, xr, xd, xc, rfl, hT1⟩
 have hS1 := (sR H).trans hT1
 simp only [RT] at hS1
 simp (disch := omega) only [↓RA, RZ, simprocAttr]
 refine hS1.eNew 4 [(.string ⟨#[]⟩), (.slice none 0 0), (.slice none 0 0), (.slice none 0 0)] rfl rfl rfl mJ fun A1 H2 hS2 => ?_
 simp only [RT] at hS2
 simp (disch := omega) only [↓RA, RB, simprocAttr, hn]
 refine hS2.aa 11 rfl [(.string ⟨#[101]⟩), xr, xd, xc] rfl (by simp [OC, (hS2.rd 8 rfl).cells.2.1, (hS2.rd 9 rfl).cells.2.1, (hS2.rd 10 rfl).cells.2.1]) mJ (by simp) fun H3 hS3 => ?_
 simp only [RT] at hS3
 simp (disch := omega) only [↓RA, RB, simprocAttr]
 refine Wp.aR kE [(1, 3), (1, 4)] (by kernel_rfl) (by kernel_rfl) ?_
 simp (disch := omega) only [↓RA, RZ, simprocAttr, hn, hS3.ld 11 rfl]
 refine hS3.ai [I 7] yC a1J rfl rfl (by simp [Value.cells]) rfl rfl (by decide) (by decide) fun w1 H4 hS4 => ?_
 simp only [RT] at hS4
 simp (disch := omega) only [↓RA, RZ, simprocAttr, hn]
 refine iI ((a1v (c := 7) (hS4.gl hG) w1 (hS4.aw 12 rfl (fun _ => rfl))).tr) ?_
 rintro r H5 ⟨-, hT2⟩
 have hS5 := hS4.trans hT2
 simp only [RT] at hS5
 obtain ⟨ya, rfl⟩ : ∃ w, w = r := ⟨r, rfl⟩
 have hl1 : (a0p 1 1 xa xb).length = 2 := rfl
 simp (disch := omega) only [↓RA, RZ, simprocAttr, hn, (hS5.aw 8 rfl (fun _ => rfl)).idx, (hS5.aw 8 rfl (fun _ => rfl)).bh]
 refine hS5.aW 8 rfl [ya] (by rw [(hS5.rd 13 rfl).cells.1]) (by simp [(hS5.rd 13 rfl).cells.2.1]) b2P (by simp) (by simp [a0p, Rk.cells]) fun H6 hS6 => ?_
 simp only [RT] at hS6
 simp (disch := omega) only [↓RA, RZ, simprocAttr, hn, hS4.ld 11 rfl, hS5.ld 11 rfl]
 refine Wp.aR kE [(1, 3), (1, 4)] (by kernel_rfl) (by kernel_rfl) ?_
 simp (disch := omega) only [↓RA, RZ, simprocAttr, hn, hS6.ld 11 rfl]
 refine hS6.ai [I 2] yC a1J rfl rfl (by simp [Value.cells]) rfl rfl (by decide) (by decide) fun w2 H7 hS7 => ?_
 simp only [RT] at hS7
 simp (disch := omega) only [↓RA, RZ, simprocAttr, hn]
 have hset1 : ((a0p 1 1 xa xb).flatMap Rk.cells).set 5 ya = (a0p 7 1 ya xb).flatMap Rk.cells := rfl
 simp only [Nat.zero_mul, fO, hset1] at hS7
 refine iI ((a1v (c := 2) (hS7.gl hG) w2 (hS7.aw 14 rfl (fun _ => rfl))).tr) ?_
 rintro r H8 ⟨-, hT3⟩
 have hS8 := hS7.trans hT3
 simp only [RT] at hS8
 obtain ⟨yb, rfl⟩ : ∃ w, w = r := ⟨r, rfl⟩
 have hl2 : (a0p 7 1 ya xb).length = 2 := rfl
 simp (disch := omega) only [↓RA, RZ, simprocAttr, hn, (hS8.aw 8 rfl (fun _ => rfl)).idx, (hS8.aw 8 rfl (fun _ => rfl)).bh]
 refine hS8.aW 8 rfl [yb] (by rw [(hS8.rd 15 rfl).cells.1]) (by simp [(hS8.rd 15 rfl).cells.2.1]) b2P (by simp) (by simp [a0p, Rk.cells]) fun H9 hS9 => ?_
 simp only [RT] at hS9
 simp (disch := omega) only [↓RA, RZ, simprocAttr, hn, hS7.ld 11 rfl, hS8.ld 11 rfl]
 have hset2 : ((a0p 7 1 ya xb).flatMap Rk.cells).set 11 yb = (a0p 7 2 ya yb).flatMap Rk.cells := rfl
 simp only [Nat.one_mul, Nat.reduceAdd, hset2] at hS9
 have h1 : Sl 1 (one I) H9 ya (List.replicate 25 7) := hS9.aw 13 rfl (fun _ => rfl)
 have h2 : Sl 1 (one I) H9 yb (List.replicate 25 2) := hS9.aw 15 rfl (fun _ => rfl)
 have h3 : Sl 2 Drw.cells H9 da [⟨0, 0⟩] := hS9.aw 2 rfl (fun _ => rfl)
 have h4 : Sl 3 Seg.cells H9 ga [⟨36, 48, da, [⟨0, 0⟩]⟩] := hS9.aw 3 rfl (fun _ => rfl)
 have h5 : Sl 4 Stp.cells H9 sa [⟨⟨#[97]⟩, 8, 1, ga, [⟨36, 48, da, [⟨0, 0⟩]⟩]⟩] := hS9.aw 4 rfl (fun _ => rfl)
 have h6 : Sl 2 Drw.cells H9 db [⟨1, 12⟩] := hS9.aw 5 rfl (fun _ => rfl)
 have h7 : Sl 3 Seg.cells H9 gb [⟨36, 48, db, [⟨1, 12⟩]⟩] := hS9.aw 6 rfl (fun _ => rfl)
 have h8 : Sl 4 Stp.cells H9 sb [⟨⟨#[97]⟩, 4, 1, gb, [⟨36, 48, db, [⟨1, 12⟩]⟩]⟩] := hS9.aw 7 rfl (fun _ => rfl)
 have h9 : Sl 6 Rk.cells H9 xr (a0p 7 2 ya yb) := hS9.aw 8 rfl (fun _ => rfl)
 have h10 : Sl 5 Dvn.cells H9 xd (b6h da ga sa db gb sb) := hS9.aw 9 rfl (fun _ => rfl)
 have h11 : Sl 5 Cpl.cells H9 xc b7M := hS9.aw 10 rfl (fun _ => rfl)
 have hS0 := hS9
 have hG2 := hS0.gl hG
 have hvA : Var H9 A1 4 [.string ⟨#[101]⟩, xr, xd, xc] := hS0.var 11 rfl
 obtain ⟨o, hoe⟩ : ∃ o, o = exW 7 2 ya yb da ga sa db gb sb xr xd xc := ⟨_, rfl⟩
 have ho : o.In H9 := by
  subst hoe
  refine ⟨h9, ?_, h10, ?_, h11, by simp [exW, a0p], by simp [exW, b6h], by simp [exW, b7M]⟩
  ·intro r hr
   simp only [exW, a0p, dS, dV, or_false] at hr
   rcases hr with rfl | rfl
   ·exact ⟨h1, by simp⟩
   ·exact ⟨h2, by simp⟩
  ·intro d hd
   simp only [exW, b6h, dS, dV, or_false] at hd
   rcases hd with rfl | rfl
   ·exact ⟨h5, fun s hs => by rw [du.1 hs]; exact ⟨h4, fun g hg => by rw [du.1 hg]; exact ⟨h3, by simp⟩, by simp⟩, by simp⟩
   ·exact ⟨h8, fun s hs => by rw [du.1 hs]; exact ⟨h7, fun g hg => by rw [du.1 hg]; exact ⟨h6, by simp⟩, by simp⟩, by simp⟩
 have hv0 : Var H9 A1 4 [.string o.name, o.rv, o.dv, o.cv] := by rw [hoe]; exact hvA
 have q1 : rkE o rgX ksX = 0 := by subst hoe; exact a9X ..
 have q2 : a3a o rgX ksX = 18 := by subst hoe; exact b9f ..
 have q3 : byF o rgX ksX = [14, 4] := by subst hoe; exact c1U ..
 have q4 : grR o rgX = ((0, 36), 9) := by subst hoe; exact c1w ..
 have q5 : mK o rgX = 0 := by subst hoe; exact a5v ..
 have hG1 : ∀ z ∈ [(40 : Int), 41], isN z := fun z hz => by
  simp only [dS, dV, or_false] at hz
  rcases hz with rfl | rfl <;> exact ⟨by decide, by decide⟩
 clear hoe h1 h2 h3 h4 h5 h6 h7 h8 h9 h10 h11 hvA
 refine (sR H9).ai [(.int .u64 1), (.int .u64 1)] c1g c2X rfl rfl (by simp [Value.cells]) rfl rfl (by decide) (by decide) fun w3 H10 hS10 => ?_
 simp only [RT] at hS10
 simp (disch := omega) only [↓RA, RZ, simprocAttr, hn, b6P (hS10.rd 0 rfl).cells]
 refine hS10.eNew 3 [(.slice none 0 0), (.int .u64 0), (.int .u64 0)] rfl rfl rfl pN fun A2 H11 hS11 => ?_
 simp only [RT] at hS11
 simp (disch := omega) only [↓RA, RB, simprocAttr, hn]
 refine hS11.aa 1 rfl [w3, (.int .u64 1), (.int .u64 0)] rfl (by simp [OC, (hS11.rd 0 rfl).cells.2.1]) pN (by simp) fun H12 hS12 => ?_
 simp only [RT] at hS12
 simp (disch := omega) only [↓RA, RB, simprocAttr]
 refine hS12.ai [I 40, I 41] yC a1J rfl rfl (by simp [Value.cells]) rfl rfl (by decide) (by decide) fun w4 H13 hS13 => ?_
 simp only [RT] at hS13
 simp (disch := omega) only [↓RA, RZ, simprocAttr, hn]
 refine hS13.cF (xB [40, 41] hG1 w4 (hS13.aw 2 rfl (fun _ => rfl)) (by simp)) fun H14 hS14 => ?_
 simp (disch := omega) only [↓RA, RZ, simprocAttr, hn]
 refine hS14.eNew 2 [(.int .u64 0), (.int .u64 0)] rfl rfl rfl kW fun A3 H15 hS15 => ?_
 simp only [RT] at hS15
 simp (disch := omega) only [↓RA, RB, simprocAttr, hn]
 refine hS15.aa 3 rfl [(.int .u64 (jU [40, 41]).1), (.int .u64 (jU [40, 41]).2)] rfl rfl kW (by simp) fun H16 hS16 => ?_
 simp only [RT] at hS16
 simp (disch := omega) only [↓RA, RZ, simprocAttr, hn, (hv0.ab hS16.ab).ag, hS16.ag 1 rfl, hS16.ag 3 rfl, a9E]
 refine hS16.ai [(.int .u64 (jU [40, 41]).1), (.int .u64 (jU [40, 41]).2), (.int .u64 0), (.int .u64 0)] a3q b6i rfl rfl (by simp [Value.cells]) rfl rfl (by decide) (by decide) fun w5 H17 hS17 => ?_
 simp only [RT] at hS17
 simp (disch := omega) only [↓RA, RZ, simprocAttr, hn]
 refine hS17.cF (a8K (hS17.gl hG2) o (ho.ab hS17) rgX w3 ⟨hS17.aw 0 rfl (fun _ => rfl), a9B⟩ w5 ksX ⟨hS17.aw 4 rfl (fun _ => rfl), by decide, b5W⟩) fun H18 hS18 => ?_
 rw [q1, q2]
 simp (disch := omega) only [↓RA, RZ, simprocAttr, hn, (hv0.ab hS18.ab).ag, hS18.ag 1 rfl, hS18.ag 3 rfl, a9E]
 refine hS18.ai [(.int .u64 (jU [40, 41]).1), (.int .u64 (jU [40, 41]).2), (.int .u64 0), (.int .u64 0)] a3q b6i rfl rfl (by simp [Value.cells]) rfl rfl (by decide) (by decide) fun w6 H19 hS19 => ?_
 simp only [RT] at hS19
 simp (disch := omega) only [↓RA, RZ, simprocAttr, hn]
 refine iI (a3Y (hS19.gl hG2) o (ho.ab hS19) rgX w3 ⟨hS19.aw 0 rfl (fun _ => rfl), a9B⟩ w6 ksX ⟨hS19.aw 5 rfl (fun _ => rfl), by decide, b5W⟩) ?_
 rintro r H20 ⟨bv, rfl, hT6⟩
 have hS20 := hS19.trans hT6
 simp only [RT] at hS20
 rw [q1]
 rw [q3] at hS20
 simp (disch := omega) only [↓RA, RZ, simprocAttr, hn, (hv0.ab hS20.ab).ag, hS20.ag 1 rfl]
 refine hS20.cF (a7E o (ho.ab hS20) rgX w3 ⟨hS20.aw 0 rfl (fun _ => rfl), a9B⟩) fun H21 hS21 => ?_
 rw [q4, q5]
 dsimp only
 simp (disch := omega) only [↓RA, RZ, simprocAttr, hn]
 refine hS21.eNew 2 [I 0, I 0] rfl rfl rfl nU fun A4 H22 hS22 => ?_
 simp only [RT] at hS22
 simp (disch := omega) only [↓RA, RB, simprocAttr, hn]
 refine hS22.aa 7 rfl [I 0, I 36] rfl rfl nU (by simp) fun H23 hS23 => ?_
 simp only [RT] at hS23
 simp (disch := omega) only [↓RA, RZ, simprocAttr, hn]
 refine hS23.ai [I 14, I 4] yC a1J rfl rfl (by simp [Value.cells]) rfl rfl (by decide) (by decide) fun w7 H24 hS24 => ?_
 simp only [RT] at hS24
 simp (disch := omega) only [↓RA, RZ, simprocAttr, hn]
 refine hS24.cF (b2q bv w7 [14, 4] [14, 4] (hS24.aw 6 rfl (fun _ => rfl)) (hS24.aw 8 rfl (fun _ => rfl)) (by simp) (by simp)) fun H25 hS25 => ?_
 rw [decide_eq_true rfl]
 simp (disch := omega) only [↓RA, RZ, simprocAttr, hn, hS25.ag 7 rfl, c0X]
 simp (disch := omega) only [RB, RC, simprocAttr, hn, c5Q]
 exact hS0.forget.trans hS25.forget
theorem b1C {o : Org} (h : organE o = 0) : ∀ (ps : List Ct) (acc : List Int), acc.length = o.ranks.length → (∀ p ∈ ps, IsP o p) → (∀ x ∈ acc, 0 ≤ x) → acc.sum + lN o ps < 9223372036854775808 → (ps.foldl (rkS o) acc).sum = acc.sum + lN o ps
 | [], acc, _, _, _, _ => by simp [lN]
 | p :: ps, acc, hl, hp, hn, hb => by
   have hpp := hp p (dC ..)
   have ht := a6O h hpp
   have hr := rZ h (l := ps) fun x hx => hp x (dE _ hx)
   have hi : p.1.toNat < acc.length := by have := hpp.1; have := hpp.2.1; omega
   have hle := a1B hn _ hi
   have hnn := hn _ (iE hi)
   have hsn := b0u hn
   rw [pB] at hb ⊢
   have hw : oN (iB acc p.1.toNat + qW o p) = iB acc p.1.toNat + qW o p := a1Y (by omega) (by omega)
   have hs : (rkS o acc p).sum = acc.sum + qW o p := by
    unfold rkS
    rw [hw, b1o _ _ _ hi]
    omega
   rw [eE, b1C h ps _ (by unfold rkS; rw [gj]; exact hl) (fun x hx => hp x (dE _ hx)) ?_ (by rw [hs]; omega), hs]
   ·omega
   ·intro x hx
    unfold rkS at hx
    rw [hw] at hx
    rcases List.mem_or_eq_of_mem_set hx with hx | rfl
    ·exact hn x hx
    ·omega
theorem b4h {o : Org} (h : organE o = 0) {ps : List Ct} (hp : ∀ p ∈ ps, IsP o p) (hle : ps.length ≤ 1000000) : a2j (rkF o ps) = lR o ps := by
 have hb := rZ h hp
 have hz : ∀ n, (List.replicate n (0 : Int)).sum = 0 := fun n => by induction n with
  | zero => rfl
  | succ n ih => rw [List.replicate_succ, fj, ih]; rfl
 have e : (rkF o ps).sum = lN o ps := by
  unfold rkF
  rw [b1C h ps _ (by simp) hp (fun x hx => by rw [List.eq_of_mem_replicate hx]; exact ib _) (by rw [hz]; omega), hz]
  omega
 rw [b0Z, e, ← tX]
theorem a2p : ∀ {l : List Int} {m : Int}, (∀ x ∈ l, 0 ≤ x ∧ x ≤ m) → 0 ≤ l.sum ∧ l.sum ≤ m * l.length
 | [], m, _ => by simp
 | x :: l, m, h => by
   have h1 := h x (dC ..)
   have h2 := a2p (l := l) (m := m) fun y hy => h y (dE _ hy)
   rw [fj, dX]
   have : m * ((l.length + 1 : Nat) : Int) = m * l.length + m := by rw [Int.natCast_add, Int.mul_add]; simp
   omega
theorem a5c (hG : Glob gH H) (p : Pln) (hp : p.In H) (hk : p.Ok) (b : Nat → Nat) (hb : ∀ i, b i < 256) (c : Nat → Nat) (hc : ∀ i, c i < 65536) :
 Fn prog 7 [.agg #[p.rv, p.dv, p.cv], .agg #[.int .u8 (b 0), .int .u8 (b 1), .int .u8 (b 2), .int .u8 (b 3), .int .u8 (b 4)], .agg #[.int .u16 (c 0), .int .u16 (c 1), .int .u16 (c 2)]] H fun r H' => r = .bool true ∧ St prog H H' [] := by
 refine .bq func7 rfl (by kernel_rfl) (m := 147) rfl fun l hn g0 g1 g2 => ?_
 simp (disch := omega) only [↓RA, RB, simprocAttr, g0]
 refine (sR H).eNew 3 [p.rv, p.dv, p.cv] rfl rfl (by simp [((sR H).sl hp.1).cells.2.1, ((sR H).sl hp.2.1).cells.2.1, ((sR H).sl hp.2.2.2.1).cells.2.1]) b8z fun A1 H1 hS1 => ?_
 simp only [RT] at hS1
 simp (disch := omega) only [↓RA, RB, simprocAttr, g1]
 refine hS1.eNew 5 [(.int .u8 (b 0)), (.int .u8 (b 1)), (.int .u8 (b 2)), (.int .u8 (b 3)), (.int .u8 (b 4))] rfl rfl rfl c2F fun A2 H2 hS2 => ?_
 simp only [RT] at hS2
 simp (disch := omega) only [↓RA, RB, simprocAttr, g2]
 refine hS2.eNew 3 [(.int .u16 (c 0)), (.int .u16 (c 1)), (.int .u16 (c 2))] rfl rfl rfl c2c fun A3 H3 hS3 => ?_
 simp only [RT] at hS3
 simp (disch := omega) only [↓RA, RZ, simprocAttr]
 refine hS3.cF (a2h (hS3.gl hG)) fun H4 hS4 => ?_
 simp (disch := omega) only [↓RA, RZ, simprocAttr, hn, hS4.ag 0 rfl]
 refine hS4.cF (b9N p (hp.ab hS4)) fun H5 hS5 => ?_
 simp (disch := omega) only [↓RA, RZ, simprocAttr, hn]
 refine jT (fun h1 => ?_) (fun h1 => ?_)
 ·simp (disch := omega) only [↓RA, RZ, simprocAttr]
  refine hS5.cF (a2h (hS5.gl hG)) fun H6 hS6 => ?_
  simp (disch := omega) only [↓RA, RZ, simprocAttr, hn, tR7, h1]
  exact hS6.forget
 have hf : wD p = true := by simpa using h1
 simp (disch := omega) only [↓RA, RZ, simprocAttr, hn, hS5.ag 0 rfl, h1]
 refine iI (b3J (hS5.gl hG) p (hp.ab hS5) hk hf) ?_
 rintro r H7 ⟨o, rfl, ho, hm, hT4⟩
 have hS7 := hS5.trans hT4
 simp only [RT] at hS7
 have hS0 := hS7
 have hG2 := hS0.gl hG
 have hoe := hm.ok.organE
 have hrg := b3B b hoe
 have hf0 := Org.aS hoe
 obtain ⟨k1, k2, k3⟩ := hm.small hf
 have hok := b2J (o := o) hb k2
 have hkl := tA o c
 have hkO := a6w hf0 c
 have hkE := a8k hoe c
 simp (disch := omega) only [↓RA, RZ, simprocAttr]
 refine (sR H7).eNew 4 [(.string ⟨#[]⟩), (.slice none 0 0), (.slice none 0 0), (.slice none 0 0)] rfl rfl rfl mJ fun A4 H8 hS8 => ?_
 simp only [RT] at hS8
 simp (disch := omega) only [↓RA, RB, simprocAttr, hn, h1]
 refine hS8.aa 0 rfl [(.string o.name), o.rv, o.dv, o.cv] rfl (by simp [OC, (hS8.sl ho.1).cells.2.1, (hS8.sl ho.2.2.1).cells.2.1, (hS8.sl ho.2.2.2.2.1).cells.2.1]) mJ (by simp) fun H9 hS9 => ?_
 simp only [RT] at hS9
 simp (disch := omega) only [↓RA, RB, simprocAttr, h1]
 refine Wp.aR kE [(3, 0), (4, 0)] (by kernel_rfl) (by kernel_rfl) ?_
 simp (disch := omega) only [↓RA, RZ, simprocAttr, hn, hS9.ag 0 rfl, ((hS0.var 1 rfl).ab hS9.ab).ag]
 have hD := b0z o (ho.ab hS9) k1 k2 k3 b hb
 generalize hrgE : uB o b = rg at hrg hok hD
 refine iI (hD) ?_
 rintro r H10 ⟨sv, rfl, hT5⟩
 have hS10 := hS9.trans hT5
 simp only [RT] at hS10
 simp (disch := omega) only [↓RA, RZ, simprocAttr, hn, hS10.ag 0 rfl, ((hS0.var 2 rfl).ab hS10.ab).ag]
 have hP := a9A o (ho.ab hS10) hf0 c hc
 generalize hksE : pP o c = ks at hkl hkO hkE hP
 refine iI (hP.tr) ?_
 rintro r H11 ⟨-, hT6⟩
 have hS11 := hS10.trans hT6
 simp only [RT] at hS11
 obtain ⟨kv, rfl⟩ : ∃ w, w = r := ⟨r, rfl⟩
 simp (disch := omega) only [↓RA, RZ, simprocAttr]
 refine hS11.eNew 3 [(.slice none 0 0), (.int .u64 0), (.int .u64 0)] rfl rfl rfl pN fun A5 H12 hS12 => ?_
 simp only [RT] at hS12
 simp (disch := omega) only [↓RA, RB, simprocAttr, hn]
 refine hS12.aa 3 rfl [sv, (.int .u64 rg.cpl), (.int .u64 rg.off)] rfl (by simp [OC, (hS12.rd 1 rfl).cells.2.1]) pN (by simp) fun H13 hS13 => ?_
 simp only [RT] at hS13
 simp (disch := omega) only [↓RA, RZ, simprocAttr, hn, hS9.ag 0 rfl, hS13.ag 0 rfl, ((hS0.var 2 rfl).ab hS9.ab).ag, hS13.ag 3 rfl]
 have hrk : rkE o rg ks = 0 := by unfold rkE; rw [if_neg (by rw [hrg]; simp)]; exact hkE
 have hrl : rg.stops.length = o.dvs.length := (lQ hrg).2
 have hplc := qH hkO hkE
 have hpll := rQ hkE
 have hsp : nB o rg ks = jE o rg (iF ks) := by unfold nB; rw [if_pos hrk]
 have hdF : a3a o rg ks = lR o (jE o rg (iF ks)) := by unfold a3a; rw [hsp]
 have hbF : byF o rg ks = rkF o (jE o rg (iF ks)) := by unfold byF; rw [if_pos hrk, hsp]
 have hle := pF hf0 rg hpll (mB hplc)
 have hfE := b1d hoe
 have hlf := pF hf0 rg (rQ hfE) (mB (qH (a8d hf0) hfE))
 have hfu : a1C o rg = lR o (jE o rg (iF (pV o))) := by unfold a1C; rw [if_pos hrg]
 have hPs : ∀ l, ∀ p ∈ jE o rg l, IsP o p := fun l p hp => sJ hp
 have hone : ∀ x, nA o x = true → a0U o rg x = 0 := fun x hx => by unfold a0U; rw [if_neg (by rw [hrg]; simp)]; exact (oB o x).2 hx
 have hkF : ∀ x, nA o x = true → mD o rg x = lR o (jE o rg [x]) := fun x hx => by unfold mD ofF; rw [if_pos (hone x hx)]
 have hl1 : ∀ x, nA o x = true → (jE o rg [x]).length ≤ 1000000 := fun x hx => pF hf0 rg (l := [x]) (by simp) (mB fun y hy => by rw [du.1 hy]; exact hx)
 have hkS : ∀ x, nA o x = true → mD o rg x = lN o (jE o rg [x]) := fun x hx => by rw [hkF x hx, yR hoe (hPs _) (hl1 x hx)]
 have hkB : ∀ x, nA o x = true → 0 ≤ mD o rg x ∧ mD o rg x ≤ 1000000000000 := fun x hx => by
  have h1 := rZ hoe (hPs [x])
  have h2 := hl1 x hx
  rw [hkS x hx]
  omega
 have hkA : ∀ x ∈ iF ks, mD o rg x ≤ lR o (jE o rg (iF ks)) := fun x hx => by
  rw [hkS x (hplc x hx), yR hoe (hPs _) hle]
  exact xA hoe (lU _ _ _) (lU _ _ _) (a0r hf0 fun y hy => by rw [du.1 hy]; exact hx) (hPs _)
 have hadd : ∀ x, nA o x = true → a2H o rg ks x = 0 := fun x hx => by unfold a2H; rw [if_neg (by rw [hrk]; simp)]; exact (oB o x).2 hx
 have hmar : ∀ x ∈ iF ks, b5M o rg ks x = 0 := fun x hx => by
  unfold b5M adF
  rw [if_pos (hadd x (hplc x hx)), a8Z (lU _ _ _) (lU _ _ _) (a0r hf0 fun y hy => List.mem_append_left _ hy)]
  rw [a8M (m := iF ks) hf0 fun y => by simp only [dD, du]; exact ⟨fun h => h.elim id fun e => e ▸ hx, .inl⟩]
  rw [Int.sub_self]
  rfl
 have hsi : a2j ((iF ks).map (mD o rg)) = ((iF ks).map (mD o rg)).sum := by
  have h := a2p (l := (iF ks).map (mD o rg)) (m := 1000000000000) fun y hy => by
   obtain ⟨x, hx, rfl⟩ := dx.1 hy
   exact hkB x (hplc x hx)
  rw [dO] at h
  rw [b0Z, a1Y (by omega) (by omega)]
 have hA1 : lR o (jE o rg (iF ks)) ≤ a2j ((iF ks).map (mD o rg)) := by
  rw [hsi, yR hoe (hPs _) hle]
  have h := a0w hoe (f := fun x => jE o rg [x]) (fun x => lU _ _ _) (fun x => hPs _) (iF ks) (lU o rg (iF ks)) fun p hp => by
   obtain ⟨x, hx, y, h1, h2⟩ := (oY hf0).1 hp
   exact ⟨x, hx, (a9p hf0).2 ⟨y, h1, h2⟩⟩
  have e : (iF ks).map (mD o rg) = (iF ks).map fun x => lN o (jE o rg [x]) := List.map_congr_left fun x hx => hkS x (hplc x hx)
  rw [e]
  exact h
 have hA2 : a2j (rkF o (jE o rg (iF ks))) = lR o (jE o rg (iF ks)) := b4h hoe (hPs _) hle
 have hA3 : lR o (jE o rg (iF ks)) ≤ lR o (jE o rg (iF (pV o))) := by
  rw [yR hoe (hPs _) hle, yR hoe (hPs _) hlf]
  exact xA hoe (lU _ _ _) (lU _ _ _) (a0r hf0 fun y hy => (b7k hf0).2 (hplc y hy)) (hPs _)
 refine hS13.cF (a8K (hS13.gl hG2) o (ho.ab hS13) rg sv ⟨hS13.aw 1 rfl (fun _ => rfl), hok⟩ kv ks ⟨hS13.aw 2 rfl (fun _ => rfl), by omega, hkO⟩) fun H14 hS14 => ?_
 rw [hrk, hdF]
 simp (disch := omega) only [↓RA, RZ, simprocAttr, hn, hS14.ag 0 rfl, hS14.ag 3 rfl]
 refine iI (a3Y (hS14.gl hG2) o (ho.ab hS14) rg sv ⟨hS14.aw 1 rfl (fun _ => rfl), hok⟩ kv ks ⟨hS14.aw 2 rfl (fun _ => rfl), by omega, hkO⟩) ?_
 rintro r H15 ⟨bv, rfl, hT8⟩
 have hS15 := hS14.trans hT8
 simp only [RT] at hS15
 rw [hrk]
 rw [hbF] at hS15
 simp (disch := omega) only [↓RA, RZ, simprocAttr, hn, hS15.ag 0 rfl, hS15.ag 3 rfl]
 refine hS15.cF (b8n (hS15.gl hG2) o (ho.ab hS15) rg sv ⟨hS15.aw 1 rfl (fun _ => rfl), hok⟩) fun H16 hS16 => ?_
 rw [hfu, hrg]
 simp (disch := omega) only [↓RA, RZ, simprocAttr, hn, hS16.ag 0 rfl]
 refine iI (a4W (hS16.gl hG2) o (ho.ab hS16) kv ks ⟨hS16.aw 2 rfl (fun _ => rfl), by omega, hkO⟩ hkE) ?_
 rintro r H17 ⟨cv, rfl, hT10⟩
 have hS17 := hS16.trans hT10
 simp only [RT] at hS17
 simp (disch := omega) only [↓RA, RZ, simprocAttr, hn, (hS17.aw 5 rfl kF).len]
 refine Wp.al (fun n l H' => l.length = 147 ∧ get l 7 = (ptr A4 0 4) ∧ get l 8 = (ptr A5 0 3) ∧ get l 9 = kv ∧ get l 10 = I (lR o (jE o rg (iF ks))) ∧ get l 12 = bv ∧ get l 14 = I (lR o (jE o rg (iF (pV o)))) ∧ get l 19 = I 0 ∧ get l 84 = cv ∧ get l 85 = I (iF ks).length ∧ ∃ (i : Nat), (n + i = (iF ks).length) ∧ get l 86 = I i ∧ get l 18 = I (a2j (((iF ks).map (mD o rg)).take i)) ∧ St prog H7 H' [⟨ptr A4 0 4, 0, [(.string o.name), o.rv, o.dv, o.cv]⟩, ⟨sv, 1, rg.stops.flatMap (one u64)⟩, ⟨kv, 2, ks.flatMap ntc⟩, ⟨ptr A5 0 3, 0, [sv, (.int .u64 rg.cpl), (.int .u64 rg.off)]⟩, ⟨bv, 1, (rkF o (jE o rg (iF ks))).flatMap (one I)⟩, ⟨cv, 2, pr (iF ks)⟩]) (iF ks).length ?_ ?_
 ·simp (disch := omega) only [RB, RC, simprocAttr, hn]
  exact ⟨0, by omega, rfl, rfl, hS17⟩
 rintro n l H18 ⟨hn, g7, g8, g9, nS, g12, g14, g19, g84, g85, i, hi, g86, g18, hS18⟩
 simp (disch := omega) only [↓RA, RB, simprocAttr, hn, g85, g86]
 refine iA (fun q1 => ?_) (fun q1 => ?_)
 ·have hxm := iE (xs := iF ks) (j := i) (by omega)
  have hxc := hplc _ hxm
  have hx1 := hone _ hxc
  have hx2 := hadd _ hxc
  have hx3 := hmar _ hxm
  have hx4 := hkA _ hxm
  have hsu := a4s ((iF ks).map (mD o rg)) i (by rw [dO]; omega)
  have hnm : iB ((iF ks).map (mD o rg)) i = mD o rg (iB (iF ks) i) := by rw [jK _ i (by rw [dO]; omega), List.getElem_map, ← jK _ i (by omega)]
  rw [hnm] at hsu
  simp (disch := omega) only [↓RA, RZ, simprocAttr, hn, g84, g86, (hS18.aw 5 rfl kF).idx, (hS18.aw 5 rfl kF).ag, kD, q1]
  refine hS18.eNew 2 [I 0, I 0] rfl rfl rfl nU fun A6 H19 hS19 => ?_
  simp only [RT] at hS19
  simp (disch := omega) only [↓RA, RZ, simprocAttr, hn, q1]
  refine hS19.aa 6 rfl [I (iB (iF ks) i).1, I (iB (iF ks) i).2] rfl rfl nU (by simp) fun H20 hS20 => ?_
  simp only [RT] at hS20
  simp (disch := omega) only [↓RA, RZ, simprocAttr, hn, g7, g8, hS20.ag 0 rfl, hS20.ag 3 rfl, hS20.ag 6 rfl, q1]
  refine hS20.cF (b1s o (ho.ab hS20) rg sv ⟨hS20.aw 1 rfl (fun _ => rfl), hok⟩ (iB (iF ks) i)) fun H21 hS21 => ?_
  rw [hx1]
  simp (disch := omega) only [↓RA, RZ, simprocAttr, hn, g7, g8, g9, hS21.ag 0 rfl, hS21.ag 3 rfl, hS21.ag 6 rfl, q1]
  refine hS21.cF (a7q (hS21.gl hG2) o (ho.ab hS21) (by omega) rg sv ⟨hS21.aw 1 rfl (fun _ => rfl), hok⟩ kv ks ⟨hS21.aw 2 rfl (fun _ => rfl), by omega, hkO⟩ (iB (iF ks) i)) fun H22 hS22 => ?_
  rw [hx2, hx3]
  simp (disch := omega) only [↓RA, RZ, simprocAttr, hn, nS, q1]
  refine iO (fun g1 => ?_) (fun g1 => ?_)
  ·exfalso; first | omega | (simp at g1; omega)
  simp (disch := omega) only [↓RA, RZ, simprocAttr, hn, g7, g8, g9, nS, g12, g14, g19, g84, g85, g86, g18, q1, g1]
  refine ⟨n - 1, by omega, i + 1, by omega, by simp, by rw [hsu], ?_⟩
  exact hS22.pick [0, 1, 2, 3, 4, 5] (by decide) rfl
 have hii : i = (iF ks).length := by omega
 have hti : ((iF ks).map (mD o rg)).take i = (iF ks).map (mD o rg) := by rw [hii, ← dO (f := mD o rg), dT]
 rw [hti] at g18
 simp (disch := omega) only [↓RA, RZ, simprocAttr, hn, g12, (hS18.aw 4 rfl (fun _ => rfl)).len, q1]
 have hrkl := b0O o (jE o rg (iF ks))
 have hrl0 := hf0.rlen
 refine Wp.al (fun n l H' => l.length = 147 ∧ get l 10 = I (lR o (jE o rg (iF ks))) ∧ get l 14 = I (lR o (jE o rg (iF (pV o)))) ∧ get l 18 = I (a2j ((iF ks).map (mD o rg))) ∧ get l 124 = bv ∧ get l 125 = I (rkF o (jE o rg (iF ks))).length ∧ ∃ (j : Nat), (n + j = (rkF o (jE o rg (iF ks))).length) ∧ get l 126 = I j ∧ get l 19 = I (a2j ((rkF o (jE o rg (iF ks))).take j)) ∧ St prog H7 H' [⟨ptr A4 0 4, 0, [(.string o.name), o.rv, o.dv, o.cv]⟩, ⟨sv, 1, rg.stops.flatMap (one u64)⟩, ⟨kv, 2, ks.flatMap ntc⟩, ⟨ptr A5 0 3, 0, [sv, (.int .u64 rg.cpl), (.int .u64 rg.off)]⟩, ⟨bv, 1, (rkF o (jE o rg (iF ks))).flatMap (one I)⟩, ⟨cv, 2, pr (iF ks)⟩]) (rkF o (jE o rg (iF ks))).length ?_ ?_
 ·simp (disch := omega) only [RB, RC, simprocAttr, hn, nS, g14, g19, g18]
  exact ⟨0, by omega, rfl, rfl, hS18⟩
 rintro n l H23 ⟨hn, nS, g14, g18, g124, g125, j, hj, g126, g19, hS23⟩
 simp (disch := omega) only [↓RA, RB, simprocAttr, hn, g125, g126]
 refine iA (fun q2 => ?_) (fun q2 => ?_)
 ·have hsu := a4s (rkF o (jE o rg (iF ks))) j (by omega)
  simp (disch := omega) only [↓RA, RZ, simprocAttr, hn, nS, g14, g18, g124, g125, g126, g19, (hS23.aw 4 rfl (fun _ => rfl)).idx, (hS23.aw 4 rfl (fun _ => rfl)).ld, one, q2]
  refine ⟨n - 1, by omega, j + 1, by omega, by simp, by rw [hsu], ?_⟩
  exact hS23.pick [0, 1, 2, 3, 4, 5] (by decide) rfl
 have hjj : j = (rkF o (jE o rg (iF ks))).length := by omega
 have htj : (rkF o (jE o rg (iF ks))).take j = rkF o (jE o rg (iF ks)) := by rw [hjj, dT]
 rw [htj, hA2] at g19
 simp (disch := omega) only [↓RA, RZ, simprocAttr, hn, nS, g18, q2]
 refine kC (fun g2 => ?_) (fun g2 => ?_)
 rotate_left
 ·exfalso; first | omega | (simp at g2; omega)
 simp (disch := omega) only [↓RA, RZ, simprocAttr, hn, nS, g14, g19, q2, g2]
 simp (disch := omega) only [RB, simprocAttr, hn, tR7]
 refine ⟨?_, hS0.forget.trans hS23.forget⟩
 rw [decide_eq_true (by omega)]
end Go.Ds
