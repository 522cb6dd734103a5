/-
  A part of the proof of DemandKeys.
-/
import Derived.Test.YtfjdhdefmcfepaaGreatDoorVJ
import Derived.Test.YtfjdhdefmcfepaaGreatDoorVD
import Derived.Test.YtfjdhdefmcfepaaGreatDoorVE
set_option linter.unusedVariables false
set_option linter.unusedSimpArgs false
set_option linter.defProp false
set_option linter.unusedSectionVars false
namespace Go.Ds
open Go.Proofs Go.Proofs.Tryz Go.ChangeShapes Go.WideShapes Go.RowKit Go.Deep
set_option maxRecDepth 10000
theorem ce3 : prog.cellsOf 3 = 1 := by kernel_rfl
section
variable {H0 : Type} {enc : TypeId × Value → H0} {w : World} {base n : Nat} {spare : Nat → Bool} {lI : Bool} {x : DataW H0 × List MemPlace}
theorem b5J {v : Value} (h : DataW.trod enc prog w base spare lI n 3 [v] = some x) : ∃ m : Int, v = I m ∧ -9223372036854775808 ≤ m ∧ m < 9223372036854775808 := by
 obtain ⟨m, hv, _, hw⟩ := DataW.trod_int underlying3 h
 have hv : v = I m := by simpa using hv
 have hm : -9223372036854775808 ≤ m ∧ m ≤ 9223372036854775807 := by simpa [Lit.wf, IntKind.min, IntKind.max, IntKind.signed, IntKind.bits] using hw
 exact ⟨m, hv, hm.1, by omega⟩
end
section
variable {H0 : Type} {enc : TypeId × Value → H0} {w : World} {base : Nat} {lI : Bool}
end
theorem c7j : prog.cellsOf 64 = 2 := by kernel_rfl
section
variable {H0 : Type} {enc : TypeId × Value → H0} {w : World} {base : Nat} {lI : Bool}
theorem c6y {v0 : Value} {d0 : DataW H0} {p0 : List MemPlace} {c0 : Nat} (h0 : DataW.Trod enc prog w base (fun _ => true) lI 64 v0 d0 p0) (hval : Value.okWide prog w .any c0 64 v0) :
 ∃ c : Ct, v0 = .agg #[I c.1, I c.2] := by
 obtain ⟨cs, rfl, hsz⟩ := okWide_struct underlying64 hval
 rw [c7j] at hsz
 obtain ⟨fuel, hf⟩ := h0
 obtain ⟨l⟩ := cs
 have hl : l.length = 2 := hsz
 match l, hl with
 | [x, y], _ =>
   obtain ⟨_, m, hf⟩ := a0O (cs := [x, y]) underlying64 hf
   obtain ⟨_, h0⟩ := hf 0 ⟨_, 3, 0, _, _, _, _⟩ rfl
   obtain ⟨_, h1⟩ := hf 1 ⟨_, 3, 1, _, _, _, _⟩ rfl
   simp only [ce3] at h0 h1
   obtain ⟨a, rfl, _⟩ := b5J h0
   obtain ⟨b, rfl, _⟩ := b5J h1
   exact ⟨(a, b), rfl⟩
end
end Go.Ds
namespace Go.Ds
open Go.Proofs
set_option maxRecDepth 10000
def uP (x y : Int × Int) : Prop := x.1 < y.1 ∨ (x.1 = y.1 ∧ x.2 < y.2)
theorem a1T {x : Int × Int} : ¬ uP x x := by unfold uP; omega
theorem a0I {x y z : Int × Int} (h : uP x y) (k : uP y z) : uP x z := by unfold uP at *; omega
theorem pJ : ∀ (l m : List (Int × Int)), l.Pairwise uP → m.Pairwise uP → (∀ x, x ∈ l ↔ x ∈ m) → l = m
 | [], [], _, _, _ => rfl
 | [], b :: m, _, _, h => absurd ((h b).2 (dJ ..)) ec
 | a :: l, [], _, _, h => absurd ((h a).1 (dJ ..)) ec
 | a :: l, b :: m, hl, hm, h => by
   rw [gT] at hl hm
   have hab : a = b := by
    rcases dV.1 ((h a).1 (dJ ..)) with e | e
    ·exact e
    ·rcases dV.1 ((h b).2 (dJ ..)) with e2 | e2
     ·exact e2.symm
     ·exact absurd (a0I (hm.1 a e) (hl.1 b e2)) a1T
   subst hab
   congr 1
   refine pJ l m hl.2 hm.2 fun x => ?_
   constructor
   ·intro hx
    rcases dV.1 ((h x).1 (dR _ hx)) with e | e
    ·subst e
     exact absurd (hl.1 x hx) a1T
    ·exact e
   ·intro hx
    rcases dV.1 ((h x).2 (dR _ hx)) with e | e
    ·subst e
     exact absurd (hm.1 x hx) a1T
    ·exact e
theorem b8f {es : List (Int × Int)} (h : es.Pairwise fun a b => le2 a b = true) {i j : Nat} (hij : i < j) (hj : j < es.length) : le2 (iB es i) (iB es j) = true := by
 rw [jO _ _ (by omega), jO _ _ hj]
 exact eI.1 h i j (by omega) hj hij
theorem b0F {es : List (Int × Int)} (h : es.Pairwise fun a b => le2 a b = true) : ∀ m, m ≤ es.length → (yJ es m).Pairwise uP ∧ ∀ x, x ∈ yJ es m ↔ ∃ j, j < m ∧ iB es j = x
 | 0, _ => ⟨by simp [yJ], fun x => by simp [yJ]⟩
 | m + 1, hm => by
   obtain ⟨h1, h2⟩ := b0F h m (by omega)
   rw [sI]
   by_cases hc : m = 0 ∨ iB es m ≠ iB es (m - 1)
   ·rw [if_pos hc]
    refine ⟨?_, fun x => ?_⟩
    ·rw [fc]
     refine ⟨h1, by simp, fun a ha b hb => ?_⟩
     obtain ⟨j, hj, rfl⟩ := (h2 a).1 ha
     obtain rfl := dx.1 hb
     have h3 := (nU _ _).1 (b8f h hj (by omega))
     rcases hc with hc | hc
     ·omega
     ·by_cases he : j = m - 1
      ·subst he
       have hne : ¬ (iB es (m - 1) = iB es m) := fun e => hc e.symm
       rw [Prod.ext_iff] at hne
       unfold uP
       omega
      ·have h4 := (nU _ _).1 (b8f h (show j < m - 1 by omega) (by omega))
       have h5 := (nU _ _).1 (b8f h (show m - 1 < m by omega) (by omega))
       have hne : ¬ (iB es (m - 1) = iB es m) := fun e => hc e.symm
       rw [Prod.ext_iff] at hne
       unfold uP
       omega
    ·rw [dD, h2, dx]
     constructor
     ·rintro (⟨j, hj, e⟩ | e)
      ·exact ⟨j, by omega, e⟩
      ·exact ⟨m, by omega, e.symm⟩
     ·rintro ⟨j, hj, e⟩
      rcases dr.1 hj with e2 | e2
      ·exact .inl ⟨j, e2, e⟩
      ·subst e2
       exact .inr e.symm
   ·rw [if_neg hc, dm]
    refine ⟨h1, fun x => ?_⟩
    rw [h2]
    constructor
    ·rintro ⟨j, hj, e⟩
     exact ⟨j, by omega, e⟩
    ·rintro ⟨j, hj, e⟩
     rcases dr.1 hj with e2 | e2
     ·exact ⟨j, e2, e⟩
     ·subst e2
      have hc' : ¬ (j = 0) ∧ iB es j = iB es (j - 1) := ⟨fun e => hc (.inl e), fP fun e => hc (.inr e)⟩
      exact ⟨j - 1, by omega, by rw [← hc'.2]; exact e⟩
theorem a5r (l : List (Int × Int)) : (dd (pG l)).Pairwise uP := (b0F (tW l) _ (di _)).1
theorem pS {l : List (Int × Int)} {x : Int × Int} : x ∈ dd (pG l) ↔ x ∈ l := by
 unfold dd
 rw [(b0F (tW l) _ (di _)).2 x, ← (mT l).mem_iff]
 constructor
 ·rintro ⟨j, hj, rfl⟩
  exact iD hj
 ·intro hx
  obtain ⟨j, hj, e⟩ := dL.1 hx
  exact ⟨j, hj, by rw [jO _ _ hj]; exact e⟩
theorem b2l {l m : List (Int × Int)} (h : ∀ x, x ∈ l ↔ x ∈ m) : dd (pG l) = dd (pG m) :=
 pJ _ _ (a5r l) (a5r m) fun x => by rw [pS, pS, h]
def a6o (o : Org) (cp : Nat) (thr : Bool) (c x : Ct) : Prop := ∃ i, i < o.cpls.length ∧ rL cp thr c (iB o.cpls i) i = true ∧ lA o (to1 (iB o.cpls i) c) = true ∧ x = to1 (iB o.cpls i) c
theorem a4k {o : Org} {cp : Nat} {thr : Bool} {c x : Ct} {q : List Ct} : ∀ n, x ∈ stepN o cp thr c q n ↔ x ∈ q ∨ ∃ i, i < n ∧ rL cp thr c (iB o.cpls i) i = true ∧ lA o (to1 (iB o.cpls i) c) = true ∧ x = to1 (iB o.cpls i) c
 | 0 => by
   unfold stepN
   simp
 | n + 1 => by
   rw [lJ]
   have ih := a4k (o := o) (cp := cp) (thr := thr) (c := c) (x := x) (q := q) n
   have hs : x ∈ step1 o cp thr c (stepN o cp thr c q n) n ↔ x ∈ stepN o cp thr c q n ∨ (rL cp thr c (iB o.cpls n) n = true ∧ lA o (to1 (iB o.cpls n) c) = true ∧ x = to1 (iB o.cpls n) c) := by
    unfold step1
    split
    ·rename_i hh
     simp only [cW] at hh
     rw [dD, dx]
     constructor
     ·rintro (h | h)
      ·exact .inl h
      ·exact .inr ⟨hh.1.1, hh.1.2, h⟩
     ·rintro (h | ⟨_, _, h⟩)
      ·exact .inl h
      ·exact .inr h
    ·rename_i hh
     simp only [cW, dG, decide_eq_false_iff_not, not_and, dy] at hh
     constructor
     ·exact fun h => .inl h
     ·rintro (h | ⟨h1, h2, h3⟩)
      ·exact h
      ·rw [h3]
       exact hh ⟨h1, h2⟩
   rw [hs, ih]
   constructor
   ·rintro ((h | ⟨i, hi, h⟩) | h)
    ·exact .inl h
    ·exact .inr ⟨i, by omega, h⟩
    ·exact .inr ⟨n, by omega, h⟩
   ·rintro (h | ⟨i, hi, h⟩)
    ·exact .inl (.inl h)
    ·rcases dr.1 hi with e | e
     ·exact .inl (.inr ⟨i, e, h⟩)
     ·subst e
      exact .inr h
theorem sT {o : Org} {cp : Nat} {thr : Bool} {c x : Ct} {q : List Ct} : x ∈ stepF o cp thr c q ↔ x ∈ q ∨ a6o o cp thr c x := a4k _
inductive Star {α : Type} (R : α → α → Prop) : α → α → Prop
 | refl (a : α) : Star R a a
 | tail {a b c : α} : Star R a b → R b c → Star R a c
theorem Star.stay {α : Type} {R : α → α → Prop} {p : α → Prop} (hc : ∀ a, p a → ∀ b, R a b → p b) {a b : α} (ha : p a) (h : Star R a b) : p b := by
 induction h with
 | refl => exact ha
 | tail _ h2 ih => exact hc _ ih _ h2
theorem a2b {o : Org} {cp : Nat} {l : List Ct} {x : Ct} : x ∈ kI o cp l ↔ ∃ c, c ∈ l ∧ a6o o cp false c x := by
 unfold kI
 have h : ∀ (l : List Ct) (q : List Ct), x ∈ l.foldl (fun q c => stepF o cp false c q) q ↔ x ∈ q ∨ ∃ c, c ∈ l ∧ a6o o cp false c x := by
  intro l
  induction l with
  | nil => intro q; simp
  | cons a l ih =>
    intro q
    rw [eO, ih, sT]
    constructor
    ·rintro ((h | h) | ⟨c, hc, h⟩)
     ·exact .inl h
     ·exact .inr ⟨a, dJ .., h⟩
     ·exact .inr ⟨c, dR _ hc, h⟩
    ·rintro (h | ⟨c, hc, h⟩)
     ·exact .inl (.inl h)
     ·rcases dV.1 hc with e | e
      ·subst e
       exact .inl (.inr h)
      ·exact .inr ⟨c, e, h⟩
 rw [h]
 simp
theorem a4W {o : Org} {cp : Nat} {thr : Bool} {c : Ct} {q : List Ct} : ∀ n, ∃ t, stepN o cp thr c q n = q ++ t
 | 0 => ⟨[], by simp [stepN]⟩
 | n + 1 => by
   obtain ⟨t, ht⟩ := a4W (o := o) (cp := cp) (thr := thr) (c := c) (q := q) n
   rw [lJ, ht]
   unfold step1
   split
   ·exact ⟨t ++ [to1 (iB o.cpls n) c], by rw [ed]⟩
   ·exact ⟨t, rfl⟩
theorem a6D {α : Type} [Inhabited α] (q t : List α) {j : Nat} (h : j < q.length) : iB (q ++ t) j = iB q j := by
 rw [jO _ _ (by simp; omega), jO _ _ h, List.getElem_append_left h]
theorem b1X {o : Org} (hf : o.Fine) (cp : Nat) : ∀ (n i : Nat) (q : List Ct), Que o q → 1025 ≤ n + i → (∀ j, j < i → j < q.length → ∀ y, a6o o cp true (iB q j) y → y ∈ q) →
 ∀ x, x ∈ bfs o cp n i q ↔ ∃ a, a ∈ q ∧ Star (a6o o cp true) a x
 | 0, i, q, hq, hn, hc, x => by
   have hl := hq.len hf
   have hcl : ∀ a, a ∈ q → ∀ y, a6o o cp true a y → y ∈ q := fun a ha y hy => by
    obtain ⟨j, hj, e⟩ := dL.1 ha
    exact hc j (by omega) hj y (by rw [jO _ _ hj, e]; exact hy)
   unfold bfs
   exact ⟨fun h => ⟨x, h, .refl x⟩, fun ⟨a, ha, hs⟩ => hs.stay hcl ha⟩
 | n + 1, i, q, hq, hn, hc, x => by
   rw [bfs]
   split
   ·rename_i hi
    obtain ⟨t, ht⟩ := a4W (o := o) (cp := cp) (thr := true) (c := iB q i) (q := q) o.cpls.length
    have ht : stepF o cp true (iB q i) q = q ++ t := ht
    rw [b1X hf cp n (i + 1) _ (hq.stepF cp true _) (by omega) (fun j hj hjl y hy => ?_)]
    ·constructor
     ·rintro ⟨a, ha, hs⟩
      rcases sT.1 ha with h | h
      ·exact ⟨a, h, hs⟩
      ·refine ⟨iB q i, iD hi, ?_⟩
       clear ha
       induction hs with
       | refl => exact .tail (.refl _) h
       | tail _ h2 ih => exact .tail ih h2
     ·rintro ⟨a, ha, hs⟩
      exact ⟨a, sT.2 (.inl ha), hs⟩
    ·rcases dr.1 hj with e | e
     ·rw [ht, a6D _ _ (by omega)] at hy
      exact sT.2 (.inl (hc j e (by omega) y hy))
     ·subst e
      rw [ht, a6D _ _ hi] at hy
      exact sT.2 (.inr hy)
   ·rename_i hi
    have hcl : ∀ a, a ∈ q → ∀ y, a6o o cp true a y → y ∈ q := fun a ha y hy => by
     obtain ⟨j, hj, e⟩ := dL.1 ha
     exact hc j (by omega) hj y (by rw [jO _ _ hj, e]; exact hy)
    exact ⟨fun h => ⟨x, h, .refl x⟩, fun ⟨a, ha, hs⟩ => hs.stay hcl ha⟩
def Snd (o : Org) (r : Reg) (c x : Ct) : Prop := (x = c ∧ r.off.testBit c.1.toNat = false) ∨ ∃ a, a6o o r.cpl false c a ∧ Star (a6o o r.cpl true) a x
theorem xS (o : Org) (cp : Nat) (l : List Ct) : Que o (kI o cp l) := by
 unfold kI
 have h : ∀ (l : List Ct) (q : List Ct), Que o q → Que o (l.foldl (fun q c => stepF o cp false c q) q) := by
  intro l
  induction l with
  | nil => exact fun q h => h
  | cons a l ih => exact fun q h => ih _ (h.stepF cp false a)
 exact h l [] (Que.nil o)
theorem a2D {o : Org} (hf : o.Fine) {r : Reg} {l : List Ct} {x : Ct} : x ∈ jZ o r l ↔ ∃ c, c ∈ l ∧ Snd o r c x := by
 unfold jZ
 rw [pS, dD, ef, b1X hf r.cpl 1100 0 _ (xS o r.cpl l) (by decide) (fun j hj => absurd hj (dN _))]
 constructor
 ·rintro (⟨h1, h2⟩ | ⟨a, ha, hs⟩)
  ·exact ⟨x, h1, .inl ⟨rfl, by simpa using h2⟩⟩
  ·obtain ⟨c, hc, h⟩ := a2b.1 ha
   exact ⟨c, hc, .inr ⟨a, h, hs⟩⟩
 ·rintro ⟨c, hc, h⟩
  rcases h with ⟨rfl, h2⟩ | ⟨a, h, hs⟩
  ·exact .inl ⟨hc, by simpa using h2⟩
  ·exact .inr ⟨a, a2b.2 ⟨c, hc, h⟩, hs⟩
theorem tE {o : Org} (hf : o.Fine) {r : Reg} {l : List Ct} {p : Ct} : p ∈ kH o r l ↔ ∃ c, c ∈ l ∧ ∃ x, Snd o r c x ∧ p ∈ mU o r x := by
 unfold kH vJ
 rw [pS, dP]
 constructor
 ·rintro ⟨x, hx, hp⟩
  obtain ⟨c, hc, h⟩ := (a2D hf).1 hx
  exact ⟨c, hc, x, h, hp⟩
 ·rintro ⟨c, hc, x, h, hp⟩
  exact ⟨x, (a2D hf).2 ⟨c, hc, h⟩, hp⟩
theorem sG (o : Org) (r : Reg) (l : List Ct) : (kH o r l).Pairwise uP := a5r _
def IsP (o : Org) (p : Ct) : Prop := 0 ≤ p.1 ∧ p.1 < o.ranks.length ∧ 0 ≤ p.2 ∧ p.2 < (iB o.ranks p.1.toNat).wind.length
theorem b0e {rs : List Rk} {s : Stp} {key : Int} {p : Ct} (h : p ∈ qF rs s key) : 0 ≤ p.1 ∧ p.1 < rs.length ∧ 0 ≤ p.2 ∧ p.2 < (iB rs p.1.toNat).wind.length := by
 unfold qF at h
 obtain ⟨d, hd, rfl⟩ := dA.1 (pS.1 h)
 have hh := (ef.1 hd).2
 unfold rG at hh
 rw [cW, cW, dG, decide_eq_true_eq, decide_eq_true_eq, decide_eq_false_iff_not] at hh
 obtain ⟨⟨h1, h2⟩, h3⟩ := hh
 have e : (mQ rs d key).1 = d.rank := by unfold mQ; rw [if_neg h1]
 rw [e]
 exact ⟨by omega, by omega, h2, h3⟩
theorem xR {o : Org} {r : Reg} {c p : Ct} (h : p ∈ mU o r c) : IsP o p := by
 unfold mU at h
 obtain ⟨i, _, h⟩ := dP.1 h
 split at h
 ·exact b0e h
 ·exact absurd h ec
theorem a6S {o : Org} {r : Reg} {l : List Ct} {p : Ct} (h : p ∈ vJ o r l) : IsP o p := by
 unfold vJ at h
 obtain ⟨c, _, h⟩ := dP.1 (pS.1 h)
 exact xR h
theorem rJ {o : Org} {r : Reg} {l : List Ct} {p : Ct} (h : p ∈ kH o r l) : IsP o p := a6S h
theorem b8Z {o : Org} {r : Reg} {c p : Ct} (h : p ∈ ofF o r c) : IsP o p := by
 unfold ofF at h
 split at h
 ·exact rJ h
 ·exact absurd h ec
theorem IsP.small {o : Org} {H : Heap} (hf : o.Fine) (ho : o.In H) {p : Ct} (h : IsP o p) : -1000000000 ≤ p.1 ∧ p.1 ≤ 1000000000 ∧ -1000000000 ≤ p.2 ∧ p.2 ≤ 1000000000 := by
 obtain ⟨h1, h2, h3, h4⟩ := h
 have hr := (ho.2.1 _ (iD (xs := o.ranks) (j := p.1.toNat) (by omega))).2
 have := hf.rlen
 exact ⟨by omega, by omega, by omega, by omega⟩
theorem qR {o : Org} (hf : o.Fine) (rg : Reg) {l : List Ct} (hl : l.length ≤ 1024) (ho : ∀ c ∈ jZ o rg l, lA o c = true) : (kH o rg l).length ≤ 1000000 := by
 have h1 := sE hf rg (jZ o rg l) ho
 have h2 := tN hf (rg := rg) hl
 have h3 := a7p (pG ((jZ o rg l).flatMap (mU o rg)))
 rw [lY] at h3
 have : (kH o rg l).length ≤ (jZ o rg l).length * 480 := dC h3 h1
 omega
end Go.Ds
namespace Go.Ds
open Go.Proofs Go.Proofs.Tryz
variable {H : Heap}
set_option maxRecDepth 10000
set_option maxHeartbeats 1000000
def mkN (P : Program) (t : TypeId) : Option (Nat × Nat × List Value) :=
 (iI P t).bind fun elem => (iE P elem).bind fun size => (nC P elem).bind fun bytes => (jB P elem).bind fun z => if size != 0 && size != 1 && z.cells.size == size && jC z then some (bytes, size, z.cells.toList) else none
theorem b8b {β : Type} (cel : β → List Value) (x : β) (z : Array Value) (hz : cel x = z.toList) (h0 : 0 < z.size) : ∀ a, (madeCells z (a * z.size)).toList = (List.replicate a x).flatMap cel := by
 have key : ∀ a, (List.range (a * z.size)).map (fun i => z[i % z.size]!) = (List.replicate a x).flatMap cel := by
  intro a
  induction a with
  | zero => simp
  | succ a ih =>
    rw [gG, Nat.add_comm, List.range_add, dS, List.map_map, List.replicate_succ, dB, ← ih, hz]
    congr 1
    ·refine List.ext_getElem (by simp) fun i h1 h2 => ?_
     simp only [List.getElem_map, gS]
     rw [gi (by simpa using h1)]
     simp at h1
     simp [h1]
    ·refine List.map_congr_left fun i _ => ?_
     simp
 intro a
 rw [← key a]
 simp [madeCells]
theorem St.cj {P : Program} {H0 : Base} {H : Heap} {os : List Ob} {β : Type} {cel : β → List Value} {x : β} (hS : St P H0 H os) {t : TypeId} {bytes sz : Nat} {zs : List Value} {K : Value → Heap → Prop} (a : Nat) (ha : mkN P t = some (bytes, sz, zs)) (hz : cel x = zs) (hroom : a * (bytes + 1) ≤ 17592186044416)
 (h : ∀ v H1, St P H0 H1 (os ++ [⟨v, sz, (List.replicate a x).flatMap cel⟩]) → K v H1) : pQ P H t (.int .i64 a) (.int .i64 a) K := by
 unfold mkN at ha
 cases he : iI P t with
 | none => rw [he] at ha; cases ha
 | some elem =>
 rw [he] at ha
 simp only [cX] at ha
 cases hsz2 : iE P elem with
 | none => rw [hsz2] at ha; cases ha
 | some sz =>
 rw [hsz2] at ha
 simp only [cX] at ha
 cases hby : nC P elem with
 | none => rw [hby] at ha; cases ha
 | some by' =>
 rw [hby] at ha
 simp only [cX] at ha
 cases hz2 : jB P elem with
 | none => rw [hz2] at ha; cases ha
 | some z' =>
 rw [hz2] at ha
 simp only [cX] at ha
 split at ha
 case isFalse => cases ha
 rename_i hzs
 simp only [cW, beq_iff_eq, bne_iff_ne, ne_eq] at hzs
 obtain ⟨⟨⟨hs0, hs1⟩, hz1⟩, hfl⟩ := hzs
 simp only [dE, gr] at ha
 obtain ⟨rfl, rfl, rfl⟩ := ha
 have hm := b8b cel x z'.cells hz (by omega) a
 rw [hz1] at hm
 have hln : ((List.replicate a x).flatMap cel).length = a * sz := by
  rw [← hm]
  simp [madeCells]
 refine ⟨.slice (some ⟨H.length, 0, some ((List.replicate a x).flatMap cel).length⟩) a sz, H.cons (.cells ((List.replicate a x).flatMap cel) elem true ((List.replicate a x).flatMap cel).length 0), ?_, h _ _ (hS.add ?_ ?_ ?_ ?_)⟩
 ·unfold tT
  simp only [he, hsz2, hby, hz2, cX]
  rw [if_pos]
  ·rw [if_neg hs1]
   simp only [dF, hm]
   rw [lH]
  ·have : (a : Int) * (by' + 1) ≤ (oC : Int) := by
    have h3 : ((a * (by' + 1) : Nat) : Int) ≤ ((17592186044416 : Nat) : Int) := Int.ofNat_le.2 hroom
    simpa [oC] using h3
   simp [hfl, hz1, this, hs0]
 ·unfold OwnAt
  rw [if_neg hs0]
  exact .inr ⟨_, 0, elem, _, 0, [], a, iO H _, by simp, rfl, hln, by simp, hsz2⟩
 ·simp [oU]
 ·exact fun B hB => jN _ hB
 ·intro B hB
  simp [kJ] at hB
  omega
abbrev Nt := Nat × Nat
def wH (x : Nt) : List Value := [.int .u64 x.1, .int .u64 x.2]
def Nt.Ok (x : Nt) : Prop := x.1 < 18446744073709551616 ∧ x.2 < 18446744073709551616
theorem c5G : mkN prog 44 = some (16, 2, wH (0, 0)) := by kernel_rfl
def qZ (x : Nt) (n : Int) : Nt := if n < 64 then (x.1 ||| 2 ^ n.toNat, x.2) else (x.1, x.2 ||| 2 ^ (n - 64).toNat)
theorem a5v (i : Nat) (h : i < 64) : 2 ^ i < 18446744073709551616 := by
 have : 2 ^ i ≤ 2 ^ 63 := fq (by decide) (by omega)
 have e : 2 ^ 63 = 9223372036854775808 := rfl
 omega
theorem a8f {a b : Nat} (ha : a < 18446744073709551616) (hb : b < 18446744073709551616) : a ||| b < 18446744073709551616 := Nat.or_lt_two_pow (n := 64) ha hb
theorem orB (a b : Nat) (ha : a < 18446744073709551616) (hb : b < 18446744073709551616) : IntKind.wrap .u64 ((BitVec.ofInt (IntKind.bits .u64) (a : Int) ||| BitVec.ofInt (IntKind.bits .u64) (b : Int)).toNat : Int) = ((a ||| b : Nat) : Int) := by
 have e : (BitVec.ofInt (IntKind.bits .u64) (a : Int) ||| BitVec.ofInt (IntKind.bits .u64) (b : Int)).toNat = a ||| b := by
  rw [BitVec.toNat_or, vD a ha, vD b hb]
 rw [e]
 have := a8f ha hb
 exact mY _ (by omega) (by omega)
theorem orN (n i : Nat) (hn : n < 18446744073709551616) (hi : i < 64) : IntKind.wrap .u64 ((BitVec.ofInt (IntKind.bits .u64) (n : Int) ||| BitVec.ofInt (IntKind.bits .u64) (IntKind.wrap .u64 (1 * 2 ^ min i (IntKind.bits .u64)))).toNat : Int) = ((n ||| 2 ^ i : Nat) : Int) := by
 rw [b6j i hi]
 exact orB n (2 ^ i) hn (a5v i hi)
theorem c0Q {x : Nt} (hx : Nt.Ok x) {z : Int} (h0 : 0 ≤ z) (h1 : z < 128) : Nt.Ok (qZ x z) := by
 unfold qZ
 split
 ·exact ⟨a8f hx.1 (a5v _ (by omega)), hx.2⟩
 ·exact ⟨hx.1, a8f hx.2 (a5v _ (by omega))⟩
theorem a7F (x : Nt) (hx : Nt.Ok x) (z : Int) (h0 : 0 ≤ z) (h1 : z < 128) : Fn prog 68 [.agg #[.int .u64 x.1, .int .u64 x.2], I z] H fun r H' => r = .agg #[.int .u64 (qZ x z).1, .int .u64 (qZ x z).2] ∧ St prog H H' [] := by
 obtain ⟨m, rfl⟩ := eR h0
 refine .aF func68 rfl (by kernel_rfl) (m := 21) rfl fun l hn g0 g1 => ?_
 simp (disch := omega) only [↓RA, RB, simprocAttr, g0]
 refine (sR H).eNew 2 [(.int .u64 x.1), (.int .u64 x.2)] rfl rfl rfl kK fun A1 H1 hS1 => ?_
 simp only [RT] at hS1
 simp (disch := omega) only [↓RA, RZ, simprocAttr]
 refine hS1.eNew 2 [(.int .u64 0), (.int .u64 0)] rfl rfl rfl kK fun A2 H2 hS2 => ?_
 simp only [RT] at hS2
 simp (disch := omega) only [↓RA, RB, simprocAttr, hn, g1]
 refine iA (fun q1 => ?_) (fun q1 => ?_)
 ·have e1 := orN x.1 m hx.1 (by omega)
  have e2 : qZ x (m : Int) = (x.1 ||| 2 ^ m, x.2) := by unfold qZ; rw [if_pos q1]; rfl
  simp (disch := omega) only [↓RA, RC, simprocAttr, q1]
  refine Wp.drw jY (by kernel_rfl) ?_
  simp (disch := omega) only [↓RA, RZ, simprocAttr, hn, g1, hS2.ld 0 rfl, e1]
  refine hS2.aa 0 rfl [(.int .u64 (x.1 ||| 2 ^ m : Nat))] rfl rfl c2E (by simp) fun H3 hS3 => ?_
  simp only [RT] at hS3
  simp (disch := omega) only [↓RA, RZ, simprocAttr, hn, hS3.ae 0 rfl]
  refine hS3.aa 1 rfl [(.int .u64 (x.1 ||| 2 ^ m : Nat)), (.int .u64 x.2)] rfl rfl kK (by simp) fun H4 hS4 => ?_
  simp only [RT] at hS4
  simp (disch := omega) only [↓RA, RZ, simprocAttr, hn, c4A, hS4.ae 1 rfl]
  rw [e2]
  exact ⟨rfl, hS4.forget⟩
 have e1 := orN x.2 (m - 64) hx.2 (by omega)
 have e3 : (m : Int) - 64 = ((m - 64 : Nat) : Int) := by omega
 have e2 : qZ x (m : Int) = (x.1, x.2 ||| 2 ^ (m - 64)) := by unfold qZ; rw [if_neg q1, e3]; rfl
 simp (disch := omega) only [↓RA, RC, simprocAttr, q1]
 refine Wp.drw jY (by kernel_rfl) ?_
 simp (disch := omega) only [↓RA, RZ, simprocAttr, hn, g1, hS2.ld 0 rfl, e1, e3]
 refine hS2.aa 0 rfl [(.int .u64 (x.2 ||| 2 ^ (m - 64) : Nat))] rfl rfl c2E (by simp) fun H5 hS5 => ?_
 simp only [RT] at hS5
 simp (disch := omega) only [↓RA, RZ, simprocAttr, hn, hS5.ae 0 rfl]
 refine hS5.aa 1 rfl [(.int .u64 x.1), (.int .u64 (x.2 ||| 2 ^ (m - 64) : Nat))] rfl rfl kK (by simp) fun H6 hS6 => ?_
 simp only [RT] at hS6
 simp (disch := omega) only [↓RA, RZ, simprocAttr, hn, c4A, hS6.ae 1 rfl]
 rw [e2]
 exact ⟨rfl, hS6.forget⟩
def iY (xs : List Int) : Nt := xs.foldl qZ (0, 0)
def isN (z : Int) : Prop := 0 ≤ z ∧ z < 128
theorem sU : ∀ (xs : List Int) (x : Nt), (∀ z ∈ xs, isN z) → Nt.Ok x → Nt.Ok (xs.foldl qZ x)
 | [], _, _, h => h
 | z :: xs, x, hz, h => by
   rw [eO]
   exact sU xs _ (fun y hy => hz y (dR _ hy)) (c0Q h (hz z (dJ ..)).1 (hz z (dJ ..)).2)
theorem a8b (xs : List Int) {j : Nat} (hj : j < xs.length) : iY (xs.take (j + 1)) = qZ (iY (xs.take j)) (iB xs j) := by
 unfold iY
 rw [List.take_add_one, dq hj, Option.toList_some, fz, ← jO _ j hj]
 rfl
theorem b3l (z : Int) (h : isN z) : Fn prog 67 [I z] H fun r H' => r = .bool true ∧ St prog H H' [] := by
 have h0 := h.1
 have h1 := h.2
 refine .aQ func67 rfl (by kernel_rfl) (m := 9) rfl fun l hn g0 => ?_
 simp (disch := omega) only [↓RA, RZ, simprocAttr, hn, g0]
 refine jI (fun q1 => ?_) (fun q1 => ?_)
 rotate_left
 ·exfalso; first | omega | (simp at q1; omega)
 simp (disch := omega) only [↓RA, RZ, simprocAttr, hn, g0, c8h, q1]
 simpa using ⟨(by omega : z ≤ 127), (sR H)⟩
theorem tZ (xs : List Int) (hz : ∀ z ∈ xs, isN z) (v : Value) (hv : Sl 1 (one I) H v xs) (hl : xs.length < 1000000000) :
 Fn prog 39 [v] H fun r H' => r = .tuple #[.agg #[.int .u64 (iY xs).1, .int .u64 (iY xs).2], I 0] ∧ St prog H H' [] := by
 refine .aQ func39 rfl (by kernel_rfl) (m := 22) rfl fun l hn g0 => ?_
 simp (disch := omega) only [↓RA, RZ, simprocAttr]
 refine (sR H).eNew 2 [(.int .u64 0), (.int .u64 0)] rfl rfl rfl kK fun A1 H1 hS1 => ?_
 simp only [RT] at hS1
 simp (disch := omega) only [↓RA, RZ, simprocAttr]
 refine hS1.eNew 2 [(.int .u64 0), (.int .u64 0)] rfl rfl rfl kK fun A2 H2 hS2 => ?_
 simp only [RT] at hS2
 simp (disch := omega) only [↓RA, RZ, simprocAttr, hn, g0, (hS2.sl hv).len]
 refine Wp.ak (fun n l H' => l.length = 22 ∧ get l 2 = (ptr A1 0 2) ∧ get l 4 = (ptr A2 0 2) ∧ get l 7 = v ∧ get l 8 = I xs.length ∧ ∃ (j : Nat), (n + j = xs.length) ∧ get l 9 = I j ∧ St prog H H' [⟨ptr A1 0 2, 0, [(.int .u64 0), (.int .u64 0)]⟩, ⟨ptr A2 0 2, 0, [.int .u64 (iY (xs.take j)).1, .int .u64 (iY (xs.take j)).2]⟩]) xs.length ?_ ?_
 ·simp (disch := omega) only [RB, RC, simprocAttr, hn]
  exact ⟨0, by omega, rfl, hS2⟩
 rintro n l H3 ⟨hn, g2, g4, g7, g8, j, hj, g9, hS3⟩
 simp (disch := omega) only [↓RA, RB, simprocAttr, hn, g8, g9]
 refine iA (fun q1 => ?_) (fun q1 => ?_)
 ·have hx := hz _ (iD (xs := xs) (j := j) (by omega))
  have hok : Nt.Ok (iY (xs.take j)) := sU _ _ (fun z h => hz z (fU h)) ⟨by decide, by decide⟩
  simp (disch := omega) only [↓RA, RZ, simprocAttr, hn, g7, g9, (hS3.sl hv).idx, (hS3.sl hv).ld, one, q1]
  refine hS3.cF (b3l (iB xs j) hx) fun H4 hS4 => ?_
  simp (disch := omega) only [↓RA, RZ, simprocAttr, hn, g4, hS4.ae 1 rfl, q1]
  refine hS4.cF (a7F (iY (xs.take j)) hok (iB xs j) hx.1 hx.2) fun H5 hS5 => ?_
  simp (disch := omega) only [↓RA, RZ, simprocAttr, hn, g4, q1]
  refine hS5.aa 1 rfl [(.int .u64 (qZ (iY (xs.take j)) (iB xs j)).1), (.int .u64 (qZ (iY (xs.take j)) (iB xs j)).2)] rfl rfl kK (by simp) fun H6 hS6 => ?_
  simp only [RT] at hS6
  simp (disch := omega) only [↓RA, RZ, simprocAttr, hn, g2, g4, g7, g8, g9, q1]
  refine ⟨n - 1, by omega, j + 1, by omega, by simp, ?_⟩
  rw [a8b xs (by omega)]
  exact hS6.pick [0, 1] (by decide) rfl
 have hjj : j = xs.length := by omega
 simp (disch := omega) only [↓RA, RZ, simprocAttr, hn, g2, g4, hS3.ae 1 rfl, q1]
 refine hS3.aa 0 rfl [(.int .u64 (iY (xs.take j)).1), (.int .u64 (iY (xs.take j)).2)] rfl rfl kK (by simp) fun H7 hS7 => ?_
 simp only [RT] at hS7
 simp (disch := omega) only [↓RA, RZ, simprocAttr, hn, g2, c7p, hS7.ae 0 rfl, q1]
 rw [hjj, dU]
 exact ⟨rfl, hS7.forget⟩
def unF (x y : Nt) : Nt := (x.1 ||| y.1, x.2 ||| y.2)
theorem c3l {x y : Nt} (hx : Nt.Ok x) (hy : Nt.Ok y) : Nt.Ok (unF x y) := ⟨a8f hx.1 hy.1, a8f hx.2 hy.2⟩
theorem b4d (x y : Nt) (hx : Nt.Ok x) (hy : Nt.Ok y) : Fn prog 57 [.agg #[.int .u64 x.1, .int .u64 x.2], .agg #[.int .u64 y.1, .int .u64 y.2]] H fun r H' => r = .agg #[.int .u64 (unF x y).1, .int .u64 (unF x y).2] ∧ St prog H H' [] := by
 have e1 := orB x.1 y.1 hx.1 hy.1
 have e2 := orB x.2 y.2 hx.2 hy.2
 refine .aF func57 rfl (by kernel_rfl) (m := 16) rfl fun l hn g0 g1 => ?_
 simp (disch := omega) only [↓RA, RB, simprocAttr, g0]
 refine (sR H).eNew 2 [(.int .u64 x.1), (.int .u64 x.2)] rfl rfl rfl kK fun A1 H1 hS1 => ?_
 simp only [RT] at hS1
 simp (disch := omega) only [↓RA, RB, simprocAttr, g1]
 refine hS1.eNew 2 [(.int .u64 y.1), (.int .u64 y.2)] rfl rfl rfl kK fun A2 H2 hS2 => ?_
 simp only [RT] at hS2
 simp (disch := omega) only [↓RA, RZ, simprocAttr]
 refine hS2.eNew 2 [(.int .u64 0), (.int .u64 0)] rfl rfl rfl kK fun A3 H3 hS3 => ?_
 simp only [RT] at hS3
 simp (disch := omega) only [↓RA, RZ, simprocAttr, hn, hS3.ld 0 rfl, hS3.ld 1 rfl, e1, e2]
 simp (disch := omega) only [↓RA, RB, simprocAttr, hn, a3V]
 refine hS3.aa 2 rfl [(.int .u64 (x.1 ||| y.1 : Nat)), (.int .u64 (x.2 ||| y.2 : Nat))] rfl rfl kK (by simp) fun H4 hS4 => ?_
 simp only [RT] at hS4
 simp (disch := omega) only [↓RA, RZ, simprocAttr, hn, c7v, hS4.ae 2 rfl]
 exact ⟨rfl, hS4.forget⟩
end Go.Ds
namespace Go.Ds
open Go.Proofs
variable {H : Heap}
set_option maxRecDepth 10000
set_option maxHeartbeats 1000000
theorem St.perm {P : Program} {H0 : Base} {os os' : List Ob} (h : St P H0 H os) (hp : os.Perm os') : St P H0 H os' where
 len := h.len
 old := h.old
 own o ho := h.own o (hp.mem_iff.2 ho)
 new o ho := h.new o (hp.mem_iff.2 ho)
 sep := (List.Perm.pairwise_iff (fun {_ _} hxy B hB hB2 => hxy B hB2 hB) hp).1 h.sep
theorem Lp.swap {P : Program} {B : Base} {L : Nat} {r : Loop} {xs ys zs : List Ob} (h : Lp P B L r H ((xs ++ ys) ++ zs)) : Lp P B L r H ((xs ++ zs) ++ ys) := by
 have hp : ((xs ++ ys) ++ zs).Perm ((xs ++ zs) ++ ys) := by
  rw [ed, ed]
  exact (List.perm_append_comm).append_left xs
 exact ⟨h.st.perm hp, h.get, h.lo, fun o ho => h.ne o (hp.mem_iff.2 ho)⟩
end Go.Ds
namespace Go.Ds
open Go.Proofs Go.Proofs.Tryz
variable {H : Heap}
set_option maxRecDepth 10000
set_option maxHeartbeats 1000000
def ctz (x : Nat) : Nat := ((List.range 64).find? fun i => x.testBit i).getD 64
theorem a2I {x : Nat} (h0 : x ≠ 0) (h1 : x < 18446744073709551616) : ctz x < 64 ∧ x.testBit (ctz x) = true ∧ ∀ j, j < ctz x → x.testBit j = false := by
 have hx : ∃ i, i < 64 ∧ x.testBit i = true := by
  refine fP fun hn => h0 ?_
  refine fV fun i => ?_
  rw [iq]
  by_cases hi : i < 64
  ·by_cases hb : x.testBit i = true
   ·exact absurd ⟨i, hi, hb⟩ hn
   ·simpa using hb
  ·exact Nat.testBit_lt_two_pow (dM (show x < 2 ^ 64 by simpa using h1) (fq (by decide) (by omega)))
 unfold ctz
 cases hf : (List.range 64).find? fun i => x.testBit i with
 | none =>
   obtain ⟨i, hi, hb⟩ := hx
   have := gp.1 hf i (dz.2 hi)
   exact absurd hb (by simpa using this)
 | some i =>
   obtain ⟨hb, ys, bs, he, hn⟩ := List.find?_eq_some_iff_append.1 hf
   have hi : i < 64 := dz.1 (he ▸ (by simp : i ∈ ys ++ i :: bs))
   refine ⟨hi, hb, fun j hj0 => ?_⟩
   have hj : j < i := hj0
   have hl : ys.length = i := by
    have h2 : (List.range 64)[ys.length]? = some i := by rw [he]; simp
    have h3 : ys.length < 64 := by
     have := congrArg List.length he
     simp at this
     omega
    rw [gM h3] at h2
    exact cV h2
   have hm : j ∈ ys := by
    have h2 : (List.range 64)[j]? = some j := gM (by omega)
    rw [he, eH (by simpa using (hl ▸ hj))] at h2
    exact dQ h2
   simpa using hn j hm
theorem a4V {x : Nat} (h0 : x ≠ 0) (h1 : x < 18446744073709551616) : ∃ m, x = 2 ^ ctz x * (2 * m + 1) := by
 obtain ⟨c1, c2, c3⟩ := a2I h0 h1
 generalize ctz x = k at c1 c2 c3
 have hd : x % 2 ^ k = 0 := by
  refine fV fun i => ?_
  rw [Nat.testBit_mod_two_pow, iq]
  by_cases hi : i < k
  ·rw [c3 i hi, Bool.and_false]
  ·rw [decide_eq_false hi, fy]
 have h2 : x / 2 ^ k % 2 = 1 := by
  rw [← eN]
  have := c2
  rw [tb] at this
  exact of_decide_eq_true this
 refine ⟨x / 2 ^ k / 2, ?_⟩
 have h3 := Nat.div_add_mod x (2 ^ k)
 have h4 := Nat.div_add_mod (x / 2 ^ k) 2
 rw [hd, gV] at h3
 rw [← h3]
 congr 1
 rw [h3]
 omega
theorem b8F {x : Nat} (h0 : x ≠ 0) (h1 : x < 18446744073709551616) : x &&& (18446744073709551616 - x) = 2 ^ ctz x := by
 obtain ⟨m, hm⟩ := a4V h0 h1
 obtain ⟨c1, _, _⟩ := a2I h0 h1
 generalize ctz x = k at hm c1
 have e64 : (18446744073709551616 : Nat) = 2 ^ k * (2 * 2 ^ (63 - k)) := by
  have : 2 ^ k * (2 * 2 ^ (63 - k)) = 2 ^ 64 := by rw [← Nat.pow_succ', ← Nat.pow_add]; congr 1; omega
  rw [this]
 have hml : m < 2 ^ (63 - k) := by
  rw [e64, hm] at h1
  have := Nat.lt_of_mul_lt_mul_left h1
  omega
 have e2 : 18446744073709551616 - x = 2 ^ k * (2 * (2 ^ (63 - k) - (m + 1)) + 1) := by
  rw [e64, hm, ← Nat.mul_sub]
  congr 1
  omega
 rw [e2, hm]
 refine fV fun i => ?_
 rw [Nat.testBit_and, gf]
 have hs : ∀ y : Nat, (2 ^ k * y).testBit i = (decide (k ≤ i) && y.testBit (i - k)) := fun y => by rw [Nat.mul_comm, Nat.testBit_mul_two_pow]
 rw [hs, hs]
 by_cases hi : k ≤ i
 ·rw [decide_eq_true hi, gO, gO]
  by_cases he : i = k
  ·subst he
   rw [Nat.sub_self, Nat.testBit_zero, Nat.testBit_zero]
   simp
  ·obtain ⟨j, hj⟩ : ∃ j, i - k = j + 1 := ⟨i - k - 1, by omega⟩
   rw [hj, Nat.testBit_succ, Nat.testBit_succ, show (2 * m + 1) / 2 = m by omega, show (2 * (2 ^ (63 - k) - (m + 1)) + 1) / 2 = 2 ^ (63 - k) - (m + 1) by omega, Nat.testBit_two_pow_sub_succ hml, decide_eq_false (by omega : ¬ k = i)]
   cases m.testBit j <;> simp
 ·rw [decide_eq_false hi, fy, decide_eq_false (by omega)]
  rfl
theorem c5a : ((List.range 64).all fun k => decide (2 ^ k * 285870213051353865 % 18446744073709551616 / 288230376151711744 < 64) && decide (t64.getD (2 ^ k * 285870213051353865 % 18446744073709551616 / 288230376151711744) 99 = k)) = true := by kernel_rfl
theorem b6t {P : Program} {t : TypeId} {n : Nat} {elem : TypeId} {size : Nat} (ha : P.underlying t = some (.array n elem)) (hs : iE P elem = some size) (A i : Nat) (k : IntKind) (j : Int) (h0 : 0 ≤ j) (h1 : j < n) :
 xJ (iT P t) P t (.pointer (some ⟨A, i, none⟩)) (.int k j) = some (.pointer (some ⟨A, i + j.toNat * size, none⟩)) := by
 have hn : iT P t = none := by simp [iT, iI, ha]
 rw [hn]
 simp only [xJ, a2E, ha, hs, cX]
 rw [if_pos (by simp [h0, h1])]
theorem c3D (k : IntKind) (j : Int) (h0 : 0 ≤ j) (h1 : j < 64) : xJ (iT prog 241) prog 241 (.pointer (some ⟨0, 0, none⟩)) (.int k j) = some (.pointer (some ⟨0, 0 + j.toNat * 1, none⟩)) :=
 b6t (n := 64) (elem := 5) (size := 1) (by kernel_rfl) (by kernel_rfl) 0 0 k j h0 h1
theorem b2S (g : Nat) (l : List Value) (K : Value → Prop) : jK (.global g) l K = K (.pointer (some ⟨g, 0, none⟩)) := by simp [jK, iP, ev]
theorem gld (hG : Glob gH H) (j : Nat) (hj : j < 64) (s : Option Nat) : oZ (some false) s H (.pointer (some ⟨0, j, none⟩)) = some (.int .u8 (t64.getD j 0 : Nat)) := by
 have h0 : iR H 0 = some (.cells (t64.map fun (n : Nat) => Value.int .u8 (.ofNat n)) 5 false 0 1) := by
  rw [hG.same 0 (by decide)]
  rfl
 simp only [oZ, jD, h0]
 have hl : (t64.map fun (n : Nat) => Value.int .u8 (.ofNat n)).length = 64 := by rw [ek]; rfl
 rw [if_pos (by rw [hl]; simp; omega)]
 simp only [cX]
 rw [dW (by omega), dI, gV, eP, dq (show j < t64.length from hj)]
 rw [dO, dc, dq (show j < t64.length from hj)]
 rfl
theorem a9N (m : Int) : IntKind.wrap .u64 m = m % 18446744073709551616 := by
 show (if (false && decide (m % 18446744073709551616 ≥ 9223372036854775808)) = true then m % 18446744073709551616 - 18446744073709551616 else m % 18446744073709551616) = _
 simp
theorem c5I (hG : Glob gH H) (x : Nat) (h0 : x ≠ 0) (h1 : x < 18446744073709551616) : Fn prog 122 [.int .u64 x] H fun r H' => r = I (ctz x) ∧ St prog H H' [] := by
 obtain ⟨c1, _, _⟩ := a2I h0 h1
 have hd := du.1 c5a (ctz x) (dz.2 c1)
 rw [cW, decide_eq_true_eq, decide_eq_true_eq] at hd
 have eA : IntKind.wrap .u64 (0 - (x : Int)) = ((18446744073709551616 - x : Nat) : Int) := by
  rw [a9N]
  omega
 have eB : IntKind.wrap .u64 ((BitVec.ofInt (IntKind.bits .u64) (x : Int) &&& BitVec.ofInt (IntKind.bits .u64) ((18446744073709551616 - x : Nat) : Int)).toNat : Int) = ((2 ^ ctz x : Nat) : Int) := by
  rw [gK, vD x h1, vD _ (by omega), b8F h0 h1]
  exact mY _ (by omega) (by have := a5v (ctz x) c1; omega)
 have eC : IntKind.wrap .u64 (((2 ^ ctz x : Nat) : Int) * 285870213051353865) = ((2 ^ ctz x * 285870213051353865 % 18446744073709551616 : Nat) : Int) := by
  rw [a9N]
  rfl
 have eD : ((2 ^ ctz x * 285870213051353865 % 18446744073709551616 : Nat) : Int).fdiv (2 ^ min 58 (IntKind.bits .u64)) = ((2 ^ ctz x * 285870213051353865 % 18446744073709551616 / 288230376151711744 : Nat) : Int) := by
  rw [show (2 : Int) ^ min 58 (IntKind.bits .u64) = ((288230376151711744 : Nat) : Int) from rfl]
  exact gC _ (by omega)
 have hd1 := hd.1
 have hd2 := hd.2
 generalize 2 ^ ctz x * 285870213051353865 % 18446744073709551616 / 288230376151711744 = i at eD hd1 hd2
 refine .aQ func122 rfl (by kernel_rfl) (m := 14) rfl fun l hn g0 => ?_
 have iR := gld hG i hd1 (some 1)
 rw [show t64.getD i 0 = ctz x from by rw [← hd2, dc, dc, dq (show i < t64.length from hd1)]; rfl] at iR
 have hidx := c3D .u64 (i : Int) (by omega) (by omega)
 rw [dF, Nat.mul_one, fJ] at hidx
 simp (disch := omega) only [↓RA, RB, simprocAttr, hn, g0]
 refine iA (fun q => ?_) (fun q => ?_)
 ·exfalso; omega
 simp (disch := omega) only [↓RA, RZ, simprocAttr, hn, g0, c4H, eA, eB, eC, eD, b2S, iR, hidx, q]
 first | exact (sR H) | exact ⟨rfl, (sR H)⟩
theorem a5E {x : Nat} (h0 : x ≠ 0) (h1 : x < 18446744073709551616) (j : Nat) : (x &&& (x - 1)).testBit j = (x.testBit j && !decide (j = ctz x)) := by
 obtain ⟨m, hm⟩ := a4V h0 h1
 generalize ctz x = k at hm
 have hp : 0 < 2 ^ k := Nat.two_pow_pos k
 have e1 : x = 2 ^ (k + 1) * m + 2 ^ k := by rw [hm, Nat.pow_succ, Nat.mul_add, Nat.mul_one, Nat.mul_assoc]
 have e2 : x - 1 = 2 ^ (k + 1) * m + (2 ^ k - 1) := by omega
 have hl : 2 ^ k < 2 ^ (k + 1) := Nat.pow_lt_pow_right (by decide) (by omega)
 rw [Nat.testBit_and, e2]
 rw [e1, Nat.testBit_two_pow_mul_add m hl, Nat.testBit_two_pow_mul_add m (by omega : 2 ^ k - 1 < 2 ^ (k + 1))]
 by_cases hj : j < k + 1
 ·rw [if_pos hj, if_pos hj, gf, Nat.testBit_two_pow_sub_one]
  by_cases he : j = k
  ·simp [he]
  ·simp [show ¬ k = j by omega]
 ·rw [if_neg hj, if_neg hj, show decide (j = k) = false from decide_eq_false (by omega)]
  simp
theorem b4h {x : Nat} (h0 : x ≠ 0) (h1 : x < 18446744073709551616) : pD x = ctz x :: pD (x &&& (x - 1)) := by
 obtain ⟨c1, c2, c3⟩ := a2I h0 h1
 have hb := a5E h0 h1
 generalize ctz x = k at c1 c2 c3 hb
 obtain ⟨t, ht⟩ := a8w c1
 have hnd : (List.range 64).Nodup := List.nodup_range
 unfold pD
 rw [ht, eQ, eQ, List.filter_cons_of_pos (by simpa using c2), List.filter_cons_of_neg (by rw [hb]; simp)]
 rw [ht] at hnd
 have e1 : (List.range k).filter (fun i => x.testBit i) = [] := List.filter_eq_nil_iff.2 fun i hi => by simpa using c3 i (dz.1 hi)
 have e2 : (List.range k).filter (fun i => (x &&& (x - 1)).testBit i) = [] := List.filter_eq_nil_iff.2 fun i hi => by rw [hb, c3 i (dz.1 hi)]; simp
 rw [e1, e2, fj, fj]
 congr 1
 refine List.filter_congr fun i hi => ?_
 have hne : i ≠ k := fun e => by
  subst e
  exact (List.nodup_cons.1 (List.nodup_append.1 hnd).2.1).1 hi
 rw [hb, decide_eq_false hne]
 simp
theorem a9b : pD 0 = [] := List.filter_eq_nil_iff.2 fun i _ => by simp
def pZ (x : Nt) : List Int := (pD x.1).map (fun (i : Nat) => (i : Int)) ++ (pD x.2).map fun (i : Nat) => 64 + (i : Int)
def a7Z (x : Nt) (i : Nat) : Nat := if i = 0 then x.1 else x.2
def a5l (x : Nt) (i : Nat) : List Int := (pD (a7Z x i)).map fun (j : Nat) => 64 * (i : Int) + (j : Int)
def a5Z (x : Nt) (i : Nat) : List Int := (List.range i).flatMap (a5l x)
theorem a0u (x : Nt) (i : Nat) : a5Z x (i + 1) = a5Z x i ++ a5l x i := by
 unfold a5Z
 rw [dY, dH, dB, ez, dm]
theorem a6x (x : Nt) : a5Z x 2 = pZ x := by
 rw [a0u, a0u]
 unfold pZ a5Z a5l a7Z
 simp
theorem c0l {x : Nt} (hx : Nt.Ok x) (i : Nat) : a7Z x i < 18446744073709551616 := by
 unfold a7Z
 split
 ·exact hx.1
 ·exact hx.2
theorem c4P (a b : Int) : pK prog 215 (.agg #[.int .u64 a, .int .u64 b]) (I 0) = some (.int .u64 a) := by kernel_rfl
theorem c5L (a b : Int) : pK prog 215 (.agg #[.int .u64 a, .int .u64 b]) (I 1) = some (.int .u64 b) := by kernel_rfl
theorem c7H (x : Nt) (i : Nat) (h : i < 2) : a2n (oH prog 215) prog 215 (.agg #[.int .u64 x.1, .int .u64 x.2]) (I i) = some (.int .u64 (a7Z x i)) := by
 rw [← a8v]
 rcases (by omega : i = 0 ∨ i = 1) with rfl | rfl
 ·exact c4P _ _
 ·exact c5L _ _
theorem c3C (x : Nt) (hx : Nt.Ok x) (A : Nat) (f : Value) (J : List Int → Heap → Prop) (h0 : J [] H) (hg : ∀ d H1, J d H1 → Var H1 A 2 [.int .u64 x.1, .int .u64 x.2] ∧ Glob gH H1)
 (hst : ∀ d H1 H2, J d H1 → St prog H1 H2 [] → J d H2)
 (hf : ∀ d c e H1, pZ x = d ++ c :: e → J d H1 → uC prog f [I c] H1 fun v H2 => v = .bool true ∧ J (d ++ [c]) H2) :
 FnS prog 121 [f, ptr A 0 2] H fun _ H' => J (pZ x) H' := by
 have hV0 := (hg _ _ h0).1
 refine FnS.aX func121 rfl (by kernel_rfl) fun l hl => ?_
 have hn : l.length = 29 := by rw [hl]; rfl
 have g0 : get l 0 = f := by rw [hl]; rfl
 have g1 : get l 1 = (ptr A 0 2) := by rw [hl]; rfl
 clear hl
 simp (disch := omega) only [↓RA, RZ, simprocAttr, hn, g1, hV0.ld, b3O]
 refine Wp.ak (fun n l H' => l.length = 29 ∧ get l 0 = f ∧ get l 1 = ptr A 0 2 ∧ get l 9 = .agg #[.int .u64 x.1, .int .u64 x.2] ∧ ∃ i : Nat, n + i = 2 ∧ get l 10 = I i ∧ J (a5Z x i) H') 2 ?_ ?_
 ·simp (disch := omega) only [RB, RC, simprocAttr, hn, g0, g1]
  exact ⟨0, rfl, rfl, h0⟩
 rintro n l H9 ⟨hn, g0, g1, g9, i, hi, oY, hJ⟩
 simp (disch := omega) only [↓RA, RB, simprocAttr, hn, oY]
 refine iA (fun q1 => ?_) (fun q1 => ?_)
 ·have hix := c7H x i (by omega)
  have hwl := c0l hx i
  simp (disch := omega) only [↓RA, RZ, simprocAttr, hn, g9, oY, q1, hix]
  refine Wp.ak (fun n2 l H' => l.length = 29 ∧ get l 0 = f ∧ get l 1 = ptr A 0 2 ∧ get l 9 = .agg #[.int .u64 x.1, .int .u64 x.2] ∧ get l 10 = I i ∧ get l 3 = I i ∧ ∃ (y : Nat) (d : List Nat), (n2 = (pD y).length ∧ y < 18446744073709551616 ∧ pD (a7Z x i) = d ++ pD y) ∧ get l 4 = .int .u64 y ∧ J (a5Z x i ++ d.map fun (j : Nat) => 64 * (i : Int) + (j : Int)) H') (pD (a7Z x i)).length ?_ ?_
  ·simp (disch := omega) only [RB, RC, simprocAttr, hn, g0, g1, g9, oY]
   exact ⟨a7Z x i, [], ⟨rfl, hwl, rfl⟩, rfl, by rw [gn, dm]; exact hJ⟩
  rintro n2 l H8 ⟨hn, g0, g1, g9, oY, g3, y, d, ⟨hn2, hy, hbd⟩, g4, hJ2⟩
  simp (disch := omega) only [↓RA, RB, simprocAttr, hn, g4]
  refine iA (fun q2 => ?_) (fun q2 => ?_)
  ·have hy0 : y ≠ 0 := by omega
   have hc := a2I hy0 hy
   have hlow := b4h hy0 hy
   have hGl := (hg _ _ hJ2).2
   have eY1 : IntKind.wrap .u64 ((y : Int) - 1) = ((y - 1 : Nat) : Int) := by
    rw [a9N]
    omega
   have eY2 : IntKind.wrap .u64 ((BitVec.ofInt (IntKind.bits .u64) (y : Int) &&& BitVec.ofInt (IntKind.bits .u64) ((y - 1 : Nat) : Int)).toNat : Int) = ((y &&& (y - 1) : Nat) : Int) := by
    rw [gK, vD y hy, vD _ (by omega)]
    have := Nat.and_le_left (n := y) (m := y - 1)
    exact mY _ (by omega) (by omega)
   have hyl : y &&& (y - 1) < 18446744073709551616 := Nat.lt_of_le_of_lt Nat.and_le_left hy
   have hmem : pZ x = (a5Z x i ++ d.map fun (j : Nat) => 64 * (i : Int) + (j : Int)) ++ (64 * (i : Int) + (ctz y : Int)) :: ((pD (y &&& (y - 1))).map (fun (j : Nat) => 64 * (i : Int) + (j : Int)) ++ ((List.range 2).drop (i + 1)).flatMap (a5l x)) := by
    rw [← a6x]
    unfold a5Z
    have e : List.range 2 = List.range i ++ i :: (List.range 2).drop (i + 1) := by
     rcases (by omega : i = 0 ∨ i = 1) with rfl | rfl <;> rfl
    rw [congrArg (List.flatMap (a5l x)) e, dH, dB]
    rw [show a5l x i = (d ++ pD y).map (fun (j : Nat) => 64 * (i : Int) + (j : Int)) from by unfold a5l; rw [hbd]]
    rw [hlow, dS, eE]
    simp only [ed, ik]
   have hc1 := hc.1
   simp (disch := omega) only [↓RA, RZ, simprocAttr, hn, g0, g3, g4, q2]
   refine (sR H8).cF (c5I ((sR H8).gl hGl) y hy0 hy) fun H1 hS1 => ?_
   simp (disch := omega) only [↓RA, RZ, simprocAttr, hn, q2]
   refine a9q (hf _ _ _ _ hmem (hst _ _ _ hJ2 hS1)) ?_
   rintro r H10 ⟨rfl, hJ3⟩
   simp (disch := omega) only [↓RA, RZ, simprocAttr, hn, g0, g1, g9, oY, g3, g4, q2, eY1, eY2]
   refine ⟨(pD (y &&& (y - 1))).length, by rw [hn2, hlow]; simp, y &&& (y - 1), d ++ [ctz y], ⟨rfl, hyl, by rw [hbd, hlow]; simp⟩, rfl, ?_⟩
   rw [dS, eE, gn, ← ed]
   exact hJ3
  simp (disch := omega) only [↓RA, RZ, simprocAttr, hn, g0, g1, g9, oY, q2]
  have hy0 : y = 0 := by omega
  subst hy0
  refine ⟨n - 1, by omega, i + 1, by omega, by simp, ?_⟩
  rw [a0u]
  have : a5l x i = d.map fun (j : Nat) => 64 * (i : Int) + (j : Int) := by
   unfold a5l
   rw [hbd, a9b, dm]
  rw [this]
  exact hJ2
 simp (disch := omega) only [↓RA, RZ, simprocAttr, c6a, q1]
 have e : i = 2 := by omega
 subst e
 rw [← a6x]
 exact hJ
theorem a2N (x : Nt) : (pZ x).length ≤ 128 := by
 unfold pZ
 rw [dp, ek, ek]
 have h1 := a7q x.1 64
 have h2 := a7q x.2 64
 unfold b4U at h1 h2
 unfold pD
 omega
theorem b3t (hG : Glob gH H) (x : Nt) (hx : Nt.Ok x) (A : Nat) (hA : Var H A 2 [.int .u64 x.1, .int .u64 x.2]) :
 Fn prog 120 [.slice none 0 0, .func (.func 121) #[] #[ptr A 0 2]] H fun r H' => St prog H H' [⟨r, 1, (pZ x).flatMap (one I)⟩] := by
 refine .aF func120 rfl (by kernel_rfl) (m := 13) rfl fun l hn g0 g1 => ?_
 simp (disch := omega) only [↓RA, RB, simprocAttr, g0]
 refine (sR H).eNew 1 [(.slice none 0 0)] rfl rfl rfl b3o fun A1 H1 hS1 => ?_
 simp only [RT] at hS1
 simp (disch := omega) only [↓RA, RB, simprocAttr, g1]
 have hS2 := hS1.nil 0
 simp only [RT] at hS2
 refine Wp.cI fun lrg1 hlrg1 => ?_
 have hnrg1 : lrg1.length = 13 := by rw [hlrg1]; simp (disch := omega) only [RB, simprocAttr, hn]
 have g2rg1 : get lrg1 2 = (ptr A1 0 1) := by rw [hlrg1]; simp (disch := omega) only [RB, simprocAttr, hn]
 have g4rg1 : get lrg1 4 = (.slice none 0 0) := by rw [hlrg1]; simp (disch := omega) only [RB, simprocAttr, hn]
 have gfrg1 : get lrg1 6 = .func (.func 121) #[] [(ptr A 0 2)].toArray := by rw [hlrg1]; simp (disch := omega) only [RB, simprocAttr, hn]
 clear hlrg1
 refine Wp.ch gfrg1 fun rg1 hstrg1 hpdrg1 htmrg1 hpsrg1 hasrg1 hbdrg1 => ?_
 have hreqrg1 : ({ rg1 with state := .ready, pending := none } : Loop) = rg1 := by
  cases rg1
  simp only at hstrg1 hpdrg1
  subst hstrg1 hpdrg1
  rfl
 have hLprg1 := Lp.enter hS2 rg1
 generalize H1.cons (.loop rg1) = Hcrg1 at hLprg1 ⊢
 generalize H1.length = Lrg1 at hLprg1 ⊢
 refine (c3C x hx A (.func (.yield Lrg1) #[] #[]) (fun d H1 => ∃ ow, Lp prog H Lrg1 rg1 H1 [⟨ptr A1 0 1, 0, [ow]⟩, ⟨ow, 1, d.flatMap (one I)⟩]) ⟨.slice none 0 0, hLprg1⟩ ?_ ?_ ?_).mono ?_
 ·rintro d H1 ⟨ow, h⟩
  exact ⟨hA.ab h.st.ab, h.st.gl hG⟩
 ·rintro d H1 H2 ⟨ow, h⟩ hS
  exact ⟨ow, by simpa using h.ext hS⟩
 ·rintro d c e H20 hm ⟨ow, hLpj⟩
  have hml := a2N x
  have hdl : d.length < 128 := by
   rw [hm, dp, dT] at hml
   omega
  refine a1h hLpj.get (by rw [hpsrg1]; rfl) hstrg1 ?_
  refine Wp.bP (l := put lrg1 (some 7) (I c)) hasrg1 (by rw [hpsrg1, htmrg1]; first | exact (nD ..).symm | rfl | simp [put, nD]) ?_
  simp (disch := omega) only [↓RA, RZ, simprocAttr, hnrg1]
  refine ⟨rg1, hLpj.get, hstrg1, ?_⟩
  have hYBs1 := hLpj.set (fun h => h) { rg1 with state := .busy }
  have hKBs1 : ∀ B, B ≠ Lrg1 → iR (hset H20 Lrg1 (.loop { rg1 with state := .busy })) B = iR H20 B := fun B h => jA _ (eY h)
  have hNBs1 : (hset H20 Lrg1 (.loop { rg1 with state := .busy })).length = H20.length := jQ ..
  generalize hset H20 Lrg1 (.loop { rg1 with state := .busy }) = HBs1 at hYBs1 hKBs1 hNBs1 ⊢
  refine Wp.bP hbdrg1 rfl ?_
  have hZBs1 := hYBs1.st
  obtain ⟨Bs1, hBBs1, hS3⟩ := hZBs1.aC (os := [⟨ptr A1 0 1, 0, _⟩, ⟨ow, 1, _⟩])
  simp (disch := omega) only [↓RA, RZ, simprocAttr, hnrg1, g2rg1, hS3.ld 0 rfl]
  refine hS3.ai [I c] xC a1B rfl rfl (by simp [Value.cells]) rfl rfl (by decide) (by decide) fun w1 H2 hS4 => ?_
  simp only [RT] at hS4
  simp (disch := omega) only [↓RA, RZ, simprocAttr, hnrg1]
  refine hS4.aq 1 rfl (hS4.rd 2 rfl) xC (by rw [pV, ek]; simp; omega) fun w2 H3 hS5 => ?_
  simp only [RT] at hS5
  simp (disch := omega) only [↓RA, RB, simprocAttr, hnrg1, g2rg1]
  refine hS5.aa 0 rfl [w2] (by rw [(hS5.rd 1 rfl).cells.1]) (by simp [(hS5.rd 1 rfl).cells.2.1]) b3o (by simp) fun H4 hS6 => ?_
  simp only [RT] at hS6
  simp (disch := omega) only [↓RA, simprocAttr]
  have hS7 := hS6.pick (os' := [⟨ptr A1 0 1, 0, _⟩, ⟨w2, 1, _⟩]) [0, 1] (by decide) rfl
  have hWBs1 := (hYBs1.body (hBBs1 ▸ hS7)).set (fun h => h) rg1
  rw [← hreqrg1] at hWBs1
  refine ⟨_, (hYBs1.body (hBBs1 ▸ hS7)).get, rfl, w2, ?_⟩
  rw [dH]
  exact hreqrg1 ▸ hWBs1
 ·rintro _ H21 ⟨ow, hLp2⟩
  refine ⟨_, hLp2.get, (by rw [hstrg1]; exact fun h => by cases h), fun _ => ?_, fun c hc => by rw [hpdrg1] at hc; cases hc⟩
  have hAAf1 := (hLp2.set (fun h => h) { rg1 with state := .exhausted }).st
  have hKAf1 : ∀ B, B ≠ Lrg1 → iR (hset H21 Lrg1 (.loop { rg1 with state := .exhausted })) B = iR H21 B := fun B h => jA _ (eY h)
  generalize hset H21 Lrg1 (.loop { rg1 with state := .exhausted }) = HAf1 at hAAf1 hKAf1 ⊢
  simp (disch := omega) only [↓RA, RZ, simprocAttr, hnrg1, g2rg1, hAAf1.ld 0 rfl, c4N]
  exact hAAf1.pick [1] (by decide) rfl
theorem b1m (hG : Glob gH H) (x : Nt) (hx : Nt.Ok x) (A : Nat) (hA : Var H A 2 [.int .u64 x.1, .int .u64 x.2]) :
 Fn prog 90 [.func (.func 121) #[] #[ptr A 0 2]] H fun r H' => St prog H H' [⟨r, 1, (pZ x).flatMap (one I)⟩] := by
 refine .aQ func90 rfl (by kernel_rfl) (m := 5) rfl fun l hn g0 => ?_
 simp (disch := omega) only [↓RA, RZ, simprocAttr, hn, g0]
 refine iG ((b3t ((sR H).gl hG) x hx A (hA.ab (sR H).ab)).tr) ?_
 rintro r H1 ⟨-, hT1⟩
 have hS1 := (sR H).trans hT1
 simp only [RT] at hS1
 simp (disch := omega) only [↓RA, RB, simprocAttr, hn, c7N]
 exact hS1
theorem c0u (x : Nt) : Fn prog 91 [.agg #[.int .u64 x.1, .int .u64 x.2]] H fun r H' => ∃ A, r = .func (.func 121) #[] #[ptr A 0 2] ∧ St prog H H' [⟨ptr A 0 2, 0, [.int .u64 x.1, .int .u64 x.2]⟩] := by
 refine .aQ func91 rfl (by kernel_rfl) (m := 4) rfl fun l hn g0 => ?_
 simp (disch := omega) only [↓RA, RB, simprocAttr, g0]
 refine (sR H).eNew 2 [(.int .u64 x.1), (.int .u64 x.2)] rfl rfl rfl kK fun A1 H1 hS1 => ?_
 simp only [RT] at hS1
 simp (disch := omega) only [↓RA, RZ, simprocAttr, hn, c7x]
 exact ⟨A1, rfl, hS1⟩
theorem b0n (hG : Glob gH H) (x : Nt) (hx : Nt.Ok x) :
 Fn prog 58 [.agg #[.int .u64 x.1, .int .u64 x.2]] H fun r H' => St prog H H' [⟨r, 1, (pZ x).flatMap (one I)⟩] := by
 refine .aQ func58 rfl (by kernel_rfl) (m := 6) rfl fun l hn g0 => ?_
 simp (disch := omega) only [↓RA, RB, simprocAttr, g0]
 refine (sR H).eNew 2 [(.int .u64 x.1), (.int .u64 x.2)] rfl rfl rfl kK fun A1 H1 hS1 => ?_
 simp only [RT] at hS1
 simp (disch := omega) only [↓RA, RZ, simprocAttr, hn, hS1.ae 0 rfl]
 refine iG (c0u x) ?_
 rintro r H2 ⟨A2, rfl, hT1⟩
 have hS2 := hS1.trans hT1
 simp only [RT] at hS2
 simp (disch := omega) only [↓RA, RZ, simprocAttr, hn]
 refine iG ((b1m (hS2.gl hG) x hx A2 (hS2.var 1 rfl)).tr) ?_
 rintro r H3 ⟨-, hT2⟩
 have hS3 := hS2.trans hT2
 simp only [RT] at hS3
 simp (disch := omega) only [↓RA, RB, simprocAttr, hn, c7o]
 exact hS3.pick [2] (by decide) rfl
def a8K (a b : Nat) : Nat := (BitVec.ofNat 64 a &&& ~~~ BitVec.ofNat 64 b).toNat
theorem a5R (a b : Nat) : a8K a b < 18446744073709551616 := (BitVec.ofNat 64 a &&& ~~~ BitVec.ofNat 64 b).isLt
theorem c1E (a b : Nat) : IntKind.wrap .u64 ((BitVec.ofInt (IntKind.bits .u64) (a : Int) &&& ~~~ BitVec.ofInt (IntKind.bits .u64) (b : Int)).toNat : Int) = ((a8K a b : Nat) : Int) := by
 have e : (BitVec.ofInt (IntKind.bits .u64) (a : Int) &&& ~~~ BitVec.ofInt (IntKind.bits .u64) (b : Int)).toNat = a8K a b := by
  unfold a8K
  rw [fT, fT]
  rfl
 rw [e]
 have := a5R a b
 exact mY _ (by omega) (by omega)
theorem a8r (a b j : Nat) (ha : a < 18446744073709551616) (hj : j < 64) : (a8K a b).testBit j = (a.testBit j && !b.testBit j) := by
 unfold a8K
 have h1 : (BitVec.ofNat 64 a &&& ~~~ BitVec.ofNat 64 b).toNat.testBit j = (BitVec.ofNat 64 a &&& ~~~ BitVec.ofNat 64 b).getLsbD j := rfl
 rw [h1, BitVec.getLsbD_and, BitVec.getLsbD_not, BitVec.getLsbD_ofNat, BitVec.getLsbD_ofNat]
 simp [hj]
def woF (x y : Nt) : Nt := (a8K x.1 y.1, a8K x.2 y.2)
theorem c2H (x y : Nt) : Nt.Ok (woF x y) := ⟨a5R _ _, a5R _ _⟩
theorem c2M (x y : Nt) : Fn prog 92 [.agg #[.int .u64 x.1, .int .u64 x.2], .agg #[.int .u64 y.1, .int .u64 y.2]] H fun r H' => r = .agg #[.int .u64 (woF x y).1, .int .u64 (woF x y).2] ∧ St prog H H' [] := by
 have e1 := c1E x.1 y.1
 have e2 := c1E x.2 y.2
 refine .aF func92 rfl (by kernel_rfl) (m := 16) rfl fun l hn g0 g1 => ?_
 simp (disch := omega) only [↓RA, RB, simprocAttr, g0]
 refine (sR H).eNew 2 [(.int .u64 x.1), (.int .u64 x.2)] rfl rfl rfl kK fun A1 H1 hS1 => ?_
 simp only [RT] at hS1
 simp (disch := omega) only [↓RA, RB, simprocAttr, g1]
 refine hS1.eNew 2 [(.int .u64 y.1), (.int .u64 y.2)] rfl rfl rfl kK fun A2 H2 hS2 => ?_
 simp only [RT] at hS2
 simp (disch := omega) only [↓RA, RZ, simprocAttr]
 refine hS2.eNew 2 [(.int .u64 0), (.int .u64 0)] rfl rfl rfl kK fun A3 H3 hS3 => ?_
 simp only [RT] at hS3
 simp (disch := omega) only [↓RA, RZ, simprocAttr, hn, hS3.ld 0 rfl, hS3.ld 1 rfl, a3V, e1, e2]
 refine hS3.aa 2 rfl [_, _] rfl rfl kK (by simp) fun H4 hS4 => ?_
 simp only [RT] at hS4
 simp (disch := omega) only [↓RA, RZ, simprocAttr, hn, c8i, hS4.ae 2 rfl]
 exact ⟨rfl, hS4.forget⟩
theorem b0i (x y : Nt) : Fn prog 59 [.agg #[.int .u64 x.1, .int .u64 x.2], .agg #[.int .u64 y.1, .int .u64 y.2]] H fun r H' => r = .bool (decide (woF x y = (0, 0))) ∧ St prog H H' [] := by
 refine .aF func59 rfl (by kernel_rfl) (m := 10) rfl fun l hn g0 g1 => ?_
 simp (disch := omega) only [↓RA, RB, simprocAttr, g0]
 refine (sR H).eNew 2 [(.int .u64 x.1), (.int .u64 x.2)] rfl rfl rfl kK fun A1 H1 hS1 => ?_
 simp only [RT] at hS1
 simp (disch := omega) only [↓RA, RB, simprocAttr, g1]
 refine hS1.eNew 2 [(.int .u64 y.1), (.int .u64 y.2)] rfl rfl rfl kK fun A2 H2 hS2 => ?_
 simp only [RT] at hS2
 simp (disch := omega) only [↓RA, RZ, simprocAttr, hn, hS2.ae 0 rfl, hS2.ae 1 rfl]
 refine hS2.cF (c2M x y) fun H3 hS3 => ?_
 simp (disch := omega) only [↓RA, RZ, simprocAttr, hn, b0j, c8g]
 refine ⟨?_, hS3.forget⟩
 congr 1
 rw [decide_eq_decide]
 constructor
 ·rintro ⟨h1, h2⟩
  exact fO (by simpa using h1) (by simpa using h2)
 ·intro h
  rw [h]
  exact ⟨rfl, rfl⟩
def a0R (lo hi : Int) : Nt := iY ((List.range (hi - lo + 1).toNat).map fun (k : Nat) => lo + (k : Int))
theorem b4b (lo hi : Int) (h0 : 0 ≤ lo) (h1 : lo ≤ hi) (h2 : hi ≤ 127) : Fn prog 50 [.agg #[I lo, I hi]] H fun r H' => r = .tuple #[.agg #[.int .u64 (a0R lo hi).1, .int .u64 (a0R lo hi).2], I 0] ∧ St prog H H' [] := by
 have hce : rC lo hi = 0 := by
  unfold rC
  rw [if_neg (by omega), if_neg (by omega)]
 refine .aQ func50 rfl (by kernel_rfl) (m := 25) rfl fun l hn g0 => ?_
 simp (disch := omega) only [↓RA, RB, simprocAttr, g0]
 refine (sR H).eNew 2 [I lo, I hi] rfl rfl rfl zC fun A1 H1 hS1 => ?_
 simp only [RT] at hS1
 simp (disch := omega) only [↓RA, RZ, simprocAttr]
 refine hS1.eNew 2 [(.int .u64 0), (.int .u64 0)] rfl rfl rfl kK fun A2 H2 hS2 => ?_
 simp only [RT] at hS2
 simp (disch := omega) only [↓RA, RZ, simprocAttr]
 refine hS2.eNew 2 [(.int .u64 0), (.int .u64 0)] rfl rfl rfl kK fun A3 H3 hS3 => ?_
 simp only [RT] at hS3
 simp (disch := omega) only [↓RA, RZ, simprocAttr, hn, hS3.ae 0 rfl]
 refine hS3.cF (a1N lo hi) fun H4 hS4 => ?_
 rw [hce]
 simp (disch := omega) only [↓RA, RZ, simprocAttr, hn, hS4.ld 0 rfl]
 refine Wp.ak (fun n l H' => l.length = 25 ∧ get l 1 = (ptr A1 0 2) ∧ get l 2 = (ptr A2 0 2) ∧ get l 3 = I 0 ∧ get l 4 = (ptr A3 0 2) ∧ ∃ (j : Nat), (n + j = (hi - lo + 1).toNat) ∧ get l 6 = I (lo + (j : Int)) ∧ St prog H H' [⟨ptr A1 0 2, 0, [I lo, I hi]⟩, ⟨ptr A2 0 2, 0, [(.int .u64 0), (.int .u64 0)]⟩, ⟨ptr A3 0 2, 0, [.int .u64 (iY ((List.range j).map fun (k : Nat) => lo + (k : Int))).1, .int .u64 (iY ((List.range j).map fun (k : Nat) => lo + (k : Int))).2]⟩]) (hi - lo + 1).toNat ?_ ?_
 ·simp (disch := omega) only [RB, RC, simprocAttr, hn]
  exact ⟨0, by omega, by simp, hS4⟩
 rintro n l H5 ⟨hn, g1, g2, g3, g4, j, hj, g6, hS5⟩
 simp (disch := omega) only [↓RA, RZ, simprocAttr, hn, g1, g6, hS5.ld 0 rfl]
 refine iA (fun q1 => ?_) (fun q1 => ?_)
 ·have hok : Nt.Ok (iY ((List.range j).map fun (k : Nat) => lo + (k : Int))) := sU _ _ (fun z h => by
   obtain ⟨k, hk, rfl⟩ := dA.1 h
   have := dz.1 hk
   exact ⟨by omega, by omega⟩) ⟨by decide, by decide⟩
  have hsu : iY ((List.range (j + 1)).map fun (k : Nat) => lo + (k : Int)) = qZ (iY ((List.range j).map fun (k : Nat) => lo + (k : Int))) (lo + (j : Int)) := by
   unfold iY
   rw [dY, dS, fz]
   rfl
  simp (disch := omega) only [↓RA, RZ, simprocAttr, hn, g4, g6, hS5.ae 2 rfl, q1]
  refine hS5.cF (a7F (iY ((List.range j).map fun (k : Nat) => lo + (k : Int))) hok (lo + (j : Int)) (by omega) (by omega)) fun H6 hS6 => ?_
  simp (disch := omega) only [↓RA, RZ, simprocAttr, hn, g4, q1]
  refine hS6.aa 2 rfl [(.int .u64 (qZ (iY ((List.range j).map fun (k : Nat) => lo + (k : Int))) (lo + (j : Int))).1), (.int .u64 (qZ (iY ((List.range j).map fun (k : Nat) => lo + (k : Int))) (lo + (j : Int))).2)] rfl rfl kK (by simp) fun H7 hS7 => ?_
  simp only [RT] at hS7
  simp (disch := omega) only [↓RA, RZ, simprocAttr, hn, g1, g2, g3, g4, g6, q1]
  refine ⟨n - 1, by omega, j + 1, by omega, by congr 1; omega, ?_⟩
  rw [hsu]
  exact hS7.pick [0, 1, 2] (by decide) rfl
 have hjj : j = (hi - lo + 1).toNat := by omega
 simp (disch := omega) only [↓RA, RZ, simprocAttr, hn, g2, g4, hS5.ae 2 rfl, q1]
 refine hS5.aa 1 rfl [(.int .u64 (iY ((List.range j).map fun (k : Nat) => lo + (k : Int))).1), (.int .u64 (iY ((List.range j).map fun (k : Nat) => lo + (k : Int))).2)] rfl rfl kK (by simp) fun H8 hS8 => ?_
 simp only [RT] at hS8
 simp (disch := omega) only [↓RA, RZ, simprocAttr, hn, g2, c7g, hS8.ae 1 rfl, q1]
 rw [hjj]
 exact ⟨rfl, hS8.forget⟩
structure Ks (H : Heap) (kv : Value) (ks : List Nt) : Prop where
 sl : Sl 2 wH H kv ks
 len : ks.length < 1000000000
 ok : ∀ x ∈ ks, Nt.Ok x
theorem Ks.ab {P : Program} {H' : Heap} {kv : Value} {ks : List Nt} {os : List Ob} (h : Ks H kv ks) (hS : St P H H' os) : Ks H' kv ks := ⟨hS.sl h.sl, h.len, h.ok⟩
def lR (o : Org) (ks : List Nt) : Int := if organE o ≠ 0 then organE o else if ks.length ≠ o.dvs.length then 5 else if ∃ j, j < o.dvs.length ∧ woF (iB ks j) (a0R (iB o.dvs j).lo (iB o.dvs j).hi) ≠ (0, 0) then 23 else 0
theorem a3e (o : Org) (ho : o.In H) (kv : Value) (ks : List Nt) (hk : Ks H kv ks) : Fn prog 34 [.agg #[.string o.name, o.rv, o.dv, o.cv], kv] H fun r H' => r = I (lR o ks) ∧ St prog H H' [] := by
 have hkl := hk.len
 have hdl := ho.2.2.2.2.2.2.1
 refine .aF func34 rfl (by kernel_rfl) (m := 43) rfl fun l hn g0 g1 => ?_
 simp (disch := omega) only [↓RA, RB, simprocAttr, g0]
 refine (sR H).eNew 4 [(.string o.name), o.rv, o.dv, o.cv] rfl rfl (by simp [OC, ((sR H).sl ho.1).cells.2.1, ((sR H).sl ho.2.2.1).cells.2.1, ((sR H).sl ho.2.2.2.2.1).cells.2.1]) lU fun A1 H1 hS1 => ?_
 simp only [RT] at hS1
 simp (disch := omega) only [↓RA, RZ, simprocAttr, hn, hS1.ae 0 rfl]
 refine hS1.cF (yI o (ho.ab hS1)) fun H2 hS2 => ?_
 simp (disch := omega) only [↓RA, RB, simprocAttr, hn]
 refine iA (fun h1 => ?_) (fun h1 => ?_)
 ·simp (disch := omega) only [↓RA, RZ, simprocAttr, hn, c0s, h1]
  exact ⟨by unfold lR; rw [if_pos h1], hS2.forget⟩
 have hz : organE o = 0 := dy.1 h1
 have hf := Org.aI hz
 simp (disch := omega) only [↓RA, RZ, simprocAttr, hn, g1, (hS2.sl hk.sl).len, hS2.ld 0 rfl, (hS2.sl ho.2.2.1).len, h1]
 refine iA (fun h2 => ?_) (fun h2 => ?_)
 ·simp (disch := omega) only [↓RA, RZ, simprocAttr, hn, c0s, h1, h2]
  exact ⟨by unfold lR; rw [if_neg h1, if_pos (by omega)], hS2.forget⟩
 have hlen : ks.length = o.dvs.length := by omega
 simp (disch := omega) only [↓RA, RZ, simprocAttr, hn, hS2.ld 0 rfl, (hS2.sl ho.2.2.1).len, h1, h2]
 refine Wp.ak (fun n l H' => l.length = 43 ∧ get l 1 = kv ∧ get l 22 = o.dv ∧ get l 23 = I o.dvs.length ∧ ∃ (j : Nat), (n + j = o.dvs.length ∧ ∀ q, q < j → woF (iB ks q) (a0R (iB o.dvs q).lo (iB o.dvs q).hi) = (0, 0)) ∧ get l 24 = I j ∧ St prog H H' [⟨ptr A1 0 4, 0, [(.string o.name), o.rv, o.dv, o.cv]⟩]) o.dvs.length ?_ ?_
 ·simp (disch := omega) only [RB, RC, simprocAttr, hn, g1]
  exact ⟨0, ⟨by omega, fun q hq => absurd hq (dN _)⟩, rfl, hS2⟩
 rintro n l H3 ⟨hn, g1, g22, g23, j, ⟨hj,hq⟩, g24, hS3⟩
 simp (disch := omega) only [↓RA, RB, simprocAttr, hn, g23, g24]
 refine iA (fun h3 => ?_) (fun h3 => ?_)
 ·have hky := hf.keys j (by omega)
  simp (disch := omega) only [↓RA, RZ, simprocAttr, hn, g22, g24, (hS3.sl ho.2.2.1).idx, (hS3.sl ho.2.2.1).ae, Dvn.cells, h3]
  refine hS3.eNew 5 [(.string ⟨#[]⟩), (.bool false), I 0, I 0, (.slice none 0 0)] rfl rfl rfl yQ fun A2 H4 hS4 => ?_
  simp only [RT] at hS4
  simp (disch := omega) only [↓RA, RZ, simprocAttr, hn, h3]
  refine hS4.aa 1 rfl [(.string (iB o.dvs j).name), (.bool (iB o.dvs j).pedal), I (iB o.dvs j).lo, I (iB o.dvs j).hi, (iB o.dvs j).sv] rfl (by simp [OC, (hS4.sl (ho.2.2.2.1 (iB o.dvs j) (iD (by omega))).1).cells.2.1]) yQ (by simp) fun H5 hS5 => ?_
  simp only [RT] at hS5
  simp (disch := omega) only [↓RA, RZ, simprocAttr, hn, hS5.ae 1 rfl, h3]
  refine hS5.cF (b4b (iB o.dvs j).lo (iB o.dvs j).hi hky.1 hky.2.1 hky.2.2) fun H6 hS6 => ?_
  simp (disch := omega) only [↓RA, RZ, simprocAttr, hn, h3]
  refine hS6.eNew 2 [(.int .u64 0), (.int .u64 0)] rfl rfl rfl kK fun A3 H7 hS7 => ?_
  simp only [RT] at hS7
  simp (disch := omega) only [↓RA, RZ, simprocAttr, hn, h3]
  refine hS7.aa 2 rfl [(.int .u64 (a0R (iB o.dvs j).lo (iB o.dvs j).hi).1), (.int .u64 (a0R (iB o.dvs j).lo (iB o.dvs j).hi).2)] rfl rfl kK (by simp) fun H8 hS8 => ?_
  simp only [RT] at hS8
  simp (disch := omega) only [↓RA, RZ, simprocAttr, hn, h3]
  refine Wp.drw jY (by kernel_rfl) ?_
  simp (disch := omega) only [↓RA, RZ, simprocAttr, hn, g1, (hS8.sl hk.sl).idx, (hS8.sl hk.sl).ae, wH, hS8.ae 2 rfl]
  refine hS8.cF (b0i (iB ks j) (a0R (iB o.dvs j).lo (iB o.dvs j).hi)) fun H9 hS9 => ?_
  simp (disch := omega) only [↓RA, RB, simprocAttr, hn]
  refine jL (fun h4 => ?_) (fun h4 => ?_)
  ·have h5 : ¬ woF (iB ks j) (a0R (iB o.dvs j).lo (iB o.dvs j).hi) = (0, 0) := by simpa using h4
   simp (disch := omega) only [↓RA, RB, simprocAttr, hn, c0s, h4]
   exact ⟨by unfold lR; rw [if_neg h1, if_neg (by omega), if_pos ⟨j, by omega, h5⟩], hS9.forget⟩
  have h5 : woF (iB ks j) (a0R (iB o.dvs j).lo (iB o.dvs j).hi) = (0, 0) := by simpa using h4
  simp (disch := omega) only [↓RA, RZ, simprocAttr, hn, g1, g22, g23, g24, h4]
  exact ⟨n - 1, by omega, j + 1, ⟨by omega, fun q hq' => by rcases dr.1 hq' with e | e; (· exact hq q e); (· rw [e]; exact h5)⟩, by simp, hS9.pick [0] (by decide) rfl⟩
 simp (disch := omega) only [↓RA, RZ, simprocAttr, hn, c0s, h3]
 refine ⟨?_, hS3.forget⟩
 unfold lR
 rw [if_neg h1, if_neg (by omega), if_neg]
 rintro ⟨q, hq1, hq2⟩
 exact hq2 (hq q (by omega))
def plD (ks : List Nt) (i : Nat) : List Ct := (pZ (iB ks i)).map fun z => ((i : Int), z)
def iF (ks : List Nt) : List Ct := (List.range ks.length).flatMap (plD ks)
theorem c2f (ks : List Nt) (i : Nat) : (plD ks i).length ≤ 128 := by
 unfold plD
 rw [ek]
 exact a2N _
theorem a8n (ks : List Nt) : ∀ i, ((List.range i).flatMap (plD ks)).length ≤ i * 128
 | 0 => by simp
 | i + 1 => by
   have := a8n ks i
   have := c2f ks i
   rw [dY, dH, dp, dB, ez, dm]
   omega
theorem a4b (hG : Glob gH H) (kv : Value) (ks : List Nt) (hk : Ks H kv ks) (h8 : ks.length ≤ 8) : Fn prog 74 [kv] H fun r H' => St prog H H' [⟨r, 2, pr (iF ks)⟩] := by
 refine .aQ func74 rfl (by kernel_rfl) (m := 31) rfl fun l hn g0 => ?_
 simp (disch := omega) only [↓RA, RZ, simprocAttr, hn, g0, ((sR H).sl hk.sl).len]
 have hS1 := (sR H).nil 1
 simp only [RT] at hS1
 refine Wp.ak (fun n l H' => l.length = 31 ∧ get l 2 = (.slice none 0 0) ∧ get l 8 = kv ∧ get l 9 = I ks.length ∧ ∃ (i : Nat) (ov : Value), (n + i = ks.length) ∧ get l 10 = I i ∧ get l 3 = ov ∧ St prog H H' [⟨ov, 2, pr ((List.range i).flatMap (plD ks))⟩]) ks.length ?_ ?_
 ·simp (disch := omega) only [RB, RC, simprocAttr, hn]
  exact ⟨0, .slice none 0 0, by omega, rfl, rfl, hS1⟩
 rintro n l H1 ⟨hn, g2, g8, g9, i, ov, hi, oY, g3, hS2⟩
 simp (disch := omega) only [↓RA, RB, simprocAttr, hn, g9, oY]
 refine iA (fun q1 => ?_) (fun q1 => ?_)
 ·have hmo := hk.ok _ (iD (xs := ks) (j := i) (by omega))
  have hml := a2N (iB ks i)
  have hpl := a8n ks i
  simp (disch := omega) only [↓RA, RZ, simprocAttr, hn, g8, oY, (hS2.sl hk.sl).idx, (hS2.sl hk.sl).ae, wH, q1]
  refine hS2.eNew 2 [(.int .u64 0), (.int .u64 0)] rfl rfl rfl kK fun A1 H2 hS3 => ?_
  simp only [RT] at hS3
  simp (disch := omega) only [↓RA, RZ, simprocAttr, hn, q1]
  refine hS3.aa 1 rfl [(.int .u64 (iB ks i).1), (.int .u64 (iB ks i).2)] rfl rfl kK (by simp) fun H3 hS4 => ?_
  simp only [RT] at hS4
  simp (disch := omega) only [↓RA, RZ, simprocAttr, hn, hS4.ae 1 rfl, q1]
  refine iG ((b0n (hS4.gl hG) (iB ks i) hmo).tr) ?_
  rintro r H4 ⟨-, hT1⟩
  have hS5 := hS4.trans hT1
  simp only [RT] at hS5
  obtain ⟨mw, rfl⟩ : ∃ w, w = r := ⟨r, rfl⟩
  simp (disch := omega) only [↓RA, RZ, simprocAttr, hn, (hS5.aw 2 rfl (fun _ => rfl)).len, q1]
  refine Wp.ak (fun n l H' => l.length = 31 ∧ get l 2 = (.slice none 0 0) ∧ get l 4 = I i ∧ get l 8 = kv ∧ get l 9 = I ks.length ∧ get l 10 = I i ∧ get l 16 = mw ∧ get l 17 = I (pZ (iB ks i)).length ∧ ∃ (j : Nat) (ow : Value), (n + j = (pZ (iB ks i)).length) ∧ get l 18 = I j ∧ get l 3 = ow ∧ St prog H H' [⟨ow, 2, pr ((List.range i).flatMap (plD ks) ++ ((pZ (iB ks i)).take j).map fun z => ((i : Int), z))⟩, ⟨ptr A1 0 2, 0, [(.int .u64 (iB ks i).1), (.int .u64 (iB ks i).2)]⟩, ⟨mw, 1, (pZ (iB ks i)).flatMap (one I)⟩]) (pZ (iB ks i)).length ?_ ?_
  ·simp (disch := omega) only [RB, RC, simprocAttr, hn, g2, g8, g9, oY, g3]
   refine ⟨0, ov, by omega, rfl, rfl, ?_⟩
   rw [List.take_zero, gn, dm]
   exact hS5
  rintro n l H5 ⟨hn, g2, g4, g8, g9, oY, g16, g17, j, ow, hj, g18, g3, hS6⟩
  simp (disch := omega) only [↓RA, RB, simprocAttr, hn, g17, g18]
  refine iA (fun q2 => ?_) (fun q2 => ?_)
  ·have hroom : (pr ((List.range i).flatMap (plD ks) ++ ((pZ (iB ks i)).take j).map fun z => ((i : Int), z))).length ≤ 4000 := by
    rw [iJ, dp, ek, gk]
    omega
   simp (disch := omega) only [↓RA, RZ, simprocAttr, hn, g4, g16, g18, g3, (hS6.aw 2 rfl (fun _ => rfl)).idx, (hS6.aw 2 rfl (fun _ => rfl)).ld, one, qX, q2]
   refine hS6.ai [I i, I (iB (pZ (iB ks i)) j)] qK a2Q rfl rfl (by simp [Value.cells]) rfl rfl (by decide) (by decide) fun w1 H6 hS7 => ?_
   simp only [RT] at hS7
   simp (disch := omega) only [↓RA, RZ, simprocAttr, hn, q2]
   refine hS7.aq 0 rfl (hS7.rd 3 rfl) qK (by have h := hroom; simp only [dT, ew]; omega) fun w2 H7 hS8 => ?_
   simp only [RT] at hS8
   simp (disch := omega) only [↓RA, RZ, simprocAttr, hn, g2, g4, g8, g9, oY, g16, g17, g18, q2]
   refine ⟨n - 1, by omega, j + 1, w2, by omega, by simp, rfl, ?_⟩
   rw [List.take_add_one, dq (by omega), Option.toList_some, dS, ← ed, jJ]
   rw [show (pZ (iB ks i))[j] = iB (pZ (iB ks i)) j from (jO _ _ (by omega)).symm]
   exact hS8.pick [0, 1, 2] (by decide) rfl
  simp (disch := omega) only [↓RA, RZ, simprocAttr, hn, g2, g8, g9, oY, g3, q2]
  have hjj : j = (pZ (iB ks i)).length := by omega
  refine ⟨ks.length - (i + 1), by omega, i + 1, ow, by omega, by simp, rfl, ?_⟩
  rw [dY, dH, dB, ez, dm]
  rw [show plD ks i = ((pZ (iB ks i)).take j).map (fun z => ((i : Int), z)) from by rw [hjj, dU]; rfl]
  exact hS6.pick [0] (by decide) rfl
 have hii : i = ks.length := by omega
 simp (disch := omega) only [↓RA, RZ, simprocAttr, hn, g3, c8j, q1]
 have hfin := hS2
 rw [hii] at hfin
 exact hfin
end Go.Ds
namespace Go.Ds
open Go.Proofs
set_option maxRecDepth 10000
def mM (x : Nt) (z : Int) : Bool := if z < 64 then x.1.testBit z.toNat else x.2.testBit (z - 64).toNat
theorem sN {x i : Nat} : i ∈ pD x ↔ i < 64 ∧ x.testBit i = true := by
 unfold pD
 rw [ef, dz]
theorem vC {x : Nt} {z : Int} : z ∈ pZ x ↔ isN z ∧ mM x z = true := by
 unfold pZ mM isN
 rw [dD, dA, dA]
 constructor
 ·rintro (⟨i, hi, rfl⟩ | ⟨i, hi, rfl⟩)
  ·obtain ⟨h1, h2⟩ := sN.1 hi
   exact ⟨by omega, by rw [if_pos (by omega)]; exact h2⟩
  ·obtain ⟨h1, h2⟩ := sN.1 hi
   refine ⟨by omega, ?_⟩
   rw [if_neg (by omega), show (64 + (i : Int) - 64).toNat = i by omega]
   exact h2
 ·rintro ⟨h1, h2⟩
  by_cases h : z < 64
  ·rw [if_pos h] at h2
   exact .inl ⟨z.toNat, sN.2 ⟨by omega, h2⟩, by omega⟩
  ·rw [if_neg h] at h2
   exact .inr ⟨(z - 64).toNat, sN.2 ⟨by omega, h2⟩, by omega⟩
theorem b7k (x : Nt) (n z : Int) (hn : isN n) (hz : isN z) : mM (qZ x n) z = (mM x z || decide (z = n)) := by
 unfold mM qZ isN at *
 by_cases h1 : n < 64
 ·rw [if_pos h1]
  by_cases h2 : z < 64
  ·rw [if_pos h2, if_pos h2, gX, gf]
   congr 1
   rw [decide_eq_decide]
   omega
  ·rw [if_neg h2, if_neg h2, decide_eq_false (by omega), Bool.or_false]
 ·rw [if_neg h1]
  by_cases h2 : z < 64
  ·rw [if_pos h2, if_pos h2, decide_eq_false (by omega), Bool.or_false]
  ·rw [if_neg h2, if_neg h2, gX, gf]
   congr 1
   rw [decide_eq_decide]
   omega
theorem a0e (z : Int) : mM (0, 0) z = false := by
 unfold mM
 split <;> simp
theorem a4v : ∀ (xs : List Int) (x : Nt) (z : Int), (∀ n ∈ xs, isN n) → isN z → mM (xs.foldl qZ x) z = (mM x z || decide (z ∈ xs))
 | [], x, z, _, _ => by simp
 | n :: xs, x, z, h, hz => by
   rw [eO, a4v xs _ z (fun y hy => h y (dR _ hy)) hz, b7k x n z (h n (dJ ..)) hz, Bool.or_assoc]
   congr 1
   rw [eG]
   simp
theorem xG {xs : List Int} {z : Int} (h : ∀ n ∈ xs, isN n) (hz : isN z) : mM (iY xs) z = decide (z ∈ xs) := by
 unfold iY
 rw [a4v xs _ z h hz, a0e, Bool.false_or]
theorem zU {lo hi z : Int} (h0 : 0 ≤ lo) (h2 : hi ≤ 127) (hz : isN z) : mM (a0R lo hi) z = (decide (lo ≤ z) && decide (z ≤ hi)) := by
 unfold a0R
 rw [xG (fun n hn => by
  obtain ⟨k, hk, rfl⟩ := dA.1 hn
  have := dz.1 hk
  exact ⟨by omega, by omega⟩) hz, eG, cW, decide_eq_true_eq, decide_eq_true_eq, decide_eq_true_eq, dA]
 constructor
 ·rintro ⟨k, hk, rfl⟩
  have := dz.1 hk
  omega
 ·rintro ⟨h3, h4⟩
  exact ⟨(z - lo).toNat, dz.2 (by omega), by omega⟩
theorem b2u {x y : Nt} (hx : Nt.Ok x) {z : Int} (hz : isN z) : mM (woF x y) z = (mM x z && !mM y z) := by
 obtain ⟨h1, h2⟩ := hz
 unfold mM woF
 by_cases h : z < 64
 ·rw [if_pos h, if_pos h, if_pos h, a8r _ _ _ hx.1 (by omega)]
 ·rw [if_neg h, if_neg h, if_neg h, a8r _ _ _ hx.2 (by omega)]
theorem a3t {x y : Nt} (hx : Nt.Ok x) (h : woF x y = (0, 0)) {z : Int} (hz : isN z) (hh : mM x z = true) : mM y z = true := by
 have := b2u (y := y) hx hz
 rw [h, a0e, hh] at this
 simpa using this.symm
theorem mI {o : Org} {ks : List Nt} (h : lR o ks = 0) : organE o = 0 ∧ ks.length = o.dvs.length ∧ ∀ j, j < o.dvs.length → woF (iB ks j) (a0R (iB o.dvs j).lo (iB o.dvs j).hi) = (0, 0) := by
 unfold lR at h
 split at h
 ·rename_i hh; exact absurd h hh
 rename_i h1
 split at h
 ·omega
 rename_i h2
 split at h
 ·omega
 rename_i h3
 refine ⟨dy.1 h1, by omega, fun j hj => ?_⟩
 by_cases hh : woF (iB ks j) (a0R (iB o.dvs j).lo (iB o.dvs j).hi) = (0, 0)
 ·exact hh
 ·exact absurd ⟨j, hj, hh⟩ h3
theorem nH {o : Org} {ks : List Nt} (hok : ∀ x ∈ ks, Nt.Ok x) (h : lR o ks = 0) : ∀ c ∈ iF ks, lA o c = true := by
 obtain ⟨h1, h2, h3⟩ := mI h
 have hf := Org.aI h1
 intro c hc
 unfold iF at hc
 obtain ⟨i, hi, hc⟩ := dP.1 hc
 have hi := dz.1 hi
 unfold plD at hc
 obtain ⟨z, hz, rfl⟩ := dA.1 hc
 obtain ⟨hz1, hz2⟩ := vC.1 hz
 have hky := hf.keys i (by omega)
 have hw := a3t (hok _ (iD hi)) (h3 i (by omega)) hz1 hz2
 rw [zU hky.1 hky.2.2 hz1] at hw
 simp only [cW, decide_eq_true_eq] at hw
 unfold lA
 simp only [cW, decide_eq_true_eq, dF]
 omega
theorem pN {o : Org} {ks : List Nt} (h : lR o ks = 0) : (iF ks).length ≤ 1024 := by
 obtain ⟨h1, h2, _⟩ := mI h
 have h8 := (Org.aI h1).dlen
 have := a8n ks ks.length
 unfold iF
 omega
structure SegsOk (m : Nat) (lo hi : Int) (gs : List Seg) : Prop where
 ord : ∀ i, i < gs.length → (iB gs i).lo ≤ (iB gs i).hi
 up : ∀ i, i < gs.length → 0 < i → (iB gs (i - 1)).hi < (iB gs i).lo
 within : ∀ i, i < gs.length → lo ≤ (iB gs i).lo ∧ (iB gs i).hi ≤ hi
 draws : ∀ i, i < gs.length → kZ m (iB gs i).draws = 0
 len : gs.length ≤ 12
theorem a0H {o : Org} (h : organE o = 0) {j : Nat} (hj : j < o.dvs.length) {s : Stp} (hs : s ∈ (iB o.dvs j).stops) : SegsOk o.ranks.length (iB o.dvs j).lo (iB o.dvs j).hi s.segs := by
 unfold organE at h
 split at h
 ·omega
 split at h
 ·omega
 split at h
 ·rename_i hh; exact absurd h hh
 split at h
 ·omega
 split at h
 ·omega
 split at h
 ·rename_i hh; exact absurd h hh
 rename_i h6
 have h6 := dy.1 h6
 have e := pP h6 j hj
 unfold tS at e
 split at e
 ·omega
 split at e
 ·omega
 unfold divE at e
 split at e
 ·rename_i hh; exact absurd e hh
 split at e
 ·omega
 obtain ⟨k, hk, rfl⟩ := dL.1 hs
 have e2 := pP e k hk
 unfold oQ at e2
 rw [jO _ k hk] at e2
 split at e2
 ·rename_i hh; exact absurd e2 hh
 rename_i e3
 have e3 := dy.1 e3
 unfold stopE at e3
 split at e3
 ·rename_i hh; exact absurd e3 hh
 split at e3
 ·omega
 split at e3
 ·rename_i hh; exact absurd e3 hh
 split at e3
 ·omega
 split at e3
 ·omega
 have key : ∀ i, i < ((iB o.dvs j).stops[k]).segs.length → (iB ((iB o.dvs j).stops[k]).segs i).lo ≤ (iB ((iB o.dvs j).stops[k]).segs i).hi ∧ (0 < i → (iB ((iB o.dvs j).stops[k]).segs (i - 1)).hi < (iB ((iB o.dvs j).stops[k]).segs i).lo) ∧ ((iB o.dvs j).lo ≤ (iB ((iB o.dvs j).stops[k]).segs i).lo ∧ (iB ((iB o.dvs j).stops[k]).segs i).hi ≤ (iB o.dvs j).hi) ∧ kZ o.ranks.length (iB ((iB o.dvs j).stops[k]).segs i).draws = 0 := by
  intro i hi
  have e4 := pP e3 i hi
  unfold lB at e4
  split at e4
  ·omega
  split at e4
  ·omega
  exact ⟨by omega, fun h0 => by omega, ⟨by omega, by omega⟩, e4⟩
 exact ⟨fun i hi => (key i hi).1, fun i hi => (key i hi).2.1, fun i hi => (key i hi).2.2.1, fun i hi => (key i hi).2.2.2, by omega⟩
theorem SegsOk.lt {m : Nat} {lo hi : Int} {gs : List Seg} (h : SegsOk m lo hi gs) {i : Nat} : ∀ k, i + 1 + k < gs.length → (iB gs i).hi < (iB gs (i + 1 + k)).lo
 | 0, hk => h.up (i + 1) hk (by omega)
 | k + 1, hk => by
   have h1 := h.lt (i := i) k (by omega)
   have h2 := h.ord (i + 1 + k) (by omega)
   have h3 := h.up (i + 1 + (k + 1)) hk (by omega)
   rw [show i + 1 + (k + 1) - 1 = i + 1 + k by omega] at h3
   omega
theorem SegsOk.one {m : Nat} {lo hi : Int} {gs : List Seg} (h : SegsOk m lo hi gs) {key : Int} {i j : Nat} (hi' : i < gs.length) (hj : j < gs.length) (h1 : (iB gs i).lo ≤ key ∧ key ≤ (iB gs i).hi) (h2 : (iB gs j).lo ≤ key ∧ key ≤ (iB gs j).hi) : i = j := by
 rcases Nat.lt_trichotomy i j with e | e | e
 ·have := h.lt (i := i) (j - i - 1) (by omega)
  rw [show i + 1 + (j - i - 1) = j by omega] at this
  omega
 ·exact e
 ·have := h.lt (i := j) (i - j - 1) (by omega)
  rw [show j + 1 + (i - j - 1) = i by omega] at this
  omega
theorem a7t {m : Nat} {lo hi : Int} {s : Stp} (h : SegsOk m lo hi s.segs) {key : Int} {d : Drw} : d ∈ a6n s key ↔ ∃ i, i < s.segs.length ∧ vX s key i = true ∧ d ∈ (iB s.segs i).draws := by
 unfold a6n
 by_cases hf : pO (vX s key) s.segs.length < 0
 ·rw [if_pos hf]
  constructor
  ·intro hd; exact absurd hd ec
  ·rintro ⟨i, hi', hp, _⟩
   have := (yO (vX s key) s.segs.length).2 ⟨i, hi', hp⟩
   omega
 ·rw [if_neg hf]
  obtain ⟨k, hk⟩ : ∃ k : Nat, pO (vX s key) s.segs.length = k := ⟨(pO (vX s key) s.segs.length).toNat, by omega⟩
  have hkl := a1L hk
  have hkp : vX s key k = true := by
   unfold pO at hk
   cases e : (List.range s.segs.length).find? (vX s key) with
   | none => rw [e] at hk; simp only at hk; omega
   | some j =>
     rw [e] at hk
     have hk : (j : Int) = k := hk
     have := List.find?_some e
     rw [show k = j by omega]
     exact this
  rw [hk, dF]
  constructor
  ·intro hd; exact ⟨k, hkl, hkp, hd⟩
  ·rintro ⟨i, hi', hp, hd⟩
   unfold vX at hp hkp
   rw [cW, decide_eq_true_eq, decide_eq_true_eq] at hp hkp
   rw [h.one hkl hi' hkp hp]
   exact hd
def rR (o : Org) (g : Seg) (key : Int) : List Ct := if g.lo ≤ key ∧ key ≤ g.hi then (g.draws.filter fun d => rG o.ranks d key).map fun d => mQ o.ranks d key else []
def vK (o : Org) (r : Reg) (c : Ct) (i : Nat) : List Ct := if (iB r.stops c.1.toNat).testBit i then (iB (iB o.dvs c.1.toNat).stops i).segs.flatMap fun g => rR o g c.2 else []
def pX (o : Org) (r : Reg) (c : Ct) : List Ct := (List.range (iB o.dvs c.1.toNat).stops.length).flatMap (vK o r c)
theorem wI {o : Org} (h : organE o = 0) {r : Reg} {c : Ct} (hc : lA o c = true) {p : Ct} : p ∈ pX o r c ↔ p ∈ mU o r c := by
 have hc' := (kM o c).1 hc
 unfold pX mU
 rw [dP, dP]
 refine exists_congr fun i => and_congr_right fun hi => ?_
 have hi := dz.1 hi
 unfold vK
 split
 ·have hso := a0H h (j := c.1.toNat) (by omega) (iD hi)
  unfold qF
  rw [pS, dA, dP]
  constructor
  ·rintro ⟨g, hg, hp⟩
   unfold rR at hp
   split at hp
   ·rename_i hk
    obtain ⟨d, hd, rfl⟩ := dA.1 hp
    obtain ⟨hd1, hd2⟩ := ef.1 hd
    obtain ⟨k, hk', rfl⟩ := dL.1 hg
    refine ⟨d, ef.2 ⟨(a7t hso).2 ⟨k, hk', ?_, by rw [jO _ k hk']; exact hd1⟩, hd2⟩, rfl⟩
    unfold vX
    rw [jO _ k hk', decide_eq_true hk.1, decide_eq_true hk.2]
    rfl
   ·exact absurd hp ec
  ·rintro ⟨d, hd, rfl⟩
   obtain ⟨hd1, hd2⟩ := ef.1 hd
   obtain ⟨k, hk, hp, hd1⟩ := (a7t hso).1 hd1
   refine ⟨iB _ k, iD hk, ?_⟩
   unfold rR
   unfold vX at hp
   rw [cW, decide_eq_true_eq, decide_eq_true_eq] at hp
   rw [if_pos hp]
   exact dA.2 ⟨d, ef.2 ⟨hd1, hd2⟩, rfl⟩
 ·exact Iff.rfl
theorem b8T {o : Org} (h : organE o = 0) {r : Reg} {c : Ct} (hc : lA o c = true) : dd (pG (pX o r c)) = dd (pG (mU o r c)) := b2l fun _ => wI h hc
theorem b5g {o : Org} (h : organE o = 0) {r : Reg} {l : List Ct} (hl : ∀ c ∈ l, lA o c = true) : dd (pG (l.flatMap fun c => dd (pG (pX o r c)))) = vJ o r l := by
 unfold vJ
 refine b2l fun p => ?_
 rw [dP, dP]
 refine exists_congr fun c => and_congr_right fun hc => ?_
 rw [pS, wI h (hl c hc)]
def sF (r : Reg) (q : List Ct) (c : Ct) : List Ct := if !r.off.testBit c.1.toNat && !decide (c ∈ q) then q ++ [c] else q
def b8n (o : Org) (r : Reg) (l : List Ct) : List Ct := pG (l.foldl (sF r) (bfs o r.cpl 1100 0 (kI o r.cpl l)))
theorem a2v {r : Reg} : ∀ {l q : List Ct} {x : Ct}, x ∈ l.foldl (sF r) q ↔ x ∈ q ∨ (x ∈ l ∧ r.off.testBit x.1.toNat = false)
 | [], q, x => by simp
 | c :: l, q, x => by
   rw [eO, a2v]
   unfold sF
   by_cases h1 : r.off.testBit c.1.toNat = false
   ·by_cases h2 : c ∈ q
    ·rw [if_neg (by simp [h2])]
     constructor
     ·rintro (h | ⟨h, k⟩)
      ·exact .inl h
      ·exact .inr ⟨dR _ h, k⟩
     ·rintro (h | ⟨h, k⟩)
      ·exact .inl h
      ·rcases dV.1 h with e | e
       ·exact .inl (by rw [e]; exact h2)
       ·exact .inr ⟨e, k⟩
    ·rw [if_pos (by simp [h1, h2])]
     constructor
     ·rintro (h | ⟨h, k⟩)
      ·rcases dD.1 h with h | h
       ·exact .inl h
       ·have := dx.1 h
        subst this
        exact .inr ⟨dJ .., h1⟩
      ·exact .inr ⟨dR _ h, k⟩
     ·rintro (h | ⟨h, k⟩)
      ·exact .inl (dD.2 (.inl h))
      ·rcases dV.1 h with e | e
       ·exact .inl (dD.2 (.inr (by rw [e]; simp)))
       ·exact .inr ⟨e, k⟩
   ·rw [if_neg (by simp [h1])]
    constructor
    ·rintro (h | ⟨h, k⟩)
     ·exact .inl h
     ·exact .inr ⟨dR _ h, k⟩
    ·rintro (h | ⟨h, k⟩)
     ·exact .inl h
     ·rcases dV.1 h with e | e
      ·subst e; exact absurd k h1
      ·exact .inr ⟨e, k⟩
theorem xV {r : Reg} : ∀ {l q : List Ct}, q.Nodup → (l.foldl (sF r) q).Nodup
 | [], _, h => h
 | c :: l, q, h => by
   rw [eO]
   refine xV ?_
   unfold sF
   split
   ·rename_i hh
    simp only [cW, dG, decide_eq_false_iff_not] at hh
    rw [List.nodup_append]
    exact ⟨h, by simp, fun a ha b hb e => hh.2 (by simp at hb; rw [← hb, ← e]; exact ha)⟩
   ·exact h
theorem c2D {l : List Ct} (h : l.Nodup) : (pG l).Pairwise uP := by
 have h1 : (pG l).Nodup := (mT l).nodup_iff.2 h
 refine List.Pairwise.imp₂ ?_ (tW l) h1
 intro a b h2 h3
 rw [nU] at h2
 unfold uP
 by_cases e : a.1 = b.1
 ·by_cases e2 : a.2 = b.2
  ·exact absurd (fO e e2) h3
  ·omega
 ·omega
theorem a6j {o : Org} (cp : Nat) : ∀ (n i : Nat) (q : List Ct), Que o q → Que o (bfs o cp n i q)
 | 0, _, _, h => h
 | n + 1, i, q, h => by
   rw [bfs]
   split
   ·exact a6j cp n (i + 1) _ (h.stepF cp true _)
   ·exact h
theorem b6L (o : Org) (r : Reg) (l : List Ct) : b8n o r l = jZ o r l := by
 unfold b8n jZ
 refine pJ _ _ (c2D (xV (a6j r.cpl 1100 0 _ (xS o r.cpl l)).1)) (a5r _) fun x => ?_
 rw [pS, (mT _).mem_iff, a2v, dD, ef]
 constructor
 ·rintro (h | ⟨h, k⟩)
  ·exact .inr h
  ·exact .inl ⟨h, by simpa using k⟩
 ·rintro (⟨h, k⟩ | h)
  ·exact .inr ⟨h, by simpa using k⟩
  ·exact .inl h
def a2g (o : Org) (ks : List Nt) (i : Nat) : List Ct := ((List.range ((iB o.dvs i).hi - (iB o.dvs i).lo + 1).toNat).filter fun (j : Nat) => mM (iB ks i) ((iB o.dvs i).lo + (j : Int))).map fun (j : Nat) => ((i : Int), (iB o.dvs i).lo + (j : Int))
def b0J (o : Org) (ks : List Nt) : List Ct := (List.range o.dvs.length).flatMap (a2g o ks)
theorem xY {f : Nat → List Ct} (h1 : ∀ i, (f i).Pairwise uP) (h2 : ∀ i, ∀ c ∈ f i, c.1 = (i : Int)) : ∀ n, ((List.range n).flatMap f).Pairwise uP
 | 0 => .nil
 | n + 1 => by
   rw [dY, dH, dB, ez, dm, fc]
   refine ⟨xY h1 h2 n, h1 n, fun a ha b hb => ?_⟩
   obtain ⟨i, hi, ha⟩ := dP.1 ha
   have hi := dz.1 hi
   unfold uP
   rw [h2 i a ha, h2 n b hb]
   omega
theorem b9Z (o : Org) (ks : List Nt) (i : Nat) : (a2g o ks i).Pairwise uP := by
 unfold a2g
 rw [gB]
 refine List.Pairwise.imp ?_ (List.Pairwise.filter _ List.pairwise_lt_range)
 intro a b h
 unfold uP
 omega
theorem a7T (x : Nt) : (pZ x).Pairwise (· < ·) := by
 unfold pZ
 rw [fc, gB, gB]
 have h : ∀ n, (pD n).Pairwise (· < ·) := fun n => List.Pairwise.filter _ List.pairwise_lt_range
 refine ⟨(h _).imp (by intro a b h; omega), (h _).imp (by intro a b h; omega), fun a ha b hb => ?_⟩
 obtain ⟨i, hi, rfl⟩ := dA.1 ha
 obtain ⟨j, _, rfl⟩ := dA.1 hb
 have := (sN.1 hi).1
 omega
theorem c2P (ks : List Nt) (i : Nat) : (plD ks i).Pairwise uP := by
 unfold plD
 rw [gB]
 exact (a7T _).imp fun h => .inr ⟨rfl, h⟩
theorem a4j (ks : List Nt) : (iF ks).Pairwise uP := xY (c2P ks) (fun i c hc => by
 unfold plD at hc
 obtain ⟨z, _, rfl⟩ := dA.1 hc
 rfl) _
theorem c0K {o : Org} {ks : List Nt} (hok : ∀ x ∈ ks, Nt.Ok x) (h : lR o ks = 0) : b0J o ks = iF ks := by
 obtain ⟨h1, h2, h3⟩ := mI h
 have hf := Org.aI h1
 refine pJ _ _ (xY (b9Z o ks) (fun i c hc => by
  unfold a2g at hc
  obtain ⟨z, _, rfl⟩ := dA.1 hc
  rfl) _) (a4j ks) fun x => ?_
 constructor
 ·intro hx
  obtain ⟨i, hi, hx⟩ := dP.1 hx
  have hi := dz.1 hi
  have hk := hf.keys i hi
  unfold a2g at hx
  obtain ⟨z, hz, rfl⟩ := dA.1 hx
  obtain ⟨hz1, hz2⟩ := ef.1 hz
  have hz1 := dz.1 hz1
  unfold iF
  refine dP.2 ⟨i, dz.2 (by omega), ?_⟩
  unfold plD
  exact dA.2 ⟨_, vC.2 ⟨⟨by omega, by omega⟩, hz2⟩, rfl⟩
 ·intro hx
  unfold iF at hx
  obtain ⟨i, hi, hx⟩ := dP.1 hx
  have hi := dz.1 hi
  have hk := hf.keys i (by omega)
  unfold plD at hx
  obtain ⟨z, hz, rfl⟩ := dA.1 hx
  obtain ⟨hz1, hz2⟩ := vC.1 hz
  have hw := a3t (hok _ (iD hi)) (h3 i (by omega)) hz1 hz2
  rw [zU hk.1 hk.2.2 hz1, cW, decide_eq_true_eq, decide_eq_true_eq] at hw
  unfold b0J
  refine dP.2 ⟨i, dz.2 (by omega), ?_⟩
  unfold a2g
  refine dA.2 ⟨(z - (iB o.dvs i).lo).toNat, ef.2 ⟨dz.2 (by omega), ?_⟩, ?_⟩
  ·rw [show (iB o.dvs i).lo + ((z - (iB o.dvs i).lo).toNat : Int) = z by omega]
   exact hz2
  ·rw [show (iB o.dvs i).lo + ((z - (iB o.dvs i).lo).toNat : Int) = z by omega]
end Go.Ds
namespace Go.Ds
open Go.Proofs Go.Proofs.Tryz
variable {H : Heap}
set_option maxRecDepth 10000
set_option maxHeartbeats 1000000
def b8g (o : Org) (l : List (Value × Reg)) (ks : List Nt) : Int := if rV o l ≠ 0 then rV o l else lR o ks
theorem b7d (o : Org) (ho : o.In H) (lv : Value) (xs : List (Value × Reg)) (hl : Sl 3 rgc H lv xs) (hle : xs.length < 1000000000) (hr : ∀ p ∈ xs, p.2.In H p.1) (kv : Value) (ks : List Nt) (hk : Ks H kv ks) :
 Fn prog 72 [.agg #[.string o.name, o.rv, o.dv, o.cv], lv, kv] H fun r H' => r = I (b8g o xs ks) ∧ St prog H H' [] := by
 refine .bd func72 rfl (by kernel_rfl) (m := 17) rfl fun l hn g0 g1 g2 => ?_
 simp (disch := omega) only [↓RA, RB, simprocAttr, g0]
 refine (sR H).eNew 4 [(.string o.name), o.rv, o.dv, o.cv] rfl rfl (by simp [OC, ((sR H).sl ho.1).cells.2.1, ((sR H).sl ho.2.2.1).cells.2.1, ((sR H).sl ho.2.2.2.2.1).cells.2.1]) lU fun A1 H1 hS1 => ?_
 simp only [RT] at hS1
 simp (disch := omega) only [↓RA, RZ, simprocAttr, hn, g1, hS1.ae 0 rfl]
 refine hS1.cF (a4z o (ho.ab hS1) lv xs (hS1.sl hl) hle (fun p hp => (hr p hp).ab hS1)) fun H2 hS2 => ?_
 simp (disch := omega) only [↓RA, RB, simprocAttr, hn]
 refine iA (fun h1 => ?_) (fun h1 => ?_)
 ·simp (disch := omega) only [↓RA, RZ, simprocAttr, hn, c6i, h1]
  exact ⟨by unfold b8g; rw [if_pos h1], hS2.forget⟩
 simp (disch := omega) only [↓RA, RZ, simprocAttr, hn, g2, hS2.ae 0 rfl, h1]
 refine hS2.cF (a3e o (ho.ab hS2) kv ks (hk.ab hS2)) fun H3 hS3 => ?_
 simp (disch := omega) only [↓RA, RZ, simprocAttr, hn, c6i, h1]
 exact ⟨by unfold b8g; rw [if_neg h1], hS3.forget⟩
def rkE (o : Org) (rg : Reg) (ks : List Nt) : Int := if nF o rg ≠ 0 then nF o rg else lR o ks
theorem a8G (o : Org) (sv : Value) (rg : Reg) (ks : List Nt) : b8g o [(sv, rg)] ks = rkE o rg ks := by
 unfold b8g rkE
 rw [a1n]
theorem vN {o : Org} {rg : Reg} {ks : List Nt} (h : rkE o rg ks = 0) : nF o rg = 0 ∧ lR o ks = 0 := by
 unfold rkE at h
 split at h
 ·rename_i hh; exact absurd h hh
 ·rename_i hh; exact ⟨dy.1 hh, h⟩
def oN (o : Org) (rg : Reg) (ks : List Nt) : List Ct := if rkE o rg ks = 0 then kH o rg (iF ks) else []
theorem a1p (hG : Glob gH H) (o : Org) (ho : o.In H) (rg : Reg) (sv : Value) (hr : rg.In H sv) (kv : Value) (ks : List Nt) (hk : Ks H kv ks) :
 Fn prog 42 [.agg #[.string o.name, o.rv, o.dv, o.cv], .agg #[sv, .int .u64 rg.cpl, .int .u64 rg.off], kv] H fun r H' => ∃ pv, r = .tuple #[pv, I (rkE o rg ks)] ∧ Slx 2 jP H' (fun B => H.length ≤ B) pv (oN o rg ks) ∧ St prog H H' [] := by
 refine .bd func42 rfl (by kernel_rfl) (m := 22) rfl fun l hn g0 g1 g2 => ?_
 simp (disch := omega) only [↓RA, RB, simprocAttr, g0]
 refine (sR H).eNew 4 [(.string o.name), o.rv, o.dv, o.cv] rfl rfl (by simp [OC, ((sR H).sl ho.1).cells.2.1, ((sR H).sl ho.2.2.1).cells.2.1, ((sR H).sl ho.2.2.2.2.1).cells.2.1]) lU fun A1 H1 hS1 => ?_
 simp only [RT] at hS1
 simp (disch := omega) only [↓RA, RB, simprocAttr, g1]
 refine hS1.eNew 3 [sv, (.int .u64 rg.cpl), (.int .u64 rg.off)] rfl rfl (by simp [OC, (hS1.sl hr.1).cells.2.1]) nW fun A2 H2 hS2 => ?_
 simp only [RT] at hS2
 simp (disch := omega) only [↓RA, RZ, simprocAttr, hn, hS2.ae 0 rfl, hS2.ae 1 rfl]
 refine hS2.ai [sv, (.int .u64 rg.cpl), (.int .u64 rg.off)] b6P b7a rfl rfl (by first | (simp []; done) | simp [Value.cells]) (by first | (simp []; done) | simp [Value.cells]) (by simp [OC, (hS2.sl hr.1).cells.2.1]) (by decide) (by decide) fun w1 H3 hS3 => ?_
 simp only [RT] at hS3
 simp (disch := omega) only [↓RA, RZ, simprocAttr, hn, g2]
 refine hS3.cF (b7d o (ho.ab hS3) w1 [(sv, rg)] (hS3.aw 2 rfl (fun _ => rfl)) (by simp) (by intro p hp; rw [dx.1 hp]; exact hr.ab hS3) kv ks (hk.ab hS3)) fun H4 hS4 => ?_
 have hsc := a8G o sv rg ks
 simp (disch := omega) only [↓RA, RB, simprocAttr, hn, hsc]
 refine iA (fun h1 => ?_) (fun h1 => ?_)
 ·simp (disch := omega) only [↓RA, RZ, simprocAttr, hn, c5v, hsc, h1]
  exact ⟨.slice none 0 0, rfl, ⟨⟨.inl ⟨rfl, by rw [oN, if_neg h1]; rfl⟩, jS, by decide⟩, fun b h => by simp [kJ] at h⟩, hS4.forget⟩
 have h0 := dy.1 h1
 obtain ⟨hz1, hk0⟩ := vN h0
 obtain ⟨hz3, hz4⟩ := mG hz1
 have hf := Org.aI hz3
 have h8 : ks.length ≤ 8 := by
  have := hf.dlen
  have := (mI hk0).2.1
  omega
 simp (disch := omega) only [↓RA, RC, simprocAttr, hsc, h1]
 refine Wp.aL jY [(0, 4), (1, 4)] (by kernel_rfl) (by kernel_rfl) ?_
 simp (disch := omega) only [↓RA, RZ, simprocAttr, hn, g2, hS4.ae 0 rfl, hS4.ae 1 rfl]
 refine iG ((a4b (hS4.gl hG) kv ks (hk.ab hS4) h8).tr) ?_
 rintro r H5 ⟨-, hT2⟩
 have hS5 := hS4.trans hT2
 simp only [RT] at hS5
 obtain ⟨pv, rfl⟩ : ∃ w, w = r := ⟨r, rfl⟩
 simp (disch := omega) only [↓RA, RZ, simprocAttr, hn]
 have hSd := hS5
 refine iG (rT o (ho.ab hS5) hf rg sv (hr.ab hS5) hz4 pv (iF ks) (hS5.aw 3 rfl jS) (pN hk0) (nH hk.ok hk0)) ?_
 rintro r H6 ⟨hx, hT3⟩
 have hS6 := hS5.trans hT3
 simp only [RT] at hS6
 obtain ⟨qv, rfl⟩ : ∃ w, w = r := ⟨r, rfl⟩
 simp (disch := omega) only [↓RA, RZ, simprocAttr, hn, hS5.ae 0 rfl, hS5.ae 1 rfl, c5v, hx.1.br]
 rw [h0]
 refine ⟨qv, rfl, ⟨?_, fun b h => ?_⟩, hS6.forget⟩
 ·rw [oN, if_pos h0]
  exact hx.1
 ·have := hx.2 b h
  have : H.length ≤ _ := hSd.len
  omega
end Go.Ds
namespace Go.Ds
open Go.Proofs
variable {H : Heap}
set_option maxRecDepth 10000
set_option maxHeartbeats 1000000
end Go.Ds
namespace Go.Ds
open Go.Proofs Go.Proofs.Tryz
variable {H : Heap}
set_option maxRecDepth 10000
set_option maxHeartbeats 1000000
def a2m (lo : Int) (w m : Nat) : List Int := ((List.range m).filter fun j => w.testBit j).map fun (j : Nat) => lo + (j : Int)
def wN (lo hi : Int) : Nat := min 16 (hi - lo + 1).toNat
def zO (o : Org) (b : Nat → Nat) (i : Nat) : Nt := iY (a2m (iB o.dvs i).lo (b (i % 3)) (wN (iB o.dvs i).lo (iB o.dvs i).hi))
def pU (o : Org) (b : Nat → Nat) : List Nt := (List.range o.dvs.length).map (zO o b)
theorem c2S (a b : Nat) (h : a < 65536) : ((a : Nat) : Int).fdiv (2 ^ min b (IntKind.bits .u16)) = ((a >>> b : Nat) : Int) := by
 have e : IntKind.bits .u16 = 16 := rfl
 rw [e]
 have h1 : ((a : Nat) : Int).fdiv (2 ^ min b 16) = ((a / 2 ^ min b 16 : Nat) : Int) := by
  rw [gC _ (by exact Int.le_of_lt (Int.pow_pos (by decide)))]
  simp
 rw [h1, eN]
 by_cases hb : b ≤ 16
 ·rw [fR hb]
 ·rw [Nat.min_eq_right (by omega)]
  have h2 : a / 2 ^ 16 = 0 := gJ (by simpa using h)
  have h3 : a / 2 ^ b = 0 := gJ (dM (by simpa using h) (fq (by decide) (show 16 ≤ b by omega)))
  rw [h2, h3]
theorem b8P (n : Nat) (h : n < 65536) : IntKind.wrap .u16 ((BitVec.ofInt (IntKind.bits .u16) (n : Int) &&& BitVec.ofInt (IntKind.bits .u16) 1).toNat : Int) = ((n % 2 : Nat) : Int) := by
 have e : (BitVec.ofInt (IntKind.bits .u16) (n : Int) &&& BitVec.ofInt (IntKind.bits .u16) 1).toNat = n % 2 := by
  show (BitVec.ofInt 16 (n : Int) &&& BitVec.ofInt 16 1).toNat = n % 2
  rw [gK]
  have h1 : (BitVec.ofInt 16 (n : Int)).toNat = n := by
   rw [fT, BitVec.toNat_ofNat]
   exact gi (by simpa using h)
  have h2 : (BitVec.ofInt 16 1).toNat = 1 := rfl
  rw [h1, h2, Nat.and_one_is_mod]
 rw [e]
 have : n % 2 < 2 := eU _ (by decide)
 have hh : n % 2 = 0 ∨ n % 2 = 1 := by omega
 rcases hh with h | h <;> rw [h] <;> rfl
theorem b6V {a : Nat} (b : Nat) (h : a < 65536) : a >>> b < 65536 := by
 rw [eN]
 exact Nat.lt_of_le_of_lt (Nat.div_le_self _ _) h
theorem b3c (lo : Int) (w m : Nat) : a2m lo w (m + 1) = a2m lo w m ++ (if w.testBit m then [lo + (m : Int)] else []) := by
 unfold a2m
 rw [dY, eQ, dS]
 congr 1
 cases h : w.testBit m <;> simp [h]
theorem b7j (lo : Int) (w m : Nat) : (a2m lo w m).length ≤ m := by
 unfold a2m
 rw [ek]
 exact dC (eh _ _) (by simp)
theorem b9N (lo hi : Int) : wN lo hi ≤ 16 := Nat.min_le_left _ _
theorem vM {o : Org} (hf : o.Fine) (w : Nat) {i : Nat} (hi : i < o.dvs.length) : ∀ z ∈ a2m (iB o.dvs i).lo w (wN (iB o.dvs i).lo (iB o.dvs i).hi), isN z ∧ (iB o.dvs i).lo ≤ z ∧ z ≤ (iB o.dvs i).hi := by
 intro z hz
 have hk := hf.keys i hi
 unfold a2m wN at hz
 obtain ⟨j, hj, rfl⟩ := dA.1 hz
 have hj := dz.1 (ef.1 hj).1
 exact ⟨⟨by omega, by omega⟩, by omega, by omega⟩
theorem a9f (o : Org) (ho : o.In H) (hf : o.Fine) (b : Nat → Nat) (hb : ∀ i, b i < 65536) :
 Fn prog 14 [.agg #[.string o.name, o.rv, o.dv, o.cv], .agg #[.int .u16 (b 0), .int .u16 (b 1), .int .u16 (b 2)]] H fun r H' =>
  St prog H H' [⟨r, 2, (pU o b).flatMap wH⟩] := by
 have hd8 := hf.dlen
 refine .aF func14 rfl (by kernel_rfl) (m := 66) rfl fun l hn g0 g1 => ?_
 simp (disch := omega) only [↓RA, RB, simprocAttr, g0]
 refine (sR H).eNew 4 [(.string o.name), o.rv, o.dv, o.cv] rfl rfl (by simp [OC, ((sR H).sl ho.1).cells.2.1, ((sR H).sl ho.2.2.1).cells.2.1, ((sR H).sl ho.2.2.2.2.1).cells.2.1]) lU fun A1 H1 hS1 => ?_
 simp only [RT] at hS1
 simp (disch := omega) only [↓RA, RB, simprocAttr, g1]
 refine hS1.eNew 3 [(.int .u16 (b 0)), (.int .u16 (b 1)), (.int .u16 (b 2))] rfl rfl rfl c4U fun A2 H2 hS2 => ?_
 simp only [RT] at hS2
 simp (disch := omega) only [↓RA, RB, simprocAttr]
 have hS3 := hS2.nil 1
 simp only [RT] at hS3
 refine Wp.ak (fun n l H' => l.length = 66 ∧ get l 2 = (ptr A1 0 4) ∧ get l 3 = (ptr A2 0 3) ∧ get l 4 = (.slice none 0 0) ∧ ∃ (i : Nat) (kv : Value), (n + i = o.dvs.length) ∧ get l 6 = I i ∧ get l 5 = kv ∧ St prog H H' [⟨ptr A1 0 4, 0, [(.string o.name), o.rv, o.dv, o.cv]⟩, ⟨ptr A2 0 3, 0, [(.int .u16 (b 0)), (.int .u16 (b 1)), (.int .u16 (b 2))]⟩, ⟨kv, 2, ((List.range i).map (zO o b)).flatMap wH⟩]) o.dvs.length ?_ ?_
 ·simp (disch := omega) only [RB, RC, simprocAttr, hn]
  exact ⟨0, .slice none 0 0, by omega, rfl, rfl, hS3⟩
 rintro n l H3 ⟨hn, g2, g3, g4, i, kv, hi, g6, g5, hS4⟩
 simp (disch := omega) only [↓RA, RZ, simprocAttr, hn, g2, g6, hS4.ld 0 rfl, (hS4.sl ho.2.2.1).len]
 refine iA (fun q => ?_) (fun q => ?_)
 ·have hk := hf.keys i (by omega)
  simp (disch := omega) only [↓RA, RZ, simprocAttr, hn, g2, g6, hS4.ld 0 rfl, (hS4.sl ho.2.2.1).idx, (hS4.sl ho.2.2.1).aY, (hS4.sl ho.2.2.1).cC 2, Dvn.cells, q]
  refine hS4.eNew 2 [I 0, I 0] rfl rfl rfl zC fun A3 H4 hS5 => ?_
  simp only [RT] at hS5
  simp (disch := omega) only [↓RA, RZ, simprocAttr, hn, q]
  refine hS5.aa 3 rfl [I (iB o.dvs i).lo, I (iB o.dvs i).hi] rfl rfl zC (by simp) fun H5 hS6 => ?_
  simp only [RT] at hS6
  simp (disch := omega) only [↓RA, RZ, simprocAttr, hn, hS6.ld 3 rfl, q]
  have hS7 := hS6.nil 0
  simp only [RT] at hS7
  refine Wp.ak (fun n l H' => l.length = 66 ∧ get l 2 = (ptr A1 0 4) ∧ get l 3 = (ptr A2 0 3) ∧ get l 4 = (.slice none 0 0) ∧ get l 5 = kv ∧ get l 6 = I i ∧ get l 8 = (ptr A3 0 2) ∧ ∃ (m : Nat) (lv : Value), (n + m = wN (iB o.dvs i).lo (iB o.dvs i).hi) ∧ get l 9 = I ((iB o.dvs i).lo + m) ∧ get l 7 = lv ∧ St prog H H' [⟨ptr A1 0 4, 0, [(.string o.name), o.rv, o.dv, o.cv]⟩, ⟨ptr A2 0 3, 0, [(.int .u16 (b 0)), (.int .u16 (b 1)), (.int .u16 (b 2))]⟩, ⟨kv, 2, ((List.range i).map (zO o b)).flatMap wH⟩, ⟨ptr A3 0 2, 0, [I (iB o.dvs i).lo, I (iB o.dvs i).hi]⟩, ⟨lv, 1, (a2m (iB o.dvs i).lo (b (i % 3)) m).flatMap (one I)⟩]) (wN (iB o.dvs i).lo (iB o.dvs i).hi) ?_ ?_
  ·simp (disch := omega) only [RB, RC, simprocAttr, hn, g2, g3, g4, g6, g5]
   exact ⟨0, .slice none 0 0, by omega, by simp, rfl, hS7⟩
  rintro n l H6 ⟨hn, g2, g3, g4, g5, g6, g8, m, lv, hm, g9, g7, hS8⟩
  simp (disch := omega) only [↓RA, RZ, simprocAttr, hn, g8, g9, hS8.ld 3 rfl]
  have hM := b9N (iB o.dvs i).lo (iB o.dvs i).hi
  have hi3 : (i : Int).tmod 3 = ((i % 3 : Nat) : Int) := (ey i 3).symm
  have hw : ([Value.int .u16 (b 0), .int .u16 (b 1), .int .u16 (b 2)] : List Value)[i % 3]? = some (.int .u16 (b (i % 3))) := by
   have : i % 3 = 0 ∨ i % 3 = 1 ∨ i % 3 = 2 := by omega
   rcases this with e | e | e <;> rw [e] <;> rfl
  have hsub : (iB o.dvs i).lo + (m : Int) - (iB o.dvs i).lo = (m : Int) := by omega
  have e1 := c2S (b (i % 3)) m (hb _)
  have e2 := b8P (b (i % 3) >>> m) (b6V m (hb _))
  have e3 := tb (b (i % 3)) m
  have hsu := b3c (iB o.dvs i).lo (b (i % 3)) m
  have hpl := b7j (iB o.dvs i).lo (b (i % 3)) m
  refine jI (fun q1 => ?_) (fun q1 => ?_)
  ·simp (disch := omega) only [↓RA, RZ, simprocAttr, hn, g8, g9, hS8.ld 3 rfl, q1]
   refine iA (fun q2 => ?_) (fun q2 => ?_)
   ·skip
    simp (disch := omega) only [↓RA, RC, simprocAttr, q1, q2]
    refine Wp.drw jY (by kernel_rfl) ?_
    simp (disch := omega) only [↓RA, RZ, simprocAttr, hn, g3, g6, g8, g9, hS8.ld 1 rfl, hw, hS8.ld 3 rfl, hi3, hsub, e1, e2]
    refine iA (fun q3 => ?_) (fun q3 => ?_)
    ·rw [e3, decide_eq_true (by omega), if_pos rfl] at hsu
     simp (disch := omega) only [↓RA, RZ, simprocAttr, hn, g9, g7, q3]
     refine hS8.ai [I ((iB o.dvs i).lo + m)] xC a1B rfl rfl (by simp [Value.cells]) rfl rfl (by decide) (by decide) fun w1 H7 hS9 => ?_
     simp only [RT] at hS9
     simp (disch := omega) only [↓RA, RZ, simprocAttr, hn, q3]
     refine hS9.aq 4 rfl (hS9.rd 5 rfl) xC (by rw [iM (n := 1) (cel := one I) (fun _ => rfl)]; simp; omega) fun w2 H8 hS10 => ?_
     simp only [RT] at hS10
     simp (disch := omega) only [↓RA, RZ, simprocAttr, hn, g2, g3, g4, g5, g6, g8, g9, q3]
     refine ⟨n - 1, by unfold wN at hm; omega, m + 1, w2, by unfold wN at hm ⊢; omega, by simp; omega, rfl, ?_⟩
     rw [hsu, dH]
     exact hS10.pick [0, 1, 2, 3, 4] (by decide) rfl
    rw [e3, decide_eq_false (by omega), if_neg (by simp), dm] at hsu
    simp (disch := omega) only [↓RA, RZ, simprocAttr, hn, g2, g3, g4, g5, g6, g8, g9, g7, q3]
    refine ⟨n - 1, by unfold wN at hm; omega, m + 1, lv, by unfold wN at hm ⊢; omega, by simp; omega, rfl, ?_⟩
    rw [hsu]
    exact hS8.pick [0, 1, 2, 3, 4] (by decide) rfl
   have hmM : m = wN (iB o.dvs i).lo (iB o.dvs i).hi := by unfold wN at hm hM ⊢; omega
   have hz := vM hf (b (i % 3)) (show i < o.dvs.length by omega)
   subst hmM
   simp (disch := omega) only [↓RA, RZ, simprocAttr, hn, g7, q1, q2]
   refine hS8.cF (tZ (a2m (iB o.dvs i).lo (b (i % 3)) (wN (iB o.dvs i).lo (iB o.dvs i).hi)) (fun z h => (hz z h).1) lv (hS8.aw 4 rfl (sZ _)) (by omega)) fun H9 hS11 => ?_
   simp (disch := omega) only [↓RA, RZ, simprocAttr, hn, q1, q2]
   refine hS11.eNew 2 [(.int .u64 0), (.int .u64 0)] rfl rfl rfl kK fun A4 H10 hS12 => ?_
   simp only [RT] at hS12
   simp (disch := omega) only [↓RA, RZ, simprocAttr, hn, q1, q2]
   refine hS12.aa 5 rfl [(.int .u64 (zO o b i).1), (.int .u64 (zO o b i).2)] rfl rfl kK (by simp) fun H11 hS13 => ?_
   simp only [RT] at hS13
   simp (disch := omega) only [↓RA, RZ, simprocAttr, hn, g5, hS13.ae 5 rfl, q1, q2]
   refine hS13.ai [(.int .u64 (zO o b i).1), (.int .u64 (zO o b i).2)] a6q c0k rfl rfl (by simp [Value.cells]) rfl rfl (by decide) (by decide) fun w3 H12 hS14 => ?_
   simp only [RT] at hS14
   simp (disch := omega) only [↓RA, RZ, simprocAttr, hn, q1, q2]
   refine hS14.aq 2 rfl (hS14.rd 6 rfl) a6q (by rw [iM (n := 2) (cel := wH) (fun _ => rfl)]; simp; omega) fun w4 H13 hS15 => ?_
   simp only [RT] at hS15
   simp (disch := omega) only [↓RA, RZ, simprocAttr, hn, g2, g3, g4, g6, q1, q2]
   refine ⟨o.dvs.length - (i + 1), by omega, i + 1, w4, by omega, by simp, rfl, ?_⟩
   rw [dY, dS, dH]
   exact hS15.pick [0, 1, 2] (by decide) rfl
  have hmM : m = wN (iB o.dvs i).lo (iB o.dvs i).hi := by unfold wN at hm hM ⊢; omega
  have hz := vM hf (b (i % 3)) (show i < o.dvs.length by omega)
  subst hmM
  simp (disch := omega) only [↓RA, RZ, simprocAttr, hn, g7, q1]
  refine hS8.cF (tZ (a2m (iB o.dvs i).lo (b (i % 3)) (wN (iB o.dvs i).lo (iB o.dvs i).hi)) (fun z h => (hz z h).1) lv (hS8.aw 4 rfl (sZ _)) (by omega)) fun H14 hS16 => ?_
  simp (disch := omega) only [↓RA, RZ, simprocAttr, hn, q1]
  refine hS16.eNew 2 [(.int .u64 0), (.int .u64 0)] rfl rfl rfl kK fun A5 H15 hS17 => ?_
  simp only [RT] at hS17
  simp (disch := omega) only [↓RA, RZ, simprocAttr, hn, q1]
  refine hS17.aa 5 rfl [(.int .u64 (zO o b i).1), (.int .u64 (zO o b i).2)] rfl rfl kK (by simp) fun H16 hS18 => ?_
  simp only [RT] at hS18
  simp (disch := omega) only [↓RA, RZ, simprocAttr, hn, g5, hS18.ae 5 rfl, q1]
  refine hS18.ai [(.int .u64 (zO o b i).1), (.int .u64 (zO o b i).2)] a6q c0k rfl rfl (by simp [Value.cells]) rfl rfl (by decide) (by decide) fun w5 H17 hS19 => ?_
  simp only [RT] at hS19
  simp (disch := omega) only [↓RA, RZ, simprocAttr, hn, q1]
  refine hS19.aq 2 rfl (hS19.rd 6 rfl) a6q (by rw [iM (n := 2) (cel := wH) (fun _ => rfl)]; simp; omega) fun w6 H18 hS20 => ?_
  simp only [RT] at hS20
  simp (disch := omega) only [↓RA, RZ, simprocAttr, hn, g2, g3, g4, g6, q1]
  refine ⟨o.dvs.length - (i + 1), by omega, i + 1, w6, by omega, by simp, rfl, ?_⟩
  rw [dY, dS, dH]
  exact hS20.pick [0, 1, 2] (by decide) rfl
 simp (disch := omega) only [↓RA, RZ, simprocAttr, hn, g5, c7r, q]
 have hii : i = o.dvs.length := by omega
 subst hii
 exact hS4.pick [2] (by decide) rfl
theorem tV (o : Org) (b : Nat → Nat) : (pU o b).length = o.dvs.length := by simp [pU]
theorem a5M {o : Org} {b : Nat → Nat} {i : Nat} (hi : i < o.dvs.length) : iB (pU o b) i = zO o b i := by
 rw [jO _ i (by rw [tV]; exact hi)]
 simp [pU]
theorem b1H {o : Org} (hf : o.Fine) (b : Nat → Nat) {i : Nat} (hi : i < o.dvs.length) : Nt.Ok (zO o b i) := sU _ _ (fun z h => (vM hf (b (i % 3)) hi z h).1) ⟨by decide, by decide⟩
theorem a8q {o : Org} (hf : o.Fine) (b : Nat → Nat) : ∀ x ∈ pU o b, Nt.Ok x := by
 intro x hx
 obtain ⟨i, hi, rfl⟩ := dA.1 hx
 exact b1H hf b (dz.1 hi)
theorem a8M {x y : Nt} (hx : Nt.Ok x) (h : ∀ z, isN z → mM x z = true → mM y z = true) : woF x y = (0, 0) := by
 have k : ∀ z, isN z → mM (woF x y) z = false := fun z hz => by
  rw [b2u hx hz]
  cases e : mM x z with
  | false => rfl
  | true => rw [h z hz e]; rfl
 have big : ∀ a : Nat, a < 18446744073709551616 → ∀ j, 64 ≤ j → a.testBit j = false := fun a ha j hj =>
  Nat.testBit_lt_two_pow (dM (show a < 2 ^ 64 from ha) (fq (by decide) hj))
 obtain ⟨h1, h2⟩ := c2H x y
 apply fO
 ·apply fV
  intro j
  rw [iq]
  by_cases hj : 64 ≤ j
  ·exact big _ h1 j hj
  ·have := k (j : Int) ⟨by omega, by omega⟩
   unfold mM at this
   rw [if_pos (by omega)] at this
   exact this
 ·apply fV
  intro j
  rw [iq]
  by_cases hj : 64 ≤ j
  ·exact big _ h2 j hj
  ·have := k (64 + j : Int) ⟨by omega, by omega⟩
   unfold mM at this
   rw [if_neg (by omega), show (64 + (j : Int) - 64).toNat = j by omega] at this
   exact this
theorem b0o {o : Org} (h0 : organE o = 0) (b : Nat → Nat) : lR o (pU o b) = 0 := by
 have hf := Org.aI h0
 unfold lR
 rw [if_neg (by rw [h0]; simp), if_neg (by rw [tV]; simp), if_neg]
 rintro ⟨j, hj, hne⟩
 apply hne
 have hk := hf.keys j hj
 rw [a5M hj]
 refine a8M (b1H hf b hj) fun z hz hh => ?_
 rw [zO, xG (fun n hn => (vM hf (b (j % 3)) hj n hn).1) hz] at hh
 have := vM hf (b (j % 3)) hj z (of_decide_eq_true hh)
 rw [zU hk.1 hk.2.2 hz, decide_eq_true this.2.1, decide_eq_true this.2.2]
 rfl
end Go.Ds
namespace Go.Ds
open Go.Proofs
set_option maxRecDepth 10000
theorem a9J {o : Org} (hf : o.Fine) {r : Reg} {l m : List Ct} (h : ∀ x, x ∈ l ↔ x ∈ m) : kH o r l = kH o r m := by
 refine pJ _ _ (sG o r l) (sG o r m) fun p => ?_
 rw [tE hf, tE hf]
 exact exists_congr fun c => and_congr_left fun _ => h c
theorem rX {ks : List Nt} {x : Ct} : x ∈ iF ks ↔ (0 ≤ x.1 ∧ x.1 < ks.length) ∧ isN x.2 ∧ mM (iB ks x.1.toNat) x.2 = true := by
 unfold iF plD
 rw [dP]
 constructor
 ·rintro ⟨i, hi, h⟩
  have hi := dz.1 hi
  obtain ⟨z, hz, rfl⟩ := dA.1 h
  exact ⟨⟨by simp, by simp; omega⟩, vC.1 hz⟩
 ·rintro ⟨⟨h1, h2⟩, h3⟩
  refine ⟨x.1.toNat, dz.2 (by omega), dA.2 ⟨x.2, vC.2 h3, ?_⟩⟩
  apply fO
  ·simp; omega
  ·rfl
def pM (o : Org) (c : Ct) : List Nt := (List.replicate o.dvs.length ((0, 0) : Nt)).set c.1.toNat (iY [c.2])
theorem xI (o : Org) (c : Ct) : (pM o c).length = o.dvs.length := by simp [pM]
theorem mK {o : Org} (hf : o.Fine) {c : Ct} (hc : lA o c = true) : isN c.2 := by
 have h := vR hf hc
 exact ⟨by omega, by omega⟩
theorem a0E {z : Int} (h : isN z) : Nt.Ok (iY [z]) := sU _ _ (fun y hy => by rw [dx.1 hy]; exact h) ⟨by decide, by decide⟩
theorem tB {z y : Int} (h : isN z) (hy : isN y) : mM (iY [z]) y = decide (y = z) := by
 rw [xG (fun n hn => by rw [dx.1 hn]; exact h) hy]
 simp
theorem a4f {o : Org} (hf : o.Fine) {c : Ct} (hc : lA o c = true) : ∀ x ∈ pM o c, Nt.Ok x := by
 intro x hx
 unfold pM at hx
 rcases List.mem_or_eq_of_mem_set hx with h | h
 ·rw [List.eq_of_mem_replicate h]
  exact ⟨by decide, by decide⟩
 ·rw [h]
  exact a0E (mK hf hc)
theorem a6k {α : Type} [Inhabited α] (l : List α) (i j : Nat) (x : α) (h : i < l.length) : iB (l.set i x) j = if j = i then x else iB l j := by
 unfold iB
 rw [dc, dc]
 by_cases e : j = i
 ·subst e
  rw [if_pos rfl, List.getElem?_set_self h]
  rfl
 ·rw [if_neg e, List.getElem?_set_ne (eY e)]
theorem yV {o : Org} (hf : o.Fine) {c : Ct} (hc : lA o c = true) : iF (pM o c) = [c] := by
 have h := (kM o c).1 hc
 refine pJ _ _ (a4j _) (List.pairwise_singleton _ _) fun x => ?_
 rw [rX, xI, dx]
 constructor
 ·rintro ⟨⟨h1, h2⟩, h3, h4⟩
  unfold pM at h4
  rw [a6k _ _ _ _ (by simp; omega)] at h4
  split at h4
  ·rename_i e
   rw [tB (mK hf hc) h3] at h4
   exact fO (by omega) (of_decide_eq_true h4)
  ·rw [jO _ _ (by simp; omega), List.getElem_replicate, a0e] at h4
   exact absurd h4 (by simp)
 ·rintro rfl
  refine ⟨⟨h.1, h.2.1⟩, mK hf hc, ?_⟩
  unfold pM
  rw [a6k _ _ _ _ (by simp; omega), if_pos rfl, tB (mK hf hc) (mK hf hc)]
  simp
theorem a8a {o : Org} (h0 : organE o = 0) {ks : List Nt} (hl : ks.length = o.dvs.length) (hok : ∀ x ∈ ks, Nt.Ok x) (hc : ∀ x ∈ iF ks, lA o x = true) : lR o ks = 0 := by
 have hf := Org.aI h0
 unfold lR
 rw [if_neg (by rw [h0]; simp), if_neg (by rw [hl]; simp), if_neg]
 rintro ⟨j, hj, hne⟩
 apply hne
 have hk := hf.keys j hj
 refine a8M (hok _ (iD (by omega))) fun z hz hh => ?_
 have := (kM o _).1 (hc ((j : Int), z) (rX.2 ⟨⟨by simp, by simp; omega⟩, hz, by simpa using hh⟩))
 simp only [dF] at this
 rw [zU hk.1 hk.2.2 hz, decide_eq_true this.2.2.1, decide_eq_true this.2.2.2]
 rfl
theorem c1f {o : Org} (h0 : organE o = 0) {c : Ct} (hc : lA o c = true) : lR o (pM o c) = 0 :=
 a8a h0 (xI o c) (a4f (Org.aI h0) hc) fun x hx => by
  rw [yV (Org.aI h0) hc] at hx
  rw [dx.1 hx]
  exact hc
def sO (ks : List Nt) (c : Ct) : List Nt := ks.set c.1.toNat (unF (iB ks c.1.toNat) (iY [c.2]))
theorem a0x (ks : List Nt) (c : Ct) : (sO ks c).length = ks.length := by simp [sO]
theorem a7y {o : Org} (hf : o.Fine) {ks : List Nt} (hl : ks.length = o.dvs.length) (hok : ∀ x ∈ ks, Nt.Ok x) {c : Ct} (hc : lA o c = true) : ∀ x ∈ sO ks c, Nt.Ok x := by
 have h := (kM o c).1 hc
 intro x hx
 unfold sO at hx
 rcases List.mem_or_eq_of_mem_set hx with h | h
 ·exact hok x h
 ·rw [h]
  exact c3l (hok _ (iD (by omega))) (a0E (mK hf hc))
theorem a5P (x y : Nt) (z : Int) : mM (unF x y) z = (mM x z || mM y z) := by
 unfold mM unF
 split <;> rw [gX]
theorem a1f {o : Org} (hf : o.Fine) {ks : List Nt} (hl : ks.length = o.dvs.length) {c : Ct} (hc : lA o c = true) {x : Ct} : x ∈ iF (sO ks c) ↔ x ∈ iF ks ++ [c] := by
 have h := (kM o c).1 hc
 rw [dD, dx, rX, rX, a0x]
 have key : ∀ d : Nat, iB (sO ks c) d = if d = c.1.toNat then unF (iB ks c.1.toNat) (iY [c.2]) else iB ks d := fun d => a6k _ _ _ _ (by omega)
 constructor
 ·rintro ⟨h1, h2, h3⟩
  rw [key] at h3
  split at h3
  ·rename_i e
   rw [a5P, eu] at h3
   rcases h3 with h3 | h3
   ·exact .inl ⟨h1, h2, by rw [e]; exact h3⟩
   ·rw [tB (mK hf hc) h2] at h3
    exact .inr (fO (by omega) (of_decide_eq_true h3))
  ·exact .inl ⟨h1, h2, h3⟩
 ·rintro (⟨h1, h2, h3⟩ | rfl)
  ·refine ⟨h1, h2, ?_⟩
   rw [key]
   split
   ·rename_i e
    rw [a5P, ← e, h3]
    rfl
   ·exact h3
  ·refine ⟨by omega, mK hf hc, ?_⟩
   rw [key, if_pos rfl, a5P, tB (mK hf hc) (mK hf hc)]
   simp
theorem c1Z {o : Org} (h0 : organE o = 0) {ks : List Nt} (hok : ∀ x ∈ ks, Nt.Ok x) (hk : lR o ks = 0) {c : Ct} (hc : lA o c = true) : lR o (sO ks c) = 0 := by
 have hf := Org.aI h0
 have hl := (mI hk).2.1
 refine a8a h0 (by rw [a0x, hl]) (a7y hf hl hok hc) fun x hx => ?_
 rcases dD.1 ((a1f hf hl hc).1 hx) with h | h
 ·exact nH hok hk x h
 ·rw [dx.1 h]
  exact hc
theorem a9m {o : Org} (hf : o.Fine) {ks : List Nt} (hl : ks.length = o.dvs.length) {c : Ct} (hc : lA o c = true) (r : Reg) : kH o r (iF (sO ks c)) = kH o r (iF ks ++ [c]) :=
 a9J hf fun _ => a1f hf hl hc
theorem Star.mono {α : Type} {R R' : α → α → Prop} (h : ∀ a b, R a b → R' a b) {a b : α} (hs : Star R a b) : Star R' a b := by
 induction hs with
 | refl => exact .refl _
 | tail _ h2 ih => exact .tail ih (h _ _ h2)
end Go.Ds
namespace Go.Ds
open Go.Proofs Go.Proofs.Tryz Go.Shelf Go.RowKit Go.Lib Go.Sort
def sm (x : Int × Int) : Prop := -1000000000 ≤ x.1 ∧ x.1 ≤ 1000000000 ∧ -1000000000 ≤ x.2 ∧ x.2 ≤ 1000000000
abbrev Sm := {x : Int × Int // sm x}
instance : Inhabited Sm := ⟨⟨(0, 0), by unfold sm; decide⟩⟩
def cfd (x y : Sm) : Int := if x.1.1 ≠ y.1.1 then x.1.1 - y.1.1 else x.1.2 - y.1.2
theorem ltd (x y : Sm) : ltOf cfd x y = decide (x.1.1 < y.1.1 ∨ (x.1.1 = y.1.1 ∧ x.1.2 < y.1.2)) := by
 unfold ltOf cfd
 congr 1
 apply propext
 split <;> omega
theorem c4v : SWO (ltOf cfd) where
 irrefl x := by rw [ltd]; simp
 trans x y z h1 h2 := by rw [ltd] at *; simp at *; omega
 ntrans x y z h1 h2 := by rw [ltd] at *; simp at *; omega
theorem c6N (x y : Sm) (h1 : ltOf cfd x y = false) (h2 : ltOf cfd y x = false) : x = y := by
 rw [ltd] at *
 simp at h1 h2
 apply Subtype.ext
 apply fO <;> omega
theorem c2r (x y : Sm) : (!(ltOf cfd) y x) = le2 x.1 y.1 := by
 rw [ltd, ← a9T]
 simp only [lt2]
theorem b5f (l : Array Sm) : flatK (fun x : Sm => jP x.1) 2 l = flatK jP 2 (l.map (·.1)) := by
 unfold flatK
 rw [Array.size_map]
 congr 1
 funext t
 congr 2
 by_cases h : t / 2 < l.size
 ·simp [h]
 ·simp [h]
  rfl
theorem b5K (w : World) (kJ off n : Nat) (l : List Sm) (os : Array Obj) : sortWorldK (fun x : Sm => jP x.1) 2 w kJ off n l.toArray os = sortWorldK jP 2 w kJ off n (l.map (·.1)).toArray os := by
 unfold sortWorldK putRowK
 rw [b5f, List.map_toArray]
theorem b9C (l : List (Int × Int)) (h : ∀ x ∈ l, sm x) : (l.attachWith sm h).map (·.1) = l := by
 rw [List.map_attachWith]
 exact List.attach_map_subtype_val l
theorem b5l (l : List Sm) : (l.mergeSort fun x y => !(ltOf cfd) y x).map (·.1) = (l.map (·.1)).mergeSort le2 :=
 List.map_mergeSort fun x _ y _ => c2r x y
theorem c6h (kc : FuncId) (eg : ∀ args w, (callFunc kc args).run prog w = .ok (.enter kc args) w) (hf : ∀ x y : Sm, Fn prog kc [.agg #[I x.1.1, I x.1.2], .agg #[I y.1.1, I y.1.2]] .nil fun r H' => r = I (cfd x y) ∧ St prog (.nil : Heap) H' []) : a0q prog 46 kc sm :=
 fun kJ off cap d w hs hH hblk hsz => by
  have hd : (d.toList.attachWith sm hs).toArray.map (·.1) = d := by
   rw [List.map_toArray, b9C]
  have hl : (d.toList.attachWith sm hs).toArray.size = d.size := by simp
  have hH' : HoldsK (fun x : Sm => jP x.1) 2 w kJ off (d.toList.attachWith sm hs).toArray := by
   unfold HoldsK at hH ⊢
   rw [b5f, hd]
   exact hH
  have h := AnyQ.slices_SortFunc_total Tryz.bC 2 Tryz.isAgg55 Tryz.sizeOf55 (fun x : Sm => jP x.1) (fun _ => rfl) (fun x => zT x.1) cfd c4v kc #[] kJ off cap (d.toList.attachWith sm hs).toArray w eg (a2L (fun x : Sm => x.1) cfd hf kJ off _ w) hH' hblk (by rw [hl]; exact hsz) c6N
  rw [hl] at h
  refine h.mono ?_
  rintro e w' ⟨h1, n, os, h2⟩
  exact ⟨h1, n, os, by rw [h2, b5K, List.toList_toArray, b5l, b9C]⟩
def b2v (K kc : FuncId) : Prop := ∀ {H : Heap} {B : Base} {os : List Ob} (hS : St prog B H os) (i : Nat) {v : Value} {es : List (Int × Int)} (ho : os[i]? = some ⟨v, 2, pr es⟩) (hl : es.length < 100000000000) (hsm : ∀ x ∈ es, sm x) {Q : Value → Heap → Prop}
    (h : ∀ H1, St prog B H1 (os.set i ⟨v, 2, pr (pG es)⟩) → Q (.tuple #[]) H1), vZ prog K [v, .func (.func kc) #[] #[]] H Q
section
variable {H : Heap}
theorem c0V (x y : Sm) : Fn prog 47 [.agg #[I x.1.1, I x.1.2], .agg #[I y.1.1, I y.1.2]] H fun r H' => r = I (cfd x y) ∧ St prog H H' [] := by
 obtain ⟨⟨x1, x2⟩, hx⟩ := x
 obtain ⟨⟨y1, y2⟩, hy⟩ := y
 unfold sm at hx hy
 simp only at hx hy ⊢
 refine .aF func47 rfl (by kernel_rfl) (m := 20) rfl fun l hn g0 g1 => ?_
 simp (disch := omega) only [↓RA, RB, simprocAttr, g0]
 refine (sR H).eNew 2 [I x1, I x2] rfl rfl rfl qL fun A1 H1 hS1 => ?_
 simp only [RT] at hS1
 simp (disch := omega) only [↓RA, RB, simprocAttr, g1]
 refine hS1.eNew 2 [I y1, I y2] rfl rfl rfl qL fun A2 H2 hS2 => ?_
 simp only [RT] at hS2
 simp (disch := omega) only [↓RA, RZ, simprocAttr, hn, hS2.ld 0 rfl, hS2.ld 1 rfl]
 refine iA (fun q => ?_) (fun q => ?_)
 ·simp (disch := omega) only [↓RA, RZ, simprocAttr, hn, hS2.ld 0 rfl, hS2.ld 1 rfl, c6A, q]
  exact ⟨by unfold cfd; rw [if_pos q], hS2.forget⟩
 simp (disch := omega) only [↓RA, RZ, simprocAttr, hn, hS2.ld 0 rfl, hS2.ld 1 rfl, c6A, q]
 exact ⟨by unfold cfd; rw [if_neg q], hS2.forget⟩
end
theorem c1F : b2v 46 47 := fun hS i _ _ ho hl hsm _ h => uS (c6h 47 (enters_of func47 (by kernel_rfl) rfl) fun x y => c0V x y) c4f c4b hS i ho hl hsm h
end Go.Ds
namespace Go.Ds
open Go.Proofs Go.Proofs.Tryz
variable {H : Heap}
set_option maxRecDepth 10000
set_option maxHeartbeats 1000000
theorem c5h (o : Org) (ho : o.In H) (d z : Int) : Fn prog 55 [.agg #[.string o.name, o.rv, o.dv, o.cv], .agg #[I d, I z]] H fun r H' => r = .bool (lA o (d, z)) ∧ St prog H H' [] := by
 have hl := ho.2.2.2.2.2.2.1
 by_cases hd : 0 ≤ d
 ·obtain ⟨j, rfl⟩ := eR hd
  refine .aF func55 rfl (by kernel_rfl) (m := 42) rfl fun l hn g0 g1 => ?_
  simp (disch := omega) only [↓RA, RB, simprocAttr, g0]
  refine (sR H).eNew 4 [(.string o.name), o.rv, o.dv, o.cv] rfl rfl (by simp [OC, ((sR H).sl ho.1).cells.2.1, ((sR H).sl ho.2.2.1).cells.2.1, ((sR H).sl ho.2.2.2.2.1).cells.2.1]) lU fun A1 H1 hS1 => ?_
  simp only [RT] at hS1
  simp (disch := omega) only [↓RA, RB, simprocAttr, g1]
  refine hS1.eNew 2 [I j, I z] rfl rfl rfl lN fun A2 H2 hS2 => ?_
  simp only [RT] at hS2
  simp (disch := omega) only [↓RA, RB, simprocAttr]
  refine Wp.drw jY (by kernel_rfl) ?_
  simp (disch := omega) only [↓RA, RZ, simprocAttr, hn, hS2.ld 1 rfl]
  refine jI (fun g1 => ?_) (fun g1 => ?_)
  rotate_left
  ·exfalso; first | omega | (simp at g1; omega)
  simp (disch := omega) only [↓RA, RZ, simprocAttr, hn, hS2.ld 1 rfl, hS2.ld 0 rfl, (hS2.sl ho.2.2.1).len, g1]
  refine jI (fun g2 => ?_) (fun g2 => ?_)
  ·simp (disch := omega) only [↓RA, RZ, simprocAttr, hn, hS2.ld 1 rfl, hS2.ld 0 rfl, (hS2.sl ho.2.2.1).idx, (hS2.sl ho.2.2.1).aY, (hS2.sl ho.2.2.1).ld, Dvn.cells, g1, g2]
   refine jI (fun g3 => ?_) (fun g3 => ?_)
   ·simp (disch := omega) only [↓RA, RZ, simprocAttr, hn, hS2.ld 1 rfl, hS2.ld 0 rfl, (hS2.sl ho.2.2.1).idx, (hS2.sl ho.2.2.1).aY, (hS2.sl ho.2.2.1).ld, Dvn.cells, c1b, g1, g2, g3]
    exact ⟨by unfold lA; simp only [dF]; congr 1; simp; omega, hS2.forget⟩
   simp (disch := omega) only [↓RA, RZ, simprocAttr, hn, c1b, g1, g2, g3]
   exact ⟨by congr 1; symm; rw [← eJ, kM]; simp only [dF]; omega, hS2.forget⟩
  simp (disch := omega) only [↓RA, RZ, simprocAttr, hn, c1b, g1, g2]
  exact ⟨by congr 1; symm; rw [← eJ, kM]; simp only [dF]; omega, hS2.forget⟩
 ·refine .aF func55 rfl (by kernel_rfl) (m := 42) rfl fun l hn g0 g1 => ?_
  simp (disch := omega) only [↓RA, RB, simprocAttr, g0]
  refine (sR H).eNew 4 [(.string o.name), o.rv, o.dv, o.cv] rfl rfl (by simp [OC, ((sR H).sl ho.1).cells.2.1, ((sR H).sl ho.2.2.1).cells.2.1, ((sR H).sl ho.2.2.2.2.1).cells.2.1]) lU fun A1 H1 hS1 => ?_
  simp only [RT] at hS1
  simp (disch := omega) only [↓RA, RB, simprocAttr, g1]
  refine hS1.eNew 2 [I d, I z] rfl rfl rfl lN fun A2 H2 hS2 => ?_
  simp only [RT] at hS2
  simp (disch := omega) only [↓RA, RB, simprocAttr]
  refine Wp.drw jY (by kernel_rfl) ?_
  simp (disch := omega) only [↓RA, RZ, simprocAttr, hn, hS2.ld 1 rfl]
  refine jI (fun g1 => ?_) (fun g1 => ?_)
  ·exfalso; first | omega | (simp at g1; omega)
  simp (disch := omega) only [↓RA, RZ, simprocAttr, hn, c1b, g1]
  exact ⟨by congr 1; symm; rw [← eJ, kM]; simp only; omega, hS2.forget⟩
theorem a5u (o : Org) (ho : o.In H) (c : Ct) : Fn prog 55 [.agg #[.string o.name, o.rv, o.dv, o.cv], .agg #[I c.1, I c.2]] H fun r H' => r = .bool (lA o c) ∧ St prog H H' [] := c5h o ho c.1 c.2
def a7U (o : Org) (ks : List Nt) (i n : Nat) : List Ct := ((List.range n).filter fun (j : Nat) => mM (iB ks i) ((iB o.dvs i).lo + (j : Int))).map fun (j : Nat) => ((i : Int), (iB o.dvs i).lo + (j : Int))
theorem b2R (o : Org) (ks : List Nt) (i n : Nat) : a7U o ks i (n + 1) = a7U o ks i n ++ (if mM (iB ks i) ((iB o.dvs i).lo + (n : Int)) then [((i : Int), (iB o.dvs i).lo + (n : Int))] else []) := by
 unfold a7U
 rw [dY, eQ, dS]
 congr 1
 cases h : mM (iB ks i) ((iB o.dvs i).lo + (n : Int)) <;> simp [h]
theorem b1G (o : Org) (ks : List Nt) (i n : Nat) : (a7U o ks i n).length ≤ n := by
 unfold a7U
 rw [ek]
 exact dC (eh _ _) (by simp)
theorem a7i {o : Org} (hf : o.Fine) (ks : List Nt) : ∀ i, i ≤ o.dvs.length → ((List.range i).flatMap (a2g o ks)).length ≤ i * 128
 | 0, _ => by simp
 | i + 1, h => by
   have h1 := a7i hf ks i (by omega)
   have h2 := b1G o ks i ((iB o.dvs i).hi - (iB o.dvs i).lo + 1).toNat
   have hk := hf.keys i (by omega)
   have h3 : (a2g o ks i).length ≤ 128 := dC h2 (by omega)
   rw [dY, dH, dp, dB, ez, dm]
   omega
theorem a8C (o : Org) (ho : o.In H) (hf : o.Fine) (kv : Value) (ks : List Nt) (hk : Ks H kv ks) (hl : ks.length = o.dvs.length) :
 Fn prog 75 [.agg #[.string o.name, o.rv, o.dv, o.cv], kv] H fun r H' => St prog H H' [⟨r, 2, pr (b0J o ks)⟩] := by
 have hd8 := hf.dlen
 refine .aF func75 rfl (by kernel_rfl) (m := 55) rfl fun l hn g0 g1 => ?_
 simp (disch := omega) only [↓RA, RB, simprocAttr, g0]
 refine (sR H).eNew 4 [(.string o.name), o.rv, o.dv, o.cv] rfl rfl (by simp [OC, ((sR H).sl ho.1).cells.2.1, ((sR H).sl ho.2.2.1).cells.2.1, ((sR H).sl ho.2.2.2.2.1).cells.2.1]) lU fun A1 H1 hS1 => ?_
 simp only [RT] at hS1
 simp (disch := omega) only [↓RA, RZ, simprocAttr, hn, hS1.ld 0 rfl, (hS1.sl ho.2.2.1).len]
 have hS2 := hS1.nil 1
 simp only [RT] at hS2
 refine Wp.ak (fun n l H' => l.length = 55 ∧ get l 1 = kv ∧ get l 4 = (.slice none 0 0) ∧ get l 11 = o.dv ∧ get l 12 = I o.dvs.length ∧ ∃ (i : Nat) (ov : Value), (n + i = o.dvs.length) ∧ get l 13 = I i ∧ get l 5 = ov ∧ St prog H H' [⟨ptr A1 0 4, 0, [(.string o.name), o.rv, o.dv, o.cv]⟩, ⟨ov, 2, pr ((List.range i).flatMap (a2g o ks))⟩]) o.dvs.length ?_ ?_
 ·simp (disch := omega) only [RB, RC, simprocAttr, hn, g1]
  exact ⟨0, .slice none 0 0, by omega, rfl, rfl, hS2⟩
 rintro n l H2 ⟨hn, g1, g4, g11, g12, i, ov, hi, g13, g5, hS3⟩
 simp (disch := omega) only [↓RA, RB, simprocAttr, hn, g12, g13]
 refine iA (fun q => ?_) (fun q => ?_)
 ·have hky := hf.keys i (by omega)
  have hx := hk.ok _ (iD (xs := ks) (j := i) (by omega))
  have hpl := a7i hf ks i (by omega)
  simp (disch := omega) only [↓RA, RZ, simprocAttr, hn, g11, g13, (hS3.sl ho.2.2.1).idx, (hS3.sl ho.2.2.1).ae, Dvn.cells, q]
  refine hS3.eNew 5 [(.string ⟨#[]⟩), (.bool false), I 0, I 0, (.slice none 0 0)] rfl rfl rfl yQ fun A2 H3 hS4 => ?_
  simp only [RT] at hS4
  simp (disch := omega) only [↓RA, RZ, simprocAttr, hn, q]
  refine hS4.aa 2 rfl [(.string (iB o.dvs i).name), (.bool (iB o.dvs i).pedal), I (iB o.dvs i).lo, I (iB o.dvs i).hi, (iB o.dvs i).sv] rfl (by simp [OC, (hS4.sl (ho.2.2.2.1 (iB o.dvs i) (iD (by omega))).1).cells.2.1]) yQ (by simp) fun H4 hS5 => ?_
  simp only [RT] at hS5
  simp (disch := omega) only [↓RA, RZ, simprocAttr, hn, hS5.ld 2 rfl, q]
  refine Wp.ak (fun n l H' => l.length = 55 ∧ get l 1 = kv ∧ get l 4 = (.slice none 0 0) ∧ get l 6 = I i ∧ get l 7 = (ptr A2 0 5) ∧ get l 11 = o.dv ∧ get l 12 = I o.dvs.length ∧ get l 13 = I i ∧ ∃ (j : Nat) (ow : Value), (n + j = ((iB o.dvs i).hi - (iB o.dvs i).lo + 1).toNat) ∧ get l 8 = I ((iB o.dvs i).lo + j) ∧ get l 5 = ow ∧ St prog H H' [⟨ptr A1 0 4, 0, [(.string o.name), o.rv, o.dv, o.cv]⟩, ⟨ow, 2, pr ((List.range i).flatMap (a2g o ks) ++ a7U o ks i j)⟩, ⟨ptr A2 0 5, 0, [(.string (iB o.dvs i).name), (.bool (iB o.dvs i).pedal), I (iB o.dvs i).lo, I (iB o.dvs i).hi, (iB o.dvs i).sv]⟩]) ((iB o.dvs i).hi - (iB o.dvs i).lo + 1).toNat ?_ ?_
  ·simp (disch := omega) only [RB, RC, simprocAttr, hn, g1, g4, g11, g12, g13, g5]
   refine ⟨0, ov, by omega, by simp, rfl, ?_⟩
   rw [show a7U o ks i 0 = [] from rfl, dm]
   exact hS5
  rintro n l H5 ⟨hn, g1, g4, g6, g7, g11, g12, g13, j, ow, hj, g8, g5, hS6⟩
  simp (disch := omega) only [↓RA, RZ, simprocAttr, hn, g7, g8, hS6.ld 2 rfl]
  refine iA (fun q2 => ?_) (fun q2 => ?_)
  ·have hsu := b2R o ks i j
   have hpj := b1G o ks i j
   obtain ⟨m, hm⟩ : ∃ m : Nat, (iB o.dvs i).lo + (j : Int) = m := ⟨((iB o.dvs i).lo + (j : Int)).toNat, by omega⟩
   rw [hm] at hsu
   simp (disch := omega) only [↓RA, RZ, simprocAttr, hn, g1, g6, g8, (hS6.sl hk.sl).idx, (hS6.sl hk.sl).aY, (hS6.sl hk.sl).ld, wH, hm]
   refine iA (fun q3 => ?_) (fun q3 => ?_)
   ·have e0 : (m : Int).tmod 64 = ((m - 64 : Nat) : Int) := by rw [show (m : Int).tmod 64 = ((m % 64 : Nat) : Int) from (ey m 64).symm]; omega
    have e1 := a0l (iB ks i).2 (m - 64) hx.2
    have e2 := zS ((iB ks i).2 >>> (m - 64)) (sX _ hx.2)
    have e3 := tb (iB ks i).2 (m - 64)
    have e4 : mM (iB ks i) (m : Int) = (iB ks i).2.testBit (m - 64) := by unfold mM; rw [if_neg (by omega), show ((m : Int) - 64).toNat = m - 64 by omega]
    simp (disch := omega) only [↓RA, RZ, simprocAttr, hn, g1, g6, g8, (hS6.sl hk.sl).idx, (hS6.sl hk.sl).aY, (hS6.sl hk.sl).ld, wH, hm, q3, e0, e1, e2]
    refine iA (fun q4 => ?_) (fun q4 => ?_)
    ·rw [e4, e3, decide_eq_true (by omega), if_pos rfl] at hsu
     simp (disch := omega) only [↓RA, RZ, simprocAttr, hn, g6, g8, g5, qX, hm, q3, q4]
     refine hS6.ai [I i, I m] qK a2Q rfl rfl (by simp [Value.cells]) rfl rfl (by decide) (by decide) fun w1 H6 hS7 => ?_
     simp only [RT] at hS7
     simp (disch := omega) only [↓RA, RZ, simprocAttr, hn, hm, q3, q4]
     refine hS7.aq 1 rfl (hS7.rd 3 rfl) qK (by rw [iJ, dp]; simp only [dT, ew]; omega) fun w2 H7 hS8 => ?_
     simp only [RT] at hS8
     simp (disch := omega) only [↓RA, RZ, simprocAttr, hn, g1, g4, g6, g7, g11, g12, g13, g8, hm, q3, q4]
     refine ⟨n - 1, by omega, j + 1, w2, by omega, by simp; omega, rfl, ?_⟩
     rw [hsu, ← ed, jJ]
     exact hS8.pick [0, 1, 2] (by decide) rfl
    rw [e4, e3, decide_eq_false (by omega), if_neg (by simp), dm] at hsu
    simp (disch := omega) only [↓RA, RZ, simprocAttr, hn, g1, g4, g6, g7, g11, g12, g13, g8, g5, hm, q3, q4]
    refine ⟨n - 1, by omega, j + 1, ow, by omega, by simp; omega, rfl, ?_⟩
    rw [hsu]
    exact hS6.pick [0, 1, 2] (by decide) rfl
   have e0 : (m : Int).tmod 64 = ((m : Nat) : Int) := by rw [show (m : Int).tmod 64 = ((m % 64 : Nat) : Int) from (ey m 64).symm]; omega
   have e1 := a0l (iB ks i).1 m hx.1
   have e2 := zS ((iB ks i).1 >>> m) (sX _ hx.1)
   have e3 := tb (iB ks i).1 m
   have e4 : mM (iB ks i) (m : Int) = (iB ks i).1.testBit m := by unfold mM; rw [if_pos (by omega)]; rfl
   simp (disch := omega) only [↓RA, RZ, simprocAttr, hn, g8, hm, q3, e0, e1, e2]
   refine iA (fun q4 => ?_) (fun q4 => ?_)
   ·rw [e4, e3, decide_eq_true (by omega), if_pos rfl] at hsu
    simp (disch := omega) only [↓RA, RZ, simprocAttr, hn, g6, g8, g5, qX, hm, q3, q4]
    refine hS6.ai [I i, I m] qK a2Q rfl rfl (by simp [Value.cells]) rfl rfl (by decide) (by decide) fun w3 H8 hS9 => ?_
    simp only [RT] at hS9
    simp (disch := omega) only [↓RA, RZ, simprocAttr, hn, hm, q3, q4]
    refine hS9.aq 1 rfl (hS9.rd 3 rfl) qK (by rw [iJ, dp]; simp only [dT, ew]; omega) fun w4 H9 hS10 => ?_
    simp only [RT] at hS10
    simp (disch := omega) only [↓RA, RZ, simprocAttr, hn, g1, g4, g6, g7, g11, g12, g13, g8, hm, q3, q4]
    refine ⟨n - 1, by omega, j + 1, w4, by omega, by simp; omega, rfl, ?_⟩
    rw [hsu, ← ed, jJ]
    exact hS10.pick [0, 1, 2] (by decide) rfl
   rw [e4, e3, decide_eq_false (by omega), if_neg (by simp), dm] at hsu
   simp (disch := omega) only [↓RA, RZ, simprocAttr, hn, g1, g4, g6, g7, g11, g12, g13, g8, g5, hm, q3, q4]
   refine ⟨n - 1, by omega, j + 1, ow, by omega, by simp; omega, rfl, ?_⟩
   rw [hsu]
   exact hS6.pick [0, 1, 2] (by decide) rfl
  simp (disch := omega) only [↓RA, RZ, simprocAttr, hn, g1, g4, g11, g12, g13, g5, q2]
  refine ⟨o.dvs.length - (i + 1), by omega, i + 1, ow, by omega, by simp, rfl, ?_⟩
  have hjj : j = ((iB o.dvs i).hi - (iB o.dvs i).lo + 1).toNat := by omega
  rw [dY, dH, dB, ez, dm]
  rw [show a2g o ks i = a7U o ks i j from by rw [hjj]; rfl]
  exact hS6.pick [0, 1] (by decide) rfl
 simp (disch := omega) only [↓RA, RZ, simprocAttr, hn, g5, c7e, q]
 have hii : i = o.dvs.length := by omega
 subst hii
 exact hS3.pick [1] (by decide) rfl
end Go.Ds
namespace Go.Ds
open Go.Proofs Go.Proofs.Tryz Go.Shelf Go.RowKit Go.Lib Go.Sort
theorem c3k (kc : FuncId) (eg : ∀ args w, (callFunc kc args).run prog w = .ok (.enter kc args) w) (hf : ∀ x y : Sm, Fn prog kc [.agg #[I x.1.1, I x.1.2], .agg #[I y.1.1, I y.1.2]] .nil fun r H' => r = I (cfd x y) ∧ St prog (.nil : Heap) H' []) : a0q prog 78 kc sm :=
 fun kJ off cap d w hs hH hblk hsz => by
  have hd : (d.toList.attachWith sm hs).toArray.map (·.1) = d := by
   rw [List.map_toArray, b9C]
  have hl : (d.toList.attachWith sm hs).toArray.size = d.size := by simp
  have hH' : HoldsK (fun x : Sm => jP x.1) 2 w kJ off (d.toList.attachWith sm hs).toArray := by
   unfold HoldsK at hH ⊢
   rw [b5f, hd]
   exact hH
  have h := AnyQ.slices_SortFunc_total Tryz.bl 2 Tryz.isAgg64 Tryz.sizeOf64 (fun x : Sm => jP x.1) (fun _ => rfl) (fun x => zT x.1) cfd c4v kc #[] kJ off cap (d.toList.attachWith sm hs).toArray w eg (a2L (fun x : Sm => x.1) cfd hf kJ off _ w) hH' hblk (by rw [hl]; exact hsz) c6N
  rw [hl] at h
  refine h.mono ?_
  rintro e w' ⟨h1, n, os, h2⟩
  exact ⟨h1, n, os, by rw [h2, b5K, List.toList_toArray, b5l, b9C]⟩
section
variable {H : Heap}
theorem b9X (x y : Sm) : Fn prog 79 [.agg #[I x.1.1, I x.1.2], .agg #[I y.1.1, I y.1.2]] H fun r H' => r = I (cfd x y) ∧ St prog H H' [] := by
 obtain ⟨⟨x1, x2⟩, hx⟩ := x
 obtain ⟨⟨y1, y2⟩, hy⟩ := y
 unfold sm at hx hy
 simp only at hx hy ⊢
 refine .aF func79 rfl (by kernel_rfl) (m := 20) rfl fun l hn g0 g1 => ?_
 simp (disch := omega) only [↓RA, RB, simprocAttr, g0]
 refine (sR H).eNew 2 [I x1, I x2] rfl rfl rfl lN fun A1 H1 hS1 => ?_
 simp only [RT] at hS1
 simp (disch := omega) only [↓RA, RB, simprocAttr, g1]
 refine hS1.eNew 2 [I y1, I y2] rfl rfl rfl lN fun A2 H2 hS2 => ?_
 simp only [RT] at hS2
 simp (disch := omega) only [↓RA, RZ, simprocAttr, hn, hS2.ld 0 rfl, hS2.ld 1 rfl]
 refine iA (fun q => ?_) (fun q => ?_)
 ·simp (disch := omega) only [↓RA, RZ, simprocAttr, hn, hS2.ld 0 rfl, hS2.ld 1 rfl, c5y, q]
  exact ⟨by unfold cfd; rw [if_pos q], hS2.forget⟩
 simp (disch := omega) only [↓RA, RZ, simprocAttr, hn, hS2.ld 0 rfl, hS2.ld 1 rfl, c5y, q]
 exact ⟨by unfold cfd; rw [if_neg q], hS2.forget⟩
end
theorem c4r : b2v 78 79 := fun hS i _ _ ho hl hsm _ h => uS (c3k 79 (enters_of func79 (by kernel_rfl) rfl) fun x y => b9X x y) c1Q c1o hS i ho hl hsm h
end Go.Ds
namespace Go.Ds
open Go.Proofs Go.Proofs.Tryz
variable {H : Heap}
set_option maxRecDepth 10000
set_option maxHeartbeats 1000000
theorem Ct.cR (a b : Ct) : (a.1 = b.1 ∧ a.2 = b.2) ↔ b = a := ⟨fun h => fO h.1.symm h.2.symm, fun h => by rw [h]; exact ⟨rfl, rfl⟩⟩
theorem a9j (v : Value) (xs : List Ct) (hv : Sl 2 jP H v xs) (hl : xs.length < 1000000000) (d : Ct) :
 Fn prog 106 [v, .agg #[I d.1, I d.2]] H fun r H' => r = I (pO (fun j => decide (iB xs j = d)) xs.length) ∧ St prog H H' [] := by
 refine .aF func106 rfl (by kernel_rfl) (m := 19) rfl fun l hn g0 g1 => ?_
 simp (disch := omega) only [↓RA, RB, simprocAttr, g1]
 refine (sR H).eNew 2 [I d.1, I d.2] rfl rfl rfl lN fun A1 H1 hS1 => ?_
 simp only [RT] at hS1
 simp (disch := omega) only [↓RA, RZ, simprocAttr, hn, g0, (hS1.sl hv).len]
 refine Wp.ak (fun n l H' => l.length = 19 ∧ get l 0 = v ∧ get l 3 = (ptr A1 0 2) ∧ get l 7 = I xs.length ∧ ∃ (j : Nat), (n + j = xs.length ∧ ∀ q, q < j → decide (iB xs q = d) = false) ∧ get l 8 = I j ∧ St prog H H' [⟨ptr A1 0 2, 0, [I d.1, I d.2]⟩]) xs.length ?_ ?_
 ·simp (disch := omega) only [RB, RC, simprocAttr, hn, g0]
  exact ⟨0, ⟨by omega, fun q hq => absurd hq (dN _)⟩, rfl, hS1⟩
 rintro n l H2 ⟨hn, g0, g3, g7, j, ⟨hi,h0⟩, g8, hS2⟩
 simp (disch := omega) only [↓RA, RB, simprocAttr, hn, g7, g8]
 refine iA (fun h => ?_) (fun h => ?_)
 ·simp (disch := omega) only [↓RA, RZ, simprocAttr, hn, g8, h]
  refine Wp.drw jY (by kernel_rfl) ?_
  simp (disch := omega) only [↓RA, RZ, simprocAttr, hn, g0, g3, hS2.ae 0 rfl, (hS2.sl hv).idx, (hS2.sl hv).ae, jP]
  refine iA (fun hp => ?_) (fun hp => ?_)
  ·simp (disch := omega) only [↓RA, RZ, simprocAttr, hn, c1m, hp]
   exact ⟨by rw [a0c _ xs.length j (by omega) (by simpa using (Ct.cR _ _).1 hp) h0], hS2.forget⟩
  simp (disch := omega) only [↓RA, RZ, simprocAttr, hn, g0, g3, g7, g8, hp]
  exact ⟨n - 1, by omega, j + 1, ⟨by omega, fun q hq => by rcases dr.1 hq with e | e; (· exact h0 q e); (· rw [e]; simpa using fun hh => hp ((Ct.cR _ _).2 hh))⟩, by simp, hS2⟩
 simp (disch := omega) only [↓RA, RZ, simprocAttr, hn, c1m, h]
 exact ⟨by rw [yF _ xs.length fun q hq => h0 q (by omega)], hS2.forget⟩
theorem a1Z (v : Value) (xs : List Ct) (hv : Sl 2 jP H v xs) (hl : xs.length < 1000000000) (d : Ct) :
 Fn prog 77 [v, .agg #[I d.1, I d.2]] H fun r H' => r = .bool (decide (d ∈ xs)) ∧ St prog H H' [] := by
 have e : decide (0 ≤ pO (fun j => decide (iB xs j = d)) xs.length) = decide (d ∈ xs) := by
  rw [eG, decide_eq_true_iff, decide_eq_true_iff, yO]
  constructor
  ·rintro ⟨j, hj, hp⟩
   rw [← of_decide_eq_true hp]; exact iD hj
  ·intro hx
   obtain ⟨j, hj, rfl⟩ := dL.1 hx
   exact ⟨j, hj, by rw [jO xs j hj]; simp⟩
 refine .aF func77 rfl (by kernel_rfl) (m := 9) rfl fun l hn g0 g1 => ?_
 simp (disch := omega) only [↓RA, RB, simprocAttr, g1]
 refine (sR H).eNew 2 [I d.1, I d.2] rfl rfl rfl lN fun A1 H1 hS1 => ?_
 simp only [RT] at hS1
 simp (disch := omega) only [↓RA, RZ, simprocAttr, hn, g0, hS1.ae 0 rfl]
 refine hS1.cF (a9j v xs (hS1.sl hv) hl d) fun H2 hS2 => ?_
 simp (disch := omega) only [↓RA, RB, simprocAttr, hn, c7X]
 rw [← e]
 first | exact hS2.forget | exact ⟨rfl, hS2.forget⟩
theorem a7S {B : Base} (o : Org) (r : Reg) (sv : Value) (c : Ct) (thr : Bool) (AO AR AQ : Nat) (qv : Value) (q : List Ct)
 (hS : St prog B H [⟨ptr AQ 0 1, 0, [qv]⟩, ⟨qv, 2, pr q⟩])
 (hO : ∀ {H1 : Heap} {os : List Ob}, St prog B H1 os → Var H1 AO 4 [.string o.name, o.rv, o.dv, o.cv] ∧ o.In H1 ∧ Var H1 AR 3 [sv, .int .u64 r.cpl, .int .u64 r.off])
 (hq : Que o q) (ho : o.Fine) (hr : r.Ok) :
 Fn prog 105 [.agg #[I c.1, I c.2], .bool thr, ptr AO 0 4, ptr AR 0 3, ptr AQ 0 1] H fun rr H' => ∃ qv', rr = .tuple #[] ∧
  St prog B H' [⟨ptr AQ 0 1, 0, [qv']⟩, ⟨qv', 2, pr (stepF o r.cpl thr c q)⟩] := by
 have hcl := ho.clen
 refine .cS func105 rfl (by kernel_rfl) (m := 64) rfl fun l hn g0 g1 g2 g3 g4 => ?_
 simp (disch := omega) only [↓RA, RB, simprocAttr, g0]
 refine hS.eNew 2 [I c.1, I c.2] rfl rfl rfl lN fun A1 H1 hS1 => ?_
 simp only [RT] at hS1
 simp (disch := omega) only [↓RA, RZ, simprocAttr, hn, g2, ((hO hS1).1).ld, ((hO hS1).2.1.2.2.2.2.1).len]
 refine Wp.ak (fun n l H' => l.length = 64 ∧ get l 1 = (.bool thr) ∧ get l 2 = (ptr AO 0 4) ∧ get l 3 = (ptr AR 0 3) ∧ get l 4 = (ptr AQ 0 1) ∧ get l 5 = (ptr A1 0 2) ∧ get l 11 = o.cv ∧ get l 12 = I o.cpls.length ∧ ∃ (i : Nat) (qv' : Value), (n + i = o.cpls.length) ∧ get l 13 = I i ∧ St prog B H' [⟨ptr AQ 0 1, 0, [qv']⟩, ⟨qv', 2, pr (stepN o r.cpl thr c q i)⟩, ⟨ptr A1 0 2, 0, [I c.1, I c.2]⟩]) o.cpls.length ?_ ?_
 ·simp (disch := omega) only [RB, RC, simprocAttr, hn, g1, g2, g3, g4]
  exact ⟨0, qv, by omega, rfl, hS1⟩
 rintro n l H2 ⟨hn, g1, g2, g3, g4, g5, g11, g12, i, qv', hi, g13, hS2⟩
 simp (disch := omega) only [↓RA, RB, simprocAttr, hn, g12, g13]
 refine iA (fun q1 => ?_) (fun q1 => ?_)
 ·have hql : (stepN o r.cpl thr c q i).length ≤ 1024 := (hq.stepN r.cpl thr c i).len ho
  have e1 := a0l r.cpl i hr.2.2.1
  have e2 := zS (r.cpl >>> i) (sX i hr.2.2.1)
  have e3 := tb r.cpl i
  have hstay : (rL r.cpl thr c (iB o.cpls i) i && lA o (to1 (iB o.cpls i) c) && !decide (to1 (iB o.cpls i) c ∈ stepN o r.cpl thr c q i)) = false → stepN o r.cpl thr c q (i + 1) = stepN o r.cpl thr c q i := fun h => by
   rw [lJ, step1, if_neg (by rw [h]; simp)]
  simp (disch := omega) only [↓RA, RZ, simprocAttr, hn, g11, g13, ((hO hS2).2.1.2.2.2.2.1).idx, ((hO hS2).2.1.2.2.2.2.1).ae, Cpl.cells, q1]
  refine hS2.eNew 5 [(.string ⟨#[]⟩), I 0, I 0, I 0, (.bool false)] rfl rfl rfl uN fun A2 H3 hS3 => ?_
  simp only [RT] at hS3
  simp (disch := omega) only [↓RA, RZ, simprocAttr, hn, q1]
  refine hS3.aa 3 rfl [(.string (iB o.cpls i).name), I (iB o.cpls i).src, I (iB o.cpls i).dst, I (iB o.cpls i).shift, (.bool (iB o.cpls i).thr)] rfl rfl uN (by simp) fun H4 hS4 => ?_
  simp only [RT] at hS4
  simp (disch := omega) only [↓RA, RZ, simprocAttr, hn, g5, hS4.ld 3 rfl, hS4.ld 2 rfl, q1]
  simp (disch := omega) only [↓RA, RZ, simprocAttr, qX]
  refine hS4.eNew 2 [I 0, I 0] rfl rfl rfl lN fun A3 H5 hS5 => ?_
  simp only [RT] at hS5
  simp (disch := omega) only [↓RA, RZ, simprocAttr, hn, q1]
  refine hS5.aa 4 rfl [I (iB o.cpls i).dst, I (mL (c.2 + (iB o.cpls i).shift))] rfl rfl lN (by simp) fun H6 hS6 => ?_
  simp only [RT] at hS6
  simp (disch := omega) only [↓RA, RZ, simprocAttr, hn, g3, ((hO hS6).2.2).ld, q1, e1, e2]
  refine jI (fun b1 => ?_) (fun b1 => ?_)
  ·have hb : r.cpl.testBit i = true := by rw [e3]; exact decide_eq_true (by omega)
   simp (disch := omega) only [↓RA, RZ, simprocAttr, hn, g5, hS6.ld 3 rfl, hS6.ld 2 rfl, q1, b1]
   refine jI (fun b2 => ?_) (fun b2 => ?_)
   ·have hsrc : (iB o.cpls i).src = c.1 := by omega
    have hgg : rL r.cpl thr c (iB o.cpls i) i = (!thr || (iB o.cpls i).thr) := by unfold rL; rw [hb, decide_eq_true hsrc]; rfl
    simp (disch := omega) only [↓RA, RZ, simprocAttr, hn, hS6.ld 3 rfl, q1, b1, b2]
    refine qU (fun b3 => ?_) (fun b3 => ?_)
    ·have hg : rL r.cpl thr c (iB o.cpls i) i = true := by rw [hgg, b3]; simp
     simp (disch := omega) only [↓RA, RZ, simprocAttr, hn, g2, ((hO hS6).1).ae, hS6.ae 4 rfl, q1, b1, b2, b3]
     refine hS6.cF (a5u o (hO hS6).2.1 ((iB o.cpls i).dst, mL (c.2 + (iB o.cpls i).shift))) fun H7 hS7 => ?_
     simp (disch := omega) only [↓RA, RZ, simprocAttr, hn, q1, b1, b2, b3]
     refine qU (fun b5 => ?_) (fun b5 => ?_)
     ·simp (disch := omega) only [↓RA, RZ, simprocAttr, hn, g4, hS7.ld 0 rfl, hS7.ae 4 rfl, q1, b1, b2, b3, b5]
      refine hS7.cF (a1Z qv' (stepN o r.cpl thr c q i) (hS7.aw 1 rfl (fun _ => rfl)) (by omega) ((iB o.cpls i).dst, mL (c.2 + (iB o.cpls i).shift))) fun H8 hS8 => ?_
      simp (disch := omega) only [↓RA, RZ, simprocAttr, hn, q1, b1, b2, b3, b5]
      refine jL (fun b6 => ?_) (fun b6 => ?_)
      ·have hs : stepN o r.cpl thr c q (i + 1) = stepN o r.cpl thr c q i ++ [((iB o.cpls i).dst, mL (c.2 + (iB o.cpls i).shift))] := by
        rw [lJ]
        unfold step1
        have hnot : ((iB o.cpls i).dst, mL (c.2 + (iB o.cpls i).shift)) ∉ stepN o r.cpl thr c q i := by simpa using b6
        rw [if_pos (by rw [hg]; simp only [to1, b5]; simp [hnot])]
        rfl
       simp (disch := omega) only [↓RA, RZ, simprocAttr, hn, g4, hS8.ld 0 rfl, hS8.ae 4 rfl, q1, b1, b2, b3, b5, b6]
       refine hS8.ai [I (iB o.cpls i).dst, I (mL (c.2 + (iB o.cpls i).shift))] qK a2Q rfl rfl (by simp [Value.cells]) rfl rfl (by decide) (by decide) fun w1 H9 hS9 => ?_
       simp only [RT] at hS9
       simp (disch := omega) only [↓RA, RZ, simprocAttr, hn, q1, b1, b2, b3, b5, b6]
       refine hS9.aq 1 rfl (hS9.rd 5 rfl) qK (by rw [iJ]; simp; omega) fun w2 H10 hS10 => ?_
       simp only [RT] at hS10
       simp (disch := omega) only [↓RA, RZ, simprocAttr, hn, g4, q1, b1, b2, b3, b5, b6]
       refine hS10.aa 0 rfl [w2] (by rw [(hS10.rd 1 rfl).cells.1]) (by simp [(hS10.rd 1 rfl).cells.2.1]) b1d (by simp) fun H11 hS11 => ?_
       simp only [RT] at hS11
       simp (disch := omega) only [↓RA, RZ, simprocAttr, hn, g1, g2, g3, g4, g5, g11, g12, g13, q1, b1, b2, b3, b5, b6]
       refine ⟨n - 1, by omega, i + 1, w2, by omega, by simp, ?_⟩
       rw [hs, jJ]
       exact hS11.pick [0, 1, 2] (by decide) rfl
      have hin : ((iB o.cpls i).dst, mL (c.2 + (iB o.cpls i).shift)) ∈ stepN o r.cpl thr c q i := by simpa using b6
      have hs := hstay (by simp only [to1]; simp [hin])
      simp (disch := omega) only [↓RA, RZ, simprocAttr, hn, g1, g2, g3, g4, g5, g11, g12, g13, q1, b1, b2, b3, b5, b6]
      exact ⟨n - 1, by omega, i + 1, qv', by omega, by simp, by rw [hs]; exact hS8.pick [0, 1, 2] (by decide) rfl⟩
     have hs := hstay (by rw [eM, eM]; exact .inl (.inr (by simpa [to1] using b5)))
     simp (disch := omega) only [↓RA, RZ, simprocAttr, hn, g1, g2, g3, g4, g5, g11, g12, g13, q1, b1, b2, b3, b5]
     exact ⟨n - 1, by omega, i + 1, qv', by omega, by simp, by rw [hs]; exact hS7.pick [0, 1, 2] (by decide) rfl⟩
    simp (disch := omega) only [↓RA, RZ, simprocAttr, hn, g1, q1, b1, b2, b3]
    refine qU (fun b4 => ?_) (fun b4 => ?_)
    ·have hg : rL r.cpl thr c (iB o.cpls i) i = true := by
      have : thr = false := by simpa using b4
      rw [hgg, this]; rfl
     simp (disch := omega) only [↓RA, RZ, simprocAttr, hn, g2, ((hO hS6).1).ae, hS6.ae 4 rfl, q1, b1, b2, b3, b4]
     refine hS6.cF (a5u o (hO hS6).2.1 ((iB o.cpls i).dst, mL (c.2 + (iB o.cpls i).shift))) fun H12 hS12 => ?_
     simp (disch := omega) only [↓RA, RZ, simprocAttr, hn, q1, b1, b2, b3, b4]
     refine qU (fun b5 => ?_) (fun b5 => ?_)
     ·simp (disch := omega) only [↓RA, RZ, simprocAttr, hn, g4, hS12.ld 0 rfl, hS12.ae 4 rfl, q1, b1, b2, b3, b4, b5]
      refine hS12.cF (a1Z qv' (stepN o r.cpl thr c q i) (hS12.aw 1 rfl (fun _ => rfl)) (by omega) ((iB o.cpls i).dst, mL (c.2 + (iB o.cpls i).shift))) fun H13 hS13 => ?_
      simp (disch := omega) only [↓RA, RZ, simprocAttr, hn, q1, b1, b2, b3, b4, b5]
      refine jL (fun b6 => ?_) (fun b6 => ?_)
      ·have hs : stepN o r.cpl thr c q (i + 1) = stepN o r.cpl thr c q i ++ [((iB o.cpls i).dst, mL (c.2 + (iB o.cpls i).shift))] := by
        rw [lJ]
        unfold step1
        have hnot : ((iB o.cpls i).dst, mL (c.2 + (iB o.cpls i).shift)) ∉ stepN o r.cpl thr c q i := by simpa using b6
        rw [if_pos (by rw [hg]; simp only [to1, b5]; simp [hnot])]
        rfl
       simp (disch := omega) only [↓RA, RZ, simprocAttr, hn, g4, hS13.ld 0 rfl, hS13.ae 4 rfl, q1, b1, b2, b3, b4, b5, b6]
       refine hS13.ai [I (iB o.cpls i).dst, I (mL (c.2 + (iB o.cpls i).shift))] qK a2Q rfl rfl (by simp [Value.cells]) rfl rfl (by decide) (by decide) fun w3 H14 hS14 => ?_
       simp only [RT] at hS14
       simp (disch := omega) only [↓RA, RZ, simprocAttr, hn, q1, b1, b2, b3, b4, b5, b6]
       refine hS14.aq 1 rfl (hS14.rd 5 rfl) qK (by rw [iJ]; simp; omega) fun w4 H15 hS15 => ?_
       simp only [RT] at hS15
       simp (disch := omega) only [↓RA, RZ, simprocAttr, hn, g4, q1, b1, b2, b3, b4, b5, b6]
       refine hS15.aa 0 rfl [w4] (by rw [(hS15.rd 1 rfl).cells.1]) (by simp [(hS15.rd 1 rfl).cells.2.1]) b1d (by simp) fun H16 hS16 => ?_
       simp only [RT] at hS16
       simp (disch := omega) only [↓RA, RZ, simprocAttr, hn, g1, g2, g3, g4, g5, g11, g12, g13, q1, b1, b2, b3, b4, b5, b6]
       refine ⟨n - 1, by omega, i + 1, w4, by omega, by simp, ?_⟩
       rw [hs, jJ]
       exact hS16.pick [0, 1, 2] (by decide) rfl
      have hin : ((iB o.cpls i).dst, mL (c.2 + (iB o.cpls i).shift)) ∈ stepN o r.cpl thr c q i := by simpa using b6
      have hs := hstay (by simp only [to1]; simp [hin])
      simp (disch := omega) only [↓RA, RZ, simprocAttr, hn, g1, g2, g3, g4, g5, g11, g12, g13, q1, b1, b2, b3, b4, b5, b6]
      exact ⟨n - 1, by omega, i + 1, qv', by omega, by simp, by rw [hs]; exact hS13.pick [0, 1, 2] (by decide) rfl⟩
     have hs := hstay (by rw [eM, eM]; exact .inl (.inr (by simpa [to1] using b5)))
     simp (disch := omega) only [↓RA, RZ, simprocAttr, hn, g1, g2, g3, g4, g5, g11, g12, g13, q1, b1, b2, b3, b4, b5]
     exact ⟨n - 1, by omega, i + 1, qv', by omega, by simp, by rw [hs]; exact hS12.pick [0, 1, 2] (by decide) rfl⟩
    have h4 : thr = true := by simpa using b4
    have h3 : (iB o.cpls i).thr = false := by simpa using b3
    have hs := hstay (by rw [hgg, h4, h3]; rfl)
    simp (disch := omega) only [↓RA, RZ, simprocAttr, hn, g1, g2, g3, g4, g5, g11, g12, g13, q1, b1, b2, b3, b4]
    exact ⟨n - 1, by omega, i + 1, qv', by omega, by simp, by rw [hs]; exact hS6.pick [0, 1, 2] (by decide) rfl⟩
   have hs := hstay (by unfold rL; rw [decide_eq_false (by omega)]; simp)
   simp (disch := omega) only [↓RA, RZ, simprocAttr, hn, g1, g2, g3, g4, g5, g11, g12, g13, q1, b1, b2]
   exact ⟨n - 1, by omega, i + 1, qv', by omega, by simp, by rw [hs]; exact hS6.pick [0, 1, 2] (by decide) rfl⟩
  have hs := hstay (by unfold rL; rw [e3, decide_eq_false (by omega)]; rfl)
  simp (disch := omega) only [↓RA, RZ, simprocAttr, hn, g1, g2, g3, g4, g5, g11, g12, g13, q1, b1]
  exact ⟨n - 1, by omega, i + 1, qv', by omega, by simp, by rw [hs]; exact hS6.pick [0, 1, 2] (by decide) rfl⟩
 simp (disch := omega) only [↓RA, RZ, simprocAttr, c5Q, q1]
 have hii : i = o.cpls.length := by omega
 subst hii
 exact ⟨qv', hS2.pick [0, 1] (by decide) rfl⟩
theorem a5J (o : Org) (ho : o.In H) (hf : o.Fine) (r : Reg) (sv : Value) (hr : r.In H sv) (fv : Value) (first : List Ct) (hfi : Sl 2 jP H fv first) (hfl : first.length ≤ 1024) :
 Fn prog 76 [.agg #[.string o.name, o.rv, o.dv, o.cv], .agg #[sv, .int .u64 r.cpl, .int .u64 r.off], fv] H fun rr H' => St prog H H' [⟨rr, 2, pr (bfs o r.cpl 1100 0 (kI o r.cpl first))⟩] := by
 refine .bd func76 rfl (by kernel_rfl) (m := 36) rfl fun l hn g0 g1 g2 => ?_
 simp (disch := omega) only [↓RA, RB, simprocAttr, g0]
 refine (sR H).eNew 4 [(.string o.name), o.rv, o.dv, o.cv] rfl rfl (by simp [OC, ((sR H).sl ho.1).cells.2.1, ((sR H).sl ho.2.2.1).cells.2.1, ((sR H).sl ho.2.2.2.2.1).cells.2.1]) lU fun A1 H1 hS1 => ?_
 simp only [RT] at hS1
 simp (disch := omega) only [↓RA, RB, simprocAttr, g1]
 refine hS1.eNew 3 [sv, (.int .u64 r.cpl), (.int .u64 r.off)] rfl rfl (by simp [OC, (hS1.sl hr.1).cells.2.1]) nW fun A2 H2 hS2 => ?_
 simp only [RT] at hS2
 simp (disch := omega) only [↓RA, RZ, simprocAttr]
 refine hS2.eNew 1 [(.slice none 0 0)] rfl rfl rfl b1d fun A3 H3 hS3 => ?_
 simp only [RT] at hS3
 simp (disch := omega) only [↓RA, RZ, simprocAttr, hn, g2, (hS3.sl hfi).len]
 have hS4 := hS3.nil 1
 simp only [RT] at hS4
 refine Wp.ak (fun n l H' => l.length = 36 ∧ get l 6 = (.slice none 0 0) ∧ get l 7 = (ptr A3 0 1) ∧ get l 8 = (.func (.func 105) #[] #[(ptr A1 0 4), (ptr A2 0 3), (ptr A3 0 1)]) ∧ get l 13 = fv ∧ get l 14 = I first.length ∧ ∃ (i : Nat) (qv : Value), (n + i = first.length) ∧ get l 15 = I i ∧ St prog H H' [⟨ptr A1 0 4, 0, [(.string o.name), o.rv, o.dv, o.cv]⟩, ⟨ptr A2 0 3, 0, [sv, (.int .u64 r.cpl), (.int .u64 r.off)]⟩, ⟨ptr A3 0 1, 0, [qv]⟩, ⟨qv, 2, pr (kI o r.cpl (first.take i))⟩]) first.length ?_ ?_
 ·simp (disch := omega) only [RB, RC, simprocAttr, hn]
  refine ⟨0, .slice none 0 0, by omega, rfl, ?_⟩
  rw [show kI o r.cpl (first.take 0) = [] from rfl]
  exact hS4
 rintro n l H4 ⟨hn, g6, g7, g8, g13, g14, i, qv, hi, g15, hS5⟩
 simp (disch := omega) only [↓RA, RB, simprocAttr, hn, g14, g15]
 refine iA (fun q1 => ?_) (fun q1 => ?_)
 ·have hqu := nX o r.cpl (first.take i)
  have hqs := a1e o r.cpl first i (by omega)
  simp (disch := omega) only [↓RA, RZ, simprocAttr, hn, g13, g15, (hS5.sl hfi).idx, (hS5.sl hfi).ae, jP, q1]
  refine hS5.eNew 2 [I 0, I 0] rfl rfl rfl lN fun A4 H5 hS6 => ?_
  simp only [RT] at hS6
  simp (disch := omega) only [↓RA, RZ, simprocAttr, hn, q1]
  refine hS6.aa 4 rfl [I (iB first i).1, I (iB first i).2] rfl rfl lN (by simp) fun H6 hS7 => ?_
  simp only [RT] at hS7
  simp (disch := omega) only [↓RA, RZ, simprocAttr, hn, g8, hS7.ae 4 rfl, q1]
  have hM1 := hS7.pick (os' := [⟨ptr A3 0 1, 0, _⟩, ⟨qv, 2, _⟩]) [2, 3] (by decide) rfl
  have hR1 := hS7.pick (os' := [⟨ptr A3 0 1, 0, _⟩, ⟨qv, 2, _⟩, ⟨ptr A1 0 4, 0, _⟩, ⟨ptr A2 0 3, 0, _⟩, ⟨ptr A4 0 2, 0, _⟩]) [2, 3, 0, 1, 4] (by decide) rfl
  refine iG (a7S o r sv (iB first i) false A1 A2 A3 qv (kI o r.cpl (first.take i)) hM1.aD (fun h => ⟨(hR1.frame h.forget).var 0 rfl, ho.ab (hR1.frame h.forget), (hR1.frame h.forget).var 1 rfl⟩) hqu hf hr.2) ?_
  rintro r H7 ⟨qv', rfl, hT1⟩
  have hS8 := hR1.frame hT1
  simp only [RT] at hS8
  simp (disch := omega) only [↓RA, RZ, simprocAttr, hn, g6, g7, g8, g13, g14, g15, q1]
  refine ⟨n - 1, by omega, i + 1, qv', by omega, by simp, ?_⟩
  rw [hqs]
  exact hS8.pick [2, 3, 0, 1] (by decide) rfl
 simp (disch := omega) only [↓RA, RZ, simprocAttr, q1]
 have hii : i = first.length := by omega
 subst hii
 rw [dU] at hS5
 have hqu := nX o r.cpl first
 refine Wp.ak (fun n l H' => l.length = 36 ∧ get l 6 = (.slice none 0 0) ∧ get l 7 = (ptr A3 0 1) ∧ get l 8 = (.func (.func 105) #[] #[(ptr A1 0 4), (ptr A2 0 3), (ptr A3 0 1)]) ∧ ∃ (j : Nat) (qv : Value) (q : List Ct), (n + j = 1100 ∧ bfs o r.cpl n j q = bfs o r.cpl 1100 0 (kI o r.cpl first) ∧ Que o q) ∧ get l 11 = I j ∧ St prog H H' [⟨ptr A1 0 4, 0, [(.string o.name), o.rv, o.dv, o.cv]⟩, ⟨ptr A2 0 3, 0, [sv, (.int .u64 r.cpl), (.int .u64 r.off)]⟩, ⟨ptr A3 0 1, 0, [qv]⟩, ⟨qv, 2, pr q⟩]) 1100 ?_ ?_
 ·simp (disch := omega) only [RB, RC, simprocAttr, hn, g6, g7, g8]
  exact ⟨0, qv, _, ⟨rfl, rfl, hqu⟩, rfl, hS5⟩
 rintro n l H8 ⟨hn, g6, g7, g8, j, qv, q, ⟨hj,hbf,hqq⟩, g11, hS9⟩
 have hql := hqq.len hf
 simp (disch := omega) only [↓RA, RZ, simprocAttr, hn, g7, g11, hS9.ld 2 rfl, (hS9.aw 3 rfl (fun _ => rfl)).len]
 refine iA (fun q3 => ?_) (fun q3 => ?_)
 ·have hjl : j < q.length := by omega
  simp (disch := omega) only [↓RA, RZ, simprocAttr, hn, g7, g8, g11, hS9.ld 2 rfl, (hS9.aw 3 rfl (fun _ => rfl)).idx, (hS9.aw 3 rfl (fun _ => rfl)).ae, jP, q3]
  have hM2 := hS9.pick (os' := [⟨ptr A3 0 1, 0, _⟩, ⟨qv, 2, _⟩]) [2, 3] (by decide) rfl
  have hR2 := hS9.pick (os' := [⟨ptr A3 0 1, 0, _⟩, ⟨qv, 2, _⟩, ⟨ptr A1 0 4, 0, _⟩, ⟨ptr A2 0 3, 0, _⟩]) [2, 3, 0, 1] (by decide) rfl
  refine iG (a7S o r sv (iB q j) true A1 A2 A3 qv q hM2.aD (fun h => ⟨(hR2.frame h.forget).var 0 rfl, ho.ab (hR2.frame h.forget), (hR2.frame h.forget).var 1 rfl⟩) hqq hf hr.2) ?_
  rintro r H9 ⟨qv', rfl, hT2⟩
  have hS10 := hR2.frame hT2
  simp only [RT] at hS10
  simp (disch := omega) only [↓RA, RZ, simprocAttr, hn, g6, g7, g8, g11, q3]
  obtain ⟨n', rfl⟩ : ∃ n', n = n' + 1 := ⟨n - 1, by omega⟩
  rw [bfs, if_pos hjl] at hbf
  exact ⟨n', by omega, j + 1, qv', _, ⟨by omega, hbf, hqq.stepF _ _ _⟩, by simp, hS10.pick [2, 3, 0, 1] (by decide) rfl⟩
 have hbq : bfs o r.cpl 1100 0 (kI o r.cpl first) = q := by
  rw [← hbf]
  cases n with
  | zero => rfl
  | succ n => rw [bfs, if_neg (by omega)]
 simp (disch := omega) only [↓RA, RZ, simprocAttr, hn, g7, hS9.ld 2 rfl, c7F, q3]
 rw [hbq]
 exact hS9.pick [3] (by decide) rfl
theorem a8d {o : Org} {r : Reg} {l q : List Ct} (hq : Que o q) (hl : ∀ c ∈ l, lA o c = true) : Que o (l.foldl (sF r) q) :=
 ⟨xV hq.1, fun c hc => by
  rcases a2v.1 hc with h | h
  ·exact hq.2 c h
  ·exact hl c h.1⟩
theorem c3q {o : Org} (hf : o.Fine) {q : List Ct} (hq : Que o q) : ∀ x ∈ q, sm x := fun x hx => by
 have := vR hf (hq.2 x hx)
 unfold sm
 omega
theorem a3E (o : Org) (ho : o.In H) (hf : o.Fine) (rg : Reg) (sv : Value) (hr : rg.In H sv) (kv : Value) (ks : List Nt) (hk : Ks H kv ks) (h0 : lR o ks = 0) :
 Fn prog 44 [.agg #[.string o.name, o.rv, o.dv, o.cv], .agg #[sv, .int .u64 rg.cpl, .int .u64 rg.off], kv] H fun rr H' => St prog H H' [⟨rr, 2, pr (jZ o rg (iF ks))⟩] := by
 have hkl := (mI h0).2.1
 have hple := c0K hk.ok h0
 have hpll := pN h0
 have hplc := nH hk.ok h0
 refine .bd func44 rfl (by kernel_rfl) (m := 46) rfl fun l hn g0 g1 g2 => ?_
 simp (disch := omega) only [↓RA, RB, simprocAttr, g0]
 refine (sR H).eNew 4 [(.string o.name), o.rv, o.dv, o.cv] rfl rfl (by simp [OC, ((sR H).sl ho.1).cells.2.1, ((sR H).sl ho.2.2.1).cells.2.1, ((sR H).sl ho.2.2.2.2.1).cells.2.1]) lU fun A1 H1 hS1 => ?_
 simp only [RT] at hS1
 simp (disch := omega) only [↓RA, RB, simprocAttr, g1]
 refine hS1.eNew 3 [sv, (.int .u64 rg.cpl), (.int .u64 rg.off)] rfl rfl (by simp [OC, (hS1.sl hr.1).cells.2.1]) nW fun A2 H2 hS2 => ?_
 simp only [RT] at hS2
 simp (disch := omega) only [↓RA, RZ, simprocAttr, hn, g2, hS2.ae 0 rfl]
 refine iG ((a8C o (ho.ab hS2) hf kv ks (hk.ab hS2) hkl).tr) ?_
 rintro r H3 ⟨-, hT1⟩
 have hS3 := hS2.trans hT1
 simp only [RT] at hS3
 obtain ⟨pv, rfl⟩ : ∃ w, w = r := ⟨r, rfl⟩
 rw [hple] at hS3
 simp (disch := omega) only [↓RA, RZ, simprocAttr, hn, hS3.ae 0 rfl, hS3.ae 1 rfl]
 refine iG ((a5J o (ho.ab hS3) hf rg sv (hr.ab hS3) pv (iF ks) (hS3.aw 2 rfl jS) hpll).tr) ?_
 rintro r H4 ⟨-, hT2⟩
 have hS4 := hS3.trans hT2
 simp only [RT] at hS4
 obtain ⟨qv, rfl⟩ : ∃ w, w = r := ⟨r, rfl⟩
 have hQ := a6j rg.cpl 1100 0 _ (xS o rg.cpl (iF ks))
 have hfin : b8n o rg (iF ks) = pG ((iF ks).foldl (sF rg) (bfs o rg.cpl 1100 0 (kI o rg.cpl (iF ks)))) := rfl
 rw [b6L] at hfin
 rw [hfin]
 clear hfin
 simp (disch := omega) only [↓RA, RZ, simprocAttr, hn, (hS4.aw 2 rfl jS).len]
 refine Wp.ak (fun n l H' => l.length = 46 ∧ get l 4 = (ptr A2 0 3) ∧ get l 6 = (.slice none 0 0) ∧ get l 18 = pv ∧ get l 19 = I (iF ks).length ∧ ∃ (i : Nat) (ov : Value), (n + i = (iF ks).length) ∧ get l 20 = I i ∧ get l 8 = ov ∧ St prog H H' [⟨ptr A1 0 4, 0, [(.string o.name), o.rv, o.dv, o.cv]⟩, ⟨ptr A2 0 3, 0, [sv, (.int .u64 rg.cpl), (.int .u64 rg.off)]⟩, ⟨pv, 2, pr (iF ks)⟩, ⟨ov, 2, pr (((iF ks).take i).foldl (sF rg) (bfs o rg.cpl 1100 0 (kI o rg.cpl (iF ks))))⟩]) (iF ks).length ?_ ?_
 ·simp (disch := omega) only [RB, RC, simprocAttr, hn]
  exact ⟨0, qv, by omega, rfl, rfl, hS4⟩
 rintro n l H5 ⟨hn, g4, g6, g18, g19, i, ov, hi, g20, g8, hS5⟩
 simp (disch := omega) only [↓RA, RB, simprocAttr, hn, g19, g20]
 refine iA (fun q1 => ?_) (fun q1 => ?_)
 ·have hci := (kM o _).1 (hplc _ (iD (xs := iF ks) (j := i) (by omega)))
  have hqi : Que o (((iF ks).take i).foldl (sF rg) (bfs o rg.cpl 1100 0 (kI o rg.cpl (iF ks)))) := a8d hQ fun c hc => hplc c (fU hc)
  have hql := hqi.len hf
  have hsu : ((iF ks).take (i + 1)).foldl (sF rg) (bfs o rg.cpl 1100 0 (kI o rg.cpl (iF ks))) = sF rg (((iF ks).take i).foldl (sF rg) (bfs o rg.cpl 1100 0 (kI o rg.cpl (iF ks)))) (iB (iF ks) i) := by
   rw [kG _ i (by omega), fz]
   rfl
  generalize ((iF ks).take i).foldl (sF rg) (bfs o rg.cpl 1100 0 (kI o rg.cpl (iF ks))) = Q at *
  have hd8 := hf.dlen
  obtain ⟨d, hd⟩ : ∃ d : Nat, (iB (iF ks) i).1.toNat = d := ⟨_, rfl⟩
  have hwd : IntKind.wrap .u64 (iB (iF ks) i).1 = ((d : Nat) : Int) := by rw [mY _ (by omega) (by omega)]; omega
  have e1 := a0l rg.off d hr.2.2.2.2
  have e2 := zS (rg.off >>> d) (sX _ hr.2.2.2.2)
  have e3 := tb rg.off d
  simp (disch := omega) only [↓RA, RZ, simprocAttr, hn, g18, g20, (hS5.aw 2 rfl jS).idx, (hS5.aw 2 rfl jS).ae, jP, q1]
  refine hS5.eNew 2 [I 0, I 0] rfl rfl rfl lN fun A3 H6 hS6 => ?_
  simp only [RT] at hS6
  simp (disch := omega) only [↓RA, RZ, simprocAttr, hn, q1]
  refine hS6.aa 4 rfl [I (iB (iF ks) i).1, I (iB (iF ks) i).2] rfl rfl lN (by simp) fun H7 hS7 => ?_
  simp only [RT] at hS7
  simp (disch := omega) only [↓RA, RZ, simprocAttr, hn, g4, hS7.ld 1 rfl, hS7.ld 4 rfl, q1, e1, e2, hwd]
  refine jI (fun q2 => ?_) (fun q2 => ?_)
  ·have hb : rg.off.testBit (iB (iF ks) i).1.toNat = false := by rw [hd, e3]; exact decide_eq_false (by omega)
   simp (disch := omega) only [↓RA, RZ, simprocAttr, hn, g8, hS7.ae 4 rfl, q1, q2]
   refine hS7.cF (a1Z ov Q (hS7.aw 3 rfl jS) (by omega) (iB (iF ks) i)) fun H8 hS8 => ?_
   simp (disch := omega) only [↓RA, RZ, simprocAttr, hn, q1, q2]
   refine jL (fun q3 => ?_) (fun q3 => ?_)
   ·have hs : sF rg Q (iB (iF ks) i) = Q ++ [iB (iF ks) i] := by unfold sF; rw [if_pos (by rw [hb]; simpa using q3)]
    simp (disch := omega) only [↓RA, RZ, simprocAttr, hn, g8, hS8.ae 4 rfl, q1, q2, q3]
    refine hS8.ai [I (iB (iF ks) i).1, I (iB (iF ks) i).2] qK a2Q rfl rfl (by simp [Value.cells]) rfl rfl (by decide) (by decide) fun w1 H9 hS9 => ?_
    simp only [RT] at hS9
    simp (disch := omega) only [↓RA, RZ, simprocAttr, hn, q1, q2, q3]
    refine hS9.aq 3 rfl (hS9.rd 5 rfl) qK (by rw [iJ]; simp; omega) fun w2 H10 hS10 => ?_
    simp only [RT] at hS10
    simp (disch := omega) only [↓RA, RZ, simprocAttr, hn, g4, g6, g18, g19, g20, q1, q2, q3]
    refine ⟨n - 1, by omega, i + 1, w2, by omega, by simp, rfl, ?_⟩
    rw [hsu, hs, jJ]
    exact hS10.pick [0, 1, 2, 3] (by decide) rfl
   have hs : sF rg Q (iB (iF ks) i) = Q := by unfold sF; rw [if_neg (by rw [hb]; simpa using q3)]
   simp (disch := omega) only [↓RA, RZ, simprocAttr, hn, g4, g6, g18, g19, g20, g8, q1, q2, q3]
   refine ⟨n - 1, by omega, i + 1, ov, by omega, by simp, rfl, ?_⟩
   rw [hsu, hs]
   exact hS8.pick [0, 1, 2, 3] (by decide) rfl
  have hb : rg.off.testBit (iB (iF ks) i).1.toNat = true := by rw [hd, e3]; exact decide_eq_true (by omega)
  have hs : sF rg Q (iB (iF ks) i) = Q := by unfold sF; rw [if_neg (by rw [hb]; simp)]
  simp (disch := omega) only [↓RA, RZ, simprocAttr, hn, g4, g6, g18, g19, g20, g8, q1, q2]
  refine ⟨n - 1, by omega, i + 1, ov, by omega, by simp, rfl, ?_⟩
  rw [hsu, hs]
  exact hS7.pick [0, 1, 2, 3] (by decide) rfl
 simp (disch := omega) only [↓RA, RZ, simprocAttr, hn, g8, q1]
 have hii : i = (iF ks).length := by omega
 rw [hii, dU] at hS5
 have hqn : Que o ((iF ks).foldl (sF rg) (bfs o rg.cpl 1100 0 (kI o rg.cpl (iF ks)))) := a8d hQ hplc
 have hql := hqn.len hf
 refine c4r hS5 3 rfl (by omega) (c3q hf hqn) fun HS hSS => ?_
 simp only [fN, ff] at hSS
 simp (disch := omega) only [↓RA, RZ, simprocAttr, hn, g8, c7Y, q1]
 exact hSS.pick [3] (by decide) rfl
theorem a6F {m : Nat} {l : List Drw} (h : kZ m l = 0) : l.length ≤ 8 ∧ ∀ q, q < l.length → 0 ≤ (iB l q).rank ∧ (iB l q).rank < m := by
 unfold kZ at h
 split at h
 ·omega
 refine ⟨by omega, fun q hq => ?_⟩
 have e := pP h q hq
 unfold kP at e
 split at e
 ·omega
 ·omega
def uR (o : Org) (rg : Reg) (j i : Nat) (z : Int) (k : Nat) : List Ct := if (iB rg.stops j).testBit i then ((iB (iB o.dvs j).stops i).segs.take k).flatMap fun g => rR o g z else []
def dr3 (o : Org) (z : Int) (l : List Drw) : List Ct := (l.filter fun d => rG o.ranks d z).map fun d => mQ o.ranks d z
theorem b7J (o : Org) (z : Int) (l : List Drw) : (dr3 o z l).length ≤ l.length := by
 unfold dr3
 rw [ek]
 exact eh _ _
theorem b6g (o : Org) (z : Int) (l : List Drw) (q : Nat) (h : q < l.length) : dr3 o z (l.take (q + 1)) = dr3 o z (l.take q) ++ (if rG o.ranks (iB l q) z then [mQ o.ranks (iB l q) z] else []) := by
 unfold dr3
 rw [kG l q h, eQ, dS]
 congr 1
 cases e : rG o.ranks (iB l q) z <;> simp [e]
theorem b6f {o : Org} (g : Seg) (z : Int) (h : g.draws.length ≤ 8) : (rR o g z).length ≤ 8 := by
 unfold rR
 split
 ·exact dC (b7J o z g.draws) h
 ·simp
theorem b1z {o : Org} (z : Int) : ∀ (gs : List Seg), (∀ g ∈ gs, g.draws.length ≤ 8) → (gs.flatMap fun g => rR o g z).length ≤ gs.length * 8
 | [], _ => by simp
 | g :: gs, h => by
   have h1 := b6f (o := o) g z (h g (dJ ..))
   have h2 := b1z (o := o) z gs fun x hx => h x (dR _ hx)
   rw [dB, dp, dT]
   omega
theorem c0z {o : Org} (rg : Reg) (j i : Nat) (z : Int) (k : Nat) (h : ∀ g ∈ (iB (iB o.dvs j).stops i).segs, g.draws.length ≤ 8) (h2 : (iB (iB o.dvs j).stops i).segs.length ≤ 12) : (uR o rg j i z k).length ≤ 96 := by
 unfold uR
 split
 ·have h1 := b1z (o := o) z ((iB (iB o.dvs j).stops i).segs.take k) fun g hg => h g (fU hg)
  have h3 := List.length_take_le k (iB (iB o.dvs j).stops i).segs
  have h4 : ((iB (iB o.dvs j).stops i).segs.take k).length ≤ (iB (iB o.dvs j).stops i).segs.length := by rw [gk]; omega
  omega
 ·simp
theorem a3X (o : Org) (rg : Reg) (j i : Nat) (z : Int) : vK o rg ((j : Int), z) i = uR o rg j i z (iB (iB o.dvs j).stops i).segs.length := by
 unfold vK uR
 simp only [dF]
 rw [dU]
theorem a4d {o : Org} (rg : Reg) (j : Nat) (z : Int) (h : ∀ i, i < (iB o.dvs j).stops.length → (uR o rg j i z (iB (iB o.dvs j).stops i).segs.length).length ≤ 96) : ∀ i, i ≤ (iB o.dvs j).stops.length → ((List.range i).flatMap (vK o rg ((j : Int), z))).length ≤ i * 96
 | 0, _ => by simp
 | i + 1, hi => by
   have h1 := a4d rg j z h i (by omega)
   have h2 := h i (by omega)
   rw [dY, dH, dp, dB, ez, dm, a3X]
   omega
theorem b5t (o : Org) (ho : o.In H) (h0 : organE o = 0) (rg : Reg) (sv : Value) (hr : rg.In H sv) (hrl : rg.stops.length = o.dvs.length) (j : Nat) (z : Int) (hc : lA o ((j : Int), z) = true) :
 Fn prog 45 [.agg #[.string o.name, o.rv, o.dv, o.cv], .agg #[sv, .int .u64 rg.cpl, .int .u64 rg.off], .agg #[I j, I z]] H fun rr H' => Slx 2 jP H' (fun B => H.length ≤ B) rr (dd (pG (pX o rg ((j : Int), z)))) ∧ St prog H H' [] := by
 have hf := Org.aI h0
 have hcc := (kM o _).1 hc
 simp only [dF] at hcc
 have hj : j < o.dvs.length := by omega
 have hky := hf.keys j hj
 have hst := hf.stops j hj
 have hsb : ∀ i, i < (iB o.dvs j).stops.length → iB (iB o.dvs j).stops i ∈ (iB o.dvs j).stops := fun i hi => iD hi
 have hsl : ∀ i, i < (iB o.dvs j).stops.length → ∀ k, (uR o rg j i z k).length ≤ 96 := fun i hi k => c0z rg j i z k (hf.draws j hj _ (hsb i hi)) (a0H h0 hj (hsb i hi)).len
 have hdl := a4d rg j z fun i hi => hsl i hi _
 refine .bd func45 rfl (by kernel_rfl) (m := 108) rfl fun l hn g0 g1 g2 => ?_
 simp (disch := omega) only [↓RA, RB, simprocAttr, g0]
 refine (sR H).eNew 4 [(.string o.name), o.rv, o.dv, o.cv] rfl rfl (by simp [OC, ((sR H).sl ho.1).cells.2.1, ((sR H).sl ho.2.2.1).cells.2.1, ((sR H).sl ho.2.2.2.2.1).cells.2.1]) lU fun A1 H1 hS1 => ?_
 simp only [RT] at hS1
 simp (disch := omega) only [↓RA, RB, simprocAttr, g1]
 refine hS1.eNew 3 [sv, (.int .u64 rg.cpl), (.int .u64 rg.off)] rfl rfl (by simp [OC, (hS1.sl hr.1).cells.2.1]) nW fun A2 H2 hS2 => ?_
 simp only [RT] at hS2
 simp (disch := omega) only [↓RA, RB, simprocAttr, g2]
 refine hS2.eNew 2 [I j, I z] rfl rfl rfl lN fun A3 H3 hS3 => ?_
 simp only [RT] at hS3
 simp (disch := omega) only [↓RA, RZ, simprocAttr, hn, hS3.ld 0 rfl, hS3.ld 2 rfl, (hS3.sl ho.2.2.1).idx, (hS3.sl ho.2.2.1).aY, (hS3.sl ho.2.2.1).ld, Dvn.cells, (hS3.sl (ho.2.2.2.1 (iB o.dvs j) (iD (by omega))).1).len]
 have hS4 := hS3.nil 1
 simp only [RT] at hS4
 refine Wp.ak (fun n l H' => l.length = 108 ∧ get l 3 = (ptr A1 0 4) ∧ get l 4 = (ptr A2 0 3) ∧ get l 5 = (ptr A3 0 2) ∧ get l 6 = (.slice none 0 0) ∧ get l 21 = (iB o.dvs j).sv ∧ get l 22 = I (iB o.dvs j).stops.length ∧ ∃ (i : Nat) (ov : Value), (n + i = (iB o.dvs j).stops.length) ∧ get l 23 = I i ∧ get l 7 = ov ∧ St prog H H' [⟨ptr A1 0 4, 0, [(.string o.name), o.rv, o.dv, o.cv]⟩, ⟨ptr A2 0 3, 0, [sv, (.int .u64 rg.cpl), (.int .u64 rg.off)]⟩, ⟨ptr A3 0 2, 0, [I j, I z]⟩, ⟨ov, 2, pr ((List.range i).flatMap (vK o rg ((j : Int), z)))⟩]) (iB o.dvs j).stops.length ?_ ?_
 ·simp (disch := omega) only [RB, RC, simprocAttr, hn]
  exact ⟨0, .slice none 0 0, by omega, rfl, rfl, hS4⟩
 rintro n l H4 ⟨hn, g3, g4, g5, g6, g21, g22, i, ov, hi, g23, g7, hS5⟩
 simp (disch := omega) only [↓RA, RB, simprocAttr, hn, g22, g23]
 refine iA (fun q1 => ?_) (fun q1 => ?_)
 ·have hil : i < (iB o.dvs j).stops.length := by omega
  have hso := a0H h0 hj (hsb i hil)
  have hsu : (List.range (i + 1)).flatMap (vK o rg ((j : Int), z)) = (List.range i).flatMap (vK o rg ((j : Int), z)) ++ uR o rg j i z (iB (iB o.dvs j).stops i).segs.length := by
   rw [dY, dH, dB, ez, dm, a3X]
  have hpl := hdl i (by omega)
  have hsn : (iB (iB o.dvs j).stops i).segs.length < 1000000000 := ((ho.2.2.2.1 _ (iD hj)).2.1 _ (hsb i hil)).2.2
  have e1 := a0l (iB rg.stops j) i (hr.2.2.1 _ (iD (by omega)))
  have e2 := zS ((iB rg.stops j) >>> i) (sX _ (hr.2.2.1 _ (iD (by omega))))
  have e3 := tb (iB rg.stops j) i
  simp (disch := omega) only [↓RA, RZ, simprocAttr, hn, g21, g23, (hS5.sl (ho.2.2.2.1 (iB o.dvs j) (iD (by omega))).1).idx, (hS5.sl (ho.2.2.2.1 (iB o.dvs j) (iD (by omega))).1).ae, Stp.cells, q1]
  refine hS5.eNew 4 [(.string ⟨#[]⟩), I 0, I 0, (.slice none 0 0)] rfl rfl rfl oE fun A4 H5 hS6 => ?_
  simp only [RT] at hS6
  simp (disch := omega) only [↓RA, RZ, simprocAttr, hn, q1]
  refine hS6.aa 4 rfl [(.string (iB (iB o.dvs j).stops i).name), I (iB (iB o.dvs j).stops i).num, I (iB (iB o.dvs j).stops i).den, (iB (iB o.dvs j).stops i).gv] rfl (by simp [OC, (hS6.sl ((ho.2.2.2.1 (iB o.dvs j) (iD (by omega))).2.1 (iB (iB o.dvs j).stops i) (iD (by omega))).1).cells.2.1]) oE (by simp) fun H6 hS7 => ?_
  simp only [RT] at hS7
  simp (disch := omega) only [↓RA, RZ, simprocAttr, hn, hS7.ld 4 rfl, (hS7.sl ((ho.2.2.2.1 (iB o.dvs j) (iD (by omega))).2.1 (iB (iB o.dvs j).stops i) (iD (by omega))).1).len, q1]
  refine Wp.ak (fun n l H' => l.length = 108 ∧ get l 3 = (ptr A1 0 4) ∧ get l 4 = (ptr A2 0 3) ∧ get l 5 = (ptr A3 0 2) ∧ get l 6 = (.slice none 0 0) ∧ get l 8 = I i ∧ get l 21 = (iB o.dvs j).sv ∧ get l 22 = I (iB o.dvs j).stops.length ∧ get l 23 = I i ∧ get l 29 = (iB (iB o.dvs j).stops i).gv ∧ get l 30 = I (iB (iB o.dvs j).stops i).segs.length ∧ ∃ (k : Nat) (ow : Value), (n + k = (iB (iB o.dvs j).stops i).segs.length) ∧ get l 31 = I k ∧ get l 7 = ow ∧ St prog H H' [⟨ptr A1 0 4, 0, [(.string o.name), o.rv, o.dv, o.cv]⟩, ⟨ptr A2 0 3, 0, [sv, (.int .u64 rg.cpl), (.int .u64 rg.off)]⟩, ⟨ptr A3 0 2, 0, [I j, I z]⟩, ⟨ow, 2, pr ((List.range i).flatMap (vK o rg ((j : Int), z)) ++ uR o rg j i z k)⟩, ⟨ptr A4 0 4, 0, [(.string (iB (iB o.dvs j).stops i).name), I (iB (iB o.dvs j).stops i).num, I (iB (iB o.dvs j).stops i).den, (iB (iB o.dvs j).stops i).gv]⟩]) (iB (iB o.dvs j).stops i).segs.length ?_ ?_
  ·simp (disch := omega) only [RB, RC, simprocAttr, hn, g3, g4, g5, g6, g21, g22, g23, g7]
   refine ⟨0, ov, by omega, rfl, rfl, ?_⟩
   rw [show uR o rg j i z 0 = [] from by unfold uR; split <;> rfl, dm]
   exact hS7
  rintro n l H7 ⟨hn, g3, g4, g5, g6, g8, g21, g22, g23, g29, g30, k, ow, hk, g31, g7, hS8⟩
  simp (disch := omega) only [↓RA, RB, simprocAttr, hn, g30, g31]
  refine iA (fun q2 => ?_) (fun q2 => ?_)
  ·have hkl : k < (iB (iB o.dvs j).stops i).segs.length := by omega
   have hsk := hsl i hil k
   have hgd := hso.draws k hkl
   have hgd2 := a6F hgd
   simp (disch := omega) only [↓RA, RZ, simprocAttr, hn, g29, g31, (hS8.sl ((ho.2.2.2.1 (iB o.dvs j) (iD (by omega))).2.1 (iB (iB o.dvs j).stops i) (iD (by omega))).1).idx, (hS8.sl ((ho.2.2.2.1 (iB o.dvs j) (iD (by omega))).2.1 (iB (iB o.dvs j).stops i) (iD (by omega))).1).ae, Seg.cells, q2]
   refine hS8.eNew 3 [I 0, I 0, (.slice none 0 0)] rfl rfl rfl zK fun A5 H8 hS9 => ?_
   simp only [RT] at hS9
   simp (disch := omega) only [↓RA, RZ, simprocAttr, hn, q2]
   refine hS9.aa 5 rfl [I (iB (iB (iB o.dvs j).stops i).segs k).lo, I (iB (iB (iB o.dvs j).stops i).segs k).hi, (iB (iB (iB o.dvs j).stops i).segs k).dv] rfl (by simp [OC, (hS9.sl (((ho.2.2.2.1 (iB o.dvs j) (iD (by omega))).2.1 (iB (iB o.dvs j).stops i) (iD (by omega))).2.1 (iB (iB (iB o.dvs j).stops i).segs k) (iD (by omega))).1).cells.2.1]) zK (by simp) fun H9 hS10 => ?_
   simp only [RT] at hS10
   simp (disch := omega) only [↓RA, RZ, simprocAttr, hn, g4, g5, g8, hS10.ld 1 rfl, hS10.ld 2 rfl, (hS10.sl hr.1).idx, (hS10.sl hr.1).ld, one, u64, q2, e1, e2]
   refine iL (fun q3 => ?_) (fun q3 => ?_)
   ·have hb : (iB rg.stops j).testBit i = false := by rw [e3]; exact decide_eq_false (by omega)
    have hsg : ∀ k, uR o rg j i z k = [] := fun k => by unfold uR; rw [if_neg (by rw [hb]; simp)]
    simp (disch := omega) only [↓RA, RZ, simprocAttr, hn, g3, g4, g5, g6, g8, g21, g22, g23, g29, g30, g31, g7, q2, q3]
    refine ⟨n - 1, by omega, k + 1, ow, by omega, by simp, rfl, ?_⟩
    rw [hsg, ← hsg k]
    exact hS10.pick [0, 1, 2, 3, 4] (by decide) rfl
   have hb : (iB rg.stops j).testBit i = true := by rw [e3]; exact decide_eq_true (by omega)
   have hsg : uR o rg j i z (k + 1) = uR o rg j i z k ++ rR o (iB (iB (iB o.dvs j).stops i).segs k) z := by
    unfold uR
    rw [if_pos hb, if_pos hb, List.take_add_one, dq hkl, Option.toList_some, ← jO _ k hkl, dH, dB, ez, dm]
   simp (disch := omega) only [↓RA, RZ, simprocAttr, hn, g5, hS10.ld 2 rfl, hS10.ld 5 rfl, q2, q3]
   refine iL (fun q4 => ?_) (fun q4 => ?_)
   ·have hd1 : rR o (iB (iB (iB o.dvs j).stops i).segs k) z = [] := by unfold rR; rw [if_neg (by omega)]
    simp (disch := omega) only [↓RA, RZ, simprocAttr, hn, g3, g4, g5, g6, g8, g21, g22, g23, g29, g30, g31, g7, q2, q3, q4]
    refine ⟨n - 1, by omega, k + 1, ow, by omega, by simp, rfl, ?_⟩
    rw [hsg, hd1, dm]
    exact hS10.pick [0, 1, 2, 3, 4] (by decide) rfl
   simp (disch := omega) only [↓RA, RZ, simprocAttr, hn, g5, hS10.ld 2 rfl, hS10.ld 5 rfl, q2, q3, q4]
   refine iA (fun q5 => ?_) (fun q5 => ?_)
   ·have hd1 : rR o (iB (iB (iB o.dvs j).stops i).segs k) z = [] := by unfold rR; rw [if_neg (by omega)]
    simp (disch := omega) only [↓RA, RZ, simprocAttr, hn, g3, g4, g5, g6, g8, g21, g22, g23, g29, g30, g31, g7, q2, q3, q4, q5]
    refine ⟨n - 1, by omega, k + 1, ow, by omega, by simp, rfl, ?_⟩
    rw [hsg, hd1, dm]
    exact hS10.pick [0, 1, 2, 3, 4] (by decide) rfl
   have hd1 : rR o (iB (iB (iB o.dvs j).stops i).segs k) z = dr3 o z (iB (iB (iB o.dvs j).stops i).segs k).draws := by unfold rR; rw [if_pos (by omega)]; rfl
   have hsm2 : (uR o rg j i z k).length ≤ 96 := hsk
   simp (disch := omega) only [↓RA, RZ, simprocAttr, hn, hS10.ld 5 rfl, (hS10.sl (((ho.2.2.2.1 (iB o.dvs j) (iD (by omega))).2.1 (iB (iB o.dvs j).stops i) (iD (by omega))).2.1 (iB (iB (iB o.dvs j).stops i).segs k) (iD (by omega))).1).len, q2, q3, q4, q5]
   refine Wp.ak (fun n l H' => l.length = 108 ∧ get l 3 = (ptr A1 0 4) ∧ get l 4 = (ptr A2 0 3) ∧ get l 5 = (ptr A3 0 2) ∧ get l 6 = (.slice none 0 0) ∧ get l 8 = I i ∧ get l 21 = (iB o.dvs j).sv ∧ get l 22 = I (iB o.dvs j).stops.length ∧ get l 23 = I i ∧ get l 29 = (iB (iB o.dvs j).stops i).gv ∧ get l 30 = I (iB (iB o.dvs j).stops i).segs.length ∧ get l 31 = I k ∧ get l 61 = (iB (iB (iB o.dvs j).stops i).segs k).dv ∧ get l 62 = I (iB (iB (iB o.dvs j).stops i).segs k).draws.length ∧ ∃ (q : Nat) (oy : Value), (n + q = (iB (iB (iB o.dvs j).stops i).segs k).draws.length) ∧ get l 63 = I q ∧ get l 7 = oy ∧ St prog H H' [⟨ptr A1 0 4, 0, [(.string o.name), o.rv, o.dv, o.cv]⟩, ⟨ptr A2 0 3, 0, [sv, (.int .u64 rg.cpl), (.int .u64 rg.off)]⟩, ⟨ptr A3 0 2, 0, [I j, I z]⟩, ⟨oy, 2, pr ((List.range i).flatMap (vK o rg ((j : Int), z)) ++ uR o rg j i z k ++ dr3 o z ((iB (iB (iB o.dvs j).stops i).segs k).draws.take q))⟩, ⟨ptr A4 0 4, 0, [(.string (iB (iB o.dvs j).stops i).name), I (iB (iB o.dvs j).stops i).num, I (iB (iB o.dvs j).stops i).den, (iB (iB o.dvs j).stops i).gv]⟩, ⟨ptr A5 0 3, 0, [I (iB (iB (iB o.dvs j).stops i).segs k).lo, I (iB (iB (iB o.dvs j).stops i).segs k).hi, (iB (iB (iB o.dvs j).stops i).segs k).dv]⟩]) (iB (iB (iB o.dvs j).stops i).segs k).draws.length ?_ ?_
   ·simp (disch := omega) only [RB, RC, simprocAttr, hn, g3, g4, g5, g6, g8, g21, g22, g23, g29, g30, g31, g7]
    refine ⟨0, ow, by omega, rfl, rfl, ?_⟩
    rw [List.take_zero, show dr3 o z [] = [] from rfl, dm]
    exact hS10
   rintro n l H10 ⟨hn, g3, g4, g5, g6, g8, g21, g22, g23, g29, g30, g31, g61, g62, q, oy, hq, g63, g7, hS11⟩
   simp (disch := omega) only [↓RA, RB, simprocAttr, hn, g62, g63]
   refine iA (fun q6 => ?_) (fun q6 => ?_)
   ·have hql : q < (iB (iB (iB o.dvs j).stops i).segs k).draws.length := by omega
    have hdr := hgd2.2 q hql
    obtain ⟨e, he⟩ : ∃ e : Nat, (iB (iB (iB (iB o.dvs j).stops i).segs k).draws q).rank = e := ⟨(iB (iB (iB (iB o.dvs j).stops i).segs k).draws q).rank.toNat, by omega⟩
    have hel : e < o.ranks.length := by omega
    have hd3 := b6g o z (iB (iB (iB o.dvs j).stops i).segs k).draws q hql
    have hd3l := b7J o z ((iB (iB (iB o.dvs j).stops i).segs k).draws.take q)
    have hwl : (iB o.ranks e).wind.length < 1000000000 := (ho.2.1 _ (iD hel)).2
    have htl := List.length_take_le q (iB (iB (iB o.dvs j).stops i).segs k).draws
    have hp1 : mQ o.ranks (iB (iB (iB (iB o.dvs j).stops i).segs k).draws q) z = ((e : Int), mL (mL (z + (iB (iB (iB (iB o.dvs j).stops i).segs k).draws q).shift) - (iB o.ranks e).first)) := by
     unfold mQ
     rw [if_neg (by omega), he]
     rfl
    have hhp : rG o.ranks (iB (iB (iB (iB o.dvs j).stops i).segs k).draws q) z = (decide (0 ≤ mL (mL (z + (iB (iB (iB (iB o.dvs j).stops i).segs k).draws q).shift) - (iB o.ranks e).first)) && decide (mL (mL (z + (iB (iB (iB (iB o.dvs j).stops i).segs k).draws q).shift) - (iB o.ranks e).first) < (iB o.ranks e).wind.length)) := by
     unfold rG
     rw [hp1, decide_eq_false (by omega), he]
     rfl
    simp (disch := omega) only [↓RA, RZ, simprocAttr, hn, g61, g63, (hS11.sl (((ho.2.2.2.1 (iB o.dvs j) (iD (by omega))).2.1 (iB (iB o.dvs j).stops i) (iD (by omega))).2.1 (iB (iB (iB o.dvs j).stops i).segs k) (iD (by omega))).1).idx, (hS11.sl (((ho.2.2.2.1 (iB o.dvs j) (iD (by omega))).2.1 (iB (iB o.dvs j).stops i) (iD (by omega))).2.1 (iB (iB (iB o.dvs j).stops i).segs k) (iD (by omega))).1).ae, Drw.cells, q6]
    refine hS11.eNew 2 [I 0, I 0] rfl rfl rfl wU fun A6 H11 hS12 => ?_
    simp only [RT] at hS12
    simp (disch := omega) only [↓RA, RZ, simprocAttr, hn, q6]
    refine hS12.aa 6 rfl [I (iB (iB (iB (iB o.dvs j).stops i).segs k).draws q).rank, I (iB (iB (iB (iB o.dvs j).stops i).segs k).draws q).shift] rfl rfl wU (by simp) fun H12 hS13 => ?_
    simp only [RT] at hS13
    simp (disch := omega) only [↓RA, RZ, simprocAttr, q6]
    refine Wp.drw jY (by kernel_rfl) ?_
    simp (disch := omega) only [↓RA, RZ, simprocAttr, hn, g3, g5, hS13.ld 2 rfl, hS13.ld 6 rfl, hS13.ld 0 rfl]
    simp (disch := omega) only [↓RA, RZ, simprocAttr, hn, (hS13.sl ho.1).idx, (hS13.sl ho.1).aY, (hS13.sl ho.1).ld, Rk.cells, he]
    refine jI (fun q7 => ?_) (fun q7 => ?_)
    ·simp (disch := omega) only [↓RA, RZ, simprocAttr, hn, g3, hS13.ld 0 rfl, hS13.ld 6 rfl, (hS13.sl ho.1).idx, (hS13.sl ho.1).aY, (hS13.sl ho.1).ld, Rk.cells, (hS13.sl (ho.2.1 (iB o.ranks e) (iD (by omega))).1).len, he, q7]
     refine iA (fun q8 => ?_) (fun q8 => ?_)
     ·have hht : rG o.ranks (iB (iB (iB (iB o.dvs j).stops i).segs k).draws q) z = true := by rw [hhp, decide_eq_true (by omega), decide_eq_true (by omega)]; rfl
      simp (disch := omega) only [↓RA, RZ, simprocAttr, hn, g7, hS13.ld 6 rfl, a6N, he, q7, q8]
      refine hS13.ai [I e, I (mL (mL (z + (iB (iB (iB (iB o.dvs j).stops i).segs k).draws q).shift) - (iB o.ranks e).first))] a7n c4g rfl rfl (by simp [Value.cells]) rfl rfl (by decide) (by decide) fun w1 H13 hS14 => ?_
      simp only [RT] at hS14
      simp (disch := omega) only [↓RA, RZ, simprocAttr, hn, he, q7, q8]
      refine hS14.aq 3 rfl (hS14.rd 7 rfl) a7n (by rw [iJ, dp, dp]; simp only [dT, ew]; omega) fun w2 H14 hS15 => ?_
      simp only [RT] at hS15
      simp (disch := omega) only [↓RA, RZ, simprocAttr, hn, g3, g4, g5, g6, g8, g21, g22, g23, g29, g30, g31, g61, g62, g63, he, q7, q8]
      refine ⟨n - 1, by omega, q + 1, w2, by omega, by simp, rfl, ?_⟩
      rw [hd3, hht, if_pos rfl, hp1, ← ed, jJ]
      exact hS15.pick [0, 1, 2, 3, 4, 5] (by decide) rfl
     have hhf : rG o.ranks (iB (iB (iB (iB o.dvs j).stops i).segs k).draws q) z = false := by rw [hhp, decide_eq_false (show ¬ mL (mL (z + (iB (iB (iB (iB o.dvs j).stops i).segs k).draws q).shift) - (iB o.ranks e).first) < _ by omega), Bool.and_false]
     simp (disch := omega) only [↓RA, RZ, simprocAttr, hn, g3, g4, g5, g6, g8, g21, g22, g23, g29, g30, g31, g61, g62, g63, g7, he, q7, q8]
     refine ⟨n - 1, by omega, q + 1, oy, by omega, by simp, rfl, ?_⟩
     rw [hd3, hhf, if_neg (by simp), dm]
     exact hS13.pick [0, 1, 2, 3, 4, 5] (by decide) rfl
    have hhf : rG o.ranks (iB (iB (iB (iB o.dvs j).stops i).segs k).draws q) z = false := by rw [hhp, decide_eq_false (show ¬ 0 ≤ mL (mL (z + (iB (iB (iB (iB o.dvs j).stops i).segs k).draws q).shift) - (iB o.ranks e).first) by omega), fy]
    simp (disch := omega) only [↓RA, RZ, simprocAttr, hn, g3, g4, g5, g6, g8, g21, g22, g23, g29, g30, g31, g61, g62, g63, g7, he, q7]
    refine ⟨n - 1, by omega, q + 1, oy, by omega, by simp, rfl, ?_⟩
    rw [hd3, hhf, if_neg (by simp), dm]
    exact hS13.pick [0, 1, 2, 3, 4, 5] (by decide) rfl
   simp (disch := omega) only [↓RA, RZ, simprocAttr, hn, g3, g4, g5, g6, g8, g21, g22, g23, g29, g30, g31, g7, q6]
   have hqq : q = (iB (iB (iB o.dvs j).stops i).segs k).draws.length := by omega
   refine ⟨(iB (iB o.dvs j).stops i).segs.length - (k + 1), by omega, k + 1, oy, by omega, by simp, rfl, ?_⟩
   rw [hsg, hd1, ← ed]
   rw [hqq, dU] at hS11
   exact hS11.pick [0, 1, 2, 3, 4] (by decide) rfl
  simp (disch := omega) only [↓RA, RZ, simprocAttr, hn, g3, g4, g5, g6, g21, g22, g23, g7, q2]
  have hkk : k = (iB (iB o.dvs j).stops i).segs.length := by omega
  refine ⟨(iB o.dvs j).stops.length - (i + 1), by omega, i + 1, ow, by omega, by simp, rfl, ?_⟩
  rw [hsu, ← hkk]
  exact hS8.pick [0, 1, 2, 3] (by decide) rfl
 simp (disch := omega) only [↓RA, RZ, simprocAttr, hn, g7, q1]
 have hii : i = (iB o.dvs j).stops.length := by omega
 rw [hii] at hS5
 have hdl2 := hdl _ (di _)
 have hc2 : lA o ((j : Int), z) = true := hc
 have hd3e : (List.range (iB o.dvs j).stops.length).flatMap (vK o rg ((j : Int), z)) = pX o rg ((j : Int), z) := by unfold pX; rfl
 rw [hd3e] at hS5
 rw [hd3e] at hdl2
 have hsm : ∀ x ∈ pX o rg ((j : Int), z), sm x := fun x hx => (xR ((wI h0 hc2).1 hx)).small hf ho
 refine c1F hS5 3 rfl (by omega) hsm fun HS hSS => ?_
 simp only [fN, ff] at hSS
 simp (disch := omega) only [↓RA, RZ, simprocAttr, hn, g7, q1]
 have hM1 := hSS.pick (os' := [⟨ov, 2, _⟩]) [3] (by decide) rfl
 have hR1 := hSS.pick (os' := [⟨ov, 2, _⟩, ⟨ptr A1 0 4, 0, _⟩, ⟨ptr A2 0 3, 0, _⟩, ⟨ptr A3 0 2, 0, _⟩]) [3, 0, 1, 2] (by decide) rfl
 refine iG (rO hM1.aD (by rw [lY]; omega)) ?_
 rintro r H15 ⟨rest, hb, hrd, hT1⟩
 have hS16 := hR1.frame hT1
 simp only [RT] at hS16
 have hrr := hrd _ (hS16.rd 0 rfl)
 have hrc := hrr.cells
 simp (disch := omega) only [↓RA, RZ, simprocAttr, hn, c7f, q1]
 refine ⟨⟨⟨hrr, jS, by decide⟩, fun b h => ?_⟩, hS16.forget⟩
 rcases hS16.new _ (dJ ..) b (hb b h) with h | h
 ·exact h
 ·exact h.elim
theorem a9k (o : Org) (ho : o.In H) (h0 : organE o = 0) (rg : Reg) (sv : Value) (hr : rg.In H sv) (hrl : rg.stops.length = o.dvs.length) (c : Ct) (hc : lA o c = true) :
 Fn prog 45 [.agg #[.string o.name, o.rv, o.dv, o.cv], .agg #[sv, .int .u64 rg.cpl, .int .u64 rg.off], .agg #[I c.1, I c.2]] H fun rr H' => Slx 2 jP H' (fun B => H.length ≤ B) rr (dd (pG (pX o rg c))) ∧ St prog H H' [] := by
 obtain ⟨d, z⟩ := c
 have h := (kM o _).1 hc
 obtain ⟨j, rfl⟩ := eR h.1
 exact b5t o ho h0 rg sv hr hrl j z hc
theorem b5y {o : Org} (h0 : organE o = 0) (rg : Reg) {c : Ct} (hc : lA o c = true) : (dd (pG (pX o rg c))).length ≤ 480 := by
 rw [b8T h0 hc]
 have h1 := a7p (pG (mU o rg c))
 rw [lY] at h1
 exact dC h1 (a4g (Org.aI h0) rg hc)
theorem b2j {o : Org} (h0 : organE o = 0) (rg : Reg) : ∀ (l : List Ct), (∀ c ∈ l, lA o c = true) → (l.flatMap fun c => dd (pG (pX o rg c))).length ≤ l.length * 480
 | [], _ => by simp
 | c :: l, h => by
   have h1 := b5y h0 rg (h c (dJ ..))
   have h2 := b2j h0 rg l fun x hx => h x (dR _ hx)
   rw [dB, dp, dT]
   omega
theorem wO (o : Org) (ho : o.In H) (h0 : organE o = 0) (rg : Reg) (sv : Value) (hr : rg.In H sv) (hrl : rg.stops.length = o.dvs.length) (kv : Value) (ks : List Nt) (hk : Ks H kv ks) (hke : lR o ks = 0) :
 Fn prog 17 [.agg #[.string o.name, o.rv, o.dv, o.cv], .agg #[sv, .int .u64 rg.cpl, .int .u64 rg.off], kv] H fun rr H' => Slx 2 jP H' (fun B => H.length ≤ B) rr (kH o rg (iF ks)) ∧ St prog H H' [] := by
 have hf := Org.aI h0
 have hplc := nH hk.ok hke
 have hpll := pN hke
 have hsc := mH (o := o) (rg := rg) hplc
 have hsl := tN hf (rg := rg) hpll
 have hsp : dd (pG ((jZ o rg (iF ks)).flatMap fun c => dd (pG (pX o rg c)))) = kH o rg (iF ks) := b5g h0 hsc
 have hsm : ∀ x ∈ (jZ o rg (iF ks)).flatMap (fun c => dd (pG (pX o rg c))), sm x := fun x hx => by
  obtain ⟨c, hc, hx⟩ := dP.1 hx
  exact (xR ((wI h0 (hsc c hc)).1 (pS.1 hx))).small hf ho
 have hle : ∀ i, (((jZ o rg (iF ks)).take i).flatMap fun c => dd (pG (pX o rg c))).length ≤ 2048 * 480 := fun i => by
  have h1 := b2j h0 rg ((jZ o rg (iF ks)).take i) fun c hc => hsc c (fU hc)
  have h2 : ((jZ o rg (iF ks)).take i).length ≤ (jZ o rg (iF ks)).length := by rw [gk]; omega
  exact dC h1 (dK _ (by omega))
 rw [← hsp]
 refine .bd func17 rfl (by kernel_rfl) (m := 30) rfl fun l hn g0 g1 g2 => ?_
 simp (disch := omega) only [↓RA, RB, simprocAttr, g0]
 refine (sR H).eNew 4 [(.string o.name), o.rv, o.dv, o.cv] rfl rfl (by simp [OC, ((sR H).sl ho.1).cells.2.1, ((sR H).sl ho.2.2.1).cells.2.1, ((sR H).sl ho.2.2.2.2.1).cells.2.1]) lU fun A1 H1 hS1 => ?_
 simp only [RT] at hS1
 simp (disch := omega) only [↓RA, RB, simprocAttr, g1]
 refine hS1.eNew 3 [sv, (.int .u64 rg.cpl), (.int .u64 rg.off)] rfl rfl (by simp [OC, (hS1.sl hr.1).cells.2.1]) nW fun A2 H2 hS2 => ?_
 simp only [RT] at hS2
 simp (disch := omega) only [↓RA, RZ, simprocAttr, hn, g2, hS2.ae 0 rfl, hS2.ae 1 rfl]
 refine iG ((a3E o (ho.ab hS2) hf rg sv (hr.ab hS2) kv ks (hk.ab hS2) hke).tr) ?_
 rintro r H3 ⟨-, hT1⟩
 have hS3 := hS2.trans hT1
 simp only [RT] at hS3
 obtain ⟨cv, rfl⟩ : ∃ w, w = r := ⟨r, rfl⟩
 simp (disch := omega) only [↓RA, RZ, simprocAttr, hn, (hS3.aw 2 rfl jS).len]
 have hS4 := hS3.nil 1
 simp only [RT] at hS4
 refine Wp.ak (fun n l H' => l.length = 30 ∧ get l 3 = (ptr A1 0 4) ∧ get l 4 = (ptr A2 0 3) ∧ get l 6 = (.slice none 0 0) ∧ get l 13 = cv ∧ get l 14 = I (jZ o rg (iF ks)).length ∧ ∃ (i : Nat) (ov : Value), (n + i = (jZ o rg (iF ks)).length) ∧ get l 15 = I i ∧ get l 7 = ov ∧ St prog H H' [⟨ptr A1 0 4, 0, [(.string o.name), o.rv, o.dv, o.cv]⟩, ⟨ptr A2 0 3, 0, [sv, (.int .u64 rg.cpl), (.int .u64 rg.off)]⟩, ⟨cv, 2, pr (jZ o rg (iF ks))⟩, ⟨ov, 2, pr (((jZ o rg (iF ks)).take i).flatMap fun c => dd (pG (pX o rg c)))⟩]) (jZ o rg (iF ks)).length ?_ ?_
 ·simp (disch := omega) only [RB, RC, simprocAttr, hn]
  exact ⟨0, .slice none 0 0, by omega, rfl, rfl, hS4⟩
 rintro n l H4 ⟨hn, g3, g4, g6, g13, g14, i, ov, hi, g15, g7, hS5⟩
 simp (disch := omega) only [↓RA, RB, simprocAttr, hn, g14, g15]
 refine iA (fun q1 => ?_) (fun q1 => ?_)
 ·have hci := hsc _ (iD (xs := jZ o rg (iF ks)) (j := i) (by omega))
  have htk := kG (jZ o rg (iF ks)) i (by omega)
  have hli := hle i
  have hl1 := b5y h0 rg hci
  simp (disch := omega) only [↓RA, RZ, simprocAttr, hn, g13, g15, (hS5.aw 2 rfl jS).idx, (hS5.aw 2 rfl jS).ae, jP, q1]
  refine hS5.eNew 2 [I 0, I 0] rfl rfl rfl lN fun A3 H5 hS6 => ?_
  simp only [RT] at hS6
  simp (disch := omega) only [↓RA, RZ, simprocAttr, hn, q1]
  refine hS6.aa 4 rfl [I (iB (jZ o rg (iF ks)) i).1, I (iB (jZ o rg (iF ks)) i).2] rfl rfl lN (by simp) fun H6 hS7 => ?_
  simp only [RT] at hS7
  simp (disch := omega) only [↓RA, RZ, simprocAttr, hn, g3, g4, g7, hS7.ae 0 rfl, hS7.ae 1 rfl, hS7.ae 4 rfl, q1]
  refine iG (a9k o (ho.ab hS7) h0 rg sv (hr.ab hS7) hrl (iB (jZ o rg (iF ks)) i) hci) ?_
  rintro r H7 ⟨hqx, hT2⟩
  have hS8 := hS7.trans hT2
  simp only [RT] at hS8
  obtain ⟨qv, rfl⟩ : ∃ w, w = r := ⟨r, rfl⟩
  simp (disch := omega) only [↓RA, RZ, simprocAttr, hn, q1]
  refine hS8.aq 3 rfl hqx.1.rd a7n (by rw [iJ, show ((dd (pG (pX o rg (iB (jZ o rg (iF ks)) i)))).flatMap jP).length = (dd (pG (pX o rg (iB (jZ o rg (iF ks)) i)))).length * 2 from iJ _]; omega) fun w1 H8 hS9 => ?_
  simp only [RT] at hS9
  simp (disch := omega) only [↓RA, RZ, simprocAttr, hn, g3, g4, g6, g13, g14, g15, q1]
  refine ⟨n - 1, by omega, i + 1, w1, by omega, by simp, rfl, ?_⟩
  rw [htk, dH, jJ, dB, ez, dm]
  exact hS9.pick [0, 1, 2, 3] (by decide) rfl
 simp (disch := omega) only [↓RA, RZ, simprocAttr, hn, g7, q1]
 have hii : i = (jZ o rg (iF ks)).length := by omega
 have hli := hle i
 rw [hii, dU] at hS5
 rw [hii, dU] at hli
 refine c1F hS5 3 rfl (by omega) hsm fun HS hSS => ?_
 simp only [fN, ff] at hSS
 simp (disch := omega) only [↓RA, RZ, simprocAttr, hn, g7, q1]
 have hM1 := hSS.pick (os' := [⟨ov, 2, _⟩]) [3] (by decide) rfl
 have hR1 := hSS.pick (os' := [⟨ov, 2, _⟩, ⟨ptr A1 0 4, 0, _⟩, ⟨ptr A2 0 3, 0, _⟩, ⟨cv, 2, _⟩]) [3, 0, 1, 2] (by decide) rfl
 refine iG (rO hM1.aD (by rw [lY]; omega)) ?_
 rintro r H9 ⟨rest, hb, hrd, hT3⟩
 have hS10 := hR1.frame hT3
 simp only [RT] at hS10
 have hrr := hrd _ (hS10.rd 0 rfl)
 have hrc := hrr.cells
 simp (disch := omega) only [↓RA, RZ, simprocAttr, hn, c7L, q1]
 refine ⟨⟨⟨hrr, jS, by decide⟩, fun b h => ?_⟩, hS10.forget⟩
 rcases hS10.new _ (dJ ..) b (hb b h) with h | h
 ·exact h
 ·exact h.elim
end Go.Ds
namespace Go.Ds
open Go.Proofs
variable {H : Heap}
set_option maxRecDepth 10000
set_option maxHeartbeats 1000000
end Go.Ds
namespace Go.Ds
open Go.Proofs Go.Proofs.Tryz
variable {H : Heap}
set_option maxRecDepth 10000
set_option maxHeartbeats 1000000
theorem b8h {x y : Int × Int} : cf2 x y < 0 ↔ uP x y := by
 unfold cf2 uP
 split
 ·omega
 ·split
  ·omega
  ·split
   ·omega
   ·split <;> omega
theorem b6E {x y : Int × Int} : cf2 x y = 0 ↔ x = y := by
 unfold cf2
 constructor
 ·intro h
  split at h
  ·omega
  ·split at h
   ·omega
   ·split at h
    ·omega
    ·split at h
     ·omega
     ·exact fO (by omega) (by omega)
 ·rintro rfl
  rw [if_neg (by omega), if_neg (by omega), if_neg (by omega), if_neg (by omega)]
theorem a5D {xs : List Ct} (hs : xs.Pairwise uP) {i j : Nat} (h : i < j) (hj : j < xs.length) : uP (iB xs i) (iB xs j) := by
 rw [jO _ _ (by omega), jO _ _ hj]
 exact eI.1 hs i j (by omega) hj h
theorem c3a (v : Value) (xs : List Ct) (hv : Sl 2 jP H v xs) (hl : xs.length < 1000000000) (hs : xs.Pairwise uP) (t : Ct) :
 Fn prog 118 [v, .agg #[I t.1, I t.2], .func (.func 119) #[] #[]] H fun r H' => ∃ k : Nat, r = .tuple #[I k, .bool (decide (t ∈ xs))] ∧ St prog H H' [] := by
 refine .bd func118 rfl (by kernel_rfl) (m := 49) rfl fun l hn g0 g1 g2 => ?_
 simp (disch := omega) only [↓RA, RB, simprocAttr, g1]
 refine (sR H).eNew 2 [I t.1, I t.2] rfl rfl rfl qL fun A1 H1 hS1 => ?_
 simp only [RT] at hS1
 simp (disch := omega) only [↓RA, RZ, simprocAttr, hn, g0, (hS1.sl hv).len]
 refine Wp.ak (fun n l H' => l.length = 49 ∧ get l 0 = v ∧ get l 2 = (.func (.func 119) #[] #[]) ∧ get l 4 = (ptr A1 0 2) ∧ get l 6 = I 0 ∧ get l 7 = (.bool false) ∧ get l 8 = I xs.length ∧ ∃ (i : Nat) (j : Nat), (n + i = j ∧ j ≤ xs.length ∧ (∀ q, q < i → uP (iB xs q) t) ∧ ∀ q, j ≤ q → q < xs.length → ¬ uP (iB xs q) t) ∧ get l 9 = I i ∧ get l 10 = I j ∧ St prog H H' [⟨ptr A1 0 2, 0, [I t.1, I t.2]⟩]) xs.length ?_ ?_
 ·simp (disch := omega) only [RB, RC, simprocAttr, hn, g0, g2]
  exact ⟨0, xs.length, ⟨by omega, by omega, fun q hq => absurd hq (dN _), fun q h1 h2 => absurd h2 (by omega)⟩, rfl, rfl, hS1⟩
 rintro n l H2 ⟨hn, g0, g2, g4, g6, g7, g8, i, j, ⟨h1,h2,h3,h4⟩, g9, oY, hS2⟩
 simp (disch := omega) only [↓RA, RB, simprocAttr, hn, g9, oY]
 refine iA (fun q1 => ?_) (fun q1 => ?_)
 ·obtain ⟨m, hm⟩ : ∃ m : Nat, (i + j) / 2 = m := ⟨_, rfl⟩
  have e1 : ((i : Int) + j).fdiv (2 ^ min 1 (IntKind.bits .u64)) = ((m : Nat) : Int) := by
   have h := a0l (i + j) 1 (by omega)
   rw [eN] at h
   rw [← hm]
   exact h
  simp (disch := omega) only [↓RA, RZ, simprocAttr, hn, g9, oY, q1, e1]
  refine Wp.drw jY (by kernel_rfl) ?_
  simp (disch := omega) only [↓RA, RZ, simprocAttr, hn, g0, g2]
  simp (disch := omega) only [↓RA, RZ, simprocAttr, hn, g4, (hS2.sl hv).idx, (hS2.sl hv).ae, jP, hS2.ae 0 rfl]
  refine hS2.cF (a5m (iB xs m) t) fun H3 hS3 => ?_
  simp (disch := omega) only [↓RA, RB, simprocAttr, hn]
  refine iA (fun q2 => ?_) (fun q2 => ?_)
  ·have hlt := b8h.1 q2
   simp (disch := omega) only [↓RA, RZ, simprocAttr, hn, g0, g2, g4, g6, g7, g8, oY, q2]
   refine ⟨j - (m + 1), by omega, m + 1, j, ⟨by omega, h2, fun q hq => ?_, h4⟩, by simp, rfl, hS3⟩
   by_cases e : q = m
   ·rw [e]; exact hlt
   ·exact a0I (a5D hs (show q < m by omega) (by omega)) hlt
  have hnl : ¬ uP (iB xs m) t := fun h => q2 (b8h.2 h)
  simp (disch := omega) only [↓RA, RZ, simprocAttr, hn, g0, g2, g4, g6, g7, g8, g9, q2]
  refine ⟨m - i, by omega, i, m, ⟨by omega, by omega, h3, fun q hq hql h => ?_⟩, rfl, by simp, hS3⟩
  by_cases e : q = m
  ·rw [e] at h; exact hnl h
  ·exact hnl (a0I (a5D hs (show m < q by omega) hql) h)
 have hij : i = j := by omega
 have hno : ∀ q, q < xs.length → q ≠ i → iB xs q ≠ t := fun q hq hne e => by
  by_cases hqi : q < i
  ·have := h3 q hqi
   rw [e] at this
   exact a1T this
  ·have h5 := h4 i (by omega) (by omega)
   have h6 := a5D hs (show i < q by omega) hq
   rw [e] at h6
   exact h5 h6
 simp (disch := omega) only [↓RA, RC, simprocAttr, q1]
 refine Wp.drw jY (by kernel_rfl) ?_
 simp (disch := omega) only [↓RA, RZ, simprocAttr, hn, g8, g9]
 refine jI (fun q3 => ?_) (fun q3 => ?_)
 ·simp (disch := omega) only [↓RA, RZ, simprocAttr, hn, g0, g2, g4, g9, (hS2.sl hv).idx, (hS2.sl hv).ae, jP, hS2.ae 0 rfl, q3]
  refine hS2.cF (a5m (iB xs i) t) fun H4 hS4 => ?_
  simp (disch := omega) only [↓RA, RZ, simprocAttr, hn, c1n, q3]
  have he : decide (cf2 (iB xs i) t = 0) = decide (t ∈ xs) := by
   rw [decide_eq_decide, b6E]
   constructor
   ·intro e
    rw [← e]
    exact iD (by omega)
   ·intro hm
    obtain ⟨q, hq, e⟩ := dL.1 hm
    rw [← jO _ _ hq] at e
    by_cases hqi : q = i
    ·rw [hqi] at e; exact e
    ·exact absurd e (hno q hq hqi)
  exact ⟨i, by rw [← he], hS4.forget⟩
 have hf : decide (t ∈ xs) = false := by
  rw [decide_eq_false_iff_not]
  intro hm
  obtain ⟨q, hq, e⟩ := dL.1 hm
  rw [← jO _ _ hq] at e
  exact hno q hq (by omega) e
 simp (disch := omega) only [↓RA, RZ, simprocAttr, hn, c1n, q3]
 exact ⟨i, by rw [hf], hS2.forget⟩
def zB (xs ys : List Ct) : List Ct := xs.filter fun c => !decide (c ∈ ys)
theorem a6I (xs ys : List Ct) : (zB xs ys).length ≤ xs.length := eh _ _
theorem b0u (xs ys : List Ct) (i : Nat) (h : i < xs.length) : zB (xs.take (i + 1)) ys = zB (xs.take i) ys ++ (if iB xs i ∈ ys then [] else [iB xs i]) := by
 unfold zB
 rw [kG xs i h, eQ]
 congr 1
 by_cases e : iB xs i ∈ ys <;> simp [e]
theorem a6C (v w : Value) (xs ys : List Ct) (hv : Sl 2 jP H v xs) (hw : Sl 2 jP H w ys) (hl : xs.length < 100000000) (hl2 : ys.length < 100000000) (hs : ys.Pairwise uP) :
 Fn prog 88 [v, w] H fun r H' => St prog H H' [⟨r, 2, pr (zB xs ys)⟩] := by
 refine .aF func88 rfl (by kernel_rfl) (m := 30) rfl fun l hn g0 g1 => ?_
 simp (disch := omega) only [↓RA, RZ, simprocAttr, hn, g0, ((sR H).sl hv).len]
 have hS1 := (sR H).nil 1
 simp only [RT] at hS1
 refine Wp.ak (fun n l H' => l.length = 30 ∧ get l 1 = w ∧ get l 4 = (.slice none 0 0) ∧ get l 10 = v ∧ get l 11 = I xs.length ∧ ∃ (i : Nat) (ov : Value), (n + i = xs.length) ∧ get l 12 = I i ∧ get l 5 = ov ∧ St prog H H' [⟨ov, 2, pr (zB (xs.take i) ys)⟩]) xs.length ?_ ?_
 ·simp (disch := omega) only [RB, RC, simprocAttr, hn, g1]
  exact ⟨0, .slice none 0 0, by omega, rfl, rfl, hS1⟩
 rintro n l H1 ⟨hn, g1, g4, oY, g11, i, ov, hi, g12, g5, hS2⟩
 simp (disch := omega) only [↓RA, RB, simprocAttr, hn, g11, g12]
 refine iA (fun q1 => ?_) (fun q1 => ?_)
 ·have hsu := b0u xs ys i (by omega)
  have hle := a6I (xs.take i) ys
  have htl := List.length_take_le i xs
  simp (disch := omega) only [↓RA, RZ, simprocAttr, hn, oY, g12, (hS2.sl hv).idx, (hS2.sl hv).ae, jP, q1]
  refine hS2.eNew 2 [I 0, I 0] rfl rfl rfl qL fun A1 H2 hS3 => ?_
  simp only [RT] at hS3
  simp (disch := omega) only [↓RA, RZ, simprocAttr, hn, q1]
  refine hS3.aa 1 rfl [I (iB xs i).1, I (iB xs i).2] rfl rfl qL (by simp) fun H3 hS4 => ?_
  simp only [RT] at hS4
  simp (disch := omega) only [↓RA, RZ, simprocAttr, hn, g1, hS4.ae 1 rfl, q1]
  refine iG (c3a w ys (hS4.sl hw) (by omega) hs (iB xs i)) ?_
  rintro r H4 ⟨k, rfl, hT1⟩
  have hS5 := hS4.trans hT1
  simp only [RT] at hS5
  simp (disch := omega) only [↓RA, RZ, simprocAttr, hn, q1]
  refine jL (fun q2 => ?_) (fun q2 => ?_)
  ·have hni : ¬ iB xs i ∈ ys := by simpa using q2
   rw [if_neg hni] at hsu
   simp (disch := omega) only [↓RA, RZ, simprocAttr, hn, g5, hS5.ae 1 rfl, q1, q2]
   refine hS5.ai [I (iB xs i).1, I (iB xs i).2] a7n c4g rfl rfl (by simp [Value.cells]) rfl rfl (by decide) (by decide) fun w1 H5 hS6 => ?_
   simp only [RT] at hS6
   simp (disch := omega) only [↓RA, RZ, simprocAttr, hn, q1, q2]
   refine hS6.aq 0 rfl (hS6.rd 2 rfl) a7n (by rw [iJ]; simp only [dT, ew]; omega) fun w2 H6 hS7 => ?_
   simp only [RT] at hS7
   simp (disch := omega) only [↓RA, RZ, simprocAttr, hn, g1, g4, oY, g11, g12, q1, q2]
   refine ⟨n - 1, by omega, i + 1, w2, by omega, by simp, rfl, ?_⟩
   rw [hsu, jJ]
   exact hS7.pick [0] (by decide) rfl
  have hni : iB xs i ∈ ys := by simpa using q2
  rw [if_pos hni, dm] at hsu
  simp (disch := omega) only [↓RA, RZ, simprocAttr, hn, g1, g4, oY, g11, g12, g5, q1, q2]
  refine ⟨n - 1, by omega, i + 1, ov, by omega, by simp, rfl, ?_⟩
  rw [hsu]
  exact hS5.pick [0] (by decide) rfl
 simp (disch := omega) only [↓RA, RZ, simprocAttr, hn, g5, c7V, q1]
 have hii : i = xs.length := by omega
 rw [hii, dU] at hS2
 exact hS2
end Go.Ds
namespace Go.Ds
open Go.Proofs
set_option maxRecDepth 10000
section
variable {o : Org} {b : Nat → Nat} {l : List Ct}
end
def uG (o : Org) (p : Ct) : Int := iB (iB o.ranks p.1.toNat).wind p.2.toNat
def oO (o : Org) (l : List Ct) : Int := l.foldl (fun n p => mL (n + uG o p)) 0
theorem a2s (o : Org) (l : List Ct) (i : Nat) (h : i < l.length) : oO o (l.take (i + 1)) = mL (oO o (l.take i) + uG o (iB l i)) := by
 unfold oO
 rw [kG l i h, fz]
 rfl
def uO (o : Org) (l : List Ct) : Int := (l.map (uG o)).sum
theorem b0h (a : Int) : mL a = if a % 18446744073709551616 ≥ 9223372036854775808 then a % 18446744073709551616 - 18446744073709551616 else a % 18446744073709551616 := by
 show IntKind.wrap .i64 a = _
 unfold IntKind.wrap
 simp [IntKind.bits, IntKind.signed]
theorem c0e (a b : Int) : mL (mL a + b) = mL (a + b) := by
 simp only [b0h]
 (repeat' split) <;> omega
theorem b8K (a b : Int) : mL (mL a - mL b) = mL (a - b) := by
 simp only [b0h]
 (repeat' split) <;> omega
theorem c3s {a : Int} (h1 : -9223372036854775808 ≤ a) (h2 : a < 9223372036854775808) : mL a = a := by
 rw [b0h]
 split <;> omega
theorem tD (o : Org) (p : Ct) (l : List Ct) : uO o (p :: l) = uG o p + uO o l := by simp [uO]
theorem a2R (o : Org) : ∀ (l : List Ct) (a : Int), l.foldl (fun n p => mL (n + uG o p)) (mL a) = mL (a + uO o l)
 | [], a => by simp [uO]
 | p :: l, a => by
   rw [eO, c0e, a2R o l, tD, Int.add_assoc]
theorem a3q (o : Org) (l : List Ct) : oO o l = mL (uO o l) := by
 have := a2R o l 0
 rw [c3s (by decide) (by decide), Int.zero_add] at this
 exact this
theorem a1m (o : Org) (q : Ct → Bool) : ∀ l : List Ct, uO o (l.filter q) + uO o (l.filter fun c => !q c) = uO o l
 | [] => rfl
 | p :: l => by
   have ih := a1m o q l
   rw [im, im, tD]
   cases q p
   ·simp only [gY, if_true, tD]
    rw [if_neg (by decide)]
    omega
   ·simp only [Bool.not_true, if_true, tD]
    rw [if_neg (by decide)]
    omega
theorem b4G {A B : List Ct} (hA : A.Pairwise uP) (hB : B.Pairwise uP) (h : ∀ x ∈ B, x ∈ A) : A.filter (fun c => decide (c ∈ B)) = B :=
 pJ _ _ (hA.filter _) hB fun x => by
  rw [ef, decide_eq_true_eq]
  exact ⟨fun h => h.2, fun hx => ⟨h x hx, hx⟩⟩
theorem a9D {o : Org} {A B : List Ct} (hA : A.Pairwise uP) (hB : B.Pairwise uP) (h : ∀ x ∈ B, x ∈ A) : uO o B + uO o (zB A B) = uO o A := by
 have e := a1m o (fun c => decide (c ∈ B)) A
 rw [b4G hA hB h] at e
 exact e
theorem b0d {o : Org} {A B : List Ct} (hA : A.Pairwise uP) (hB : B.Pairwise uP) (h : ∀ x ∈ B, x ∈ A) : oO o (zB A B) = mL (oO o A - oO o B) := by
 rw [a3q, a3q, a3q, b8K]
 congr 1
 have := a9D (o := o) hA hB h
 omega
end Go.Ds
namespace Go.Ds
open Go.Proofs Go.Proofs.Tryz
variable {H : Heap}
set_option maxRecDepth 10000
set_option maxHeartbeats 1000000
theorem a3b (o : Org) (ho : o.In H) (v : Value) (ps : List Ct) (hv : Sl 2 jP H v ps) (hl : ps.length < 100000000) (hp : ∀ p ∈ ps, IsP o p) :
 Fn prog 43 [.agg #[.string o.name, o.rv, o.dv, o.cv], v] H fun r H' => r = I (oO o ps) ∧ St prog H H' [] := by
 refine .aF func43 rfl (by kernel_rfl) (m := 29) rfl fun l hn g0 g1 => ?_
 simp (disch := omega) only [↓RA, RB, simprocAttr, g0]
 refine (sR H).eNew 4 [(.string o.name), o.rv, o.dv, o.cv] rfl rfl (by simp [OC, ((sR H).sl ho.1).cells.2.1, ((sR H).sl ho.2.2.1).cells.2.1, ((sR H).sl ho.2.2.2.2.1).cells.2.1]) lU fun A1 H1 hS1 => ?_
 simp only [RT] at hS1
 simp (disch := omega) only [↓RA, RZ, simprocAttr, hn, g1, (hS1.sl hv).len]
 refine Wp.ak (fun n l H' => l.length = 29 ∧ get l 2 = (ptr A1 0 4) ∧ get l 4 = I 0 ∧ get l 8 = v ∧ get l 9 = I ps.length ∧ ∃ (i : Nat), (n + i = ps.length) ∧ get l 10 = I i ∧ get l 5 = I (oO o (ps.take i)) ∧ St prog H H' [⟨ptr A1 0 4, 0, [(.string o.name), o.rv, o.dv, o.cv]⟩]) ps.length ?_ ?_
 ·simp (disch := omega) only [RB, RC, simprocAttr, hn]
  exact ⟨0, by omega, rfl, rfl, hS1⟩
 rintro n l H2 ⟨hn, g2, g4, g8, g9, i, hi, oY, g5, hS2⟩
 simp (disch := omega) only [↓RA, RB, simprocAttr, hn, g9, oY]
 refine iA (fun q1 => ?_) (fun q1 => ?_)
 ·have hpi := hp _ (iD (xs := ps) (j := i) (by omega))
  obtain ⟨e, he⟩ : ∃ e : Nat, (iB ps i).1 = e := ⟨(iB ps i).1.toNat, by have := hpi.1; omega⟩
  obtain ⟨f, hf⟩ : ∃ f : Nat, (iB ps i).2 = f := ⟨(iB ps i).2.toNat, by have := hpi.2.2.1; omega⟩
  have hel : e < o.ranks.length := by have := hpi.2.1; omega
  have hfl : f < (iB o.ranks e).wind.length := by
   have := hpi.2.2.2
   rw [he, dF] at this
   omega
  have hsu := a2s o ps i (by omega)
  have hwt : uG o (iB ps i) = iB (iB o.ranks e).wind f := by unfold uG; rw [he, hf, dF, dF]
  rw [hwt] at hsu
  simp (disch := omega) only [↓RA, RZ, simprocAttr, hn, g8, oY, (hS2.sl hv).idx, (hS2.sl hv).ae, jP, q1]
  refine hS2.eNew 2 [I 0, I 0] rfl rfl rfl qL fun A2 H3 hS3 => ?_
  simp only [RT] at hS3
  simp (disch := omega) only [↓RA, RZ, simprocAttr, hn, q1]
  refine hS3.aa 1 rfl [I (iB ps i).1, I (iB ps i).2] rfl rfl qL (by simp) fun H4 hS4 => ?_
  simp only [RT] at hS4
  simp (disch := omega) only [↓RA, RZ, simprocAttr, q1]
  refine Wp.drw jY (by kernel_rfl) ?_
  simp (disch := omega) only [↓RA, RZ, simprocAttr, hn, g2, g5, hS4.ld 0 rfl]
  simp (disch := omega) only [↓RA, RZ, simprocAttr, hn, g2, g4, g8, g9, oY, hS4.ld 1 rfl, (hS4.sl ho.1).idx, (hS4.sl ho.1).aY, (hS4.sl ho.1).ld, Rk.cells, (hS4.sl (ho.2.1 (iB o.ranks e) (iD (by omega))).1).idx, (hS4.sl (ho.2.1 (iB o.ranks e) (iD (by omega))).1).ld, one, he, hf]
  refine ⟨n - 1, by omega, i + 1, by omega, by simp, ?_, hS4.pick [0] (by decide) rfl⟩
  first | (rw [hsu]; done) | (rw [hsu]; rfl) | (rw [hsu]; simp)
 simp (disch := omega) only [↓RA, RZ, simprocAttr, hn, g5, c7l, q1]
 have hii : i = ps.length := by omega
 rw [hii, dU]
 exact ⟨rfl, hS2.forget⟩
theorem a8y (o : Org) (ho : o.In H) (v : Value) (ps : List Ct) (hv : Sl 2 jP H v ps) (hl : ps.length < 100000000) (hp : ∀ p ∈ ps, IsP o p) :
 Fn prog 22 [.agg #[.string o.name, o.rv, o.dv, o.cv], v] H fun r H' => r = I (oO o ps) ∧ St prog H H' [] := by
 refine .aF func22 rfl (by kernel_rfl) (m := 29) rfl fun l hn g0 g1 => ?_
 simp (disch := omega) only [↓RA, RB, simprocAttr, g0]
 refine (sR H).eNew 4 [(.string o.name), o.rv, o.dv, o.cv] rfl rfl (by simp [OC, ((sR H).sl ho.1).cells.2.1, ((sR H).sl ho.2.2.1).cells.2.1, ((sR H).sl ho.2.2.2.2.1).cells.2.1]) lU fun A1 H1 hS1 => ?_
 simp only [RT] at hS1
 simp (disch := omega) only [↓RA, RZ, simprocAttr, hn, g1, (hS1.sl hv).len]
 refine Wp.ak (fun n l H' => l.length = 29 ∧ get l 2 = (ptr A1 0 4) ∧ get l 4 = I 0 ∧ get l 8 = v ∧ get l 9 = I ps.length ∧ ∃ (i : Nat), (n + i = ps.length) ∧ get l 10 = I i ∧ get l 5 = I (oO o (ps.take i)) ∧ St prog H H' [⟨ptr A1 0 4, 0, [(.string o.name), o.rv, o.dv, o.cv]⟩]) ps.length ?_ ?_
 ·simp (disch := omega) only [RB, RC, simprocAttr, hn]
  exact ⟨0, by omega, rfl, rfl, hS1⟩
 rintro n l H2 ⟨hn, g2, g4, g8, g9, i, hi, oY, g5, hS2⟩
 simp (disch := omega) only [↓RA, RB, simprocAttr, hn, g9, oY]
 refine iA (fun q1 => ?_) (fun q1 => ?_)
 ·have hpi := hp _ (iD (xs := ps) (j := i) (by omega))
  obtain ⟨e, he⟩ : ∃ e : Nat, (iB ps i).1 = e := ⟨(iB ps i).1.toNat, by have := hpi.1; omega⟩
  obtain ⟨f, hf⟩ : ∃ f : Nat, (iB ps i).2 = f := ⟨(iB ps i).2.toNat, by have := hpi.2.2.1; omega⟩
  have hel : e < o.ranks.length := by have := hpi.2.1; omega
  have hfl : f < (iB o.ranks e).wind.length := by
   have := hpi.2.2.2
   rw [he, dF] at this
   omega
  have hsu := a2s o ps i (by omega)
  have hwt : uG o (iB ps i) = iB (iB o.ranks e).wind f := by unfold uG; rw [he, hf, dF, dF]
  rw [hwt] at hsu
  simp (disch := omega) only [↓RA, RZ, simprocAttr, hn, g8, oY, (hS2.sl hv).idx, (hS2.sl hv).ae, jP, q1]
  refine hS2.eNew 2 [I 0, I 0] rfl rfl rfl qL fun A2 H3 hS3 => ?_
  simp only [RT] at hS3
  simp (disch := omega) only [↓RA, RZ, simprocAttr, hn, q1]
  refine hS3.aa 1 rfl [I (iB ps i).1, I (iB ps i).2] rfl rfl qL (by simp) fun H4 hS4 => ?_
  simp only [RT] at hS4
  simp (disch := omega) only [↓RA, RZ, simprocAttr, q1]
  refine Wp.drw jY (by kernel_rfl) ?_
  simp (disch := omega) only [↓RA, RZ, simprocAttr, hn, g2, g5, hS4.ld 0 rfl]
  simp (disch := omega) only [↓RA, RZ, simprocAttr, hn, g2, g4, g8, g9, oY, hS4.ld 1 rfl, (hS4.sl ho.1).idx, (hS4.sl ho.1).aY, (hS4.sl ho.1).ld, Rk.cells, (hS4.sl (ho.2.1 (iB o.ranks e) (iD (by omega))).1).idx, (hS4.sl (ho.2.1 (iB o.ranks e) (iD (by omega))).1).ld, one, he, hf]
  refine ⟨n - 1, by omega, i + 1, by omega, by simp, ?_, hS4.pick [0] (by decide) rfl⟩
  first | (rw [hsu]; done) | (rw [hsu]; rfl) | (rw [hsu]; simp)
 simp (disch := omega) only [↓RA, RZ, simprocAttr, hn, g5, c8d, q1]
 have hii : i = ps.length := by omega
 rw [hii, dU]
 exact ⟨rfl, hS2.forget⟩
theorem b2g {o : Org} {rg : Reg} {ks : List Nt} : ∀ p ∈ oN o rg ks, IsP o p := by
 intro p hp
 unfold oN at hp
 split at hp
 ·exact rJ hp
 ·exact absurd hp ec
theorem b7R {o : Org} {rg : Reg} {ks : List Nt} (hok : ∀ x ∈ ks, Nt.Ok x) : (oN o rg ks).length ≤ 1000000 := by
 unfold oN
 split
 ·rename_i h
  obtain ⟨h1, h2⟩ := vN h
  exact qR (Org.aI (mG h1).1) rg (pN h2) (mH (nH hok h2))
 ·simp
def b2B (o : Org) (rg : Reg) (ks : List Nt) : Int := oO o (oN o rg ks)
theorem c2k (hG : Glob gH H) (o : Org) (ho : o.In H) (rg : Reg) (sv : Value) (hr : rg.In H sv) (kv : Value) (ks : List Nt) (hk : Ks H kv ks) :
 Fn prog 15 [.agg #[.string o.name, o.rv, o.dv, o.cv], .agg #[sv, .int .u64 rg.cpl, .int .u64 rg.off], kv] H fun r H' => r = .tuple #[I (b2B o rg ks), I (rkE o rg ks)] ∧ St prog H H' [] := by
 have hle := b7R (o := o) (rg := rg) hk.ok
 refine .bd func15 rfl (by kernel_rfl) (m := 23) rfl fun l hn g0 g1 g2 => ?_
 simp (disch := omega) only [↓RA, RB, simprocAttr, g0]
 refine (sR H).eNew 4 [(.string o.name), o.rv, o.dv, o.cv] rfl rfl (by simp [OC, ((sR H).sl ho.1).cells.2.1, ((sR H).sl ho.2.2.1).cells.2.1, ((sR H).sl ho.2.2.2.2.1).cells.2.1]) lU fun A1 H1 hS1 => ?_
 simp only [RT] at hS1
 simp (disch := omega) only [↓RA, RB, simprocAttr, g1]
 refine hS1.eNew 3 [sv, (.int .u64 rg.cpl), (.int .u64 rg.off)] rfl rfl (by simp [OC, (hS1.sl hr.1).cells.2.1]) nW fun A2 H2 hS2 => ?_
 simp only [RT] at hS2
 simp (disch := omega) only [↓RA, RZ, simprocAttr, hn, g2, hS2.ae 0 rfl, hS2.ae 1 rfl]
 refine iG (a1p (hS2.gl hG) o (ho.ab hS2) rg sv (hr.ab hS2) kv ks (hk.ab hS2)) ?_
 rintro r H3 ⟨pv, rfl, hx, hT1⟩
 have hS3 := hS2.trans hT1
 simp only [RT] at hS3
 simp (disch := omega) only [↓RA, RB, simprocAttr, hn]
 refine iA (fun h1 => ?_) (fun h1 => ?_)
 ·have hs : b2B o rg ks = 0 := by unfold b2B oN; rw [if_neg h1]; rfl
  simp (disch := omega) only [↓RA, RZ, simprocAttr, hn, c6m, h1]
  exact ⟨by rw [hs], hS3.forget⟩
 have h0 := dy.1 h1
 simp (disch := omega) only [↓RA, RZ, simprocAttr, hn, hS3.ae 0 rfl, h1]
 refine hS3.cF (a3b o (ho.ab hS3) pv (oN o rg ks) hx.1 (by omega) b2g) fun H4 hS4 => ?_
 simp (disch := omega) only [↓RA, RZ, simprocAttr, hn, c6m, h1]
 rw [h0]
 exact ⟨rfl, hS4.forget⟩
def rM (o : Org) (rg : Reg) (c : Ct) : Int := oO o (ofF o rg c)
theorem c2K {o : Org} {rg : Reg} {c : Ct} : (ofF o rg c).length ≤ 1000000 := by
 by_cases h : a1E o rg c = 0
 ·exact c3K (Org.aI (mG (a0M h).1).1) rg c
 ·unfold ofF
  rw [if_neg h]
  simp
theorem b2q (o : Org) (ho : o.In H) (rg : Reg) (sv : Value) (hr : rg.In H sv) (c : Ct) :
 Fn prog 28 [.agg #[.string o.name, o.rv, o.dv, o.cv], .agg #[sv, .int .u64 rg.cpl, .int .u64 rg.off], .agg #[I c.1, I c.2]] H fun r H' => r = .tuple #[I (rM o rg c), I (a1E o rg c)] ∧ St prog H H' [] := by
 have hle := c2K (o := o) (rg := rg) (c := c)
 refine .bd func28 rfl (by kernel_rfl) (m := 23) rfl fun l hn g0 g1 g2 => ?_
 simp (disch := omega) only [↓RA, RB, simprocAttr, g0]
 refine (sR H).eNew 4 [(.string o.name), o.rv, o.dv, o.cv] rfl rfl (by simp [OC, ((sR H).sl ho.1).cells.2.1, ((sR H).sl ho.2.2.1).cells.2.1, ((sR H).sl ho.2.2.2.2.1).cells.2.1]) lU fun A1 H1 hS1 => ?_
 simp only [RT] at hS1
 simp (disch := omega) only [↓RA, RB, simprocAttr, g1]
 refine hS1.eNew 3 [sv, (.int .u64 rg.cpl), (.int .u64 rg.off)] rfl rfl (by simp [OC, (hS1.sl hr.1).cells.2.1]) nW fun A2 H2 hS2 => ?_
 simp only [RT] at hS2
 simp (disch := omega) only [↓RA, RB, simprocAttr, g2]
 refine hS2.eNew 2 [I c.1, I c.2] rfl rfl rfl lN fun A3 H3 hS3 => ?_
 simp only [RT] at hS3
 simp (disch := omega) only [↓RA, RZ, simprocAttr, hn, hS3.ae 0 rfl, hS3.ae 1 rfl, hS3.ae 2 rfl]
 refine iG (c6r o (ho.ab hS3) rg sv (hr.ab hS3) c) ?_
 rintro r H4 ⟨pv, rfl, hx, hT1⟩
 have hS4 := hS3.trans hT1
 simp only [RT] at hS4
 simp (disch := omega) only [↓RA, RB, simprocAttr, hn]
 refine iA (fun h1 => ?_) (fun h1 => ?_)
 ·have hs : rM o rg c = 0 := by unfold rM ofF; rw [if_neg h1]; rfl
  simp (disch := omega) only [↓RA, RZ, simprocAttr, hn, c4L, h1]
  exact ⟨by rw [hs], hS4.forget⟩
 have h0 := dy.1 h1
 simp (disch := omega) only [↓RA, RZ, simprocAttr, hn, hS4.ae 0 rfl, h1]
 refine hS4.cF (a3b o (ho.ab hS4) pv (ofF o rg c) hx.1 (by omega) (fun p hp => b8Z hp)) fun H5 hS5 => ?_
 simp (disch := omega) only [↓RA, RZ, simprocAttr, hn, c4L, h1]
 rw [h0]
 exact ⟨rfl, hS5.forget⟩
theorem b5G (o : Org) (ho : o.In H) (h0 : organE o = 0) (rg : Reg) (sv : Value) (hr : rg.In H sv) (hrl : rg.stops.length = o.dvs.length) (kv : Value) (ks : List Nt) (hk : Ks H kv ks) (hke : lR o ks = 0) :
 Fn prog 18 [.agg #[.string o.name, o.rv, o.dv, o.cv], .agg #[sv, .int .u64 rg.cpl, .int .u64 rg.off], kv] H fun r H' => r = I (oO o (kH o rg (iF ks))) ∧ St prog H H' [] := by
 have hf := Org.aI h0
 have hle := qR hf rg (pN hke) (mH (nH hk.ok hke))
 refine .bd func18 rfl (by kernel_rfl) (m := 13) rfl fun l hn g0 g1 g2 => ?_
 simp (disch := omega) only [↓RA, RB, simprocAttr, g0]
 refine (sR H).eNew 4 [(.string o.name), o.rv, o.dv, o.cv] rfl rfl (by simp [OC, ((sR H).sl ho.1).cells.2.1, ((sR H).sl ho.2.2.1).cells.2.1, ((sR H).sl ho.2.2.2.2.1).cells.2.1]) lU fun A1 H1 hS1 => ?_
 simp only [RT] at hS1
 simp (disch := omega) only [↓RA, RB, simprocAttr, g1]
 refine hS1.eNew 3 [sv, (.int .u64 rg.cpl), (.int .u64 rg.off)] rfl rfl (by simp [OC, (hS1.sl hr.1).cells.2.1]) nW fun A2 H2 hS2 => ?_
 simp only [RT] at hS2
 simp (disch := omega) only [↓RA, RB, simprocAttr]
 refine Wp.aL jY [(0, 5)] (by kernel_rfl) (by kernel_rfl) ?_
 simp (disch := omega) only [↓RA, RZ, simprocAttr, hn, g2, hS2.ae 0 rfl, hS2.ae 1 rfl]
 refine iG (wO o (ho.ab hS2) h0 rg sv (hr.ab hS2) hrl kv ks (hk.ab hS2) hke) ?_
 rintro r H3 ⟨hx, hT1⟩
 have hS3 := hS2.trans hT1
 simp only [RT] at hS3
 obtain ⟨pv, rfl⟩ : ∃ w, w = r := ⟨r, rfl⟩
 simp (disch := omega) only [↓RA, RZ, simprocAttr, hn]
 refine hS3.cF (a8y o (ho.ab hS3) pv (kH o rg (iF ks)) hx.1 (by omega) (fun p hp => rJ hp)) fun H4 hS4 => ?_
 simp (disch := omega) only [↓RA, RZ, simprocAttr, hn, hS3.ae 0 rfl, c8f]
 exact hS4.forget
end Go.Ds
namespace Go.Ds
open Go.Proofs
set_option maxRecDepth 10000
theorem b2P {o : Org} (hf : o.Fine) {r : Reg} {l m : List Ct} (h : ∀ x ∈ l, x ∈ m) : ∀ p ∈ kH o r l, p ∈ kH o r m := by
 intro p hp
 obtain ⟨c, hc, x, h1, h2⟩ := (tE hf).1 hp
 exact (tE hf).2 ⟨c, h c hc, x, h1, h2⟩
def grS (f : Ct → Int) (a : Ct × Int) (c : Ct) : Ct × Int := if f c > a.2 then (c, f c) else a
def grF (f : Ct → Int) (l : List Ct) (a : Ct × Int) : Ct × Int := l.foldl (grS f) a
theorem b9O (f : Ct → Int) (l : List Ct) (c : Ct) (a : Ct × Int) : grF f (l ++ [c]) a = grS f (grF f l a) c := by
 unfold grF
 rw [fz]
 rfl
end Go.Ds
namespace Go.Ds
open Go.Proofs Go.Proofs.Tryz
variable {H : Heap}
set_option maxRecDepth 10000
set_option maxHeartbeats 1000000
structure Kv where
 v : Value
 l : List Nt
 deriving Inhabited
def Kv.cells (k : Kv) : List Value := [k.v]
def Kv.In (H : Heap) (k : Kv) : Prop := Ks H k.v k.l
theorem Kv.In.ab {P : Program} {H' : Heap} {k : Kv} {os : List Ob} (h : k.In H) (hS : St P H H' os) : k.In H' := Ks.ab h hS
def a1v (o : Org) (rg : Reg) (l : List Kv) : Int := if organE o ≠ 0 then organE o else if nF o rg ≠ 0 then nF o rg else if 200 < l.length then 4 else lL (fun j => lR o (iB l j).l) l.length
theorem c0C (o : Org) (ho : o.In H) (rg : Reg) (sv : Value) (hr : rg.In H sv) (lv : Value) (ls : List Kv) (hl : Sl 1 Kv.cells H lv ls) (hle : ls.length < 1000000000) (hk : ∀ k ∈ ls, k.In H) :
 Fn prog 49 [.agg #[.string o.name, o.rv, o.dv, o.cv], .agg #[sv, .int .u64 rg.cpl, .int .u64 rg.off], lv] H fun r H' => r = I (a1v o rg ls) ∧ St prog H H' [] := by
 have hlc := hl.cells
 refine .bd func49 rfl (by kernel_rfl) (m := 39) rfl fun l hn g0 g1 g2 => ?_
 simp (disch := omega) only [↓RA, RB, simprocAttr, g0]
 refine (sR H).eNew 4 [(.string o.name), o.rv, o.dv, o.cv] rfl rfl (by simp [OC, ((sR H).sl ho.1).cells.2.1, ((sR H).sl ho.2.2.1).cells.2.1, ((sR H).sl ho.2.2.2.2.1).cells.2.1]) lU fun A1 H1 hS1 => ?_
 simp only [RT] at hS1
 simp (disch := omega) only [↓RA, RB, simprocAttr, g1]
 refine hS1.eNew 3 [sv, (.int .u64 rg.cpl), (.int .u64 rg.off)] rfl rfl (by simp [OC, (hS1.sl hr.1).cells.2.1]) nW fun A2 H2 hS2 => ?_
 simp only [RT] at hS2
 simp (disch := omega) only [↓RA, RZ, simprocAttr, hn, hS2.ae 0 rfl]
 refine hS2.cF (yI o (ho.ab hS2)) fun H3 hS3 => ?_
 simp (disch := omega) only [↓RA, RB, simprocAttr, hn]
 refine iA (fun h1 => ?_) (fun h1 => ?_)
 ·simp (disch := omega) only [↓RA, RZ, simprocAttr, hn, b6D, h1]
  exact ⟨by rw [a1v, if_pos h1], hS3.forget⟩
 simp (disch := omega) only [↓RA, RZ, simprocAttr, hn, hS3.ae 0 rfl, hS3.ae 1 rfl, h1]
 refine hS3.cF (b6A o (ho.ab hS3) rg sv (hr.ab hS3)) fun H4 hS4 => ?_
 simp (disch := omega) only [↓RA, RZ, simprocAttr, hn, h1]
 refine iA (fun h2 => ?_) (fun h2 => ?_)
 ·simp (disch := omega) only [↓RA, RZ, simprocAttr, hn, b6D, h1, h2]
  exact ⟨by rw [a1v, if_neg h1, if_pos h2], hS4.forget⟩
 simp (disch := omega) only [↓RA, RZ, simprocAttr, hn, g2, (hS4.sl hl).len, h1, h2]
 refine iA (fun h3 => ?_) (fun h3 => ?_)
 ·simp (disch := omega) only [↓RA, RZ, simprocAttr, hn, b6D, h1, h2, h3]
  exact ⟨by rw [a1v, if_neg h1, if_neg h2, if_pos (by omega)], hS4.forget⟩
 have hE : a1v o rg ls = lL (fun j => lR o (iB ls j).l) ls.length := by rw [a1v, if_neg h1, if_neg h2, if_neg (by omega)]
 simp (disch := omega) only [↓RA, RZ, simprocAttr, hn, g2, (hS4.sl hl).len, h1, h2, h3]
 refine Wp.ak (fun n l H' => l.length = 39 ∧ get l 3 = (ptr A1 0 4) ∧ get l 26 = lv ∧ get l 27 = I ls.length ∧ ∃ (j : Nat), (n + j = ls.length ∧ ∀ q, q < j → lR o (iB ls q).l = 0) ∧ get l 28 = I j ∧ St prog H H' [⟨ptr A1 0 4, 0, [(.string o.name), o.rv, o.dv, o.cv]⟩, ⟨ptr A2 0 3, 0, [sv, (.int .u64 rg.cpl), (.int .u64 rg.off)]⟩]) ls.length ?_ ?_
 ·simp (disch := omega) only [RB, RC, simprocAttr, hn]
  exact ⟨0, ⟨by omega, fun q hq => absurd hq (dN _)⟩, rfl, hS4⟩
 rintro n l H5 ⟨hn, g3, g26, g27, j, ⟨hj,hz⟩, g28, hS5⟩
 simp (disch := omega) only [↓RA, RB, simprocAttr, hn, g27, g28]
 refine iA (fun q1 => ?_) (fun q1 => ?_)
 ·simp (disch := omega) only [↓RA, RZ, simprocAttr, hn, g3, g26, g28, (hS5.sl hl).idx, (hS5.sl hl).ld, Kv.cells, hS5.ae 0 rfl, q1]
  refine hS5.cF (a3e o (ho.ab hS5) (iB ls j).v (iB ls j).l ((hk _ (iD (by omega))).ab hS5)) fun H6 hS6 => ?_
  simp (disch := omega) only [↓RA, RZ, simprocAttr, hn, q1]
  refine iA (fun q2 => ?_) (fun q2 => ?_)
  ·simp (disch := omega) only [↓RA, RZ, simprocAttr, hn, b6D, q1, q2]
   exact ⟨by rw [hE, nN (fun j => lR o (iB ls j).l) ls.length j (by omega) q2 hz], hS6.forget⟩
  simp (disch := omega) only [↓RA, RZ, simprocAttr, hn, g3, g26, g27, g28, q1, q2]
  exact ⟨n - 1, by omega, j + 1, ⟨by omega, fun q hq => by rcases dr.1 hq with e | e; (· exact hz q e); (· rw [e]; exact dy.1 q2)⟩, by simp, hS6.pick [0, 1] (by decide) rfl⟩
 simp (disch := omega) only [↓RA, RZ, simprocAttr, hn, b6D, q1]
 exact ⟨by rw [hE, kN (fun j => lR o (iB ls j).l) ls.length fun q hq => hz q (by omega)], hS5.forget⟩
theorem a1C (a : Addr) (m c : Nat) : kU prog .eql 44 44 false true (.slice (some a) m c) (.slice none 0 0) = some (.bool false) := by kernel_rfl
theorem uX {v : Value} {a : Addr} {m c : Nat} (h : v = .slice (some a) m c) (K : Value → Prop) : kX prog .eql 44 44 false true v (.slice none 0 0) K = oF (.bool false) K := by
 subst h
 show jU (kU prog .eql 44 44 false true (.slice (some a) m c) (.slice none 0 0)) K = _
 rw [a1C]
 rfl
theorem a0t : kU prog .eql 44 44 false true (.slice none 0 0) (.slice none 0 0) = some (.bool true) := by kernel_rfl
theorem pB (K : Value → Prop) : kX prog .eql 44 44 false true (.slice none 0 0) (.slice none 0 0) K = oF (.bool true) K := by
 show jU (kU prog .eql 44 44 false true (.slice none 0 0) (.slice none 0 0)) K = _
 rw [a0t]
 rfl
theorem b0D (v : Value) (xs : List Nt) (hv : Sl 2 wH H v xs) (hl : xs.length < 100000000) : Fn prog 56 [v] H fun r H' => St prog H H' [⟨r, 2, xs.flatMap wH⟩] := by
 rcases hv.rd with ⟨rfl, h2⟩ | ⟨A, i, e, row, ty, rw', lo, ver, m, _, _, _, _, _, _, hvv⟩
 ·have hx : xs = [] := by
   have := congrArg List.length h2
   rw [show (xs.flatMap wH).length = xs.length * 2 from iM (n := 2) (cel := wH) (fun _ => rfl) xs, ew] at this
   exact fo.1 (by omega)
  subst hx
  refine .aQ func56 rfl (by kernel_rfl) (m := 8) rfl fun l hn g0 => ?_
  have hbe := pB
  simp (disch := omega) only [↓RA, RB, simprocAttr, hn, g0, pB]
  have hS1 := (sR H).nil 1
  simp only [RT] at hS1
  simp (disch := omega) only [RB, simprocAttr, hn, c4O]
  exact hS1
 ·refine .aQ func56 rfl (by kernel_rfl) (m := 8) rfl fun l hn g0 => ?_
  simp (disch := omega) only [↓RA, RB, simprocAttr, hn, g0, uX hvv]
  refine (sR H).bE a6q fun w1 H1 hS1 => ?_
  simp only [RT] at hS1
  simp (disch := omega) only [↓RA, RZ, simprocAttr, hn, g0]
  refine hS1.aq 0 rfl (hS1.sl hv).rd a6q (by rw [show (xs.flatMap wH).length = xs.length * 2 from iM (n := 2) (cel := wH) (fun _ => rfl) xs]; simp; omega) fun w2 H2 hS2 => ?_
  simp only [RT] at hS2
  simp (disch := omega) only [↓RA, RB, simprocAttr, hn, c4O]
  exact hS2
theorem a1H (a : Addr) (m c : Nat) : kU prog .eql 90 90 false true (.slice (some a) m c) (.slice none 0 0) = some (.bool false) := by kernel_rfl
theorem vV {v : Value} {a : Addr} {m c : Nat} (h : v = .slice (some a) m c) (K : Value → Prop) : kX prog .eql 90 90 false true v (.slice none 0 0) K = oF (.bool false) K := by
 subst h
 show jU (kU prog .eql 90 90 false true (.slice (some a) m c) (.slice none 0 0)) K = _
 rw [a1H]
 rfl
theorem a0S : kU prog .eql 90 90 false true (.slice none 0 0) (.slice none 0 0) = some (.bool true) := by kernel_rfl
theorem pE (K : Value → Prop) : kX prog .eql 90 90 false true (.slice none 0 0) (.slice none 0 0) K = oF (.bool true) K := by
 show jU (kU prog .eql 90 90 false true (.slice none 0 0) (.slice none 0 0)) K = _
 rw [a0S]
 rfl
theorem b0g (v : Value) (xs : List Ct) (hv : Sl 2 jP H v xs) (hl : xs.length < 100000000) : Fn prog 89 [v] H fun r H' => St prog H H' [⟨r, 2, xs.flatMap jP⟩] := by
 rcases hv.rd with ⟨rfl, h2⟩ | ⟨A, i, e, row, ty, rw', lo, ver, m, _, _, _, _, _, _, hvv⟩
 ·have hx : xs = [] := by
   have := congrArg List.length h2
   rw [show (xs.flatMap jP).length = xs.length * 2 from iM (n := 2) (cel := jP) (fun _ => rfl) xs, ew] at this
   exact fo.1 (by omega)
  subst hx
  refine .aQ func89 rfl (by kernel_rfl) (m := 8) rfl fun l hn g0 => ?_
  have hbe := pE
  simp (disch := omega) only [↓RA, RB, simprocAttr, hn, g0, pE]
  have hS1 := (sR H).nil 1
  simp only [RT] at hS1
  simp (disch := omega) only [RB, simprocAttr, hn, c6I]
  exact hS1
 ·refine .aQ func89 rfl (by kernel_rfl) (m := 8) rfl fun l hn g0 => ?_
  simp (disch := omega) only [↓RA, RB, simprocAttr, hn, g0, vV hvv]
  refine (sR H).bE qK fun w1 H1 hS1 => ?_
  simp only [RT] at hS1
  simp (disch := omega) only [↓RA, RZ, simprocAttr, hn, g0]
  refine hS1.aq 0 rfl (hS1.sl hv).rd qK (by rw [show (xs.flatMap jP).length = xs.length * 2 from iM (n := 2) (cel := jP) (fun _ => rfl) xs]; simp; omega) fun w2 H2 hS2 => ?_
  simp only [RT] at hS2
  simp (disch := omega) only [↓RA, RB, simprocAttr, hn, c6I]
  exact hS2
theorem b3K {m : Nat} (h : m < 64) : iY [(m : Int)] = (2 ^ m, 0) := by
 show qZ (0, 0) (m : Int) = _
 unfold qZ
 rw [if_pos (by omega)]
 simp
theorem b2V {m : Nat} (h : 64 ≤ m) : iY [(m : Int)] = (0, 2 ^ (m - 64)) := by
 show qZ (0, 0) (m : Int) = _
 unfold qZ
 rw [if_neg (by omega), show ((m : Int) - 64).toNat = m - 64 by omega]
 simp
theorem b8l (z : Int) (hz : isN z) : Fn prog 83 [I z] H fun r H' => r = .agg #[.int .u64 (iY [z]).1, .int .u64 (iY [z]).2] ∧ St prog H H' [] := by
 have hz2 := hz.2
 obtain ⟨m, rfl⟩ := eR hz.1
 refine .aQ func83 rfl (by kernel_rfl) (m := 14) rfl fun l hn g0 => ?_
 simp (disch := omega) only [↓RA, RZ, simprocAttr]
 refine (sR H).eNew 2 [(.int .u64 0), (.int .u64 0)] rfl rfl rfl kK fun A1 H1 hS1 => ?_
 simp only [RT] at hS1
 simp (disch := omega) only [↓RA, RB, simprocAttr, hn, g0]
 refine iA (fun q => ?_) (fun q => ?_)
 ·have hw : IntKind.wrap .u64 ((m : Int) - 64) = ((m - 64 : Nat) : Int) := by rw [mY _ (by omega) (by omega)]; omega
  have hp := b6j (m - 64) (by omega)
  simp (disch := omega) only [↓RA, RZ, simprocAttr, hn, g0, b9p, q, hw, hp]
  refine hS1.aa 0 rfl [(.int .u64 0), _] rfl rfl kK (by simp) fun H2 hS2 => ?_
  simp only [RT] at hS2
  simp (disch := omega) only [↓RA, RZ, simprocAttr, hn, c6G, hS2.ae 0 rfl, q]
  rw [b2V (by omega)]
  exact ⟨rfl, hS2.forget⟩
 have hw : IntKind.wrap .u64 (m : Int) = ((m : Nat) : Int) := mY _ (by omega) (by omega)
 have hp := b6j m (by omega)
 simp (disch := omega) only [↓RA, RZ, simprocAttr, hn, g0, b8C, q, hw, hp]
 refine hS1.aa 0 rfl [_, (.int .u64 0)] rfl rfl kK (by simp) fun H3 hS3 => ?_
 simp only [RT] at hS3
 simp (disch := omega) only [↓RA, RZ, simprocAttr, hn, c6G, hS3.ae 0 rfl, q]
 rw [b3K (by omega)]
 exact ⟨rfl, hS3.forget⟩
theorem a5B (o : Org) (ho : o.In H) (c : Ct) : Fn prog 30 [.agg #[.string o.name, o.rv, o.dv, o.cv], .agg #[I c.1, I c.2]] H fun r H' => r = I (oJ o c) ∧ St prog H H' [] := by
 have hl := ho.2.2.2.2.2.2.1
 have hin : lA o c = false → ¬ (c.1 < 0 ∨ (o.dvs.length : Int) ≤ c.1) → oJ o c = 23 := fun h h2 => by
  have h3 : oJ o c ≠ 0 := fun e => by rw [(nR o c).1 e] at h; cases h
  unfold oJ at h3 ⊢
  rw [if_neg h2] at h3 ⊢
  split at h3
  ·rename_i h4; rw [if_pos h4]
  ·exact absurd rfl h3
 refine .aF func30 rfl (by kernel_rfl) (m := 20) rfl fun l hn g0 g1 => ?_
 simp (disch := omega) only [↓RA, RB, simprocAttr, g0]
 refine (sR H).eNew 4 [(.string o.name), o.rv, o.dv, o.cv] rfl rfl (by simp [OC, ((sR H).sl ho.1).cells.2.1, ((sR H).sl ho.2.2.1).cells.2.1, ((sR H).sl ho.2.2.2.2.1).cells.2.1]) lU fun A1 H1 hS1 => ?_
 simp only [RT] at hS1
 simp (disch := omega) only [↓RA, RB, simprocAttr, g1]
 refine hS1.eNew 2 [I c.1, I c.2] rfl rfl rfl lN fun A2 H2 hS2 => ?_
 simp only [RT] at hS2
 simp (disch := omega) only [↓RA, RZ, simprocAttr, hn, hS2.ld 1 rfl]
 refine iL (fun h1 => ?_) (fun h1 => ?_)
 ·simp (disch := omega) only [↓RA, RZ, simprocAttr, hn, b9v, h1]
  exact ⟨by rw [oJ, if_pos (by omega)], hS2.forget⟩
 simp (disch := omega) only [↓RA, RZ, simprocAttr, hn, hS2.ld 1 rfl, hS2.ld 0 rfl, (hS2.sl ho.2.2.1).len, h1]
 refine iA (fun h2 => ?_) (fun h2 => ?_)
 ·simp (disch := omega) only [↓RA, RZ, simprocAttr, hn, b9v, h1, h2]
  exact ⟨by rw [oJ, if_pos (by omega)], hS2.forget⟩
 simp (disch := omega) only [↓RA, RZ, simprocAttr, hn, hS2.ae 0 rfl, hS2.ae 1 rfl, h1, h2]
 refine hS2.cF (a5u o (ho.ab hS2) c) fun H3 hS3 => ?_
 simp (disch := omega) only [↓RA, RZ, simprocAttr, hn, h1, h2]
 refine jL (fun h3 => ?_) (fun h3 => ?_)
 ·simp (disch := omega) only [↓RA, RZ, simprocAttr, hn, b9v, h1, h2, h3]
  exact ⟨by rw [hin (by simpa using h3) (by omega)], hS3.forget⟩
 simp (disch := omega) only [↓RA, RZ, simprocAttr, hn, b9v, h1, h2, h3]
 exact ⟨by rw [(nR o c).2 (by simpa using h3)], hS3.forget⟩
theorem b7Y (o : Org) (ho : o.In H) (hf : o.Fine) (d : Nat) (z : Int) (hc : lA o ((d : Int), z) = true) : Fn prog 51 [.agg #[.string o.name, o.rv, o.dv, o.cv], .agg #[I d, I z]] H fun r H' => St prog H H' [⟨r, 2, (pM o ((d : Int), z)).flatMap wH⟩] := by
 have hd1 := hf.dpos
 have hd2 := hf.dlen
 have h := (kM o _).1 hc
 have hz := mK hf hc
 simp only [dF] at h
 refine .aF func51 rfl (by kernel_rfl) (m := 18) rfl fun l hn g0 g1 => ?_
 have hlr : (List.replicate o.dvs.length ((0, 0) : Nt)).length = o.dvs.length := eL
 simp (disch := omega) only [↓RA, RB, simprocAttr, g0]
 refine (sR H).eNew 4 [(.string o.name), o.rv, o.dv, o.cv] rfl rfl (by simp [OC, ((sR H).sl ho.1).cells.2.1, ((sR H).sl ho.2.2.1).cells.2.1, ((sR H).sl ho.2.2.2.2.1).cells.2.1]) lU fun A1 H1 hS1 => ?_
 simp only [RT] at hS1
 simp (disch := omega) only [↓RA, RB, simprocAttr, g1]
 refine hS1.eNew 2 [I d, I z] rfl rfl rfl lN fun A2 H2 hS2 => ?_
 simp only [RT] at hS2
 simp (disch := omega) only [↓RA, RZ, simprocAttr, hn, hS2.ld 0 rfl, (hS2.sl ho.2.2.1).len]
 refine hS2.cj (cel := wH) (x := (0, 0)) o.dvs.length c5G rfl (by omega) fun w1 H3 hS3 => ?_
 simp only [RT] at hS3
 simp (disch := omega) only [↓RA, RB, simprocAttr, hn]
 refine Wp.aL jY [(2, 6)] (by kernel_rfl) (by kernel_rfl) ?_
 simp (disch := omega) only [↓RA, RZ, simprocAttr, hn, hS3.ld 1 rfl]
 refine hS3.cF (b8l z hz) fun H4 hS4 => ?_
 simp (disch := omega) only [↓RA, RZ, simprocAttr, hn, (hS4.aw 2 rfl (fun _ => rfl)).idx]
 refine hS4.aP 2 rfl [(.int .u64 (iY [z]).1), (.int .u64 (iY [z]).2)] rfl rfl kK (by simp) (by rw [show ((List.replicate o.dvs.length ((0, 0) : Nt)).flatMap wH).length = o.dvs.length * 2 from by rw [iM (n := 2) (fun _ => rfl)]; simp]; simp only [dT, ew]; omega) fun H5 hS5 => ?_
 simp only [RT] at hS5
 simp (disch := omega) only [↓RA, RZ, simprocAttr, hn, hS4.ld 1 rfl, c7c]
 have hset : (((List.replicate o.dvs.length ((0, 0) : Nt)).flatMap wH).set (d * 2) (.int .u64 (iY [z]).1)).set (d * 2 + 1) (.int .u64 (iY [z]).2) = (pM o ((d : Int), z)).flatMap wH := by
  unfold pM
  simp only [dF]
  rw [← pW ((((List.replicate o.dvs.length ((0, 0) : Nt)).flatMap wH).set (d * 2) _).set (d * 2 + 1) _) (d * 2 + 1 + 1), ← lD, ← lD]
  exact a0P (n := 2) (cel := wH) (fun _ => rfl) _ d 0 [_, _] (iY [z]) (by simp; omega) (by simp) rfl
 rw [hset] at hS5
 exact hS5.pick [2] (by decide) rfl
theorem b0z (o : Org) (ho : o.In H) (hf : o.Fine) (c : Ct) (hc : lA o c = true) : Fn prog 51 [.agg #[.string o.name, o.rv, o.dv, o.cv], .agg #[I c.1, I c.2]] H fun r H' => St prog H H' [⟨r, 2, (pM o c).flatMap wH⟩] := by
 obtain ⟨d, z⟩ := c
 obtain ⟨j, rfl⟩ := eR ((kM o _).1 hc).1
 exact b7Y o ho hf j z hc
theorem c0g (o : Org) (ho : o.In H) (h0 : organE o = 0) (rg : Reg) (sv : Value) (hr : rg.In H sv) (hrl : rg.stops.length = o.dvs.length) (c : Ct) (hc : lA o c = true) :
 Fn prog 23 [.agg #[.string o.name, o.rv, o.dv, o.cv], .agg #[sv, .int .u64 rg.cpl, .int .u64 rg.off], .agg #[I c.1, I c.2]] H fun rr H' => Slx 2 jP H' (fun B => H.length ≤ B) rr (kH o rg [c]) ∧ St prog H H' [] := by
 have hf := Org.aI h0
 have hl := xI o c
 have hokA := a4f hf hc
 have hEA := c1f h0 hc
 have hpA := yV hf hc
 have hd := hf.dlen
 refine .bd func23 rfl (by kernel_rfl) (m := 13) rfl fun l hn g0 g1 g2 => ?_
 simp (disch := omega) only [↓RA, RB, simprocAttr, g0]
 refine (sR H).eNew 4 [(.string o.name), o.rv, o.dv, o.cv] rfl rfl (by simp [OC, ((sR H).sl ho.1).cells.2.1, ((sR H).sl ho.2.2.1).cells.2.1, ((sR H).sl ho.2.2.2.2.1).cells.2.1]) lU fun A1 H1 hS1 => ?_
 simp only [RT] at hS1
 simp (disch := omega) only [↓RA, RB, simprocAttr, g1]
 refine hS1.eNew 3 [sv, (.int .u64 rg.cpl), (.int .u64 rg.off)] rfl rfl (by simp [OC, (hS1.sl hr.1).cells.2.1]) nW fun A2 H2 hS2 => ?_
 simp only [RT] at hS2
 simp (disch := omega) only [↓RA, RB, simprocAttr, g2]
 refine hS2.eNew 2 [I c.1, I c.2] rfl rfl rfl lN fun A3 H3 hS3 => ?_
 simp only [RT] at hS3
 simp (disch := omega) only [↓RA, RB, simprocAttr]
 refine Wp.aL jY [(0, 5), (1, 5)] (by kernel_rfl) (by kernel_rfl) ?_
 simp (disch := omega) only [↓RA, RZ, simprocAttr, hn, hS3.ae 0 rfl, hS3.ae 1 rfl, hS3.ae 2 rfl]
 refine iG ((b0z o (ho.ab hS3) hf c hc).tr) ?_
 rintro r H4 ⟨-, hT1⟩
 have hS4 := hS3.trans hT1
 simp only [RT] at hS4
 obtain ⟨av, rfl⟩ : ∃ w, w = r := ⟨r, rfl⟩
 simp (disch := omega) only [↓RA, RZ, simprocAttr, hn]
 have hSd := hS4
 refine iG (wO o (ho.ab hS4) h0 rg sv (hr.ab hS4) hrl av (pM o c) ⟨hS4.aw 3 rfl (fun _ => rfl), by omega, hokA⟩ hEA) ?_
 rintro r H5 ⟨hx, hT2⟩
 have hS5 := hS4.trans hT2
 simp only [RT] at hS5
 rw [hpA] at hx
 simp (disch := omega) only [↓RA, RZ, simprocAttr, hn, hS4.ae 0 rfl, hS4.ae 1 rfl, c7k]
 refine ⟨⟨hx.1, fun B h => ?_⟩, hS5.forget⟩
 have := hx.2 B h
 have : H.length ≤ _ := hSd.len
 omega
end Go.Ds
namespace Go.Ds
open Go.Proofs
variable {H : Heap}
set_option maxRecDepth 10000
set_option maxHeartbeats 1000000
end Go.Ds
namespace Go.Ds
open Go.Proofs Go.Proofs.Tryz
variable {H : Heap}
set_option maxRecDepth 10000
set_option maxHeartbeats 1000000
def a3f (o : Org) (rg : Reg) (ks : List Nt) (c : Ct) : Int := if rkE o rg ks ≠ 0 then rkE o rg ks else oJ o c
def adF (o : Org) (rg : Reg) (ks : List Nt) (c : Ct) : List Ct := if a3f o rg ks c = 0 then zB (kH o rg (iF ks ++ [c])) (kH o rg (iF ks)) else []
theorem b7P (hG : Glob gH H) (o : Org) (ho : o.In H) (hdv : o.dvs.length ≤ 7) (rg : Reg) (sv : Value) (hr : rg.In H sv) (kv : Value) (ks : List Nt) (hk : Ks H kv ks) (c : Ct) :
 Fn prog 54 [.agg #[.string o.name, o.rv, o.dv, o.cv], .agg #[sv, .int .u64 rg.cpl, .int .u64 rg.off], kv, .agg #[I c.1, I c.2]] H fun r H' => ∃ v, r = .tuple #[v, I (a3f o rg ks c)] ∧ Slx 2 jP H' (fun B => H.length ≤ B) v (adF o rg ks c) ∧ St prog H H' [] := by
 have hnil : ∀ {H' : Heap}, Slx 2 jP H' (fun B => H.length ≤ B) (.slice none 0 0) ([] : List Ct) := fun {H'} => ⟨⟨.inl ⟨rfl, rfl⟩, jS, by decide⟩, fun b h => by simp [kJ] at h⟩
 refine .cJ func54 rfl (by kernel_rfl) (m := 42) rfl fun l hn g0 g1 g2 g3 => ?_
 simp (disch := omega) only [↓RA, RB, simprocAttr, g0]
 refine (sR H).eNew 4 [(.string o.name), o.rv, o.dv, o.cv] rfl rfl (by simp [OC, ((sR H).sl ho.1).cells.2.1, ((sR H).sl ho.2.2.1).cells.2.1, ((sR H).sl ho.2.2.2.2.1).cells.2.1]) lU fun A1 H1 hS1 => ?_
 simp only [RT] at hS1
 simp (disch := omega) only [↓RA, RB, simprocAttr, g1]
 refine hS1.eNew 3 [sv, (.int .u64 rg.cpl), (.int .u64 rg.off)] rfl rfl (by simp [OC, (hS1.sl hr.1).cells.2.1]) nW fun A2 H2 hS2 => ?_
 simp only [RT] at hS2
 simp (disch := omega) only [↓RA, RB, simprocAttr, g3]
 refine hS2.eNew 2 [I c.1, I c.2] rfl rfl rfl lN fun A3 H3 hS3 => ?_
 simp only [RT] at hS3
 simp (disch := omega) only [↓RA, RZ, simprocAttr, hn, hS3.ae 0 rfl, hS3.ae 1 rfl]
 refine hS3.ai [sv, (.int .u64 rg.cpl), (.int .u64 rg.off)] b6P b7a rfl rfl (by first | (simp []; done) | simp [Value.cells]) (by first | (simp []; done) | simp [Value.cells]) (by simp [OC, (hS3.sl hr.1).cells.2.1]) (by decide) (by decide) fun w1 H4 hS4 => ?_
 simp only [RT] at hS4
 simp (disch := omega) only [↓RA, RZ, simprocAttr, hn, g2]
 refine hS4.cF (b7d o (ho.ab hS4) w1 [(sv, rg)] (hS4.aw 3 rfl (fun _ => rfl)) (by simp) (by intro p hp; rw [dx.1 hp]; exact hr.ab hS4) kv ks (hk.ab hS4)) fun H5 hS5 => ?_
 have hsc := a8G o sv rg ks
 simp (disch := omega) only [↓RA, RB, simprocAttr, hn, hsc]
 refine iA (fun h1 => ?_) (fun h1 => ?_)
 ·have hd : a3f o rg ks c = rkE o rg ks := by rw [a3f, if_pos h1]
  simp (disch := omega) only [↓RA, RZ, simprocAttr, hn, c4e, hsc, h1]
  rw [hd, adF, if_neg (by rw [hd]; exact h1)]
  exact ⟨.slice none 0 0, rfl, hnil, hS5.forget⟩
 have hd : a3f o rg ks c = oJ o c := by rw [a3f, if_neg h1]
 have h0 := dy.1 h1
 simp (disch := omega) only [↓RA, RZ, simprocAttr, hn, hS5.ae 0 rfl, hS5.ae 2 rfl, hsc, h1]
 refine hS5.cF (uB o (ho.ab hS5) c) fun H6 hS6 => ?_
 simp (disch := omega) only [↓RA, RZ, simprocAttr, hn, hsc, h1]
 refine iA (fun h2 => ?_) (fun h2 => ?_)
 ·simp (disch := omega) only [↓RA, RZ, simprocAttr, hn, c4e, hsc, h1, h2]
  rw [hd, adF, if_neg (by rw [hd]; exact h2)]
  exact ⟨.slice none 0 0, rfl, hnil, hS6.forget⟩
 have h3 := dy.1 h2
 have hc := (nR o c).1 h3
 obtain ⟨hz1, hz2⟩ := vN h0
 obtain ⟨hz3, hz4⟩ := mG hz1
 have hf := Org.aI hz3
 have hplc := nH hk.ok hz2
 have hkl := (mI hz2).2.1
 have hpl := a8n ks ks.length
 have hpl2 : (iF ks).length ≤ 896 := by unfold iF; omega
 have hpll := pN hz2
 have hplc2 : ∀ x ∈ iF ks ++ [c], lA o x = true := fun x hx => by
  rcases dD.1 hx with h | h
  ·exact hplc x h
  ·rw [dx.1 h]; exact hc
 have hpll2 : (iF ks ++ [c]).length ≤ 1024 := by rw [dp, gy]; omega
 rw [hd, h3, adF, if_pos (by rw [hd]; exact h3)]
 simp (disch := omega) only [↓RA, RZ, simprocAttr, hn, g2, hsc, h1]
 refine iG ((a4b (hS6.gl hG) kv ks (hk.ab hS6) (by omega)).tr) ?_
 rintro r H7 ⟨-, hT3⟩
 have hS7 := hS6.trans hT3
 simp only [RT] at hS7
 obtain ⟨pv, rfl⟩ : ∃ w, w = r := ⟨r, rfl⟩
 simp (disch := omega) only [↓RA, RZ, simprocAttr, hn, hsc, h1]
 refine Wp.aL jY [(0, 4), (0, 7), (1, 4), (1, 7), (4, 0), (8, 0), (8, 4), (8, 7), (9, 0), (9, 4), (9, 7)] (by kernel_rfl) (by kernel_rfl) ?_
 simp (disch := omega) only [↓RA, RZ, simprocAttr, hn, hS7.ae 0 rfl, hS7.ae 1 rfl]
 refine iG ((b0g pv (iF ks) (hS7.aw 4 rfl jS) (by omega)).tr) ?_
 rintro r H8 ⟨-, hT4⟩
 have hS8 := hS7.trans hT4
 simp only [RT] at hS8
 obtain ⟨qv, rfl⟩ : ∃ w, w = r := ⟨r, rfl⟩
 simp (disch := omega) only [↓RA, RZ, simprocAttr, hn, hS8.ae 2 rfl]
 refine hS8.ai [I c.1, I c.2] qK a2Q rfl rfl (by simp [Value.cells]) rfl rfl (by decide) (by decide) fun w2 H9 hS9 => ?_
 simp only [RT] at hS9
 simp (disch := omega) only [↓RA, RZ, simprocAttr, hn]
 refine hS9.aq 5 rfl (hS9.rd 6 rfl) qK (by rw [show ((iF ks).flatMap jP).length = (iF ks).length * 2 from iJ _]; simp only [dT, ew]; omega) fun w3 H10 hS10 => ?_
 simp only [RT] at hS10
 simp (disch := omega) only [↓RA, RZ, simprocAttr, hn]
 have happ : (iF ks).flatMap jP ++ [I c.1, I c.2] = pr (iF ks ++ [c]) := by rw [jJ]; rfl
 rw [happ] at hS10
 have hS1 := hS10
 refine iG (rT o (ho.ab hS10) hf rg sv (hr.ab hS10) hz4 w3 (iF ks ++ [c]) (hS10.aw 5 rfl jS) hpll2 hplc2) ?_
 rintro r H11 ⟨hx, hT5⟩
 have hS11 := hS10.trans hT5
 simp only [RT] at hS11
 obtain ⟨av, rfl⟩ : ∃ w, w = r := ⟨r, rfl⟩
 have hx2 := hx.step (hS1.ba (H' := H11))
 obtain ⟨X, hBX, hS12⟩ := hS11.aC (os := [⟨ptr A1 0 4, 0, _⟩, ⟨ptr A2 0 3, 0, _⟩, ⟨ptr A3 0 2, 0, _⟩, ⟨w1, 3, _⟩, ⟨pv, 2, _⟩, ⟨w3, 2, _⟩, ⟨w2, 2, _⟩])
 simp (disch := omega) only [↓RA, RZ, simprocAttr, hn, hS12.ae 0 rfl, hS12.ae 1 rfl]
 have hS2 := hS12
 refine iG (rT o (ho.ab (hS11.aj hBX hS12)) hf rg sv (hr.ab (hS11.aj hBX hS12)) hz4 pv (iF ks) (hS12.aw 4 rfl jS) hpll hplc) ?_
 rintro r H12 ⟨hy, hT6⟩
 have hS13 := hS12.trans hT6
 simp only [RT] at hS13
 obtain ⟨bv, rfl⟩ : ∃ w, w = r := ⟨r, rfl⟩
 have hx3 := hx2.step (hS13.kept hBX)
 have hy2 := hy.step (hS2.ba (H' := H12))
 obtain ⟨Y, hBY, hS14⟩ := hS13.aC (os := [⟨ptr A1 0 4, 0, _⟩, ⟨ptr A2 0 3, 0, _⟩, ⟨ptr A3 0 2, 0, _⟩, ⟨w1, 3, _⟩, ⟨pv, 2, _⟩, ⟨w3, 2, _⟩, ⟨w2, 2, _⟩])
 have hla := qR hf rg hpll2 (mH hplc2)
 have hlb := qR hf rg hpll (mH hplc)
 have hsb := sG o rg (iF ks)
 have hx4 := hx3.step (hS14.kept hBY)
 have hy3 := hy2.step (hS14.kept hBY)
 simp (disch := omega) only [↓RA, RZ, simprocAttr, hn]
 refine iG ((a6C av bv (kH o rg (iF ks ++ [c])) (kH o rg (iF ks)) hx4.1 hy3.1 (by omega) (by omega) hsb).tr) ?_
 rintro r H13 ⟨-, hT7⟩
 have hS15 := hS14.trans hT7
 simp only [RT] at hS15
 obtain ⟨gv, rfl⟩ : ∃ w, w = r := ⟨r, rfl⟩
 have hnt1 := (hS15.aw (cel := jP) 7 rfl jS).br
 simp (disch := omega) only [↓RA, RZ, simprocAttr, hn, hS8.ae 0 rfl, hS10.ae 0 rfl, hS8.ae 1 rfl, hS10.ae 1 rfl, hS7.ae 2 rfl, hS7.ae 0 rfl, hS7.ae 1 rfl, c4e, hnt1]
 exact ⟨gv, rfl, (hS11.aj hBX (hS13.aj hBY hS15)).cq 7 rfl jS, (hS11.aj hBX (hS13.aj hBY hS15)).forget⟩
theorem b6c (o : Org) (rg : Reg) : a1v o rg [] = nF o rg := by
 unfold a1v
 split
 ·rename_i h
  unfold nF
  rw [if_pos h]
 ·split
  ·rfl
  ·rename_i h
   rw [if_neg (by simp), dy.1 h]
   exact kN _ _ fun j hj => absurd hj (dN _)
theorem c2R {H : Heap} : Sl 1 Kv.cells H (.slice none 0 0) [] := ⟨.inl ⟨rfl, rfl⟩, fun _ => rfl, by decide⟩
theorem b6O (o : Org) (ho : o.In H) (rg : Reg) (sv : Value) (hr : rg.In H sv) :
 Fn prog 49 [.agg #[.string o.name, o.rv, o.dv, o.cv], .agg #[sv, .int .u64 rg.cpl, .int .u64 rg.off], .slice none 0 0] H fun r H' => r = I (nF o rg) ∧ St prog H H' [] := by
 have h := c0C o ho rg sv hr (.slice none 0 0) [] c2R (by simp) (by simp)
 rw [b6c] at h
 exact h
def a8W (o : Org) (rg : Reg) (ks : List Nt) (c : Ct) : Int := oO o (adF o rg ks c)
theorem b8v {o : Org} {rg : Reg} {ks : List Nt} {c : Ct} : ∀ p ∈ adF o rg ks c, IsP o p := by
 intro p hp
 unfold adF at hp
 split at hp
 ·exact rJ (ef.1 hp).1
 ·exact absurd hp ec
theorem c2Z {o : Org} (hdv : o.dvs.length ≤ 7) {rg : Reg} {ks : List Nt} {c : Ct} (hok : ∀ x ∈ ks, Nt.Ok x) : (adF o rg ks c).length ≤ 1000000 := by
 unfold adF
 split
 ·rename_i h
  refine dC (a6I _ _) ?_
  have h1 : rkE o rg ks = 0 := by
   unfold a3f at h
   split at h
   ·rename_i h2; exact absurd h h2
   ·rename_i h2; exact dy.1 h2
  have h2 : oJ o c = 0 := by
   unfold a3f at h
   rw [if_neg (by rw [h1]; simp)] at h
   exact h
  obtain ⟨z1, z2⟩ := vN h1
  have hf := Org.aI (mG z1).1
  have hcc := (nR o c).1 h2
  have hwl : (iF ks ++ [c]).length ≤ 1024 := by
   have hkl := (mI z2).2.1
   have hd := hf.dlen
   have hpl := a8n ks ks.length
   rw [dp, gy]
   unfold iF
   omega
  exact qR hf rg hwl (mH fun x hx => by
   rcases dD.1 hx with h | h
   ·exact nH hok z2 x h
   ·rw [dx.1 h]; exact hcc)
 ·simp
theorem a8o (hG : Glob gH H) (o : Org) (ho : o.In H) (hdv : o.dvs.length ≤ 7) (rg : Reg) (sv : Value) (hr : rg.In H sv) (kv : Value) (ks : List Nt) (hk : Ks H kv ks) (c : Ct) :
 Fn prog 29 [.agg #[.string o.name, o.rv, o.dv, o.cv], .agg #[sv, .int .u64 rg.cpl, .int .u64 rg.off], kv, .agg #[I c.1, I c.2]] H fun r H' => r = .tuple #[I (a8W o rg ks c), I (a3f o rg ks c)] ∧ St prog H H' [] := by
 have hle := c2Z hdv (rg := rg) (c := c) hk.ok
 refine .cJ func29 rfl (by kernel_rfl) (m := 26) rfl fun l hn g0 g1 g2 g3 => ?_
 simp (disch := omega) only [↓RA, RB, simprocAttr, g0]
 refine (sR H).eNew 4 [(.string o.name), o.rv, o.dv, o.cv] rfl rfl (by simp [OC, ((sR H).sl ho.1).cells.2.1, ((sR H).sl ho.2.2.1).cells.2.1, ((sR H).sl ho.2.2.2.2.1).cells.2.1]) lU fun A1 H1 hS1 => ?_
 simp only [RT] at hS1
 simp (disch := omega) only [↓RA, RB, simprocAttr, g1]
 refine hS1.eNew 3 [sv, (.int .u64 rg.cpl), (.int .u64 rg.off)] rfl rfl (by simp [OC, (hS1.sl hr.1).cells.2.1]) nW fun A2 H2 hS2 => ?_
 simp only [RT] at hS2
 simp (disch := omega) only [↓RA, RB, simprocAttr, g3]
 refine hS2.eNew 2 [I c.1, I c.2] rfl rfl rfl lN fun A3 H3 hS3 => ?_
 simp only [RT] at hS3
 simp (disch := omega) only [↓RA, RZ, simprocAttr, hn, g2, hS3.ae 0 rfl, hS3.ae 1 rfl, hS3.ae 2 rfl]
 refine iG (b7P (hS3.gl hG) o (ho.ab hS3) hdv rg sv (hr.ab hS3) kv ks (hk.ab hS3) c) ?_
 rintro r H4 ⟨av, rfl, hx, hT1⟩
 have hS4 := hS3.trans hT1
 simp only [RT] at hS4
 simp (disch := omega) only [↓RA, RB, simprocAttr, hn]
 refine iA (fun h1 => ?_) (fun h1 => ?_)
 ·have hs : a8W o rg ks c = 0 := by unfold a8W adF; rw [if_neg h1]; rfl
  simp (disch := omega) only [↓RA, RZ, simprocAttr, hn, c6j, h1]
  exact ⟨by rw [hs], hS4.forget⟩
 have h0 := dy.1 h1
 simp (disch := omega) only [↓RA, RZ, simprocAttr, hn, hS4.ae 0 rfl, h1]
 refine hS4.cF (a3b o (ho.ab hS4) av (adF o rg ks c) hx.1 (by omega) b8v) fun H5 hS5 => ?_
 simp (disch := omega) only [↓RA, RZ, simprocAttr, hn, c6j, h1]
 rw [h0]
 exact ⟨rfl, hS5.forget⟩
def grR (o : Org) (rg : Reg) : Ct × Int := if nF o rg = 0 then grF (rM o rg) (c1i o) (((0 : Int), (iB o.dvs 0).lo), 0) else ((0, 0), 0)
theorem c5t (l : List Value) (H : Heap) : iC prog Tryz.f20 l H = (oZ (jR prog 64) (iE prog 64) H (get l 4)).bind fun v => if (jE v && (jE (get l 5) && (jE (get l 6) && true))) = true then some (.tuple #[v, get l 5, get l 6]) else none := by
 show (Option.bind (Option.bind (lO prog H 64 (get l 4)) fun v => some [v, get l 5, get l 6]) fun vs => _) = _
 rw [kY]
 cases oZ _ _ H (get l 4) <;> rfl
theorem a7I (o : Org) (ho : o.In H) (rg : Reg) (sv : Value) (hr : rg.In H sv) :
 Fn prog 20 [.agg #[.string o.name, o.rv, o.dv, o.cv], .agg #[sv, .int .u64 rg.cpl, .int .u64 rg.off]] H fun r H' => r = .tuple #[.agg #[I (grR o rg).1.1, I (grR o rg).1.2], I (grR o rg).2, I (nF o rg)] ∧ St prog H H' [] := by
 refine .aF func20 rfl (by kernel_rfl) (m := 64) rfl fun l hn g0 g1 => ?_
 simp (disch := omega) only [↓RA, RB, simprocAttr, g0]
 refine (sR H).eNew 4 [(.string o.name), o.rv, o.dv, o.cv] rfl rfl (by simp [OC, ((sR H).sl ho.1).cells.2.1, ((sR H).sl ho.2.2.1).cells.2.1, ((sR H).sl ho.2.2.2.2.1).cells.2.1]) lU fun A1 H1 hS1 => ?_
 simp only [RT] at hS1
 simp (disch := omega) only [↓RA, RB, simprocAttr, g1]
 refine hS1.eNew 3 [sv, (.int .u64 rg.cpl), (.int .u64 rg.off)] rfl rfl (by simp [OC, (hS1.sl hr.1).cells.2.1]) nW fun A2 H2 hS2 => ?_
 simp only [RT] at hS2
 simp (disch := omega) only [↓RA, RZ, simprocAttr]
 refine hS2.eNew 2 [I 0, I 0] rfl rfl rfl lN fun A3 H3 hS3 => ?_
 simp only [RT] at hS3
 simp (disch := omega) only [↓RA, RZ, simprocAttr, hn, hS3.ae 0 rfl, hS3.ae 1 rfl]
 refine hS3.cF (b6O o (ho.ab hS3) rg sv (hr.ab hS3)) fun H4 hS4 => ?_
 simp (disch := omega) only [↓RA, RB, simprocAttr, hn]
 refine iA (fun h1 => ?_) (fun h1 => ?_)
 ·have e : grR o rg = ((0, 0), 0) := by unfold grR; rw [if_neg h1]
  simp (disch := omega) only [↓RA, RZ, simprocAttr, hn, c4t, h1]
  refine hS4.aa 2 rfl [I 0, I 0] rfl rfl lN (by simp) fun H5 hS5 => ?_
  simp only [RT] at hS5
  simp (disch := omega) only [↓RA, RZ, simprocAttr, hn, c5t, hS5.ae 2 rfl, h1]
  exact ⟨by rw [e], hS5.forget⟩
 have h0 := dy.1 h1
 have hf := Org.aI (mG h0).1
 have hd := hf.dpos
 have hdl := hf.dlen
 have e : grR o rg = grF (rM o rg) (c1i o) (((0 : Int), (iB o.dvs 0).lo), 0) := by unfold grR; rw [if_pos h0]
 simp (disch := omega) only [↓RA, RZ, simprocAttr, hn, hS4.ld 0 rfl, (hS4.sl ho.2.2.1).idx, (hS4.sl ho.2.2.1).aY, (hS4.sl ho.2.2.1).ld, Dvn.cells, h1]
 refine hS4.aa 2 rfl [I (iB o.dvs 0).lo] rfl rfl tS3 (by simp) fun H6 hS6 => ?_
 simp only [RT] at hS6
 simp (disch := omega) only [↓RA, RZ, simprocAttr, hn, hS6.ld 0 rfl, (hS6.sl ho.2.2.1).len, h1]
 refine Wp.ak (fun n l H' => l.length = 64 ∧ get l 2 = (ptr A1 0 4) ∧ get l 3 = (ptr A2 0 3) ∧ get l 4 = (ptr A3 0 2) ∧ get l 6 = I 0 ∧ get l 29 = o.dv ∧ get l 30 = I o.dvs.length ∧ ∃ (i : Nat), (n + i = o.dvs.length) ∧ get l 31 = I i ∧ get l 5 = I (grF (rM o rg) ((List.range i).flatMap (yS o)) (((0 : Int), (iB o.dvs 0).lo), 0)).2 ∧ St prog H H' [⟨ptr A1 0 4, 0, [(.string o.name), o.rv, o.dv, o.cv]⟩, ⟨ptr A2 0 3, 0, [sv, (.int .u64 rg.cpl), (.int .u64 rg.off)]⟩, ⟨ptr A3 0 2, 0, [I (grF (rM o rg) ((List.range i).flatMap (yS o)) (((0 : Int), (iB o.dvs 0).lo), 0)).1.1, I (grF (rM o rg) ((List.range i).flatMap (yS o)) (((0 : Int), (iB o.dvs 0).lo), 0)).1.2]⟩]) o.dvs.length ?_ ?_
 ·simp (disch := omega) only [RB, RC, simprocAttr, hn]
  exact ⟨0, by omega, rfl, rfl, hS6⟩
 rintro n l H7 ⟨hn, g2, g3, g4, g6, g29, g30, i, hi, g31, g5, hS7⟩
 simp (disch := omega) only [↓RA, RB, simprocAttr, hn, g30, g31]
 refine iA (fun q1 => ?_) (fun q1 => ?_)
 ·have hki := hf.keys i (by omega)
  have hcn : (b3j o i : Int) = (iB o.dvs i).hi - (iB o.dvs i).lo + 1 := by unfold b3j; omega
  have hpre : a1D o i 0 = (List.range i).flatMap (yS o) := by unfold a1D; simp
  simp (disch := omega) only [↓RA, RZ, simprocAttr, hn, g29, g31, (hS7.sl ho.2.2.1).idx, (hS7.sl ho.2.2.1).ae, Dvn.cells, q1]
  refine hS7.eNew 5 [(.string ⟨#[]⟩), (.bool false), I 0, I 0, (.slice none 0 0)] rfl rfl rfl yQ fun A4 H8 hS8 => ?_
  simp only [RT] at hS8
  simp (disch := omega) only [↓RA, RZ, simprocAttr, hn, q1]
  refine hS8.aa 3 rfl [(.string (iB o.dvs i).name), (.bool (iB o.dvs i).pedal), I (iB o.dvs i).lo, I (iB o.dvs i).hi, (iB o.dvs i).sv] rfl (by simp [OC, (hS8.sl (ho.2.2.2.1 (iB o.dvs i) (iD (by omega))).1).cells.2.1]) yQ (by simp) fun H9 hS9 => ?_
  simp only [RT] at hS9
  simp (disch := omega) only [↓RA, RZ, simprocAttr, hn, hS9.ld 3 rfl, q1]
  refine Wp.ak (fun n l H' => l.length = 64 ∧ get l 2 = (ptr A1 0 4) ∧ get l 3 = (ptr A2 0 3) ∧ get l 4 = (ptr A3 0 2) ∧ get l 6 = I 0 ∧ get l 8 = I i ∧ get l 9 = (ptr A4 0 5) ∧ get l 29 = o.dv ∧ get l 30 = I o.dvs.length ∧ get l 31 = I i ∧ ∃ (k : Nat), (n + k = b3j o i) ∧ get l 10 = I ((iB o.dvs i).lo + k) ∧ get l 5 = I (grF (rM o rg) (a1D o i k) (((0 : Int), (iB o.dvs 0).lo), 0)).2 ∧ St prog H H' [⟨ptr A1 0 4, 0, [(.string o.name), o.rv, o.dv, o.cv]⟩, ⟨ptr A2 0 3, 0, [sv, (.int .u64 rg.cpl), (.int .u64 rg.off)]⟩, ⟨ptr A3 0 2, 0, [I (grF (rM o rg) (a1D o i k) (((0 : Int), (iB o.dvs 0).lo), 0)).1.1, I (grF (rM o rg) (a1D o i k) (((0 : Int), (iB o.dvs 0).lo), 0)).1.2]⟩, ⟨ptr A4 0 5, 0, [(.string (iB o.dvs i).name), (.bool (iB o.dvs i).pedal), I (iB o.dvs i).lo, I (iB o.dvs i).hi, (iB o.dvs i).sv]⟩]) (b3j o i) ?_ ?_
  ·simp (disch := omega) only [RB, RC, simprocAttr, hn, g2, g3, g4, g6, g29, g30, g31, g5]
   refine ⟨0, by omega, by simp, ?_⟩
   rw [hpre]
   exact ⟨rfl, hS9⟩
  rintro n l H10 ⟨hn, g2, g3, g4, g6, g8, g9, g29, g30, g31, k, hk, oY, g5, hS10⟩
  simp (disch := omega) only [↓RA, RZ, simprocAttr, hn, g9, oY, hS10.ld 3 rfl]
  refine iA (fun q2 => ?_) (fun q2 => ?_)
  ·have hsu : grF (rM o rg) (a1D o i (k + 1)) (((0 : Int), (iB o.dvs 0).lo), 0) = grS (rM o rg) (grF (rM o rg) (a1D o i k) (((0 : Int), (iB o.dvs 0).lo), 0)) (kAt o i k) := by rw [b3d, b9O]
   unfold grS at hsu
   simp (disch := omega) only [↓RA, RZ, simprocAttr, hn, g8, oY, qX, q2]
   refine hS10.eNew 2 [I 0, I 0] rfl rfl rfl lN fun A5 H11 hS11 => ?_
   simp only [RT] at hS11
   simp (disch := omega) only [↓RA, RZ, simprocAttr, hn, q2]
   refine hS11.aa 4 rfl [I i, I ((iB o.dvs i).lo + k)] rfl rfl lN (by simp) fun H12 hS12 => ?_
   simp only [RT] at hS12
   simp (disch := omega) only [↓RA, RZ, simprocAttr, hn, g2, g3, hS12.ae 0 rfl, hS12.ae 1 rfl, hS12.ae 4 rfl, q2]
   refine hS12.cF (b2q o (ho.ab hS12) rg sv (hr.ab hS12) (kAt o i k)) fun H13 hS13 => ?_
   simp (disch := omega) only [↓RA, RZ, simprocAttr, hn, g5, q2]
   refine iA (fun q3 => ?_) (fun q3 => ?_)
   ·simp (disch := omega) only [↓RA, RZ, simprocAttr, hn, g4, hS13.ae 4 rfl, q2, q3]
    refine hS13.aa 2 rfl [I i, I ((iB o.dvs i).lo + k)] rfl rfl lN (by simp) fun H14 hS14 => ?_
    simp only [RT] at hS14
    simp (disch := omega) only [↓RA, RZ, simprocAttr, hn, g2, g3, g4, g6, g8, g9, g29, g30, g31, oY, q2, q3]
    rw [if_pos q3] at hsu
    refine ⟨n - 1, by omega, k + 1, by omega, by congr 1; omega, by rw [hsu], ?_⟩
    rw [hsu]
    exact hS14.pick [0, 1, 2, 3] (by decide) rfl
   simp (disch := omega) only [↓RA, RZ, simprocAttr, hn, g2, g3, g4, g6, g8, g9, g29, g30, g31, oY, g5, q2, q3]
   rw [if_neg q3] at hsu
   refine ⟨n - 1, by omega, k + 1, by omega, by congr 1; omega, by rw [hsu], ?_⟩
   rw [hsu]
   exact hS13.pick [0, 1, 2, 3] (by decide) rfl
  simp (disch := omega) only [↓RA, RZ, simprocAttr, hn, g2, g3, g4, g6, g29, g30, g31, g5, q2]
  have hkk : k = b3j o i := by omega
  rw [hkk, a4B] at hS10
  refine ⟨o.dvs.length - (i + 1), by omega, i + 1, by omega, by simp, ?_, ?_⟩
  ·rw [hkk, a4B]
  ·exact hS10.pick [0, 1, 2] (by decide) rfl
 simp (disch := omega) only [↓RA, RZ, simprocAttr, hn, g4, g5, hS7.ae 2 rfl, q1]
 refine hS7.aa 2 rfl [I (grF (rM o rg) ((List.range i).flatMap (yS o)) (((0 : Int), (iB o.dvs 0).lo), 0)).1.1, I (grF (rM o rg) ((List.range i).flatMap (yS o)) (((0 : Int), (iB o.dvs 0).lo), 0)).1.2] rfl rfl lN (by simp) fun H15 hS15 => ?_
 simp only [RT] at hS15
 simp (disch := omega) only [↓RA, RZ, simprocAttr, hn, g4, c5t, hS15.ae 2 rfl, q1]
 have hii : i = o.dvs.length := by omega
 rw [h0]
 refine ⟨?_, hS15.forget⟩
 rw [hii, e]
 rfl
theorem c2s (o : Org) (ho : o.In H) (hf : o.Fine) (kv : Value) (ks : List Nt) (hk : Ks H kv ks) (hkE : lR o ks = 0) (d : Nat) (z : Int) (hc : lA o ((d : Int), z) = true) :
 Fn prog 31 [.agg #[.string o.name, o.rv, o.dv, o.cv], kv, .agg #[I d, I z]] H fun r H' => ∃ v, r = .tuple #[v, I 0] ∧ St prog H H' [⟨v, 2, (sO ks ((d : Int), z)).flatMap wH⟩] := by
 have hl := (mI hkE).2.1
 have hd2 := hf.dlen
 have h := (kM o _).1 hc
 have hz := mK hf hc
 simp only [dF] at h
 have hdl : d < ks.length := by omega
 have hx := hk.ok _ (iD hdl)
 have hn1 := a0E hz
 refine .bd func31 rfl (by kernel_rfl) (m := 73) rfl fun l hn g0 g1 g2 => ?_
 simp (disch := omega) only [↓RA, RB, simprocAttr, g0]
 refine (sR H).eNew 4 [(.string o.name), o.rv, o.dv, o.cv] rfl rfl (by simp [OC, ((sR H).sl ho.1).cells.2.1, ((sR H).sl ho.2.2.1).cells.2.1, ((sR H).sl ho.2.2.2.2.1).cells.2.1]) lU fun A1 H1 hS1 => ?_
 simp only [RT] at hS1
 simp (disch := omega) only [↓RA, RB, simprocAttr, g2]
 refine hS1.eNew 2 [I d, I z] rfl rfl rfl lN fun A2 H2 hS2 => ?_
 simp only [RT] at hS2
 simp (disch := omega) only [↓RA, RZ, simprocAttr, hn, g1, hS2.ae 0 rfl]
 refine hS2.cF (a3e o (ho.ab hS2) kv ks (hk.ab hS2)) fun H3 hS3 => ?_
 rw [hkE]
 simp (disch := omega) only [↓RA, RZ, simprocAttr, hn, hS3.ld 1 rfl]
 refine iL (fun h1 => ?_) (fun h1 => ?_)
 ·exfalso; first | omega | (simp at h1; omega)
 simp (disch := omega) only [↓RA, RZ, simprocAttr, hn, hS3.ld 1 rfl, hS3.ld 0 rfl, (hS3.sl ho.2.2.1).len, h1]
 refine iA (fun h2 => ?_) (fun h2 => ?_)
 ·exfalso; first | omega | (simp at h2; omega)
 simp (disch := omega) only [↓RA, RZ, simprocAttr, hn, hS3.ld 0 rfl, hS3.ld 1 rfl, (hS3.sl ho.2.2.1).idx, (hS3.sl ho.2.2.1).aY, (hS3.sl ho.2.2.1).cC 2, Dvn.cells, h1, h2]
 refine hS3.eNew 2 [I 0, I 0] rfl rfl rfl zC fun A3 H4 hS4 => ?_
 simp only [RT] at hS4
 simp (disch := omega) only [↓RA, RZ, simprocAttr, hn, h1, h2]
 refine hS4.aa 2 rfl [I (iB o.dvs d).lo, I (iB o.dvs d).hi] rfl rfl zC (by simp) fun H5 hS5 => ?_
 simp only [RT] at hS5
 simp (disch := omega) only [↓RA, RZ, simprocAttr, hn, hS5.ld 1 rfl, hS5.ld 2 rfl, h1, h2]
 refine iL (fun h3 => ?_) (fun h3 => ?_)
 ·exfalso; first | omega | (simp at h3; omega)
 simp (disch := omega) only [↓RA, RZ, simprocAttr, hn, hS5.ld 1 rfl, hS5.ld 2 rfl, h1, h2, h3]
 refine iA (fun h4 => ?_) (fun h4 => ?_)
 ·exfalso; first | omega | (simp at h4; omega)
 simp (disch := omega) only [↓RA, RZ, simprocAttr, hn, hS5.ld 1 rfl, h1, h2, h3, h4]
 refine hS5.ai [I z] xC a1B rfl rfl (by simp [Value.cells]) rfl rfl (by decide) (by decide) fun w1 H6 hS6 => ?_
 simp only [RT] at hS6
 simp (disch := omega) only [↓RA, RZ, simprocAttr, hn, h1, h2, h3, h4]
 refine hS6.cF (tZ [z] (fun y hy => by rw [dx.1 hy]; exact hz) w1 (hS6.aw 3 rfl (fun _ => rfl)) (by simp)) fun H7 hS7 => ?_
 simp (disch := omega) only [↓RA, RZ, simprocAttr, hn, h1, h2, h3, h4]
 refine hS7.eNew 2 [(.int .u64 0), (.int .u64 0)] rfl rfl rfl kK fun A4 H8 hS8 => ?_
 simp only [RT] at hS8
 simp (disch := omega) only [↓RA, RZ, simprocAttr, hn, h1, h2, h3, h4]
 refine hS8.aa 4 rfl [(.int .u64 (iY [z]).1), (.int .u64 (iY [z]).2)] rfl rfl kK (by simp) fun H9 hS9 => ?_
 simp only [RT] at hS9
 simp (disch := omega) only [↓RA, RZ, simprocAttr, hn, g1, h1, h2, h3, h4]
 refine iG ((b0D kv ks (hS9.sl hk.sl) (by omega)).tr) ?_
 rintro r H10 ⟨-, hT3⟩
 have hS10 := hS9.trans hT3
 simp only [RT] at hS10
 obtain ⟨kw, rfl⟩ : ∃ w, w = r := ⟨r, rfl⟩
 simp (disch := omega) only [↓RA, RZ, simprocAttr, hn, h1, h2, h3, h4]
 refine Wp.aL jY [(2, 10)] (by kernel_rfl) (by kernel_rfl) ?_
 simp (disch := omega) only [↓RA, RZ, simprocAttr, hn, hS10.ld 1 rfl, (hS10.aw 5 rfl (fun _ => rfl)).idx, (hS10.aw 5 rfl (fun _ => rfl)).ae, wH, hS10.ae 4 rfl]
 refine hS10.cF (b4d (iB ks d) (iY [z]) hx hn1) fun H11 hS11 => ?_
 simp (disch := omega) only [↓RA, RZ, simprocAttr, hn, (hS11.aw 5 rfl (fun _ => rfl)).idx]
 refine hS11.aP 5 rfl [(.int .u64 (unF (iB ks d) (iY [z])).1), (.int .u64 (unF (iB ks d) (iY [z])).2)] rfl rfl kK (by simp) (by rw [iM (n := 2) (cel := wH) (fun _ => rfl)]; simp only [dT, ew]; omega) fun H12 hS12 => ?_
 simp only [RT] at hS12
 simp (disch := omega) only [↓RA, RZ, simprocAttr, hn, hS11.ld 1 rfl, c7I]
 have hset : ((ks.flatMap wH).set (d * 2) (.int .u64 (unF (iB ks d) (iY [z])).1)).set (d * 2 + 1) (.int .u64 (unF (iB ks d) (iY [z])).2) = (sO ks ((d : Int), z)).flatMap wH := by
  unfold sO
  simp only [dF]
  rw [← pW (((ks.flatMap wH).set (d * 2) _).set (d * 2 + 1) _) (d * 2 + 1 + 1), ← lD, ← lD]
  exact a0P (n := 2) (cel := wH) (fun _ => rfl) ks d 0 [_, _] (unF (iB ks d) (iY [z])) hdl (by simp) rfl
 rw [hset] at hS12
 have hnt := (hS12.aw (cel := wH) 5 rfl (fun _ => rfl)).br
 rw [hnt]
 exact ⟨kw, rfl, hS12.pick [5] (by decide) rfl⟩
theorem b8p (o : Org) (ho : o.In H) (hf : o.Fine) (kv : Value) (ks : List Nt) (hk : Ks H kv ks) (hkE : lR o ks = 0) (c : Ct) (hc : lA o c = true) :
 Fn prog 31 [.agg #[.string o.name, o.rv, o.dv, o.cv], kv, .agg #[I c.1, I c.2]] H fun r H' => ∃ v, r = .tuple #[v, I 0] ∧ St prog H H' [⟨v, 2, (sO ks c).flatMap wH⟩] := by
 obtain ⟨d, z⟩ := c
 obtain ⟨j, rfl⟩ := eR ((kM o _).1 hc).1
 exact c2s o ho hf kv ks hk hkE j z hc
end Go.Ds
namespace Go.Ds
open Go.Proofs Go.Proofs.Tryz
variable {H : Heap}
set_option maxRecDepth 100000
set_option maxHeartbeats 1000000
def b1W (r : Rs) (n : Int) : Bool := match r with
 | .ok (.tuple vs) _ => (match vs.toList with
   | [.int .u64 a, .int .u64 b] => decide (a = 0) && decide (b = n)
   | _ => false)
 | .th (.tuple vs) _ => (match vs.toList with
   | [.int .u64 a, .int .u64 b] => decide (a = 0) && decide (b = n)
   | _ => false)
 | _ => false
theorem c3E : (uJ prog [52, 84, 85] .e fun T => [(25 : Int)].all fun n => b1W (nB T (exF prog T 4000) [] (kV 52) [.int .u64 1, .int .u64 n] gH) n) = true := by kernel_rfl
theorem b6a {T : LT} (hT : TOk prog T) {k : FuncId} {args : List Value} {n : Int} (h : b1W (nB T (exF prog T 4000) [] (kV k) args gH) n = true) : Fn prog k args gH fun r _ => r = .tuple #[.int .u64 0, .int .u64 n] := by
 have hv : ∀ (vs : Array Value), (match vs.toList with
  | [.int .u64 a, .int .u64 b] => decide (a = 0) && decide (b = n)
  | _ => false) = true → Value.tuple vs = .tuple #[.int .u64 0, .int .u64 n] := by
  intro vs h
  split at h
  ·rename_i a b e
   rw [cW, decide_eq_true_eq, decide_eq_true_eq] at h
   obtain ⟨rfl, rfl⟩ := h
   congr 1
   exact gQ e
  ·cases h
 unfold b1W at h
 split at h
 ·rename_i vs H1 e
  rw [← hv vs h]
  exact mF hT (.inl e)
 ·rename_i vs H1 e
  rw [← hv vs h]
  exact mF hT (.inr e)
 ·cases h
theorem b6w (hG : Glob gH H) : Fn prog 52 [.int .u64 1, .int .u64 25] H fun r H' => r = .tuple #[.int .u64 0, .int .u64 25] ∧ St prog H H' [] := by
 obtain ⟨T, hT, h⟩ := qY (ps := [(25 : Int)]) (f := fun T n => b1W (nB T (exF prog T 4000) [] (kV 52) [.int .u64 1, .int .u64 n] gH) n) c3E
 exact sV (by simp [flat, jC, iZ]) rfl (b6a hT (h 25 (by simp))) hG
theorem rU (c z : Value) : ∀ (m x n : Nat), x + m ≤ n → iX (List.replicate x c ++ List.replicate (n - x) z) x (List.replicate m c) = List.replicate (x + m) c ++ List.replicate (n - (x + m)) z := by
 intro m x n h
 have e : List.replicate (n - x) z = List.replicate m z ++ List.replicate (n - (x + m)) z := by
  rw [List.replicate_append_replicate]; congr 1; omega
 have := nG (List.replicate m c) (List.replicate x c) (List.replicate (n - x) z) (by simp; omega)
 rw [eL] at this
 rw [this, List.replicate_append_replicate]
 congr 1
 simp
 omega
theorem a9s {H : Heap} {v : Value} {cs : List Value} (h : RdAt H v 1 cs) (h0 : cs ≠ []) : rE v 1 0 cs.length = v := by
 rcases h with ⟨rfl, rfl⟩ | ⟨A, i, e, row, ty, rw, lo', ver, n, h1, h2, h3, h4, h5, h6, rfl⟩
 ·exact (h0 rfl).elim
 ·simp [rE, h6]
theorem St.cm {P : Program} {H0 : Base} {os : List Ob} (hS : St P H0 H os) (i : Nat) {v : Value} {cs : List Value} (ho : os[i]? = some ⟨v, 1, cs⟩) {x : Value} {ys : List Value} (hx : RdAt H x 1 ys) (h0 : 0 < cs.length) (hy : 0 < ys.length) {t : TypeId} (ht : iT P t = some 1) {K : Value → Heap → Prop}
 (h : ∀ H1, St P H0 H1 (os.set i ⟨v, 1, iX cs 0 (ys.take (min ys.length cs.length))⟩) → K (.int .i64 ((min ys.length cs.length : Nat) : Int)) H1) : a4H P H t v x K := by
 have e := a9s (hS.rd (size := 0) i ho) (by intro e; simp [e] at h0)
 have := hS.bM i ho hx 0 cs.length (by omega) h0 hy ht h
 rwa [e] at this
theorem a2z (hG : Glob gH H) {c : Int} (v : Value) (hv : Sl 1 (one I) H v [c]) : Fn prog 38 [v, I 25] H fun r H' => St prog H H' [⟨r, 1, List.replicate 25 (I c)⟩] := by
 have h1 : (([c] : List Int).length : Int) = 1 := rfl
 refine .aF func38 rfl (by kernel_rfl) (m := 48) rfl fun l hn g0 g1 => ?_
 simp (disch := omega) only [↓RA, RZ, simprocAttr, hn, g0, g1, ((sR H).sl hv).len]
 refine (sR H).cF (b6w ((sR H).gl hG)) fun H1 hS1 => ?_
 simp (disch := omega) only [↓RA, RZ, simprocAttr, hn]
 refine hS1.bL 25 c4V (by omega) fun w H2 hS2 => ?_
 simp only [RT] at hS2
 simp (disch := omega) only [↓RA, RB, simprocAttr, hn, g0]
 refine hS2.cm 0 rfl (hS2.sl hv).rd (by simp) (by simp [one]) c2m fun H3 hS3 => ?_
 have e1 : min ([c].flatMap (one I)).length (List.replicate 25 (Value.int .i64 0)).length = 1 := by simp [one]
 rw [e1] at hS3 ⊢
 have e2 := rU (I c) (.int .i64 0) 1 0 25 (by omega)
 simp only [List.replicate_zero, fj, Nat.sub_zero, fJ] at e2
 have hS4 : St prog H H3 [⟨w, 1, List.replicate 1 (I c) ++ List.replicate (25 - 1) (.int .i64 0)⟩] := by
  rw [← e2]
  exact hS3
 simp (disch := omega) only [↓RA, RB, simprocAttr, hn]
 have e3 : ∀ x : Nat, List.replicate x (I c) ++ List.replicate (25 - x) (.int .i64 0) = (List.replicate x (c : Int) ++ List.replicate (25 - x) 0).flatMap (one I) := fun x => by
  rw [pV, dS, List.map_replicate, List.map_replicate]
 refine Wp.ak (fun n l H' => l.length = 48 ∧ get l 4 = (.slice none 0 0) ∧ ∃ (x : Nat), (n + x = 25 ∧ 1 ≤ x) ∧ get l 8 = I x ∧ get l 7 = w ∧ St prog H H' [⟨w, 1, (List.replicate x (c : Int) ++ List.replicate (25 - x) 0).flatMap (one I)⟩]) 24 ?_ ?_
 ·simp (disch := omega) only [RB, RC, simprocAttr, hn]
  rw [e3] at hS4
  exact ⟨1, ⟨by omega, by omega⟩, rfl, hS4⟩
 rintro n l H2 ⟨hn, g4, x, ⟨hx,hx1⟩, g8, g7, hS2⟩
 have hln : (List.replicate x (c : Int) ++ List.replicate (25 - x) 0).length = 25 := by simp; omega
 simp (disch := omega) only [↓RA, RZ, simprocAttr, hn, g8, g7, (hS2.aw 0 rfl (fun _ => rfl)).len, hln]
 refine iA (fun q1 => ?_) (fun q1 => ?_)
 ·simp (disch := omega) only [↓RA, RC, simprocAttr, q1]
  refine Wp.drw jY (by kernel_rfl) ?_
  simp (disch := omega) only [↓RA, RZ, simprocAttr, hn, g8, g7, (hS2.aw 0 rfl (fun _ => rfl)).aU, (hS2.aw 0 rfl (fun _ => rfl)).aV, hln]
  have hxt : ((25 : Int) - (x : Int)).toNat = 25 - x := by omega
  rw [hxt]
  have hlc : ((List.replicate x (c : Int) ++ List.replicate (25 - x) 0).flatMap (one I)).length = 25 := by rw [pV, ek, hln]
  have hrd := hS2.rd 0 rfl
  have hsub := hrd.sub 0 x (by rw [hlc]; omega) (by intro e; rw [e] at hlc; simp at hlc)
  have e5 : (((List.replicate x (c : Int) ++ List.replicate (25 - x) 0).flatMap (one I)).drop (0 * (0 + 1))).take (x * (0 + 1)) = List.replicate x (I c) := by
   rw [← e3]
   simp []
  rw [e5] at hsub
  refine hS2.bM 0 rfl hsub x (25 - x) (by rw [hlc]; omega) (by omega) (by simp; omega) c2m fun H4 hS5 => ?_
  have e6 : (List.replicate x (I c)).take (min (List.replicate x (I c)).length (25 - x)) = List.replicate (min x (25 - x)) (I c) := by simp
  rw [e6] at hS5
  have e7 : min (List.replicate x (I c)).length (25 - x) = min x (25 - x) := by simp
  rw [e7]
  have e8 := rU (I c) (.int .i64 0) (min x (25 - x)) x 25 (by omega)
  have hS6 : St prog H H4 [⟨w, 1, (List.replicate (x + min x (25 - x)) (c : Int) ++ List.replicate (25 - (x + min x (25 - x))) 0).flatMap (one I)⟩] := by
   rw [← e3, ← e8, e3]
   exact hS5
  simp (disch := omega) only [↓RA, RZ, simprocAttr, hn, g4, g7]
  exact ⟨25 - (x + min x (25 - x)), by omega, x + min x (25 - x), ⟨by omega, by omega⟩, by simp, hS6⟩
 simp (disch := omega) only [↓RA, RZ, simprocAttr, hn, g7, c7Q, q1]
 have e : x = 25 := by omega
 subst e
 have hfin : ((List.replicate 25 (c : Int) ++ List.replicate (25 - 25) 0).flatMap (one I)) = List.replicate 25 (I c) := by rw [← e3]; rfl
 have h9 := hS2
 rw [hfin] at h9
 exact h9
end Go.Ds
namespace Go.Ds
open Go.Proofs
variable {H : Heap}
set_option maxRecDepth 10000
set_option maxHeartbeats 1000000
section
variable (w1 w2 w3 w4 w5 w6 w7 : Value)
def a9r (x : Int × Int) : List (Int × Int) → List (Int × Int)
 | [] => [x]
 | y :: l => if le2 x y then x :: y :: l else y :: a9r x l
def a3B : List (Int × Int) → List (Int × Int)
 | [] => []
 | x :: l => a9r x (a3B l)
theorem a0f (x : Int × Int) : ∀ l, (a9r x l).Perm (x :: l)
 | [] => .refl _
 | y :: l => by
   unfold a9r
   split
   ·exact .refl _
   ·exact ((a0f x l).cons y).trans (.swap ..)
theorem a4Q : ∀ l, (a3B l).Perm l
 | [] => .refl _
 | x :: l => (a0f x _).trans ((a4Q l).cons x)
theorem b4f (x y : Int × Int) : le2 x y = false → le2 y x = true := by
 intro h
 rw [← eJ] at h
 rw [nU] at h ⊢
 omega
theorem a1s (x : Int × Int) : ∀ l : List (Int × Int), l.Pairwise (fun a b => le2 a b = true) → (a9r x l).Pairwise fun a b => le2 a b = true
 | [], _ => by simp [a9r]
 | y :: l, h => by
   have h1 := gT.1 h
   unfold a9r
   split
   ·rename_i hxy
    refine gT.2 ⟨fun z hz => ?_, h⟩
    rcases dV.1 hz with rfl | hz
    ·exact hxy
    ·have h2 := h1.1 z hz
     rw [nU] at *
     omega
   ·rename_i hxy
    refine gT.2 ⟨fun z hz => ?_, a1s x l h1.2⟩
    rcases dV.1 ((a0f x l).mem_iff.1 hz) with rfl | hz
    ·exact b4f _ _ (by simpa using hxy)
    ·exact h1.1 z hz
theorem a1w : ∀ l : List (Int × Int), (a3B l).Pairwise fun a b => le2 a b = true
 | [] => .nil
 | x :: l => a1s x _ (a1w l)
theorem c3Y : pG = a3B := by
 funext l
 refine List.Perm.eq_of_pairwise (le := fun a b => le2 a b = true) (fun a b _ _ h1 h2 => ?_) (tW l) (a1w l) ((mT l).trans (a4Q l).symm)
 rw [nU] at h1 h2
 exact fO (by omega) (by omega)
def b4Q (s : List Ct → List Ct) (o : Org) (r : Reg) (l : List Ct) : List Ct := dd (s (l.filter (fun c => !r.off.testBit c.1.toNat) ++ bfs o r.cpl 1100 0 (kI o r.cpl l)))
def c3A (s : List Ct → List Ct) (rs : List Rk) (p : Stp) (key : Int) : List Ct := dd (s (((a6n p key).filter fun d => rG rs d key).map fun d => mQ rs d key))
def b5o (s : List Ct → List Ct) (o : Org) (r : Reg) (c : Ct) : List Ct := (List.range (iB o.dvs c.1.toNat).stops.length).flatMap fun i => if (iB r.stops c.1.toNat).testBit i then c3A s o.ranks (iB (iB o.dvs c.1.toNat).stops i) c.2 else []
end
end Go.Ds
namespace Go.Ds
open Go.Proofs Go.Proofs.Tryz
variable {H : Heap}
set_option maxRecDepth 10000
set_option maxHeartbeats 1000000
theorem a4N (hG : Glob gH H) (s : ByteArray) : Fn prog 66 [.string s] H fun r H' => ∃ wv, r = .agg #[.string s, .string ⟨#[102, 108, 117, 116, 101]⟩, I 8, I 1, I 36, wv] ∧ St prog H H' [⟨wv, 1, List.replicate 25 (I 1)⟩] := by
 refine .aQ func66 rfl (by kernel_rfl) (m := 8) rfl fun l hn g0 => ?_
 simp (disch := omega) only [↓RA, RZ, simprocAttr]
 refine (sR H).eNew 6 [(.string ⟨#[]⟩), (.string ⟨#[]⟩), I 0, I 0, I 0, (.slice none 0 0)] rfl rfl rfl a1z fun A1 H1 hS1 => ?_
 simp only [RT] at hS1
 simp (disch := omega) only [↓RA, RB, simprocAttr, g0, a0b]
 refine hS1.ai [I 1] xC a1B rfl rfl (by simp [Value.cells]) rfl rfl (by decide) (by decide) fun w1 H2 hS2 => ?_
 simp only [RT] at hS2
 simp (disch := omega) only [↓RA, RZ, simprocAttr, hn]
 refine iG ((a2z (hS2.gl hG) w1 (hS2.aw 1 rfl (fun _ => rfl))).tr) ?_
 rintro r H3 ⟨-, hT1⟩
 have hS3 := hS2.trans hT1
 simp only [RT] at hS3
 obtain ⟨wv, rfl⟩ : ∃ w, w = r := ⟨r, rfl⟩
 simp (disch := omega) only [↓RA, RB, simprocAttr, hn, a2H (hS3.rd 2 rfl).cells]
 refine hS3.aa 0 rfl [(.string s), (.string ⟨#[102, 108, 117, 116, 101]⟩), I 8, I 1, I 36, wv] rfl (by simp [OC, (hS3.rd 2 rfl).cells.2.1]) a1z (by simp) fun H4 hS4 => ?_
 simp only [RT] at hS4
 simp (disch := omega) only [↓RA, RZ, simprocAttr, hn, c7B, hS4.ae 0 rfl]
 exact ⟨wv, rfl, hS4.pick [2] (by decide) rfl⟩
theorem a3Z (n feet shift : Int) : Fn prog 65 [I n, I feet, I shift] H fun r H' => ∃ dv gv, St prog H H' [⟨dv, 2, [I n, I shift]⟩, ⟨gv, 3, [I 36, I 48, dv]⟩, ⟨r, 4, [.string ⟨#[97]⟩, I feet, I 1, gv]⟩] := by
 refine .bd func65 rfl (by kernel_rfl) (m := 17) rfl fun l hn g0 g1 g2 => ?_
 simp (disch := omega) only [↓RA, RB, simprocAttr, hn, g0, g1, g2, a0b, qV]
 refine (sR H).ai [I n, I shift] a4t a3S rfl rfl (by simp [Value.cells]) rfl rfl (by decide) (by decide) fun w1 H1 hS1 => ?_
 simp only [RT] at hS1
 simp (disch := omega) only [↓RA, RB, simprocAttr, hn, lP (hS1.rd 0 rfl).cells]
 refine hS1.ai [I 36, I 48, w1] qH wR rfl rfl (by first | (simp []; done) | simp [Value.cells]) (by first | (simp []; done) | simp [Value.cells]) (by simp [OC, (hS1.rd 0 rfl).cells.2.1]) (by decide) (by decide) fun w2 H2 hS2 => ?_
 simp only [RT] at hS2
 simp (disch := omega) only [↓RA, RB, simprocAttr, hn, a7H (hS2.rd 1 rfl).cells]
 refine hS2.ai [(.string ⟨#[97]⟩), I feet, I 1, w2] c3M c6p rfl rfl (by first | (simp []; done) | simp [Value.cells]) (by first | (simp []; done) | simp [Value.cells]) (by simp [OC, (hS2.rd 1 rfl).cells.2.1]) (by decide) (by decide) fun w3 H3 hS3 => ?_
 simp only [RT] at hS3
 simp (disch := omega) only [↓RA, RB, simprocAttr, hn, c8q]
 exact ⟨w1, w2, hS3⟩
section
variable (w1 w2 d1 g1 s1 d2 g2 s2 w3 w4 w5 : Value)
end
end Go.Ds
