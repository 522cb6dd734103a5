/-
  A part of the proof of SoundKeys.
-/
import Derived.Test.YtnokpoinacbjiaaGreatDoorVJ
import Derived.Test.YtnokpoinacbjiaaGreatDoorVD
import Derived.Test.YtnokpoinacbjiaaGreatDoorVE
set_option linter.unusedVariables false
set_option linter.unusedSimpArgs false
set_option linter.defProp false
set_option linter.unusedSectionVars false
namespace Go.Ds
open Go.Proofs Go.Proofs.Tryz Go.ChangeShapes Go.WideShapes Go.RowKit Go.Deep
set_option maxRecDepth 10000
theorem ce3 : prog.cellsOf 3 = 1 := by kernel_rfl
section
variable {H0 : Type} {enc : TypeId × Value → H0} {w : World} {base n : Nat} {spare : Nat → Bool} {lH : Bool} {x : DataW H0 × List MemPlace}
theorem b7D {v : Value} (h : DataW.trod enc prog w base spare lH n 3 [v] = some x) : ∃ m : Int, v = I m ∧ -9223372036854775808 ≤ m ∧ m < 9223372036854775808 := by
 obtain ⟨m, hv, _, hw⟩ := DataW.trod_int underlying3 h
 have hv : v = I m := by simpa using hv
 have hm : -9223372036854775808 ≤ m ∧ m ≤ 9223372036854775807 := by simpa [Lit.wf, IntKind.min, IntKind.max, IntKind.signed, IntKind.bits] using hw
 exact ⟨m, hv, hm.1, by omega⟩
end
section
variable {H0 : Type} {enc : TypeId × Value → H0} {w : World} {base : Nat} {lH : Bool}
end
theorem c7T : prog.cellsOf 52 = 2 := by kernel_rfl
section
variable {H0 : Type} {enc : TypeId × Value → H0} {w : World} {base : Nat} {lH : Bool}
theorem c4D {v0 : Value} {d0 : DataW H0} {p0 : List MemPlace} {c0 : Nat} (h0 : DataW.Trod enc prog w base (fun _ => true) lH 52 v0 d0 p0) (hval : Value.okWide prog w .any c0 52 v0) :
 ∃ c : Ct, v0 = .agg #[I c.1, I c.2] := by
 obtain ⟨cs, rfl, hsz⟩ := okWide_struct underlying52 hval
 rw [c7T] at hsz
 obtain ⟨fuel, hf⟩ := h0
 obtain ⟨l⟩ := cs
 have hl : l.length = 2 := hsz
 match l, hl with
 | [x, y], _ =>
   obtain ⟨_, m, hf⟩ := a0m (cs := [x, y]) underlying52 hf
   obtain ⟨_, h0⟩ := hf 0 ⟨_, 3, 0, _, _, _, _⟩ rfl
   obtain ⟨_, h1⟩ := hf 1 ⟨_, 3, 1, _, _, _, _⟩ rfl
   simp only [ce3] at h0 h1
   obtain ⟨a, rfl, _⟩ := b7D h0
   obtain ⟨b, rfl, _⟩ := b7D h1
   exact ⟨(a, b), rfl⟩
end
end Go.Ds
namespace Go.Ds
open Go.Proofs
set_option maxRecDepth 10000
def xT (x y : Int × Int) : Prop := x.1 < y.1 ∨ (x.1 = y.1 ∧ x.2 < y.2)
theorem a1D {x : Int × Int} : ¬ xT x x := by unfold xT; omega
theorem a0b {x y z : Int × Int} (h : xT x y) (k : xT y z) : xT x z := by unfold xT at *; omega
theorem qN : ∀ (l m : List (Int × Int)), l.Pairwise xT → m.Pairwise xT → (∀ x, x ∈ l ↔ x ∈ m) → l = m
 | [], [], _, _, _ => rfl
 | [], b :: m, _, _, h => absurd ((h b).2 (dH ..)) ek
 | a :: l, [], _, _, h => absurd ((h a).1 (dH ..)) ek
 | a :: l, b :: m, hl, hm, h => by
   rw [gS] at hl hm
   have hab : a = b := by
    rcases dR.1 ((h a).1 (dH ..)) with e | e
    ·exact e
    ·rcases dR.1 ((h b).2 (dH ..)) with e2 | e2
     ·exact e2.symm
     ·exact absurd (a0b (hm.1 a e) (hl.1 b e2)) a1D
   subst hab
   congr 1
   refine qN l m hl.2 hm.2 fun x => ?_
   constructor
   ·intro hx
    rcases dR.1 ((h x).1 (dP _ hx)) with e | e
    ·subst e
     exact absurd (hl.1 x hx) a1D
    ·exact e
   ·intro hx
    rcases dR.1 ((h x).2 (dP _ hx)) with e | e
    ·subst e
     exact absurd (hm.1 x hx) a1D
    ·exact e
theorem b6e {es : List (Int × Int)} (h : es.Pairwise fun a b => le2 a b = true) {i j : Nat} (hij : i < j) (hj : j < es.length) : le2 (iB es i) (iB es j) = true := by
 rw [jJ _ _ (by omega), jJ _ _ hj]
 exact eK.1 h i j (by omega) hj hij
theorem b0t {es : List (Int × Int)} (h : es.Pairwise fun a b => le2 a b = true) : ∀ m, m ≤ es.length → (yS es m).Pairwise xT ∧ ∀ x, x ∈ yS es m ↔ ∃ j, j < m ∧ iB es j = x
 | 0, _ => ⟨by simp [yS], fun x => by simp [yS]⟩
 | m + 1, hm => by
   obtain ⟨h1, h2⟩ := b0t h m (by omega)
   rw [sB]
   by_cases hc : m = 0 ∨ iB es m ≠ iB es (m - 1)
   ·rw [if_pos hc]
    refine ⟨?_, fun x => ?_⟩
    ·rw [fg]
     refine ⟨h1, by simp, fun a ha b hb => ?_⟩
     obtain ⟨j, hj, rfl⟩ := (h2 a).1 ha
     obtain rfl := dw.1 hb
     have h3 := (nQ _ _).1 (b6e h hj (by omega))
     rcases hc with hc | hc
     ·omega
     ·by_cases he : j = m - 1
      ·subst he
       have hne : ¬ (iB es (m - 1) = iB es m) := fun e => hc e.symm
       rw [Prod.ext_iff] at hne
       unfold xT
       omega
      ·have h4 := (nQ _ _).1 (b6e h (show j < m - 1 by omega) (by omega))
       have h5 := (nQ _ _).1 (b6e h (show m - 1 < m by omega) (by omega))
       have hne : ¬ (iB es (m - 1) = iB es m) := fun e => hc e.symm
       rw [Prod.ext_iff] at hne
       unfold xT
       omega
    ·rw [dC, h2, dw]
     constructor
     ·rintro (⟨j, hj, e⟩ | e)
      ·exact ⟨j, by omega, e⟩
      ·exact ⟨m, by omega, e.symm⟩
     ·rintro ⟨j, hj, e⟩
      rcases dp.1 hj with e2 | e2
      ·exact .inl ⟨j, e2, e⟩
      ·subst e2
       exact .inr e.symm
   ·rw [if_neg hc, dj]
    refine ⟨h1, fun x => ?_⟩
    rw [h2]
    constructor
    ·rintro ⟨j, hj, e⟩
     exact ⟨j, by omega, e⟩
    ·rintro ⟨j, hj, e⟩
     rcases dp.1 hj with e2 | e2
     ·exact ⟨j, e2, e⟩
     ·subst e2
      have hc' : ¬ (j = 0) ∧ iB es j = iB es (j - 1) := ⟨fun e => hc (.inl e), fT fun e => hc (.inr e)⟩
      exact ⟨j - 1, by omega, by rw [← hc'.2]; exact e⟩
theorem a5O (l : List (Int × Int)) : (dd (pA l)).Pairwise xT := (b0t (sU l) _ (dh _)).1
theorem qF {l : List (Int × Int)} {x : Int × Int} : x ∈ dd (pA l) ↔ x ∈ l := by
 unfold dd
 rw [(b0t (sU l) _ (dh _)).2 x, ← (mX l).mem_iff]
 constructor
 ·rintro ⟨j, hj, rfl⟩
  exact iD hj
 ·intro hx
  obtain ⟨j, hj, e⟩ := dD.1 hx
  exact ⟨j, hj, by rw [jJ _ _ hj]; exact e⟩
theorem b1D {l m : List (Int × Int)} (h : ∀ x, x ∈ l ↔ x ∈ m) : dd (pA l) = dd (pA m) :=
 qN _ _ (a5O l) (a5O m) fun x => by rw [qF, qF, h]
def a5o (o : Org) (cp : Nat) (thr : Bool) (c x : Ct) : Prop := ∃ i, i < o.cpls.length ∧ rH cp thr c (iB o.cpls i) i = true ∧ lA o (to1 (iB o.cpls i) c) = true ∧ x = to1 (iB o.cpls i) c
theorem a4M {o : Org} {cp : Nat} {thr : Bool} {c x : Ct} {q : List Ct} : ∀ n, x ∈ stepN o cp thr c q n ↔ x ∈ q ∨ ∃ i, i < n ∧ rH cp thr c (iB o.cpls i) i = true ∧ lA o (to1 (iB o.cpls i) c) = true ∧ x = to1 (iB o.cpls i) c
 | 0 => by
   unfold stepN
   simp
 | n + 1 => by
   rw [lJ]
   have ih := a4M (o := o) (cp := cp) (thr := thr) (c := c) (x := x) (q := q) n
   have hs : x ∈ step1 o cp thr c (stepN o cp thr c q n) n ↔ x ∈ stepN o cp thr c q n ∨ (rH cp thr c (iB o.cpls n) n = true ∧ lA o (to1 (iB o.cpls n) c) = true ∧ x = to1 (iB o.cpls n) c) := by
    unfold step1
    split
    ·rename_i hh
     simp only [cY] at hh
     rw [dC, dw]
     constructor
     ·rintro (h | h)
      ·exact .inl h
      ·exact .inr ⟨hh.1.1, hh.1.2, h⟩
     ·rintro (h | ⟨_, _, h⟩)
      ·exact .inl h
      ·exact .inr h
    ·rename_i hh
     simp only [cY, dF, decide_eq_false_iff_not, not_and, dA] at hh
     constructor
     ·exact fun h => .inl h
     ·rintro (h | ⟨h1, h2, h3⟩)
      ·exact h
      ·rw [h3]
       exact hh ⟨h1, h2⟩
   rw [hs, ih]
   constructor
   ·rintro ((h | ⟨i, hi, h⟩) | h)
    ·exact .inl h
    ·exact .inr ⟨i, by omega, h⟩
    ·exact .inr ⟨n, by omega, h⟩
   ·rintro (h | ⟨i, hi, h⟩)
    ·exact .inl (.inl h)
    ·rcases dp.1 hi with e | e
     ·exact .inl (.inr ⟨i, e, h⟩)
     ·subst e
      exact .inr h
theorem sO {o : Org} {cp : Nat} {thr : Bool} {c x : Ct} {q : List Ct} : x ∈ stepF o cp thr c q ↔ x ∈ q ∨ a5o o cp thr c x := a4M _
inductive Star {α : Type} (R : α → α → Prop) : α → α → Prop
 | refl (a : α) : Star R a a
 | tail {a b c : α} : Star R a b → R b c → Star R a c
theorem Star.stay {α : Type} {R : α → α → Prop} {p : α → Prop} (hc : ∀ a, p a → ∀ b, R a b → p b) {a b : α} (ha : p a) (h : Star R a b) : p b := by
 induction h with
 | refl => exact ha
 | tail _ h2 ih => exact hc _ ih _ h2
theorem a1R {o : Org} {cp : Nat} {l : List Ct} {x : Ct} : x ∈ kI o cp l ↔ ∃ c, c ∈ l ∧ a5o o cp false c x := by
 unfold kI
 have h : ∀ (l : List Ct) (q : List Ct), x ∈ l.foldl (fun q c => stepF o cp false c q) q ↔ x ∈ q ∨ ∃ c, c ∈ l ∧ a5o o cp false c x := by
  intro l
  induction l with
  | nil => intro q; simp
  | cons a l ih =>
    intro q
    rw [eT, ih, sO]
    constructor
    ·rintro ((h | h) | ⟨c, hc, h⟩)
     ·exact .inl h
     ·exact .inr ⟨a, dH .., h⟩
     ·exact .inr ⟨c, dP _ hc, h⟩
    ·rintro (h | ⟨c, hc, h⟩)
     ·exact .inl (.inl h)
     ·rcases dR.1 hc with e | e
      ·subst e
       exact .inl (.inr h)
      ·exact .inr ⟨c, e, h⟩
 rw [h]
 simp
theorem a3Q {o : Org} {cp : Nat} {thr : Bool} {c : Ct} {q : List Ct} : ∀ n, ∃ t, stepN o cp thr c q n = q ++ t
 | 0 => ⟨[], by simp [stepN]⟩
 | n + 1 => by
   obtain ⟨t, ht⟩ := a3Q (o := o) (cp := cp) (thr := thr) (c := c) (q := q) n
   rw [lJ, ht]
   unfold step1
   split
   ·exact ⟨t ++ [to1 (iB o.cpls n) c], by rw [ee]⟩
   ·exact ⟨t, rfl⟩
theorem a6W {α : Type} [Inhabited α] (q t : List α) {j : Nat} (h : j < q.length) : iB (q ++ t) j = iB q j := by
 rw [jJ _ _ (by simp; omega), jJ _ _ h, List.getElem_append_left h]
theorem b1A {o : Org} (hf : o.Fine) (cp : Nat) : ∀ (n i : Nat) (q : List Ct), Que o q → 1025 ≤ n + i → (∀ j, j < i → j < q.length → ∀ y, a5o o cp true (iB q j) y → y ∈ q) →
 ∀ x, x ∈ bfs o cp n i q ↔ ∃ a, a ∈ q ∧ Star (a5o o cp true) a x
 | 0, i, q, hq, hn, hc, x => by
   have hl := hq.len hf
   have hcl : ∀ a, a ∈ q → ∀ y, a5o o cp true a y → y ∈ q := fun a ha y hy => by
    obtain ⟨j, hj, e⟩ := dD.1 ha
    exact hc j (by omega) hj y (by rw [jJ _ _ hj, e]; exact hy)
   unfold bfs
   exact ⟨fun h => ⟨x, h, .refl x⟩, fun ⟨a, ha, hs⟩ => hs.stay hcl ha⟩
 | n + 1, i, q, hq, hn, hc, x => by
   rw [bfs]
   split
   ·rename_i hi
    obtain ⟨t, ht⟩ := a3Q (o := o) (cp := cp) (thr := true) (c := iB q i) (q := q) o.cpls.length
    have ht : stepF o cp true (iB q i) q = q ++ t := ht
    rw [b1A hf cp n (i + 1) _ (hq.stepF cp true _) (by omega) (fun j hj hjl y hy => ?_)]
    ·constructor
     ·rintro ⟨a, ha, hs⟩
      rcases sO.1 ha with h | h
      ·exact ⟨a, h, hs⟩
      ·refine ⟨iB q i, iD hi, ?_⟩
       clear ha
       induction hs with
       | refl => exact .tail (.refl _) h
       | tail _ h2 ih => exact .tail ih h2
     ·rintro ⟨a, ha, hs⟩
      exact ⟨a, sO.2 (.inl ha), hs⟩
    ·rcases dp.1 hj with e | e
     ·rw [ht, a6W _ _ (by omega)] at hy
      exact sO.2 (.inl (hc j e (by omega) y hy))
     ·subst e
      rw [ht, a6W _ _ hi] at hy
      exact sO.2 (.inr hy)
   ·rename_i hi
    have hcl : ∀ a, a ∈ q → ∀ y, a5o o cp true a y → y ∈ q := fun a ha y hy => by
     obtain ⟨j, hj, e⟩ := dD.1 ha
     exact hc j (by omega) hj y (by rw [jJ _ _ hj, e]; exact hy)
    exact ⟨fun h => ⟨x, h, .refl x⟩, fun ⟨a, ha, hs⟩ => hs.stay hcl ha⟩
def Snd (o : Org) (r : Reg) (c x : Ct) : Prop := (x = c ∧ r.off.testBit c.1.toNat = false) ∨ ∃ a, a5o o r.cpl false c a ∧ Star (a5o o r.cpl true) a x
theorem xB (o : Org) (cp : Nat) (l : List Ct) : Que o (kI o cp l) := by
 unfold kI
 have h : ∀ (l : List Ct) (q : List Ct), Que o q → Que o (l.foldl (fun q c => stepF o cp false c q) q) := by
  intro l
  induction l with
  | nil => exact fun q h => h
  | cons a l ih => exact fun q h => ih _ (h.stepF cp false a)
 exact h l [] (Que.nil o)
theorem a2P {o : Org} (hf : o.Fine) {r : Reg} {l : List Ct} {x : Ct} : x ∈ jX o r l ↔ ∃ c, c ∈ l ∧ Snd o r c x := by
 unfold jX
 rw [qF, dC, ew, b1A hf r.cpl 1100 0 _ (xB o r.cpl l) (by decide) (fun j hj => absurd hj (dJ _))]
 constructor
 ·rintro (⟨h1, h2⟩ | ⟨a, ha, hs⟩)
  ·exact ⟨x, h1, .inl ⟨rfl, by simpa using h2⟩⟩
  ·obtain ⟨c, hc, h⟩ := a1R.1 ha
   exact ⟨c, hc, .inr ⟨a, h, hs⟩⟩
 ·rintro ⟨c, hc, h⟩
  rcases h with ⟨rfl, h2⟩ | ⟨a, h, hs⟩
  ·exact .inl ⟨hc, by simpa using h2⟩
  ·exact .inr ⟨a, a1R.2 ⟨c, hc, h⟩, hs⟩
theorem a2m {o : Org} (hf : o.Fine) {r : Reg} {l : List Ct} {p : Ct} : p ∈ kG o r l ↔ ∃ c, c ∈ l ∧ ∃ x, Snd o r c x ∧ p ∈ mU o r x := by
 unfold kG qU
 rw [qF, dQ]
 constructor
 ·rintro ⟨x, hx, hp⟩
  obtain ⟨c, hc, h⟩ := (a2P hf).1 hx
  exact ⟨c, hc, x, h, hp⟩
 ·rintro ⟨c, hc, x, h, hp⟩
  exact ⟨x, (a2P hf).2 ⟨c, hc, h⟩, hp⟩
theorem a0T (o : Org) (r : Reg) (l : List Ct) : (kG o r l).Pairwise xT := a5O _
def IsP (o : Org) (p : Ct) : Prop := 0 ≤ p.1 ∧ p.1 < o.ranks.length ∧ 0 ≤ p.2 ∧ p.2 < (iB o.ranks p.1.toNat).wind.length
theorem b0K {rs : List Rk} {s : Stp} {key : Int} {p : Ct} (h : p ∈ qB rs s key) : 0 ≤ p.1 ∧ p.1 < rs.length ∧ 0 ≤ p.2 ∧ p.2 < (iB rs p.1.toNat).wind.length := by
 unfold qB at h
 obtain ⟨d, hd, rfl⟩ := dy.1 (qF.1 h)
 have hh := (ew.1 hd).2
 unfold rE at hh
 rw [cY, cY, dF, decide_eq_true_eq, decide_eq_true_eq, decide_eq_false_iff_not] at hh
 obtain ⟨⟨h1, h2⟩, h3⟩ := hh
 have e : (mK rs d key).1 = d.rank := by unfold mK; rw [if_neg h1]
 rw [e]
 exact ⟨by omega, by omega, h2, h3⟩
theorem a1W {o : Org} {r : Reg} {c p : Ct} (h : p ∈ mU o r c) : IsP o p := by
 unfold mU at h
 obtain ⟨i, _, h⟩ := dQ.1 h
 split at h
 ·exact b0K h
 ·exact absurd h ek
theorem IsP.small {o : Org} {H : Heap} (hf : o.Fine) (ho : o.In H) {p : Ct} (h : IsP o p) : -1000000000 ≤ p.1 ∧ p.1 ≤ 1000000000 ∧ -1000000000 ≤ p.2 ∧ p.2 ≤ 1000000000 := by
 obtain ⟨h1, h2, h3, h4⟩ := h
 have hr := (ho.2.1 _ (iD (xs := o.ranks) (j := p.1.toNat) (by omega))).2
 have := hf.rlen
 exact ⟨by omega, by omega, by omega, by omega⟩
theorem sG {o : Org} (hf : o.Fine) (rg : Reg) {l : List Ct} (hl : l.length ≤ 1024) (ho : ∀ c ∈ jX o rg l, lA o c = true) : (kG o rg l).length ≤ 1000000 := by
 have h1 := vZ hf rg (jX o rg l) ho
 have h2 := xD hf (rg := rg) hl
 have h3 := b1G (pA ((jX o rg l).flatMap (mU o rg)))
 rw [mE] at h3
 have : (kG o rg l).length ≤ (jX o rg l).length * 480 := dB h3 h1
 omega
end Go.Ds
namespace Go.Ds
open Go.Proofs Go.Proofs.Tryz
variable {H : Heap}
set_option maxRecDepth 10000
set_option maxHeartbeats 1000000
def mkN (P : Program) (t : TypeId) : Option (Nat × Nat × List Value) :=
 (iJ P t).bind fun elem => (iE P elem).bind fun size => (mP P elem).bind fun bytes => (jA P elem).bind fun z => if size != 0 && size != 1 && z.cells.size == size && jC z then some (bytes, size, z.cells.toList) else none
theorem b7C {β : Type} (cel : β → List Value) (x : β) (z : Array Value) (hz : cel x = z.toList) (h0 : 0 < z.size) : ∀ a, (madeCells z (a * z.size)).toList = (List.replicate a x).flatMap cel := by
 have key : ∀ a, (List.range (a * z.size)).map (fun i => z[i % z.size]!) = (List.replicate a x).flatMap cel := by
  intro a
  induction a with
  | zero => simp
  | succ a ih =>
    rw [gE, Nat.add_comm, List.range_add, dT, List.map_map, List.replicate_succ, dz, ← ih, hz]
    congr 1
    ·refine List.ext_getElem (by simp) fun i h1 h2 => ?_
     simp only [List.getElem_map, gR]
     rw [fP (by simpa using h1)]
     simp at h1
     simp [h1]
    ·refine List.map_congr_left fun i _ => ?_
     simp
 intro a
 rw [← key a]
 simp [madeCells]
theorem St.cj {P : Program} {H0 : Base} {H : Heap} {os : List Ob} {β : Type} {cel : β → List Value} {x : β} (hS : St P H0 H os) {t : TypeId} {bytes sz : Nat} {zs : List Value} {K : Value → Heap → Prop} (a : Nat) (ha : mkN P t = some (bytes, sz, zs)) (hz : cel x = zs) (hroom : a * (bytes + 1) ≤ 17592186044416)
 (h : ∀ v H1, St P H0 H1 (os ++ [⟨v, sz, (List.replicate a x).flatMap cel⟩]) → K v H1) : pG P H t (.int .i64 a) (.int .i64 a) K := by
 unfold mkN at ha
 cases he : iJ P t with
 | none => rw [he] at ha; cases ha
 | some elem =>
 rw [he] at ha
 simp only [cX] at ha
 cases hsz2 : iE P elem with
 | none => rw [hsz2] at ha; cases ha
 | some sz =>
 rw [hsz2] at ha
 simp only [cX] at ha
 cases hby : mP P elem with
 | none => rw [hby] at ha; cases ha
 | some by' =>
 rw [hby] at ha
 simp only [cX] at ha
 cases hz2 : jA P elem with
 | none => rw [hz2] at ha; cases ha
 | some z' =>
 rw [hz2] at ha
 simp only [cX] at ha
 split at ha
 case isFalse => cases ha
 rename_i hzs
 simp only [cY, beq_iff_eq, bne_iff_ne, ne_eq] at hzs
 obtain ⟨⟨⟨hs0, hs1⟩, hz1⟩, hfl⟩ := hzs
 simp only [dE, ga] at ha
 obtain ⟨rfl, rfl, rfl⟩ := ha
 have hm := b7C cel x z'.cells hz (by omega) a
 rw [hz1] at hm
 have hln : ((List.replicate a x).flatMap cel).length = a * sz := by
  rw [← hm]
  simp [madeCells]
 refine ⟨.slice (some ⟨H.length, 0, some ((List.replicate a x).flatMap cel).length⟩) a sz, H.cons (.cells ((List.replicate a x).flatMap cel) elem true ((List.replicate a x).flatMap cel).length 0), ?_, h _ _ (hS.add ?_ ?_ ?_ ?_)⟩
 ·unfold tO
  simp only [he, hsz2, hby, hz2, cX]
  rw [if_pos]
  ·rw [if_neg hs1]
   simp only [eh, hm]
   rw [lG]
  ·have : (a : Int) * (by' + 1) ≤ (nY : Int) := by
    have h3 : ((a * (by' + 1) : Nat) : Int) ≤ ((17592186044416 : Nat) : Int) := Int.ofNat_le.2 hroom
    simpa [nY] using h3
   simp [hfl, hz1, this, hs0]
 ·unfold OwnAt
  rw [if_neg hs0]
  exact .inr ⟨_, 0, elem, _, 0, [], a, iO H _, by simp, rfl, hln, by simp, hsz2⟩
 ·simp [oN]
 ·exact fun B hB => jP _ hB
 ·intro B hB
  simp [kH] at hB
  omega
abbrev Nt := Nat × Nat
def tB (x : Nt) : List Value := [.int .u64 x.1, .int .u64 x.2]
def Nt.Ok (x : Nt) : Prop := x.1 < 18446744073709551616 ∧ x.2 < 18446744073709551616
theorem c5W : mkN prog 44 = some (16, 2, tB (0, 0)) := by kernel_rfl
def qT (x : Nt) (n : Int) : Nt := if n < 64 then (x.1 ||| 2 ^ n.toNat, x.2) else (x.1, x.2 ||| 2 ^ (n - 64).toNat)
theorem a6i (i : Nat) (h : i < 64) : 2 ^ i < 18446744073709551616 := by
 have : 2 ^ i ≤ 2 ^ 63 := fw (by decide) (by omega)
 have e : 2 ^ 63 = 9223372036854775808 := rfl
 omega
theorem a7k {a b : Nat} (ha : a < 18446744073709551616) (hb : b < 18446744073709551616) : a ||| b < 18446744073709551616 := Nat.or_lt_two_pow (n := 64) ha hb
theorem orB (a b : Nat) (ha : a < 18446744073709551616) (hb : b < 18446744073709551616) : IntKind.wrap .u64 ((BitVec.ofInt (IntKind.bits .u64) (a : Int) ||| BitVec.ofInt (IntKind.bits .u64) (b : Int)).toNat : Int) = ((a ||| b : Nat) : Int) := by
 have e : (BitVec.ofInt (IntKind.bits .u64) (a : Int) ||| BitVec.ofInt (IntKind.bits .u64) (b : Int)).toNat = a ||| b := by
  rw [BitVec.toNat_or, uP a ha, uP b hb]
 rw [e]
 have := a7k ha hb
 exact mS _ (by omega) (by omega)
theorem orN (n i : Nat) (hn : n < 18446744073709551616) (hi : i < 64) : IntKind.wrap .u64 ((BitVec.ofInt (IntKind.bits .u64) (n : Int) ||| BitVec.ofInt (IntKind.bits .u64) (IntKind.wrap .u64 (1 * 2 ^ min i (IntKind.bits .u64)))).toNat : Int) = ((n ||| 2 ^ i : Nat) : Int) := by
 rw [b6k i hi]
 exact orB n (2 ^ i) hn (a6i i hi)
theorem b8T {x : Nt} (hx : Nt.Ok x) {z : Int} (h0 : 0 ≤ z) (h1 : z < 128) : Nt.Ok (qT x z) := by
 unfold qT
 split
 ·exact ⟨a7k hx.1 (a6i _ (by omega)), hx.2⟩
 ·exact ⟨hx.1, a7k hx.2 (a6i _ (by omega))⟩
theorem a6l (x : Nt) (hx : Nt.Ok x) (z : Int) (h0 : 0 ≤ z) (h1 : z < 128) : Fn prog 86 [.agg #[.int .u64 x.1, .int .u64 x.2], I z] H fun r H' => r = .agg #[.int .u64 (qT x z).1, .int .u64 (qT x z).2] ∧ St prog H H' [] := by
 obtain ⟨m, rfl⟩ := eP h0
 refine .aE func86 rfl (by kernel_rfl) (m := 21) rfl fun l hn g0 g1 => ?_
 simp (disch := omega) only [↓RA, RB, simprocAttr, g0]
 refine (sR H).eNew 2 [(.int .u64 x.1), (.int .u64 x.2)] rfl rfl rfl kW fun A1 H1 hS1 => ?_
 simp only [RT] at hS1
 simp (disch := omega) only [↓RA, RZ, simprocAttr]
 refine hS1.eNew 2 [(.int .u64 0), (.int .u64 0)] rfl rfl rfl kW fun A2 H2 hS2 => ?_
 simp only [RT] at hS2
 simp (disch := omega) only [↓RA, RB, simprocAttr, hn, g1]
 refine iA (fun q1 => ?_) (fun q1 => ?_)
 ·have e1 := orN x.1 m hx.1 (by omega)
  have e2 : qT x (m : Int) = (x.1 ||| 2 ^ m, x.2) := by unfold qT; rw [if_pos q1]; rfl
  simp (disch := omega) only [↓RA, RC, simprocAttr, q1]
  refine Wp.drw jZ (by kernel_rfl) ?_
  simp (disch := omega) only [↓RA, RZ, simprocAttr, hn, g1, hS2.ld 0 rfl, e1]
  refine hS2.ab 0 rfl [(.int .u64 (x.1 ||| 2 ^ m : Nat))] rfl rfl b4g (by simp) fun H3 hS3 => ?_
  simp only [RT] at hS3
  simp (disch := omega) only [↓RA, RZ, simprocAttr, hn, hS3.ag 0 rfl]
  refine hS3.ab 1 rfl [(.int .u64 (x.1 ||| 2 ^ m : Nat)), (.int .u64 x.2)] rfl rfl kW (by simp) fun H4 hS4 => ?_
  simp only [RT] at hS4
  simp (disch := omega) only [↓RA, RZ, simprocAttr, hn, c3T, hS4.ag 1 rfl]
  rw [e2]
  exact ⟨rfl, hS4.forget⟩
 have e1 := orN x.2 (m - 64) hx.2 (by omega)
 have e3 : (m : Int) - 64 = ((m - 64 : Nat) : Int) := by omega
 have e2 : qT x (m : Int) = (x.1, x.2 ||| 2 ^ (m - 64)) := by unfold qT; rw [if_neg q1, e3]; rfl
 simp (disch := omega) only [↓RA, RC, simprocAttr, q1]
 refine Wp.drw jZ (by kernel_rfl) ?_
 simp (disch := omega) only [↓RA, RZ, simprocAttr, hn, g1, hS2.ld 0 rfl, e1, e3]
 refine hS2.ab 0 rfl [(.int .u64 (x.2 ||| 2 ^ (m - 64) : Nat))] rfl rfl b4g (by simp) fun H5 hS5 => ?_
 simp only [RT] at hS5
 simp (disch := omega) only [↓RA, RZ, simprocAttr, hn, hS5.ag 0 rfl]
 refine hS5.ab 1 rfl [(.int .u64 x.1), (.int .u64 (x.2 ||| 2 ^ (m - 64) : Nat))] rfl rfl kW (by simp) fun H6 hS6 => ?_
 simp only [RT] at hS6
 simp (disch := omega) only [↓RA, RZ, simprocAttr, hn, c3T, hS6.ag 1 rfl]
 rw [e2]
 exact ⟨rfl, hS6.forget⟩
def iP (xs : List Int) : Nt := xs.foldl qT (0, 0)
def isN (z : Int) : Prop := 0 ≤ z ∧ z < 128
theorem sM : ∀ (xs : List Int) (x : Nt), (∀ z ∈ xs, isN z) → Nt.Ok x → Nt.Ok (xs.foldl qT x)
 | [], _, _, h => h
 | z :: xs, x, hz, h => by
   rw [eT]
   exact sM xs _ (fun y hy => hz y (dP _ hy)) (b8T h (hz z (dH ..)).1 (hz z (dH ..)).2)
theorem a6G (xs : List Int) {j : Nat} (hj : j < xs.length) : iP (xs.take (j + 1)) = qT (iP (xs.take j)) (iB xs j) := by
 unfold iP
 rw [List.take_add_one, dq hj, Option.toList_some, gy, ← jJ _ j hj]
 rfl
theorem b3h (z : Int) (h : isN z) : Fn prog 85 [I z] H fun r H' => r = .bool true ∧ St prog H H' [] := by
 have h0 := h.1
 have h1 := h.2
 refine .aQ func85 rfl (by kernel_rfl) (m := 9) rfl fun l hn g0 => ?_
 simp (disch := omega) only [↓RA, RZ, simprocAttr, hn, g0]
 refine jM (fun q1 => ?_) (fun q1 => ?_)
 rotate_left
 ·exfalso; first | omega | (simp at q1; omega)
 simp (disch := omega) only [↓RA, RZ, simprocAttr, hn, g0, c7l, q1]
 simpa using ⟨(by omega : z ≤ 127), (sR H)⟩
theorem xP (xs : List Int) (hz : ∀ z ∈ xs, isN z) (v : Value) (hv : Sl 1 (one I) H v xs) (hl : xs.length < 1000000000) :
 Fn prog 42 [v] H fun r H' => r = .tuple #[.agg #[.int .u64 (iP xs).1, .int .u64 (iP xs).2], I 0] ∧ St prog H H' [] := by
 refine .aQ func42 rfl (by kernel_rfl) (m := 22) rfl fun l hn g0 => ?_
 simp (disch := omega) only [↓RA, RZ, simprocAttr]
 refine (sR H).eNew 2 [(.int .u64 0), (.int .u64 0)] rfl rfl rfl kW fun A1 H1 hS1 => ?_
 simp only [RT] at hS1
 simp (disch := omega) only [↓RA, RZ, simprocAttr]
 refine hS1.eNew 2 [(.int .u64 0), (.int .u64 0)] rfl rfl rfl kW fun A2 H2 hS2 => ?_
 simp only [RT] at hS2
 simp (disch := omega) only [↓RA, RZ, simprocAttr, hn, g0, (hS2.sl hv).len]
 refine Wp.ak (fun n l H' => l.length = 22 ∧ get l 2 = (ptr A1 0 2) ∧ get l 4 = (ptr A2 0 2) ∧ get l 7 = v ∧ get l 8 = I xs.length ∧ ∃ (j : Nat), (n + j = xs.length) ∧ get l 9 = I j ∧ St prog H H' [⟨ptr A1 0 2, 0, [(.int .u64 0), (.int .u64 0)]⟩, ⟨ptr A2 0 2, 0, [.int .u64 (iP (xs.take j)).1, .int .u64 (iP (xs.take j)).2]⟩]) xs.length ?_ ?_
 ·simp (disch := omega) only [RB, RC, simprocAttr, hn]
  exact ⟨0, by omega, rfl, hS2⟩
 rintro n l H3 ⟨hn, g2, g4, g7, g8, j, hj, g9, hS3⟩
 simp (disch := omega) only [↓RA, RB, simprocAttr, hn, g8, g9]
 refine iA (fun q1 => ?_) (fun q1 => ?_)
 ·have hx := hz _ (iD (xs := xs) (j := j) (by omega))
  have hok : Nt.Ok (iP (xs.take j)) := sM _ _ (fun z h => hz z (fX h)) ⟨by decide, by decide⟩
  simp (disch := omega) only [↓RA, RZ, simprocAttr, hn, g7, g9, (hS3.sl hv).idx, (hS3.sl hv).ld, one, q1]
  refine hS3.cF (b3h (iB xs j) hx) fun H4 hS4 => ?_
  simp (disch := omega) only [↓RA, RZ, simprocAttr, hn, g4, hS4.ag 1 rfl, q1]
  refine hS4.cF (a6l (iP (xs.take j)) hok (iB xs j) hx.1 hx.2) fun H5 hS5 => ?_
  simp (disch := omega) only [↓RA, RZ, simprocAttr, hn, g4, q1]
  refine hS5.ab 1 rfl [(.int .u64 (qT (iP (xs.take j)) (iB xs j)).1), (.int .u64 (qT (iP (xs.take j)) (iB xs j)).2)] rfl rfl kW (by simp) fun H6 hS6 => ?_
  simp only [RT] at hS6
  simp (disch := omega) only [↓RA, RZ, simprocAttr, hn, g2, g4, g7, g8, g9, q1]
  refine ⟨n - 1, by omega, j + 1, by omega, by simp, ?_⟩
  rw [a6G xs (by omega)]
  exact hS6.pick [0, 1] (by decide) rfl
 have hjj : j = xs.length := by omega
 simp (disch := omega) only [↓RA, RZ, simprocAttr, hn, g2, g4, hS3.ag 1 rfl, q1]
 refine hS3.ab 0 rfl [(.int .u64 (iP (xs.take j)).1), (.int .u64 (iP (xs.take j)).2)] rfl rfl kW (by simp) fun H7 hS7 => ?_
 simp only [RT] at hS7
 simp (disch := omega) only [↓RA, RZ, simprocAttr, hn, g2, c7y, hS7.ag 0 rfl, q1]
 rw [hjj, dW]
 exact ⟨rfl, hS7.forget⟩
def unF (x y : Nt) : Nt := (x.1 ||| y.1, x.2 ||| y.2)
theorem c3w {x y : Nt} (hx : Nt.Ok x) (hy : Nt.Ok y) : Nt.Ok (unF x y) := ⟨a7k hx.1 hy.1, a7k hx.2 hy.2⟩
end Go.Ds
namespace Go.Ds
open Go.Proofs
variable {H : Heap}
set_option maxRecDepth 10000
set_option maxHeartbeats 1000000
theorem St.perm {P : Program} {H0 : Base} {os os' : List Ob} (h : St P H0 H os) (hp : os.Perm os') : St P H0 H os' where
 len := h.len
 old := h.old
 own o ho := h.own o (hp.mem_iff.2 ho)
 new o ho := h.new o (hp.mem_iff.2 ho)
 sep := (List.Perm.pairwise_iff (fun {_ _} hxy B hB hB2 => hxy B hB2 hB) hp).1 h.sep
theorem Lp.swap {P : Program} {B : Base} {L : Nat} {r : Loop} {xs ys zs : List Ob} (h : Lp P B L r H ((xs ++ ys) ++ zs)) : Lp P B L r H ((xs ++ zs) ++ ys) := by
 have hp : ((xs ++ ys) ++ zs).Perm ((xs ++ zs) ++ ys) := by
  rw [ee, ee]
  exact (List.perm_append_comm).append_left xs
 exact ⟨h.st.perm hp, h.get, h.lo, fun o ho => h.ne o (hp.mem_iff.2 ho)⟩
end Go.Ds
namespace Go.Ds
open Go.Proofs Go.Proofs.Tryz
variable {H : Heap}
set_option maxRecDepth 10000
set_option maxHeartbeats 1000000
def ctz (x : Nat) : Nat := ((List.range 64).find? fun i => x.testBit i).getD 64
theorem a2e {x : Nat} (h0 : x ≠ 0) (h1 : x < 18446744073709551616) : ctz x < 64 ∧ x.testBit (ctz x) = true ∧ ∀ j, j < ctz x → x.testBit j = false := by
 have hx : ∃ i, i < 64 ∧ x.testBit i = true := by
  refine fT fun hn => h0 ?_
  refine fY fun i => ?_
  rw [ik]
  by_cases hi : i < 64
  ·by_cases hb : x.testBit i = true
   ·exact absurd ⟨i, hi, hb⟩ hn
   ·simpa using hb
  ·exact Nat.testBit_lt_two_pow (dL (show x < 2 ^ 64 by simpa using h1) (fw (by decide) (by omega)))
 unfold ctz
 cases hf : (List.range 64).find? fun i => x.testBit i with
 | none =>
   obtain ⟨i, hi, hb⟩ := hx
   have := gk.1 hf i (dx.2 hi)
   exact absurd hb (by simpa using this)
 | some i =>
   obtain ⟨hb, ys, bs, he, hn⟩ := List.find?_eq_some_iff_append.1 hf
   have hi : i < 64 := dx.1 (he ▸ (by simp : i ∈ ys ++ i :: bs))
   refine ⟨hi, hb, fun j hj0 => ?_⟩
   have hj : j < i := hj0
   have hl : ys.length = i := by
    have h2 : (List.range 64)[ys.length]? = some i := by rw [he]; simp
    have h3 : ys.length < 64 := by
     have := congrArg List.length he
     simp at this
     omega
    rw [gK h3] at h2
    exact cW h2
   have hm : j ∈ ys := by
    have h2 : (List.range 64)[j]? = some j := gK (by omega)
    rw [he, eJ (by simpa using (hl ▸ hj))] at h2
    exact dO h2
   simpa using hn j hm
theorem a3O {x : Nat} (h0 : x ≠ 0) (h1 : x < 18446744073709551616) : ∃ m, x = 2 ^ ctz x * (2 * m + 1) := by
 obtain ⟨c1, c2, c3⟩ := a2e h0 h1
 generalize ctz x = k at c1 c2 c3
 have hd : x % 2 ^ k = 0 := by
  refine fY fun i => ?_
  rw [Nat.testBit_mod_two_pow, ik]
  by_cases hi : i < k
  ·rw [c3 i hi, Bool.and_false]
  ·rw [decide_eq_false hi, fB]
 have h2 : x / 2 ^ k % 2 = 1 := by
  rw [← eM]
  have := c2
  rw [tb] at this
  exact of_decide_eq_true this
 refine ⟨x / 2 ^ k / 2, ?_⟩
 have h3 := Nat.div_add_mod x (2 ^ k)
 have h4 := Nat.div_add_mod (x / 2 ^ k) 2
 rw [hd, gU] at h3
 rw [← h3]
 congr 1
 rw [h3]
 omega
theorem b8N {x : Nat} (h0 : x ≠ 0) (h1 : x < 18446744073709551616) : x &&& (18446744073709551616 - x) = 2 ^ ctz x := by
 obtain ⟨m, hm⟩ := a3O h0 h1
 obtain ⟨c1, _, _⟩ := a2e h0 h1
 generalize ctz x = k at hm c1
 have e64 : (18446744073709551616 : Nat) = 2 ^ k * (2 * 2 ^ (63 - k)) := by
  have : 2 ^ k * (2 * 2 ^ (63 - k)) = 2 ^ 64 := by rw [← Nat.pow_succ', ← Nat.pow_add]; congr 1; omega
  rw [this]
 have hml : m < 2 ^ (63 - k) := by
  rw [e64, hm] at h1
  have := Nat.lt_of_mul_lt_mul_left h1
  omega
 have e2 : 18446744073709551616 - x = 2 ^ k * (2 * (2 ^ (63 - k) - (m + 1)) + 1) := by
  rw [e64, hm, ← Nat.mul_sub]
  congr 1
  omega
 rw [e2, hm]
 refine fY fun i => ?_
 rw [Nat.testBit_and, gg]
 have hs : ∀ y : Nat, (2 ^ k * y).testBit i = (decide (k ≤ i) && y.testBit (i - k)) := fun y => by rw [Nat.mul_comm, Nat.testBit_mul_two_pow]
 rw [hs, hs]
 by_cases hi : k ≤ i
 ·rw [decide_eq_true hi, gM, gM]
  by_cases he : i = k
  ·subst he
   rw [gZ, Nat.testBit_zero, Nat.testBit_zero]
   simp
  ·obtain ⟨j, hj⟩ : ∃ j, i - k = j + 1 := ⟨i - k - 1, by omega⟩
   rw [hj, Nat.testBit_succ, Nat.testBit_succ, show (2 * m + 1) / 2 = m by omega, show (2 * (2 ^ (63 - k) - (m + 1)) + 1) / 2 = 2 ^ (63 - k) - (m + 1) by omega, Nat.testBit_two_pow_sub_succ hml, decide_eq_false (by omega : ¬ k = i)]
   cases m.testBit j <;> simp
 ·rw [decide_eq_false hi, fB, decide_eq_false (by omega)]
  rfl
theorem c3S : ((List.range 64).all fun k => decide (2 ^ k * 285870213051353865 % 18446744073709551616 / 288230376151711744 < 64) && decide (t64.getD (2 ^ k * 285870213051353865 % 18446744073709551616 / 288230376151711744) 99 = k)) = true := by kernel_rfl
theorem b7I {P : Program} {t : TypeId} {n : Nat} {elem : TypeId} {size : Nat} (ha : P.underlying t = some (.array n elem)) (hs : iE P elem = some size) (A i : Nat) (k : IntKind) (j : Int) (h0 : 0 ≤ j) (h1 : j < n) :
 xG (iU P t) P t (.pointer (some ⟨A, i, none⟩)) (.int k j) = some (.pointer (some ⟨A, i + j.toNat * size, none⟩)) := by
 have hn : iU P t = none := by simp [iU, iJ, ha]
 rw [hn]
 simp only [xG, a2k, ha, hs, cX]
 rw [if_pos (by simp [h0, h1])]
theorem c3A (k : IntKind) (j : Int) (h0 : 0 ≤ j) (h1 : j < 64) : xG (iU prog 251) prog 251 (.pointer (some ⟨0, 0, none⟩)) (.int k j) = some (.pointer (some ⟨0, 0 + j.toNat * 1, none⟩)) :=
 b7I (n := 64) (elem := 5) (size := 1) (by kernel_rfl) (by kernel_rfl) 0 0 k j h0 h1
theorem b3F (g : Nat) (l : List Value) (K : Value → Prop) : jN (.global g) l K = K (.pointer (some ⟨g, 0, none⟩)) := by simp [jN, iQ, ev]
theorem gld (hG : Glob gH H) (j : Nat) (hj : j < 64) (s : Option Nat) : pX (some false) s H (.pointer (some ⟨0, j, none⟩)) = some (.int .u8 (t64.getD j 0 : Nat)) := by
 have h0 : iS H 0 = some (.cells (t64.map fun (n : Nat) => Value.int .u8 (.ofNat n)) 5 false 0 1) := by
  rw [hG.same 0 (by decide)]
  rfl
 simp only [pX, jE, h0]
 have hl : (t64.map fun (n : Nat) => Value.int .u8 (.ofNat n)).length = 64 := by rw [eu]; rfl
 rw [if_pos (by rw [hl]; simp; omega)]
 simp only [cX]
 rw [dS (by omega), dG, gU, eN, dq (show j < t64.length from hj)]
 rw [dM, db, dq (show j < t64.length from hj)]
 rfl
theorem b0u (m : Int) : IntKind.wrap .u64 m = m % 18446744073709551616 := by
 show (if (false && decide (m % 18446744073709551616 ≥ 9223372036854775808)) = true then m % 18446744073709551616 - 18446744073709551616 else m % 18446744073709551616) = _
 simp
theorem c4V (hG : Glob gH H) (x : Nat) (h0 : x ≠ 0) (h1 : x < 18446744073709551616) : Fn prog 136 [.int .u64 x] H fun r H' => r = I (ctz x) ∧ St prog H H' [] := by
 obtain ⟨c1, _, _⟩ := a2e h0 h1
 have hd := dr.1 c3S (ctz x) (dx.2 c1)
 rw [cY, decide_eq_true_eq, decide_eq_true_eq] at hd
 have eA : IntKind.wrap .u64 (0 - (x : Int)) = ((18446744073709551616 - x : Nat) : Int) := by
  rw [b0u]
  omega
 have eB : IntKind.wrap .u64 ((BitVec.ofInt (IntKind.bits .u64) (x : Int) &&& BitVec.ofInt (IntKind.bits .u64) ((18446744073709551616 - x : Nat) : Int)).toNat : Int) = ((2 ^ ctz x : Nat) : Int) := by
  rw [gI, uP x h1, uP _ (by omega), b8N h0 h1]
  exact mS _ (by omega) (by have := a6i (ctz x) c1; omega)
 have eC : IntKind.wrap .u64 (((2 ^ ctz x : Nat) : Int) * 285870213051353865) = ((2 ^ ctz x * 285870213051353865 % 18446744073709551616 : Nat) : Int) := by
  rw [b0u]
  rfl
 have eD : ((2 ^ ctz x * 285870213051353865 % 18446744073709551616 : Nat) : Int).fdiv (2 ^ min 58 (IntKind.bits .u64)) = ((2 ^ ctz x * 285870213051353865 % 18446744073709551616 / 288230376151711744 : Nat) : Int) := by
  rw [show (2 : Int) ^ min 58 (IntKind.bits .u64) = ((288230376151711744 : Nat) : Int) from rfl]
  exact gA _ (by omega)
 have hd1 := hd.1
 have hd2 := hd.2
 generalize 2 ^ ctz x * 285870213051353865 % 18446744073709551616 / 288230376151711744 = i at eD hd1 hd2
 refine .aQ func136 rfl (by kernel_rfl) (m := 14) rfl fun l hn g0 => ?_
 have iS := gld hG i hd1 (some 1)
 rw [show t64.getD i 0 = ctz x from by rw [← hd2, db, db, dq (show i < t64.length from hd1)]; rfl] at iS
 have hidx := c3A .u64 (i : Int) (by omega) (by omega)
 rw [eh, Nat.mul_one, fW] at hidx
 simp (disch := omega) only [↓RA, RB, simprocAttr, hn, g0]
 refine iA (fun q => ?_) (fun q => ?_)
 ·exfalso; omega
 simp (disch := omega) only [↓RA, RZ, simprocAttr, hn, g0, c5g, eA, eB, eC, eD, b3F, iS, hidx, q]
 first | exact (sR H) | exact ⟨rfl, (sR H)⟩
theorem a5L {x : Nat} (h0 : x ≠ 0) (h1 : x < 18446744073709551616) (j : Nat) : (x &&& (x - 1)).testBit j = (x.testBit j && !decide (j = ctz x)) := by
 obtain ⟨m, hm⟩ := a3O h0 h1
 generalize ctz x = k at hm
 have hp : 0 < 2 ^ k := Nat.two_pow_pos k
 have e1 : x = 2 ^ (k + 1) * m + 2 ^ k := by rw [hm, Nat.pow_succ, Nat.mul_add, Nat.mul_one, Nat.mul_assoc]
 have e2 : x - 1 = 2 ^ (k + 1) * m + (2 ^ k - 1) := by omega
 have hl : 2 ^ k < 2 ^ (k + 1) := Nat.pow_lt_pow_right (by decide) (by omega)
 rw [Nat.testBit_and, e2]
 rw [e1, Nat.testBit_two_pow_mul_add m hl, Nat.testBit_two_pow_mul_add m (by omega : 2 ^ k - 1 < 2 ^ (k + 1))]
 by_cases hj : j < k + 1
 ·rw [if_pos hj, if_pos hj, gg, Nat.testBit_two_pow_sub_one]
  by_cases he : j = k
  ·simp [he]
  ·simp [show ¬ k = j by omega]
 ·rw [if_neg hj, if_neg hj, show decide (j = k) = false from decide_eq_false (by omega)]
  simp
theorem b3C {x : Nat} (h0 : x ≠ 0) (h1 : x < 18446744073709551616) : oW x = ctz x :: oW (x &&& (x - 1)) := by
 obtain ⟨c1, c2, c3⟩ := a2e h0 h1
 have hb := a5L h0 h1
 generalize ctz x = k at c1 c2 c3 hb
 obtain ⟨t, ht⟩ := a6N c1
 have hnd : (List.range 64).Nodup := List.nodup_range
 unfold oW
 rw [ht, eI, eI, List.filter_cons_of_pos (by simpa using c2), List.filter_cons_of_neg (by rw [hb]; simp)]
 rw [ht] at hnd
 have e1 : (List.range k).filter (fun i => x.testBit i) = [] := List.filter_eq_nil_iff.2 fun i hi => by simpa using c3 i (dx.1 hi)
 have e2 : (List.range k).filter (fun i => (x &&& (x - 1)).testBit i) = [] := List.filter_eq_nil_iff.2 fun i hi => by rw [hb, c3 i (dx.1 hi)]; simp
 rw [e1, e2, fq, fq]
 congr 1
 refine List.filter_congr fun i hi => ?_
 have hne : i ≠ k := fun e => by
  subst e
  exact (List.nodup_cons.1 (List.nodup_append.1 hnd).2.1).1 hi
 rw [hb, decide_eq_false hne]
 simp
theorem b0l : oW 0 = [] := List.filter_eq_nil_iff.2 fun i _ => by simp
def pP (x : Nt) : List Int := (oW x.1).map (fun (i : Nat) => (i : Int)) ++ (oW x.2).map fun (i : Nat) => 64 + (i : Int)
def a7T (x : Nt) (i : Nat) : Nat := if i = 0 then x.1 else x.2
def a6h (x : Nt) (i : Nat) : List Int := (oW (a7T x i)).map fun (j : Nat) => 64 * (i : Int) + (j : Int)
def a5I (x : Nt) (i : Nat) : List Int := (List.range i).flatMap (a6h x)
theorem a0i (x : Nt) (i : Nat) : a5I x (i + 1) = a5I x i ++ a6h x i := by
 unfold a5I
 rw [ec, dI, dz, eF, dj]
theorem a7I (x : Nt) : a5I x 2 = pP x := by
 rw [a0i, a0i]
 unfold pP a5I a6h a7T
 simp
theorem b8I {x : Nt} (hx : Nt.Ok x) (i : Nat) : a7T x i < 18446744073709551616 := by
 unfold a7T
 split
 ·exact hx.1
 ·exact hx.2
theorem c5p (a b : Int) : pL prog 219 (.agg #[.int .u64 a, .int .u64 b]) (I 0) = some (.int .u64 a) := by kernel_rfl
theorem c5A (a b : Int) : pL prog 219 (.agg #[.int .u64 a, .int .u64 b]) (I 1) = some (.int .u64 b) := by kernel_rfl
theorem c6O (x : Nt) (i : Nat) (h : i < 2) : a2t (oD prog 219) prog 219 (.agg #[.int .u64 x.1, .int .u64 x.2]) (I i) = some (.int .u64 (a7T x i)) := by
 rw [← a8D]
 rcases (by omega : i = 0 ∨ i = 1) with rfl | rfl
 ·exact c5p _ _
 ·exact c5A _ _
theorem c3x (x : Nt) (hx : Nt.Ok x) (A : Nat) (f : Value) (J : List Int → Heap → Prop) (h0 : J [] H) (hg : ∀ d H1, J d H1 → Var H1 A 2 [.int .u64 x.1, .int .u64 x.2] ∧ Glob gH H1)
 (hst : ∀ d H1 H2, J d H1 → St prog H1 H2 [] → J d H2)
 (hf : ∀ d c e H1, pP x = d ++ c :: e → J d H1 → tW prog f [I c] H1 fun v H2 => v = .bool true ∧ J (d ++ [c]) H2) :
 FnS prog 135 [f, ptr A 0 2] H fun _ H' => J (pP x) H' := by
 have hV0 := (hg _ _ h0).1
 refine FnS.aY func135 rfl (by kernel_rfl) fun l hl => ?_
 have hn : l.length = 29 := by rw [hl]; rfl
 have g0 : get l 0 = f := by rw [hl]; rfl
 have g1 : get l 1 = (ptr A 0 2) := by rw [hl]; rfl
 clear hl
 simp (disch := omega) only [↓RA, RZ, simprocAttr, hn, g1, hV0.ld, b4p]
 refine Wp.ak (fun n l H' => l.length = 29 ∧ get l 0 = f ∧ get l 1 = ptr A 0 2 ∧ get l 9 = .agg #[.int .u64 x.1, .int .u64 x.2] ∧ ∃ i : Nat, n + i = 2 ∧ get l 10 = I i ∧ J (a5I x i) H') 2 ?_ ?_
 ·simp (disch := omega) only [RB, RC, simprocAttr, hn, g0, g1]
  exact ⟨0, rfl, rfl, h0⟩
 rintro n l H9 ⟨hn, g0, g1, g9, i, hi, rN, hJ⟩
 simp (disch := omega) only [↓RA, RB, simprocAttr, hn, rN]
 refine iA (fun q1 => ?_) (fun q1 => ?_)
 ·have hix := c6O x i (by omega)
  have hwl := b8I hx i
  simp (disch := omega) only [↓RA, RZ, simprocAttr, hn, g9, rN, q1, hix]
  refine Wp.ak (fun n2 l H' => l.length = 29 ∧ get l 0 = f ∧ get l 1 = ptr A 0 2 ∧ get l 9 = .agg #[.int .u64 x.1, .int .u64 x.2] ∧ get l 10 = I i ∧ get l 3 = I i ∧ ∃ (y : Nat) (d : List Nat), (n2 = (oW y).length ∧ y < 18446744073709551616 ∧ oW (a7T x i) = d ++ oW y) ∧ get l 4 = .int .u64 y ∧ J (a5I x i ++ d.map fun (j : Nat) => 64 * (i : Int) + (j : Int)) H') (oW (a7T x i)).length ?_ ?_
  ·simp (disch := omega) only [RB, RC, simprocAttr, hn, g0, g1, g9, rN]
   exact ⟨a7T x i, [], ⟨rfl, hwl, rfl⟩, rfl, by rw [gj, dj]; exact hJ⟩
  rintro n2 l H8 ⟨hn, g0, g1, g9, rN, g3, y, d, ⟨hn2, hy, hbd⟩, g4, hJ2⟩
  simp (disch := omega) only [↓RA, RB, simprocAttr, hn, g4]
  refine iA (fun q2 => ?_) (fun q2 => ?_)
  ·have hy0 : y ≠ 0 := by omega
   have hc := a2e hy0 hy
   have hlow := b3C hy0 hy
   have hGl := (hg _ _ hJ2).2
   have eY1 : IntKind.wrap .u64 ((y : Int) - 1) = ((y - 1 : Nat) : Int) := by
    rw [b0u]
    omega
   have eY2 : IntKind.wrap .u64 ((BitVec.ofInt (IntKind.bits .u64) (y : Int) &&& BitVec.ofInt (IntKind.bits .u64) ((y - 1 : Nat) : Int)).toNat : Int) = ((y &&& (y - 1) : Nat) : Int) := by
    rw [gI, uP y hy, uP _ (by omega)]
    have := Nat.and_le_left (n := y) (m := y - 1)
    exact mS _ (by omega) (by omega)
   have hyl : y &&& (y - 1) < 18446744073709551616 := Nat.lt_of_le_of_lt Nat.and_le_left hy
   have hmem : pP x = (a5I x i ++ d.map fun (j : Nat) => 64 * (i : Int) + (j : Int)) ++ (64 * (i : Int) + (ctz y : Int)) :: ((oW (y &&& (y - 1))).map (fun (j : Nat) => 64 * (i : Int) + (j : Int)) ++ ((List.range 2).drop (i + 1)).flatMap (a6h x)) := by
    rw [← a7I]
    unfold a5I
    have e : List.range 2 = List.range i ++ i :: (List.range 2).drop (i + 1) := by
     rcases (by omega : i = 0 ∨ i = 1) with rfl | rfl <;> rfl
    rw [congrArg (List.flatMap (a6h x)) e, dI, dz]
    rw [show a6h x i = (d ++ oW y).map (fun (j : Nat) => 64 * (i : Int) + (j : Int)) from by unfold a6h; rw [hbd]]
    rw [hlow, dT, eG]
    simp only [ee, ig]
   have hc1 := hc.1
   simp (disch := omega) only [↓RA, RZ, simprocAttr, hn, g0, g3, g4, q2]
   refine (sR H8).cF (c4V ((sR H8).gl hGl) y hy0 hy) fun H1 hS1 => ?_
   simp (disch := omega) only [↓RA, RZ, simprocAttr, hn, q2]
   refine b0e (hf _ _ _ _ hmem (hst _ _ _ hJ2 hS1)) ?_
   rintro r H10 ⟨rfl, hJ3⟩
   simp (disch := omega) only [↓RA, RZ, simprocAttr, hn, g0, g1, g9, rN, g3, g4, q2, eY1, eY2]
   refine ⟨(oW (y &&& (y - 1))).length, by rw [hn2, hlow]; simp, y &&& (y - 1), d ++ [ctz y], ⟨rfl, hyl, by rw [hbd, hlow]; simp⟩, rfl, ?_⟩
   rw [dT, eG, gj, ← ee]
   exact hJ3
  simp (disch := omega) only [↓RA, RZ, simprocAttr, hn, g0, g1, g9, rN, q2]
  have hy0 : y = 0 := by omega
  subst hy0
  refine ⟨n - 1, by omega, i + 1, by omega, by simp, ?_⟩
  rw [a0i]
  have : a6h x i = d.map fun (j : Nat) => 64 * (i : Int) + (j : Int) := by
   unfold a6h
   rw [hbd, b0l, dj]
  rw [this]
  exact hJ2
 simp (disch := omega) only [↓RA, RZ, simprocAttr, c5u, q1]
 have e : i = 2 := by omega
 subst e
 rw [← a7I]
 exact hJ
theorem a2L (x : Nt) : (pP x).length ≤ 128 := by
 unfold pP
 rw [dm, eu, eu]
 have h1 := a8H x.1 64
 have h2 := a8H x.2 64
 unfold b7l at h1 h2
 unfold oW
 omega
theorem b4d (hG : Glob gH H) (x : Nt) (hx : Nt.Ok x) (A : Nat) (hA : Var H A 2 [.int .u64 x.1, .int .u64 x.2]) :
 Fn prog 134 [.slice none 0 0, .func (.func 135) #[] #[ptr A 0 2]] H fun r H' => St prog H H' [⟨r, 1, (pP x).flatMap (one I)⟩] := by
 refine .aE func134 rfl (by kernel_rfl) (m := 13) rfl fun l hn g0 g1 => ?_
 simp (disch := omega) only [↓RA, RB, simprocAttr, g0]
 refine (sR H).eNew 1 [(.slice none 0 0)] rfl rfl rfl b8F fun A1 H1 hS1 => ?_
 simp only [RT] at hS1
 simp (disch := omega) only [↓RA, RB, simprocAttr, g1]
 have hS2 := hS1.nil 0
 simp only [RT] at hS2
 refine Wp.cI fun lrg1 hlrg1 => ?_
 have hnrg1 : lrg1.length = 13 := by rw [hlrg1]; simp (disch := omega) only [RB, simprocAttr, hn]
 have g2rg1 : get lrg1 2 = (ptr A1 0 1) := by rw [hlrg1]; simp (disch := omega) only [RB, simprocAttr, hn]
 have g4rg1 : get lrg1 4 = (.slice none 0 0) := by rw [hlrg1]; simp (disch := omega) only [RB, simprocAttr, hn]
 have gfrg1 : get lrg1 6 = .func (.func 135) #[] [(ptr A 0 2)].toArray := by rw [hlrg1]; simp (disch := omega) only [RB, simprocAttr, hn]
 clear hlrg1
 refine Wp.ch gfrg1 fun rg1 hstrg1 hpdrg1 htmrg1 hpsrg1 hasrg1 hbdrg1 => ?_
 have hreqrg1 : ({ rg1 with state := .ready, pending := none } : Loop) = rg1 := by
  cases rg1
  simp only at hstrg1 hpdrg1
  subst hstrg1 hpdrg1
  rfl
 have hLprg1 := Lp.enter hS2 rg1
 generalize H1.cons (.loop rg1) = Hcrg1 at hLprg1 ⊢
 generalize H1.length = Lrg1 at hLprg1 ⊢
 refine (c3x x hx A (.func (.yield Lrg1) #[] #[]) (fun d H1 => ∃ ow, Lp prog H Lrg1 rg1 H1 [⟨ptr A1 0 1, 0, [ow]⟩, ⟨ow, 1, d.flatMap (one I)⟩]) ⟨.slice none 0 0, hLprg1⟩ ?_ ?_ ?_).mono ?_
 ·rintro d H1 ⟨ow, h⟩
  exact ⟨hA.ae h.st.ae, h.st.gl hG⟩
 ·rintro d H1 H2 ⟨ow, h⟩ hS
  exact ⟨ow, by simpa using h.ext hS⟩
 ·rintro d c e H20 hm ⟨ow, hLpj⟩
  have hml := a2L x
  have hdl : d.length < 128 := by
   rw [hm, dm, dN] at hml
   omega
  refine a1s hLpj.get (by rw [hpsrg1]; rfl) hstrg1 ?_
  refine Wp.bO (l := put lrg1 (some 7) (I c)) hasrg1 (by rw [hpsrg1, htmrg1]; first | exact (nF ..).symm | rfl | simp [put, nF]) ?_
  simp (disch := omega) only [↓RA, RZ, simprocAttr, hnrg1]
  refine ⟨rg1, hLpj.get, hstrg1, ?_⟩
  have hYBs1 := hLpj.set (fun h => h) { rg1 with state := .busy }
  have hKBs1 : ∀ B, B ≠ Lrg1 → iS (hset H20 Lrg1 (.loop { rg1 with state := .busy })) B = iS H20 B := fun B h => jB _ (fb h)
  have hNBs1 : (hset H20 Lrg1 (.loop { rg1 with state := .busy })).length = H20.length := jQ ..
  generalize hset H20 Lrg1 (.loop { rg1 with state := .busy }) = HBs1 at hYBs1 hKBs1 hNBs1 ⊢
  refine Wp.bO hbdrg1 rfl ?_
  have hZBs1 := hYBs1.st
  obtain ⟨Bs1, hBBs1, hS3⟩ := hZBs1.az (os := [⟨ptr A1 0 1, 0, _⟩, ⟨ow, 1, _⟩])
  simp (disch := omega) only [↓RA, RZ, simprocAttr, hnrg1, g2rg1, hS3.ld 0 rfl]
  refine hS3.ai [I c] a3c a7i rfl rfl (by simp [Value.cells]) rfl rfl (by decide) (by decide) fun w1 H2 hS4 => ?_
  simp only [RT] at hS4
  simp (disch := omega) only [↓RA, RZ, simprocAttr, hnrg1]
  refine hS4.al 1 rfl (hS4.rd 2 rfl) a3c (by rw [zB, eu]; simp; omega) fun w2 H3 hS5 => ?_
  simp only [RT] at hS5
  simp (disch := omega) only [↓RA, RB, simprocAttr, hnrg1, g2rg1]
  refine hS5.ab 0 rfl [w2] (by rw [(hS5.rd 1 rfl).cells.1]) (by simp [(hS5.rd 1 rfl).cells.2.1]) b8F (by simp) fun H4 hS6 => ?_
  simp only [RT] at hS6
  simp (disch := omega) only [↓RA, simprocAttr]
  have hS7 := hS6.pick (os' := [⟨ptr A1 0 1, 0, _⟩, ⟨w2, 1, _⟩]) [0, 1] (by decide) rfl
  have hWBs1 := (hYBs1.body (hBBs1 ▸ hS7)).set (fun h => h) rg1
  rw [← hreqrg1] at hWBs1
  refine ⟨_, (hYBs1.body (hBBs1 ▸ hS7)).get, rfl, w2, ?_⟩
  rw [dI]
  exact hreqrg1 ▸ hWBs1
 ·rintro _ H21 ⟨ow, hLp2⟩
  refine ⟨_, hLp2.get, (by rw [hstrg1]; exact fun h => by cases h), fun _ => ?_, fun c hc => by rw [hpdrg1] at hc; cases hc⟩
  have hAAf1 := (hLp2.set (fun h => h) { rg1 with state := .exhausted }).st
  have hKAf1 : ∀ B, B ≠ Lrg1 → iS (hset H21 Lrg1 (.loop { rg1 with state := .exhausted })) B = iS H21 B := fun B h => jB _ (fb h)
  generalize hset H21 Lrg1 (.loop { rg1 with state := .exhausted }) = HAf1 at hAAf1 hKAf1 ⊢
  simp (disch := omega) only [↓RA, RZ, simprocAttr, hnrg1, g2rg1, hAAf1.ld 0 rfl, c5q]
  exact hAAf1.pick [1] (by decide) rfl
theorem b0w (hG : Glob gH H) (x : Nt) (hx : Nt.Ok x) (A : Nat) (hA : Var H A 2 [.int .u64 x.1, .int .u64 x.2]) :
 Fn prog 101 [.func (.func 135) #[] #[ptr A 0 2]] H fun r H' => St prog H H' [⟨r, 1, (pP x).flatMap (one I)⟩] := by
 refine .aQ func101 rfl (by kernel_rfl) (m := 5) rfl fun l hn g0 => ?_
 simp (disch := omega) only [↓RA, RZ, simprocAttr, hn, g0]
 refine iG ((b4d ((sR H).gl hG) x hx A (hA.ae (sR H).ae)).tr) ?_
 rintro r H1 ⟨-, hT1⟩
 have hS1 := (sR H).trans hT1
 simp only [RT] at hS1
 simp (disch := omega) only [↓RA, RB, simprocAttr, hn, c3Q]
 exact hS1
theorem b9B (x : Nt) : Fn prog 102 [.agg #[.int .u64 x.1, .int .u64 x.2]] H fun r H' => ∃ A, r = .func (.func 135) #[] #[ptr A 0 2] ∧ St prog H H' [⟨ptr A 0 2, 0, [.int .u64 x.1, .int .u64 x.2]⟩] := by
 refine .aQ func102 rfl (by kernel_rfl) (m := 4) rfl fun l hn g0 => ?_
 simp (disch := omega) only [↓RA, RB, simprocAttr, g0]
 refine (sR H).eNew 2 [(.int .u64 x.1), (.int .u64 x.2)] rfl rfl rfl kW fun A1 H1 hS1 => ?_
 simp only [RT] at hS1
 simp (disch := omega) only [↓RA, RZ, simprocAttr, hn, c4u]
 exact ⟨A1, rfl, hS1⟩
theorem b0p (hG : Glob gH H) (x : Nt) (hx : Nt.Ok x) :
 Fn prog 57 [.agg #[.int .u64 x.1, .int .u64 x.2]] H fun r H' => St prog H H' [⟨r, 1, (pP x).flatMap (one I)⟩] := by
 refine .aQ func57 rfl (by kernel_rfl) (m := 6) rfl fun l hn g0 => ?_
 simp (disch := omega) only [↓RA, RB, simprocAttr, g0]
 refine (sR H).eNew 2 [(.int .u64 x.1), (.int .u64 x.2)] rfl rfl rfl kW fun A1 H1 hS1 => ?_
 simp only [RT] at hS1
 simp (disch := omega) only [↓RA, RZ, simprocAttr, hn, hS1.ag 0 rfl]
 refine iG (b9B x) ?_
 rintro r H2 ⟨A2, rfl, hT1⟩
 have hS2 := hS1.trans hT1
 simp only [RT] at hS2
 simp (disch := omega) only [↓RA, RZ, simprocAttr, hn]
 refine iG ((b0w (hS2.gl hG) x hx A2 (hS2.var 1 rfl)).tr) ?_
 rintro r H3 ⟨-, hT2⟩
 have hS3 := hS2.trans hT2
 simp only [RT] at hS3
 simp (disch := omega) only [↓RA, RB, simprocAttr, hn, c6D]
 exact hS3.pick [2] (by decide) rfl
def a7D (a b : Nat) : Nat := (BitVec.ofNat 64 a &&& ~~~ BitVec.ofNat 64 b).toNat
theorem a5U (a b : Nat) : a7D a b < 18446744073709551616 := (BitVec.ofNat 64 a &&& ~~~ BitVec.ofNat 64 b).isLt
theorem c0R (a b : Nat) : IntKind.wrap .u64 ((BitVec.ofInt (IntKind.bits .u64) (a : Int) &&& ~~~ BitVec.ofInt (IntKind.bits .u64) (b : Int)).toNat : Int) = ((a7D a b : Nat) : Int) := by
 have e : (BitVec.ofInt (IntKind.bits .u64) (a : Int) &&& ~~~ BitVec.ofInt (IntKind.bits .u64) (b : Int)).toNat = a7D a b := by
  unfold a7D
  rw [fJ, fJ]
  rfl
 rw [e]
 have := a5U a b
 exact mS _ (by omega) (by omega)
theorem a6M (a b j : Nat) (ha : a < 18446744073709551616) (hj : j < 64) : (a7D a b).testBit j = (a.testBit j && !b.testBit j) := by
 unfold a7D
 have h1 : (BitVec.ofNat 64 a &&& ~~~ BitVec.ofNat 64 b).toNat.testBit j = (BitVec.ofNat 64 a &&& ~~~ BitVec.ofNat 64 b).getLsbD j := rfl
 rw [h1, BitVec.getLsbD_and, BitVec.getLsbD_not, BitVec.getLsbD_ofNat, BitVec.getLsbD_ofNat]
 simp [hj]
def woF (x y : Nt) : Nt := (a7D x.1 y.1, a7D x.2 y.2)
theorem c2V (x y : Nt) : Nt.Ok (woF x y) := ⟨a5U _ _, a5U _ _⟩
theorem c1Y (x y : Nt) : Fn prog 98 [.agg #[.int .u64 x.1, .int .u64 x.2], .agg #[.int .u64 y.1, .int .u64 y.2]] H fun r H' => r = .agg #[.int .u64 (woF x y).1, .int .u64 (woF x y).2] ∧ St prog H H' [] := by
 have e1 := c0R x.1 y.1
 have e2 := c0R x.2 y.2
 refine .aE func98 rfl (by kernel_rfl) (m := 16) rfl fun l hn g0 g1 => ?_
 simp (disch := omega) only [↓RA, RB, simprocAttr, g0]
 refine (sR H).eNew 2 [(.int .u64 x.1), (.int .u64 x.2)] rfl rfl rfl kW fun A1 H1 hS1 => ?_
 simp only [RT] at hS1
 simp (disch := omega) only [↓RA, RB, simprocAttr, g1]
 refine hS1.eNew 2 [(.int .u64 y.1), (.int .u64 y.2)] rfl rfl rfl kW fun A2 H2 hS2 => ?_
 simp only [RT] at hS2
 simp (disch := omega) only [↓RA, RZ, simprocAttr]
 refine hS2.eNew 2 [(.int .u64 0), (.int .u64 0)] rfl rfl rfl kW fun A3 H3 hS3 => ?_
 simp only [RT] at hS3
 simp (disch := omega) only [↓RA, RZ, simprocAttr, hn, hS3.ld 0 rfl, hS3.ld 1 rfl, b2A, e1, e2]
 refine hS3.ab 2 rfl [_, _] rfl rfl kW (by simp) fun H4 hS4 => ?_
 simp only [RT] at hS4
 simp (disch := omega) only [↓RA, RZ, simprocAttr, hn, c7x, hS4.ag 2 rfl]
 exact ⟨rfl, hS4.forget⟩
theorem a9R (x y : Nt) : Fn prog 54 [.agg #[.int .u64 x.1, .int .u64 x.2], .agg #[.int .u64 y.1, .int .u64 y.2]] H fun r H' => r = .bool (decide (woF x y = (0, 0))) ∧ St prog H H' [] := by
 refine .aE func54 rfl (by kernel_rfl) (m := 10) rfl fun l hn g0 g1 => ?_
 simp (disch := omega) only [↓RA, RB, simprocAttr, g0]
 refine (sR H).eNew 2 [(.int .u64 x.1), (.int .u64 x.2)] rfl rfl rfl kW fun A1 H1 hS1 => ?_
 simp only [RT] at hS1
 simp (disch := omega) only [↓RA, RB, simprocAttr, g1]
 refine hS1.eNew 2 [(.int .u64 y.1), (.int .u64 y.2)] rfl rfl rfl kW fun A2 H2 hS2 => ?_
 simp only [RT] at hS2
 simp (disch := omega) only [↓RA, RZ, simprocAttr, hn, hS2.ag 0 rfl, hS2.ag 1 rfl]
 refine hS2.cF (c1Y x y) fun H3 hS3 => ?_
 simp (disch := omega) only [↓RA, RZ, simprocAttr, hn, b5g, c7L]
 refine ⟨?_, hS3.forget⟩
 congr 1
 rw [decide_eq_decide]
 constructor
 ·rintro ⟨h1, h2⟩
  exact fI (by simpa using h1) (by simpa using h2)
 ·intro h
  rw [h]
  exact ⟨rfl, rfl⟩
def a0u (lo hi : Int) : Nt := iP ((List.range (hi - lo + 1).toNat).map fun (k : Nat) => lo + (k : Int))
theorem b4n (lo hi : Int) (h0 : 0 ≤ lo) (h1 : lo ≤ hi) (h2 : hi ≤ 127) : Fn prog 53 [.agg #[I lo, I hi]] H fun r H' => r = .tuple #[.agg #[.int .u64 (a0u lo hi).1, .int .u64 (a0u lo hi).2], I 0] ∧ St prog H H' [] := by
 have hce : qV lo hi = 0 := by
  unfold qV
  rw [if_neg (by omega), if_neg (by omega)]
 refine .aQ func53 rfl (by kernel_rfl) (m := 25) rfl fun l hn g0 => ?_
 simp (disch := omega) only [↓RA, RB, simprocAttr, g0]
 refine (sR H).eNew 2 [I lo, I hi] rfl rfl rfl uB fun A1 H1 hS1 => ?_
 simp only [RT] at hS1
 simp (disch := omega) only [↓RA, RZ, simprocAttr]
 refine hS1.eNew 2 [(.int .u64 0), (.int .u64 0)] rfl rfl rfl kW fun A2 H2 hS2 => ?_
 simp only [RT] at hS2
 simp (disch := omega) only [↓RA, RZ, simprocAttr]
 refine hS2.eNew 2 [(.int .u64 0), (.int .u64 0)] rfl rfl rfl kW fun A3 H3 hS3 => ?_
 simp only [RT] at hS3
 simp (disch := omega) only [↓RA, RZ, simprocAttr, hn, hS3.ag 0 rfl]
 refine hS3.cF (a1M lo hi) fun H4 hS4 => ?_
 rw [hce]
 simp (disch := omega) only [↓RA, RZ, simprocAttr, hn, hS4.ld 0 rfl]
 refine Wp.ak (fun n l H' => l.length = 25 ∧ get l 1 = (ptr A1 0 2) ∧ get l 2 = (ptr A2 0 2) ∧ get l 3 = I 0 ∧ get l 4 = (ptr A3 0 2) ∧ ∃ (j : Nat), (n + j = (hi - lo + 1).toNat) ∧ get l 6 = I (lo + (j : Int)) ∧ St prog H H' [⟨ptr A1 0 2, 0, [I lo, I hi]⟩, ⟨ptr A2 0 2, 0, [(.int .u64 0), (.int .u64 0)]⟩, ⟨ptr A3 0 2, 0, [.int .u64 (iP ((List.range j).map fun (k : Nat) => lo + (k : Int))).1, .int .u64 (iP ((List.range j).map fun (k : Nat) => lo + (k : Int))).2]⟩]) (hi - lo + 1).toNat ?_ ?_
 ·simp (disch := omega) only [RB, RC, simprocAttr, hn]
  exact ⟨0, by omega, by simp, hS4⟩
 rintro n l H5 ⟨hn, g1, g2, g3, g4, j, hj, g6, hS5⟩
 simp (disch := omega) only [↓RA, RZ, simprocAttr, hn, g1, g6, hS5.ld 0 rfl]
 refine iA (fun q1 => ?_) (fun q1 => ?_)
 ·have hok : Nt.Ok (iP ((List.range j).map fun (k : Nat) => lo + (k : Int))) := sM _ _ (fun z h => by
   obtain ⟨k, hk, rfl⟩ := dy.1 h
   have := dx.1 hk
   exact ⟨by omega, by omega⟩) ⟨by decide, by decide⟩
  have hsu : iP ((List.range (j + 1)).map fun (k : Nat) => lo + (k : Int)) = qT (iP ((List.range j).map fun (k : Nat) => lo + (k : Int))) (lo + (j : Int)) := by
   unfold iP
   rw [ec, dT, gy]
   rfl
  simp (disch := omega) only [↓RA, RZ, simprocAttr, hn, g4, g6, hS5.ag 2 rfl, q1]
  refine hS5.cF (a6l (iP ((List.range j).map fun (k : Nat) => lo + (k : Int))) hok (lo + (j : Int)) (by omega) (by omega)) fun H6 hS6 => ?_
  simp (disch := omega) only [↓RA, RZ, simprocAttr, hn, g4, q1]
  refine hS6.ab 2 rfl [(.int .u64 (qT (iP ((List.range j).map fun (k : Nat) => lo + (k : Int))) (lo + (j : Int))).1), (.int .u64 (qT (iP ((List.range j).map fun (k : Nat) => lo + (k : Int))) (lo + (j : Int))).2)] rfl rfl kW (by simp) fun H7 hS7 => ?_
  simp only [RT] at hS7
  simp (disch := omega) only [↓RA, RZ, simprocAttr, hn, g1, g2, g3, g4, g6, q1]
  refine ⟨n - 1, by omega, j + 1, by omega, by congr 1; omega, ?_⟩
  rw [hsu]
  exact hS7.pick [0, 1, 2] (by decide) rfl
 have hjj : j = (hi - lo + 1).toNat := by omega
 simp (disch := omega) only [↓RA, RZ, simprocAttr, hn, g2, g4, hS5.ag 2 rfl, q1]
 refine hS5.ab 1 rfl [(.int .u64 (iP ((List.range j).map fun (k : Nat) => lo + (k : Int))).1), (.int .u64 (iP ((List.range j).map fun (k : Nat) => lo + (k : Int))).2)] rfl rfl kW (by simp) fun H8 hS8 => ?_
 simp only [RT] at hS8
 simp (disch := omega) only [↓RA, RZ, simprocAttr, hn, g2, c6u, hS8.ag 1 rfl, q1]
 rw [hjj]
 exact ⟨rfl, hS8.forget⟩
structure Ks (H : Heap) (kv : Value) (ks : List Nt) : Prop where
 sl : Sl 2 tB H kv ks
 len : ks.length < 1000000000
 ok : ∀ x ∈ ks, Nt.Ok x
theorem Ks.ae {P : Program} {H' : Heap} {kv : Value} {ks : List Nt} {os : List Ob} (h : Ks H kv ks) (hS : St P H H' os) : Ks H' kv ks := ⟨hS.sl h.sl, h.len, h.ok⟩
def mT (o : Org) (ks : List Nt) : Int := if organE o ≠ 0 then organE o else if ks.length ≠ o.dvs.length then 5 else if ∃ j, j < o.dvs.length ∧ woF (iB ks j) (a0u (iB o.dvs j).lo (iB o.dvs j).hi) ≠ (0, 0) then 23 else 0
theorem b6x (o : Org) (ho : o.In H) (kv : Value) (ks : List Nt) (hk : Ks H kv ks) : Fn prog 19 [.agg #[.string o.name, o.rv, o.dv, o.cv], kv] H fun r H' => r = I (mT o ks) ∧ St prog H H' [] := by
 have hkl := hk.len
 have hdl := ho.2.2.2.2.2.2.1
 refine .aE func19 rfl (by kernel_rfl) (m := 43) rfl fun l hn g0 g1 => ?_
 simp (disch := omega) only [↓RA, RB, simprocAttr, g0]
 refine (sR H).eNew 4 [(.string o.name), o.rv, o.dv, o.cv] rfl rfl (by simp [OC, ((sR H).sl ho.1).cells.2.1, ((sR H).sl ho.2.2.1).cells.2.1, ((sR H).sl ho.2.2.2.2.1).cells.2.1]) mB fun A1 H1 hS1 => ?_
 simp only [RT] at hS1
 simp (disch := omega) only [↓RA, RZ, simprocAttr, hn, hS1.ag 0 rfl]
 refine hS1.cF (a3b o (ho.ae hS1)) fun H2 hS2 => ?_
 simp (disch := omega) only [↓RA, RB, simprocAttr, hn]
 refine iA (fun h1 => ?_) (fun h1 => ?_)
 ·simp (disch := omega) only [↓RA, RZ, simprocAttr, hn, b8n, h1]
  exact ⟨by unfold mT; rw [if_pos h1], hS2.forget⟩
 have hz : organE o = 0 := dA.1 h1
 have hf := Org.aO hz
 simp (disch := omega) only [↓RA, RZ, simprocAttr, hn, g1, (hS2.sl hk.sl).len, hS2.ld 0 rfl, (hS2.sl ho.2.2.1).len, h1]
 refine iA (fun h2 => ?_) (fun h2 => ?_)
 ·simp (disch := omega) only [↓RA, RZ, simprocAttr, hn, b8n, h1, h2]
  exact ⟨by unfold mT; rw [if_neg h1, if_pos (by omega)], hS2.forget⟩
 have hlen : ks.length = o.dvs.length := by omega
 simp (disch := omega) only [↓RA, RZ, simprocAttr, hn, hS2.ld 0 rfl, (hS2.sl ho.2.2.1).len, h1, h2]
 refine Wp.ak (fun n l H' => l.length = 43 ∧ get l 1 = kv ∧ get l 22 = o.dv ∧ get l 23 = I o.dvs.length ∧ ∃ (j : Nat), (n + j = o.dvs.length ∧ ∀ q, q < j → woF (iB ks q) (a0u (iB o.dvs q).lo (iB o.dvs q).hi) = (0, 0)) ∧ get l 24 = I j ∧ St prog H H' [⟨ptr A1 0 4, 0, [(.string o.name), o.rv, o.dv, o.cv]⟩]) o.dvs.length ?_ ?_
 ·simp (disch := omega) only [RB, RC, simprocAttr, hn, g1]
  exact ⟨0, ⟨by omega, fun q hq => absurd hq (dJ _)⟩, rfl, hS2⟩
 rintro n l H3 ⟨hn, g1, g22, g23, j, ⟨hj,hq⟩, g24, hS3⟩
 simp (disch := omega) only [↓RA, RB, simprocAttr, hn, g23, g24]
 refine iA (fun h3 => ?_) (fun h3 => ?_)
 ·have hky := hf.keys j (by omega)
  simp (disch := omega) only [↓RA, RZ, simprocAttr, hn, g22, g24, (hS3.sl ho.2.2.1).idx, (hS3.sl ho.2.2.1).ag, Dvn.cells, h3]
  refine hS3.eNew 5 [(.string ⟨#[]⟩), (.bool false), I 0, I 0, (.slice none 0 0)] rfl rfl rfl uJ fun A2 H4 hS4 => ?_
  simp only [RT] at hS4
  simp (disch := omega) only [↓RA, RZ, simprocAttr, hn, h3]
  refine hS4.ab 1 rfl [(.string (iB o.dvs j).name), (.bool (iB o.dvs j).pedal), I (iB o.dvs j).lo, I (iB o.dvs j).hi, (iB o.dvs j).sv] rfl (by simp [OC, (hS4.sl (ho.2.2.2.1 (iB o.dvs j) (iD (by omega))).1).cells.2.1]) uJ (by simp) fun H5 hS5 => ?_
  simp only [RT] at hS5
  simp (disch := omega) only [↓RA, RZ, simprocAttr, hn, hS5.ag 1 rfl, h3]
  refine hS5.cF (b4n (iB o.dvs j).lo (iB o.dvs j).hi hky.1 hky.2.1 hky.2.2) fun H6 hS6 => ?_
  simp (disch := omega) only [↓RA, RZ, simprocAttr, hn, h3]
  refine hS6.eNew 2 [(.int .u64 0), (.int .u64 0)] rfl rfl rfl kW fun A3 H7 hS7 => ?_
  simp only [RT] at hS7
  simp (disch := omega) only [↓RA, RZ, simprocAttr, hn, h3]
  refine hS7.ab 2 rfl [(.int .u64 (a0u (iB o.dvs j).lo (iB o.dvs j).hi).1), (.int .u64 (a0u (iB o.dvs j).lo (iB o.dvs j).hi).2)] rfl rfl kW (by simp) fun H8 hS8 => ?_
  simp only [RT] at hS8
  simp (disch := omega) only [↓RA, RZ, simprocAttr, hn, h3]
  refine Wp.drw jZ (by kernel_rfl) ?_
  simp (disch := omega) only [↓RA, RZ, simprocAttr, hn, g1, (hS8.sl hk.sl).idx, (hS8.sl hk.sl).ag, tB, hS8.ag 2 rfl]
  refine hS8.cF (a9R (iB ks j) (a0u (iB o.dvs j).lo (iB o.dvs j).hi)) fun H9 hS9 => ?_
  simp (disch := omega) only [↓RA, RB, simprocAttr, hn]
  refine jI (fun h4 => ?_) (fun h4 => ?_)
  ·have h5 : ¬ woF (iB ks j) (a0u (iB o.dvs j).lo (iB o.dvs j).hi) = (0, 0) := by simpa using h4
   simp (disch := omega) only [↓RA, RB, simprocAttr, hn, b8n, h4]
   exact ⟨by unfold mT; rw [if_neg h1, if_neg (by omega), if_pos ⟨j, by omega, h5⟩], hS9.forget⟩
  have h5 : woF (iB ks j) (a0u (iB o.dvs j).lo (iB o.dvs j).hi) = (0, 0) := by simpa using h4
  simp (disch := omega) only [↓RA, RZ, simprocAttr, hn, g1, g22, g23, g24, h4]
  exact ⟨n - 1, by omega, j + 1, ⟨by omega, fun q hq' => by rcases dp.1 hq' with e | e; (· exact hq q e); (· rw [e]; exact h5)⟩, by simp, hS9.pick [0] (by decide) rfl⟩
 simp (disch := omega) only [↓RA, RZ, simprocAttr, hn, b8n, h3]
 refine ⟨?_, hS3.forget⟩
 unfold mT
 rw [if_neg h1, if_neg (by omega), if_neg]
 rintro ⟨q, hq1, hq2⟩
 exact hq2 (hq q (by omega))
def plD (ks : List Nt) (i : Nat) : List Ct := (pP (iB ks i)).map fun z => ((i : Int), z)
def iF (ks : List Nt) : List Ct := (List.range ks.length).flatMap (plD ks)
theorem c3f (ks : List Nt) (i : Nat) : (plD ks i).length ≤ 128 := by
 unfold plD
 rw [eu]
 exact a2L _
theorem b1p (ks : List Nt) : ∀ i, ((List.range i).flatMap (plD ks)).length ≤ i * 128
 | 0 => by simp
 | i + 1 => by
   have := b1p ks i
   have := c3f ks i
   rw [ec, dI, dm, dz, eF, dj]
   omega
theorem a0V (hG : Glob gH H) (kv : Value) (ks : List Nt) (hk : Ks H kv ks) (h8 : ks.length ≤ 8) : Fn prog 47 [kv] H fun r H' => St prog H H' [⟨r, 2, pr (iF ks)⟩] := by
 refine .aQ func47 rfl (by kernel_rfl) (m := 31) rfl fun l hn g0 => ?_
 simp (disch := omega) only [↓RA, RZ, simprocAttr, hn, g0, ((sR H).sl hk.sl).len]
 have hS1 := (sR H).nil 1
 simp only [RT] at hS1
 refine Wp.ak (fun n l H' => l.length = 31 ∧ get l 2 = (.slice none 0 0) ∧ get l 8 = kv ∧ get l 9 = I ks.length ∧ ∃ (i : Nat) (ov : Value), (n + i = ks.length) ∧ get l 10 = I i ∧ get l 3 = ov ∧ St prog H H' [⟨ov, 2, pr ((List.range i).flatMap (plD ks))⟩]) ks.length ?_ ?_
 ·simp (disch := omega) only [RB, RC, simprocAttr, hn]
  exact ⟨0, .slice none 0 0, by omega, rfl, rfl, hS1⟩
 rintro n l H1 ⟨hn, g2, g8, g9, i, ov, hi, rN, g3, hS2⟩
 simp (disch := omega) only [↓RA, RB, simprocAttr, hn, g9, rN]
 refine iA (fun q1 => ?_) (fun q1 => ?_)
 ·have hmo := hk.ok _ (iD (xs := ks) (j := i) (by omega))
  have hml := a2L (iB ks i)
  have hpl := b1p ks i
  simp (disch := omega) only [↓RA, RZ, simprocAttr, hn, g8, rN, (hS2.sl hk.sl).idx, (hS2.sl hk.sl).ag, tB, q1]
  refine hS2.eNew 2 [(.int .u64 0), (.int .u64 0)] rfl rfl rfl kW fun A1 H2 hS3 => ?_
  simp only [RT] at hS3
  simp (disch := omega) only [↓RA, RZ, simprocAttr, hn, q1]
  refine hS3.ab 1 rfl [(.int .u64 (iB ks i).1), (.int .u64 (iB ks i).2)] rfl rfl kW (by simp) fun H3 hS4 => ?_
  simp only [RT] at hS4
  simp (disch := omega) only [↓RA, RZ, simprocAttr, hn, hS4.ag 1 rfl, q1]
  refine iG ((b0p (hS4.gl hG) (iB ks i) hmo).tr) ?_
  rintro r H4 ⟨-, hT1⟩
  have hS5 := hS4.trans hT1
  simp only [RT] at hS5
  obtain ⟨mw, rfl⟩ : ∃ w, w = r := ⟨r, rfl⟩
  simp (disch := omega) only [↓RA, RZ, simprocAttr, hn, (hS5.aw 2 rfl (fun _ => rfl)).len, q1]
  refine Wp.ak (fun n l H' => l.length = 31 ∧ get l 2 = (.slice none 0 0) ∧ get l 4 = I i ∧ get l 8 = kv ∧ get l 9 = I ks.length ∧ get l 10 = I i ∧ get l 16 = mw ∧ get l 17 = I (pP (iB ks i)).length ∧ ∃ (j : Nat) (ow : Value), (n + j = (pP (iB ks i)).length) ∧ get l 18 = I j ∧ get l 3 = ow ∧ St prog H H' [⟨ow, 2, pr ((List.range i).flatMap (plD ks) ++ ((pP (iB ks i)).take j).map fun z => ((i : Int), z))⟩, ⟨ptr A1 0 2, 0, [(.int .u64 (iB ks i).1), (.int .u64 (iB ks i).2)]⟩, ⟨mw, 1, (pP (iB ks i)).flatMap (one I)⟩]) (pP (iB ks i)).length ?_ ?_
  ·simp (disch := omega) only [RB, RC, simprocAttr, hn, g2, g8, g9, rN, g3]
   refine ⟨0, ov, by omega, rfl, rfl, ?_⟩
   rw [List.take_zero, gj, dj]
   exact hS5
  rintro n l H5 ⟨hn, g2, g4, g8, g9, rN, g16, g17, j, ow, hj, g18, g3, hS6⟩
  simp (disch := omega) only [↓RA, RB, simprocAttr, hn, g17, g18]
  refine iA (fun q2 => ?_) (fun q2 => ?_)
  ·have hroom : (pr ((List.range i).flatMap (plD ks) ++ ((pP (iB ks i)).take j).map fun z => ((i : Int), z))).length ≤ 4000 := by
    rw [iI, dm, eu, fj]
    omega
   simp (disch := omega) only [↓RA, RZ, simprocAttr, hn, g4, g16, g18, g3, (hS6.aw 2 rfl (fun _ => rfl)).idx, (hS6.aw 2 rfl (fun _ => rfl)).ld, one, qY, q2]
   refine hS6.ai [I i, I (iB (pP (iB ks i)) j)] pV a0x rfl rfl (by simp [Value.cells]) rfl rfl (by decide) (by decide) fun w1 H6 hS7 => ?_
   simp only [RT] at hS7
   simp (disch := omega) only [↓RA, RZ, simprocAttr, hn, q2]
   refine hS7.al 0 rfl (hS7.rd 3 rfl) pV (by have h := hroom; simp only [dN, dZ]; omega) fun w2 H7 hS8 => ?_
   simp only [RT] at hS8
   simp (disch := omega) only [↓RA, RZ, simprocAttr, hn, g2, g4, g8, g9, rN, g16, g17, g18, q2]
   refine ⟨n - 1, by omega, j + 1, w2, by omega, by simp, rfl, ?_⟩
   rw [List.take_add_one, dq (by omega), Option.toList_some, dT, ← ee, jD]
   rw [show (pP (iB ks i))[j] = iB (pP (iB ks i)) j from (jJ _ _ (by omega)).symm]
   exact hS8.pick [0, 1, 2] (by decide) rfl
  simp (disch := omega) only [↓RA, RZ, simprocAttr, hn, g2, g8, g9, rN, g3, q2]
  have hjj : j = (pP (iB ks i)).length := by omega
  refine ⟨ks.length - (i + 1), by omega, i + 1, ow, by omega, by simp, rfl, ?_⟩
  rw [ec, dI, dz, eF, dj]
  rw [show plD ks i = ((pP (iB ks i)).take j).map (fun z => ((i : Int), z)) from by rw [hjj, dW]; rfl]
  exact hS6.pick [0] (by decide) rfl
 have hii : i = ks.length := by omega
 simp (disch := omega) only [↓RA, RZ, simprocAttr, hn, g3, c7P, q1]
 have hfin := hS2
 rw [hii] at hfin
 exact hfin
end Go.Ds
namespace Go.Ds
open Go.Proofs
set_option maxRecDepth 10000
def mI (x : Nt) (z : Int) : Bool := if z < 64 then x.1.testBit z.toNat else x.2.testBit (z - 64).toNat
theorem sF {x i : Nat} : i ∈ oW x ↔ i < 64 ∧ x.testBit i = true := by
 unfold oW
 rw [ew, dx]
theorem vN {x : Nt} {z : Int} : z ∈ pP x ↔ isN z ∧ mI x z = true := by
 unfold pP mI isN
 rw [dC, dy, dy]
 constructor
 ·rintro (⟨i, hi, rfl⟩ | ⟨i, hi, rfl⟩)
  ·obtain ⟨h1, h2⟩ := sF.1 hi
   exact ⟨by omega, by rw [if_pos (by omega)]; exact h2⟩
  ·obtain ⟨h1, h2⟩ := sF.1 hi
   refine ⟨by omega, ?_⟩
   rw [if_neg (by omega), show (64 + (i : Int) - 64).toNat = i by omega]
   exact h2
 ·rintro ⟨h1, h2⟩
  by_cases h : z < 64
  ·rw [if_pos h] at h2
   exact .inl ⟨z.toNat, sF.2 ⟨by omega, h2⟩, by omega⟩
  ·rw [if_neg h] at h2
   exact .inr ⟨(z - 64).toNat, sF.2 ⟨by omega, h2⟩, by omega⟩
theorem b7n (x : Nt) (n z : Int) (hn : isN n) (hz : isN z) : mI (qT x n) z = (mI x z || decide (z = n)) := by
 unfold mI qT isN at *
 by_cases h1 : n < 64
 ·rw [if_pos h1]
  by_cases h2 : z < 64
  ·rw [if_pos h2, if_pos h2, gW, gg]
   congr 1
   rw [decide_eq_decide]
   omega
  ·rw [if_neg h2, if_neg h2, decide_eq_false (by omega), Bool.or_false]
 ·rw [if_neg h1]
  by_cases h2 : z < 64
  ·rw [if_pos h2, if_pos h2, decide_eq_false (by omega), Bool.or_false]
  ·rw [if_neg h2, if_neg h2, gW, gg]
   congr 1
   rw [decide_eq_decide]
   omega
theorem a0F (z : Int) : mI (0, 0) z = false := by
 unfold mI
 split <;> simp
theorem a4m : ∀ (xs : List Int) (x : Nt) (z : Int), (∀ n ∈ xs, isN n) → isN z → mI (xs.foldl qT x) z = (mI x z || decide (z ∈ xs))
 | [], x, z, _, _ => by simp
 | n :: xs, x, z, h, hz => by
   rw [eT, a4m xs _ z (fun y hy => h y (dP _ hy)) hz, b7n x n z (h n (dH ..)) hz, Bool.or_assoc]
   congr 1
   rw [dY]
   simp
theorem xW {xs : List Int} {z : Int} (h : ∀ n ∈ xs, isN n) (hz : isN z) : mI (iP xs) z = decide (z ∈ xs) := by
 unfold iP
 rw [a4m xs _ z h hz, a0F, Bool.false_or]
theorem yU {lo hi z : Int} (h0 : 0 ≤ lo) (h2 : hi ≤ 127) (hz : isN z) : mI (a0u lo hi) z = (decide (lo ≤ z) && decide (z ≤ hi)) := by
 unfold a0u
 rw [xW (fun n hn => by
  obtain ⟨k, hk, rfl⟩ := dy.1 hn
  have := dx.1 hk
  exact ⟨by omega, by omega⟩) hz, dY, cY, decide_eq_true_eq, decide_eq_true_eq, decide_eq_true_eq, dy]
 constructor
 ·rintro ⟨k, hk, rfl⟩
  have := dx.1 hk
  omega
 ·rintro ⟨h3, h4⟩
  exact ⟨(z - lo).toNat, dx.2 (by omega), by omega⟩
theorem b1Z {x y : Nt} (hx : Nt.Ok x) {z : Int} (hz : isN z) : mI (woF x y) z = (mI x z && !mI y z) := by
 obtain ⟨h1, h2⟩ := hz
 unfold mI woF
 by_cases h : z < 64
 ·rw [if_pos h, if_pos h, if_pos h, a6M _ _ _ hx.1 (by omega)]
 ·rw [if_neg h, if_neg h, if_neg h, a6M _ _ _ hx.2 (by omega)]
theorem a1P {x y : Nt} (hx : Nt.Ok x) (h : woF x y = (0, 0)) {z : Int} (hz : isN z) (hh : mI x z = true) : mI y z = true := by
 have := b1Z (y := y) hx hz
 rw [h, a0F, hh] at this
 simpa using this.symm
theorem mZ {o : Org} {ks : List Nt} (h : mT o ks = 0) : organE o = 0 ∧ ks.length = o.dvs.length ∧ ∀ j, j < o.dvs.length → woF (iB ks j) (a0u (iB o.dvs j).lo (iB o.dvs j).hi) = (0, 0) := by
 unfold mT at h
 split at h
 ·rename_i hh; exact absurd h hh
 rename_i h1
 split at h
 ·omega
 rename_i h2
 split at h
 ·omega
 rename_i h3
 refine ⟨dA.1 h1, by omega, fun j hj => ?_⟩
 by_cases hh : woF (iB ks j) (a0u (iB o.dvs j).lo (iB o.dvs j).hi) = (0, 0)
 ·exact hh
 ·exact absurd ⟨j, hj, hh⟩ h3
theorem oB {o : Org} {ks : List Nt} (hok : ∀ x ∈ ks, Nt.Ok x) (h : mT o ks = 0) : ∀ c ∈ iF ks, lA o c = true := by
 obtain ⟨h1, h2, h3⟩ := mZ h
 have hf := Org.aO h1
 intro c hc
 unfold iF at hc
 obtain ⟨i, hi, hc⟩ := dQ.1 hc
 have hi := dx.1 hi
 unfold plD at hc
 obtain ⟨z, hz, rfl⟩ := dy.1 hc
 obtain ⟨hz1, hz2⟩ := vN.1 hz
 have hky := hf.keys i (by omega)
 have hw := a1P (hok _ (iD hi)) (h3 i (by omega)) hz1 hz2
 rw [yU hky.1 hky.2.2 hz1] at hw
 simp only [cY, decide_eq_true_eq] at hw
 unfold lA
 simp only [cY, decide_eq_true_eq, eh]
 omega
theorem pK {o : Org} {ks : List Nt} (h : mT o ks = 0) : (iF ks).length ≤ 1024 := by
 obtain ⟨h1, h2, _⟩ := mZ h
 have h8 := (Org.aO h1).dlen
 have := b1p ks ks.length
 unfold iF
 omega
structure SegsOk (m : Nat) (lo hi : Int) (gs : List Seg) : Prop where
 ord : ∀ i, i < gs.length → (iB gs i).lo ≤ (iB gs i).hi
 up : ∀ i, i < gs.length → 0 < i → (iB gs (i - 1)).hi < (iB gs i).lo
 within : ∀ i, i < gs.length → lo ≤ (iB gs i).lo ∧ (iB gs i).hi ≤ hi
 draws : ∀ i, i < gs.length → kY m (iB gs i).draws = 0
 len : gs.length ≤ 12
theorem a0R {o : Org} (h : organE o = 0) {j : Nat} (hj : j < o.dvs.length) {s : Stp} (hs : s ∈ (iB o.dvs j).stops) : SegsOk o.ranks.length (iB o.dvs j).lo (iB o.dvs j).hi s.segs := by
 unfold organE at h
 split at h
 ·omega
 split at h
 ·omega
 split at h
 ·rename_i hh; exact absurd h hh
 split at h
 ·omega
 split at h
 ·omega
 split at h
 ·rename_i hh; exact absurd h hh
 rename_i h6
 have h6 := dA.1 h6
 have e := pC h6 j hj
 unfold tL at e
 split at e
 ·omega
 split at e
 ·omega
 unfold divE at e
 split at e
 ·rename_i hh; exact absurd e hh
 split at e
 ·omega
 obtain ⟨k, hk, rfl⟩ := dD.1 hs
 have e2 := pC e k hk
 unfold oQ at e2
 rw [jJ _ k hk] at e2
 split at e2
 ·rename_i hh; exact absurd e2 hh
 rename_i e3
 have e3 := dA.1 e3
 unfold stopE at e3
 split at e3
 ·rename_i hh; exact absurd e3 hh
 split at e3
 ·omega
 split at e3
 ·rename_i hh; exact absurd e3 hh
 split at e3
 ·omega
 split at e3
 ·omega
 have key : ∀ i, i < ((iB o.dvs j).stops[k]).segs.length → (iB ((iB o.dvs j).stops[k]).segs i).lo ≤ (iB ((iB o.dvs j).stops[k]).segs i).hi ∧ (0 < i → (iB ((iB o.dvs j).stops[k]).segs (i - 1)).hi < (iB ((iB o.dvs j).stops[k]).segs i).lo) ∧ ((iB o.dvs j).lo ≤ (iB ((iB o.dvs j).stops[k]).segs i).lo ∧ (iB ((iB o.dvs j).stops[k]).segs i).hi ≤ (iB o.dvs j).hi) ∧ kY o.ranks.length (iB ((iB o.dvs j).stops[k]).segs i).draws = 0 := by
  intro i hi
  have e4 := pC e3 i hi
  unfold lC at e4
  split at e4
  ·omega
  split at e4
  ·omega
  exact ⟨by omega, fun h0 => by omega, ⟨by omega, by omega⟩, e4⟩
 exact ⟨fun i hi => (key i hi).1, fun i hi => (key i hi).2.1, fun i hi => (key i hi).2.2.1, fun i hi => (key i hi).2.2.2, by omega⟩
theorem SegsOk.lt {m : Nat} {lo hi : Int} {gs : List Seg} (h : SegsOk m lo hi gs) {i : Nat} : ∀ k, i + 1 + k < gs.length → (iB gs i).hi < (iB gs (i + 1 + k)).lo
 | 0, hk => h.up (i + 1) hk (by omega)
 | k + 1, hk => by
   have h1 := h.lt (i := i) k (by omega)
   have h2 := h.ord (i + 1 + k) (by omega)
   have h3 := h.up (i + 1 + (k + 1)) hk (by omega)
   rw [show i + 1 + (k + 1) - 1 = i + 1 + k by omega] at h3
   omega
theorem SegsOk.one {m : Nat} {lo hi : Int} {gs : List Seg} (h : SegsOk m lo hi gs) {key : Int} {i j : Nat} (hi' : i < gs.length) (hj : j < gs.length) (h1 : (iB gs i).lo ≤ key ∧ key ≤ (iB gs i).hi) (h2 : (iB gs j).lo ≤ key ∧ key ≤ (iB gs j).hi) : i = j := by
 rcases Nat.lt_trichotomy i j with e | e | e
 ·have := h.lt (i := i) (j - i - 1) (by omega)
  rw [show i + 1 + (j - i - 1) = j by omega] at this
  omega
 ·exact e
 ·have := h.lt (i := j) (i - j - 1) (by omega)
  rw [show j + 1 + (i - j - 1) = i by omega] at this
  omega
theorem a8m {m : Nat} {lo hi : Int} {s : Stp} (h : SegsOk m lo hi s.segs) {key : Int} {d : Drw} : d ∈ a5j s key ↔ ∃ i, i < s.segs.length ∧ vB s key i = true ∧ d ∈ (iB s.segs i).draws := by
 unfold a5j
 by_cases hf : nC (vB s key) s.segs.length < 0
 ·rw [if_pos hf]
  constructor
  ·intro hd; exact absurd hd ek
  ·rintro ⟨i, hi', hp, _⟩
   have := (sV (vB s key) s.segs.length).2 ⟨i, hi', hp⟩
   omega
 ·rw [if_neg hf]
  obtain ⟨k, hk⟩ : ∃ k : Nat, nC (vB s key) s.segs.length = k := ⟨(nC (vB s key) s.segs.length).toNat, by omega⟩
  have hkl := yR hk
  have hkp : vB s key k = true := by
   unfold nC at hk
   cases e : (List.range s.segs.length).find? (vB s key) with
   | none => rw [e] at hk; simp only at hk; omega
   | some j =>
     rw [e] at hk
     have hk : (j : Int) = k := hk
     have := List.find?_some e
     rw [show k = j by omega]
     exact this
  rw [hk, eh]
  constructor
  ·intro hd; exact ⟨k, hkl, hkp, hd⟩
  ·rintro ⟨i, hi', hp, hd⟩
   unfold vB at hp hkp
   rw [cY, decide_eq_true_eq, decide_eq_true_eq] at hp hkp
   rw [h.one hkl hi' hkp hp]
   exact hd
def rS (o : Org) (g : Seg) (key : Int) : List Ct := if g.lo ≤ key ∧ key ≤ g.hi then (g.draws.filter fun d => rE o.ranks d key).map fun d => mK o.ranks d key else []
def vI (o : Org) (r : Reg) (c : Ct) (i : Nat) : List Ct := if (iB r.stops c.1.toNat).testBit i then (iB (iB o.dvs c.1.toNat).stops i).segs.flatMap fun g => rS o g c.2 else []
def pB (o : Org) (r : Reg) (c : Ct) : List Ct := (List.range (iB o.dvs c.1.toNat).stops.length).flatMap (vI o r c)
theorem wI {o : Org} (h : organE o = 0) {r : Reg} {c : Ct} (hc : lA o c = true) {p : Ct} : p ∈ pB o r c ↔ p ∈ mU o r c := by
 have hc' := (kL o c).1 hc
 unfold pB mU
 rw [dQ, dQ]
 refine exists_congr fun i => and_congr_right fun hi => ?_
 have hi := dx.1 hi
 unfold vI
 split
 ·have hso := a0R h (j := c.1.toNat) (by omega) (iD hi)
  unfold qB
  rw [qF, dy, dQ]
  constructor
  ·rintro ⟨g, hg, hp⟩
   unfold rS at hp
   split at hp
   ·rename_i hk
    obtain ⟨d, hd, rfl⟩ := dy.1 hp
    obtain ⟨hd1, hd2⟩ := ew.1 hd
    obtain ⟨k, hk', rfl⟩ := dD.1 hg
    refine ⟨d, ew.2 ⟨(a8m hso).2 ⟨k, hk', ?_, by rw [jJ _ k hk']; exact hd1⟩, hd2⟩, rfl⟩
    unfold vB
    rw [jJ _ k hk', decide_eq_true hk.1, decide_eq_true hk.2]
    rfl
   ·exact absurd hp ek
  ·rintro ⟨d, hd, rfl⟩
   obtain ⟨hd1, hd2⟩ := ew.1 hd
   obtain ⟨k, hk, hp, hd1⟩ := (a8m hso).1 hd1
   refine ⟨iB _ k, iD hk, ?_⟩
   unfold rS
   unfold vB at hp
   rw [cY, decide_eq_true_eq, decide_eq_true_eq] at hp
   rw [if_pos hp]
   exact dy.2 ⟨d, ew.2 ⟨hd1, hd2⟩, rfl⟩
 ·exact Iff.rfl
theorem b1w {o : Org} (h : organE o = 0) {r : Reg} {c : Ct} (hc : lA o c = true) : dd (pA (pB o r c)) = dd (pA (mU o r c)) := b1D fun _ => wI h hc
theorem b5Q {o : Org} (h : organE o = 0) {r : Reg} {l : List Ct} (hl : ∀ c ∈ l, lA o c = true) : dd (pA (l.flatMap fun c => dd (pA (pB o r c)))) = qU o r l := by
 unfold qU
 refine b1D fun p => ?_
 rw [dQ, dQ]
 refine exists_congr fun c => and_congr_right fun hc => ?_
 rw [qF, wI h (hl c hc)]
def sH (r : Reg) (q : List Ct) (c : Ct) : List Ct := if !r.off.testBit c.1.toNat && !decide (c ∈ q) then q ++ [c] else q
def b6W (o : Org) (r : Reg) (l : List Ct) : List Ct := pA (l.foldl (sH r) (bfs o r.cpl 1100 0 (kI o r.cpl l)))
theorem a2J {r : Reg} : ∀ {l q : List Ct} {x : Ct}, x ∈ l.foldl (sH r) q ↔ x ∈ q ∨ (x ∈ l ∧ r.off.testBit x.1.toNat = false)
 | [], q, x => by simp
 | c :: l, q, x => by
   rw [eT, a2J]
   unfold sH
   by_cases h1 : r.off.testBit c.1.toNat = false
   ·by_cases h2 : c ∈ q
    ·rw [if_neg (by simp [h2])]
     constructor
     ·rintro (h | ⟨h, k⟩)
      ·exact .inl h
      ·exact .inr ⟨dP _ h, k⟩
     ·rintro (h | ⟨h, k⟩)
      ·exact .inl h
      ·rcases dR.1 h with e | e
       ·exact .inl (by rw [e]; exact h2)
       ·exact .inr ⟨e, k⟩
    ·rw [if_pos (by simp [h1, h2])]
     constructor
     ·rintro (h | ⟨h, k⟩)
      ·rcases dC.1 h with h | h
       ·exact .inl h
       ·have := dw.1 h
        subst this
        exact .inr ⟨dH .., h1⟩
      ·exact .inr ⟨dP _ h, k⟩
     ·rintro (h | ⟨h, k⟩)
      ·exact .inl (dC.2 (.inl h))
      ·rcases dR.1 h with e | e
       ·exact .inl (dC.2 (.inr (by rw [e]; simp)))
       ·exact .inr ⟨e, k⟩
   ·rw [if_neg (by simp [h1])]
    constructor
    ·rintro (h | ⟨h, k⟩)
     ·exact .inl h
     ·exact .inr ⟨dP _ h, k⟩
    ·rintro (h | ⟨h, k⟩)
     ·exact .inl h
     ·rcases dR.1 h with e | e
      ·subst e; exact absurd k h1
      ·exact .inr ⟨e, k⟩
theorem xC {r : Reg} : ∀ {l q : List Ct}, q.Nodup → (l.foldl (sH r) q).Nodup
 | [], _, h => h
 | c :: l, q, h => by
   rw [eT]
   refine xC ?_
   unfold sH
   split
   ·rename_i hh
    simp only [cY, dF, decide_eq_false_iff_not] at hh
    rw [List.nodup_append]
    exact ⟨h, by simp, fun a ha b hb e => hh.2 (by simp at hb; rw [← hb, ← e]; exact ha)⟩
   ·exact h
theorem c2a {l : List Ct} (h : l.Nodup) : (pA l).Pairwise xT := by
 have h1 : (pA l).Nodup := (mX l).nodup_iff.2 h
 refine List.Pairwise.imp₂ ?_ (sU l) h1
 intro a b h2 h3
 rw [nQ] at h2
 unfold xT
 by_cases e : a.1 = b.1
 ·by_cases e2 : a.2 = b.2
  ·exact absurd (fI e e2) h3
  ·omega
 ·omega
theorem a4X {o : Org} (cp : Nat) : ∀ (n i : Nat) (q : List Ct), Que o q → Que o (bfs o cp n i q)
 | 0, _, _, h => h
 | n + 1, i, q, h => by
   rw [bfs]
   split
   ·exact a4X cp n (i + 1) _ (h.stepF cp true _)
   ·exact h
theorem b6F (o : Org) (r : Reg) (l : List Ct) : b6W o r l = jX o r l := by
 unfold b6W jX
 refine qN _ _ (c2a (xC (a4X r.cpl 1100 0 _ (xB o r.cpl l)).1)) (a5O _) fun x => ?_
 rw [qF, (mX _).mem_iff, a2J, dC, ew]
 constructor
 ·rintro (h | ⟨h, k⟩)
  ·exact .inr h
  ·exact .inl ⟨h, by simpa using k⟩
 ·rintro (⟨h, k⟩ | h)
  ·exact .inr ⟨h, by simpa using k⟩
  ·exact .inl h
def a2y (o : Org) (ks : List Nt) (i : Nat) : List Ct := ((List.range ((iB o.dvs i).hi - (iB o.dvs i).lo + 1).toNat).filter fun (j : Nat) => mI (iB ks i) ((iB o.dvs i).lo + (j : Int))).map fun (j : Nat) => ((i : Int), (iB o.dvs i).lo + (j : Int))
def b0g (o : Org) (ks : List Nt) : List Ct := (List.range o.dvs.length).flatMap (a2y o ks)
theorem xU {f : Nat → List Ct} (h1 : ∀ i, (f i).Pairwise xT) (h2 : ∀ i, ∀ c ∈ f i, c.1 = (i : Int)) : ∀ n, ((List.range n).flatMap f).Pairwise xT
 | 0 => .nil
 | n + 1 => by
   rw [ec, dI, dz, eF, dj, fg]
   refine ⟨xU h1 h2 n, h1 n, fun a ha b hb => ?_⟩
   obtain ⟨i, hi, ha⟩ := dQ.1 ha
   have hi := dx.1 hi
   unfold xT
   rw [h2 i a ha, h2 n b hb]
   omega
theorem b8V (o : Org) (ks : List Nt) (i : Nat) : (a2y o ks i).Pairwise xT := by
 unfold a2y
 rw [gz]
 refine List.Pairwise.imp ?_ (List.Pairwise.filter _ List.pairwise_lt_range)
 intro a b h
 unfold xT
 omega
theorem a7U (x : Nt) : (pP x).Pairwise (· < ·) := by
 unfold pP
 rw [fg, gz, gz]
 have h : ∀ n, (oW n).Pairwise (· < ·) := fun n => List.Pairwise.filter _ List.pairwise_lt_range
 refine ⟨(h _).imp (by intro a b h; omega), (h _).imp (by intro a b h; omega), fun a ha b hb => ?_⟩
 obtain ⟨i, hi, rfl⟩ := dy.1 ha
 obtain ⟨j, _, rfl⟩ := dy.1 hb
 have := (sF.1 hi).1
 omega
theorem c1x (ks : List Nt) (i : Nat) : (plD ks i).Pairwise xT := by
 unfold plD
 rw [gz]
 exact (a7U _).imp fun h => .inr ⟨rfl, h⟩
theorem a4a (ks : List Nt) : (iF ks).Pairwise xT := xU (c1x ks) (fun i c hc => by
 unfold plD at hc
 obtain ⟨z, _, rfl⟩ := dy.1 hc
 rfl) _
theorem c0j {o : Org} {ks : List Nt} (hok : ∀ x ∈ ks, Nt.Ok x) (h : mT o ks = 0) : b0g o ks = iF ks := by
 obtain ⟨h1, h2, h3⟩ := mZ h
 have hf := Org.aO h1
 refine qN _ _ (xU (b8V o ks) (fun i c hc => by
  unfold a2y at hc
  obtain ⟨z, _, rfl⟩ := dy.1 hc
  rfl) _) (a4a ks) fun x => ?_
 constructor
 ·intro hx
  obtain ⟨i, hi, hx⟩ := dQ.1 hx
  have hi := dx.1 hi
  have hk := hf.keys i hi
  unfold a2y at hx
  obtain ⟨z, hz, rfl⟩ := dy.1 hx
  obtain ⟨hz1, hz2⟩ := ew.1 hz
  have hz1 := dx.1 hz1
  unfold iF
  refine dQ.2 ⟨i, dx.2 (by omega), ?_⟩
  unfold plD
  exact dy.2 ⟨_, vN.2 ⟨⟨by omega, by omega⟩, hz2⟩, rfl⟩
 ·intro hx
  unfold iF at hx
  obtain ⟨i, hi, hx⟩ := dQ.1 hx
  have hi := dx.1 hi
  have hk := hf.keys i (by omega)
  unfold plD at hx
  obtain ⟨z, hz, rfl⟩ := dy.1 hx
  obtain ⟨hz1, hz2⟩ := vN.1 hz
  have hw := a1P (hok _ (iD hi)) (h3 i (by omega)) hz1 hz2
  rw [yU hk.1 hk.2.2 hz1, cY, decide_eq_true_eq, decide_eq_true_eq] at hw
  unfold b0g
  refine dQ.2 ⟨i, dx.2 (by omega), ?_⟩
  unfold a2y
  refine dy.2 ⟨(z - (iB o.dvs i).lo).toNat, ew.2 ⟨dx.2 (by omega), ?_⟩, ?_⟩
  ·rw [show (iB o.dvs i).lo + ((z - (iB o.dvs i).lo).toNat : Int) = z by omega]
   exact hz2
  ·rw [show (iB o.dvs i).lo + ((z - (iB o.dvs i).lo).toNat : Int) = z by omega]
end Go.Ds
namespace Go.Ds
open Go.Proofs Go.Proofs.Tryz
variable {H : Heap}
set_option maxRecDepth 10000
set_option maxHeartbeats 1000000
def b7M (o : Org) (l : List (Value × Reg)) (ks : List Nt) : Int := if rT o l ≠ 0 then rT o l else mT o ks
theorem b1m (o : Org) (ho : o.In H) (lv : Value) (xs : List (Value × Reg)) (hl : Sl 3 rgc H lv xs) (hle : xs.length < 1000000000) (hr : ∀ p ∈ xs, p.2.In H p.1) (kv : Value) (ks : List Nt) (hk : Ks H kv ks) :
 Fn prog 45 [.agg #[.string o.name, o.rv, o.dv, o.cv], lv, kv] H fun r H' => r = I (b7M o xs ks) ∧ St prog H H' [] := by
 refine .bd func45 rfl (by kernel_rfl) (m := 17) rfl fun l hn g0 g1 g2 => ?_
 simp (disch := omega) only [↓RA, RB, simprocAttr, g0]
 refine (sR H).eNew 4 [(.string o.name), o.rv, o.dv, o.cv] rfl rfl (by simp [OC, ((sR H).sl ho.1).cells.2.1, ((sR H).sl ho.2.2.1).cells.2.1, ((sR H).sl ho.2.2.2.2.1).cells.2.1]) mB fun A1 H1 hS1 => ?_
 simp only [RT] at hS1
 simp (disch := omega) only [↓RA, RZ, simprocAttr, hn, g1, hS1.ag 0 rfl]
 refine hS1.cF (a4F o (ho.ae hS1) lv xs (hS1.sl hl) hle (fun p hp => (hr p hp).ae hS1)) fun H2 hS2 => ?_
 simp (disch := omega) only [↓RA, RB, simprocAttr, hn]
 refine iA (fun h1 => ?_) (fun h1 => ?_)
 ·simp (disch := omega) only [↓RA, RZ, simprocAttr, hn, c6f, h1]
  exact ⟨by unfold b7M; rw [if_pos h1], hS2.forget⟩
 simp (disch := omega) only [↓RA, RZ, simprocAttr, hn, g2, hS2.ag 0 rfl, h1]
 refine hS2.cF (b6x o (ho.ae hS2) kv ks (hk.ae hS2)) fun H3 hS3 => ?_
 simp (disch := omega) only [↓RA, RZ, simprocAttr, hn, c6f, h1]
 exact ⟨by unfold b7M; rw [if_neg h1], hS3.forget⟩
def rkE (o : Org) (rg : Reg) (ks : List Nt) : Int := if pY o rg ≠ 0 then pY o rg else mT o ks
theorem a2v (o : Org) (sv : Value) (rg : Reg) (ks : List Nt) : b7M o [(sv, rg)] ks = rkE o rg ks := by
 unfold b7M rkE
 rw [a1g]
theorem a2C {o : Org} {rg : Reg} {ks : List Nt} (h : rkE o rg ks = 0) : pY o rg = 0 ∧ mT o ks = 0 := by
 unfold rkE at h
 split at h
 ·rename_i hh; exact absurd h hh
 ·rename_i hh; exact ⟨dA.1 hh, h⟩
def a3I (o : Org) (rg : Reg) (ks : List Nt) : List Ct := if rkE o rg ks = 0 then kG o rg (iF ks) else []
def b2D (o : Org) (rg : Reg) (ks : List Nt) : List Ct := if rkE o rg ks = 0 then jX o rg (iF ks) else []
theorem a1a (hG : Glob gH H) (o : Org) (ho : o.In H) (rg : Reg) (sv : Value) (hr : rg.In H sv) (kv : Value) (ks : List Nt) (hk : Ks H kv ks) :
 Fn prog 20 [.agg #[.string o.name, o.rv, o.dv, o.cv], .agg #[sv, .int .u64 rg.cpl, .int .u64 rg.off], kv] H fun r H' => ∃ pv, r = .tuple #[pv, I (rkE o rg ks)] ∧ Slx 2 jF H' (fun B => H.length ≤ B) pv (a3I o rg ks) ∧ St prog H H' [] := by
 refine .bd func20 rfl (by kernel_rfl) (m := 22) rfl fun l hn g0 g1 g2 => ?_
 simp (disch := omega) only [↓RA, RB, simprocAttr, g0]
 refine (sR H).eNew 4 [(.string o.name), o.rv, o.dv, o.cv] rfl rfl (by simp [OC, ((sR H).sl ho.1).cells.2.1, ((sR H).sl ho.2.2.1).cells.2.1, ((sR H).sl ho.2.2.2.2.1).cells.2.1]) mB fun A1 H1 hS1 => ?_
 simp only [RT] at hS1
 simp (disch := omega) only [↓RA, RB, simprocAttr, g1]
 refine hS1.eNew 3 [sv, (.int .u64 rg.cpl), (.int .u64 rg.off)] rfl rfl (by simp [OC, (hS1.sl hr.1).cells.2.1]) pN fun A2 H2 hS2 => ?_
 simp only [RT] at hS2
 simp (disch := omega) only [↓RA, RZ, simprocAttr, hn, hS2.ag 0 rfl, hS2.ag 1 rfl]
 refine hS2.ai [sv, (.int .u64 rg.cpl), (.int .u64 rg.off)] b1o b1I rfl rfl (by first | (simp []; done) | simp [Value.cells]) (by first | (simp []; done) | simp [Value.cells]) (by simp [OC, (hS2.sl hr.1).cells.2.1]) (by decide) (by decide) fun w1 H3 hS3 => ?_
 simp only [RT] at hS3
 simp (disch := omega) only [↓RA, RZ, simprocAttr, hn, g2]
 refine hS3.cF (b1m o (ho.ae hS3) w1 [(sv, rg)] (hS3.aw 2 rfl (fun _ => rfl)) (by simp) (by intro p hp; rw [dw.1 hp]; exact hr.ae hS3) kv ks (hk.ae hS3)) fun H4 hS4 => ?_
 have hsc := a2v o sv rg ks
 simp (disch := omega) only [↓RA, RB, simprocAttr, hn, hsc]
 refine iA (fun h1 => ?_) (fun h1 => ?_)
 ·simp (disch := omega) only [↓RA, RZ, simprocAttr, hn, c5O, hsc, h1]
  exact ⟨.slice none 0 0, rfl, ⟨⟨.inl ⟨rfl, by rw [a3I, if_neg h1]; rfl⟩, jG, by decide⟩, fun b h => by simp [kH] at h⟩, hS4.forget⟩
 have h0 := dA.1 h1
 obtain ⟨hz1, hk0⟩ := a2C h0
 obtain ⟨hz3, hz4⟩ := pJ hz1
 have hf := Org.aO hz3
 have h8 : ks.length ≤ 8 := by
  have := hf.dlen
  have := (mZ hk0).2.1
  omega
 simp (disch := omega) only [↓RA, RC, simprocAttr, hsc, h1]
 refine Wp.aP jZ [(0, 4), (1, 4)] (by kernel_rfl) (by kernel_rfl) ?_
 simp (disch := omega) only [↓RA, RZ, simprocAttr, hn, g2, hS4.ag 0 rfl, hS4.ag 1 rfl]
 refine iG ((a0V (hS4.gl hG) kv ks (hk.ae hS4) h8).tr) ?_
 rintro r H5 ⟨-, hT2⟩
 have hS5 := hS4.trans hT2
 simp only [RT] at hS5
 obtain ⟨pv, rfl⟩ : ∃ w, w = r := ⟨r, rfl⟩
 simp (disch := omega) only [↓RA, RZ, simprocAttr, hn]
 have hSd := hS5
 refine iG (rM o (ho.ae hS5) hf rg sv (hr.ae hS5) hz4 pv (iF ks) (hS5.aw 3 rfl jG) (pK hk0) (oB hk.ok hk0)) ?_
 rintro r H6 ⟨hx, hT3⟩
 have hS6 := hS5.trans hT3
 simp only [RT] at hS6
 obtain ⟨qv, rfl⟩ : ∃ w, w = r := ⟨r, rfl⟩
 simp (disch := omega) only [↓RA, RZ, simprocAttr, hn, hS5.ag 0 rfl, hS5.ag 1 rfl, c5O, hx.1.bg]
 rw [h0]
 refine ⟨qv, rfl, ⟨?_, fun b h => ?_⟩, hS6.forget⟩
 ·rw [a3I, if_pos h0]
  exact hx.1
 ·have := hx.2 b h
  have : H.length ≤ _ := hSd.len
  omega
theorem a5r (hG : Glob gH H) (o : Org) (ho : o.In H) (rg : Reg) (sv : Value) (hr : rg.In H sv) (kv : Value) (ks : List Nt) (hk : Ks H kv ks) :
 Fn prog 15 [.agg #[.string o.name, o.rv, o.dv, o.cv], .agg #[sv, .int .u64 rg.cpl, .int .u64 rg.off], kv] H fun r H' => ∃ pv, r = .tuple #[pv, I (rkE o rg ks)] ∧ Slx 2 jF H' (fun B => H.length ≤ B) pv (b2D o rg ks) ∧ St prog H H' [] := by
 refine .bd func15 rfl (by kernel_rfl) (m := 22) rfl fun l hn g0 g1 g2 => ?_
 simp (disch := omega) only [↓RA, RB, simprocAttr, g0]
 refine (sR H).eNew 4 [(.string o.name), o.rv, o.dv, o.cv] rfl rfl (by simp [OC, ((sR H).sl ho.1).cells.2.1, ((sR H).sl ho.2.2.1).cells.2.1, ((sR H).sl ho.2.2.2.2.1).cells.2.1]) mB fun A1 H1 hS1 => ?_
 simp only [RT] at hS1
 simp (disch := omega) only [↓RA, RB, simprocAttr, g1]
 refine hS1.eNew 3 [sv, (.int .u64 rg.cpl), (.int .u64 rg.off)] rfl rfl (by simp [OC, (hS1.sl hr.1).cells.2.1]) pN fun A2 H2 hS2 => ?_
 simp only [RT] at hS2
 simp (disch := omega) only [↓RA, RZ, simprocAttr, hn, hS2.ag 0 rfl, hS2.ag 1 rfl]
 refine hS2.ai [sv, (.int .u64 rg.cpl), (.int .u64 rg.off)] b1o b1I rfl rfl (by first | (simp []; done) | simp [Value.cells]) (by first | (simp []; done) | simp [Value.cells]) (by simp [OC, (hS2.sl hr.1).cells.2.1]) (by decide) (by decide) fun w1 H3 hS3 => ?_
 simp only [RT] at hS3
 simp (disch := omega) only [↓RA, RZ, simprocAttr, hn, g2]
 refine hS3.cF (b1m o (ho.ae hS3) w1 [(sv, rg)] (hS3.aw 2 rfl (fun _ => rfl)) (by simp) (by intro p hp; rw [dw.1 hp]; exact hr.ae hS3) kv ks (hk.ae hS3)) fun H4 hS4 => ?_
 have hsc := a2v o sv rg ks
 simp (disch := omega) only [↓RA, RB, simprocAttr, hn, hsc]
 refine iA (fun h1 => ?_) (fun h1 => ?_)
 ·simp (disch := omega) only [↓RA, RZ, simprocAttr, hn, c5E, hsc, h1]
  exact ⟨.slice none 0 0, rfl, ⟨⟨.inl ⟨rfl, by rw [b2D, if_neg h1]; rfl⟩, jG, by decide⟩, fun b h => by simp [kH] at h⟩, hS4.forget⟩
 have h0 := dA.1 h1
 obtain ⟨hz1, hk0⟩ := a2C h0
 obtain ⟨hz3, hz4⟩ := pJ hz1
 have hf := Org.aO hz3
 have h8 : ks.length ≤ 8 := by
  have := hf.dlen
  have := (mZ hk0).2.1
  omega
 simp (disch := omega) only [↓RA, RC, simprocAttr, hsc, h1]
 refine Wp.aP jZ [(0, 4), (1, 4)] (by kernel_rfl) (by kernel_rfl) ?_
 simp (disch := omega) only [↓RA, RZ, simprocAttr, hn, g2, hS4.ag 0 rfl, hS4.ag 1 rfl]
 refine iG ((a0V (hS4.gl hG) kv ks (hk.ae hS4) h8).tr) ?_
 rintro r H5 ⟨-, hT2⟩
 have hS5 := hS4.trans hT2
 simp only [RT] at hS5
 obtain ⟨pv, rfl⟩ : ∃ w, w = r := ⟨r, rfl⟩
 simp (disch := omega) only [↓RA, RZ, simprocAttr, hn]
 have hSd := hS5
 refine iG (a1i o (ho.ae hS5) hf rg sv (hr.ae hS5) pv (iF ks) (hS5.aw 3 rfl jG) (pK hk0) (oB hk.ok hk0)) ?_
 rintro r H6 ⟨hx, hT3⟩
 have hS6 := hS5.trans hT3
 simp only [RT] at hS6
 obtain ⟨qv, rfl⟩ : ∃ w, w = r := ⟨r, rfl⟩
 simp (disch := omega) only [↓RA, RZ, simprocAttr, hn, hS5.ag 0 rfl, hS5.ag 1 rfl, c5E, hx.1.bg]
 rw [h0]
 refine ⟨qv, rfl, ⟨?_, fun b h => ?_⟩, hS6.forget⟩
 ·rw [b2D, if_pos h0]
  exact hx.1
 ·have := hx.2 b h
  have : H.length ≤ _ := hSd.len
  omega
end Go.Ds
namespace Go.Ds
open Go.Proofs
variable {H : Heap}
set_option maxRecDepth 10000
set_option maxHeartbeats 1000000
end Go.Ds
namespace Go.Ds
open Go.Proofs Go.Proofs.Tryz
variable {H : Heap}
set_option maxRecDepth 10000
set_option maxHeartbeats 1000000
def a1S (lo : Int) (w m : Nat) : List Int := ((List.range m).filter fun j => w.testBit j).map fun (j : Nat) => lo + (j : Int)
def wJ (lo hi : Int) : Nat := min 16 (hi - lo + 1).toNat
def yB (o : Org) (b : Nat → Nat) (i : Nat) : Nt := iP (a1S (iB o.dvs i).lo (b (i % 3)) (wJ (iB o.dvs i).lo (iB o.dvs i).hi))
def pQ (o : Org) (b : Nat → Nat) : List Nt := (List.range o.dvs.length).map (yB o b)
theorem c2D (a b : Nat) (h : a < 65536) : ((a : Nat) : Int).fdiv (2 ^ min b (IntKind.bits .u16)) = ((a >>> b : Nat) : Int) := by
 have e : IntKind.bits .u16 = 16 := rfl
 rw [e]
 have h1 : ((a : Nat) : Int).fdiv (2 ^ min b 16) = ((a / 2 ^ min b 16 : Nat) : Int) := by
  rw [gA _ (by exact Int.le_of_lt (Int.pow_pos (by decide)))]
  simp
 rw [h1, eM]
 by_cases hb : b ≤ 16
 ·rw [fD hb]
 ·rw [Nat.min_eq_right (by omega)]
  have h2 : a / 2 ^ 16 = 0 := gG (by simpa using h)
  have h3 : a / 2 ^ b = 0 := gG (dL (by simpa using h) (fw (by decide) (show 16 ≤ b by omega)))
  rw [h2, h3]
theorem b7U (n : Nat) (h : n < 65536) : IntKind.wrap .u16 ((BitVec.ofInt (IntKind.bits .u16) (n : Int) &&& BitVec.ofInt (IntKind.bits .u16) 1).toNat : Int) = ((n % 2 : Nat) : Int) := by
 have e : (BitVec.ofInt (IntKind.bits .u16) (n : Int) &&& BitVec.ofInt (IntKind.bits .u16) 1).toNat = n % 2 := by
  show (BitVec.ofInt 16 (n : Int) &&& BitVec.ofInt 16 1).toNat = n % 2
  rw [gI]
  have h1 : (BitVec.ofInt 16 (n : Int)).toNat = n := by
   rw [fJ, gQ]
   exact fP (by simpa using h)
  have h2 : (BitVec.ofInt 16 1).toNat = 1 := rfl
  rw [h1, h2, Nat.and_one_is_mod]
 rw [e]
 have : n % 2 < 2 := eS _ (by decide)
 have hh : n % 2 = 0 ∨ n % 2 = 1 := by omega
 rcases hh with h | h <;> rw [h] <;> rfl
theorem b5P {a : Nat} (b : Nat) (h : a < 65536) : a >>> b < 65536 := by
 rw [eM]
 exact Nat.lt_of_le_of_lt (Nat.div_le_self _ _) h
theorem b2K (lo : Int) (w m : Nat) : a1S lo w (m + 1) = a1S lo w m ++ (if w.testBit m then [lo + (m : Int)] else []) := by
 unfold a1S
 rw [ec, eI, dT]
 congr 1
 cases h : w.testBit m <;> simp [h]
theorem b7u (lo : Int) (w m : Nat) : (a1S lo w m).length ≤ m := by
 unfold a1S
 rw [eu]
 exact dB (ed _ _) (by simp)
theorem b9e (lo hi : Int) : wJ lo hi ≤ 16 := Nat.min_le_left _ _
theorem uN {o : Org} (hf : o.Fine) (w : Nat) {i : Nat} (hi : i < o.dvs.length) : ∀ z ∈ a1S (iB o.dvs i).lo w (wJ (iB o.dvs i).lo (iB o.dvs i).hi), isN z ∧ (iB o.dvs i).lo ≤ z ∧ z ≤ (iB o.dvs i).hi := by
 intro z hz
 have hk := hf.keys i hi
 unfold a1S wJ at hz
 obtain ⟨j, hj, rfl⟩ := dy.1 hz
 have hj := dx.1 (ew.1 hj).1
 exact ⟨⟨by omega, by omega⟩, by omega, by omega⟩
theorem b0c (o : Org) (ho : o.In H) (hf : o.Fine) (b : Nat → Nat) (hb : ∀ i, b i < 65536) :
 Fn prog 14 [.agg #[.string o.name, o.rv, o.dv, o.cv], .agg #[.int .u16 (b 0), .int .u16 (b 1), .int .u16 (b 2)]] H fun r H' =>
  St prog H H' [⟨r, 2, (pQ o b).flatMap tB⟩] := by
 have hd8 := hf.dlen
 refine .aE func14 rfl (by kernel_rfl) (m := 66) rfl fun l hn g0 g1 => ?_
 simp (disch := omega) only [↓RA, RB, simprocAttr, g0]
 refine (sR H).eNew 4 [(.string o.name), o.rv, o.dv, o.cv] rfl rfl (by simp [OC, ((sR H).sl ho.1).cells.2.1, ((sR H).sl ho.2.2.1).cells.2.1, ((sR H).sl ho.2.2.2.2.1).cells.2.1]) mB fun A1 H1 hS1 => ?_
 simp only [RT] at hS1
 simp (disch := omega) only [↓RA, RB, simprocAttr, g1]
 refine hS1.eNew 3 [(.int .u16 (b 0)), (.int .u16 (b 1)), (.int .u16 (b 2))] rfl rfl rfl c4g fun A2 H2 hS2 => ?_
 simp only [RT] at hS2
 simp (disch := omega) only [↓RA, RB, simprocAttr]
 have hS3 := hS2.nil 1
 simp only [RT] at hS3
 refine Wp.ak (fun n l H' => l.length = 66 ∧ get l 2 = (ptr A1 0 4) ∧ get l 3 = (ptr A2 0 3) ∧ get l 4 = (.slice none 0 0) ∧ ∃ (i : Nat) (kv : Value), (n + i = o.dvs.length) ∧ get l 6 = I i ∧ get l 5 = kv ∧ St prog H H' [⟨ptr A1 0 4, 0, [(.string o.name), o.rv, o.dv, o.cv]⟩, ⟨ptr A2 0 3, 0, [(.int .u16 (b 0)), (.int .u16 (b 1)), (.int .u16 (b 2))]⟩, ⟨kv, 2, ((List.range i).map (yB o b)).flatMap tB⟩]) o.dvs.length ?_ ?_
 ·simp (disch := omega) only [RB, RC, simprocAttr, hn]
  exact ⟨0, .slice none 0 0, by omega, rfl, rfl, hS3⟩
 rintro n l H3 ⟨hn, g2, g3, g4, i, kv, hi, g6, g5, hS4⟩
 simp (disch := omega) only [↓RA, RZ, simprocAttr, hn, g2, g6, hS4.ld 0 rfl, (hS4.sl ho.2.2.1).len]
 refine iA (fun q => ?_) (fun q => ?_)
 ·have hk := hf.keys i (by omega)
  simp (disch := omega) only [↓RA, RZ, simprocAttr, hn, g2, g6, hS4.ld 0 rfl, (hS4.sl ho.2.2.1).idx, (hS4.sl ho.2.2.1).bc, (hS4.sl ho.2.2.1).cJ 2, Dvn.cells, q]
  refine hS4.eNew 2 [I 0, I 0] rfl rfl rfl uB fun A3 H4 hS5 => ?_
  simp only [RT] at hS5
  simp (disch := omega) only [↓RA, RZ, simprocAttr, hn, q]
  refine hS5.ab 3 rfl [I (iB o.dvs i).lo, I (iB o.dvs i).hi] rfl rfl uB (by simp) fun H5 hS6 => ?_
  simp only [RT] at hS6
  simp (disch := omega) only [↓RA, RZ, simprocAttr, hn, hS6.ld 3 rfl, q]
  have hS7 := hS6.nil 0
  simp only [RT] at hS7
  refine Wp.ak (fun n l H' => l.length = 66 ∧ get l 2 = (ptr A1 0 4) ∧ get l 3 = (ptr A2 0 3) ∧ get l 4 = (.slice none 0 0) ∧ get l 5 = kv ∧ get l 6 = I i ∧ get l 8 = (ptr A3 0 2) ∧ ∃ (m : Nat) (lv : Value), (n + m = wJ (iB o.dvs i).lo (iB o.dvs i).hi) ∧ get l 9 = I ((iB o.dvs i).lo + m) ∧ get l 7 = lv ∧ St prog H H' [⟨ptr A1 0 4, 0, [(.string o.name), o.rv, o.dv, o.cv]⟩, ⟨ptr A2 0 3, 0, [(.int .u16 (b 0)), (.int .u16 (b 1)), (.int .u16 (b 2))]⟩, ⟨kv, 2, ((List.range i).map (yB o b)).flatMap tB⟩, ⟨ptr A3 0 2, 0, [I (iB o.dvs i).lo, I (iB o.dvs i).hi]⟩, ⟨lv, 1, (a1S (iB o.dvs i).lo (b (i % 3)) m).flatMap (one I)⟩]) (wJ (iB o.dvs i).lo (iB o.dvs i).hi) ?_ ?_
  ·simp (disch := omega) only [RB, RC, simprocAttr, hn, g2, g3, g4, g6, g5]
   exact ⟨0, .slice none 0 0, by omega, by simp, rfl, hS7⟩
  rintro n l H6 ⟨hn, g2, g3, g4, g5, g6, g8, m, lv, hm, g9, g7, hS8⟩
  simp (disch := omega) only [↓RA, RZ, simprocAttr, hn, g8, g9, hS8.ld 3 rfl]
  have hM := b9e (iB o.dvs i).lo (iB o.dvs i).hi
  have hi3 : (i : Int).tmod 3 = ((i % 3 : Nat) : Int) := (ez i 3).symm
  have hw : ([Value.int .u16 (b 0), .int .u16 (b 1), .int .u16 (b 2)] : List Value)[i % 3]? = some (.int .u16 (b (i % 3))) := by
   have : i % 3 = 0 ∨ i % 3 = 1 ∨ i % 3 = 2 := by omega
   rcases this with e | e | e <;> rw [e] <;> rfl
  have hsub : (iB o.dvs i).lo + (m : Int) - (iB o.dvs i).lo = (m : Int) := by omega
  have e1 := c2D (b (i % 3)) m (hb _)
  have e2 := b7U (b (i % 3) >>> m) (b5P m (hb _))
  have e3 := tb (b (i % 3)) m
  have hsu := b2K (iB o.dvs i).lo (b (i % 3)) m
  have hpl := b7u (iB o.dvs i).lo (b (i % 3)) m
  refine jM (fun q1 => ?_) (fun q1 => ?_)
  ·simp (disch := omega) only [↓RA, RZ, simprocAttr, hn, g8, g9, hS8.ld 3 rfl, q1]
   refine iA (fun q2 => ?_) (fun q2 => ?_)
   ·skip
    simp (disch := omega) only [↓RA, RC, simprocAttr, q1, q2]
    refine Wp.drw jZ (by kernel_rfl) ?_
    simp (disch := omega) only [↓RA, RZ, simprocAttr, hn, g3, g6, g8, g9, hS8.ld 1 rfl, hw, hS8.ld 3 rfl, hi3, hsub, e1, e2]
    refine iA (fun q3 => ?_) (fun q3 => ?_)
    ·rw [e3, decide_eq_true (by omega), if_pos rfl] at hsu
     simp (disch := omega) only [↓RA, RZ, simprocAttr, hn, g9, g7, q3]
     refine hS8.ai [I ((iB o.dvs i).lo + m)] a3c a7i rfl rfl (by simp [Value.cells]) rfl rfl (by decide) (by decide) fun w1 H7 hS9 => ?_
     simp only [RT] at hS9
     simp (disch := omega) only [↓RA, RZ, simprocAttr, hn, q3]
     refine hS9.al 4 rfl (hS9.rd 5 rfl) a3c (by rw [iM (n := 1) (cel := one I) (fun _ => rfl)]; simp; omega) fun w2 H8 hS10 => ?_
     simp only [RT] at hS10
     simp (disch := omega) only [↓RA, RZ, simprocAttr, hn, g2, g3, g4, g5, g6, g8, g9, q3]
     refine ⟨n - 1, by unfold wJ at hm; omega, m + 1, w2, by unfold wJ at hm ⊢; omega, by simp; omega, rfl, ?_⟩
     rw [hsu, dI]
     exact hS10.pick [0, 1, 2, 3, 4] (by decide) rfl
    rw [e3, decide_eq_false (by omega), if_neg (by simp), dj] at hsu
    simp (disch := omega) only [↓RA, RZ, simprocAttr, hn, g2, g3, g4, g5, g6, g8, g9, g7, q3]
    refine ⟨n - 1, by unfold wJ at hm; omega, m + 1, lv, by unfold wJ at hm ⊢; omega, by simp; omega, rfl, ?_⟩
    rw [hsu]
    exact hS8.pick [0, 1, 2, 3, 4] (by decide) rfl
   have hmM : m = wJ (iB o.dvs i).lo (iB o.dvs i).hi := by unfold wJ at hm hM ⊢; omega
   have hz := uN hf (b (i % 3)) (show i < o.dvs.length by omega)
   subst hmM
   simp (disch := omega) only [↓RA, RZ, simprocAttr, hn, g7, q1, q2]
   refine hS8.cF (xP (a1S (iB o.dvs i).lo (b (i % 3)) (wJ (iB o.dvs i).lo (iB o.dvs i).hi)) (fun z h => (hz z h).1) lv (hS8.aw 4 rfl (tU _)) (by omega)) fun H9 hS11 => ?_
   simp (disch := omega) only [↓RA, RZ, simprocAttr, hn, q1, q2]
   refine hS11.eNew 2 [(.int .u64 0), (.int .u64 0)] rfl rfl rfl kW fun A4 H10 hS12 => ?_
   simp only [RT] at hS12
   simp (disch := omega) only [↓RA, RZ, simprocAttr, hn, q1, q2]
   refine hS12.ab 5 rfl [(.int .u64 (yB o b i).1), (.int .u64 (yB o b i).2)] rfl rfl kW (by simp) fun H11 hS13 => ?_
   simp only [RT] at hS13
   simp (disch := omega) only [↓RA, RZ, simprocAttr, hn, g5, hS13.ag 5 rfl, q1, q2]
   refine hS13.ai [(.int .u64 (yB o b i).1), (.int .u64 (yB o b i).2)] b0L c3l rfl rfl (by simp [Value.cells]) rfl rfl (by decide) (by decide) fun w3 H12 hS14 => ?_
   simp only [RT] at hS14
   simp (disch := omega) only [↓RA, RZ, simprocAttr, hn, q1, q2]
   refine hS14.al 2 rfl (hS14.rd 6 rfl) b0L (by rw [iM (n := 2) (cel := tB) (fun _ => rfl)]; simp; omega) fun w4 H13 hS15 => ?_
   simp only [RT] at hS15
   simp (disch := omega) only [↓RA, RZ, simprocAttr, hn, g2, g3, g4, g6, q1, q2]
   refine ⟨o.dvs.length - (i + 1), by omega, i + 1, w4, by omega, by simp, rfl, ?_⟩
   rw [ec, dT, dI]
   exact hS15.pick [0, 1, 2] (by decide) rfl
  have hmM : m = wJ (iB o.dvs i).lo (iB o.dvs i).hi := by unfold wJ at hm hM ⊢; omega
  have hz := uN hf (b (i % 3)) (show i < o.dvs.length by omega)
  subst hmM
  simp (disch := omega) only [↓RA, RZ, simprocAttr, hn, g7, q1]
  refine hS8.cF (xP (a1S (iB o.dvs i).lo (b (i % 3)) (wJ (iB o.dvs i).lo (iB o.dvs i).hi)) (fun z h => (hz z h).1) lv (hS8.aw 4 rfl (tU _)) (by omega)) fun H14 hS16 => ?_
  simp (disch := omega) only [↓RA, RZ, simprocAttr, hn, q1]
  refine hS16.eNew 2 [(.int .u64 0), (.int .u64 0)] rfl rfl rfl kW fun A5 H15 hS17 => ?_
  simp only [RT] at hS17
  simp (disch := omega) only [↓RA, RZ, simprocAttr, hn, q1]
  refine hS17.ab 5 rfl [(.int .u64 (yB o b i).1), (.int .u64 (yB o b i).2)] rfl rfl kW (by simp) fun H16 hS18 => ?_
  simp only [RT] at hS18
  simp (disch := omega) only [↓RA, RZ, simprocAttr, hn, g5, hS18.ag 5 rfl, q1]
  refine hS18.ai [(.int .u64 (yB o b i).1), (.int .u64 (yB o b i).2)] b0L c3l rfl rfl (by simp [Value.cells]) rfl rfl (by decide) (by decide) fun w5 H17 hS19 => ?_
  simp only [RT] at hS19
  simp (disch := omega) only [↓RA, RZ, simprocAttr, hn, q1]
  refine hS19.al 2 rfl (hS19.rd 6 rfl) b0L (by rw [iM (n := 2) (cel := tB) (fun _ => rfl)]; simp; omega) fun w6 H18 hS20 => ?_
  simp only [RT] at hS20
  simp (disch := omega) only [↓RA, RZ, simprocAttr, hn, g2, g3, g4, g6, q1]
  refine ⟨o.dvs.length - (i + 1), by omega, i + 1, w6, by omega, by simp, rfl, ?_⟩
  rw [ec, dT, dI]
  exact hS20.pick [0, 1, 2] (by decide) rfl
 simp (disch := omega) only [↓RA, RZ, simprocAttr, hn, g5, c7A, q]
 have hii : i = o.dvs.length := by omega
 subst hii
 exact hS4.pick [2] (by decide) rfl
theorem tS (o : Org) (b : Nat → Nat) : (pQ o b).length = o.dvs.length := by simp [pQ]
theorem a4Y {o : Org} {b : Nat → Nat} {i : Nat} (hi : i < o.dvs.length) : iB (pQ o b) i = yB o b i := by
 rw [jJ _ i (by rw [tS]; exact hi)]
 simp [pQ]
theorem b1O {o : Org} (hf : o.Fine) (b : Nat → Nat) {i : Nat} (hi : i < o.dvs.length) : Nt.Ok (yB o b i) := sM _ _ (fun z h => (uN hf (b (i % 3)) hi z h).1) ⟨by decide, by decide⟩
theorem a8e {o : Org} (hf : o.Fine) (b : Nat → Nat) : ∀ x ∈ pQ o b, Nt.Ok x := by
 intro x hx
 obtain ⟨i, hi, rfl⟩ := dy.1 hx
 exact b1O hf b (dx.1 hi)
theorem a7j {x y : Nt} (hx : Nt.Ok x) (h : ∀ z, isN z → mI x z = true → mI y z = true) : woF x y = (0, 0) := by
 have k : ∀ z, isN z → mI (woF x y) z = false := fun z hz => by
  rw [b1Z hx hz]
  cases e : mI x z with
  | false => rfl
  | true => rw [h z hz e]; rfl
 have big : ∀ a : Nat, a < 18446744073709551616 → ∀ j, 64 ≤ j → a.testBit j = false := fun a ha j hj =>
  Nat.testBit_lt_two_pow (dL (show a < 2 ^ 64 from ha) (fw (by decide) hj))
 obtain ⟨h1, h2⟩ := c2V x y
 apply fI
 ·apply fY
  intro j
  rw [ik]
  by_cases hj : 64 ≤ j
  ·exact big _ h1 j hj
  ·have := k (j : Int) ⟨by omega, by omega⟩
   unfold mI at this
   rw [if_pos (by omega)] at this
   exact this
 ·apply fY
  intro j
  rw [ik]
  by_cases hj : 64 ≤ j
  ·exact big _ h2 j hj
  ·have := k (64 + j : Int) ⟨by omega, by omega⟩
   unfold mI at this
   rw [if_neg (by omega), show (64 + (j : Int) - 64).toNat = j by omega] at this
   exact this
theorem b0x {o : Org} (h0 : organE o = 0) (b : Nat → Nat) : mT o (pQ o b) = 0 := by
 have hf := Org.aO h0
 unfold mT
 rw [if_neg (by rw [h0]; simp), if_neg (by rw [tS]; simp), if_neg]
 rintro ⟨j, hj, hne⟩
 apply hne
 have hk := hf.keys j hj
 rw [a4Y hj]
 refine a7j (b1O hf b hj) fun z hz hh => ?_
 rw [yB, xW (fun n hn => (uN hf (b (j % 3)) hj n hn).1) hz] at hh
 have := uN hf (b (j % 3)) hj z (of_decide_eq_true hh)
 rw [yU hk.1 hk.2.2 hz, decide_eq_true this.2.1, decide_eq_true this.2.2]
 rfl
end Go.Ds
namespace Go.Ds
open Go.Proofs
set_option maxRecDepth 10000
theorem a9L {o : Org} (hf : o.Fine) {r : Reg} {l m : List Ct} (h : ∀ x, x ∈ l ↔ x ∈ m) : kG o r l = kG o r m := by
 refine qN _ _ (a0T o r l) (a0T o r m) fun p => ?_
 rw [a2m hf, a2m hf]
 exact exists_congr fun c => and_congr_left fun _ => h c
theorem rL {ks : List Nt} {x : Ct} : x ∈ iF ks ↔ (0 ≤ x.1 ∧ x.1 < ks.length) ∧ isN x.2 ∧ mI (iB ks x.1.toNat) x.2 = true := by
 unfold iF plD
 rw [dQ]
 constructor
 ·rintro ⟨i, hi, h⟩
  have hi := dx.1 hi
  obtain ⟨z, hz, rfl⟩ := dy.1 h
  exact ⟨⟨by simp, by simp; omega⟩, vN.1 hz⟩
 ·rintro ⟨⟨h1, h2⟩, h3⟩
  refine ⟨x.1.toNat, dx.2 (by omega), dy.2 ⟨x.2, vN.2 h3, ?_⟩⟩
  apply fI
  ·simp; omega
  ·rfl
def pM (o : Org) (c : Ct) : List Nt := (List.replicate o.dvs.length ((0, 0) : Nt)).set c.1.toNat (iP [c.2])
theorem xY (o : Org) (c : Ct) : (pM o c).length = o.dvs.length := by simp [pM]
theorem mG {o : Org} (hf : o.Fine) {c : Ct} (hc : lA o c = true) : isN c.2 := by
 have h := uO hf hc
 exact ⟨by omega, by omega⟩
theorem a0P {z : Int} (h : isN z) : Nt.Ok (iP [z]) := sM _ _ (fun y hy => by rw [dw.1 hy]; exact h) ⟨by decide, by decide⟩
theorem sW {z y : Int} (h : isN z) (hy : isN y) : mI (iP [z]) y = decide (y = z) := by
 rw [xW (fun n hn => by rw [dw.1 hn]; exact h) hy]
 simp
theorem a4G {o : Org} (hf : o.Fine) {c : Ct} (hc : lA o c = true) : ∀ x ∈ pM o c, Nt.Ok x := by
 intro x hx
 unfold pM at hx
 rcases List.mem_or_eq_of_mem_set hx with h | h
 ·rw [List.eq_of_mem_replicate h]
  exact ⟨by decide, by decide⟩
 ·rw [h]
  exact a0P (mG hf hc)
theorem a1B {α : Type} [Inhabited α] (l : List α) (i j : Nat) (x : α) (h : i < l.length) : iB (l.set i x) j = if j = i then x else iB l j := by
 unfold iB
 rw [db, db]
 by_cases e : j = i
 ·subst e
  rw [if_pos rfl, List.getElem?_set_self h]
  rfl
 ·rw [if_neg e, List.getElem?_set_ne (fb e)]
theorem yX {o : Org} (hf : o.Fine) {c : Ct} (hc : lA o c = true) : iF (pM o c) = [c] := by
 have h := (kL o c).1 hc
 refine qN _ _ (a4a _) (List.pairwise_singleton _ _) fun x => ?_
 rw [rL, xY, dw]
 constructor
 ·rintro ⟨⟨h1, h2⟩, h3, h4⟩
  unfold pM at h4
  rw [a1B _ _ _ _ (by simp; omega)] at h4
  split at h4
  ·rename_i e
   rw [sW (mG hf hc) h3] at h4
   exact fI (by omega) (of_decide_eq_true h4)
  ·rw [jJ _ _ (by simp; omega), List.getElem_replicate, a0F] at h4
   exact absurd h4 (by simp)
 ·rintro rfl
  refine ⟨⟨h.1, h.2.1⟩, mG hf hc, ?_⟩
  unfold pM
  rw [a1B _ _ _ _ (by simp; omega), if_pos rfl, sW (mG hf hc) (mG hf hc)]
  simp
theorem a8d {o : Org} (h0 : organE o = 0) {ks : List Nt} (hl : ks.length = o.dvs.length) (hok : ∀ x ∈ ks, Nt.Ok x) (hc : ∀ x ∈ iF ks, lA o x = true) : mT o ks = 0 := by
 have hf := Org.aO h0
 unfold mT
 rw [if_neg (by rw [h0]; simp), if_neg (by rw [hl]; simp), if_neg]
 rintro ⟨j, hj, hne⟩
 apply hne
 have hk := hf.keys j hj
 refine a7j (hok _ (iD (by omega))) fun z hz hh => ?_
 have := (kL o _).1 (hc ((j : Int), z) (rL.2 ⟨⟨by simp, by simp; omega⟩, hz, by simpa using hh⟩))
 simp only [eh] at this
 rw [yU hk.1 hk.2.2 hz, decide_eq_true this.2.2.1, decide_eq_true this.2.2.2]
 rfl
theorem b8s {o : Org} (h0 : organE o = 0) {c : Ct} (hc : lA o c = true) : mT o (pM o c) = 0 :=
 a8d h0 (xY o c) (a4G (Org.aO h0) hc) fun x hx => by
  rw [yX (Org.aO h0) hc] at hx
  rw [dw.1 hx]
  exact hc
def uG (ks : List Nt) (c : Ct) : List Nt := ks.set c.1.toNat (unF (iB ks c.1.toNat) (iP [c.2]))
theorem a0y (ks : List Nt) (c : Ct) : (uG ks c).length = ks.length := by simp [uG]
theorem a7M {o : Org} (hf : o.Fine) {ks : List Nt} (hl : ks.length = o.dvs.length) (hok : ∀ x ∈ ks, Nt.Ok x) {c : Ct} (hc : lA o c = true) : ∀ x ∈ uG ks c, Nt.Ok x := by
 have h := (kL o c).1 hc
 intro x hx
 unfold uG at hx
 rcases List.mem_or_eq_of_mem_set hx with h | h
 ·exact hok x h
 ·rw [h]
  exact c3w (hok _ (iD (by omega))) (a0P (mG hf hc))
theorem a6f (x y : Nt) (z : Int) : mI (unF x y) z = (mI x z || mI y z) := by
 unfold mI unF
 split <;> rw [gW]
theorem a1j {o : Org} (hf : o.Fine) {ks : List Nt} (hl : ks.length = o.dvs.length) {c : Ct} (hc : lA o c = true) {x : Ct} : x ∈ iF (uG ks c) ↔ x ∈ iF ks ++ [c] := by
 have h := (kL o c).1 hc
 rw [dC, dw, rL, rL, a0y]
 have key : ∀ d : Nat, iB (uG ks c) d = if d = c.1.toNat then unF (iB ks c.1.toNat) (iP [c.2]) else iB ks d := fun d => a1B _ _ _ _ (by omega)
 constructor
 ·rintro ⟨h1, h2, h3⟩
  rw [key] at h3
  split at h3
  ·rename_i e
   rw [a6f, eo] at h3
   rcases h3 with h3 | h3
   ·exact .inl ⟨h1, h2, by rw [e]; exact h3⟩
   ·rw [sW (mG hf hc) h2] at h3
    exact .inr (fI (by omega) (of_decide_eq_true h3))
  ·exact .inl ⟨h1, h2, h3⟩
 ·rintro (⟨h1, h2, h3⟩ | rfl)
  ·refine ⟨h1, h2, ?_⟩
   rw [key]
   split
   ·rename_i e
    rw [a6f, ← e, h3]
    rfl
   ·exact h3
  ·refine ⟨by omega, mG hf hc, ?_⟩
   rw [key, if_pos rfl, a6f, sW (mG hf hc) (mG hf hc)]
   simp
theorem c3C {o : Org} (h0 : organE o = 0) {ks : List Nt} (hok : ∀ x ∈ ks, Nt.Ok x) (hk : mT o ks = 0) {c : Ct} (hc : lA o c = true) : mT o (uG ks c) = 0 := by
 have hf := Org.aO h0
 have hl := (mZ hk).2.1
 refine a8d h0 (by rw [a0y, hl]) (a7M hf hl hok hc) fun x hx => ?_
 rcases dC.1 ((a1j hf hl hc).1 hx) with h | h
 ·exact oB hok hk x h
 ·rw [dw.1 h]
  exact hc
theorem a9Q {o : Org} (hf : o.Fine) {ks : List Nt} (hl : ks.length = o.dvs.length) {c : Ct} (hc : lA o c = true) (r : Reg) : kG o r (iF (uG ks c)) = kG o r (iF ks ++ [c]) :=
 a9L hf fun _ => a1j hf hl hc
theorem Star.mono {α : Type} {R R' : α → α → Prop} (h : ∀ a b, R a b → R' a b) {a b : α} (hs : Star R a b) : Star R' a b := by
 induction hs with
 | refl => exact .refl _
 | tail _ h2 ih => exact .tail ih (h _ _ h2)
end Go.Ds
namespace Go.Ds
open Go.Proofs Go.Proofs.Tryz Go.Shelf Go.RowKit Go.Lib Go.Sort
def sm (x : Int × Int) : Prop := -1000000000 ≤ x.1 ∧ x.1 ≤ 1000000000 ∧ -1000000000 ≤ x.2 ∧ x.2 ≤ 1000000000
abbrev Sm := {x : Int × Int // sm x}
instance : Inhabited Sm := ⟨⟨(0, 0), by unfold sm; decide⟩⟩
def cfd (x y : Sm) : Int := if x.1.1 ≠ y.1.1 then x.1.1 - y.1.1 else x.1.2 - y.1.2
theorem ltd (x y : Sm) : ltOf cfd x y = decide (x.1.1 < y.1.1 ∨ (x.1.1 = y.1.1 ∧ x.1.2 < y.1.2)) := by
 unfold ltOf cfd
 congr 1
 apply propext
 split <;> omega
theorem c4Z : SWO (ltOf cfd) where
 irrefl x := by rw [ltd]; simp
 trans x y z h1 h2 := by rw [ltd] at *; simp at *; omega
 ntrans x y z h1 h2 := by rw [ltd] at *; simp at *; omega
theorem c4t (x y : Sm) (h1 : ltOf cfd x y = false) (h2 : ltOf cfd y x = false) : x = y := by
 rw [ltd] at *
 simp at h1 h2
 apply Subtype.ext
 apply fI <;> omega
theorem c1P (x y : Sm) : (!(ltOf cfd) y x) = le2 x.1 y.1 := by
 rw [ltd, ← b0j]
 simp only [lt2]
theorem b6E (l : Array Sm) : flatK (fun x : Sm => jF x.1) 2 l = flatK jF 2 (l.map (·.1)) := by
 unfold flatK
 rw [Array.size_map]
 congr 1
 funext t
 congr 2
 by_cases h : t / 2 < l.size
 ·simp [h]
 ·simp [h]
  rfl
theorem b5c (w : World) (kH off n : Nat) (l : List Sm) (os : Array Obj) : sortWorldK (fun x : Sm => jF x.1) 2 w kH off n l.toArray os = sortWorldK jF 2 w kH off n (l.map (·.1)).toArray os := by
 unfold sortWorldK putRowK
 rw [b6E, List.map_toArray]
theorem c0u (l : List (Int × Int)) (h : ∀ x ∈ l, sm x) : (l.attachWith sm h).map (·.1) = l := by
 rw [List.map_attachWith]
 exact List.attach_map_subtype_val l
theorem b5q (l : List Sm) : (l.mergeSort fun x y => !(ltOf cfd) y x).map (·.1) = (l.map (·.1)).mergeSort le2 :=
 List.map_mergeSort fun x _ y _ => c1P x y
theorem c5I (kc : FuncId) (eg : ∀ args w, (callFunc kc args).run prog w = .ok (.enter kc args) w) (hf : ∀ x y : Sm, Fn prog kc [.agg #[I x.1.1, I x.1.2], .agg #[I y.1.1, I y.1.2]] .nil fun r H' => r = I (cfd x y) ∧ St prog (.nil : Heap) H' []) : a0Q prog 62 kc sm :=
 fun kH off cap d w hs hH hblk hsz => by
  have hd : (d.toList.attachWith sm hs).toArray.map (·.1) = d := by
   rw [List.map_toArray, c0u]
  have hl : (d.toList.attachWith sm hs).toArray.size = d.size := by simp
  have hH' : HoldsK (fun x : Sm => jF x.1) 2 w kH off (d.toList.attachWith sm hs).toArray := by
   unfold HoldsK at hH ⊢
   rw [b6E, hd]
   exact hH
  have h := AnyQ.slices_SortFunc_total Tryz.bE 2 Tryz.isAgg70 Tryz.sizeOf70 (fun x : Sm => jF x.1) (fun _ => rfl) (fun x => zI x.1) cfd c4Z kc #[] kH off cap (d.toList.attachWith sm hs).toArray w eg (a2B (fun x : Sm => x.1) cfd hf kH off _ w) hH' hblk (by rw [hl]; exact hsz) c4t
  rw [hl] at h
  refine h.mono ?_
  rintro e w' ⟨h1, n, os, h2⟩
  exact ⟨h1, n, os, by rw [h2, b5c, List.toList_toArray, b5q, c0u]⟩
def b2n (K kc : FuncId) : Prop := ∀ {H : Heap} {B : Base} {os : List Ob} (hS : St prog B H os) (i : Nat) {v : Value} {es : List (Int × Int)} (ho : os[i]? = some ⟨v, 2, pr es⟩) (hl : es.length < 100000000000) (hsm : ∀ x ∈ es, sm x) {Q : Value → Heap → Prop}
    (h : ∀ H1, St prog B H1 (os.set i ⟨v, 2, pr (pA es)⟩) → Q (.tuple #[]) H1), uT prog K [v, .func (.func kc) #[] #[]] H Q
section
variable {H : Heap}
theorem b8h (x y : Sm) : Fn prog 63 [.agg #[I x.1.1, I x.1.2], .agg #[I y.1.1, I y.1.2]] H fun r H' => r = I (cfd x y) ∧ St prog H H' [] := by
 obtain ⟨⟨x1, x2⟩, hx⟩ := x
 obtain ⟨⟨y1, y2⟩, hy⟩ := y
 unfold sm at hx hy
 simp only at hx hy ⊢
 refine .aE func63 rfl (by kernel_rfl) (m := 20) rfl fun l hn g0 g1 => ?_
 simp (disch := omega) only [↓RA, RB, simprocAttr, g0]
 refine (sR H).eNew 2 [I x1, I x2] rfl rfl rfl pS fun A1 H1 hS1 => ?_
 simp only [RT] at hS1
 simp (disch := omega) only [↓RA, RB, simprocAttr, g1]
 refine hS1.eNew 2 [I y1, I y2] rfl rfl rfl pS fun A2 H2 hS2 => ?_
 simp only [RT] at hS2
 simp (disch := omega) only [↓RA, RZ, simprocAttr, hn, hS2.ld 0 rfl, hS2.ld 1 rfl]
 refine iA (fun q => ?_) (fun q => ?_)
 ·simp (disch := omega) only [↓RA, RZ, simprocAttr, hn, hS2.ld 0 rfl, hS2.ld 1 rfl, c6d, q]
  exact ⟨by unfold cfd; rw [if_pos q], hS2.forget⟩
 simp (disch := omega) only [↓RA, RZ, simprocAttr, hn, hS2.ld 0 rfl, hS2.ld 1 rfl, c6d, q]
 exact ⟨by unfold cfd; rw [if_neg q], hS2.forget⟩
end
theorem c1k : b2n 62 63 := fun hS i _ _ ho hl hsm _ h => vJ (c5I 63 (enters_of func63 (by kernel_rfl) rfl) fun x y => b8h x y) c2p c1L hS i ho hl hsm h
end Go.Ds
namespace Go.Ds
open Go.Proofs Go.Proofs.Tryz
variable {H : Heap}
set_option maxRecDepth 10000
set_option maxHeartbeats 1000000
theorem c6b (o : Org) (ho : o.In H) (d z : Int) : Fn prog 69 [.agg #[.string o.name, o.rv, o.dv, o.cv], .agg #[I d, I z]] H fun r H' => r = .bool (lA o (d, z)) ∧ St prog H H' [] := by
 have hl := ho.2.2.2.2.2.2.1
 by_cases hd : 0 ≤ d
 ·obtain ⟨j, rfl⟩ := eP hd
  refine .aE func69 rfl (by kernel_rfl) (m := 42) rfl fun l hn g0 g1 => ?_
  simp (disch := omega) only [↓RA, RB, simprocAttr, g0]
  refine (sR H).eNew 4 [(.string o.name), o.rv, o.dv, o.cv] rfl rfl (by simp [OC, ((sR H).sl ho.1).cells.2.1, ((sR H).sl ho.2.2.1).cells.2.1, ((sR H).sl ho.2.2.2.2.1).cells.2.1]) mB fun A1 H1 hS1 => ?_
  simp only [RT] at hS1
  simp (disch := omega) only [↓RA, RB, simprocAttr, g1]
  refine hS1.eNew 2 [I j, I z] rfl rfl rfl mC fun A2 H2 hS2 => ?_
  simp only [RT] at hS2
  simp (disch := omega) only [↓RA, RB, simprocAttr]
  refine Wp.drw jZ (by kernel_rfl) ?_
  simp (disch := omega) only [↓RA, RZ, simprocAttr, hn, hS2.ld 1 rfl]
  refine jM (fun g1 => ?_) (fun g1 => ?_)
  rotate_left
  ·exfalso; first | omega | (simp at g1; omega)
  simp (disch := omega) only [↓RA, RZ, simprocAttr, hn, hS2.ld 1 rfl, hS2.ld 0 rfl, (hS2.sl ho.2.2.1).len, g1]
  refine jM (fun g2 => ?_) (fun g2 => ?_)
  ·simp (disch := omega) only [↓RA, RZ, simprocAttr, hn, hS2.ld 1 rfl, hS2.ld 0 rfl, (hS2.sl ho.2.2.1).idx, (hS2.sl ho.2.2.1).bc, (hS2.sl ho.2.2.1).ld, Dvn.cells, g1, g2]
   refine jM (fun g3 => ?_) (fun g3 => ?_)
   ·simp (disch := omega) only [↓RA, RZ, simprocAttr, hn, hS2.ld 1 rfl, hS2.ld 0 rfl, (hS2.sl ho.2.2.1).idx, (hS2.sl ho.2.2.1).bc, (hS2.sl ho.2.2.1).ld, Dvn.cells, b8f, g1, g2, g3]
    exact ⟨by unfold lA; simp only [eh]; congr 1; simp; omega, hS2.forget⟩
   simp (disch := omega) only [↓RA, RZ, simprocAttr, hn, b8f, g1, g2, g3]
   exact ⟨by congr 1; symm; rw [← eE, kL]; simp only [eh]; omega, hS2.forget⟩
  simp (disch := omega) only [↓RA, RZ, simprocAttr, hn, b8f, g1, g2]
  exact ⟨by congr 1; symm; rw [← eE, kL]; simp only [eh]; omega, hS2.forget⟩
 ·refine .aE func69 rfl (by kernel_rfl) (m := 42) rfl fun l hn g0 g1 => ?_
  simp (disch := omega) only [↓RA, RB, simprocAttr, g0]
  refine (sR H).eNew 4 [(.string o.name), o.rv, o.dv, o.cv] rfl rfl (by simp [OC, ((sR H).sl ho.1).cells.2.1, ((sR H).sl ho.2.2.1).cells.2.1, ((sR H).sl ho.2.2.2.2.1).cells.2.1]) mB fun A1 H1 hS1 => ?_
  simp only [RT] at hS1
  simp (disch := omega) only [↓RA, RB, simprocAttr, g1]
  refine hS1.eNew 2 [I d, I z] rfl rfl rfl mC fun A2 H2 hS2 => ?_
  simp only [RT] at hS2
  simp (disch := omega) only [↓RA, RB, simprocAttr]
  refine Wp.drw jZ (by kernel_rfl) ?_
  simp (disch := omega) only [↓RA, RZ, simprocAttr, hn, hS2.ld 1 rfl]
  refine jM (fun g1 => ?_) (fun g1 => ?_)
  ·exfalso; first | omega | (simp at g1; omega)
  simp (disch := omega) only [↓RA, RZ, simprocAttr, hn, b8f, g1]
  exact ⟨by congr 1; symm; rw [← eE, kL]; simp only; omega, hS2.forget⟩
theorem a5p (o : Org) (ho : o.In H) (c : Ct) : Fn prog 69 [.agg #[.string o.name, o.rv, o.dv, o.cv], .agg #[I c.1, I c.2]] H fun r H' => r = .bool (lA o c) ∧ St prog H H' [] := c6b o ho c.1 c.2
def a8K (o : Org) (ks : List Nt) (i n : Nat) : List Ct := ((List.range n).filter fun (j : Nat) => mI (iB ks i) ((iB o.dvs i).lo + (j : Int))).map fun (j : Nat) => ((i : Int), (iB o.dvs i).lo + (j : Int))
theorem b3j (o : Org) (ks : List Nt) (i n : Nat) : a8K o ks i (n + 1) = a8K o ks i n ++ (if mI (iB ks i) ((iB o.dvs i).lo + (n : Int)) then [((i : Int), (iB o.dvs i).lo + (n : Int))] else []) := by
 unfold a8K
 rw [ec, eI, dT]
 congr 1
 cases h : mI (iB ks i) ((iB o.dvs i).lo + (n : Int)) <;> simp [h]
theorem b1M (o : Org) (ks : List Nt) (i n : Nat) : (a8K o ks i n).length ≤ n := by
 unfold a8K
 rw [eu]
 exact dB (ed _ _) (by simp)
theorem a6I {o : Org} (hf : o.Fine) (ks : List Nt) : ∀ i, i ≤ o.dvs.length → ((List.range i).flatMap (a2y o ks)).length ≤ i * 128
 | 0, _ => by simp
 | i + 1, h => by
   have h1 := a6I hf ks i (by omega)
   have h2 := b1M o ks i ((iB o.dvs i).hi - (iB o.dvs i).lo + 1).toNat
   have hk := hf.keys i (by omega)
   have h3 : (a2y o ks i).length ≤ 128 := dB h2 (by omega)
   rw [ec, dI, dm, dz, eF, dj]
   omega
theorem a6L (o : Org) (ho : o.In H) (hf : o.Fine) (kv : Value) (ks : List Nt) (hk : Ks H kv ks) (hl : ks.length = o.dvs.length) :
 Fn prog 48 [.agg #[.string o.name, o.rv, o.dv, o.cv], kv] H fun r H' => St prog H H' [⟨r, 2, pr (b0g o ks)⟩] := by
 have hd8 := hf.dlen
 refine .aE func48 rfl (by kernel_rfl) (m := 55) rfl fun l hn g0 g1 => ?_
 simp (disch := omega) only [↓RA, RB, simprocAttr, g0]
 refine (sR H).eNew 4 [(.string o.name), o.rv, o.dv, o.cv] rfl rfl (by simp [OC, ((sR H).sl ho.1).cells.2.1, ((sR H).sl ho.2.2.1).cells.2.1, ((sR H).sl ho.2.2.2.2.1).cells.2.1]) mB fun A1 H1 hS1 => ?_
 simp only [RT] at hS1
 simp (disch := omega) only [↓RA, RZ, simprocAttr, hn, hS1.ld 0 rfl, (hS1.sl ho.2.2.1).len]
 have hS2 := hS1.nil 1
 simp only [RT] at hS2
 refine Wp.ak (fun n l H' => l.length = 55 ∧ get l 1 = kv ∧ get l 4 = (.slice none 0 0) ∧ get l 11 = o.dv ∧ get l 12 = I o.dvs.length ∧ ∃ (i : Nat) (ov : Value), (n + i = o.dvs.length) ∧ get l 13 = I i ∧ get l 5 = ov ∧ St prog H H' [⟨ptr A1 0 4, 0, [(.string o.name), o.rv, o.dv, o.cv]⟩, ⟨ov, 2, pr ((List.range i).flatMap (a2y o ks))⟩]) o.dvs.length ?_ ?_
 ·simp (disch := omega) only [RB, RC, simprocAttr, hn, g1]
  exact ⟨0, .slice none 0 0, by omega, rfl, rfl, hS2⟩
 rintro n l H2 ⟨hn, g1, g4, g11, g12, i, ov, hi, g13, g5, hS3⟩
 simp (disch := omega) only [↓RA, RB, simprocAttr, hn, g12, g13]
 refine iA (fun q => ?_) (fun q => ?_)
 ·have hky := hf.keys i (by omega)
  have hx := hk.ok _ (iD (xs := ks) (j := i) (by omega))
  have hpl := a6I hf ks i (by omega)
  simp (disch := omega) only [↓RA, RZ, simprocAttr, hn, g11, g13, (hS3.sl ho.2.2.1).idx, (hS3.sl ho.2.2.1).ag, Dvn.cells, q]
  refine hS3.eNew 5 [(.string ⟨#[]⟩), (.bool false), I 0, I 0, (.slice none 0 0)] rfl rfl rfl uJ fun A2 H3 hS4 => ?_
  simp only [RT] at hS4
  simp (disch := omega) only [↓RA, RZ, simprocAttr, hn, q]
  refine hS4.ab 2 rfl [(.string (iB o.dvs i).name), (.bool (iB o.dvs i).pedal), I (iB o.dvs i).lo, I (iB o.dvs i).hi, (iB o.dvs i).sv] rfl (by simp [OC, (hS4.sl (ho.2.2.2.1 (iB o.dvs i) (iD (by omega))).1).cells.2.1]) uJ (by simp) fun H4 hS5 => ?_
  simp only [RT] at hS5
  simp (disch := omega) only [↓RA, RZ, simprocAttr, hn, hS5.ld 2 rfl, q]
  refine Wp.ak (fun n l H' => l.length = 55 ∧ get l 1 = kv ∧ get l 4 = (.slice none 0 0) ∧ get l 6 = I i ∧ get l 7 = (ptr A2 0 5) ∧ get l 11 = o.dv ∧ get l 12 = I o.dvs.length ∧ get l 13 = I i ∧ ∃ (j : Nat) (ow : Value), (n + j = ((iB o.dvs i).hi - (iB o.dvs i).lo + 1).toNat) ∧ get l 8 = I ((iB o.dvs i).lo + j) ∧ get l 5 = ow ∧ St prog H H' [⟨ptr A1 0 4, 0, [(.string o.name), o.rv, o.dv, o.cv]⟩, ⟨ow, 2, pr ((List.range i).flatMap (a2y o ks) ++ a8K o ks i j)⟩, ⟨ptr A2 0 5, 0, [(.string (iB o.dvs i).name), (.bool (iB o.dvs i).pedal), I (iB o.dvs i).lo, I (iB o.dvs i).hi, (iB o.dvs i).sv]⟩]) ((iB o.dvs i).hi - (iB o.dvs i).lo + 1).toNat ?_ ?_
  ·simp (disch := omega) only [RB, RC, simprocAttr, hn, g1, g4, g11, g12, g13, g5]
   refine ⟨0, ov, by omega, by simp, rfl, ?_⟩
   rw [show a8K o ks i 0 = [] from rfl, dj]
   exact hS5
  rintro n l H5 ⟨hn, g1, g4, g6, g7, g11, g12, g13, j, ow, hj, g8, g5, hS6⟩
  simp (disch := omega) only [↓RA, RZ, simprocAttr, hn, g7, g8, hS6.ld 2 rfl]
  refine iA (fun q2 => ?_) (fun q2 => ?_)
  ·have hsu := b3j o ks i j
   have hpj := b1M o ks i j
   obtain ⟨m, hm⟩ : ∃ m : Nat, (iB o.dvs i).lo + (j : Int) = m := ⟨((iB o.dvs i).lo + (j : Int)).toNat, by omega⟩
   rw [hm] at hsu
   simp (disch := omega) only [↓RA, RZ, simprocAttr, hn, g1, g6, g8, (hS6.sl hk.sl).idx, (hS6.sl hk.sl).bc, (hS6.sl hk.sl).ld, tB, hm]
   refine iA (fun q3 => ?_) (fun q3 => ?_)
   ·have e0 : (m : Int).tmod 64 = ((m - 64 : Nat) : Int) := by rw [show (m : Int).tmod 64 = ((m % 64 : Nat) : Int) from (ez m 64).symm]; omega
    have e1 := a0n (iB ks i).2 (m - 64) hx.2
    have e2 := zN ((iB ks i).2 >>> (m - 64)) (sT _ hx.2)
    have e3 := tb (iB ks i).2 (m - 64)
    have e4 : mI (iB ks i) (m : Int) = (iB ks i).2.testBit (m - 64) := by unfold mI; rw [if_neg (by omega), show ((m : Int) - 64).toNat = m - 64 by omega]
    simp (disch := omega) only [↓RA, RZ, simprocAttr, hn, g1, g6, g8, (hS6.sl hk.sl).idx, (hS6.sl hk.sl).bc, (hS6.sl hk.sl).ld, tB, hm, q3, e0, e1, e2]
    refine iA (fun q4 => ?_) (fun q4 => ?_)
    ·rw [e4, e3, decide_eq_true (by omega), if_pos rfl] at hsu
     simp (disch := omega) only [↓RA, RZ, simprocAttr, hn, g6, g8, g5, qY, hm, q3, q4]
     refine hS6.ai [I i, I m] pV a0x rfl rfl (by simp [Value.cells]) rfl rfl (by decide) (by decide) fun w1 H6 hS7 => ?_
     simp only [RT] at hS7
     simp (disch := omega) only [↓RA, RZ, simprocAttr, hn, hm, q3, q4]
     refine hS7.al 1 rfl (hS7.rd 3 rfl) pV (by rw [iI, dm]; simp only [dN, dZ]; omega) fun w2 H7 hS8 => ?_
     simp only [RT] at hS8
     simp (disch := omega) only [↓RA, RZ, simprocAttr, hn, g1, g4, g6, g7, g11, g12, g13, g8, hm, q3, q4]
     refine ⟨n - 1, by omega, j + 1, w2, by omega, by simp; omega, rfl, ?_⟩
     rw [hsu, ← ee, jD]
     exact hS8.pick [0, 1, 2] (by decide) rfl
    rw [e4, e3, decide_eq_false (by omega), if_neg (by simp), dj] at hsu
    simp (disch := omega) only [↓RA, RZ, simprocAttr, hn, g1, g4, g6, g7, g11, g12, g13, g8, g5, hm, q3, q4]
    refine ⟨n - 1, by omega, j + 1, ow, by omega, by simp; omega, rfl, ?_⟩
    rw [hsu]
    exact hS6.pick [0, 1, 2] (by decide) rfl
   have e0 : (m : Int).tmod 64 = ((m : Nat) : Int) := by rw [show (m : Int).tmod 64 = ((m % 64 : Nat) : Int) from (ez m 64).symm]; omega
   have e1 := a0n (iB ks i).1 m hx.1
   have e2 := zN ((iB ks i).1 >>> m) (sT _ hx.1)
   have e3 := tb (iB ks i).1 m
   have e4 : mI (iB ks i) (m : Int) = (iB ks i).1.testBit m := by unfold mI; rw [if_pos (by omega)]; rfl
   simp (disch := omega) only [↓RA, RZ, simprocAttr, hn, g8, hm, q3, e0, e1, e2]
   refine iA (fun q4 => ?_) (fun q4 => ?_)
   ·rw [e4, e3, decide_eq_true (by omega), if_pos rfl] at hsu
    simp (disch := omega) only [↓RA, RZ, simprocAttr, hn, g6, g8, g5, qY, hm, q3, q4]
    refine hS6.ai [I i, I m] pV a0x rfl rfl (by simp [Value.cells]) rfl rfl (by decide) (by decide) fun w3 H8 hS9 => ?_
    simp only [RT] at hS9
    simp (disch := omega) only [↓RA, RZ, simprocAttr, hn, hm, q3, q4]
    refine hS9.al 1 rfl (hS9.rd 3 rfl) pV (by rw [iI, dm]; simp only [dN, dZ]; omega) fun w4 H9 hS10 => ?_
    simp only [RT] at hS10
    simp (disch := omega) only [↓RA, RZ, simprocAttr, hn, g1, g4, g6, g7, g11, g12, g13, g8, hm, q3, q4]
    refine ⟨n - 1, by omega, j + 1, w4, by omega, by simp; omega, rfl, ?_⟩
    rw [hsu, ← ee, jD]
    exact hS10.pick [0, 1, 2] (by decide) rfl
   rw [e4, e3, decide_eq_false (by omega), if_neg (by simp), dj] at hsu
   simp (disch := omega) only [↓RA, RZ, simprocAttr, hn, g1, g4, g6, g7, g11, g12, g13, g8, g5, hm, q3, q4]
   refine ⟨n - 1, by omega, j + 1, ow, by omega, by simp; omega, rfl, ?_⟩
   rw [hsu]
   exact hS6.pick [0, 1, 2] (by decide) rfl
  simp (disch := omega) only [↓RA, RZ, simprocAttr, hn, g1, g4, g11, g12, g13, g5, q2]
  refine ⟨o.dvs.length - (i + 1), by omega, i + 1, ow, by omega, by simp, rfl, ?_⟩
  have hjj : j = ((iB o.dvs i).hi - (iB o.dvs i).lo + 1).toNat := by omega
  rw [ec, dI, dz, eF, dj]
  rw [show a2y o ks i = a8K o ks i j from by rw [hjj]; rfl]
  exact hS6.pick [0, 1] (by decide) rfl
 simp (disch := omega) only [↓RA, RZ, simprocAttr, hn, g5, c7z, q]
 have hii : i = o.dvs.length := by omega
 subst hii
 exact hS3.pick [1] (by decide) rfl
end Go.Ds
namespace Go.Ds
open Go.Proofs Go.Proofs.Tryz Go.Shelf Go.RowKit Go.Lib Go.Sort
theorem c2u (kc : FuncId) (eg : ∀ args w, (callFunc kc args).run prog w = .ok (.enter kc args) w) (hf : ∀ x y : Sm, Fn prog kc [.agg #[I x.1.1, I x.1.2], .agg #[I y.1.1, I y.1.2]] .nil fun r H' => r = I (cfd x y) ∧ St prog (.nil : Heap) H' []) : a0Q prog 51 kc sm :=
 fun kH off cap d w hs hH hblk hsz => by
  have hd : (d.toList.attachWith sm hs).toArray.map (·.1) = d := by
   rw [List.map_toArray, c0u]
  have hl : (d.toList.attachWith sm hs).toArray.size = d.size := by simp
  have hH' : HoldsK (fun x : Sm => jF x.1) 2 w kH off (d.toList.attachWith sm hs).toArray := by
   unfold HoldsK at hH ⊢
   rw [b6E, hd]
   exact hH
  have h := AnyQ.slices_SortFunc_total Tryz.bm 2 Tryz.isAgg52 Tryz.sizeOf52 (fun x : Sm => jF x.1) (fun _ => rfl) (fun x => zI x.1) cfd c4Z kc #[] kH off cap (d.toList.attachWith sm hs).toArray w eg (a2B (fun x : Sm => x.1) cfd hf kH off _ w) hH' hblk (by rw [hl]; exact hsz) c4t
  rw [hl] at h
  refine h.mono ?_
  rintro e w' ⟨h1, n, os, h2⟩
  exact ⟨h1, n, os, by rw [h2, b5c, List.toList_toArray, b5q, c0u]⟩
section
variable {H : Heap}
theorem b9k (x y : Sm) : Fn prog 52 [.agg #[I x.1.1, I x.1.2], .agg #[I y.1.1, I y.1.2]] H fun r H' => r = I (cfd x y) ∧ St prog H H' [] := by
 obtain ⟨⟨x1, x2⟩, hx⟩ := x
 obtain ⟨⟨y1, y2⟩, hy⟩ := y
 unfold sm at hx hy
 simp only at hx hy ⊢
 refine .aE func52 rfl (by kernel_rfl) (m := 20) rfl fun l hn g0 g1 => ?_
 simp (disch := omega) only [↓RA, RB, simprocAttr, g0]
 refine (sR H).eNew 2 [I x1, I x2] rfl rfl rfl mC fun A1 H1 hS1 => ?_
 simp only [RT] at hS1
 simp (disch := omega) only [↓RA, RB, simprocAttr, g1]
 refine hS1.eNew 2 [I y1, I y2] rfl rfl rfl mC fun A2 H2 hS2 => ?_
 simp only [RT] at hS2
 simp (disch := omega) only [↓RA, RZ, simprocAttr, hn, hS2.ld 0 rfl, hS2.ld 1 rfl]
 refine iA (fun q => ?_) (fun q => ?_)
 ·simp (disch := omega) only [↓RA, RZ, simprocAttr, hn, hS2.ld 0 rfl, hS2.ld 1 rfl, c4r, q]
  exact ⟨by unfold cfd; rw [if_pos q], hS2.forget⟩
 simp (disch := omega) only [↓RA, RZ, simprocAttr, hn, hS2.ld 0 rfl, hS2.ld 1 rfl, c4r, q]
 exact ⟨by unfold cfd; rw [if_neg q], hS2.forget⟩
end
theorem c5l : b2n 51 52 := fun hS i _ _ ho hl hsm _ h => vJ (c2u 52 (enters_of func52 (by kernel_rfl) rfl) fun x y => b9k x y) c0O c1c hS i ho hl hsm h
end Go.Ds
namespace Go.Ds
open Go.Proofs Go.Proofs.Tryz
variable {H : Heap}
set_option maxRecDepth 10000
set_option maxHeartbeats 1000000
theorem Ct.cK (a b : Ct) : (a.1 = b.1 ∧ a.2 = b.2) ↔ b = a := ⟨fun h => fI h.1.symm h.2.symm, fun h => by rw [h]; exact ⟨rfl, rfl⟩⟩
theorem a9x (v : Value) (xs : List Ct) (hv : Sl 2 jF H v xs) (hl : xs.length < 1000000000) (d : Ct) :
 Fn prog 94 [v, .agg #[I d.1, I d.2]] H fun r H' => r = I (nC (fun j => decide (iB xs j = d)) xs.length) ∧ St prog H H' [] := by
 refine .aE func94 rfl (by kernel_rfl) (m := 19) rfl fun l hn g0 g1 => ?_
 simp (disch := omega) only [↓RA, RB, simprocAttr, g1]
 refine (sR H).eNew 2 [I d.1, I d.2] rfl rfl rfl mC fun A1 H1 hS1 => ?_
 simp only [RT] at hS1
 simp (disch := omega) only [↓RA, RZ, simprocAttr, hn, g0, (hS1.sl hv).len]
 refine Wp.ak (fun n l H' => l.length = 19 ∧ get l 0 = v ∧ get l 3 = (ptr A1 0 2) ∧ get l 7 = I xs.length ∧ ∃ (j : Nat), (n + j = xs.length ∧ ∀ q, q < j → decide (iB xs q = d) = false) ∧ get l 8 = I j ∧ St prog H H' [⟨ptr A1 0 2, 0, [I d.1, I d.2]⟩]) xs.length ?_ ?_
 ·simp (disch := omega) only [RB, RC, simprocAttr, hn, g0]
  exact ⟨0, ⟨by omega, fun q hq => absurd hq (dJ _)⟩, rfl, hS1⟩
 rintro n l H2 ⟨hn, g0, g3, g7, j, ⟨hi,h0⟩, g8, hS2⟩
 simp (disch := omega) only [↓RA, RB, simprocAttr, hn, g7, g8]
 refine iA (fun h => ?_) (fun h => ?_)
 ·simp (disch := omega) only [↓RA, RZ, simprocAttr, hn, g8, h]
  refine Wp.drw jZ (by kernel_rfl) ?_
  simp (disch := omega) only [↓RA, RZ, simprocAttr, hn, g0, g3, hS2.ag 0 rfl, (hS2.sl hv).idx, (hS2.sl hv).ag, jF]
  refine iA (fun hp => ?_) (fun hp => ?_)
  ·simp (disch := omega) only [↓RA, RZ, simprocAttr, hn, c5y, hp]
   exact ⟨by rw [tJ _ xs.length j (by omega) (by simpa using (Ct.cK _ _).1 hp) h0], hS2.forget⟩
  simp (disch := omega) only [↓RA, RZ, simprocAttr, hn, g0, g3, g7, g8, hp]
  exact ⟨n - 1, by omega, j + 1, ⟨by omega, fun q hq => by rcases dp.1 hq with e | e; (· exact h0 q e); (· rw [e]; simpa using fun hh => hp ((Ct.cK _ _).2 hh))⟩, by simp, hS2⟩
 simp (disch := omega) only [↓RA, RZ, simprocAttr, hn, c5y, h]
 exact ⟨by rw [tV _ xs.length fun q hq => h0 q (by omega)], hS2.forget⟩
theorem a2U (v : Value) (xs : List Ct) (hv : Sl 2 jF H v xs) (hl : xs.length < 1000000000) (d : Ct) :
 Fn prog 50 [v, .agg #[I d.1, I d.2]] H fun r H' => r = .bool (decide (d ∈ xs)) ∧ St prog H H' [] := by
 have e : decide (0 ≤ nC (fun j => decide (iB xs j = d)) xs.length) = decide (d ∈ xs) := by
  rw [dY, decide_eq_true_iff, decide_eq_true_iff, sV]
  constructor
  ·rintro ⟨j, hj, hp⟩
   rw [← of_decide_eq_true hp]; exact iD hj
  ·intro hx
   obtain ⟨j, hj, rfl⟩ := dD.1 hx
   exact ⟨j, hj, by rw [jJ xs j hj]; simp⟩
 refine .aE func50 rfl (by kernel_rfl) (m := 9) rfl fun l hn g0 g1 => ?_
 simp (disch := omega) only [↓RA, RB, simprocAttr, g1]
 refine (sR H).eNew 2 [I d.1, I d.2] rfl rfl rfl mC fun A1 H1 hS1 => ?_
 simp only [RT] at hS1
 simp (disch := omega) only [↓RA, RZ, simprocAttr, hn, g0, hS1.ag 0 rfl]
 refine hS1.cF (a9x v xs (hS1.sl hv) hl d) fun H2 hS2 => ?_
 simp (disch := omega) only [↓RA, RB, simprocAttr, hn, c6K]
 rw [← e]
 first | exact hS2.forget | exact ⟨rfl, hS2.forget⟩
theorem a6D {B : Base} (o : Org) (r : Reg) (sv : Value) (c : Ct) (thr : Bool) (AO AR AQ : Nat) (qv : Value) (q : List Ct)
 (hS : St prog B H [⟨ptr AQ 0 1, 0, [qv]⟩, ⟨qv, 2, pr q⟩])
 (hO : ∀ {H1 : Heap} {os : List Ob}, St prog B H1 os → Var H1 AO 4 [.string o.name, o.rv, o.dv, o.cv] ∧ o.In H1 ∧ Var H1 AR 3 [sv, .int .u64 r.cpl, .int .u64 r.off])
 (hq : Que o q) (ho : o.Fine) (hr : r.Ok) :
 Fn prog 93 [.agg #[I c.1, I c.2], .bool thr, ptr AO 0 4, ptr AR 0 3, ptr AQ 0 1] H fun rr H' => ∃ qv', rr = .tuple #[] ∧
  St prog B H' [⟨ptr AQ 0 1, 0, [qv']⟩, ⟨qv', 2, pr (stepF o r.cpl thr c q)⟩] := by
 have hcl := ho.clen
 refine .cT func93 rfl (by kernel_rfl) (m := 64) rfl fun l hn g0 g1 g2 g3 g4 => ?_
 simp (disch := omega) only [↓RA, RB, simprocAttr, g0]
 refine hS.eNew 2 [I c.1, I c.2] rfl rfl rfl mC fun A1 H1 hS1 => ?_
 simp only [RT] at hS1
 simp (disch := omega) only [↓RA, RZ, simprocAttr, hn, g2, ((hO hS1).1).ld, ((hO hS1).2.1.2.2.2.2.1).len]
 refine Wp.ak (fun n l H' => l.length = 64 ∧ get l 1 = (.bool thr) ∧ get l 2 = (ptr AO 0 4) ∧ get l 3 = (ptr AR 0 3) ∧ get l 4 = (ptr AQ 0 1) ∧ get l 5 = (ptr A1 0 2) ∧ get l 11 = o.cv ∧ get l 12 = I o.cpls.length ∧ ∃ (i : Nat) (qv' : Value), (n + i = o.cpls.length) ∧ get l 13 = I i ∧ St prog B H' [⟨ptr AQ 0 1, 0, [qv']⟩, ⟨qv', 2, pr (stepN o r.cpl thr c q i)⟩, ⟨ptr A1 0 2, 0, [I c.1, I c.2]⟩]) o.cpls.length ?_ ?_
 ·simp (disch := omega) only [RB, RC, simprocAttr, hn, g1, g2, g3, g4]
  exact ⟨0, qv, by omega, rfl, hS1⟩
 rintro n l H2 ⟨hn, g1, g2, g3, g4, g5, g11, g12, i, qv', hi, g13, hS2⟩
 simp (disch := omega) only [↓RA, RB, simprocAttr, hn, g12, g13]
 refine iA (fun q1 => ?_) (fun q1 => ?_)
 ·have hql : (stepN o r.cpl thr c q i).length ≤ 1024 := (hq.stepN r.cpl thr c i).len ho
  have e1 := a0n r.cpl i hr.2.2.1
  have e2 := zN (r.cpl >>> i) (sT i hr.2.2.1)
  have e3 := tb r.cpl i
  have hstay : (rH r.cpl thr c (iB o.cpls i) i && lA o (to1 (iB o.cpls i) c) && !decide (to1 (iB o.cpls i) c ∈ stepN o r.cpl thr c q i)) = false → stepN o r.cpl thr c q (i + 1) = stepN o r.cpl thr c q i := fun h => by
   rw [lJ, step1, if_neg (by rw [h]; simp)]
  simp (disch := omega) only [↓RA, RZ, simprocAttr, hn, g11, g13, ((hO hS2).2.1.2.2.2.2.1).idx, ((hO hS2).2.1.2.2.2.2.1).ag, Cpl.cells, q1]
  refine hS2.eNew 5 [(.string ⟨#[]⟩), I 0, I 0, I 0, (.bool false)] rfl rfl rfl uE fun A2 H3 hS3 => ?_
  simp only [RT] at hS3
  simp (disch := omega) only [↓RA, RZ, simprocAttr, hn, q1]
  refine hS3.ab 3 rfl [(.string (iB o.cpls i).name), I (iB o.cpls i).src, I (iB o.cpls i).dst, I (iB o.cpls i).shift, (.bool (iB o.cpls i).thr)] rfl rfl uE (by simp) fun H4 hS4 => ?_
  simp only [RT] at hS4
  simp (disch := omega) only [↓RA, RZ, simprocAttr, hn, g5, hS4.ld 3 rfl, hS4.ld 2 rfl, q1]
  simp (disch := omega) only [↓RA, RZ, simprocAttr, qY]
  refine hS4.eNew 2 [I 0, I 0] rfl rfl rfl mC fun A3 H5 hS5 => ?_
  simp only [RT] at hS5
  simp (disch := omega) only [↓RA, RZ, simprocAttr, hn, q1]
  refine hS5.ab 4 rfl [I (iB o.cpls i).dst, I (oS (c.2 + (iB o.cpls i).shift))] rfl rfl mC (by simp) fun H6 hS6 => ?_
  simp only [RT] at hS6
  simp (disch := omega) only [↓RA, RZ, simprocAttr, hn, g3, ((hO hS6).2.2).ld, q1, e1, e2]
  refine jM (fun b1 => ?_) (fun b1 => ?_)
  ·have hb : r.cpl.testBit i = true := by rw [e3]; exact decide_eq_true (by omega)
   simp (disch := omega) only [↓RA, RZ, simprocAttr, hn, g5, hS6.ld 3 rfl, hS6.ld 2 rfl, q1, b1]
   refine jM (fun b2 => ?_) (fun b2 => ?_)
   ·have hsrc : (iB o.cpls i).src = c.1 := by omega
    have hgg : rH r.cpl thr c (iB o.cpls i) i = (!thr || (iB o.cpls i).thr) := by unfold rH; rw [hb, decide_eq_true hsrc]; rfl
    simp (disch := omega) only [↓RA, RZ, simprocAttr, hn, hS6.ld 3 rfl, q1, b1, b2]
    refine qL (fun b3 => ?_) (fun b3 => ?_)
    ·have hg : rH r.cpl thr c (iB o.cpls i) i = true := by rw [hgg, b3]; simp
     simp (disch := omega) only [↓RA, RZ, simprocAttr, hn, g2, ((hO hS6).1).ag, hS6.ag 4 rfl, q1, b1, b2, b3]
     refine hS6.cF (a5p o (hO hS6).2.1 ((iB o.cpls i).dst, oS (c.2 + (iB o.cpls i).shift))) fun H7 hS7 => ?_
     simp (disch := omega) only [↓RA, RZ, simprocAttr, hn, q1, b1, b2, b3]
     refine qL (fun b5 => ?_) (fun b5 => ?_)
     ·simp (disch := omega) only [↓RA, RZ, simprocAttr, hn, g4, hS7.ld 0 rfl, hS7.ag 4 rfl, q1, b1, b2, b3, b5]
      refine hS7.cF (a2U qv' (stepN o r.cpl thr c q i) (hS7.aw 1 rfl (fun _ => rfl)) (by omega) ((iB o.cpls i).dst, oS (c.2 + (iB o.cpls i).shift))) fun H8 hS8 => ?_
      simp (disch := omega) only [↓RA, RZ, simprocAttr, hn, q1, b1, b2, b3, b5]
      refine jI (fun b6 => ?_) (fun b6 => ?_)
      ·have hs : stepN o r.cpl thr c q (i + 1) = stepN o r.cpl thr c q i ++ [((iB o.cpls i).dst, oS (c.2 + (iB o.cpls i).shift))] := by
        rw [lJ]
        unfold step1
        have hnot : ((iB o.cpls i).dst, oS (c.2 + (iB o.cpls i).shift)) ∉ stepN o r.cpl thr c q i := by simpa using b6
        rw [if_pos (by rw [hg]; simp only [to1, b5]; simp [hnot])]
        rfl
       simp (disch := omega) only [↓RA, RZ, simprocAttr, hn, g4, hS8.ld 0 rfl, hS8.ag 4 rfl, q1, b1, b2, b3, b5, b6]
       refine hS8.ai [I (iB o.cpls i).dst, I (oS (c.2 + (iB o.cpls i).shift))] pV a0x rfl rfl (by simp [Value.cells]) rfl rfl (by decide) (by decide) fun w1 H9 hS9 => ?_
       simp only [RT] at hS9
       simp (disch := omega) only [↓RA, RZ, simprocAttr, hn, q1, b1, b2, b3, b5, b6]
       refine hS9.al 1 rfl (hS9.rd 5 rfl) pV (by rw [iI]; simp; omega) fun w2 H10 hS10 => ?_
       simp only [RT] at hS10
       simp (disch := omega) only [↓RA, RZ, simprocAttr, hn, g4, q1, b1, b2, b3, b5, b6]
       refine hS10.ab 0 rfl [w2] (by rw [(hS10.rd 1 rfl).cells.1]) (by simp [(hS10.rd 1 rfl).cells.2.1]) a9M (by simp) fun H11 hS11 => ?_
       simp only [RT] at hS11
       simp (disch := omega) only [↓RA, RZ, simprocAttr, hn, g1, g2, g3, g4, g5, g11, g12, g13, q1, b1, b2, b3, b5, b6]
       refine ⟨n - 1, by omega, i + 1, w2, by omega, by simp, ?_⟩
       rw [hs, jD]
       exact hS11.pick [0, 1, 2] (by decide) rfl
      have hin : ((iB o.cpls i).dst, oS (c.2 + (iB o.cpls i).shift)) ∈ stepN o r.cpl thr c q i := by simpa using b6
      have hs := hstay (by simp only [to1]; simp [hin])
      simp (disch := omega) only [↓RA, RZ, simprocAttr, hn, g1, g2, g3, g4, g5, g11, g12, g13, q1, b1, b2, b3, b5, b6]
      exact ⟨n - 1, by omega, i + 1, qv', by omega, by simp, by rw [hs]; exact hS8.pick [0, 1, 2] (by decide) rfl⟩
     have hs := hstay (by rw [eL, eL]; exact .inl (.inr (by simpa [to1] using b5)))
     simp (disch := omega) only [↓RA, RZ, simprocAttr, hn, g1, g2, g3, g4, g5, g11, g12, g13, q1, b1, b2, b3, b5]
     exact ⟨n - 1, by omega, i + 1, qv', by omega, by simp, by rw [hs]; exact hS7.pick [0, 1, 2] (by decide) rfl⟩
    simp (disch := omega) only [↓RA, RZ, simprocAttr, hn, g1, q1, b1, b2, b3]
    refine qL (fun b4 => ?_) (fun b4 => ?_)
    ·have hg : rH r.cpl thr c (iB o.cpls i) i = true := by
      have : thr = false := by simpa using b4
      rw [hgg, this]; rfl
     simp (disch := omega) only [↓RA, RZ, simprocAttr, hn, g2, ((hO hS6).1).ag, hS6.ag 4 rfl, q1, b1, b2, b3, b4]
     refine hS6.cF (a5p o (hO hS6).2.1 ((iB o.cpls i).dst, oS (c.2 + (iB o.cpls i).shift))) fun H12 hS12 => ?_
     simp (disch := omega) only [↓RA, RZ, simprocAttr, hn, q1, b1, b2, b3, b4]
     refine qL (fun b5 => ?_) (fun b5 => ?_)
     ·simp (disch := omega) only [↓RA, RZ, simprocAttr, hn, g4, hS12.ld 0 rfl, hS12.ag 4 rfl, q1, b1, b2, b3, b4, b5]
      refine hS12.cF (a2U qv' (stepN o r.cpl thr c q i) (hS12.aw 1 rfl (fun _ => rfl)) (by omega) ((iB o.cpls i).dst, oS (c.2 + (iB o.cpls i).shift))) fun H13 hS13 => ?_
      simp (disch := omega) only [↓RA, RZ, simprocAttr, hn, q1, b1, b2, b3, b4, b5]
      refine jI (fun b6 => ?_) (fun b6 => ?_)
      ·have hs : stepN o r.cpl thr c q (i + 1) = stepN o r.cpl thr c q i ++ [((iB o.cpls i).dst, oS (c.2 + (iB o.cpls i).shift))] := by
        rw [lJ]
        unfold step1
        have hnot : ((iB o.cpls i).dst, oS (c.2 + (iB o.cpls i).shift)) ∉ stepN o r.cpl thr c q i := by simpa using b6
        rw [if_pos (by rw [hg]; simp only [to1, b5]; simp [hnot])]
        rfl
       simp (disch := omega) only [↓RA, RZ, simprocAttr, hn, g4, hS13.ld 0 rfl, hS13.ag 4 rfl, q1, b1, b2, b3, b4, b5, b6]
       refine hS13.ai [I (iB o.cpls i).dst, I (oS (c.2 + (iB o.cpls i).shift))] pV a0x rfl rfl (by simp [Value.cells]) rfl rfl (by decide) (by decide) fun w3 H14 hS14 => ?_
       simp only [RT] at hS14
       simp (disch := omega) only [↓RA, RZ, simprocAttr, hn, q1, b1, b2, b3, b4, b5, b6]
       refine hS14.al 1 rfl (hS14.rd 5 rfl) pV (by rw [iI]; simp; omega) fun w4 H15 hS15 => ?_
       simp only [RT] at hS15
       simp (disch := omega) only [↓RA, RZ, simprocAttr, hn, g4, q1, b1, b2, b3, b4, b5, b6]
       refine hS15.ab 0 rfl [w4] (by rw [(hS15.rd 1 rfl).cells.1]) (by simp [(hS15.rd 1 rfl).cells.2.1]) a9M (by simp) fun H16 hS16 => ?_
       simp only [RT] at hS16
       simp (disch := omega) only [↓RA, RZ, simprocAttr, hn, g1, g2, g3, g4, g5, g11, g12, g13, q1, b1, b2, b3, b4, b5, b6]
       refine ⟨n - 1, by omega, i + 1, w4, by omega, by simp, ?_⟩
       rw [hs, jD]
       exact hS16.pick [0, 1, 2] (by decide) rfl
      have hin : ((iB o.cpls i).dst, oS (c.2 + (iB o.cpls i).shift)) ∈ stepN o r.cpl thr c q i := by simpa using b6
      have hs := hstay (by simp only [to1]; simp [hin])
      simp (disch := omega) only [↓RA, RZ, simprocAttr, hn, g1, g2, g3, g4, g5, g11, g12, g13, q1, b1, b2, b3, b4, b5, b6]
      exact ⟨n - 1, by omega, i + 1, qv', by omega, by simp, by rw [hs]; exact hS13.pick [0, 1, 2] (by decide) rfl⟩
     have hs := hstay (by rw [eL, eL]; exact .inl (.inr (by simpa [to1] using b5)))
     simp (disch := omega) only [↓RA, RZ, simprocAttr, hn, g1, g2, g3, g4, g5, g11, g12, g13, q1, b1, b2, b3, b4, b5]
     exact ⟨n - 1, by omega, i + 1, qv', by omega, by simp, by rw [hs]; exact hS12.pick [0, 1, 2] (by decide) rfl⟩
    have h4 : thr = true := by simpa using b4
    have h3 : (iB o.cpls i).thr = false := by simpa using b3
    have hs := hstay (by rw [hgg, h4, h3]; rfl)
    simp (disch := omega) only [↓RA, RZ, simprocAttr, hn, g1, g2, g3, g4, g5, g11, g12, g13, q1, b1, b2, b3, b4]
    exact ⟨n - 1, by omega, i + 1, qv', by omega, by simp, by rw [hs]; exact hS6.pick [0, 1, 2] (by decide) rfl⟩
   have hs := hstay (by unfold rH; rw [decide_eq_false (by omega)]; simp)
   simp (disch := omega) only [↓RA, RZ, simprocAttr, hn, g1, g2, g3, g4, g5, g11, g12, g13, q1, b1, b2]
   exact ⟨n - 1, by omega, i + 1, qv', by omega, by simp, by rw [hs]; exact hS6.pick [0, 1, 2] (by decide) rfl⟩
  have hs := hstay (by unfold rH; rw [e3, decide_eq_false (by omega)]; rfl)
  simp (disch := omega) only [↓RA, RZ, simprocAttr, hn, g1, g2, g3, g4, g5, g11, g12, g13, q1, b1]
  exact ⟨n - 1, by omega, i + 1, qv', by omega, by simp, by rw [hs]; exact hS6.pick [0, 1, 2] (by decide) rfl⟩
 simp (disch := omega) only [↓RA, RZ, simprocAttr, c7r, q1]
 have hii : i = o.cpls.length := by omega
 subst hii
 exact ⟨qv', hS2.pick [0, 1] (by decide) rfl⟩
theorem a5Z (o : Org) (ho : o.In H) (hf : o.Fine) (r : Reg) (sv : Value) (hr : r.In H sv) (fv : Value) (first : List Ct) (hfi : Sl 2 jF H fv first) (hfl : first.length ≤ 1024) :
 Fn prog 49 [.agg #[.string o.name, o.rv, o.dv, o.cv], .agg #[sv, .int .u64 r.cpl, .int .u64 r.off], fv] H fun rr H' => St prog H H' [⟨rr, 2, pr (bfs o r.cpl 1100 0 (kI o r.cpl first))⟩] := by
 refine .bd func49 rfl (by kernel_rfl) (m := 36) rfl fun l hn g0 g1 g2 => ?_
 simp (disch := omega) only [↓RA, RB, simprocAttr, g0]
 refine (sR H).eNew 4 [(.string o.name), o.rv, o.dv, o.cv] rfl rfl (by simp [OC, ((sR H).sl ho.1).cells.2.1, ((sR H).sl ho.2.2.1).cells.2.1, ((sR H).sl ho.2.2.2.2.1).cells.2.1]) mB fun A1 H1 hS1 => ?_
 simp only [RT] at hS1
 simp (disch := omega) only [↓RA, RB, simprocAttr, g1]
 refine hS1.eNew 3 [sv, (.int .u64 r.cpl), (.int .u64 r.off)] rfl rfl (by simp [OC, (hS1.sl hr.1).cells.2.1]) pN fun A2 H2 hS2 => ?_
 simp only [RT] at hS2
 simp (disch := omega) only [↓RA, RZ, simprocAttr]
 refine hS2.eNew 1 [(.slice none 0 0)] rfl rfl rfl a9M fun A3 H3 hS3 => ?_
 simp only [RT] at hS3
 simp (disch := omega) only [↓RA, RZ, simprocAttr, hn, g2, (hS3.sl hfi).len]
 have hS4 := hS3.nil 1
 simp only [RT] at hS4
 refine Wp.ak (fun n l H' => l.length = 36 ∧ get l 6 = (.slice none 0 0) ∧ get l 7 = (ptr A3 0 1) ∧ get l 8 = (.func (.func 93) #[] #[(ptr A1 0 4), (ptr A2 0 3), (ptr A3 0 1)]) ∧ get l 13 = fv ∧ get l 14 = I first.length ∧ ∃ (i : Nat) (qv : Value), (n + i = first.length) ∧ get l 15 = I i ∧ St prog H H' [⟨ptr A1 0 4, 0, [(.string o.name), o.rv, o.dv, o.cv]⟩, ⟨ptr A2 0 3, 0, [sv, (.int .u64 r.cpl), (.int .u64 r.off)]⟩, ⟨ptr A3 0 1, 0, [qv]⟩, ⟨qv, 2, pr (kI o r.cpl (first.take i))⟩]) first.length ?_ ?_
 ·simp (disch := omega) only [RB, RC, simprocAttr, hn]
  refine ⟨0, .slice none 0 0, by omega, rfl, ?_⟩
  rw [show kI o r.cpl (first.take 0) = [] from rfl]
  exact hS4
 rintro n l H4 ⟨hn, g6, g7, g8, g13, g14, i, qv, hi, g15, hS5⟩
 simp (disch := omega) only [↓RA, RB, simprocAttr, hn, g14, g15]
 refine iA (fun q1 => ?_) (fun q1 => ?_)
 ·have hqu := nV o r.cpl (first.take i)
  have hqs := a1e o r.cpl first i (by omega)
  simp (disch := omega) only [↓RA, RZ, simprocAttr, hn, g13, g15, (hS5.sl hfi).idx, (hS5.sl hfi).ag, jF, q1]
  refine hS5.eNew 2 [I 0, I 0] rfl rfl rfl mC fun A4 H5 hS6 => ?_
  simp only [RT] at hS6
  simp (disch := omega) only [↓RA, RZ, simprocAttr, hn, q1]
  refine hS6.ab 4 rfl [I (iB first i).1, I (iB first i).2] rfl rfl mC (by simp) fun H6 hS7 => ?_
  simp only [RT] at hS7
  simp (disch := omega) only [↓RA, RZ, simprocAttr, hn, g8, hS7.ag 4 rfl, q1]
  have hM1 := hS7.pick (os' := [⟨ptr A3 0 1, 0, _⟩, ⟨qv, 2, _⟩]) [2, 3] (by decide) rfl
  have hR1 := hS7.pick (os' := [⟨ptr A3 0 1, 0, _⟩, ⟨qv, 2, _⟩, ⟨ptr A1 0 4, 0, _⟩, ⟨ptr A2 0 3, 0, _⟩, ⟨ptr A4 0 2, 0, _⟩]) [2, 3, 0, 1, 4] (by decide) rfl
  refine iG (a6D o r sv (iB first i) false A1 A2 A3 qv (kI o r.cpl (first.take i)) hM1.aD (fun h => ⟨(hR1.frame h.forget).var 0 rfl, ho.ae (hR1.frame h.forget), (hR1.frame h.forget).var 1 rfl⟩) hqu hf hr.2) ?_
  rintro r H7 ⟨qv', rfl, hT1⟩
  have hS8 := hR1.frame hT1
  simp only [RT] at hS8
  simp (disch := omega) only [↓RA, RZ, simprocAttr, hn, g6, g7, g8, g13, g14, g15, q1]
  refine ⟨n - 1, by omega, i + 1, qv', by omega, by simp, ?_⟩
  rw [hqs]
  exact hS8.pick [2, 3, 0, 1] (by decide) rfl
 simp (disch := omega) only [↓RA, RZ, simprocAttr, q1]
 have hii : i = first.length := by omega
 subst hii
 rw [dW] at hS5
 have hqu := nV o r.cpl first
 refine Wp.ak (fun n l H' => l.length = 36 ∧ get l 6 = (.slice none 0 0) ∧ get l 7 = (ptr A3 0 1) ∧ get l 8 = (.func (.func 93) #[] #[(ptr A1 0 4), (ptr A2 0 3), (ptr A3 0 1)]) ∧ ∃ (j : Nat) (qv : Value) (q : List Ct), (n + j = 1100 ∧ bfs o r.cpl n j q = bfs o r.cpl 1100 0 (kI o r.cpl first) ∧ Que o q) ∧ get l 11 = I j ∧ St prog H H' [⟨ptr A1 0 4, 0, [(.string o.name), o.rv, o.dv, o.cv]⟩, ⟨ptr A2 0 3, 0, [sv, (.int .u64 r.cpl), (.int .u64 r.off)]⟩, ⟨ptr A3 0 1, 0, [qv]⟩, ⟨qv, 2, pr q⟩]) 1100 ?_ ?_
 ·simp (disch := omega) only [RB, RC, simprocAttr, hn, g6, g7, g8]
  exact ⟨0, qv, _, ⟨rfl, rfl, hqu⟩, rfl, hS5⟩
 rintro n l H8 ⟨hn, g6, g7, g8, j, qv, q, ⟨hj,hbf,hqq⟩, g11, hS9⟩
 have hql := hqq.len hf
 simp (disch := omega) only [↓RA, RZ, simprocAttr, hn, g7, g11, hS9.ld 2 rfl, (hS9.aw 3 rfl (fun _ => rfl)).len]
 refine iA (fun q3 => ?_) (fun q3 => ?_)
 ·have hjl : j < q.length := by omega
  simp (disch := omega) only [↓RA, RZ, simprocAttr, hn, g7, g8, g11, hS9.ld 2 rfl, (hS9.aw 3 rfl (fun _ => rfl)).idx, (hS9.aw 3 rfl (fun _ => rfl)).ag, jF, q3]
  have hM2 := hS9.pick (os' := [⟨ptr A3 0 1, 0, _⟩, ⟨qv, 2, _⟩]) [2, 3] (by decide) rfl
  have hR2 := hS9.pick (os' := [⟨ptr A3 0 1, 0, _⟩, ⟨qv, 2, _⟩, ⟨ptr A1 0 4, 0, _⟩, ⟨ptr A2 0 3, 0, _⟩]) [2, 3, 0, 1] (by decide) rfl
  refine iG (a6D o r sv (iB q j) true A1 A2 A3 qv q hM2.aD (fun h => ⟨(hR2.frame h.forget).var 0 rfl, ho.ae (hR2.frame h.forget), (hR2.frame h.forget).var 1 rfl⟩) hqq hf hr.2) ?_
  rintro r H9 ⟨qv', rfl, hT2⟩
  have hS10 := hR2.frame hT2
  simp only [RT] at hS10
  simp (disch := omega) only [↓RA, RZ, simprocAttr, hn, g6, g7, g8, g11, q3]
  obtain ⟨n', rfl⟩ : ∃ n', n = n' + 1 := ⟨n - 1, by omega⟩
  rw [bfs, if_pos hjl] at hbf
  exact ⟨n', by omega, j + 1, qv', _, ⟨by omega, hbf, hqq.stepF _ _ _⟩, by simp, hS10.pick [2, 3, 0, 1] (by decide) rfl⟩
 have hbq : bfs o r.cpl 1100 0 (kI o r.cpl first) = q := by
  rw [← hbf]
  cases n with
  | zero => rfl
  | succ n => rw [bfs, if_neg (by omega)]
 simp (disch := omega) only [↓RA, RZ, simprocAttr, hn, g7, hS9.ld 2 rfl, c7B, q3]
 rw [hbq]
 exact hS9.pick [3] (by decide) rfl
theorem a6U {o : Org} {r : Reg} {l q : List Ct} (hq : Que o q) (hl : ∀ c ∈ l, lA o c = true) : Que o (l.foldl (sH r) q) :=
 ⟨xC hq.1, fun c hc => by
  rcases a2J.1 hc with h | h
  ·exact hq.2 c h
  ·exact hl c h.1⟩
theorem c2O {o : Org} (hf : o.Fine) {q : List Ct} (hq : Que o q) : ∀ x ∈ q, sm x := fun x hx => by
 have := uO hf (hq.2 x hx)
 unfold sm
 omega
theorem a3A (o : Org) (ho : o.In H) (hf : o.Fine) (rg : Reg) (sv : Value) (hr : rg.In H sv) (kv : Value) (ks : List Nt) (hk : Ks H kv ks) (h0 : mT o ks = 0) :
 Fn prog 17 [.agg #[.string o.name, o.rv, o.dv, o.cv], .agg #[sv, .int .u64 rg.cpl, .int .u64 rg.off], kv] H fun rr H' => St prog H H' [⟨rr, 2, pr (jX o rg (iF ks))⟩] := by
 have hkl := (mZ h0).2.1
 have hple := c0j hk.ok h0
 have hpll := pK h0
 have hplc := oB hk.ok h0
 refine .bd func17 rfl (by kernel_rfl) (m := 46) rfl fun l hn g0 g1 g2 => ?_
 simp (disch := omega) only [↓RA, RB, simprocAttr, g0]
 refine (sR H).eNew 4 [(.string o.name), o.rv, o.dv, o.cv] rfl rfl (by simp [OC, ((sR H).sl ho.1).cells.2.1, ((sR H).sl ho.2.2.1).cells.2.1, ((sR H).sl ho.2.2.2.2.1).cells.2.1]) mB fun A1 H1 hS1 => ?_
 simp only [RT] at hS1
 simp (disch := omega) only [↓RA, RB, simprocAttr, g1]
 refine hS1.eNew 3 [sv, (.int .u64 rg.cpl), (.int .u64 rg.off)] rfl rfl (by simp [OC, (hS1.sl hr.1).cells.2.1]) pN fun A2 H2 hS2 => ?_
 simp only [RT] at hS2
 simp (disch := omega) only [↓RA, RZ, simprocAttr, hn, g2, hS2.ag 0 rfl]
 refine iG ((a6L o (ho.ae hS2) hf kv ks (hk.ae hS2) hkl).tr) ?_
 rintro r H3 ⟨-, hT1⟩
 have hS3 := hS2.trans hT1
 simp only [RT] at hS3
 obtain ⟨pv, rfl⟩ : ∃ w, w = r := ⟨r, rfl⟩
 rw [hple] at hS3
 simp (disch := omega) only [↓RA, RZ, simprocAttr, hn, hS3.ag 0 rfl, hS3.ag 1 rfl]
 refine iG ((a5Z o (ho.ae hS3) hf rg sv (hr.ae hS3) pv (iF ks) (hS3.aw 2 rfl jG) hpll).tr) ?_
 rintro r H4 ⟨-, hT2⟩
 have hS4 := hS3.trans hT2
 simp only [RT] at hS4
 obtain ⟨qv, rfl⟩ : ∃ w, w = r := ⟨r, rfl⟩
 have hQ := a4X rg.cpl 1100 0 _ (xB o rg.cpl (iF ks))
 have hfin : b6W o rg (iF ks) = pA ((iF ks).foldl (sH rg) (bfs o rg.cpl 1100 0 (kI o rg.cpl (iF ks)))) := rfl
 rw [b6F] at hfin
 rw [hfin]
 clear hfin
 simp (disch := omega) only [↓RA, RZ, simprocAttr, hn, (hS4.aw 2 rfl jG).len]
 refine Wp.ak (fun n l H' => l.length = 46 ∧ get l 4 = (ptr A2 0 3) ∧ get l 6 = (.slice none 0 0) ∧ get l 18 = pv ∧ get l 19 = I (iF ks).length ∧ ∃ (i : Nat) (ov : Value), (n + i = (iF ks).length) ∧ get l 20 = I i ∧ get l 8 = ov ∧ St prog H H' [⟨ptr A1 0 4, 0, [(.string o.name), o.rv, o.dv, o.cv]⟩, ⟨ptr A2 0 3, 0, [sv, (.int .u64 rg.cpl), (.int .u64 rg.off)]⟩, ⟨pv, 2, pr (iF ks)⟩, ⟨ov, 2, pr (((iF ks).take i).foldl (sH rg) (bfs o rg.cpl 1100 0 (kI o rg.cpl (iF ks))))⟩]) (iF ks).length ?_ ?_
 ·simp (disch := omega) only [RB, RC, simprocAttr, hn]
  exact ⟨0, qv, by omega, rfl, rfl, hS4⟩
 rintro n l H5 ⟨hn, g4, g6, g18, g19, i, ov, hi, g20, g8, hS5⟩
 simp (disch := omega) only [↓RA, RB, simprocAttr, hn, g19, g20]
 refine iA (fun q1 => ?_) (fun q1 => ?_)
 ·have hci := (kL o _).1 (hplc _ (iD (xs := iF ks) (j := i) (by omega)))
  have hqi : Que o (((iF ks).take i).foldl (sH rg) (bfs o rg.cpl 1100 0 (kI o rg.cpl (iF ks)))) := a6U hQ fun c hc => hplc c (fX hc)
  have hql := hqi.len hf
  have hsu : ((iF ks).take (i + 1)).foldl (sH rg) (bfs o rg.cpl 1100 0 (kI o rg.cpl (iF ks))) = sH rg (((iF ks).take i).foldl (sH rg) (bfs o rg.cpl 1100 0 (kI o rg.cpl (iF ks)))) (iB (iF ks) i) := by
   rw [kJ _ i (by omega), gy]
   rfl
  generalize ((iF ks).take i).foldl (sH rg) (bfs o rg.cpl 1100 0 (kI o rg.cpl (iF ks))) = Q at *
  have hd8 := hf.dlen
  obtain ⟨d, hd⟩ : ∃ d : Nat, (iB (iF ks) i).1.toNat = d := ⟨_, rfl⟩
  have hwd : IntKind.wrap .u64 (iB (iF ks) i).1 = ((d : Nat) : Int) := by rw [mS _ (by omega) (by omega)]; omega
  have e1 := a0n rg.off d hr.2.2.2.2
  have e2 := zN (rg.off >>> d) (sT _ hr.2.2.2.2)
  have e3 := tb rg.off d
  simp (disch := omega) only [↓RA, RZ, simprocAttr, hn, g18, g20, (hS5.aw 2 rfl jG).idx, (hS5.aw 2 rfl jG).ag, jF, q1]
  refine hS5.eNew 2 [I 0, I 0] rfl rfl rfl mC fun A3 H6 hS6 => ?_
  simp only [RT] at hS6
  simp (disch := omega) only [↓RA, RZ, simprocAttr, hn, q1]
  refine hS6.ab 4 rfl [I (iB (iF ks) i).1, I (iB (iF ks) i).2] rfl rfl mC (by simp) fun H7 hS7 => ?_
  simp only [RT] at hS7
  simp (disch := omega) only [↓RA, RZ, simprocAttr, hn, g4, hS7.ld 1 rfl, hS7.ld 4 rfl, q1, e1, e2, hwd]
  refine jM (fun q2 => ?_) (fun q2 => ?_)
  ·have hb : rg.off.testBit (iB (iF ks) i).1.toNat = false := by rw [hd, e3]; exact decide_eq_false (by omega)
   simp (disch := omega) only [↓RA, RZ, simprocAttr, hn, g8, hS7.ag 4 rfl, q1, q2]
   refine hS7.cF (a2U ov Q (hS7.aw 3 rfl jG) (by omega) (iB (iF ks) i)) fun H8 hS8 => ?_
   simp (disch := omega) only [↓RA, RZ, simprocAttr, hn, q1, q2]
   refine jI (fun q3 => ?_) (fun q3 => ?_)
   ·have hs : sH rg Q (iB (iF ks) i) = Q ++ [iB (iF ks) i] := by unfold sH; rw [if_pos (by rw [hb]; simpa using q3)]
    simp (disch := omega) only [↓RA, RZ, simprocAttr, hn, g8, hS8.ag 4 rfl, q1, q2, q3]
    refine hS8.ai [I (iB (iF ks) i).1, I (iB (iF ks) i).2] pV a0x rfl rfl (by simp [Value.cells]) rfl rfl (by decide) (by decide) fun w1 H9 hS9 => ?_
    simp only [RT] at hS9
    simp (disch := omega) only [↓RA, RZ, simprocAttr, hn, q1, q2, q3]
    refine hS9.al 3 rfl (hS9.rd 5 rfl) pV (by rw [iI]; simp; omega) fun w2 H10 hS10 => ?_
    simp only [RT] at hS10
    simp (disch := omega) only [↓RA, RZ, simprocAttr, hn, g4, g6, g18, g19, g20, q1, q2, q3]
    refine ⟨n - 1, by omega, i + 1, w2, by omega, by simp, rfl, ?_⟩
    rw [hsu, hs, jD]
    exact hS10.pick [0, 1, 2, 3] (by decide) rfl
   have hs : sH rg Q (iB (iF ks) i) = Q := by unfold sH; rw [if_neg (by rw [hb]; simpa using q3)]
   simp (disch := omega) only [↓RA, RZ, simprocAttr, hn, g4, g6, g18, g19, g20, g8, q1, q2, q3]
   refine ⟨n - 1, by omega, i + 1, ov, by omega, by simp, rfl, ?_⟩
   rw [hsu, hs]
   exact hS8.pick [0, 1, 2, 3] (by decide) rfl
  have hb : rg.off.testBit (iB (iF ks) i).1.toNat = true := by rw [hd, e3]; exact decide_eq_true (by omega)
  have hs : sH rg Q (iB (iF ks) i) = Q := by unfold sH; rw [if_neg (by rw [hb]; simp)]
  simp (disch := omega) only [↓RA, RZ, simprocAttr, hn, g4, g6, g18, g19, g20, g8, q1, q2]
  refine ⟨n - 1, by omega, i + 1, ov, by omega, by simp, rfl, ?_⟩
  rw [hsu, hs]
  exact hS7.pick [0, 1, 2, 3] (by decide) rfl
 simp (disch := omega) only [↓RA, RZ, simprocAttr, hn, g8, q1]
 have hii : i = (iF ks).length := by omega
 rw [hii, dW] at hS5
 have hqn : Que o ((iF ks).foldl (sH rg) (bfs o rg.cpl 1100 0 (kI o rg.cpl (iF ks)))) := a6U hQ hplc
 have hql := hqn.len hf
 refine c5l hS5 3 rfl (by omega) (c2O hf hqn) fun HS hSS => ?_
 simp only [fS, fh] at hSS
 simp (disch := omega) only [↓RA, RZ, simprocAttr, hn, g8, c6y, q1]
 exact hSS.pick [3] (by decide) rfl
theorem a7Y {m : Nat} {l : List Drw} (h : kY m l = 0) : l.length ≤ 8 ∧ ∀ q, q < l.length → 0 ≤ (iB l q).rank ∧ (iB l q).rank < m := by
 unfold kY at h
 split at h
 ·omega
 refine ⟨by omega, fun q hq => ?_⟩
 have e := pC h q hq
 unfold kO at e
 split at e
 ·omega
 ·omega
def vR (o : Org) (rg : Reg) (j i : Nat) (z : Int) (k : Nat) : List Ct := if (iB rg.stops j).testBit i then ((iB (iB o.dvs j).stops i).segs.take k).flatMap fun g => rS o g z else []
def dr3 (o : Org) (z : Int) (l : List Drw) : List Ct := (l.filter fun d => rE o.ranks d z).map fun d => mK o.ranks d z
theorem b5f (o : Org) (z : Int) (l : List Drw) : (dr3 o z l).length ≤ l.length := by
 unfold dr3
 rw [eu]
 exact ed _ _
theorem b5L (o : Org) (z : Int) (l : List Drw) (q : Nat) (h : q < l.length) : dr3 o z (l.take (q + 1)) = dr3 o z (l.take q) ++ (if rE o.ranks (iB l q) z then [mK o.ranks (iB l q) z] else []) := by
 unfold dr3
 rw [kJ l q h, eI, dT]
 congr 1
 cases e : rE o.ranks (iB l q) z <;> simp [e]
theorem b6S {o : Org} (g : Seg) (z : Int) (h : g.draws.length ≤ 8) : (rS o g z).length ≤ 8 := by
 unfold rS
 split
 ·exact dB (b5f o z g.draws) h
 ·simp
theorem b1H {o : Org} (z : Int) : ∀ (gs : List Seg), (∀ g ∈ gs, g.draws.length ≤ 8) → (gs.flatMap fun g => rS o g z).length ≤ gs.length * 8
 | [], _ => by simp
 | g :: gs, h => by
   have h1 := b6S (o := o) g z (h g (dH ..))
   have h2 := b1H (o := o) z gs fun x hx => h x (dP _ hx)
   rw [dz, dm, dN]
   omega
theorem c0h {o : Org} (rg : Reg) (j i : Nat) (z : Int) (k : Nat) (h : ∀ g ∈ (iB (iB o.dvs j).stops i).segs, g.draws.length ≤ 8) (h2 : (iB (iB o.dvs j).stops i).segs.length ≤ 12) : (vR o rg j i z k).length ≤ 96 := by
 unfold vR
 split
 ·have h1 := b1H (o := o) z ((iB (iB o.dvs j).stops i).segs.take k) fun g hg => h g (fX hg)
  have h3 := List.length_take_le k (iB (iB o.dvs j).stops i).segs
  have h4 : ((iB (iB o.dvs j).stops i).segs.take k).length ≤ (iB (iB o.dvs j).stops i).segs.length := by rw [fj]; omega
  omega
 ·simp
theorem a3R (o : Org) (rg : Reg) (j i : Nat) (z : Int) : vI o rg ((j : Int), z) i = vR o rg j i z (iB (iB o.dvs j).stops i).segs.length := by
 unfold vI vR
 simp only [eh]
 rw [dW]
theorem a4i {o : Org} (rg : Reg) (j : Nat) (z : Int) (h : ∀ i, i < (iB o.dvs j).stops.length → (vR o rg j i z (iB (iB o.dvs j).stops i).segs.length).length ≤ 96) : ∀ i, i ≤ (iB o.dvs j).stops.length → ((List.range i).flatMap (vI o rg ((j : Int), z))).length ≤ i * 96
 | 0, _ => by simp
 | i + 1, hi => by
   have h1 := a4i rg j z h i (by omega)
   have h2 := h i (by omega)
   rw [ec, dI, dm, dz, eF, dj, a3R]
   omega
theorem b5X (o : Org) (ho : o.In H) (h0 : organE o = 0) (rg : Reg) (sv : Value) (hr : rg.In H sv) (hrl : rg.stops.length = o.dvs.length) (j : Nat) (z : Int) (hc : lA o ((j : Int), z) = true) :
 Fn prog 32 [.agg #[.string o.name, o.rv, o.dv, o.cv], .agg #[sv, .int .u64 rg.cpl, .int .u64 rg.off], .agg #[I j, I z]] H fun rr H' => Slx 2 jF H' (fun B => H.length ≤ B) rr (dd (pA (pB o rg ((j : Int), z)))) ∧ St prog H H' [] := by
 have hf := Org.aO h0
 have hcc := (kL o _).1 hc
 simp only [eh] at hcc
 have hj : j < o.dvs.length := by omega
 have hky := hf.keys j hj
 have hst := hf.stops j hj
 have hsb : ∀ i, i < (iB o.dvs j).stops.length → iB (iB o.dvs j).stops i ∈ (iB o.dvs j).stops := fun i hi => iD hi
 have hsl : ∀ i, i < (iB o.dvs j).stops.length → ∀ k, (vR o rg j i z k).length ≤ 96 := fun i hi k => c0h rg j i z k (hf.draws j hj _ (hsb i hi)) (a0R h0 hj (hsb i hi)).len
 have hdl := a4i rg j z fun i hi => hsl i hi _
 refine .bd func32 rfl (by kernel_rfl) (m := 108) rfl fun l hn g0 g1 g2 => ?_
 simp (disch := omega) only [↓RA, RB, simprocAttr, g0]
 refine (sR H).eNew 4 [(.string o.name), o.rv, o.dv, o.cv] rfl rfl (by simp [OC, ((sR H).sl ho.1).cells.2.1, ((sR H).sl ho.2.2.1).cells.2.1, ((sR H).sl ho.2.2.2.2.1).cells.2.1]) mB fun A1 H1 hS1 => ?_
 simp only [RT] at hS1
 simp (disch := omega) only [↓RA, RB, simprocAttr, g1]
 refine hS1.eNew 3 [sv, (.int .u64 rg.cpl), (.int .u64 rg.off)] rfl rfl (by simp [OC, (hS1.sl hr.1).cells.2.1]) pN fun A2 H2 hS2 => ?_
 simp only [RT] at hS2
 simp (disch := omega) only [↓RA, RB, simprocAttr, g2]
 refine hS2.eNew 2 [I j, I z] rfl rfl rfl mC fun A3 H3 hS3 => ?_
 simp only [RT] at hS3
 simp (disch := omega) only [↓RA, RZ, simprocAttr, hn, hS3.ld 0 rfl, hS3.ld 2 rfl, (hS3.sl ho.2.2.1).idx, (hS3.sl ho.2.2.1).bc, (hS3.sl ho.2.2.1).ld, Dvn.cells, (hS3.sl (ho.2.2.2.1 (iB o.dvs j) (iD (by omega))).1).len]
 have hS4 := hS3.nil 1
 simp only [RT] at hS4
 refine Wp.ak (fun n l H' => l.length = 108 ∧ get l 3 = (ptr A1 0 4) ∧ get l 4 = (ptr A2 0 3) ∧ get l 5 = (ptr A3 0 2) ∧ get l 6 = (.slice none 0 0) ∧ get l 21 = (iB o.dvs j).sv ∧ get l 22 = I (iB o.dvs j).stops.length ∧ ∃ (i : Nat) (ov : Value), (n + i = (iB o.dvs j).stops.length) ∧ get l 23 = I i ∧ get l 7 = ov ∧ St prog H H' [⟨ptr A1 0 4, 0, [(.string o.name), o.rv, o.dv, o.cv]⟩, ⟨ptr A2 0 3, 0, [sv, (.int .u64 rg.cpl), (.int .u64 rg.off)]⟩, ⟨ptr A3 0 2, 0, [I j, I z]⟩, ⟨ov, 2, pr ((List.range i).flatMap (vI o rg ((j : Int), z)))⟩]) (iB o.dvs j).stops.length ?_ ?_
 ·simp (disch := omega) only [RB, RC, simprocAttr, hn]
  exact ⟨0, .slice none 0 0, by omega, rfl, rfl, hS4⟩
 rintro n l H4 ⟨hn, g3, g4, g5, g6, g21, g22, i, ov, hi, g23, g7, hS5⟩
 simp (disch := omega) only [↓RA, RB, simprocAttr, hn, g22, g23]
 refine iA (fun q1 => ?_) (fun q1 => ?_)
 ·have hil : i < (iB o.dvs j).stops.length := by omega
  have hso := a0R h0 hj (hsb i hil)
  have hsu : (List.range (i + 1)).flatMap (vI o rg ((j : Int), z)) = (List.range i).flatMap (vI o rg ((j : Int), z)) ++ vR o rg j i z (iB (iB o.dvs j).stops i).segs.length := by
   rw [ec, dI, dz, eF, dj, a3R]
  have hpl := hdl i (by omega)
  have hsn : (iB (iB o.dvs j).stops i).segs.length < 1000000000 := ((ho.2.2.2.1 _ (iD hj)).2.1 _ (hsb i hil)).2.2
  have e1 := a0n (iB rg.stops j) i (hr.2.2.1 _ (iD (by omega)))
  have e2 := zN ((iB rg.stops j) >>> i) (sT _ (hr.2.2.1 _ (iD (by omega))))
  have e3 := tb (iB rg.stops j) i
  simp (disch := omega) only [↓RA, RZ, simprocAttr, hn, g21, g23, (hS5.sl (ho.2.2.2.1 (iB o.dvs j) (iD (by omega))).1).idx, (hS5.sl (ho.2.2.2.1 (iB o.dvs j) (iD (by omega))).1).ag, Stp.cells, q1]
  refine hS5.eNew 4 [(.string ⟨#[]⟩), I 0, I 0, (.slice none 0 0)] rfl rfl rfl oA fun A4 H5 hS6 => ?_
  simp only [RT] at hS6
  simp (disch := omega) only [↓RA, RZ, simprocAttr, hn, q1]
  refine hS6.ab 4 rfl [(.string (iB (iB o.dvs j).stops i).name), I (iB (iB o.dvs j).stops i).num, I (iB (iB o.dvs j).stops i).den, (iB (iB o.dvs j).stops i).gv] rfl (by simp [OC, (hS6.sl ((ho.2.2.2.1 (iB o.dvs j) (iD (by omega))).2.1 (iB (iB o.dvs j).stops i) (iD (by omega))).1).cells.2.1]) oA (by simp) fun H6 hS7 => ?_
  simp only [RT] at hS7
  simp (disch := omega) only [↓RA, RZ, simprocAttr, hn, hS7.ld 4 rfl, (hS7.sl ((ho.2.2.2.1 (iB o.dvs j) (iD (by omega))).2.1 (iB (iB o.dvs j).stops i) (iD (by omega))).1).len, q1]
  refine Wp.ak (fun n l H' => l.length = 108 ∧ get l 3 = (ptr A1 0 4) ∧ get l 4 = (ptr A2 0 3) ∧ get l 5 = (ptr A3 0 2) ∧ get l 6 = (.slice none 0 0) ∧ get l 8 = I i ∧ get l 21 = (iB o.dvs j).sv ∧ get l 22 = I (iB o.dvs j).stops.length ∧ get l 23 = I i ∧ get l 29 = (iB (iB o.dvs j).stops i).gv ∧ get l 30 = I (iB (iB o.dvs j).stops i).segs.length ∧ ∃ (k : Nat) (ow : Value), (n + k = (iB (iB o.dvs j).stops i).segs.length) ∧ get l 31 = I k ∧ get l 7 = ow ∧ St prog H H' [⟨ptr A1 0 4, 0, [(.string o.name), o.rv, o.dv, o.cv]⟩, ⟨ptr A2 0 3, 0, [sv, (.int .u64 rg.cpl), (.int .u64 rg.off)]⟩, ⟨ptr A3 0 2, 0, [I j, I z]⟩, ⟨ow, 2, pr ((List.range i).flatMap (vI o rg ((j : Int), z)) ++ vR o rg j i z k)⟩, ⟨ptr A4 0 4, 0, [(.string (iB (iB o.dvs j).stops i).name), I (iB (iB o.dvs j).stops i).num, I (iB (iB o.dvs j).stops i).den, (iB (iB o.dvs j).stops i).gv]⟩]) (iB (iB o.dvs j).stops i).segs.length ?_ ?_
  ·simp (disch := omega) only [RB, RC, simprocAttr, hn, g3, g4, g5, g6, g21, g22, g23, g7]
   refine ⟨0, ov, by omega, rfl, rfl, ?_⟩
   rw [show vR o rg j i z 0 = [] from by unfold vR; split <;> rfl, dj]
   exact hS7
  rintro n l H7 ⟨hn, g3, g4, g5, g6, g8, g21, g22, g23, g29, g30, k, ow, hk, g31, g7, hS8⟩
  simp (disch := omega) only [↓RA, RB, simprocAttr, hn, g30, g31]
  refine iA (fun q2 => ?_) (fun q2 => ?_)
  ·have hkl : k < (iB (iB o.dvs j).stops i).segs.length := by omega
   have hsk := hsl i hil k
   have hgd := hso.draws k hkl
   have hgd2 := a7Y hgd
   simp (disch := omega) only [↓RA, RZ, simprocAttr, hn, g29, g31, (hS8.sl ((ho.2.2.2.1 (iB o.dvs j) (iD (by omega))).2.1 (iB (iB o.dvs j).stops i) (iD (by omega))).1).idx, (hS8.sl ((ho.2.2.2.1 (iB o.dvs j) (iD (by omega))).2.1 (iB (iB o.dvs j).stops i) (iD (by omega))).1).ag, Seg.cells, q2]
   refine hS8.eNew 3 [I 0, I 0, (.slice none 0 0)] rfl rfl rfl zY fun A5 H8 hS9 => ?_
   simp only [RT] at hS9
   simp (disch := omega) only [↓RA, RZ, simprocAttr, hn, q2]
   refine hS9.ab 5 rfl [I (iB (iB (iB o.dvs j).stops i).segs k).lo, I (iB (iB (iB o.dvs j).stops i).segs k).hi, (iB (iB (iB o.dvs j).stops i).segs k).dv] rfl (by simp [OC, (hS9.sl (((ho.2.2.2.1 (iB o.dvs j) (iD (by omega))).2.1 (iB (iB o.dvs j).stops i) (iD (by omega))).2.1 (iB (iB (iB o.dvs j).stops i).segs k) (iD (by omega))).1).cells.2.1]) zY (by simp) fun H9 hS10 => ?_
   simp only [RT] at hS10
   simp (disch := omega) only [↓RA, RZ, simprocAttr, hn, g4, g5, g8, hS10.ld 1 rfl, hS10.ld 2 rfl, (hS10.sl hr.1).idx, (hS10.sl hr.1).ld, one, u64, q2, e1, e2]
   refine iN (fun q3 => ?_) (fun q3 => ?_)
   ·have hb : (iB rg.stops j).testBit i = false := by rw [e3]; exact decide_eq_false (by omega)
    have hsg : ∀ k, vR o rg j i z k = [] := fun k => by unfold vR; rw [if_neg (by rw [hb]; simp)]
    simp (disch := omega) only [↓RA, RZ, simprocAttr, hn, g3, g4, g5, g6, g8, g21, g22, g23, g29, g30, g31, g7, q2, q3]
    refine ⟨n - 1, by omega, k + 1, ow, by omega, by simp, rfl, ?_⟩
    rw [hsg, ← hsg k]
    exact hS10.pick [0, 1, 2, 3, 4] (by decide) rfl
   have hb : (iB rg.stops j).testBit i = true := by rw [e3]; exact decide_eq_true (by omega)
   have hsg : vR o rg j i z (k + 1) = vR o rg j i z k ++ rS o (iB (iB (iB o.dvs j).stops i).segs k) z := by
    unfold vR
    rw [if_pos hb, if_pos hb, List.take_add_one, dq hkl, Option.toList_some, ← jJ _ k hkl, dI, dz, eF, dj]
   simp (disch := omega) only [↓RA, RZ, simprocAttr, hn, g5, hS10.ld 2 rfl, hS10.ld 5 rfl, q2, q3]
   refine iN (fun q4 => ?_) (fun q4 => ?_)
   ·have hd1 : rS o (iB (iB (iB o.dvs j).stops i).segs k) z = [] := by unfold rS; rw [if_neg (by omega)]
    simp (disch := omega) only [↓RA, RZ, simprocAttr, hn, g3, g4, g5, g6, g8, g21, g22, g23, g29, g30, g31, g7, q2, q3, q4]
    refine ⟨n - 1, by omega, k + 1, ow, by omega, by simp, rfl, ?_⟩
    rw [hsg, hd1, dj]
    exact hS10.pick [0, 1, 2, 3, 4] (by decide) rfl
   simp (disch := omega) only [↓RA, RZ, simprocAttr, hn, g5, hS10.ld 2 rfl, hS10.ld 5 rfl, q2, q3, q4]
   refine iA (fun q5 => ?_) (fun q5 => ?_)
   ·have hd1 : rS o (iB (iB (iB o.dvs j).stops i).segs k) z = [] := by unfold rS; rw [if_neg (by omega)]
    simp (disch := omega) only [↓RA, RZ, simprocAttr, hn, g3, g4, g5, g6, g8, g21, g22, g23, g29, g30, g31, g7, q2, q3, q4, q5]
    refine ⟨n - 1, by omega, k + 1, ow, by omega, by simp, rfl, ?_⟩
    rw [hsg, hd1, dj]
    exact hS10.pick [0, 1, 2, 3, 4] (by decide) rfl
   have hd1 : rS o (iB (iB (iB o.dvs j).stops i).segs k) z = dr3 o z (iB (iB (iB o.dvs j).stops i).segs k).draws := by unfold rS; rw [if_pos (by omega)]; rfl
   have hsm2 : (vR o rg j i z k).length ≤ 96 := hsk
   simp (disch := omega) only [↓RA, RZ, simprocAttr, hn, hS10.ld 5 rfl, (hS10.sl (((ho.2.2.2.1 (iB o.dvs j) (iD (by omega))).2.1 (iB (iB o.dvs j).stops i) (iD (by omega))).2.1 (iB (iB (iB o.dvs j).stops i).segs k) (iD (by omega))).1).len, q2, q3, q4, q5]
   refine Wp.ak (fun n l H' => l.length = 108 ∧ get l 3 = (ptr A1 0 4) ∧ get l 4 = (ptr A2 0 3) ∧ get l 5 = (ptr A3 0 2) ∧ get l 6 = (.slice none 0 0) ∧ get l 8 = I i ∧ get l 21 = (iB o.dvs j).sv ∧ get l 22 = I (iB o.dvs j).stops.length ∧ get l 23 = I i ∧ get l 29 = (iB (iB o.dvs j).stops i).gv ∧ get l 30 = I (iB (iB o.dvs j).stops i).segs.length ∧ get l 31 = I k ∧ get l 61 = (iB (iB (iB o.dvs j).stops i).segs k).dv ∧ get l 62 = I (iB (iB (iB o.dvs j).stops i).segs k).draws.length ∧ ∃ (q : Nat) (oy : Value), (n + q = (iB (iB (iB o.dvs j).stops i).segs k).draws.length) ∧ get l 63 = I q ∧ get l 7 = oy ∧ St prog H H' [⟨ptr A1 0 4, 0, [(.string o.name), o.rv, o.dv, o.cv]⟩, ⟨ptr A2 0 3, 0, [sv, (.int .u64 rg.cpl), (.int .u64 rg.off)]⟩, ⟨ptr A3 0 2, 0, [I j, I z]⟩, ⟨oy, 2, pr ((List.range i).flatMap (vI o rg ((j : Int), z)) ++ vR o rg j i z k ++ dr3 o z ((iB (iB (iB o.dvs j).stops i).segs k).draws.take q))⟩, ⟨ptr A4 0 4, 0, [(.string (iB (iB o.dvs j).stops i).name), I (iB (iB o.dvs j).stops i).num, I (iB (iB o.dvs j).stops i).den, (iB (iB o.dvs j).stops i).gv]⟩, ⟨ptr A5 0 3, 0, [I (iB (iB (iB o.dvs j).stops i).segs k).lo, I (iB (iB (iB o.dvs j).stops i).segs k).hi, (iB (iB (iB o.dvs j).stops i).segs k).dv]⟩]) (iB (iB (iB o.dvs j).stops i).segs k).draws.length ?_ ?_
   ·simp (disch := omega) only [RB, RC, simprocAttr, hn, g3, g4, g5, g6, g8, g21, g22, g23, g29, g30, g31, g7]
    refine ⟨0, ow, by omega, rfl, rfl, ?_⟩
    rw [List.take_zero, show dr3 o z [] = [] from rfl, dj]
    exact hS10
   rintro n l H10 ⟨hn, g3, g4, g5, g6, g8, g21, g22, g23, g29, g30, g31, g61, g62, q, oy, hq, g63, g7, hS11⟩
   simp (disch := omega) only [↓RA, RB, simprocAttr, hn, g62, g63]
   refine iA (fun q6 => ?_) (fun q6 => ?_)
   ·have hql : q < (iB (iB (iB o.dvs j).stops i).segs k).draws.length := by omega
    have hdr := hgd2.2 q hql
    obtain ⟨e, he⟩ : ∃ e : Nat, (iB (iB (iB (iB o.dvs j).stops i).segs k).draws q).rank = e := ⟨(iB (iB (iB (iB o.dvs j).stops i).segs k).draws q).rank.toNat, by omega⟩
    have hel : e < o.ranks.length := by omega
    have hd3 := b5L o z (iB (iB (iB o.dvs j).stops i).segs k).draws q hql
    have hd3l := b5f o z ((iB (iB (iB o.dvs j).stops i).segs k).draws.take q)
    have hwl : (iB o.ranks e).wind.length < 1000000000 := (ho.2.1 _ (iD hel)).2
    have htl := List.length_take_le q (iB (iB (iB o.dvs j).stops i).segs k).draws
    have hp1 : mK o.ranks (iB (iB (iB (iB o.dvs j).stops i).segs k).draws q) z = ((e : Int), oS (oS (z + (iB (iB (iB (iB o.dvs j).stops i).segs k).draws q).shift) - (iB o.ranks e).first)) := by
     unfold mK
     rw [if_neg (by omega), he]
     rfl
    have hhp : rE o.ranks (iB (iB (iB (iB o.dvs j).stops i).segs k).draws q) z = (decide (0 ≤ oS (oS (z + (iB (iB (iB (iB o.dvs j).stops i).segs k).draws q).shift) - (iB o.ranks e).first)) && decide (oS (oS (z + (iB (iB (iB (iB o.dvs j).stops i).segs k).draws q).shift) - (iB o.ranks e).first) < (iB o.ranks e).wind.length)) := by
     unfold rE
     rw [hp1, decide_eq_false (by omega), he]
     rfl
    simp (disch := omega) only [↓RA, RZ, simprocAttr, hn, g61, g63, (hS11.sl (((ho.2.2.2.1 (iB o.dvs j) (iD (by omega))).2.1 (iB (iB o.dvs j).stops i) (iD (by omega))).2.1 (iB (iB (iB o.dvs j).stops i).segs k) (iD (by omega))).1).idx, (hS11.sl (((ho.2.2.2.1 (iB o.dvs j) (iD (by omega))).2.1 (iB (iB o.dvs j).stops i) (iD (by omega))).2.1 (iB (iB (iB o.dvs j).stops i).segs k) (iD (by omega))).1).ag, Drw.cells, q6]
    refine hS11.eNew 2 [I 0, I 0] rfl rfl rfl wY fun A6 H11 hS12 => ?_
    simp only [RT] at hS12
    simp (disch := omega) only [↓RA, RZ, simprocAttr, hn, q6]
    refine hS12.ab 6 rfl [I (iB (iB (iB (iB o.dvs j).stops i).segs k).draws q).rank, I (iB (iB (iB (iB o.dvs j).stops i).segs k).draws q).shift] rfl rfl wY (by simp) fun H12 hS13 => ?_
    simp only [RT] at hS13
    simp (disch := omega) only [↓RA, RZ, simprocAttr, q6]
    refine Wp.drw jZ (by kernel_rfl) ?_
    simp (disch := omega) only [↓RA, RZ, simprocAttr, hn, g3, g5, hS13.ld 2 rfl, hS13.ld 6 rfl, hS13.ld 0 rfl]
    simp (disch := omega) only [↓RA, RZ, simprocAttr, hn, (hS13.sl ho.1).idx, (hS13.sl ho.1).bc, (hS13.sl ho.1).ld, Rk.cells, he]
    refine jM (fun q7 => ?_) (fun q7 => ?_)
    ·simp (disch := omega) only [↓RA, RZ, simprocAttr, hn, g3, hS13.ld 0 rfl, hS13.ld 6 rfl, (hS13.sl ho.1).idx, (hS13.sl ho.1).bc, (hS13.sl ho.1).ld, Rk.cells, (hS13.sl (ho.2.1 (iB o.ranks e) (iD (by omega))).1).len, he, q7]
     refine iA (fun q8 => ?_) (fun q8 => ?_)
     ·have hht : rE o.ranks (iB (iB (iB (iB o.dvs j).stops i).segs k).draws q) z = true := by rw [hhp, decide_eq_true (by omega), decide_eq_true (by omega)]; rfl
      simp (disch := omega) only [↓RA, RZ, simprocAttr, hn, g7, hS13.ld 6 rfl, zT, he, q7, q8]
      refine hS13.ai [I e, I (oS (oS (z + (iB (iB (iB (iB o.dvs j).stops i).segs k).draws q).shift) - (iB o.ranks e).first))] a3l b9u rfl rfl (by simp [Value.cells]) rfl rfl (by decide) (by decide) fun w1 H13 hS14 => ?_
      simp only [RT] at hS14
      simp (disch := omega) only [↓RA, RZ, simprocAttr, hn, he, q7, q8]
      refine hS14.al 3 rfl (hS14.rd 7 rfl) a3l (by rw [iI, dm, dm]; simp only [dN, dZ]; omega) fun w2 H14 hS15 => ?_
      simp only [RT] at hS15
      simp (disch := omega) only [↓RA, RZ, simprocAttr, hn, g3, g4, g5, g6, g8, g21, g22, g23, g29, g30, g31, g61, g62, g63, he, q7, q8]
      refine ⟨n - 1, by omega, q + 1, w2, by omega, by simp, rfl, ?_⟩
      rw [hd3, hht, if_pos rfl, hp1, ← ee, jD]
      exact hS15.pick [0, 1, 2, 3, 4, 5] (by decide) rfl
     have hhf : rE o.ranks (iB (iB (iB (iB o.dvs j).stops i).segs k).draws q) z = false := by rw [hhp, decide_eq_false (show ¬ oS (oS (z + (iB (iB (iB (iB o.dvs j).stops i).segs k).draws q).shift) - (iB o.ranks e).first) < _ by omega), Bool.and_false]
     simp (disch := omega) only [↓RA, RZ, simprocAttr, hn, g3, g4, g5, g6, g8, g21, g22, g23, g29, g30, g31, g61, g62, g63, g7, he, q7, q8]
     refine ⟨n - 1, by omega, q + 1, oy, by omega, by simp, rfl, ?_⟩
     rw [hd3, hhf, if_neg (by simp), dj]
     exact hS13.pick [0, 1, 2, 3, 4, 5] (by decide) rfl
    have hhf : rE o.ranks (iB (iB (iB (iB o.dvs j).stops i).segs k).draws q) z = false := by rw [hhp, decide_eq_false (show ¬ 0 ≤ oS (oS (z + (iB (iB (iB (iB o.dvs j).stops i).segs k).draws q).shift) - (iB o.ranks e).first) by omega), fB]
    simp (disch := omega) only [↓RA, RZ, simprocAttr, hn, g3, g4, g5, g6, g8, g21, g22, g23, g29, g30, g31, g61, g62, g63, g7, he, q7]
    refine ⟨n - 1, by omega, q + 1, oy, by omega, by simp, rfl, ?_⟩
    rw [hd3, hhf, if_neg (by simp), dj]
    exact hS13.pick [0, 1, 2, 3, 4, 5] (by decide) rfl
   simp (disch := omega) only [↓RA, RZ, simprocAttr, hn, g3, g4, g5, g6, g8, g21, g22, g23, g29, g30, g31, g7, q6]
   have hqq : q = (iB (iB (iB o.dvs j).stops i).segs k).draws.length := by omega
   refine ⟨(iB (iB o.dvs j).stops i).segs.length - (k + 1), by omega, k + 1, oy, by omega, by simp, rfl, ?_⟩
   rw [hsg, hd1, ← ee]
   rw [hqq, dW] at hS11
   exact hS11.pick [0, 1, 2, 3, 4] (by decide) rfl
  simp (disch := omega) only [↓RA, RZ, simprocAttr, hn, g3, g4, g5, g6, g21, g22, g23, g7, q2]
  have hkk : k = (iB (iB o.dvs j).stops i).segs.length := by omega
  refine ⟨(iB o.dvs j).stops.length - (i + 1), by omega, i + 1, ow, by omega, by simp, rfl, ?_⟩
  rw [hsu, ← hkk]
  exact hS8.pick [0, 1, 2, 3] (by decide) rfl
 simp (disch := omega) only [↓RA, RZ, simprocAttr, hn, g7, q1]
 have hii : i = (iB o.dvs j).stops.length := by omega
 rw [hii] at hS5
 have hdl2 := hdl _ (dh _)
 have hc2 : lA o ((j : Int), z) = true := hc
 have hd3e : (List.range (iB o.dvs j).stops.length).flatMap (vI o rg ((j : Int), z)) = pB o rg ((j : Int), z) := by unfold pB; rfl
 rw [hd3e] at hS5
 rw [hd3e] at hdl2
 have hsm : ∀ x ∈ pB o rg ((j : Int), z), sm x := fun x hx => (a1W ((wI h0 hc2).1 hx)).small hf ho
 refine c1k hS5 3 rfl (by omega) hsm fun HS hSS => ?_
 simp only [fS, fh] at hSS
 simp (disch := omega) only [↓RA, RZ, simprocAttr, hn, g7, q1]
 have hM1 := hSS.pick (os' := [⟨ov, 2, _⟩]) [3] (by decide) rfl
 have hR1 := hSS.pick (os' := [⟨ov, 2, _⟩, ⟨ptr A1 0 4, 0, _⟩, ⟨ptr A2 0 3, 0, _⟩, ⟨ptr A3 0 2, 0, _⟩]) [3, 0, 1, 2] (by decide) rfl
 refine iG (rQ hM1.aD (by rw [mE]; omega)) ?_
 rintro r H15 ⟨rest, hb, hrd, hT1⟩
 have hS16 := hR1.frame hT1
 simp only [RT] at hS16
 have hrr := hrd _ (hS16.rd 0 rfl)
 have hrc := hrr.cells
 simp (disch := omega) only [↓RA, RZ, simprocAttr, hn, c7t, q1]
 refine ⟨⟨⟨hrr, jG, by decide⟩, fun b h => ?_⟩, hS16.forget⟩
 rcases hS16.new _ (dH ..) b (hb b h) with h | h
 ·exact h
 ·exact h.elim
theorem a2a (o : Org) (ho : o.In H) (h0 : organE o = 0) (rg : Reg) (sv : Value) (hr : rg.In H sv) (hrl : rg.stops.length = o.dvs.length) (c : Ct) (hc : lA o c = true) :
 Fn prog 32 [.agg #[.string o.name, o.rv, o.dv, o.cv], .agg #[sv, .int .u64 rg.cpl, .int .u64 rg.off], .agg #[I c.1, I c.2]] H fun rr H' => Slx 2 jF H' (fun B => H.length ≤ B) rr (dd (pA (pB o rg c))) ∧ St prog H H' [] := by
 obtain ⟨d, z⟩ := c
 have h := (kL o _).1 hc
 obtain ⟨j, rfl⟩ := eP h.1
 exact b5X o ho h0 rg sv hr hrl j z hc
theorem a9v {o : Org} (h0 : organE o = 0) (rg : Reg) {c : Ct} (hc : lA o c = true) : (dd (pA (pB o rg c))).length ≤ 480 := by
 rw [b1w h0 hc]
 have h1 := b1G (pA (mU o rg c))
 rw [mE] at h1
 exact dB h1 (a4p (Org.aO h0) rg hc)
theorem b1U {o : Org} (h0 : organE o = 0) (rg : Reg) : ∀ (l : List Ct), (∀ c ∈ l, lA o c = true) → (l.flatMap fun c => dd (pA (pB o rg c))).length ≤ l.length * 480
 | [], _ => by simp
 | c :: l, h => by
   have h1 := a9v h0 rg (h c (dH ..))
   have h2 := b1U h0 rg l fun x hx => h x (dP _ hx)
   rw [dz, dm, dN]
   omega
theorem rY (o : Org) (ho : o.In H) (h0 : organE o = 0) (rg : Reg) (sv : Value) (hr : rg.In H sv) (hrl : rg.stops.length = o.dvs.length) (kv : Value) (ks : List Nt) (hk : Ks H kv ks) (hke : mT o ks = 0) :
 Fn prog 25 [.agg #[.string o.name, o.rv, o.dv, o.cv], .agg #[sv, .int .u64 rg.cpl, .int .u64 rg.off], kv] H fun rr H' => Slx 2 jF H' (fun B => H.length ≤ B) rr (kG o rg (iF ks)) ∧ St prog H H' [] := by
 have hf := Org.aO h0
 have hplc := oB hk.ok hke
 have hpll := pK hke
 have hsc := nS (o := o) (rg := rg) hplc
 have hsl := xD hf (rg := rg) hpll
 have hsp : dd (pA ((jX o rg (iF ks)).flatMap fun c => dd (pA (pB o rg c)))) = kG o rg (iF ks) := b5Q h0 hsc
 have hsm : ∀ x ∈ (jX o rg (iF ks)).flatMap (fun c => dd (pA (pB o rg c))), sm x := fun x hx => by
  obtain ⟨c, hc, hx⟩ := dQ.1 hx
  exact (a1W ((wI h0 (hsc c hc)).1 (qF.1 hx))).small hf ho
 have hle : ∀ i, (((jX o rg (iF ks)).take i).flatMap fun c => dd (pA (pB o rg c))).length ≤ 2048 * 480 := fun i => by
  have h1 := b1U h0 rg ((jX o rg (iF ks)).take i) fun c hc => hsc c (fX hc)
  have h2 : ((jX o rg (iF ks)).take i).length ≤ (jX o rg (iF ks)).length := by rw [fj]; omega
  exact dB h1 (dK _ (by omega))
 rw [← hsp]
 refine .bd func25 rfl (by kernel_rfl) (m := 30) rfl fun l hn g0 g1 g2 => ?_
 simp (disch := omega) only [↓RA, RB, simprocAttr, g0]
 refine (sR H).eNew 4 [(.string o.name), o.rv, o.dv, o.cv] rfl rfl (by simp [OC, ((sR H).sl ho.1).cells.2.1, ((sR H).sl ho.2.2.1).cells.2.1, ((sR H).sl ho.2.2.2.2.1).cells.2.1]) mB fun A1 H1 hS1 => ?_
 simp only [RT] at hS1
 simp (disch := omega) only [↓RA, RB, simprocAttr, g1]
 refine hS1.eNew 3 [sv, (.int .u64 rg.cpl), (.int .u64 rg.off)] rfl rfl (by simp [OC, (hS1.sl hr.1).cells.2.1]) pN fun A2 H2 hS2 => ?_
 simp only [RT] at hS2
 simp (disch := omega) only [↓RA, RZ, simprocAttr, hn, g2, hS2.ag 0 rfl, hS2.ag 1 rfl]
 refine iG ((a3A o (ho.ae hS2) hf rg sv (hr.ae hS2) kv ks (hk.ae hS2) hke).tr) ?_
 rintro r H3 ⟨-, hT1⟩
 have hS3 := hS2.trans hT1
 simp only [RT] at hS3
 obtain ⟨cv, rfl⟩ : ∃ w, w = r := ⟨r, rfl⟩
 simp (disch := omega) only [↓RA, RZ, simprocAttr, hn, (hS3.aw 2 rfl jG).len]
 have hS4 := hS3.nil 1
 simp only [RT] at hS4
 refine Wp.ak (fun n l H' => l.length = 30 ∧ get l 3 = (ptr A1 0 4) ∧ get l 4 = (ptr A2 0 3) ∧ get l 6 = (.slice none 0 0) ∧ get l 13 = cv ∧ get l 14 = I (jX o rg (iF ks)).length ∧ ∃ (i : Nat) (ov : Value), (n + i = (jX o rg (iF ks)).length) ∧ get l 15 = I i ∧ get l 7 = ov ∧ St prog H H' [⟨ptr A1 0 4, 0, [(.string o.name), o.rv, o.dv, o.cv]⟩, ⟨ptr A2 0 3, 0, [sv, (.int .u64 rg.cpl), (.int .u64 rg.off)]⟩, ⟨cv, 2, pr (jX o rg (iF ks))⟩, ⟨ov, 2, pr (((jX o rg (iF ks)).take i).flatMap fun c => dd (pA (pB o rg c)))⟩]) (jX o rg (iF ks)).length ?_ ?_
 ·simp (disch := omega) only [RB, RC, simprocAttr, hn]
  exact ⟨0, .slice none 0 0, by omega, rfl, rfl, hS4⟩
 rintro n l H4 ⟨hn, g3, g4, g6, g13, g14, i, ov, hi, g15, g7, hS5⟩
 simp (disch := omega) only [↓RA, RB, simprocAttr, hn, g14, g15]
 refine iA (fun q1 => ?_) (fun q1 => ?_)
 ·have hci := hsc _ (iD (xs := jX o rg (iF ks)) (j := i) (by omega))
  have htk := kJ (jX o rg (iF ks)) i (by omega)
  have hli := hle i
  have hl1 := a9v h0 rg hci
  simp (disch := omega) only [↓RA, RZ, simprocAttr, hn, g13, g15, (hS5.aw 2 rfl jG).idx, (hS5.aw 2 rfl jG).ag, jF, q1]
  refine hS5.eNew 2 [I 0, I 0] rfl rfl rfl mC fun A3 H5 hS6 => ?_
  simp only [RT] at hS6
  simp (disch := omega) only [↓RA, RZ, simprocAttr, hn, q1]
  refine hS6.ab 4 rfl [I (iB (jX o rg (iF ks)) i).1, I (iB (jX o rg (iF ks)) i).2] rfl rfl mC (by simp) fun H6 hS7 => ?_
  simp only [RT] at hS7
  simp (disch := omega) only [↓RA, RZ, simprocAttr, hn, g3, g4, g7, hS7.ag 0 rfl, hS7.ag 1 rfl, hS7.ag 4 rfl, q1]
  refine iG (a2a o (ho.ae hS7) h0 rg sv (hr.ae hS7) hrl (iB (jX o rg (iF ks)) i) hci) ?_
  rintro r H7 ⟨hqx, hT2⟩
  have hS8 := hS7.trans hT2
  simp only [RT] at hS8
  obtain ⟨qv, rfl⟩ : ∃ w, w = r := ⟨r, rfl⟩
  simp (disch := omega) only [↓RA, RZ, simprocAttr, hn, q1]
  refine hS8.al 3 rfl hqx.1.rd a3l (by rw [iI, show ((dd (pA (pB o rg (iB (jX o rg (iF ks)) i)))).flatMap jF).length = (dd (pA (pB o rg (iB (jX o rg (iF ks)) i)))).length * 2 from iI _]; omega) fun w1 H8 hS9 => ?_
  simp only [RT] at hS9
  simp (disch := omega) only [↓RA, RZ, simprocAttr, hn, g3, g4, g6, g13, g14, g15, q1]
  refine ⟨n - 1, by omega, i + 1, w1, by omega, by simp, rfl, ?_⟩
  rw [htk, dI, jD, dz, eF, dj]
  exact hS9.pick [0, 1, 2, 3] (by decide) rfl
 simp (disch := omega) only [↓RA, RZ, simprocAttr, hn, g7, q1]
 have hii : i = (jX o rg (iF ks)).length := by omega
 have hli := hle i
 rw [hii, dW] at hS5
 rw [hii, dW] at hli
 refine c1k hS5 3 rfl (by omega) hsm fun HS hSS => ?_
 simp only [fS, fh] at hSS
 simp (disch := omega) only [↓RA, RZ, simprocAttr, hn, g7, q1]
 have hM1 := hSS.pick (os' := [⟨ov, 2, _⟩]) [3] (by decide) rfl
 have hR1 := hSS.pick (os' := [⟨ov, 2, _⟩, ⟨ptr A1 0 4, 0, _⟩, ⟨ptr A2 0 3, 0, _⟩, ⟨cv, 2, _⟩]) [3, 0, 1, 2] (by decide) rfl
 refine iG (rQ hM1.aD (by rw [mE]; omega)) ?_
 rintro r H9 ⟨rest, hb, hrd, hT3⟩
 have hS10 := hR1.frame hT3
 simp only [RT] at hS10
 have hrr := hrd _ (hS10.rd 0 rfl)
 have hrc := hrr.cells
 simp (disch := omega) only [↓RA, RZ, simprocAttr, hn, c6r, q1]
 refine ⟨⟨⟨hrr, jG, by decide⟩, fun b h => ?_⟩, hS10.forget⟩
 rcases hS10.new _ (dH ..) b (hb b h) with h | h
 ·exact h
 ·exact h.elim
theorem a9B (v : Value) (xs : List Ct) (hv : Sl 2 jF H v xs) (hl : xs.length < 1000000000) (d : Ct) :
 Fn prog 104 [v, .agg #[I d.1, I d.2]] H fun r H' => r = I (nC (fun j => decide (iB xs j = d)) xs.length) ∧ St prog H H' [] := by
 refine .aE func104 rfl (by kernel_rfl) (m := 19) rfl fun l hn g0 g1 => ?_
 simp (disch := omega) only [↓RA, RB, simprocAttr, g1]
 refine (sR H).eNew 2 [I d.1, I d.2] rfl rfl rfl pS fun A1 H1 hS1 => ?_
 simp only [RT] at hS1
 simp (disch := omega) only [↓RA, RZ, simprocAttr, hn, g0, (hS1.sl hv).len]
 refine Wp.ak (fun n l H' => l.length = 19 ∧ get l 0 = v ∧ get l 3 = (ptr A1 0 2) ∧ get l 7 = I xs.length ∧ ∃ (j : Nat), (n + j = xs.length ∧ ∀ q, q < j → decide (iB xs q = d) = false) ∧ get l 8 = I j ∧ St prog H H' [⟨ptr A1 0 2, 0, [I d.1, I d.2]⟩]) xs.length ?_ ?_
 ·simp (disch := omega) only [RB, RC, simprocAttr, hn, g0]
  exact ⟨0, ⟨by omega, fun q hq => absurd hq (dJ _)⟩, rfl, hS1⟩
 rintro n l H2 ⟨hn, g0, g3, g7, j, ⟨hi,h0⟩, g8, hS2⟩
 simp (disch := omega) only [↓RA, RB, simprocAttr, hn, g7, g8]
 refine iA (fun h => ?_) (fun h => ?_)
 ·simp (disch := omega) only [↓RA, RZ, simprocAttr, hn, g8, h]
  refine Wp.drw jZ (by kernel_rfl) ?_
  simp (disch := omega) only [↓RA, RZ, simprocAttr, hn, g0, g3, hS2.ag 0 rfl, (hS2.sl hv).idx, (hS2.sl hv).ag, jF]
  refine iA (fun hp => ?_) (fun hp => ?_)
  ·simp (disch := omega) only [↓RA, RZ, simprocAttr, hn, c0T, hp]
   exact ⟨by rw [tJ _ xs.length j (by omega) (by simpa using (Ct.cK _ _).1 hp) h0], hS2.forget⟩
  simp (disch := omega) only [↓RA, RZ, simprocAttr, hn, g0, g3, g7, g8, hp]
  exact ⟨n - 1, by omega, j + 1, ⟨by omega, fun q hq => by rcases dp.1 hq with e | e; (· exact h0 q e); (· rw [e]; simpa using fun hh => hp ((Ct.cK _ _).2 hh))⟩, by simp, hS2⟩
 simp (disch := omega) only [↓RA, RZ, simprocAttr, hn, c0T, h]
 exact ⟨by rw [tV _ xs.length fun q hq => h0 q (by omega)], hS2.forget⟩
theorem b4F (v : Value) (xs : List Ct) (hv : Sl 2 jF H v xs) (hl : xs.length < 1000000000) (d : Ct) :
 Fn prog 61 [v, .agg #[I d.1, I d.2]] H fun r H' => r = .bool (decide (d ∈ xs)) ∧ St prog H H' [] := by
 have e : decide (0 ≤ nC (fun j => decide (iB xs j = d)) xs.length) = decide (d ∈ xs) := by
  rw [dY, decide_eq_true_iff, decide_eq_true_iff, sV]
  constructor
  ·rintro ⟨j, hj, hp⟩
   rw [← of_decide_eq_true hp]; exact iD hj
  ·intro hx
   obtain ⟨j, hj, rfl⟩ := dD.1 hx
   exact ⟨j, hj, by rw [jJ xs j hj]; simp⟩
 refine .aE func61 rfl (by kernel_rfl) (m := 9) rfl fun l hn g0 g1 => ?_
 simp (disch := omega) only [↓RA, RB, simprocAttr, g1]
 refine (sR H).eNew 2 [I d.1, I d.2] rfl rfl rfl pS fun A1 H1 hS1 => ?_
 simp only [RT] at hS1
 simp (disch := omega) only [↓RA, RZ, simprocAttr, hn, g0, hS1.ag 0 rfl]
 refine hS1.cF (a9B v xs (hS1.sl hv) hl d) fun H2 hS2 => ?_
 simp (disch := omega) only [↓RA, RB, simprocAttr, hn, c7G]
 rw [← e]
 first | exact hS2.forget | exact ⟨rfl, hS2.forget⟩
theorem b4M (v : Value) (xs : List Ct) (hv : Sl 2 jF H v xs) (hl : xs.length < 1000000000) (k : FuncId) (caps : List Value) (p : Nat → Bool)
 (hf : ∀ j H1, j < xs.length → St prog H H1 [] → Fn prog k (.agg #[I (iB xs j).1, I (iB xs j).2] :: caps) H1 fun r H2 => r = .bool (p j) ∧ St prog H1 H2 []) :
 Fn prog 103 [v, .func (.func k) #[] caps.toArray] H fun r H' => r = I (nC p xs.length) ∧ St prog H H' [] := by
 refine .aE func103 rfl (by kernel_rfl) (m := 19) rfl fun l hn g0 g1 => ?_
 simp (disch := omega) only [↓RA, RZ, simprocAttr, hn, g0, ((sR H).sl hv).len]
 refine Wp.ak (fun n l H' => l.length = 19 ∧ get l 0 = v ∧ get l 1 = .func (.func k) #[] caps.toArray ∧ get l 7 = I xs.length ∧ ∃ (j : Nat), (n + j = xs.length ∧ ∀ q, q < j → p q = false) ∧ get l 8 = I j ∧ St prog H H' []) xs.length ?_ ?_
 ·simp (disch := omega) only [RB, RC, simprocAttr, hn, g0, g1]
  exact ⟨0, ⟨by omega, fun q hq => absurd hq (dJ _)⟩, rfl, (sR H)⟩
 rintro n l H1 ⟨hn, g0, g1, g7, j, ⟨hi,h0⟩, g8, hS1⟩
 simp (disch := omega) only [↓RA, RB, simprocAttr, hn, g7, g8]
 refine iA (fun h => ?_) (fun h => ?_)
 ·simp (disch := omega) only [↓RA, RZ, simprocAttr, hn, g0, g1, g8, (hS1.sl hv).idx, (hS1.sl hv).ag, jF, h]
  refine hS1.cF (hf j _ (by omega) hS1) fun H2 hS2 => ?_
  simp (disch := omega) only [↓RA, RZ, simprocAttr, hn, h]
  refine jI (fun hp => ?_) (fun hp => ?_)
  ·simp (disch := omega) only [↓RA, RZ, simprocAttr, hn, c1r, h, hp]
   exact ⟨by rw [tJ p xs.length j (by omega) hp h0], hS2⟩
  simp (disch := omega) only [↓RA, RZ, simprocAttr, hn, g0, g1, g7, g8, h, hp]
  exact ⟨n - 1, by omega, j + 1, ⟨by omega, fun q hq => by rcases dp.1 hq with e | e; (· exact h0 q e); (· rw [e]; exact hp)⟩, by simp, hS2⟩
 simp (disch := omega) only [↓RA, RZ, simprocAttr, hn, c1r, h]
 exact ⟨by rw [tV p xs.length fun q hq => h0 q (by omega)], hS1⟩
theorem c4N : a8s prog 58 = some (1 + 1) := by kernel_rfl
theorem c3Z {B : Base} {v : Value} {xs : List Ct} (hS : St prog B H [⟨v, 2, pr xs⟩]) (hl : xs.length < 100000000) (k : FuncId) (caps : List Value) (p : Ct → Bool)
 (hf : ∀ c ∈ xs, ∀ {H1 : Heap} {os : List Ob}, St prog B H1 os → Fn prog k (.agg #[I c.1, I c.2] :: caps) H1 fun r H2 => r = .bool (p c) ∧ St prog H1 H2 []) :
 Fn prog 58 [v, .func (.func k) #[] caps.toArray] H fun r H' => ∃ rest : List Value, (∀ b, kH r = some b → kH v = some b) ∧ (∀ H2, RdAt H2 v 2 (pr (xs.filter fun c => !p c) ++ rest) → RdAt H2 r 2 (pr (xs.filter fun c => !p c))) ∧
  St prog B H' [⟨v, 2, pr (xs.filter fun c => !p c) ++ rest⟩] := by
 refine .aE func58 rfl (by kernel_rfl) (m := 42) rfl fun l hn g0 g1 => ?_
 simp (disch := omega) only [↓RA, RZ, simprocAttr, hn, g0, g1]
 refine hS.cF (b4M v xs (hS.aw 0 rfl (fun _ => rfl)) (by omega) k caps (fun j => p (iB xs j)) (fun j H1 hj hS' => hf _ (iD hj) (hS.trans hS'))) fun H1 hS1 => ?_
 simp (disch := omega) only [↓RA, RB, simprocAttr, hn]
 refine iA (fun h1 => ?_) (fun h1 => ?_)
 ·have hno : ∀ c ∈ xs, p c = false := by
   intro c hc
   obtain ⟨j, hj, rfl⟩ := dD.1 hc
   have h2 : ¬ 0 ≤ nC (fun j => p (iB xs j)) xs.length := by omega
   rw [sV] at h2
   rw [← jJ xs j hj, ← eE]
   exact fun hp => h2 ⟨j, hj, hp⟩
  have hfe : (xs.filter fun c => !p c) = xs := List.filter_eq_self.2 fun c hc => by rw [hno c hc]; rfl
  simp (disch := omega) only [↓RA, RZ, simprocAttr, hn, g0, c4T, h1]
  exact ⟨[], fun _ h => h, by rw [hfe, dj]; exact fun _ h => h, by rw [hfe, dj]; exact hS1⟩
 have hge : 0 ≤ nC (fun j => p (iB xs j)) xs.length := by
  unfold nC at h1 ⊢
  split
  ·omega
  ·rename_i hq
   rw [hq] at h1
   exact absurd rfl h1
 obtain ⟨i0, hi0⟩ : ∃ i0 : Nat, nC (fun j => p (iB xs j)) xs.length = i0 := ⟨_, (fM hge).symm⟩
 have hi0l := yR hi0
 have hi0b : (∀ j, j < i0 → p (iB xs j) = false) ∧ p (iB xs i0) = true := by
  unfold nC at hi0
  split at hi0
  ·rename_i q hq
   have hqi : q = i0 := by omega
   subst hqi
   rw [List.find?_range_eq_some] at hq
   exact ⟨fun j hj => by have := hq.2.2 j hj; simpa using this, hq.1⟩
  ·omega
 have hD0 : ((xs.take (i0 + 1)).filter fun c => !p c) = xs.take i0 := by
  rw [kJ xs i0 hi0l, eI]
  have e1 : ([iB xs i0].filter fun c => !p c) = [] := by simp [hi0b.2]
  rw [e1, dj]
  refine List.filter_eq_self.2 fun c hc => ?_
  obtain ⟨j, hj, rfl⟩ := dD.1 hc
  have hj2 : j < i0 := by rw [fj] at hj; omega
  have := hi0b.1 j hj2
  rw [jJ xs j (by omega)] at this
  rw [List.getElem_take, this]
  rfl
 simp (disch := omega) only [↓RA, RZ, simprocAttr, hn, hi0]
 have hrow : St prog B H1 [⟨v, 2, pr (((xs.take (i0 + 1)).filter fun c => !p c) ++ xs.drop ((xs.take (i0 + 1)).filter fun c => !p c).length)⟩] := by
  rw [hD0, fj, fD (by omega), gr]
  exact hS1
 have hlt0 : ((xs.take (i0 + 1)).filter fun c => !p c).length < i0 + 1 := by
  rw [hD0, fj]
  omega
 refine Wp.ak (fun n l H' => l.length = 42 ∧ get l 0 = v ∧ get l 1 = .func (.func k) #[] caps.toArray ∧ ∃ j : Nat, (n + j = xs.length ∧ ((xs.take j).filter fun c => !p c).length < j) ∧ get l 5 = I ((xs.take j).filter fun c => !p c).length ∧ get l 6 = I j ∧ St prog B H' [⟨v, 2, pr (((xs.take j).filter fun c => !p c) ++ xs.drop ((xs.take j).filter fun c => !p c).length)⟩]) (xs.length - (i0 + 1)) ?_ ?_
 ·simp (disch := omega) only [RB, RC, simprocAttr, hn, g0, g1]
  refine ⟨i0 + 1, ⟨by omega, hlt0⟩, ?_, by simp, hrow⟩
  rw [hD0, fj, fD (by omega)]
 clear hrow hlt0
 rintro n l H9 ⟨hn, g0, g1, j, ⟨hj, hlt⟩, g5, g6, hS9⟩
 have hsucc : j < xs.length → ((xs.take (j + 1)).filter fun c => !p c) = ((xs.take j).filter fun c => !p c) ++ (if p (iB xs j) = true then [] else [iB xs j]) := fun h => by
  rw [kJ xs j h, eI]
  congr 1
  by_cases hp : p (iB xs j) = true
  ·rw [if_pos hp]; simp [hp]
  ·rw [if_neg hp]; simp [hp]
 have hall : j = xs.length → ((xs.take j).filter fun c => !p c) = xs.filter fun c => !p c := fun h => by rw [h, dW]
 generalize hD : ((xs.take j).filter fun c => !p c) = D at g5 hlt hS9 hsucc hall
 have hjl : j ≤ xs.length := by omega
 have hrl : (D ++ xs.drop D.length).length = xs.length := by rw [dm, eV]; omega
 have hat : ∀ q, D.length ≤ q → iB (D ++ xs.drop D.length) q = iB xs q := fun q hq => by
  unfold iB
  rw [db, ey hq, dG, db]
  congr 2; omega
 have hatj := hat j (by omega)
 simp (disch := omega) only [↓RA, RZ, simprocAttr, hn, g0, g6, (hS9.aw 0 rfl (fun _ => rfl)).len, hrl]
 refine iA (fun h4 => ?_) (fun h4 => ?_)
 ·have hjx : j < xs.length := by omega
  have hsu := hsucc hjx
  simp (disch := omega) only [↓RA, RZ, simprocAttr, hn, g0, g6, (hS9.aw 0 rfl (fun _ => rfl)).idx, (hS9.aw 0 rfl (fun _ => rfl)).ag, jF, hatj, h4]
  refine hS9.eNew 2 [I 0, I 0] rfl rfl rfl pS fun A1 H2 hS2 => ?_
  simp only [RT] at hS2
  simp (disch := omega) only [↓RA, RZ, simprocAttr, hn, h4]
  refine hS2.ab 1 rfl [I (iB xs j).1, I (iB xs j).2] rfl rfl pS (by simp) fun H3 hS3 => ?_
  simp only [RT] at hS3
  simp (disch := omega) only [↓RA, RZ, simprocAttr, hn, g1, hS3.ag 1 rfl, h4]
  refine hS3.cF (hf (iB xs j) (iD hjx) hS3) fun H4 hS4 => ?_
  simp (disch := omega) only [↓RA, RZ, simprocAttr, hn, h4]
  refine jI (fun h5 => ?_) (fun h5 => ?_)
  ·have hpf : ¬ p (iB xs j) = true := by simpa using h5
   rw [if_neg hpf] at hsu
   simp (disch := omega) only [↓RA, RZ, simprocAttr, hn, g0, g5, hS4.ag 1 rfl, (hS4.aw 0 rfl (fun _ => rfl)).idx, h4, h5]
   refine hS4.aW 0 rfl [I (iB xs j).1, I (iB xs j).2] rfl rfl pS (by simp) (by rw [iI, hrl]; simp; omega) fun H5 hS5 => ?_
   simp only [RT] at hS5
   simp (disch := omega) only [↓RA, RZ, simprocAttr, hn, g0, g1, g5, g6, h4, h5]
   refine ⟨n - 1, by omega, j + 1, ?_⟩
   rw [hsu]
   refine ⟨⟨by omega, by simp; omega⟩, by simp, by simp, ?_⟩
   have e3 : pr (D ++ [iB xs j] ++ xs.drop (D ++ [iB xs j]).length) = ((pr (D ++ xs.drop D.length)).set (D.length * 2) (I (iB xs j).1)).set (D.length * 2 + 1) (I (iB xs j).2) := by
    have hx : xs.drop D.length = iB xs D.length :: xs.drop (D.length + 1) := by
     rw [jJ xs _ (by omega)]
     exact fm (by omega)
    rw [hx, dm, gu, jD, jD, jD]
    have e4 : pr (iB xs D.length :: xs.drop (D.length + 1)) = I (iB xs D.length).1 :: I (iB xs D.length).2 :: pr (xs.drop (D.length + 1)) := rfl
    have e5 : pr [iB xs j] = [I (iB xs j).1, I (iB xs j).2] := rfl
    have e6 : (pr D).length = D.length * 2 := iI D
    rw [e4, e5, eX _ _ (by omega), eX _ _ (by omega), e6, gZ, fL]
    simp
   rw [e3]
   exact hS5.pick [0] (by decide) rfl
  have hpt : p (iB xs j) = true := by simpa using h5
  rw [if_pos hpt, dj] at hsu
  simp (disch := omega) only [↓RA, RZ, simprocAttr, hn, g0, g1, g5, g6, h4, h5]
  refine ⟨n - 1, by omega, j + 1, ?_⟩
  rw [hsu]
  exact ⟨⟨by omega, by omega⟩, rfl, by simp, hS4.pick [0] (by decide) rfl⟩
 have hje : j = xs.length := by omega
 have hDe := hall hje
 have hcl : (pr (D ++ xs.drop D.length)).length = xs.length * (1 + 1) := by rw [iI, hrl]
 have hDn : D.length ≤ xs.length := by omega
 simp (disch := omega) only [↓RA, RZ, simprocAttr, hn, g0, g5, (hS9.aw 0 rfl (fun _ => rfl)).aR, hrl, h4]
 rw [show ((xs.length : Int) - D.length).toNat = xs.length - D.length from by omega]
 refine hS9.bC (size := 1) 0 rfl D.length (xs.length - D.length) (by rw [hcl]; omega) (by
  intro e
  have h2 : (pr (D ++ xs.drop D.length)).length = 0 := by rw [e]; rfl
  rw [hcl] at h2; omega) c4N fun z H3 hz hSc => ?_
 simp only [RT] at hSc
 have e3 : iX (pr (D ++ xs.drop D.length)) (D.length * 2) z = pr D ++ z := by
  rw [jD, show D.length * 2 = (pr D).length from (iI D).symm, mF z (pr D) (pr (xs.drop D.length)) (by rw [iI, eV]; omega)]
  rw [List.drop_of_length_le (by rw [iI, eV]; omega), dj]
 rw [show D.length * (1 + 1) = D.length * 2 from rfl, e3] at hSc
 have hw : RdAt H3 v (1 + 1) (pr D ++ z) := hSc.rd 0 rfl
 have hwl : (pr D ++ z).length = xs.length * (1 + 1) := by rw [dm, iI, hz]; omega
 simp (disch := omega) only [↓RA, RZ, simprocAttr, hn, g0, g5, hw.aS hwl, c4T, h4]
 refine ⟨z, fun b h => a2c h, fun H2 h2 => ?_, by rw [← hDe]; exact hSc⟩
 rw [← hDe] at h2 ⊢
 have h5 := RdAt.sub h2 0 D.length (by rw [hwl]; omega) (by
  intro e
  rw [e] at hwl
  simp at hwl; omega)
 rw [Nat.zero_mul, List.drop_zero, show D.length * 2 = (pr D).length from (iI D).symm, List.take_left' rfl] at h5
 exact h5
theorem c0e (a : Addr) (m c : Nat) : kK prog .eql 58 58 false true (.slice (some a) m c) (.slice none 0 0) = some (.bool false) := by kernel_rfl
theorem a5N {v : Value} {a : Addr} {m c : Nat} (h : v = .slice (some a) m c) (K : Value → Prop) : kP prog .eql 58 58 false true v (.slice none 0 0) K = nM (.bool false) K := by
 subst h
 show jS (kK prog .eql 58 58 false true (.slice (some a) m c) (.slice none 0 0)) K = _
 rw [c0e]
 rfl
theorem b4O : kK prog .eql 58 58 false true (.slice none 0 0) (.slice none 0 0) = some (.bool true) := by kernel_rfl
theorem wR (K : Value → Prop) : kP prog .eql 58 58 false true (.slice none 0 0) (.slice none 0 0) K = nM (.bool true) K := by
 show jS (kK prog .eql 58 58 false true (.slice none 0 0) (.slice none 0 0)) K = _
 rw [b4O]
 rfl
theorem b0m (v : Value) (xs : List Ct) (hv : Sl 2 jF H v xs) (hl : xs.length < 100000000) : Fn prog 59 [v] H fun r H' => St prog H H' [⟨r, 2, pr xs⟩] := by
 rcases hv.rd with ⟨rfl, h2⟩ | ⟨A, i, e, row, ty, rw', lo, ver, m, _, _, _, _, _, _, hvv⟩
 ·have hx : xs = [] := by
   have := congrArg List.length h2
   rw [show (xs.flatMap jF).length = xs.length * 2 from iI xs, dZ] at this
   exact eY.1 (by omega)
  subst hx
  refine .aQ func59 rfl (by kernel_rfl) (m := 8) rfl fun l hn g0 => ?_
  have hbe := wR
  simp (disch := omega) only [↓RA, RB, simprocAttr, hn, g0, wR]
  have hS1 := (sR H).nil 1
  simp only [RT] at hS1
  simp (disch := omega) only [RB, simprocAttr, hn, c5P]
  exact hS1
 ·refine .aQ func59 rfl (by kernel_rfl) (m := 8) rfl fun l hn g0 => ?_
  simp (disch := omega) only [↓RA, RB, simprocAttr, hn, g0, a5N hvv]
  refine (sR H).bn a3l fun w1 H1 hS1 => ?_
  simp only [RT] at hS1
  simp (disch := omega) only [↓RA, RZ, simprocAttr, hn, g0]
  refine hS1.al 0 rfl (hS1.sl hv).rd a3l (by rw [show (xs.flatMap jF).length = xs.length * 2 from iI xs]; simp; omega) fun w2 H2 hS2 => ?_
  simp only [RT] at hS2
  simp (disch := omega) only [↓RA, RB, simprocAttr, hn, c5P]
  exact hS2
theorem a7G (c : Ct) (A : Nat) (bv : Value) (ys : List Ct) (hA : Var H A 1 [bv]) (hb : Sl 2 jF H bv ys) (hl : ys.length < 100000000) :
 Fn prog 60 [.agg #[I c.1, I c.2], ptr A 0 1] H fun r H' => r = .bool (decide (c ∈ ys)) ∧ St prog H H' [] := by
 refine .aE func60 rfl (by kernel_rfl) (m := 7) rfl fun l hn g0 g1 => ?_
 simp (disch := omega) only [↓RA, RB, simprocAttr, g0]
 refine (sR H).eNew 2 [I c.1, I c.2] rfl rfl rfl pS fun A1 H1 hS1 => ?_
 simp only [RT] at hS1
 simp (disch := omega) only [↓RA, RZ, simprocAttr, hn, g1, (hA.ae hS1.ae).ld, hS1.ag 0 rfl]
 refine hS1.cF (b4F bv ys (hS1.sl hb) (by omega) c) fun H2 hS2 => ?_
 simp (disch := omega) only [↓RA, RZ, simprocAttr, hn, c6Z]
 exact hS2.forget
theorem a5n (v w : Value) (xs ys : List Ct) (hv : Sl 2 jF H v xs) (hw : Sl 2 jF H w ys) (hl : xs.length < 10000000) (hl2 : ys.length < 10000000) :
 Fn prog 24 [v, w] H fun r H' => Slx 2 jF H' (fun B => H.length ≤ B) r (xs.filter fun c => !decide (c ∈ ys)) ∧ St prog H H' [] := by
 refine .aE func24 rfl (by kernel_rfl) (m := 9) rfl fun l hn g0 g1 => ?_
 simp (disch := omega) only [↓RA, RB, simprocAttr, g1]
 refine (sR H).eNew 1 [w] (by rw [((sR H).sl hw).cells.1]) rfl (by simp [((sR H).sl hw).cells.2.1]) c4O fun A1 H1 hS1 => ?_
 simp only [RT] at hS1
 simp (disch := omega) only [↓RA, RZ, simprocAttr, hn, g0]
 refine iG ((b0m v xs (hS1.sl hv) (by omega)).tr) ?_
 rintro r H2 ⟨-, hT1⟩
 have hS2 := hS1.trans hT1
 simp only [RT] at hS2
 obtain ⟨cw, rfl⟩ : ∃ w, w = r := ⟨r, rfl⟩
 simp (disch := omega) only [↓RA, RZ, simprocAttr, hn]
 have hM1 := hS2.pick (os' := [⟨cw, 2, _⟩]) [1] (by decide) rfl
 have hR1 := hS2.pick (os' := [⟨cw, 2, _⟩, ⟨ptr A1 0 1, 0, _⟩]) [1, 0] (by decide) rfl
 refine iG (c3Z (xs := xs) hM1.aD (by omega) 60 [ptr A1 0 1] (fun c => decide (c ∈ ys)) (fun c hc {H9 os} h => by
  have q1 := hR1.frame h.forget
  exact a7G c A1 w ys (q1.var 0 rfl) (q1.sl hw) (by omega))) ?_
 rintro r H3 ⟨rest, hb, hrd, hT2⟩
 have hS3 := hR1.frame hT2
 simp only [RT] at hS3
 have hrr := hrd _ (hS3.rd 0 rfl)
 have hrc := hrr.cells
 simp (disch := omega) only [↓RA, RB, simprocAttr, hn, c7I]
 refine ⟨⟨⟨hrr, jG, by decide⟩, fun b h => ?_⟩, hS3.forget⟩
 rcases hS3.new _ (dH ..) b (hb b h) with h | h
 ·exact h
 ·exact h.elim
theorem b7p {x y : Int × Int} : cf2 x y < 0 ↔ xT x y := by
 unfold cf2 xT
 split
 ·omega
 ·split
  ·omega
  ·split
   ·omega
   ·split <;> omega
theorem b6I {x y : Int × Int} : cf2 x y = 0 ↔ x = y := by
 unfold cf2
 constructor
 ·intro h
  split at h
  ·omega
  ·split at h
   ·omega
   ·split at h
    ·omega
    ·split at h
     ·omega
     ·exact fI (by omega) (by omega)
 ·rintro rfl
  rw [if_neg (by omega), if_neg (by omega), if_neg (by omega), if_neg (by omega)]
theorem a5K {xs : List Ct} (hs : xs.Pairwise xT) {i j : Nat} (h : i < j) (hj : j < xs.length) : xT (iB xs i) (iB xs j) := by
 rw [jJ _ _ (by omega), jJ _ _ hj]
 exact eK.1 hs i j (by omega) hj h
theorem c2B (v : Value) (xs : List Ct) (hv : Sl 2 jF H v xs) (hl : xs.length < 1000000000) (hs : xs.Pairwise xT) (t : Ct) :
 Fn prog 99 [v, .agg #[I t.1, I t.2], .func (.func 100) #[] #[]] H fun r H' => ∃ k : Nat, r = .tuple #[I k, .bool (decide (t ∈ xs))] ∧ St prog H H' [] := by
 refine .bd func99 rfl (by kernel_rfl) (m := 49) rfl fun l hn g0 g1 g2 => ?_
 simp (disch := omega) only [↓RA, RB, simprocAttr, g1]
 refine (sR H).eNew 2 [I t.1, I t.2] rfl rfl rfl pS fun A1 H1 hS1 => ?_
 simp only [RT] at hS1
 simp (disch := omega) only [↓RA, RZ, simprocAttr, hn, g0, (hS1.sl hv).len]
 refine Wp.ak (fun n l H' => l.length = 49 ∧ get l 0 = v ∧ get l 2 = (.func (.func 100) #[] #[]) ∧ get l 4 = (ptr A1 0 2) ∧ get l 6 = I 0 ∧ get l 7 = (.bool false) ∧ get l 8 = I xs.length ∧ ∃ (i : Nat) (j : Nat), (n + i = j ∧ j ≤ xs.length ∧ (∀ q, q < i → xT (iB xs q) t) ∧ ∀ q, j ≤ q → q < xs.length → ¬ xT (iB xs q) t) ∧ get l 9 = I i ∧ get l 10 = I j ∧ St prog H H' [⟨ptr A1 0 2, 0, [I t.1, I t.2]⟩]) xs.length ?_ ?_
 ·simp (disch := omega) only [RB, RC, simprocAttr, hn, g0, g2]
  exact ⟨0, xs.length, ⟨by omega, by omega, fun q hq => absurd hq (dJ _), fun q h1 h2 => absurd h2 (by omega)⟩, rfl, rfl, hS1⟩
 rintro n l H2 ⟨hn, g0, g2, g4, g6, g7, g8, i, j, ⟨h1,h2,h3,h4⟩, g9, rN, hS2⟩
 simp (disch := omega) only [↓RA, RB, simprocAttr, hn, g9, rN]
 refine iA (fun q1 => ?_) (fun q1 => ?_)
 ·obtain ⟨m, hm⟩ : ∃ m : Nat, (i + j) / 2 = m := ⟨_, rfl⟩
  have e1 : ((i : Int) + j).fdiv (2 ^ min 1 (IntKind.bits .u64)) = ((m : Nat) : Int) := by
   have h := a0n (i + j) 1 (by omega)
   rw [eM] at h
   rw [← hm]
   exact h
  simp (disch := omega) only [↓RA, RZ, simprocAttr, hn, g9, rN, q1, e1]
  refine Wp.drw jZ (by kernel_rfl) ?_
  simp (disch := omega) only [↓RA, RZ, simprocAttr, hn, g0, g2]
  simp (disch := omega) only [↓RA, RZ, simprocAttr, hn, g4, (hS2.sl hv).idx, (hS2.sl hv).ag, jF, hS2.ag 0 rfl]
  refine hS2.cF (a4W (iB xs m) t) fun H3 hS3 => ?_
  simp (disch := omega) only [↓RA, RB, simprocAttr, hn]
  refine iA (fun q2 => ?_) (fun q2 => ?_)
  ·have hlt := b7p.1 q2
   simp (disch := omega) only [↓RA, RZ, simprocAttr, hn, g0, g2, g4, g6, g7, g8, rN, q2]
   refine ⟨j - (m + 1), by omega, m + 1, j, ⟨by omega, h2, fun q hq => ?_, h4⟩, by simp, rfl, hS3⟩
   by_cases e : q = m
   ·rw [e]; exact hlt
   ·exact a0b (a5K hs (show q < m by omega) (by omega)) hlt
  have hnl : ¬ xT (iB xs m) t := fun h => q2 (b7p.2 h)
  simp (disch := omega) only [↓RA, RZ, simprocAttr, hn, g0, g2, g4, g6, g7, g8, g9, q2]
  refine ⟨m - i, by omega, i, m, ⟨by omega, by omega, h3, fun q hq hql h => ?_⟩, rfl, by simp, hS3⟩
  by_cases e : q = m
  ·rw [e] at h; exact hnl h
  ·exact hnl (a0b (a5K hs (show m < q by omega) hql) h)
 have hij : i = j := by omega
 have hno : ∀ q, q < xs.length → q ≠ i → iB xs q ≠ t := fun q hq hne e => by
  by_cases hqi : q < i
  ·have := h3 q hqi
   rw [e] at this
   exact a1D this
  ·have h5 := h4 i (by omega) (by omega)
   have h6 := a5K hs (show i < q by omega) hq
   rw [e] at h6
   exact h5 h6
 simp (disch := omega) only [↓RA, RC, simprocAttr, q1]
 refine Wp.drw jZ (by kernel_rfl) ?_
 simp (disch := omega) only [↓RA, RZ, simprocAttr, hn, g8, g9]
 refine jM (fun q3 => ?_) (fun q3 => ?_)
 ·simp (disch := omega) only [↓RA, RZ, simprocAttr, hn, g0, g2, g4, g9, (hS2.sl hv).idx, (hS2.sl hv).ag, jF, hS2.ag 0 rfl, q3]
  refine hS2.cF (a4W (iB xs i) t) fun H4 hS4 => ?_
  simp (disch := omega) only [↓RA, RZ, simprocAttr, hn, c6l, q3]
  have he : decide (cf2 (iB xs i) t = 0) = decide (t ∈ xs) := by
   rw [decide_eq_decide, b6I]
   constructor
   ·intro e
    rw [← e]
    exact iD (by omega)
   ·intro hm
    obtain ⟨q, hq, e⟩ := dD.1 hm
    rw [← jJ _ _ hq] at e
    by_cases hqi : q = i
    ·rw [hqi] at e; exact e
    ·exact absurd e (hno q hq hqi)
  exact ⟨i, by rw [← he], hS4.forget⟩
 have hf : decide (t ∈ xs) = false := by
  rw [decide_eq_false_iff_not]
  intro hm
  obtain ⟨q, hq, e⟩ := dD.1 hm
  rw [← jJ _ _ hq] at e
  exact hno q hq (by omega) e
 simp (disch := omega) only [↓RA, RZ, simprocAttr, hn, c6l, q3]
 exact ⟨i, by rw [hf], hS2.forget⟩
def wL (xs ys : List Ct) : List Ct := xs.filter fun c => !decide (c ∈ ys)
theorem a8l (xs ys : List Ct) : (wL xs ys).length ≤ xs.length := ed _ _
theorem b0T (xs ys : List Ct) (i : Nat) (h : i < xs.length) : wL (xs.take (i + 1)) ys = wL (xs.take i) ys ++ (if iB xs i ∈ ys then [] else [iB xs i]) := by
 unfold wL
 rw [kJ xs i h, eI]
 congr 1
 by_cases e : iB xs i ∈ ys <;> simp [e]
theorem a8C (v w : Value) (xs ys : List Ct) (hv : Sl 2 jF H v xs) (hw : Sl 2 jF H w ys) (hl : xs.length < 100000000) (hl2 : ys.length < 100000000) (hs : ys.Pairwise xT) :
 Fn prog 56 [v, w] H fun r H' => St prog H H' [⟨r, 2, pr (wL xs ys)⟩] := by
 refine .aE func56 rfl (by kernel_rfl) (m := 30) rfl fun l hn g0 g1 => ?_
 simp (disch := omega) only [↓RA, RZ, simprocAttr, hn, g0, ((sR H).sl hv).len]
 have hS1 := (sR H).nil 1
 simp only [RT] at hS1
 refine Wp.ak (fun n l H' => l.length = 30 ∧ get l 1 = w ∧ get l 4 = (.slice none 0 0) ∧ get l 10 = v ∧ get l 11 = I xs.length ∧ ∃ (i : Nat) (ov : Value), (n + i = xs.length) ∧ get l 12 = I i ∧ get l 5 = ov ∧ St prog H H' [⟨ov, 2, pr (wL (xs.take i) ys)⟩]) xs.length ?_ ?_
 ·simp (disch := omega) only [RB, RC, simprocAttr, hn, g1]
  exact ⟨0, .slice none 0 0, by omega, rfl, rfl, hS1⟩
 rintro n l H1 ⟨hn, g1, g4, rN, g11, i, ov, hi, g12, g5, hS2⟩
 simp (disch := omega) only [↓RA, RB, simprocAttr, hn, g11, g12]
 refine iA (fun q1 => ?_) (fun q1 => ?_)
 ·have hsu := b0T xs ys i (by omega)
  have hle := a8l (xs.take i) ys
  have htl := List.length_take_le i xs
  simp (disch := omega) only [↓RA, RZ, simprocAttr, hn, rN, g12, (hS2.sl hv).idx, (hS2.sl hv).ag, jF, q1]
  refine hS2.eNew 2 [I 0, I 0] rfl rfl rfl pS fun A1 H2 hS3 => ?_
  simp only [RT] at hS3
  simp (disch := omega) only [↓RA, RZ, simprocAttr, hn, q1]
  refine hS3.ab 1 rfl [I (iB xs i).1, I (iB xs i).2] rfl rfl pS (by simp) fun H3 hS4 => ?_
  simp only [RT] at hS4
  simp (disch := omega) only [↓RA, RZ, simprocAttr, hn, g1, hS4.ag 1 rfl, q1]
  refine iG (c2B w ys (hS4.sl hw) (by omega) hs (iB xs i)) ?_
  rintro r H4 ⟨k, rfl, hT1⟩
  have hS5 := hS4.trans hT1
  simp only [RT] at hS5
  simp (disch := omega) only [↓RA, RZ, simprocAttr, hn, q1]
  refine jI (fun q2 => ?_) (fun q2 => ?_)
  ·have hni : ¬ iB xs i ∈ ys := by simpa using q2
   rw [if_neg hni] at hsu
   simp (disch := omega) only [↓RA, RZ, simprocAttr, hn, g5, hS5.ag 1 rfl, q1, q2]
   refine hS5.ai [I (iB xs i).1, I (iB xs i).2] a3l b9u rfl rfl (by simp [Value.cells]) rfl rfl (by decide) (by decide) fun w1 H5 hS6 => ?_
   simp only [RT] at hS6
   simp (disch := omega) only [↓RA, RZ, simprocAttr, hn, q1, q2]
   refine hS6.al 0 rfl (hS6.rd 2 rfl) a3l (by rw [iI]; simp only [dN, dZ]; omega) fun w2 H6 hS7 => ?_
   simp only [RT] at hS7
   simp (disch := omega) only [↓RA, RZ, simprocAttr, hn, g1, g4, rN, g11, g12, q1, q2]
   refine ⟨n - 1, by omega, i + 1, w2, by omega, by simp, rfl, ?_⟩
   rw [hsu, jD]
   exact hS7.pick [0] (by decide) rfl
  have hni : iB xs i ∈ ys := by simpa using q2
  rw [if_pos hni, dj] at hsu
  simp (disch := omega) only [↓RA, RZ, simprocAttr, hn, g1, g4, rN, g11, g12, g5, q1, q2]
  refine ⟨n - 1, by omega, i + 1, ov, by omega, by simp, rfl, ?_⟩
  rw [hsu]
  exact hS5.pick [0] (by decide) rfl
 simp (disch := omega) only [↓RA, RZ, simprocAttr, hn, g5, c6P, q1]
 have hii : i = xs.length := by omega
 rw [hii, dW] at hS2
 exact hS2
theorem a1w (a : Addr) (m c : Nat) : kK prog .eql 44 44 false true (.slice (some a) m c) (.slice none 0 0) = some (.bool false) := by kernel_rfl
theorem vS {v : Value} {a : Addr} {m c : Nat} (h : v = .slice (some a) m c) (K : Value → Prop) : kP prog .eql 44 44 false true v (.slice none 0 0) K = nM (.bool false) K := by
 subst h
 show jS (kK prog .eql 44 44 false true (.slice (some a) m c) (.slice none 0 0)) K = _
 rw [a1w]
 rfl
theorem a0l : kK prog .eql 44 44 false true (.slice none 0 0) (.slice none 0 0) = some (.bool true) := by kernel_rfl
theorem oX (K : Value → Prop) : kP prog .eql 44 44 false true (.slice none 0 0) (.slice none 0 0) K = nM (.bool true) K := by
 show jS (kK prog .eql 44 44 false true (.slice none 0 0) (.slice none 0 0)) K = _
 rw [a0l]
 rfl
theorem a9S (v : Value) (xs : List Nt) (hv : Sl 2 tB H v xs) (hl : xs.length < 100000000) : Fn prog 71 [v] H fun r H' => St prog H H' [⟨r, 2, xs.flatMap tB⟩] := by
 rcases hv.rd with ⟨rfl, h2⟩ | ⟨A, i, e, row, ty, rw', lo, ver, m, _, _, _, _, _, _, hvv⟩
 ·have hx : xs = [] := by
   have := congrArg List.length h2
   rw [show (xs.flatMap tB).length = xs.length * 2 from iM (n := 2) (cel := tB) (fun _ => rfl) xs, dZ] at this
   exact eY.1 (by omega)
  subst hx
  refine .aQ func71 rfl (by kernel_rfl) (m := 8) rfl fun l hn g0 => ?_
  have hbe := oX
  simp (disch := omega) only [↓RA, RB, simprocAttr, hn, g0, oX]
  have hS1 := (sR H).nil 1
  simp only [RT] at hS1
  simp (disch := omega) only [RB, simprocAttr, hn, c4F]
  exact hS1
 ·refine .aQ func71 rfl (by kernel_rfl) (m := 8) rfl fun l hn g0 => ?_
  simp (disch := omega) only [↓RA, RB, simprocAttr, hn, g0, vS hvv]
  refine (sR H).bn b0L fun w1 H1 hS1 => ?_
  simp only [RT] at hS1
  simp (disch := omega) only [↓RA, RZ, simprocAttr, hn, g0]
  refine hS1.al 0 rfl (hS1.sl hv).rd b0L (by rw [show (xs.flatMap tB).length = xs.length * 2 from iM (n := 2) (cel := tB) (fun _ => rfl) xs]; simp; omega) fun w2 H2 hS2 => ?_
  simp only [RT] at hS2
  simp (disch := omega) only [↓RA, RB, simprocAttr, hn, c4F]
  exact hS2
theorem a1z (a : Addr) (m c : Nat) : kK prog .eql 46 46 false true (.slice (some a) m c) (.slice none 0 0) = some (.bool false) := by kernel_rfl
theorem uZ {v : Value} {a : Addr} {m c : Nat} (h : v = .slice (some a) m c) (K : Value → Prop) : kP prog .eql 46 46 false true v (.slice none 0 0) K = nM (.bool false) K := by
 subst h
 show jS (kK prog .eql 46 46 false true (.slice (some a) m c) (.slice none 0 0)) K = _
 rw [a1z]
 rfl
theorem a0p : kK prog .eql 46 46 false true (.slice none 0 0) (.slice none 0 0) = some (.bool true) := by kernel_rfl
theorem oU (K : Value → Prop) : kP prog .eql 46 46 false true (.slice none 0 0) (.slice none 0 0) K = nM (.bool true) K := by
 show jS (kK prog .eql 46 46 false true (.slice none 0 0) (.slice none 0 0)) K = _
 rw [a0p]
 rfl
theorem a9F (v : Value) (xs : List Ct) (hv : Sl 2 jF H v xs) (hl : xs.length < 100000000) : Fn prog 68 [v] H fun r H' => St prog H H' [⟨r, 2, xs.flatMap jF⟩] := by
 rcases hv.rd with ⟨rfl, h2⟩ | ⟨A, i, e, row, ty, rw', lo, ver, m, _, _, _, _, _, _, hvv⟩
 ·have hx : xs = [] := by
   have := congrArg List.length h2
   rw [show (xs.flatMap jF).length = xs.length * 2 from iM (n := 2) (cel := jF) (fun _ => rfl) xs, dZ] at this
   exact eY.1 (by omega)
  subst hx
  refine .aQ func68 rfl (by kernel_rfl) (m := 8) rfl fun l hn g0 => ?_
  have hbe := oU
  simp (disch := omega) only [↓RA, RB, simprocAttr, hn, g0, oU]
  have hS1 := (sR H).nil 1
  simp only [RT] at hS1
  simp (disch := omega) only [RB, simprocAttr, hn, c4H]
  exact hS1
 ·refine .aQ func68 rfl (by kernel_rfl) (m := 8) rfl fun l hn g0 => ?_
  simp (disch := omega) only [↓RA, RB, simprocAttr, hn, g0, uZ hvv]
  refine (sR H).bn pV fun w1 H1 hS1 => ?_
  simp only [RT] at hS1
  simp (disch := omega) only [↓RA, RZ, simprocAttr, hn, g0]
  refine hS1.al 0 rfl (hS1.sl hv).rd pV (by rw [show (xs.flatMap jF).length = xs.length * 2 from iM (n := 2) (cel := jF) (fun _ => rfl) xs]; simp; omega) fun w2 H2 hS2 => ?_
  simp only [RT] at hS2
  simp (disch := omega) only [↓RA, RB, simprocAttr, hn, c4H]
  exact hS2
theorem b3H {m : Nat} (h : m < 64) : iP [(m : Int)] = (2 ^ m, 0) := by
 show qT (0, 0) (m : Int) = _
 unfold qT
 rw [if_pos (by omega)]
 simp
theorem b2S {m : Nat} (h : 64 ≤ m) : iP [(m : Int)] = (0, 2 ^ (m - 64)) := by
 show qT (0, 0) (m : Int) = _
 unfold qT
 rw [if_neg (by omega), show ((m : Int) - 64).toNat = m - 64 by omega]
 simp
theorem a7f (z : Int) (hz : isN z) : Fn prog 72 [I z] H fun r H' => r = .agg #[.int .u64 (iP [z]).1, .int .u64 (iP [z]).2] ∧ St prog H H' [] := by
 have hz2 := hz.2
 obtain ⟨m, rfl⟩ := eP hz.1
 refine .aQ func72 rfl (by kernel_rfl) (m := 14) rfl fun l hn g0 => ?_
 simp (disch := omega) only [↓RA, RZ, simprocAttr]
 refine (sR H).eNew 2 [(.int .u64 0), (.int .u64 0)] rfl rfl rfl kW fun A1 H1 hS1 => ?_
 simp only [RT] at hS1
 simp (disch := omega) only [↓RA, RB, simprocAttr, hn, g0]
 refine iA (fun q => ?_) (fun q => ?_)
 ·have hw : IntKind.wrap .u64 ((m : Int) - 64) = ((m - 64 : Nat) : Int) := by rw [mS _ (by omega) (by omega)]; omega
  have hp := b6k (m - 64) (by omega)
  simp (disch := omega) only [↓RA, RZ, simprocAttr, hn, g0, b9v, q, hw, hp]
  refine hS1.ab 0 rfl [(.int .u64 0), _] rfl rfl kW (by simp) fun H2 hS2 => ?_
  simp only [RT] at hS2
  simp (disch := omega) only [↓RA, RZ, simprocAttr, hn, c5f, hS2.ag 0 rfl, q]
  rw [b2S (by omega)]
  exact ⟨rfl, hS2.forget⟩
 have hw : IntKind.wrap .u64 (m : Int) = ((m : Nat) : Int) := mS _ (by omega) (by omega)
 have hp := b6k m (by omega)
 simp (disch := omega) only [↓RA, RZ, simprocAttr, hn, g0, b9J, q, hw, hp]
 refine hS1.ab 0 rfl [_, (.int .u64 0)] rfl rfl kW (by simp) fun H3 hS3 => ?_
 simp only [RT] at hS3
 simp (disch := omega) only [↓RA, RZ, simprocAttr, hn, c5f, hS3.ag 0 rfl, q]
 rw [b3H (by omega)]
 exact ⟨rfl, hS3.forget⟩
theorem a5F (o : Org) (ho : o.In H) (c : Ct) : Fn prog 30 [.agg #[.string o.name, o.rv, o.dv, o.cv], .agg #[I c.1, I c.2]] H fun r H' => r = I (oY o c) ∧ St prog H H' [] := by
 have hl := ho.2.2.2.2.2.2.1
 have hin : lA o c = false → ¬ (c.1 < 0 ∨ (o.dvs.length : Int) ≤ c.1) → oY o c = 23 := fun h h2 => by
  have h3 : oY o c ≠ 0 := fun e => by rw [(oE o c).1 e] at h; cases h
  unfold oY at h3 ⊢
  rw [if_neg h2] at h3 ⊢
  split at h3
  ·rename_i h4; rw [if_pos h4]
  ·exact absurd rfl h3
 refine .aE func30 rfl (by kernel_rfl) (m := 20) rfl fun l hn g0 g1 => ?_
 simp (disch := omega) only [↓RA, RB, simprocAttr, g0]
 refine (sR H).eNew 4 [(.string o.name), o.rv, o.dv, o.cv] rfl rfl (by simp [OC, ((sR H).sl ho.1).cells.2.1, ((sR H).sl ho.2.2.1).cells.2.1, ((sR H).sl ho.2.2.2.2.1).cells.2.1]) mB fun A1 H1 hS1 => ?_
 simp only [RT] at hS1
 simp (disch := omega) only [↓RA, RB, simprocAttr, g1]
 refine hS1.eNew 2 [I c.1, I c.2] rfl rfl rfl mC fun A2 H2 hS2 => ?_
 simp only [RT] at hS2
 simp (disch := omega) only [↓RA, RZ, simprocAttr, hn, hS2.ld 1 rfl]
 refine iN (fun h1 => ?_) (fun h1 => ?_)
 ·simp (disch := omega) only [↓RA, RZ, simprocAttr, hn, b8a, h1]
  exact ⟨by rw [oY, if_pos (by omega)], hS2.forget⟩
 simp (disch := omega) only [↓RA, RZ, simprocAttr, hn, hS2.ld 1 rfl, hS2.ld 0 rfl, (hS2.sl ho.2.2.1).len, h1]
 refine iA (fun h2 => ?_) (fun h2 => ?_)
 ·simp (disch := omega) only [↓RA, RZ, simprocAttr, hn, b8a, h1, h2]
  exact ⟨by rw [oY, if_pos (by omega)], hS2.forget⟩
 simp (disch := omega) only [↓RA, RZ, simprocAttr, hn, hS2.ag 0 rfl, hS2.ag 1 rfl, h1, h2]
 refine hS2.cF (a5p o (ho.ae hS2) c) fun H3 hS3 => ?_
 simp (disch := omega) only [↓RA, RZ, simprocAttr, hn, h1, h2]
 refine jI (fun h3 => ?_) (fun h3 => ?_)
 ·simp (disch := omega) only [↓RA, RZ, simprocAttr, hn, b8a, h1, h2, h3]
  exact ⟨by rw [hin (by simpa using h3) (by omega)], hS3.forget⟩
 simp (disch := omega) only [↓RA, RZ, simprocAttr, hn, b8a, h1, h2, h3]
 exact ⟨by rw [(oE o c).2 (by simpa using h3)], hS3.forget⟩
theorem b5x (o : Org) (ho : o.In H) (hf : o.Fine) (d : Nat) (z : Int) (hc : lA o ((d : Int), z) = true) : Fn prog 70 [.agg #[.string o.name, o.rv, o.dv, o.cv], .agg #[I d, I z]] H fun r H' => St prog H H' [⟨r, 2, (pM o ((d : Int), z)).flatMap tB⟩] := by
 have hd1 := hf.dpos
 have hd2 := hf.dlen
 have h := (kL o _).1 hc
 have hz := mG hf hc
 simp only [eh] at h
 refine .aE func70 rfl (by kernel_rfl) (m := 18) rfl fun l hn g0 g1 => ?_
 have hlr : (List.replicate o.dvs.length ((0, 0) : Nt)).length = o.dvs.length := eO
 simp (disch := omega) only [↓RA, RB, simprocAttr, g0]
 refine (sR H).eNew 4 [(.string o.name), o.rv, o.dv, o.cv] rfl rfl (by simp [OC, ((sR H).sl ho.1).cells.2.1, ((sR H).sl ho.2.2.1).cells.2.1, ((sR H).sl ho.2.2.2.2.1).cells.2.1]) mB fun A1 H1 hS1 => ?_
 simp only [RT] at hS1
 simp (disch := omega) only [↓RA, RB, simprocAttr, g1]
 refine hS1.eNew 2 [I d, I z] rfl rfl rfl mC fun A2 H2 hS2 => ?_
 simp only [RT] at hS2
 simp (disch := omega) only [↓RA, RZ, simprocAttr, hn, hS2.ld 0 rfl, (hS2.sl ho.2.2.1).len]
 refine hS2.cj (cel := tB) (x := (0, 0)) o.dvs.length c5W rfl (by omega) fun w1 H3 hS3 => ?_
 simp only [RT] at hS3
 simp (disch := omega) only [↓RA, RB, simprocAttr, hn]
 refine Wp.aP jZ [(2, 6)] (by kernel_rfl) (by kernel_rfl) ?_
 simp (disch := omega) only [↓RA, RZ, simprocAttr, hn, hS3.ld 1 rfl]
 refine hS3.cF (a7f z hz) fun H4 hS4 => ?_
 simp (disch := omega) only [↓RA, RZ, simprocAttr, hn, (hS4.aw 2 rfl (fun _ => rfl)).idx]
 refine hS4.aW 2 rfl [(.int .u64 (iP [z]).1), (.int .u64 (iP [z]).2)] rfl rfl kW (by simp) (by rw [show ((List.replicate o.dvs.length ((0, 0) : Nt)).flatMap tB).length = o.dvs.length * 2 from by rw [iM (n := 2) (fun _ => rfl)]; simp]; simp only [dN, dZ]; omega) fun H5 hS5 => ?_
 simp only [RT] at hS5
 simp (disch := omega) only [↓RA, RZ, simprocAttr, hn, hS4.ld 1 rfl, c6Y]
 have hset : (((List.replicate o.dvs.length ((0, 0) : Nt)).flatMap tB).set (d * 2) (.int .u64 (iP [z]).1)).set (d * 2 + 1) (.int .u64 (iP [z]).2) = (pM o ((d : Int), z)).flatMap tB := by
  unfold pM
  simp only [eh]
  rw [← nX ((((List.replicate o.dvs.length ((0, 0) : Nt)).flatMap tB).set (d * 2) _).set (d * 2 + 1) _) (d * 2 + 1 + 1), ← lB, ← lB]
  exact vX (n := 2) (cel := tB) (fun _ => rfl) _ d 0 [_, _] (iP [z]) (by simp; omega) (by simp) rfl
 rw [hset] at hS5
 exact hS5.pick [2] (by decide) rfl
theorem a9g (o : Org) (ho : o.In H) (hf : o.Fine) (c : Ct) (hc : lA o c = true) : Fn prog 70 [.agg #[.string o.name, o.rv, o.dv, o.cv], .agg #[I c.1, I c.2]] H fun r H' => St prog H H' [⟨r, 2, (pM o c).flatMap tB⟩] := by
 obtain ⟨d, z⟩ := c
 obtain ⟨j, rfl⟩ := eP ((kL o _).1 hc).1
 exact b5x o ho hf j z hc
theorem b9P (o : Org) (ho : o.In H) (h0 : organE o = 0) (rg : Reg) (sv : Value) (hr : rg.In H sv) (hrl : rg.stops.length = o.dvs.length) (c : Ct) (hc : lA o c = true) :
 Fn prog 31 [.agg #[.string o.name, o.rv, o.dv, o.cv], .agg #[sv, .int .u64 rg.cpl, .int .u64 rg.off], .agg #[I c.1, I c.2]] H fun rr H' => Slx 2 jF H' (fun B => H.length ≤ B) rr (kG o rg [c]) ∧ St prog H H' [] := by
 have hf := Org.aO h0
 have hl := xY o c
 have hokA := a4G hf hc
 have hEA := b8s h0 hc
 have hpA := yX hf hc
 have hd := hf.dlen
 refine .bd func31 rfl (by kernel_rfl) (m := 13) rfl fun l hn g0 g1 g2 => ?_
 simp (disch := omega) only [↓RA, RB, simprocAttr, g0]
 refine (sR H).eNew 4 [(.string o.name), o.rv, o.dv, o.cv] rfl rfl (by simp [OC, ((sR H).sl ho.1).cells.2.1, ((sR H).sl ho.2.2.1).cells.2.1, ((sR H).sl ho.2.2.2.2.1).cells.2.1]) mB fun A1 H1 hS1 => ?_
 simp only [RT] at hS1
 simp (disch := omega) only [↓RA, RB, simprocAttr, g1]
 refine hS1.eNew 3 [sv, (.int .u64 rg.cpl), (.int .u64 rg.off)] rfl rfl (by simp [OC, (hS1.sl hr.1).cells.2.1]) pN fun A2 H2 hS2 => ?_
 simp only [RT] at hS2
 simp (disch := omega) only [↓RA, RB, simprocAttr, g2]
 refine hS2.eNew 2 [I c.1, I c.2] rfl rfl rfl mC fun A3 H3 hS3 => ?_
 simp only [RT] at hS3
 simp (disch := omega) only [↓RA, RB, simprocAttr]
 refine Wp.aP jZ [(0, 5), (1, 5)] (by kernel_rfl) (by kernel_rfl) ?_
 simp (disch := omega) only [↓RA, RZ, simprocAttr, hn, hS3.ag 0 rfl, hS3.ag 1 rfl, hS3.ag 2 rfl]
 refine iG ((a9g o (ho.ae hS3) hf c hc).tr) ?_
 rintro r H4 ⟨-, hT1⟩
 have hS4 := hS3.trans hT1
 simp only [RT] at hS4
 obtain ⟨av, rfl⟩ : ∃ w, w = r := ⟨r, rfl⟩
 simp (disch := omega) only [↓RA, RZ, simprocAttr, hn]
 have hSd := hS4
 refine iG (rY o (ho.ae hS4) h0 rg sv (hr.ae hS4) hrl av (pM o c) ⟨hS4.aw 3 rfl (fun _ => rfl), by omega, hokA⟩ hEA) ?_
 rintro r H5 ⟨hx, hT2⟩
 have hS5 := hS4.trans hT2
 simp only [RT] at hS5
 rw [hpA] at hx
 simp (disch := omega) only [↓RA, RZ, simprocAttr, hn, hS4.ag 0 rfl, hS4.ag 1 rfl, c7s]
 refine ⟨⟨hx.1, fun B h => ?_⟩, hS5.forget⟩
 have := hx.2 B h
 have : H.length ≤ _ := hSd.len
 omega
theorem c0k (o : Org) (hf : o.Fine) (kv : Value) (ks : List Nt) (hk : Ks H kv ks) (hl : ks.length = o.dvs.length) (d : Nat) (z : Int) (hc : lA o ((d : Int), z) = true) : Fn prog 33 [kv, .agg #[I d, I z]] H fun r H' => St prog H H' [⟨r, 2, (uG ks ((d : Int), z)).flatMap tB⟩] := by
 have hd2 := hf.dlen
 have h := (kL o _).1 hc
 have hz := mG hf hc
 simp only [eh] at h
 have hdl : d < ks.length := by omega
 have hx := hk.ok _ (iD hdl)
 have hn1 := a0P hz
 have e1 := orB (iB ks d).1 (iP [z]).1 hx.1 hn1.1
 have e2 := orB (iB ks d).2 (iP [z]).2 hx.2 hn1.2
 refine .aE func33 rfl (by kernel_rfl) (m := 35) rfl fun l hn g0 g1 => ?_
 simp (disch := omega) only [↓RA, RB, simprocAttr, g1]
 refine (sR H).eNew 2 [I d, I z] rfl rfl rfl mC fun A1 H1 hS1 => ?_
 simp only [RT] at hS1
 simp (disch := omega) only [↓RA, RZ, simprocAttr, hn, g0]
 refine iG ((a9S kv ks (hS1.sl hk.sl) (by omega)).tr) ?_
 rintro r H2 ⟨-, hT1⟩
 have hS2 := hS1.trans hT1
 simp only [RT] at hS2
 obtain ⟨kw, rfl⟩ : ∃ w, w = r := ⟨r, rfl⟩
 simp (disch := omega) only [↓RA, RZ, simprocAttr, hn, hS2.ld 0 rfl]
 refine hS2.cF (a7f z hz) fun H3 hS3 => ?_
 have hfl : (ks.flatMap tB).length = ks.length * 2 := iM (n := 2) (fun _ => rfl) ks
 simp (disch := omega) only [↓RA, RZ, simprocAttr]
 refine hS3.eNew 2 [(.int .u64 0), (.int .u64 0)] rfl rfl rfl kW fun A2 H4 hS4 => ?_
 simp only [RT] at hS4
 simp (disch := omega) only [↓RA, RB, simprocAttr, hn]
 refine hS4.ab 2 rfl [(.int .u64 (iP [z]).1), (.int .u64 (iP [z]).2)] rfl rfl kW (by simp) fun H5 hS5 => ?_
 simp only [RT] at hS5
 simp (disch := omega) only [↓RA, RB, simprocAttr]
 refine Wp.drw jZ (by kernel_rfl) ?_
 simp (disch := omega) only [↓RA, RZ, simprocAttr, hn, hS5.ld 0 rfl, (hS5.aw 1 rfl (fun _ => rfl)).idx, (hS5.aw 1 rfl (fun _ => rfl)).bc, (hS5.aw 1 rfl (fun _ => rfl)).ld, tB, hS5.ld 2 rfl, e1]
 refine hS5.aW 1 rfl [_] rfl rfl b4g (by simp) (by rw [hfl]; simp only [dN, dZ]; omega) fun H6 hS6 => ?_
 simp only [RT] at hS6
 simp (disch := omega) only [↓RA, RB, simprocAttr]
 refine Wp.drw jZ (by kernel_rfl) ?_
 simp (disch := omega) only [↓RA, RZ, simprocAttr, hn]
 have hset : (ks.flatMap tB).set (d * 2) (.int .u64 ((iB ks d).1 ||| (iP [z]).1 : Nat)) = (ks.set d ((iB ks d).1 ||| (iP [z]).1, (iB ks d).2)).flatMap tB := by
  rw [← nX ((ks.flatMap tB).set (d * 2) _) (d * 2 + 1), ← lB]
  exact vX (n := 2) (cel := tB) (fun _ => rfl) ks d 0 [_] _ hdl (by simp) rfl
 rw [hset] at hS6
 have hnth : iB (ks.set d ((iB ks d).1 ||| (iP [z]).1, (iB ks d).2)) d = ((iB ks d).1 ||| (iP [z]).1, (iB ks d).2) := by rw [a1B _ _ _ _ hdl, if_pos rfl]
 have hsl : (ks.set d ((iB ks d).1 ||| (iP [z]).1, (iB ks d).2)).length = ks.length := gN
 have hfl2 : ((ks.set d ((iB ks d).1 ||| (iP [z]).1, (iB ks d).2)).flatMap tB).length = ks.length * 2 := by rw [iM (n := 2) (fun _ => rfl), hsl]
 simp (disch := omega) only [↓RA, RZ, simprocAttr, hn, hS6.ld 0 rfl, (hS6.aw 1 rfl (fun _ => rfl)).idx, (hS6.aw 1 rfl (fun _ => rfl)).bc, (hS6.aw 1 rfl (fun _ => rfl)).ld, tB, hS6.ld 2 rfl, e2, hnth]
 refine hS6.aW 1 rfl [_] rfl rfl b4g (by simp) (by rw [hfl2]; simp only [dN, dZ]; omega) fun H7 hS7 => ?_
 simp only [RT] at hS7
 simp (disch := omega) only [↓RA, RB, simprocAttr, hn]
 have hset2 : ((ks.set d ((iB ks d).1 ||| (iP [z]).1, (iB ks d).2)).flatMap tB).set (d * 2 + 1) (.int .u64 ((iB ks d).2 ||| (iP [z]).2 : Nat)) = (uG ks ((d : Int), z)).flatMap tB := by
  rw [← nX (((ks.set d ((iB ks d).1 ||| (iP [z]).1, (iB ks d).2)).flatMap tB).set (d * 2 + 1) _) (d * 2 + 1 + 1), ← lB]
  rw [vX (n := 2) (cel := tB) (fun _ => rfl) (ks.set d ((iB ks d).1 ||| (iP [z]).1, (iB ks d).2)) d 1 [_] ((iB ks d).1 ||| (iP [z]).1, (iB ks d).2 ||| (iP [z]).2) (by rw [hsl]; exact hdl) (by simp) (by rw [hnth]; rfl), List.set_set]
  rfl
 rw [hset2] at hS7
 simp (disch := omega) only [RB, simprocAttr, hn, c7K]
 exact hS7.pick [1] (by decide) rfl
theorem b3S (o : Org) (hf : o.Fine) (kv : Value) (ks : List Nt) (hk : Ks H kv ks) (hl : ks.length = o.dvs.length) (c : Ct) (hc : lA o c = true) : Fn prog 33 [kv, .agg #[I c.1, I c.2]] H fun r H' => St prog H H' [⟨r, 2, (uG ks c).flatMap tB⟩] := by
 obtain ⟨d, z⟩ := c
 obtain ⟨j, rfl⟩ := eP ((kL o _).1 hc).1
 exact c0k o hf kv ks hk hl j z hc
def a9I (o : Org) (rg : Reg) (c : Ct) : List Ct := if a2D o rg c = 0 then qU o rg [c] else []
theorem b3u (o : Org) (ho : o.In H) (rg : Reg) (sv : Value) (hr : rg.In H sv) (c : Ct) :
 Fn prog 28 [.agg #[.string o.name, o.rv, o.dv, o.cv], .agg #[sv, .int .u64 rg.cpl, .int .u64 rg.off], .agg #[I c.1, I c.2]] H fun r H' => ∃ pv, r = .tuple #[pv, I (a2D o rg c)] ∧ Slx 2 jF H' (fun B => H.length ≤ B) pv (a9I o rg c) ∧ St prog H H' [] := by
 refine .bd func28 rfl (by kernel_rfl) (m := 21) rfl fun l hn g0 g1 g2 => ?_
 simp (disch := omega) only [↓RA, RB, simprocAttr, g0]
 refine (sR H).eNew 4 [(.string o.name), o.rv, o.dv, o.cv] rfl rfl (by simp [OC, ((sR H).sl ho.1).cells.2.1, ((sR H).sl ho.2.2.1).cells.2.1, ((sR H).sl ho.2.2.2.2.1).cells.2.1]) mB fun A1 H1 hS1 => ?_
 simp only [RT] at hS1
 simp (disch := omega) only [↓RA, RB, simprocAttr, g1]
 refine hS1.eNew 3 [sv, (.int .u64 rg.cpl), (.int .u64 rg.off)] rfl rfl (by simp [OC, (hS1.sl hr.1).cells.2.1]) pN fun A2 H2 hS2 => ?_
 simp only [RT] at hS2
 simp (disch := omega) only [↓RA, RB, simprocAttr, g2]
 refine hS2.eNew 2 [I c.1, I c.2] rfl rfl rfl mC fun A3 H3 hS3 => ?_
 simp only [RT] at hS3
 simp (disch := omega) only [↓RA, RZ, simprocAttr, hn, hS3.ag 0 rfl, hS3.ag 1 rfl, hS3.ag 2 rfl]
 refine hS3.cF (b4Y o (ho.ae hS3) rg sv (hr.ae hS3) c) fun H4 hS4 => ?_
 simp (disch := omega) only [↓RA, RB, simprocAttr, hn]
 refine iA (fun h1 => ?_) (fun h1 => ?_)
 ·simp (disch := omega) only [↓RA, RZ, simprocAttr, hn, c5j, h1]
  exact ⟨.slice none 0 0, rfl, ⟨⟨.inl ⟨rfl, by rw [a9I, if_neg h1]; rfl⟩, jG, by decide⟩, fun b h => by simp [kH] at h⟩, hS4.forget⟩
 have h0 := dA.1 h1
 obtain ⟨hz1, hz2⟩ := a4t h0
 obtain ⟨hz3, hz4⟩ := pJ hz1
 have hf := Org.aO hz3
 simp (disch := omega) only [↓RA, RZ, simprocAttr, hn, hS4.ag 0 rfl, hS4.ag 1 rfl, hS4.ag 2 rfl, h1]
 refine hS4.ai [I c.1, I c.2] pV a0x rfl rfl (by simp [Value.cells]) rfl rfl (by decide) (by decide) fun w1 H5 hS5 => ?_
 simp only [RT] at hS5
 simp (disch := omega) only [↓RA, RZ, simprocAttr, hn, h1]
 have hSd := hS5
 refine iG (a8B o (ho.ae hS5) hf rg sv (hr.ae hS5) hz4 w1 [c] (hS5.aw 3 rfl jG) (by simp) (fun x hx => by rw [dw.1 hx]; exact hz2)) ?_
 rintro r H6 ⟨hx, hT2⟩
 have hS6 := hS5.trans hT2
 simp only [RT] at hS6
 obtain ⟨qv, rfl⟩ : ∃ w, w = r := ⟨r, rfl⟩
 simp (disch := omega) only [↓RA, RZ, simprocAttr, hn, c5j, h1, hx.1.bg]
 rw [h0]
 refine ⟨qv, rfl, ⟨?_, fun b h => ?_⟩, hS6.forget⟩
 ·rw [a9I, if_pos h0]
  exact hx.1
 ·have := hx.2 b h
  have : H.length ≤ _ := hSd.len
  omega
def a6K (o : Org) (rg : Reg) (ks : List Nt) (c : Ct) : Int := if rkE o rg ks ≠ 0 then rkE o rg ks else oY o c
def adF (o : Org) (rg : Reg) (ks : List Nt) (c : Ct) : List Ct := if a6K o rg ks c = 0 then wL (kG o rg (iF ks ++ [c])) (kG o rg (iF ks)) else []
theorem b6G (hG : Glob gH H) (o : Org) (ho : o.In H) (hdv : o.dvs.length ≤ 7) (rg : Reg) (sv : Value) (hr : rg.In H sv) (kv : Value) (ks : List Nt) (hk : Ks H kv ks) (c : Ct) :
 Fn prog 29 [.agg #[.string o.name, o.rv, o.dv, o.cv], .agg #[sv, .int .u64 rg.cpl, .int .u64 rg.off], kv, .agg #[I c.1, I c.2]] H fun r H' => ∃ v, r = .tuple #[v, I (a6K o rg ks c)] ∧ Slx 2 jF H' (fun B => H.length ≤ B) v (adF o rg ks c) ∧ St prog H H' [] := by
 have hnil : ∀ {H' : Heap}, Slx 2 jF H' (fun B => H.length ≤ B) (.slice none 0 0) ([] : List Ct) := fun {H'} => ⟨⟨.inl ⟨rfl, rfl⟩, jG, by decide⟩, fun b h => by simp [kH] at h⟩
 refine .cM func29 rfl (by kernel_rfl) (m := 42) rfl fun l hn g0 g1 g2 g3 => ?_
 simp (disch := omega) only [↓RA, RB, simprocAttr, g0]
 refine (sR H).eNew 4 [(.string o.name), o.rv, o.dv, o.cv] rfl rfl (by simp [OC, ((sR H).sl ho.1).cells.2.1, ((sR H).sl ho.2.2.1).cells.2.1, ((sR H).sl ho.2.2.2.2.1).cells.2.1]) mB fun A1 H1 hS1 => ?_
 simp only [RT] at hS1
 simp (disch := omega) only [↓RA, RB, simprocAttr, g1]
 refine hS1.eNew 3 [sv, (.int .u64 rg.cpl), (.int .u64 rg.off)] rfl rfl (by simp [OC, (hS1.sl hr.1).cells.2.1]) pN fun A2 H2 hS2 => ?_
 simp only [RT] at hS2
 simp (disch := omega) only [↓RA, RB, simprocAttr, g3]
 refine hS2.eNew 2 [I c.1, I c.2] rfl rfl rfl mC fun A3 H3 hS3 => ?_
 simp only [RT] at hS3
 simp (disch := omega) only [↓RA, RZ, simprocAttr, hn, hS3.ag 0 rfl, hS3.ag 1 rfl]
 refine hS3.ai [sv, (.int .u64 rg.cpl), (.int .u64 rg.off)] b1o b1I rfl rfl (by first | (simp []; done) | simp [Value.cells]) (by first | (simp []; done) | simp [Value.cells]) (by simp [OC, (hS3.sl hr.1).cells.2.1]) (by decide) (by decide) fun w1 H4 hS4 => ?_
 simp only [RT] at hS4
 simp (disch := omega) only [↓RA, RZ, simprocAttr, hn, g2]
 refine hS4.cF (b1m o (ho.ae hS4) w1 [(sv, rg)] (hS4.aw 3 rfl (fun _ => rfl)) (by simp) (by intro p hp; rw [dw.1 hp]; exact hr.ae hS4) kv ks (hk.ae hS4)) fun H5 hS5 => ?_
 have hsc := a2v o sv rg ks
 simp (disch := omega) only [↓RA, RB, simprocAttr, hn, hsc]
 refine iA (fun h1 => ?_) (fun h1 => ?_)
 ·have hd : a6K o rg ks c = rkE o rg ks := by rw [a6K, if_pos h1]
  simp (disch := omega) only [↓RA, RZ, simprocAttr, hn, c2l, hsc, h1]
  rw [hd, adF, if_neg (by rw [hd]; exact h1)]
  exact ⟨.slice none 0 0, rfl, hnil, hS5.forget⟩
 have hd : a6K o rg ks c = oY o c := by rw [a6K, if_neg h1]
 have h0 := dA.1 h1
 simp (disch := omega) only [↓RA, RZ, simprocAttr, hn, hS5.ag 0 rfl, hS5.ag 2 rfl, hsc, h1]
 refine hS5.cF (sX o (ho.ae hS5) c) fun H6 hS6 => ?_
 simp (disch := omega) only [↓RA, RZ, simprocAttr, hn, hsc, h1]
 refine iA (fun h2 => ?_) (fun h2 => ?_)
 ·simp (disch := omega) only [↓RA, RZ, simprocAttr, hn, c2l, hsc, h1, h2]
  rw [hd, adF, if_neg (by rw [hd]; exact h2)]
  exact ⟨.slice none 0 0, rfl, hnil, hS6.forget⟩
 have h3 := dA.1 h2
 have hc := (oE o c).1 h3
 obtain ⟨hz1, hz2⟩ := a2C h0
 obtain ⟨hz3, hz4⟩ := pJ hz1
 have hf := Org.aO hz3
 have hplc := oB hk.ok hz2
 have hkl := (mZ hz2).2.1
 have hpl := b1p ks ks.length
 have hpl2 : (iF ks).length ≤ 896 := by unfold iF; omega
 have hpll := pK hz2
 have hplc2 : ∀ x ∈ iF ks ++ [c], lA o x = true := fun x hx => by
  rcases dC.1 hx with h | h
  ·exact hplc x h
  ·rw [dw.1 h]; exact hc
 have hpll2 : (iF ks ++ [c]).length ≤ 1024 := by rw [dm, gu]; omega
 rw [hd, h3, adF, if_pos (by rw [hd]; exact h3)]
 simp (disch := omega) only [↓RA, RZ, simprocAttr, hn, g2, hsc, h1]
 refine iG ((a0V (hS6.gl hG) kv ks (hk.ae hS6) (by omega)).tr) ?_
 rintro r H7 ⟨-, hT3⟩
 have hS7 := hS6.trans hT3
 simp only [RT] at hS7
 obtain ⟨pv, rfl⟩ : ∃ w, w = r := ⟨r, rfl⟩
 simp (disch := omega) only [↓RA, RZ, simprocAttr, hn, hsc, h1]
 refine Wp.aP jZ [(0, 4), (0, 7), (1, 4), (1, 7), (4, 0), (8, 0), (8, 4), (8, 7), (9, 0), (9, 4), (9, 7)] (by kernel_rfl) (by kernel_rfl) ?_
 simp (disch := omega) only [↓RA, RZ, simprocAttr, hn, hS7.ag 0 rfl, hS7.ag 1 rfl]
 refine iG ((a9F pv (iF ks) (hS7.aw 4 rfl jG) (by omega)).tr) ?_
 rintro r H8 ⟨-, hT4⟩
 have hS8 := hS7.trans hT4
 simp only [RT] at hS8
 obtain ⟨qv, rfl⟩ : ∃ w, w = r := ⟨r, rfl⟩
 simp (disch := omega) only [↓RA, RZ, simprocAttr, hn, hS8.ag 2 rfl]
 refine hS8.ai [I c.1, I c.2] pV a0x rfl rfl (by simp [Value.cells]) rfl rfl (by decide) (by decide) fun w2 H9 hS9 => ?_
 simp only [RT] at hS9
 simp (disch := omega) only [↓RA, RZ, simprocAttr, hn]
 refine hS9.al 5 rfl (hS9.rd 6 rfl) pV (by rw [show ((iF ks).flatMap jF).length = (iF ks).length * 2 from iI _]; simp only [dN, dZ]; omega) fun w3 H10 hS10 => ?_
 simp only [RT] at hS10
 simp (disch := omega) only [↓RA, RZ, simprocAttr, hn]
 have happ : (iF ks).flatMap jF ++ [I c.1, I c.2] = pr (iF ks ++ [c]) := by rw [jD]; rfl
 rw [happ] at hS10
 have hS1 := hS10
 refine iG (rM o (ho.ae hS10) hf rg sv (hr.ae hS10) hz4 w3 (iF ks ++ [c]) (hS10.aw 5 rfl jG) hpll2 hplc2) ?_
 rintro r H11 ⟨hx, hT5⟩
 have hS11 := hS10.trans hT5
 simp only [RT] at hS11
 obtain ⟨av, rfl⟩ : ∃ w, w = r := ⟨r, rfl⟩
 have hx2 := hx.step (hS1.aG (H' := H11))
 obtain ⟨X, hBX, hS12⟩ := hS11.az (os := [⟨ptr A1 0 4, 0, _⟩, ⟨ptr A2 0 3, 0, _⟩, ⟨ptr A3 0 2, 0, _⟩, ⟨w1, 3, _⟩, ⟨pv, 2, _⟩, ⟨w3, 2, _⟩, ⟨w2, 2, _⟩])
 simp (disch := omega) only [↓RA, RZ, simprocAttr, hn, hS12.ag 0 rfl, hS12.ag 1 rfl]
 have hS2 := hS12
 refine iG (rM o (ho.ae (hS11.aa hBX hS12)) hf rg sv (hr.ae (hS11.aa hBX hS12)) hz4 pv (iF ks) (hS12.aw 4 rfl jG) hpll hplc) ?_
 rintro r H12 ⟨hy, hT6⟩
 have hS13 := hS12.trans hT6
 simp only [RT] at hS13
 obtain ⟨bv, rfl⟩ : ∃ w, w = r := ⟨r, rfl⟩
 have hx3 := hx2.step (hS13.kept hBX)
 have hy2 := hy.step (hS2.aG (H' := H12))
 obtain ⟨Y, hBY, hS14⟩ := hS13.az (os := [⟨ptr A1 0 4, 0, _⟩, ⟨ptr A2 0 3, 0, _⟩, ⟨ptr A3 0 2, 0, _⟩, ⟨w1, 3, _⟩, ⟨pv, 2, _⟩, ⟨w3, 2, _⟩, ⟨w2, 2, _⟩])
 have hla := sG hf rg hpll2 (nS hplc2)
 have hlb := sG hf rg hpll (nS hplc)
 have hsb := a0T o rg (iF ks)
 have hx4 := hx3.step (hS14.kept hBY)
 have hy3 := hy2.step (hS14.kept hBY)
 simp (disch := omega) only [↓RA, RZ, simprocAttr, hn]
 refine iG ((a8C av bv (kG o rg (iF ks ++ [c])) (kG o rg (iF ks)) hx4.1 hy3.1 (by omega) (by omega) hsb).tr) ?_
 rintro r H13 ⟨-, hT7⟩
 have hS15 := hS14.trans hT7
 simp only [RT] at hS15
 obtain ⟨gv, rfl⟩ : ∃ w, w = r := ⟨r, rfl⟩
 have hnt1 := (hS15.aw (cel := jF) 7 rfl jG).bg
 simp (disch := omega) only [↓RA, RZ, simprocAttr, hn, hS8.ag 0 rfl, hS10.ag 0 rfl, hS8.ag 1 rfl, hS10.ag 1 rfl, hS7.ag 2 rfl, hS7.ag 0 rfl, hS7.ag 1 rfl, c2l, hnt1]
 exact ⟨gv, rfl, (hS11.aa hBX (hS13.aa hBY hS15)).cq 7 rfl jG, (hS11.aa hBX (hS13.aa hBY hS15)).forget⟩
end Go.Ds
namespace Go.Ds
open Go.Proofs Go.Proofs.Tryz
variable {H : Heap}
set_option maxRecDepth 100000
set_option maxHeartbeats 1000000
def b2p (r : Rs) (n : Int) : Bool := match r with
 | .ok (.tuple vs) _ => (match vs.toList with
   | [.int .u64 a, .int .u64 b] => decide (a = 0) && decide (b = n)
   | _ => false)
 | .th (.tuple vs) _ => (match vs.toList with
   | [.int .u64 a, .int .u64 b] => decide (a = 0) && decide (b = n)
   | _ => false)
 | _ => false
theorem c3g : (uI prog [168, 201, 202] .e fun T => [(25 : Int)].all fun n => b2p (nA T (exF prog T 4000) [] (kU 168) [.int .u64 1, .int .u64 n] gH) n) = true := by kernel_rfl
theorem b5H {T : LT} (hT : TOk prog T) {k : FuncId} {args : List Value} {n : Int} (h : b2p (nA T (exF prog T 4000) [] (kU k) args gH) n = true) : Fn prog k args gH fun r _ => r = .tuple #[.int .u64 0, .int .u64 n] := by
 have hv : ∀ (vs : Array Value), (match vs.toList with
  | [.int .u64 a, .int .u64 b] => decide (a = 0) && decide (b = n)
  | _ => false) = true → Value.tuple vs = .tuple #[.int .u64 0, .int .u64 n] := by
  intro vs h
  split at h
  ·rename_i a b e
   rw [cY, decide_eq_true_eq, decide_eq_true_eq] at h
   obtain ⟨rfl, rfl⟩ := h
   congr 1
   exact gO e
  ·cases h
 unfold b2p at h
 split at h
 ·rename_i vs H1 e
  rw [← hv vs h]
  exact mD hT (.inl e)
 ·rename_i vs H1 e
  rw [← hv vs h]
  exact mD hT (.inr e)
 ·cases h
theorem b6c (hG : Glob gH H) : Fn prog 168 [.int .u64 1, .int .u64 25] H fun r H' => r = .tuple #[.int .u64 0, .int .u64 25] ∧ St prog H H' [] := by
 obtain ⟨T, hT, h⟩ := qZ (ps := [(25 : Int)]) (f := fun T n => b2p (nA T (exF prog T 4000) [] (kU 168) [.int .u64 1, .int .u64 n] gH) n) c3g
 exact sC (by simp [flat, jC, iZ]) rfl (b5H hT (h 25 (by simp))) hG
theorem rK (c z : Value) : ∀ (m x n : Nat), x + m ≤ n → iX (List.replicate x c ++ List.replicate (n - x) z) x (List.replicate m c) = List.replicate (x + m) c ++ List.replicate (n - (x + m)) z := by
 intro m x n h
 have e : List.replicate (n - x) z = List.replicate m z ++ List.replicate (n - (x + m)) z := by
  rw [List.replicate_append_replicate]; congr 1; omega
 have := mF (List.replicate m c) (List.replicate x c) (List.replicate (n - x) z) (by simp; omega)
 rw [eO] at this
 rw [this, List.replicate_append_replicate]
 congr 1
 simp
 omega
theorem a9z {H : Heap} {v : Value} {cs : List Value} (h : RdAt H v 1 cs) (h0 : cs ≠ []) : rB v 1 0 cs.length = v := by
 rcases h with ⟨rfl, rfl⟩ | ⟨A, i, e, row, ty, rw, lo', ver, n, h1, h2, h3, h4, h5, h6, rfl⟩
 ·exact (h0 rfl).elim
 ·simp [rB, h6]
theorem St.cm {P : Program} {H0 : Base} {os : List Ob} (hS : St P H0 H os) (i : Nat) {v : Value} {cs : List Value} (ho : os[i]? = some ⟨v, 1, cs⟩) {x : Value} {ys : List Value} (hx : RdAt H x 1 ys) (h0 : 0 < cs.length) (hy : 0 < ys.length) {t : TypeId} (ht : iU P t = some 1) {K : Value → Heap → Prop}
 (h : ∀ H1, St P H0 H1 (os.set i ⟨v, 1, iX cs 0 (ys.take (min ys.length cs.length))⟩) → K (.int .i64 ((min ys.length cs.length : Nat) : Int)) H1) : a4I P H t v x K := by
 have e := a9z (hS.rd (size := 0) i ho) (by intro e; simp [e] at h0)
 have := hS.bM i ho hx 0 cs.length (by omega) h0 hy ht h
 rwa [e] at this
theorem b6p (hG : Glob gH H) {c : Int} (v : Value) (hv : Sl 1 (one I) H v [c]) : Fn prog 122 [v, I 25] H fun r H' => St prog H H' [⟨r, 1, List.replicate 25 (I c)⟩] := by
 have h1 : (([c] : List Int).length : Int) = 1 := rfl
 refine .aE func122 rfl (by kernel_rfl) (m := 48) rfl fun l hn g0 g1 => ?_
 simp (disch := omega) only [↓RA, RZ, simprocAttr, hn, g0, g1, ((sR H).sl hv).len]
 refine (sR H).cF (b6c ((sR H).gl hG)) fun H1 hS1 => ?_
 simp (disch := omega) only [↓RA, RZ, simprocAttr, hn]
 refine hS1.ca 25 c7d (by omega) fun w H2 hS2 => ?_
 simp only [RT] at hS2
 simp (disch := omega) only [↓RA, RB, simprocAttr, hn, g0]
 refine hS2.cm 0 rfl (hS2.sl hv).rd (by simp) (by simp [one]) c1S fun H3 hS3 => ?_
 have e1 : min ([c].flatMap (one I)).length (List.replicate 25 (Value.int .i64 0)).length = 1 := by simp [one]
 rw [e1] at hS3 ⊢
 have e2 := rK (I c) (.int .i64 0) 1 0 25 (by omega)
 simp only [List.replicate_zero, fq, Nat.sub_zero, fW] at e2
 have hS4 : St prog H H3 [⟨w, 1, List.replicate 1 (I c) ++ List.replicate (25 - 1) (.int .i64 0)⟩] := by
  rw [← e2]
  exact hS3
 simp (disch := omega) only [↓RA, RB, simprocAttr, hn]
 have e3 : ∀ x : Nat, List.replicate x (I c) ++ List.replicate (25 - x) (.int .i64 0) = (List.replicate x (c : Int) ++ List.replicate (25 - x) 0).flatMap (one I) := fun x => by
  rw [zB, dT, List.map_replicate, List.map_replicate]
 refine Wp.ak (fun n l H' => l.length = 48 ∧ get l 4 = (.slice none 0 0) ∧ ∃ (x : Nat), (n + x = 25 ∧ 1 ≤ x) ∧ get l 8 = I x ∧ get l 7 = w ∧ St prog H H' [⟨w, 1, (List.replicate x (c : Int) ++ List.replicate (25 - x) 0).flatMap (one I)⟩]) 24 ?_ ?_
 ·simp (disch := omega) only [RB, RC, simprocAttr, hn]
  rw [e3] at hS4
  exact ⟨1, ⟨by omega, by omega⟩, rfl, hS4⟩
 rintro n l H2 ⟨hn, g4, x, ⟨hx,hx1⟩, g8, g7, hS2⟩
 have hln : (List.replicate x (c : Int) ++ List.replicate (25 - x) 0).length = 25 := by simp; omega
 simp (disch := omega) only [↓RA, RZ, simprocAttr, hn, g8, g7, (hS2.aw 0 rfl (fun _ => rfl)).len, hln]
 refine iA (fun q1 => ?_) (fun q1 => ?_)
 ·simp (disch := omega) only [↓RA, RC, simprocAttr, q1]
  refine Wp.drw jZ (by kernel_rfl) ?_
  simp (disch := omega) only [↓RA, RZ, simprocAttr, hn, g8, g7, (hS2.aw 0 rfl (fun _ => rfl)).aR, (hS2.aw 0 rfl (fun _ => rfl)).aS, hln]
  have hxt : ((25 : Int) - (x : Int)).toNat = 25 - x := by omega
  rw [hxt]
  have hlc : ((List.replicate x (c : Int) ++ List.replicate (25 - x) 0).flatMap (one I)).length = 25 := by rw [zB, eu, hln]
  have hrd := hS2.rd 0 rfl
  have hsub := hrd.sub 0 x (by rw [hlc]; omega) (by intro e; rw [e] at hlc; simp at hlc)
  have e5 : (((List.replicate x (c : Int) ++ List.replicate (25 - x) 0).flatMap (one I)).drop (0 * (0 + 1))).take (x * (0 + 1)) = List.replicate x (I c) := by
   rw [← e3]
   simp []
  rw [e5] at hsub
  refine hS2.bM 0 rfl hsub x (25 - x) (by rw [hlc]; omega) (by omega) (by simp; omega) c1S fun H4 hS5 => ?_
  have e6 : (List.replicate x (I c)).take (min (List.replicate x (I c)).length (25 - x)) = List.replicate (min x (25 - x)) (I c) := by simp
  rw [e6] at hS5
  have e7 : min (List.replicate x (I c)).length (25 - x) = min x (25 - x) := by simp
  rw [e7]
  have e8 := rK (I c) (.int .i64 0) (min x (25 - x)) x 25 (by omega)
  have hS6 : St prog H H4 [⟨w, 1, (List.replicate (x + min x (25 - x)) (c : Int) ++ List.replicate (25 - (x + min x (25 - x))) 0).flatMap (one I)⟩] := by
   rw [← e3, ← e8, e3]
   exact hS5
  simp (disch := omega) only [↓RA, RZ, simprocAttr, hn, g4, g7]
  exact ⟨25 - (x + min x (25 - x)), by omega, x + min x (25 - x), ⟨by omega, by omega⟩, by simp, hS6⟩
 simp (disch := omega) only [↓RA, RZ, simprocAttr, hn, g7, c5e, q1]
 have e : x = 25 := by omega
 subst e
 have hfin : ((List.replicate 25 (c : Int) ++ List.replicate (25 - 25) 0).flatMap (one I)) = List.replicate 25 (I c) := by rw [← e3]; rfl
 have h9 := hS2
 rw [hfin] at h9
 exact h9
end Go.Ds
namespace Go.Ds
open Go.Proofs
variable {H : Heap}
set_option maxRecDepth 10000
set_option maxHeartbeats 1000000
section
variable (w1 w2 w3 w4 w5 w6 w7 : Value)
def a9N (x : Int × Int) : List (Int × Int) → List (Int × Int)
 | [] => [x]
 | y :: l => if le2 x y then x :: y :: l else y :: a9N x l
def b0V : List (Int × Int) → List (Int × Int)
 | [] => []
 | x :: l => a9N x (b0V l)
theorem a0t (x : Int × Int) : ∀ l, (a9N x l).Perm (x :: l)
 | [] => .refl _
 | y :: l => by
   unfold a9N
   split
   ·exact .refl _
   ·exact ((a0t x l).cons y).trans (.swap ..)
theorem a3N : ∀ l, (b0V l).Perm l
 | [] => .refl _
 | x :: l => (a0t x _).trans ((a3N l).cons x)
theorem b4r (x y : Int × Int) : le2 x y = false → le2 y x = true := by
 intro h
 rw [← eE] at h
 rw [nQ] at h ⊢
 omega
theorem a1q (x : Int × Int) : ∀ l : List (Int × Int), l.Pairwise (fun a b => le2 a b = true) → (a9N x l).Pairwise fun a b => le2 a b = true
 | [], _ => by simp [a9N]
 | y :: l, h => by
   have h1 := gS.1 h
   unfold a9N
   split
   ·rename_i hxy
    refine gS.2 ⟨fun z hz => ?_, h⟩
    rcases dR.1 hz with rfl | hz
    ·exact hxy
    ·have h2 := h1.1 z hz
     rw [nQ] at *
     omega
   ·rename_i hxy
    refine gS.2 ⟨fun z hz => ?_, a1q x l h1.2⟩
    rcases dR.1 ((a0t x l).mem_iff.1 hz) with rfl | hz
    ·exact b4r _ _ (by simpa using hxy)
    ·exact h1.1 z hz
theorem a0Z : ∀ l : List (Int × Int), (b0V l).Pairwise fun a b => le2 a b = true
 | [] => .nil
 | x :: l => a1q x _ (a0Z l)
theorem b6J : pA = b0V := by
 funext l
 refine List.Perm.eq_of_pairwise (le := fun a b => le2 a b = true) (fun a b _ _ h1 h2 => ?_) (sU l) (a0Z l) ((mX l).trans (a3N l).symm)
 rw [nQ] at h1 h2
 exact fI (by omega) (by omega)
def c2P (s : List Ct → List Ct) (o : Org) (r : Reg) (l : List Ct) : List Ct := dd (s (l.filter (fun c => !r.off.testBit c.1.toNat) ++ bfs o r.cpl 1100 0 (kI o r.cpl l)))
def c3o (s : List Ct → List Ct) (rs : List Rk) (p : Stp) (key : Int) : List Ct := dd (s (((a5j p key).filter fun d => rE rs d key).map fun d => mK rs d key))
def c1t (s : List Ct → List Ct) (o : Org) (r : Reg) (c : Ct) : List Ct := (List.range (iB o.dvs c.1.toNat).stops.length).flatMap fun i => if (iB r.stops c.1.toNat).testBit i then c3o s o.ranks (iB (iB o.dvs c.1.toNat).stops i) c.2 else []
end
end Go.Ds
namespace Go.Ds
open Go.Proofs Go.Proofs.Tryz
variable {H : Heap}
set_option maxRecDepth 10000
set_option maxHeartbeats 1000000
theorem a4o (hG : Glob gH H) (s : ByteArray) : Fn prog 84 [.string s] H fun r H' => ∃ wv, r = .agg #[.string s, .string ⟨#[102, 108, 117, 116, 101]⟩, I 8, I 1, I 36, wv] ∧ St prog H H' [⟨wv, 1, List.replicate 25 (I 1)⟩] := by
 refine .aQ func84 rfl (by kernel_rfl) (m := 8) rfl fun l hn g0 => ?_
 simp (disch := omega) only [↓RA, RZ, simprocAttr]
 refine (sR H).eNew 6 [(.string ⟨#[]⟩), (.string ⟨#[]⟩), I 0, I 0, I 0, (.slice none 0 0)] rfl rfl rfl zC fun A1 H1 hS1 => ?_
 simp only [RT] at hS1
 simp (disch := omega) only [↓RA, RB, simprocAttr, g0, uW]
 refine hS1.ai [I 1] a3c a7i rfl rfl (by simp [Value.cells]) rfl rfl (by decide) (by decide) fun w1 H2 hS2 => ?_
 simp only [RT] at hS2
 simp (disch := omega) only [↓RA, RZ, simprocAttr, hn]
 refine iG ((b6p (hS2.gl hG) w1 (hS2.aw 1 rfl (fun _ => rfl))).tr) ?_
 rintro r H3 ⟨-, hT1⟩
 have hS3 := hS2.trans hT1
 simp only [RT] at hS3
 obtain ⟨wv, rfl⟩ : ∃ w, w = r := ⟨r, rfl⟩
 simp (disch := omega) only [↓RA, RB, simprocAttr, hn, a2h (hS3.rd 2 rfl).cells]
 refine hS3.ab 0 rfl [(.string s), (.string ⟨#[102, 108, 117, 116, 101]⟩), I 8, I 1, I 36, wv] rfl (by simp [OC, (hS3.rd 2 rfl).cells.2.1]) zC (by simp) fun H4 hS4 => ?_
 simp only [RT] at hS4
 simp (disch := omega) only [↓RA, RZ, simprocAttr, hn, c7b, hS4.ag 0 rfl]
 exact ⟨wv, rfl, hS4.pick [2] (by decide) rfl⟩
theorem a4z (n feet shift : Int) : Fn prog 83 [I n, I feet, I shift] H fun r H' => ∃ dv gv, St prog H H' [⟨dv, 2, [I n, I shift]⟩, ⟨gv, 3, [I 36, I 48, dv]⟩, ⟨r, 4, [.string ⟨#[97]⟩, I feet, I 1, gv]⟩] := by
 refine .bd func83 rfl (by kernel_rfl) (m := 17) rfl fun l hn g0 g1 g2 => ?_
 simp (disch := omega) only [↓RA, RB, simprocAttr, hn, g0, g1, g2, uW, qR]
 refine (sR H).ai [I n, I shift] a4v a3T rfl rfl (by simp [Value.cells]) rfl rfl (by decide) (by decide) fun w1 H1 hS1 => ?_
 simp only [RT] at hS1
 simp (disch := omega) only [↓RA, RB, simprocAttr, hn, lN (hS1.rd 0 rfl).cells]
 refine hS1.ai [I 36, I 48, w1] qC wP rfl rfl (by first | (simp []; done) | simp [Value.cells]) (by first | (simp []; done) | simp [Value.cells]) (by simp [OC, (hS1.rd 0 rfl).cells.2.1]) (by decide) (by decide) fun w2 H2 hS2 => ?_
 simp only [RT] at hS2
 simp (disch := omega) only [↓RA, RB, simprocAttr, hn, a7O (hS2.rd 1 rfl).cells]
 refine hS2.ai [(.string ⟨#[97]⟩), I feet, I 1, w2] b7h c1j rfl rfl (by first | (simp []; done) | simp [Value.cells]) (by first | (simp []; done) | simp [Value.cells]) (by simp [OC, (hS2.rd 1 rfl).cells.2.1]) (by decide) (by decide) fun w3 H3 hS3 => ?_
 simp only [RT] at hS3
 simp (disch := omega) only [↓RA, RB, simprocAttr, hn, c6F]
 exact ⟨w1, w2, hS3⟩
def exE (w1 w2 : Value) (d1 g1 s1 d2 g2 s2 : Value) (w3 w4 w5 : Value) : Org := ⟨⟨#[101]⟩, w3, [⟨⟨#[114]⟩, ⟨#[102, 108, 117, 116, 101]⟩, 8, 1, 36, w1, List.replicate 25 1⟩, ⟨⟨#[115]⟩, ⟨#[102, 108, 117, 116, 101]⟩, 8, 1, 36, w2, List.replicate 25 1⟩], w4,
 [⟨⟨#[111, 110, 101]⟩, false, 36, 48, s1, [⟨⟨#[97]⟩, 8, 1, g1, [⟨36, 48, d1, [⟨0, 0⟩]⟩]⟩]⟩, ⟨⟨#[116, 119, 111]⟩, false, 36, 48, s2, [⟨⟨#[97]⟩, 4, 1, g2, [⟨36, 48, d2, [⟨1, 12⟩]⟩]⟩]⟩], w5, [⟨⟨#[99]⟩, 0, 1, 0, false⟩]⟩
theorem a8v (hG : Glob gH H) : Fn prog 41 [] H fun r H' => ∃ w1 w2 d1 g1 s1 d2 g2 s2 w3 w4 w5, r = .agg #[.string (exE w1 w2 d1 g1 s1 d2 g2 s2 w3 w4 w5).name, w3, w4, w5] ∧ (exE w1 w2 d1 g1 s1 d2 g2 s2 w3 w4 w5).In H' ∧ St prog H H' [] := by
 refine .cQ func41 rfl (by kernel_rfl) (m := 19) rfl fun l hn => ?_
 simp (disch := omega) only [↓RA, RZ, simprocAttr]
 refine (sR H).eNew 4 [(.string ⟨#[]⟩), (.slice none 0 0), (.slice none 0 0), (.slice none 0 0)] rfl rfl rfl mB fun A1 H1 hS1 => ?_
 simp only [RT] at hS1
 simp (disch := omega) only [↓RA, RZ, simprocAttr, a3X]
 refine hS1.eNew 2 [I 0, I 0] rfl rfl rfl uB fun A2 H2 hS2 => ?_
 simp only [RT] at hS2
 simp (disch := omega) only [↓RA, RB, simprocAttr, hn]
 refine hS2.ab 1 rfl [I 36, I 48] rfl rfl uB (by simp) fun H3 hS3 => ?_
 simp only [RT] at hS3
 simp (disch := omega) only [↓RA, RB, simprocAttr]
 refine Wp.cg jZ [0, 1, 4, 5, 8, 9, 2, 3, 6, 7, 10, 11, 12, 13, 14, 15] [0, 1, 6, 7, 2, 3, 8, 9, 4, 5, 10, 11, 12, 13, 14, 15] ⟨true, [36], []⟩ [(7, 0), (7, 1), (7, 2), (7, 4), (7, 6), (9, 0), (9, 1), (9, 2), (9, 4), (9, 6)] (by kernel_rfl) (by kernel_rfl) (by kernel_rfl) ?_
 simp (disch := omega) only [↓RA, RZ, simprocAttr]
 refine iG (a4o (hS3.gl hG) _) ?_
 rintro r H4 ⟨wv1, rfl, hT1⟩
 have hS4 := hS3.trans hT1
 simp only [RT] at hS4
 simp (disch := omega) only [↓RA, RZ, simprocAttr]
 refine iG (a4o (hS4.gl hG) _) ?_
 rintro r H5 ⟨wv2, rfl, hT2⟩
 have hS5 := hS4.trans hT2
 simp only [RT] at hS5
 simp (disch := omega) only [↓RA, RZ, simprocAttr, hn]
 refine iG (a4z 0 8 0) ?_
 rintro r H6 ⟨d1, g1, hT3⟩
 have hS6 := hS5.trans hT3
 simp only [RT] at hS6
 obtain ⟨s1, rfl⟩ : ∃ w, w = r := ⟨r, rfl⟩
 simp (disch := omega) only [↓RA, RZ, simprocAttr, hn]
 refine iG (a4z 1 4 12) ?_
 rintro r H7 ⟨d2, g2, hT4⟩
 have hS7 := hS6.trans hT4
 simp only [RT] at hS7
 obtain ⟨s2, rfl⟩ : ∃ w, w = r := ⟨r, rfl⟩
 simp (disch := omega) only [↓RA, RB, simprocAttr, hn]
 refine hS7.ai [(.string ⟨#[114]⟩), (.string ⟨#[102, 108, 117, 116, 101]⟩), I 8, I 1, I 36, wv1, (.string ⟨#[115]⟩), (.string ⟨#[102, 108, 117, 116, 101]⟩), I 8, I 1, I 36, wv2] c3t c4B rfl rfl (by first | (simp []; done) | simp [Value.cells]) (by first | (simp []; done) | simp [Value.cells]) (by simp [OC, (hS7.rd 2 rfl).cells.2.1, (hS7.rd 3 rfl).cells.2.1]) (by decide) (by decide) fun w1 H8 hS8 => ?_
 simp only [RT] at hS8
 simp (disch := omega) only [↓RA, RZ, simprocAttr, hn, hS8.ag 1 rfl, a1h (hS8.rd 6 rfl).cells, a1h (hS8.rd 9 rfl).cells]
 refine hS8.ai [(.string ⟨#[111, 110, 101]⟩), (.bool false), I 36, I 48, s1, (.string ⟨#[116, 119, 111]⟩), (.bool false), I 36, I 48, s2] c3k c6k rfl rfl (by first | (simp []; done) | simp [Value.cells]) (by first | (simp []; done) | simp [Value.cells]) (by simp [OC, (hS8.rd 6 rfl).cells.2.1, (hS8.rd 9 rfl).cells.2.1]) (by decide) (by decide) fun w2 H9 hS9 => ?_
 simp only [RT] at hS9
 simp (disch := omega) only [↓RA, RB, simprocAttr, hn, a6J]
 refine hS9.ai [(.string ⟨#[99]⟩), I 0, I 1, I 0, (.bool false)] a8U c0z rfl rfl (by simp [Value.cells]) rfl rfl (by decide) (by decide) fun w3 H10 hS10 => ?_
 simp only [RT] at hS10
 simp (disch := omega) only [↓RA, RB, simprocAttr, hn, a5C (hS10.rd 10 rfl).cells (hS10.rd 11 rfl).cells (hS10.rd 12 rfl).cells]
 refine hS10.ab 0 rfl [(.string ⟨#[101]⟩), w1, w2, w3] rfl (by simp [OC, (hS10.rd 10 rfl).cells.2.1, (hS10.rd 11 rfl).cells.2.1, (hS10.rd 12 rfl).cells.2.1]) mB (by simp) fun H11 hS11 => ?_
 simp only [RT] at hS11
 simp (disch := omega) only [↓RA, RZ, simprocAttr, hn, hS3.ag 1 rfl, hS4.ag 1 rfl, hS5.ag 1 rfl, hS6.ag 1 rfl, hS7.ag 1 rfl, c7C, hS11.ag 0 rfl]
 have h1 : Sl 1 (one I) H11 wv1 (List.replicate 25 1) := hS11.aw 2 rfl (fun _ => rfl)
 have h2 : Sl 1 (one I) H11 wv2 (List.replicate 25 1) := hS11.aw 3 rfl (fun _ => rfl)
 have h3 : Sl 2 Drw.cells H11 d1 [⟨0, 0⟩] := hS11.aw 4 rfl (fun _ => rfl)
 have h4 : Sl 3 Seg.cells H11 g1 [⟨36, 48, d1, [⟨0, 0⟩]⟩] := hS11.aw 5 rfl (fun _ => rfl)
 have h5 : Sl 4 Stp.cells H11 s1 [⟨⟨#[97]⟩, 8, 1, g1, [⟨36, 48, d1, [⟨0, 0⟩]⟩]⟩] := hS11.aw 6 rfl (fun _ => rfl)
 have h6 : Sl 2 Drw.cells H11 d2 [⟨1, 12⟩] := hS11.aw 7 rfl (fun _ => rfl)
 have h7 : Sl 3 Seg.cells H11 g2 [⟨36, 48, d2, [⟨1, 12⟩]⟩] := hS11.aw 8 rfl (fun _ => rfl)
 have h8 : Sl 4 Stp.cells H11 s2 [⟨⟨#[97]⟩, 4, 1, g2, [⟨36, 48, d2, [⟨1, 12⟩]⟩]⟩] := hS11.aw 9 rfl (fun _ => rfl)
 have h9 : Sl 6 Rk.cells H11 w1 (exE wv1 wv2 d1 g1 s1 d2 g2 s2 w1 w2 w3).ranks := hS11.aw 10 rfl (fun _ => rfl)
 have h10 : Sl 5 Dvn.cells H11 w2 (exE wv1 wv2 d1 g1 s1 d2 g2 s2 w1 w2 w3).dvs := hS11.aw 11 rfl (fun _ => rfl)
 have h11 : Sl 5 Cpl.cells H11 w3 (exE wv1 wv2 d1 g1 s1 d2 g2 s2 w1 w2 w3).cpls := hS11.aw 12 rfl (fun _ => rfl)
 refine ⟨wv1, wv2, d1, g1, s1, d2, g2, s2, w1, w2, w3, rfl, ⟨h9, ?_, h10, ?_, h11, by simp [exE], by simp [exE], by simp [exE]⟩, hS11.forget⟩
 ·intro r hr
  simp only [exE, dR, ek, or_false] at hr
  rcases hr with rfl | rfl
  ·exact ⟨h1, by simp⟩
  ·exact ⟨h2, by simp⟩
 ·intro d hd
  simp only [exE, dR, ek, or_false] at hd
  rcases hd with rfl | rfl
  ·exact ⟨h5, fun s hs => by rw [dw.1 hs]; exact ⟨h4, fun g hg => by rw [dw.1 hg]; exact ⟨h3, by simp⟩, by simp⟩, by simp⟩
  ·exact ⟨h8, fun s hs => by rw [dw.1 hs]; exact ⟨h7, fun g hg => by rw [dw.1 hg]; exact ⟨h6, by simp⟩, by simp⟩, by simp⟩
section
variable (w1 w2 d1 g1 s1 d2 g2 s2 w3 w4 w5 : Value)
theorem b8S (off : Nat) (h : off < 2) : pY (exE w1 w2 d1 g1 s1 d2 g2 s2 w3 w4 w5) ⟨[1, 1], 1, off⟩ = 0 := by
 rcases (by omega : off = 0 ∨ off = 1) with rfl | rfl
 ·kernel_rfl
 ·kernel_rfl
theorem b4N : mT (exE w1 w2 d1 g1 s1 d2 g2 s2 w3 w4 w5) [iP [40], (0, 0)] = 0 := by kernel_rfl
theorem c0x : jX (exE w1 w2 d1 g1 s1 d2 g2 s2 w3 w4 w5) ⟨[1, 1], 1, 0⟩ (iF [iP [40], (0, 0)]) = [(0, 40), (1, 40)] := by
 unfold jX
 rw [b6J]
 kernel_rfl
end
theorem b9f (v : Value) (k : FuncId) : Fn prog 120 [v, I 0, I 1, .func (.func k) #[] #[]] H fun r H' => r = .tuple #[] ∧ St prog H H' [] := by
 refine .cM func120 rfl (by kernel_rfl) (m := 53) rfl fun l hn g0 g1 g2 g3 => ?_
 simp (disch := omega) only [↓RA, RB, simprocAttr, hn, g1]
 refine Wp.ak (fun n l H' => l.length = 53 ∧ get l 8 = I 1 ∧ get l 2 = I 1 ∧ St prog H H' []) 1 ?_ ?_
 ·simp (disch := omega) only [RB, RC, simprocAttr, hn, g2]
  exact (sR H)
 rintro n l H9 ⟨hn, g8, g2, hS9⟩
 simp (disch := omega) only [↓RA, RZ, simprocAttr, hn, g8, g2, c4G]
 first | exact hS9 | exact ⟨rfl, hS9⟩
theorem b0A (v : Value) (k : FuncId) : Fn prog 82 [v, I 1, .func (.func k) #[] #[]] H fun r H' => r = .tuple #[] ∧ St prog H H' [] := by
 refine .bd func82 rfl (by kernel_rfl) (m := 63) rfl fun l hn g0 g1 g2 => ?_
 simp (disch := omega) only [↓RA, RB, simprocAttr, hn]
 refine Wp.ak (fun n l H' => l.length = 63 ∧ get l 0 = v ∧ get l 1 = I 1 ∧ get l 2 = .func (.func k) #[] #[] ∧ get l 6 = I 20 ∧ get l 7 = I 0 ∧ get l 8 = I 20 ∧ St prog H H' []) 1 ?_ ?_
 ·simp (disch := omega) only [RB, RC, simprocAttr, hn, g0, g1, g2]
  exact (sR H)
 rintro n l H9 ⟨hn, g0, g1, g2, g6, g7, g8, hS9⟩
 simp (disch := omega) only [↓RA, RZ, simprocAttr, hn, g0, g1, g2, g7, g8]
 refine (sR H9).cF (b9f v k) fun H1 hS1 => ?_
 simp (disch := omega) only [↓RA, simprocAttr]
 have hS8 := hS9.trans hS1
 refine Wp.ak (fun n l H' => l.length = 63 ∧ get l 1 = I 1 ∧ get l 6 = I 20 ∧ St prog H H' []) 1 ?_ ?_
 ·simp (disch := omega) only [RB, RC, simprocAttr, hn, g1, g6]
  exact hS8
 rintro n l H7 ⟨hn, g1, g6, hS7⟩
 simp (disch := omega) only [↓RA, RZ, simprocAttr, hn, g1, g6, c7O]
 first | exact hS7 | exact ⟨rfl, hS7⟩
def a7g (x : Ct × Int) : List Value := [I x.1.1, I x.1.2, I x.2]
theorem a8L (v : Value) (x : Ct × Int) (hv : Sl 3 a7g H v [x]) (k : FuncId) : Fn prog 38 [v, .func (.func k) #[] #[]] H fun r H' => r = .tuple #[] ∧ St prog H H' [] := by
 have h1 : (([x] : List (Ct × Int)).length : Int) = 1 := rfl
 refine .aE func38 rfl (by kernel_rfl) (m := 9) rfl fun l hn g0 g1 => ?_
 simp (disch := omega) only [↓RA, RZ, simprocAttr, hn, g0, g1, ((sR H).sl hv).len]
 refine (sR H).cF (b0A v k) fun H1 hS1 => ?_
 simp (disch := omega) only [↓RA, RZ, simprocAttr, c6U]
 first | exact hS1 | exact ⟨rfl, hS1⟩
theorem b4s (hG : Glob gH H) : Fn prog 78 [.agg #[I 8, I 1], .agg #[I 8, I 1]] H fun r H' => r = .tuple #[I 0, I 0] ∧ St prog H H' [] := by
 have h := a2u hG (a := (8, 1)) (b := (8, 1)) (by simp [lE]) (by simp [lV])
 rw [show shF (8, 1) (8, 1) = 0 from by kernel_rfl] at h
 exact h.mono fun _ _ h => ⟨h.1.1, h.2⟩
def a6q (o : Org) (p : Ct) : Ct × Int := (p, (iB o.ranks p.1.toNat).first + p.2 + 0)
theorem b0R (hG : Glob gH H) (o : Org) (ho : o.In H) (rg : Reg) (sv : Value) (hr : rg.In H sv) (kv : Value) (ks : List Nt) (hk : Ks H kv ks) (h0 : rkE o rg ks = 0) (i m : Nat) (hsp : a3I o rg ks = [((i : Int), (m : Int))]) (hi : i < o.ranks.length) (hm : m < 1000)
 (hf : (iB o.ranks i).num = 8 ∧ (iB o.ranks i).den = 1 ∧ -1000 ≤ (iB o.ranks i).first ∧ (iB o.ranks i).first ≤ 1000) :
 Fn prog 36 [.agg #[.string o.name, o.rv, o.dv, o.cv], .agg #[sv, .int .u64 rg.cpl, .int .u64 rg.off], kv] H fun r H' => ∃ hv, r = .tuple #[hv, I 0] ∧ St prog H H' [⟨hv, 3, a7g (a6q o ((i : Int), (m : Int)))⟩] := by
 obtain ⟨f1, f2, f3, f4⟩ := hf
 refine .bd func36 rfl (by kernel_rfl) (m := 61) rfl fun l hn g0 g1 g2 => ?_
 simp (disch := omega) only [↓RA, RB, simprocAttr, g0]
 refine (sR H).eNew 4 [(.string o.name), o.rv, o.dv, o.cv] rfl rfl (by simp [OC, ((sR H).sl ho.1).cells.2.1, ((sR H).sl ho.2.2.1).cells.2.1, ((sR H).sl ho.2.2.2.2.1).cells.2.1]) mB fun A1 H1 hS1 => ?_
 simp only [RT] at hS1
 simp (disch := omega) only [↓RA, RB, simprocAttr, g1]
 refine hS1.eNew 3 [sv, (.int .u64 rg.cpl), (.int .u64 rg.off)] rfl rfl (by simp [OC, (hS1.sl hr.1).cells.2.1]) pN fun A2 H2 hS2 => ?_
 simp only [RT] at hS2
 simp (disch := omega) only [↓RA, RZ, simprocAttr, hn, g2, hS2.ag 0 rfl, hS2.ag 1 rfl]
 refine iG (a1a (hS2.gl hG) o (ho.ae hS2) rg sv (hr.ae hS2) kv ks (hk.ae hS2)) ?_
 rintro r H3 ⟨pv, rfl, hx, hT1⟩
 have hS3 := hS2.trans hT1
 simp only [RT] at hS3
 rw [h0]
 rw [hsp] at hx
 have hl1 : (([((i : Int), (m : Int))] : List Ct).length : Int) = 1 := rfl
 have hS0 := hS3
 have ho2 := ho.ae hS0
 have hG2 := hS0.gl hG
 simp (disch := omega) only [↓RA, RZ, simprocAttr, hn, ((sR H3).sl hx.1).len]
 have hS4 := (sR H3).nil 2
 simp only [RT] at hS4
 refine Wp.ak (fun n l H' => l.length = 61 ∧ get l 3 = (ptr A1 0 4) ∧ get l 6 = (.slice none 0 0) ∧ get l 7 = I 0 ∧ get l 26 = pv ∧ ∃ (j : Nat) (ov : Value), (n + j = 1) ∧ get l 28 = I j ∧ get l 10 = ov ∧ get l 27 = I 1 ∧ St prog H3 H' [⟨ov, 3, ([a6q o ((i : Int), (m : Int))].take j).flatMap a7g⟩]) 1 ?_ ?_
 ·simp (disch := omega) only [RB, RC, simprocAttr, hn]
  exact ⟨0, .slice none 0 0, by omega, rfl, rfl, hS4⟩
 rintro n l H4 ⟨hn, g3, g6, g7, g26, j, ov, hj, g28, rN, g27, hS5⟩
 simp (disch := omega) only [↓RA, RB, simprocAttr, hn, g28, g27]
 refine iA (fun q1 => ?_) (fun q1 => ?_)
 ·have hj0 : j = 0 := by omega
  have hn0 : iB ([((i : Int), (m : Int))] : List Ct) j = ((i : Int), (m : Int)) := by rw [hj0]; rfl
  simp (disch := omega) only [↓RA, RZ, simprocAttr, hn, g26, g28, (hS5.sl hx.1).idx, (hS5.sl hx.1).ag, jF, q1, hn0]
  refine hS5.eNew 2 [I 0, I 0] rfl rfl rfl pS fun A3 H5 hS6 => ?_
  simp only [RT] at hS6
  simp (disch := omega) only [↓RA, RZ, simprocAttr, hn, q1]
  refine hS6.ab 1 rfl [I i, I m] rfl rfl pS (by simp) fun H6 hS7 => ?_
  simp only [RT] at hS7
  simp (disch := omega) only [↓RA, RZ, simprocAttr, hn, g3, ((hS0.var 0 rfl).ae hS7.ae).ld, hS7.ld 1 rfl, (hS7.sl ho2.1).idx, (hS7.sl ho2.1).ag, Rk.cells, q1]
  refine hS7.eNew 6 [(.string ⟨#[]⟩), (.string ⟨#[]⟩), I 0, I 0, I 0, (.slice none 0 0)] rfl rfl rfl zC fun A4 H7 hS8 => ?_
  simp only [RT] at hS8
  simp (disch := omega) only [↓RA, RZ, simprocAttr, hn, q1]
  refine hS8.ab 2 rfl [(.string (iB o.ranks i).name), (.string (iB o.ranks i).tone), I (iB o.ranks i).num, I (iB o.ranks i).den, I (iB o.ranks i).first, (iB o.ranks i).wv] rfl (by simp [OC, (hS8.sl (ho2.2.1 (iB o.ranks i) (iD (by omega))).1).cells.2.1]) zC (by simp) fun H8 hS9 => ?_
  simp only [RT] at hS9
  simp (disch := omega) only [↓RA, RZ, simprocAttr, hn, hS9.ag 2 rfl, uW, q1]
  rw [f1, f2]
  refine hS9.cF (b4s (hS9.gl hG2)) fun H9 hS10 => ?_
  simp (disch := omega) only [↓RA, RZ, simprocAttr, hn, rN, hS10.ag 1 rfl, hS10.ld 2 rfl, hS10.ld 1 rfl, a7e, q1]
  refine hS10.ai [I i, I m, _] c1N c5M rfl rfl (by simp [Value.cells]) rfl rfl (by decide) (by decide) fun w1 H10 hS11 => ?_
  simp only [RT] at hS11
  simp (disch := omega) only [↓RA, RZ, simprocAttr, hn, q1]
  refine hS11.al 0 rfl (hS11.rd 3 rfl) c1N (by rw [hj0]; simp) fun w2 H11 hS12 => ?_
  simp only [RT] at hS12
  simp (disch := omega) only [↓RA, RZ, simprocAttr, hn, g3, g6, g7, g26, g28, g27, q1]
  refine ⟨0, by omega, 1, w2, by omega, by rw [hj0]; rfl, rfl, ?_⟩
  have h9 := hS12.pick (os' := [⟨w2, 3, _⟩]) [0] (by decide) rfl
  rw [hj0] at h9
  exact h9
 have hj1 : j = 1 := by omega
 simp (disch := omega) only [↓RA, RZ, simprocAttr, hn, rN, q1]
 have hnt := (hS5.aw (cel := a7g) (xs := [a6q o ((i : Int), (m : Int))].take j) 0 rfl (fun _ => rfl)).bg
 refine hS5.cF (a8L ov (a6q o ((i : Int), (m : Int))) (by have h := hS5.aw (cel := a7g) (xs := [a6q o ((i : Int), (m : Int))].take j) 0 rfl (fun _ => rfl); rw [hj1] at h; exact h) 79) fun H12 hS13 => ?_
 simp (disch := omega) only [↓RA, RZ, simprocAttr, hn, rN, c7Q, q1, hnt]
 refine ⟨ov, rfl, ?_⟩
 have hfin := hS13
 rw [hj1] at hfin
 exact hS0.forget.trans hfin
end Go.Ds
