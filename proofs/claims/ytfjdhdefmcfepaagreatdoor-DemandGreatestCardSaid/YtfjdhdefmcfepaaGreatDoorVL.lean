/-
  A part of the proof of DemandGreatest.
-/
import Derived.Test.YtfjdhdefmcfepaaGreatDoorVJ
import Derived.Test.YtfjdhdefmcfepaaGreatDoorVD
import Derived.Test.YtfjdhdefmcfepaaGreatDoorVE
set_option linter.unusedVariables false
set_option linter.unusedSimpArgs false
set_option linter.defProp false
set_option linter.unusedSectionVars false
namespace Go.Ds
open Go.Proofs Go.ChangeShapes Go.WideShapes Go.RowKit Go.Deep
set_option maxRecDepth 10000
section
variable {H0 : Type} {enc : TypeId × Value → H0} {w : World} {base n : Nat} {spare : Nat → Bool} {lO : Bool} {x : DataW H0 × List MemPlace}
end
section
variable {H0 : Type} {enc : TypeId × Value → H0} {w : World} {base : Nat} {lO : Bool}
end
end Go.Ds
namespace Go.Ds
open Go.Proofs
set_option maxRecDepth 10000
def xV (x y : Int × Int) : Prop := x.1 < y.1 ∨ (x.1 = y.1 ∧ x.2 < y.2)
theorem a1T {x : Int × Int} : ¬ xV x x := by unfold xV; omega
theorem a0I {x y z : Int × Int} (h : xV x y) (k : xV y z) : xV x z := by unfold xV at *; omega
theorem rA : ∀ (l m : List (Int × Int)), l.Pairwise xV → m.Pairwise xV → (∀ x, x ∈ l ↔ x ∈ m) → l = m
 | [], [], _, _, _ => rfl
 | [], b :: m, _, _, h => absurd ((h b).2 (dI ..)) ec
 | a :: l, [], _, _, h => absurd ((h a).1 (dI ..)) ec
 | a :: l, b :: m, hl, hm, h => by
   rw [gU] at hl hm
   have hab : a = b := by
    rcases dV.1 ((h a).1 (dI ..)) with e | e
    ·exact e
    ·rcases dV.1 ((h b).2 (dI ..)) with e2 | e2
     ·exact e2.symm
     ·exact absurd (a0I (hm.1 a e) (hl.1 b e2)) a1T
   subst hab
   congr 1
   refine rA l m hl.2 hm.2 fun x => ?_
   constructor
   ·intro hx
    rcases dV.1 ((h x).1 (dO _ hx)) with e | e
    ·subst e
     exact absurd (hl.1 x hx) a1T
    ·exact e
   ·intro hx
    rcases dV.1 ((h x).2 (dO _ hx)) with e | e
    ·subst e
     exact absurd (hm.1 x hx) a1T
    ·exact e
theorem b7u {es : List (Int × Int)} (h : es.Pairwise fun a b => le2 a b = true) {i j : Nat} (hij : i < j) (hj : j < es.length) : le2 (iB es i) (iB es j) = true := by
 rw [jL _ _ (by omega), jL _ _ hj]
 exact eJ.1 h i j (by omega) hj hij
theorem a9h {es : List (Int × Int)} (h : es.Pairwise fun a b => le2 a b = true) : ∀ m, m ≤ es.length → (ddN es m).Pairwise xV ∧ ∀ x, x ∈ ddN es m ↔ ∃ j, j < m ∧ iB es j = x
 | 0, _ => ⟨by simp [ddN], fun x => by simp [ddN]⟩
 | m + 1, hm => by
   obtain ⟨h1, h2⟩ := a9h h m (by omega)
   rw [sW]
   by_cases hc : m = 0 ∨ iB es m ≠ iB es (m - 1)
   ·rw [if_pos hc]
    refine ⟨?_, fun x => ?_⟩
    ·rw [fc]
     refine ⟨h1, by simp, fun a ha b hb => ?_⟩
     obtain ⟨j, hj, rfl⟩ := (h2 a).1 ha
     obtain rfl := dB.1 hb
     have h3 := (nU _ _).1 (b7u h hj (by omega))
     rcases hc with hc | hc
     ·omega
     ·by_cases he : j = m - 1
      ·subst he
       have hne : ¬ (iB es (m - 1) = iB es m) := fun e => hc e.symm
       rw [Prod.ext_iff] at hne
       unfold xV
       omega
      ·have h4 := (nU _ _).1 (b7u h (show j < m - 1 by omega) (by omega))
       have h5 := (nU _ _).1 (b7u h (show m - 1 < m by omega) (by omega))
       have hne : ¬ (iB es (m - 1) = iB es m) := fun e => hc e.symm
       rw [Prod.ext_iff] at hne
       unfold xV
       omega
    ·rw [dF, h2, dB]
     constructor
     ·rintro (⟨j, hj, e⟩ | e)
      ·exact ⟨j, by omega, e⟩
      ·exact ⟨m, by omega, e.symm⟩
     ·rintro ⟨j, hj, e⟩
      rcases dr.1 hj with e2 | e2
      ·exact .inl ⟨j, e2, e⟩
      ·subst e2
       exact .inr e.symm
   ·rw [if_neg hc, dm]
    refine ⟨h1, fun x => ?_⟩
    rw [h2]
    constructor
    ·rintro ⟨j, hj, e⟩
     exact ⟨j, by omega, e⟩
    ·rintro ⟨j, hj, e⟩
     rcases dr.1 hj with e2 | e2
     ·exact ⟨j, e2, e⟩
     ·subst e2
      have hc' : ¬ (j = 0) ∧ iB es j = iB es (j - 1) := ⟨fun e => hc (.inl e), fP fun e => hc (.inr e)⟩
      exact ⟨j - 1, by omega, by rw [← hc'.2]; exact e⟩
theorem a6k (l : List (Int × Int)) : (dd (pI l)).Pairwise xV := (a9h (tS l) _ (di _)).1
theorem pT {l : List (Int × Int)} {x : Int × Int} : x ∈ dd (pI l) ↔ x ∈ l := by
 unfold dd
 rw [(a9h (tS l) _ (di _)).2 x, ← (mX l).mem_iff]
 constructor
 ·rintro ⟨j, hj, rfl⟩
  exact iD hj
 ·intro hx
  obtain ⟨j, hj, e⟩ := dK.1 hx
  exact ⟨j, hj, by rw [jL _ _ hj]; exact e⟩
theorem b1L {l m : List (Int × Int)} (h : ∀ x, x ∈ l ↔ x ∈ m) : dd (pI l) = dd (pI m) :=
 rA _ _ (a6k l) (a6k m) fun x => by rw [pT, pT, h]
def a6j (o : Org) (cp : Nat) (thr : Bool) (c x : Ct) : Prop := ∃ i, i < o.cpls.length ∧ rO cp thr c (iB o.cpls i) i = true ∧ kY o (to1 (iB o.cpls i) c) = true ∧ x = to1 (iB o.cpls i) c
theorem a5d {o : Org} {cp : Nat} {thr : Bool} {c x : Ct} {q : List Ct} : ∀ n, x ∈ stepN o cp thr c q n ↔ x ∈ q ∨ ∃ i, i < n ∧ rO cp thr c (iB o.cpls i) i = true ∧ kY o (to1 (iB o.cpls i) c) = true ∧ x = to1 (iB o.cpls i) c
 | 0 => by
   unfold stepN
   simp
 | n + 1 => by
   rw [lI]
   have ih := a5d (o := o) (cp := cp) (thr := thr) (c := c) (x := x) (q := q) n
   have hs : x ∈ step1 o cp thr c (stepN o cp thr c q n) n ↔ x ∈ stepN o cp thr c q n ∨ (rO cp thr c (iB o.cpls n) n = true ∧ kY o (to1 (iB o.cpls n) c) = true ∧ x = to1 (iB o.cpls n) c) := by
    unfold step1
    split
    ·rename_i hh
     simp only [cW] at hh
     rw [dF, dB]
     constructor
     ·rintro (h | h)
      ·exact .inl h
      ·exact .inr ⟨hh.1.1, hh.1.2, h⟩
     ·rintro (h | ⟨_, _, h⟩)
      ·exact .inl h
      ·exact .inr h
    ·rename_i hh
     simp only [cW, dG, decide_eq_false_iff_not, not_and, du] at hh
     constructor
     ·exact fun h => .inl h
     ·rintro (h | ⟨h1, h2, h3⟩)
      ·exact h
      ·rw [h3]
       exact hh ⟨h1, h2⟩
   rw [hs, ih]
   constructor
   ·rintro ((h | ⟨i, hi, h⟩) | h)
    ·exact .inl h
    ·exact .inr ⟨i, by omega, h⟩
    ·exact .inr ⟨n, by omega, h⟩
   ·rintro (h | ⟨i, hi, h⟩)
    ·exact .inl (.inl h)
    ·rcases dr.1 hi with e | e
     ·exact .inl (.inr ⟨i, e, h⟩)
     ·subst e
      exact .inr h
theorem tB {o : Org} {cp : Nat} {thr : Bool} {c x : Ct} {q : List Ct} : x ∈ stepF o cp thr c q ↔ x ∈ q ∨ a6j o cp thr c x := a5d _
inductive Star {α : Type} (R : α → α → Prop) : α → α → Prop
 | refl (a : α) : Star R a a
 | tail {a b c : α} : Star R a b → R b c → Star R a c
theorem Star.stay {α : Type} {R : α → α → Prop} {p : α → Prop} (hc : ∀ a, p a → ∀ b, R a b → p b) {a b : α} (ha : p a) (h : Star R a b) : p b := by
 induction h with
 | refl => exact ha
 | tail _ h2 ih => exact hc _ ih _ h2
theorem a3b {o : Org} {cp : Nat} {l : List Ct} {x : Ct} : x ∈ kH o cp l ↔ ∃ c, c ∈ l ∧ a6j o cp false c x := by
 unfold kH
 have h : ∀ (l : List Ct) (q : List Ct), x ∈ l.foldl (fun q c => stepF o cp false c q) q ↔ x ∈ q ∨ ∃ c, c ∈ l ∧ a6j o cp false c x := by
  intro l
  induction l with
  | nil => intro q; simp
  | cons a l ih =>
    intro q
    rw [eF, ih, tB]
    constructor
    ·rintro ((h | h) | ⟨c, hc, h⟩)
     ·exact .inl h
     ·exact .inr ⟨a, dI .., h⟩
     ·exact .inr ⟨c, dO _ hc, h⟩
    ·rintro (h | ⟨c, hc, h⟩)
     ·exact .inl (.inl h)
     ·rcases dV.1 hc with e | e
      ·subst e
       exact .inl (.inr h)
      ·exact .inr ⟨c, e, h⟩
 rw [h]
 simp
theorem a4L {o : Org} {cp : Nat} {thr : Bool} {c : Ct} {q : List Ct} : ∀ n, ∃ t, stepN o cp thr c q n = q ++ t
 | 0 => ⟨[], by simp [stepN]⟩
 | n + 1 => by
   obtain ⟨t, ht⟩ := a4L (o := o) (cp := cp) (thr := thr) (c := c) (q := q) n
   rw [lI, ht]
   unfold step1
   split
   ·exact ⟨t ++ [to1 (iB o.cpls n) c], by rw [ed]⟩
   ·exact ⟨t, rfl⟩
theorem a7s {α : Type} [Inhabited α] (q t : List α) {j : Nat} (h : j < q.length) : iB (q ++ t) j = iB q j := by
 rw [jL _ _ (by simp; omega), jL _ _ h, List.getElem_append_left h]
theorem b1M {o : Org} (hf : o.Fine) (cp : Nat) : ∀ (n i : Nat) (q : List Ct), Que o q → 1025 ≤ n + i → (∀ j, j < i → j < q.length → ∀ y, a6j o cp true (iB q j) y → y ∈ q) →
 ∀ x, x ∈ bfs o cp n i q ↔ ∃ a, a ∈ q ∧ Star (a6j o cp true) a x
 | 0, i, q, hq, hn, hc, x => by
   have hl := hq.len hf
   have hcl : ∀ a, a ∈ q → ∀ y, a6j o cp true a y → y ∈ q := fun a ha y hy => by
    obtain ⟨j, hj, e⟩ := dK.1 ha
    exact hc j (by omega) hj y (by rw [jL _ _ hj, e]; exact hy)
   unfold bfs
   exact ⟨fun h => ⟨x, h, .refl x⟩, fun ⟨a, ha, hs⟩ => hs.stay hcl ha⟩
 | n + 1, i, q, hq, hn, hc, x => by
   rw [bfs]
   split
   ·rename_i hi
    obtain ⟨t, ht⟩ := a4L (o := o) (cp := cp) (thr := true) (c := iB q i) (q := q) o.cpls.length
    have ht : stepF o cp true (iB q i) q = q ++ t := ht
    rw [b1M hf cp n (i + 1) _ (hq.stepF cp true _) (by omega) (fun j hj hjl y hy => ?_)]
    ·constructor
     ·rintro ⟨a, ha, hs⟩
      rcases tB.1 ha with h | h
      ·exact ⟨a, h, hs⟩
      ·refine ⟨iB q i, iD hi, ?_⟩
       clear ha
       induction hs with
       | refl => exact .tail (.refl _) h
       | tail _ h2 ih => exact .tail ih h2
     ·rintro ⟨a, ha, hs⟩
      exact ⟨a, tB.2 (.inl ha), hs⟩
    ·rcases dr.1 hj with e | e
     ·rw [ht, a7s _ _ (by omega)] at hy
      exact tB.2 (.inl (hc j e (by omega) y hy))
     ·subst e
      rw [ht, a7s _ _ hi] at hy
      exact tB.2 (.inr hy)
   ·rename_i hi
    have hcl : ∀ a, a ∈ q → ∀ y, a6j o cp true a y → y ∈ q := fun a ha y hy => by
     obtain ⟨j, hj, e⟩ := dK.1 ha
     exact hc j (by omega) hj y (by rw [jL _ _ hj, e]; exact hy)
    exact ⟨fun h => ⟨x, h, .refl x⟩, fun ⟨a, ha, hs⟩ => hs.stay hcl ha⟩
def Snd (o : Org) (r : Reg) (c x : Ct) : Prop := (x = c ∧ r.off.testBit c.1.toNat = false) ∨ ∃ a, a6j o r.cpl false c a ∧ Star (a6j o r.cpl true) a x
theorem xS (o : Org) (cp : Nat) (l : List Ct) : Que o (kH o cp l) := by
 unfold kH
 have h : ∀ (l : List Ct) (q : List Ct), Que o q → Que o (l.foldl (fun q c => stepF o cp false c q) q) := by
  intro l
  induction l with
  | nil => exact fun q h => h
  | cons a l ih => exact fun q h => ih _ (h.stepF cp false a)
 exact h l [] (Que.nil o)
theorem a2a {o : Org} (hf : o.Fine) {r : Reg} {l : List Ct} {x : Ct} : x ∈ jY o r l ↔ ∃ c, c ∈ l ∧ Snd o r c x := by
 unfold jY
 rw [pT, dF, eh, b1M hf r.cpl 1100 0 _ (xS o r.cpl l) (by decide) (fun j hj => absurd hj (dN _))]
 constructor
 ·rintro (⟨h1, h2⟩ | ⟨a, ha, hs⟩)
  ·exact ⟨x, h1, .inl ⟨rfl, by simpa using h2⟩⟩
  ·obtain ⟨c, hc, h⟩ := a3b.1 ha
   exact ⟨c, hc, .inr ⟨a, h, hs⟩⟩
 ·rintro ⟨c, hc, h⟩
  rcases h with ⟨rfl, h2⟩ | ⟨a, h, hs⟩
  ·exact .inl ⟨hc, by simpa using h2⟩
  ·exact .inr ⟨a, a3b.2 ⟨c, hc, h⟩, hs⟩
theorem a2I {o : Org} (hf : o.Fine) {r : Reg} {l : List Ct} {p : Ct} : p ∈ kJ o r l ↔ ∃ c, c ∈ l ∧ ∃ x, Snd o r c x ∧ p ∈ mU o r x := by
 unfold kJ vH
 rw [pT, dR]
 constructor
 ·rintro ⟨x, hx, hp⟩
  obtain ⟨c, hc, h⟩ := (a2a hf).1 hx
  exact ⟨c, hc, x, h, hp⟩
 ·rintro ⟨c, hc, x, h, hp⟩
  exact ⟨x, (a2a hf).2 ⟨c, hc, h⟩, hp⟩
theorem a0D (o : Org) (r : Reg) (l : List Ct) : (kJ o r l).Pairwise xV := a6k _
def IsP (o : Org) (p : Ct) : Prop := 0 ≤ p.1 ∧ p.1 < o.ranks.length ∧ 0 ≤ p.2 ∧ p.2 < (iB o.ranks p.1.toNat).wind.length
theorem b0s {rs : List Rk} {s : Stp} {key : Int} {p : Ct} (h : p ∈ qE rs s key) : 0 ≤ p.1 ∧ p.1 < rs.length ∧ 0 ≤ p.2 ∧ p.2 < (iB rs p.1.toNat).wind.length := by
 unfold qE at h
 obtain ⟨d, hd, rfl⟩ := dz.1 (pT.1 h)
 have hh := (eh.1 hd).2
 unfold rK at hh
 rw [cW, cW, dG, decide_eq_true_eq, decide_eq_true_eq, decide_eq_false_iff_not] at hh
 obtain ⟨⟨h1, h2⟩, h3⟩ := hh
 have e : (mM rs d key).1 = d.rank := by unfold mM; rw [if_neg h1]
 rw [e]
 exact ⟨by omega, by omega, h2, h3⟩
theorem xM {o : Org} {r : Reg} {c p : Ct} (h : p ∈ mU o r c) : IsP o p := by
 unfold mU at h
 obtain ⟨i, _, h⟩ := dR.1 h
 split at h
 ·exact b0s h
 ·exact absurd h ec
theorem a7j {o : Org} {r : Reg} {l : List Ct} {p : Ct} (h : p ∈ vH o r l) : IsP o p := by
 unfold vH at h
 obtain ⟨c, _, h⟩ := dR.1 (pT.1 h)
 exact xM h
theorem oD {o : Org} {r : Reg} {l : List Ct} {p : Ct} (h : p ∈ kJ o r l) : IsP o p := a7j h
theorem b8y {o : Org} {r : Reg} {c p : Ct} (h : p ∈ ofF o r c) : IsP o p := by
 unfold ofF at h
 split at h
 ·exact oD h
 ·exact absurd h ec
theorem IsP.small {o : Org} {H : Heap} (hf : o.Fine) (ho : o.In H) {p : Ct} (h : IsP o p) : -1000000000 ≤ p.1 ∧ p.1 ≤ 1000000000 ∧ -1000000000 ≤ p.2 ∧ p.2 ≤ 1000000000 := by
 obtain ⟨h1, h2, h3, h4⟩ := h
 have hr := (ho.2.1 _ (iD (xs := o.ranks) (j := p.1.toNat) (by omega))).2
 have := hf.rlen
 exact ⟨by omega, by omega, by omega, by omega⟩
theorem qY {o : Org} (hf : o.Fine) (rg : Reg) {l : List Ct} (hl : l.length ≤ 1024) (ho : ∀ c ∈ jY o rg l, kY o c = true) : (kJ o rg l).length ≤ 1000000 := by
 have h1 := sL hf rg (jY o rg l) ho
 have h2 := tM hf (rg := rg) hl
 have h3 := a8i (pI ((jY o rg l).flatMap (mU o rg)))
 rw [lY] at h3
 have : (kJ o rg l).length ≤ (jY o rg l).length * 480 := dC h3 h1
 omega
end Go.Ds
namespace Go.Ds
open Go.Proofs Go.Proofs.Tryz
variable {H : Heap}
set_option maxRecDepth 10000
set_option maxHeartbeats 1000000
def mkN (P : Program) (t : TypeId) : Option (Nat × Nat × List Value) :=
 (iI P t).bind fun elem => (iE P elem).bind fun size => (mW P elem).bind fun bytes => (jA P elem).bind fun z => if size != 0 && size != 1 && z.cells.size == size && jB z then some (bytes, size, z.cells.toList) else none
theorem b6j {β : Type} (cel : β → List Value) (x : β) (z : Array Value) (hz : cel x = z.toList) (h0 : 0 < z.size) : ∀ a, (madeCells z (a * z.size)).toList = (List.replicate a x).flatMap cel := by
 have key : ∀ a, (List.range (a * z.size)).map (fun i => z[i % z.size]!) = (List.replicate a x).flatMap cel := by
  intro a
  induction a with
  | zero => simp
  | succ a ih =>
    rw [gG, Nat.add_comm, List.range_add, dQ, List.map_map, List.replicate_succ, dA, ← ih, hz]
    congr 1
    ·refine List.ext_getElem (by simp) fun i h1 h2 => ?_
     simp only [List.getElem_map, gT]
     rw [gj (by simpa using h1)]
     simp at h1
     simp [h1]
    ·refine List.map_congr_left fun i _ => ?_
     simp
 intro a
 rw [← key a]
 simp [madeCells]
theorem St.cj {P : Program} {H0 : Base} {H : Heap} {os : List Ob} {β : Type} {cel : β → List Value} {x : β} (hS : St P H0 H os) {t : TypeId} {bytes sz : Nat} {zs : List Value} {K : Value → Heap → Prop} (a : Nat) (ha : mkN P t = some (bytes, sz, zs)) (hz : cel x = zs) (hroom : a * (bytes + 1) ≤ 17592186044416)
 (h : ∀ v H1, St P H0 H1 (os ++ [⟨v, sz, (List.replicate a x).flatMap cel⟩]) → K v H1) : pP P H t (.int .i64 a) (.int .i64 a) K := by
 unfold mkN at ha
 cases he : iI P t with
 | none => rw [he] at ha; cases ha
 | some elem =>
 rw [he] at ha
 simp only [cX] at ha
 cases hsz2 : iE P elem with
 | none => rw [hsz2] at ha; cases ha
 | some sz =>
 rw [hsz2] at ha
 simp only [cX] at ha
 cases hby : mW P elem with
 | none => rw [hby] at ha; cases ha
 | some by' =>
 rw [hby] at ha
 simp only [cX] at ha
 cases hz2 : jA P elem with
 | none => rw [hz2] at ha; cases ha
 | some z' =>
 rw [hz2] at ha
 simp only [cX] at ha
 split at ha
 case isFalse => cases ha
 rename_i hzs
 simp only [cW, beq_iff_eq, bne_iff_ne, ne_eq] at hzs
 obtain ⟨⟨⟨hs0, hs1⟩, hz1⟩, hfl⟩ := hzs
 simp only [dE, gu] at ha
 obtain ⟨rfl, rfl, rfl⟩ := ha
 have hm := b6j cel x z'.cells hz (by omega) a
 rw [hz1] at hm
 have hln : ((List.replicate a x).flatMap cel).length = a * sz := by
  rw [← hm]
  simp [madeCells]
 refine ⟨.slice (some ⟨H.length, 0, some ((List.replicate a x).flatMap cel).length⟩) a sz, H.cons (.cells ((List.replicate a x).flatMap cel) elem true ((List.replicate a x).flatMap cel).length 0), ?_, h _ _ (hS.add ?_ ?_ ?_ ?_)⟩
 ·unfold tF
  simp only [he, hsz2, hby, hz2, cX]
  rw [if_pos]
  ·rw [if_neg hs1]
   simp only [dJ, hm]
   rw [lG]
  ·have : (a : Int) * (by' + 1) ≤ (oG : Int) := by
    have h3 : ((a * (by' + 1) : Nat) : Int) ≤ ((17592186044416 : Nat) : Int) := Int.ofNat_le.2 hroom
    simpa [oG] using h3
   simp [hfl, hz1, this, hs0]
 ·unfold OwnAt
  rw [if_neg hs0]
  exact .inr ⟨_, 0, elem, _, 0, [], a, iO H _, by simp, rfl, hln, by simp, hsz2⟩
 ·simp [oP]
 ·exact fun B hB => jO _ hB
 ·intro B hB
  simp [kI] at hB
  omega
abbrev Nt := Nat × Nat
def yI (x : Nt) : List Value := [.int .u64 x.1, .int .u64 x.2]
def Nt.Ok (x : Nt) : Prop := x.1 < 18446744073709551616 ∧ x.2 < 18446744073709551616
theorem c6C : mkN prog 44 = some (16, 2, yI (0, 0)) := by kernel_rfl
def rG (x : Nt) (n : Int) : Nt := if n < 64 then (x.1 ||| 2 ^ n.toNat, x.2) else (x.1, x.2 ||| 2 ^ (n - 64).toNat)
theorem a6n (i : Nat) (h : i < 64) : 2 ^ i < 18446744073709551616 := by
 have : 2 ^ i ≤ 2 ^ 63 := fq (by decide) (by omega)
 have e : 2 ^ 63 = 9223372036854775808 := rfl
 omega
theorem b7Z {a b : Nat} (ha : a < 18446744073709551616) (hb : b < 18446744073709551616) : a ||| b < 18446744073709551616 := Nat.or_lt_two_pow (n := 64) ha hb
theorem orB (a b : Nat) (ha : a < 18446744073709551616) (hb : b < 18446744073709551616) : IntKind.wrap .u64 ((BitVec.ofInt (IntKind.bits .u64) (a : Int) ||| BitVec.ofInt (IntKind.bits .u64) (b : Int)).toNat : Int) = ((a ||| b : Nat) : Int) := by
 have e : (BitVec.ofInt (IntKind.bits .u64) (a : Int) ||| BitVec.ofInt (IntKind.bits .u64) (b : Int)).toNat = a ||| b := by
  rw [BitVec.toNat_or, vG a ha, vG b hb]
 rw [e]
 have := b7Z ha hb
 exact nB _ (by omega) (by omega)
theorem orN (n i : Nat) (hn : n < 18446744073709551616) (hi : i < 64) : IntKind.wrap .u64 ((BitVec.ofInt (IntKind.bits .u64) (n : Int) ||| BitVec.ofInt (IntKind.bits .u64) (IntKind.wrap .u64 (1 * 2 ^ min i (IntKind.bits .u64)))).toNat : Int) = ((n ||| 2 ^ i : Nat) : Int) := by
 rw [b4V i hi]
 exact orB n (2 ^ i) hn (a6n i hi)
theorem c0w {x : Nt} (hx : Nt.Ok x) {z : Int} (h0 : 0 ≤ z) (h1 : z < 128) : Nt.Ok (rG x z) := by
 unfold rG
 split
 ·exact ⟨b7Z hx.1 (a6n _ (by omega)), hx.2⟩
 ·exact ⟨hx.1, b7Z hx.2 (a6n _ (by omega))⟩
theorem a6O (x : Nt) (hx : Nt.Ok x) (z : Int) (h0 : 0 ≤ z) (h1 : z < 128) : Fn prog 68 [.agg #[.int .u64 x.1, .int .u64 x.2], I z] H fun r H' => r = .agg #[.int .u64 (rG x z).1, .int .u64 (rG x z).2] ∧ St prog H H' [] := by
 obtain ⟨m, rfl⟩ := eX h0
 refine .aF func68 rfl (by kernel_rfl) (m := 21) rfl fun l hn g0 g1 => ?_
 simp (disch := omega) only [↓RA, RB, simprocAttr, g0]
 refine (sR H).eNew 2 [(.int .u64 x.1), (.int .u64 x.2)] rfl rfl rfl kX fun A1 H1 hS1 => ?_
 simp only [RT] at hS1
 simp (disch := omega) only [↓RA, RZ, simprocAttr]
 refine hS1.eNew 2 [(.int .u64 0), (.int .u64 0)] rfl rfl rfl kX fun A2 H2 hS2 => ?_
 simp only [RT] at hS2
 simp (disch := omega) only [↓RA, RB, simprocAttr, hn, g1]
 refine iA (fun q1 => ?_) (fun q1 => ?_)
 ·have e1 := orN x.1 m hx.1 (by omega)
  have e2 : rG x (m : Int) = (x.1 ||| 2 ^ m, x.2) := by unfold rG; rw [if_pos q1]; rfl
  simp (disch := omega) only [↓RA, RC, simprocAttr, q1]
  refine Wp.drw jZ (by kernel_rfl) ?_
  simp (disch := omega) only [↓RA, RZ, simprocAttr, hn, g1, hS2.ld 0 rfl, e1]
  refine hS2.aa 0 rfl [(.int .u64 (x.1 ||| 2 ^ m : Nat))] rfl rfl c2s (by simp) fun H3 hS3 => ?_
  simp only [RT] at hS3
  simp (disch := omega) only [↓RA, RZ, simprocAttr, hn, hS3.ae 0 rfl]
  refine hS3.aa 1 rfl [(.int .u64 (x.1 ||| 2 ^ m : Nat)), (.int .u64 x.2)] rfl rfl kX (by simp) fun H4 hS4 => ?_
  simp only [RT] at hS4
  simp (disch := omega) only [↓RA, RZ, simprocAttr, hn, c6q, hS4.ae 1 rfl]
  rw [e2]
  exact ⟨rfl, hS4.forget⟩
 have e1 := orN x.2 (m - 64) hx.2 (by omega)
 have e3 : (m : Int) - 64 = ((m - 64 : Nat) : Int) := by omega
 have e2 : rG x (m : Int) = (x.1, x.2 ||| 2 ^ (m - 64)) := by unfold rG; rw [if_neg q1, e3]; rfl
 simp (disch := omega) only [↓RA, RC, simprocAttr, q1]
 refine Wp.drw jZ (by kernel_rfl) ?_
 simp (disch := omega) only [↓RA, RZ, simprocAttr, hn, g1, hS2.ld 0 rfl, e1, e3]
 refine hS2.aa 0 rfl [(.int .u64 (x.2 ||| 2 ^ (m - 64) : Nat))] rfl rfl c2s (by simp) fun H5 hS5 => ?_
 simp only [RT] at hS5
 simp (disch := omega) only [↓RA, RZ, simprocAttr, hn, hS5.ae 0 rfl]
 refine hS5.aa 1 rfl [(.int .u64 x.1), (.int .u64 (x.2 ||| 2 ^ (m - 64) : Nat))] rfl rfl kX (by simp) fun H6 hS6 => ?_
 simp only [RT] at hS6
 simp (disch := omega) only [↓RA, RZ, simprocAttr, hn, c6q, hS6.ae 1 rfl]
 rw [e2]
 exact ⟨rfl, hS6.forget⟩
def jF (xs : List Int) : Nt := xs.foldl rG (0, 0)
def isN (z : Int) : Prop := 0 ≤ z ∧ z < 128
theorem qT : ∀ (xs : List Int) (x : Nt), (∀ z ∈ xs, isN z) → Nt.Ok x → Nt.Ok (xs.foldl rG x)
 | [], _, _, h => h
 | z :: xs, x, hz, h => by
   rw [eF]
   exact qT xs _ (fun y hy => hz y (dO _ hy)) (c0w h (hz z (dI ..)).1 (hz z (dI ..)).2)
theorem a7Q (xs : List Int) {j : Nat} (hj : j < xs.length) : jF (xs.take (j + 1)) = rG (jF (xs.take j)) (iB xs j) := by
 unfold jF
 rw [List.take_add_one, dq hj, Option.toList_some, fz, ← jL _ j hj]
 rfl
theorem b4q (z : Int) (h : isN z) : Fn prog 67 [I z] H fun r H' => r = .bool true ∧ St prog H H' [] := by
 have h0 := h.1
 have h1 := h.2
 refine .aP func67 rfl (by kernel_rfl) (m := 9) rfl fun l hn g0 => ?_
 simp (disch := omega) only [↓RA, RZ, simprocAttr, hn, g0]
 refine jI (fun q1 => ?_) (fun q1 => ?_)
 rotate_left
 ·exfalso; first | omega | (simp at q1; omega)
 simp (disch := omega) only [↓RA, RZ, simprocAttr, hn, g0, c8k, q1]
 simpa using ⟨(by omega : z ≤ 127), (sR H)⟩
theorem yE (xs : List Int) (hz : ∀ z ∈ xs, isN z) (v : Value) (hv : Sl 1 (one I) H v xs) (hl : xs.length < 1000000000) :
 Fn prog 39 [v] H fun r H' => r = .tuple #[.agg #[.int .u64 (jF xs).1, .int .u64 (jF xs).2], I 0] ∧ St prog H H' [] := by
 refine .aP func39 rfl (by kernel_rfl) (m := 22) rfl fun l hn g0 => ?_
 simp (disch := omega) only [↓RA, RZ, simprocAttr]
 refine (sR H).eNew 2 [(.int .u64 0), (.int .u64 0)] rfl rfl rfl kX fun A1 H1 hS1 => ?_
 simp only [RT] at hS1
 simp (disch := omega) only [↓RA, RZ, simprocAttr]
 refine hS1.eNew 2 [(.int .u64 0), (.int .u64 0)] rfl rfl rfl kX fun A2 H2 hS2 => ?_
 simp only [RT] at hS2
 simp (disch := omega) only [↓RA, RZ, simprocAttr, hn, g0, (hS2.sl hv).len]
 refine Wp.ak (fun n l H' => l.length = 22 ∧ get l 2 = (ptr A1 0 2) ∧ get l 4 = (ptr A2 0 2) ∧ get l 7 = v ∧ get l 8 = I xs.length ∧ ∃ (j : Nat), (n + j = xs.length) ∧ get l 9 = I j ∧ St prog H H' [⟨ptr A1 0 2, 0, [(.int .u64 0), (.int .u64 0)]⟩, ⟨ptr A2 0 2, 0, [.int .u64 (jF (xs.take j)).1, .int .u64 (jF (xs.take j)).2]⟩]) xs.length ?_ ?_
 ·simp (disch := omega) only [RB, RC, simprocAttr, hn]
  exact ⟨0, by omega, rfl, hS2⟩
 rintro n l H3 ⟨hn, g2, g4, g7, g8, j, hj, g9, hS3⟩
 simp (disch := omega) only [↓RA, RB, simprocAttr, hn, g8, g9]
 refine iA (fun q1 => ?_) (fun q1 => ?_)
 ·have hx := hz _ (iD (xs := xs) (j := j) (by omega))
  have hok : Nt.Ok (jF (xs.take j)) := qT _ _ (fun z h => hz z (fV h)) ⟨by decide, by decide⟩
  simp (disch := omega) only [↓RA, RZ, simprocAttr, hn, g7, g9, (hS3.sl hv).idx, (hS3.sl hv).ld, one, q1]
  refine hS3.cF (b4q (iB xs j) hx) fun H4 hS4 => ?_
  simp (disch := omega) only [↓RA, RZ, simprocAttr, hn, g4, hS4.ae 1 rfl, q1]
  refine hS4.cF (a6O (jF (xs.take j)) hok (iB xs j) hx.1 hx.2) fun H5 hS5 => ?_
  simp (disch := omega) only [↓RA, RZ, simprocAttr, hn, g4, q1]
  refine hS5.aa 1 rfl [(.int .u64 (rG (jF (xs.take j)) (iB xs j)).1), (.int .u64 (rG (jF (xs.take j)) (iB xs j)).2)] rfl rfl kX (by simp) fun H6 hS6 => ?_
  simp only [RT] at hS6
  simp (disch := omega) only [↓RA, RZ, simprocAttr, hn, g2, g4, g7, g8, g9, q1]
  refine ⟨n - 1, by omega, j + 1, by omega, by simp, ?_⟩
  rw [a7Q xs (by omega)]
  exact hS6.pick [0, 1] (by decide) rfl
 have hjj : j = xs.length := by omega
 simp (disch := omega) only [↓RA, RZ, simprocAttr, hn, g2, g4, hS3.ae 1 rfl, q1]
 refine hS3.aa 0 rfl [(.int .u64 (jF (xs.take j)).1), (.int .u64 (jF (xs.take j)).2)] rfl rfl kX (by simp) fun H7 hS7 => ?_
 simp only [RT] at hS7
 simp (disch := omega) only [↓RA, RZ, simprocAttr, hn, g2, c8u, hS7.ae 0 rfl, q1]
 rw [hjj, dS]
 exact ⟨rfl, hS7.forget⟩
end Go.Ds
namespace Go.Ds
open Go.Proofs
variable {H : Heap}
set_option maxRecDepth 10000
set_option maxHeartbeats 1000000
theorem St.perm {P : Program} {H0 : Base} {os os' : List Ob} (h : St P H0 H os) (hp : os.Perm os') : St P H0 H os' where
 len := h.len
 old := h.old
 own o ho := h.own o (hp.mem_iff.2 ho)
 new o ho := h.new o (hp.mem_iff.2 ho)
 sep := (List.Perm.pairwise_iff (fun {_ _} hxy B hB hB2 => hxy B hB2 hB) hp).1 h.sep
theorem Lp.swap {P : Program} {B : Base} {L : Nat} {r : Loop} {xs ys zs : List Ob} (h : Lp P B L r H ((xs ++ ys) ++ zs)) : Lp P B L r H ((xs ++ zs) ++ ys) := by
 have hp : ((xs ++ ys) ++ zs).Perm ((xs ++ zs) ++ ys) := by
  rw [ed, ed]
  exact (List.perm_append_comm).append_left xs
 exact ⟨h.st.perm hp, h.get, h.lo, fun o ho => h.ne o (hp.mem_iff.2 ho)⟩
end Go.Ds
namespace Go.Ds
open Go.Proofs Go.Proofs.Tryz
variable {H : Heap}
set_option maxRecDepth 10000
set_option maxHeartbeats 1000000
def ctz (x : Nat) : Nat := ((List.range 64).find? fun i => x.testBit i).getD 64
theorem a3v {x : Nat} (h0 : x ≠ 0) (h1 : x < 18446744073709551616) : ctz x < 64 ∧ x.testBit (ctz x) = true ∧ ∀ j, j < ctz x → x.testBit j = false := by
 have hx : ∃ i, i < 64 ∧ x.testBit i = true := by
  refine fP fun hn => h0 ?_
  refine fW fun i => ?_
  rw [ik]
  by_cases hi : i < 64
  ·by_cases hb : x.testBit i = true
   ·exact absurd ⟨i, hi, hb⟩ hn
   ·simpa using hb
  ·exact Nat.testBit_lt_two_pow (dM (show x < 2 ^ 64 by simpa using h1) (fq (by decide) (by omega)))
 unfold ctz
 cases hf : (List.range 64).find? fun i => x.testBit i with
 | none =>
   obtain ⟨i, hi, hb⟩ := hx
   have := gq.1 hf i (dw.2 hi)
   exact absurd hb (by simpa using this)
 | some i =>
   obtain ⟨hb, ys, bs, he, hn⟩ := List.find?_eq_some_iff_append.1 hf
   have hi : i < 64 := dw.1 (he ▸ (by simp : i ∈ ys ++ i :: bs))
   refine ⟨hi, hb, fun j hj0 => ?_⟩
   have hj : j < i := hj0
   have hl : ys.length = i := by
    have h2 : (List.range 64)[ys.length]? = some i := by rw [he]; simp
    have h3 : ys.length < 64 := by
     have := congrArg List.length he
     simp at this
     omega
    rw [gN h3] at h2
    exact cV h2
   have hm : j ∈ ys := by
    have h2 : (List.range 64)[j]? = some j := gN (by omega)
    rw [he, eI (by simpa using (hl ▸ hj))] at h2
    exact dT h2
   simpa using hn j hm
theorem a4i {x : Nat} (h0 : x ≠ 0) (h1 : x < 18446744073709551616) : ∃ m, x = 2 ^ ctz x * (2 * m + 1) := by
 obtain ⟨c1, c2, c3⟩ := a3v h0 h1
 generalize ctz x = k at c1 c2 c3
 have hd : x % 2 ^ k = 0 := by
  refine fW fun i => ?_
  rw [Nat.testBit_mod_two_pow, ik]
  by_cases hi : i < k
  ·rw [c3 i hi, Bool.and_false]
  ·rw [decide_eq_false hi, fy]
 have h2 : x / 2 ^ k % 2 = 1 := by
  rw [← eO]
  have := c2
  rw [tb] at this
  exact of_decide_eq_true this
 refine ⟨x / 2 ^ k / 2, ?_⟩
 have h3 := Nat.div_add_mod x (2 ^ k)
 have h4 := Nat.div_add_mod (x / 2 ^ k) 2
 rw [hd, gW] at h3
 rw [← h3]
 congr 1
 rw [h3]
 omega
theorem c0X {x : Nat} (h0 : x ≠ 0) (h1 : x < 18446744073709551616) : x &&& (18446744073709551616 - x) = 2 ^ ctz x := by
 obtain ⟨m, hm⟩ := a4i h0 h1
 obtain ⟨c1, _, _⟩ := a3v h0 h1
 generalize ctz x = k at hm c1
 have e64 : (18446744073709551616 : Nat) = 2 ^ k * (2 * 2 ^ (63 - k)) := by
  have : 2 ^ k * (2 * 2 ^ (63 - k)) = 2 ^ 64 := by rw [← Nat.pow_succ', ← Nat.pow_add]; congr 1; omega
  rw [this]
 have hml : m < 2 ^ (63 - k) := by
  rw [e64, hm] at h1
  have := Nat.lt_of_mul_lt_mul_left h1
  omega
 have e2 : 18446744073709551616 - x = 2 ^ k * (2 * (2 ^ (63 - k) - (m + 1)) + 1) := by
  rw [e64, hm, ← Nat.mul_sub]
  congr 1
  omega
 rw [e2, hm]
 refine fW fun i => ?_
 rw [Nat.testBit_and, gg]
 have hs : ∀ y : Nat, (2 ^ k * y).testBit i = (decide (k ≤ i) && y.testBit (i - k)) := fun y => by rw [Nat.mul_comm, Nat.testBit_mul_two_pow]
 rw [hs, hs]
 by_cases hi : k ≤ i
 ·rw [decide_eq_true hi, gP, gP]
  by_cases he : i = k
  ·subst he
   rw [Nat.sub_self, Nat.testBit_zero, Nat.testBit_zero]
   simp
  ·obtain ⟨j, hj⟩ : ∃ j, i - k = j + 1 := ⟨i - k - 1, by omega⟩
   rw [hj, Nat.testBit_succ, Nat.testBit_succ, show (2 * m + 1) / 2 = m by omega, show (2 * (2 ^ (63 - k) - (m + 1)) + 1) / 2 = 2 ^ (63 - k) - (m + 1) by omega, Nat.testBit_two_pow_sub_succ hml, decide_eq_false (by omega : ¬ k = i)]
   cases m.testBit j <;> simp
 ·rw [decide_eq_false hi, fy, decide_eq_false (by omega)]
  rfl
theorem c5a : ((List.range 64).all fun k => decide (2 ^ k * 285870213051353865 % 18446744073709551616 / 288230376151711744 < 64) && decide (t64.getD (2 ^ k * 285870213051353865 % 18446744073709551616 / 288230376151711744) 99 = k)) = true := by kernel_rfl
theorem b4T {P : Program} {t : TypeId} {n : Nat} {elem : TypeId} {size : Nat} (ha : P.underlying t = some (.array n elem)) (hs : iE P elem = some size) (A i : Nat) (k : IntKind) (j : Int) (h0 : 0 ≤ j) (h1 : j < n) :
 xO (iT P t) P t (.pointer (some ⟨A, i, none⟩)) (.int k j) = some (.pointer (some ⟨A, i + j.toNat * size, none⟩)) := by
 have hn : iT P t = none := by simp [iT, iI, ha]
 rw [hn]
 simp only [xO, a1V, ha, hs, cX]
 rw [if_pos (by simp [h0, h1])]
theorem c2m (k : IntKind) (j : Int) (h0 : 0 ≤ j) (h1 : j < 64) : xO (iT prog 241) prog 241 (.pointer (some ⟨0, 0, none⟩)) (.int k j) = some (.pointer (some ⟨0, 0 + j.toNat * 1, none⟩)) :=
 b4T (n := 64) (elem := 5) (size := 1) (by kernel_rfl) (by kernel_rfl) 0 0 k j h0 h1
theorem b3X (g : Nat) (l : List Value) (K : Value → Prop) : jK (.global g) l K = K (.pointer (some ⟨g, 0, none⟩)) := by simp [jK, iP, ev]
theorem gld (hG : Glob gH H) (j : Nat) (hj : j < 64) (s : Option Nat) : pO (some false) s H (.pointer (some ⟨0, j, none⟩)) = some (.int .u8 (t64.getD j 0 : Nat)) := by
 have h0 : iR H 0 = some (.cells (t64.map fun (n : Nat) => Value.int .u8 (.ofNat n)) 5 false 0 1) := by
  rw [hG.same 0 (by decide)]
  rfl
 simp only [pO, jC, h0]
 have hl : (t64.map fun (n : Nat) => Value.int .u8 (.ofNat n)).length = 64 := by rw [ef]; rfl
 rw [if_pos (by rw [hl]; simp; omega)]
 simp only [cX]
 rw [dW (by omega), dH, gW, eP, dq (show j < t64.length from hj)]
 rw [dP, dc, dq (show j < t64.length from hj)]
 rfl
theorem a9j (m : Int) : IntKind.wrap .u64 m = m % 18446744073709551616 := by
 show (if (false && decide (m % 18446744073709551616 ≥ 9223372036854775808)) = true then m % 18446744073709551616 - 18446744073709551616 else m % 18446744073709551616) = _
 simp
theorem c4E (hG : Glob gH H) (x : Nat) (h0 : x ≠ 0) (h1 : x < 18446744073709551616) : Fn prog 122 [.int .u64 x] H fun r H' => r = I (ctz x) ∧ St prog H H' [] := by
 obtain ⟨c1, _, _⟩ := a3v h0 h1
 have hd := dx.1 c5a (ctz x) (dw.2 c1)
 rw [cW, decide_eq_true_eq, decide_eq_true_eq] at hd
 have eA : IntKind.wrap .u64 (0 - (x : Int)) = ((18446744073709551616 - x : Nat) : Int) := by
  rw [a9j]
  omega
 have eB : IntKind.wrap .u64 ((BitVec.ofInt (IntKind.bits .u64) (x : Int) &&& BitVec.ofInt (IntKind.bits .u64) ((18446744073709551616 - x : Nat) : Int)).toNat : Int) = ((2 ^ ctz x : Nat) : Int) := by
  rw [gL, vG x h1, vG _ (by omega), c0X h0 h1]
  exact nB _ (by omega) (by have := a6n (ctz x) c1; omega)
 have eC : IntKind.wrap .u64 (((2 ^ ctz x : Nat) : Int) * 285870213051353865) = ((2 ^ ctz x * 285870213051353865 % 18446744073709551616 : Nat) : Int) := by
  rw [a9j]
  rfl
 have eD : ((2 ^ ctz x * 285870213051353865 % 18446744073709551616 : Nat) : Int).fdiv (2 ^ min 58 (IntKind.bits .u64)) = ((2 ^ ctz x * 285870213051353865 % 18446744073709551616 / 288230376151711744 : Nat) : Int) := by
  rw [show (2 : Int) ^ min 58 (IntKind.bits .u64) = ((288230376151711744 : Nat) : Int) from rfl]
  exact gD _ (by omega)
 have hd1 := hd.1
 have hd2 := hd.2
 generalize 2 ^ ctz x * 285870213051353865 % 18446744073709551616 / 288230376151711744 = i at eD hd1 hd2
 refine .aP func122 rfl (by kernel_rfl) (m := 14) rfl fun l hn g0 => ?_
 have iR := gld hG i hd1 (some 1)
 rw [show t64.getD i 0 = ctz x from by rw [← hd2, dc, dc, dq (show i < t64.length from hd1)]; rfl] at iR
 have hidx := c2m .u64 (i : Int) (by omega) (by omega)
 rw [dJ, Nat.mul_one, fJ] at hidx
 simp (disch := omega) only [↓RA, RB, simprocAttr, hn, g0]
 refine iA (fun q => ?_) (fun q => ?_)
 ·exfalso; omega
 simp (disch := omega) only [↓RA, RZ, simprocAttr, hn, g0, c6x, eA, eB, eC, eD, b3X, iR, hidx, q]
 first | exact (sR H) | exact ⟨rfl, (sR H)⟩
theorem a6i {x : Nat} (h0 : x ≠ 0) (h1 : x < 18446744073709551616) (j : Nat) : (x &&& (x - 1)).testBit j = (x.testBit j && !decide (j = ctz x)) := by
 obtain ⟨m, hm⟩ := a4i h0 h1
 generalize ctz x = k at hm
 have hp : 0 < 2 ^ k := Nat.two_pow_pos k
 have e1 : x = 2 ^ (k + 1) * m + 2 ^ k := by rw [hm, Nat.pow_succ, Nat.mul_add, Nat.mul_one, Nat.mul_assoc]
 have e2 : x - 1 = 2 ^ (k + 1) * m + (2 ^ k - 1) := by omega
 have hl : 2 ^ k < 2 ^ (k + 1) := Nat.pow_lt_pow_right (by decide) (by omega)
 rw [Nat.testBit_and, e2]
 rw [e1, Nat.testBit_two_pow_mul_add m hl, Nat.testBit_two_pow_mul_add m (by omega : 2 ^ k - 1 < 2 ^ (k + 1))]
 by_cases hj : j < k + 1
 ·rw [if_pos hj, if_pos hj, gg, Nat.testBit_two_pow_sub_one]
  by_cases he : j = k
  ·simp [he]
  ·simp [show ¬ k = j by omega]
 ·rw [if_neg hj, if_neg hj, show decide (j = k) = false from decide_eq_false (by omega)]
  simp
theorem b2G {x : Nat} (h0 : x ≠ 0) (h1 : x < 18446744073709551616) : pF x = ctz x :: pF (x &&& (x - 1)) := by
 obtain ⟨c1, c2, c3⟩ := a3v h0 h1
 have hb := a6i h0 h1
 generalize ctz x = k at c1 c2 c3 hb
 obtain ⟨t, ht⟩ := a7d c1
 have hnd : (List.range 64).Nodup := List.nodup_range
 unfold pF
 rw [ht, eQ, eQ, List.filter_cons_of_pos (by simpa using c2), List.filter_cons_of_neg (by rw [hb]; simp)]
 rw [ht] at hnd
 have e1 : (List.range k).filter (fun i => x.testBit i) = [] := List.filter_eq_nil_iff.2 fun i hi => by simpa using c3 i (dw.1 hi)
 have e2 : (List.range k).filter (fun i => (x &&& (x - 1)).testBit i) = [] := List.filter_eq_nil_iff.2 fun i hi => by rw [hb, c3 i (dw.1 hi)]; simp
 rw [e1, e2, fj, fj]
 congr 1
 refine List.filter_congr fun i hi => ?_
 have hne : i ≠ k := fun e => by
  subst e
  exact (List.nodup_cons.1 (List.nodup_append.1 hnd).2.1).1 hi
 rw [hb, decide_eq_false hne]
 simp
theorem a9V : pF 0 = [] := List.filter_eq_nil_iff.2 fun i _ => by simp
def pW (x : Nt) : List Int := (pF x.1).map (fun (i : Nat) => (i : Int)) ++ (pF x.2).map fun (i : Nat) => 64 + (i : Int)
def a8a (x : Nt) (i : Nat) : Nat := if i = 0 then x.1 else x.2
def a5W (x : Nt) (i : Nat) : List Int := (pF (a8a x i)).map fun (j : Nat) => 64 * (i : Int) + (j : Int)
def a5v (x : Nt) (i : Nat) : List Int := (List.range i).flatMap (a5W x)
theorem a0v (x : Nt) (i : Nat) : a5v x (i + 1) = a5v x i ++ a5W x i := by
 unfold a5v
 rw [dY, dD, dA, ez, dm]
theorem a8O (x : Nt) : a5v x 2 = pW x := by
 rw [a0v, a0v]
 unfold pW a5v a5W a8a
 simp
theorem c0l {x : Nt} (hx : Nt.Ok x) (i : Nat) : a8a x i < 18446744073709551616 := by
 unfold a8a
 split
 ·exact hx.1
 ·exact hx.2
theorem c5D (a b : Int) : pN prog 215 (.agg #[.int .u64 a, .int .u64 b]) (I 0) = some (.int .u64 a) := by kernel_rfl
theorem c6R (a b : Int) : pN prog 215 (.agg #[.int .u64 a, .int .u64 b]) (I 1) = some (.int .u64 b) := by kernel_rfl
theorem c7E (x : Nt) (i : Nat) (h : i < 2) : a2D (oQ prog 215) prog 215 (.agg #[.int .u64 x.1, .int .u64 x.2]) (I i) = some (.int .u64 (a8a x i)) := by
 rw [← a7g]
 rcases (by omega : i = 0 ∨ i = 1) with rfl | rfl
 ·exact c5D _ _
 ·exact c6R _ _
theorem c2u (x : Nt) (hx : Nt.Ok x) (A : Nat) (f : Value) (J : List Int → Heap → Prop) (h0 : J [] H) (hg : ∀ d H1, J d H1 → Var H1 A 2 [.int .u64 x.1, .int .u64 x.2] ∧ Glob gH H1)
 (hst : ∀ d H1 H2, J d H1 → St prog H1 H2 [] → J d H2)
 (hf : ∀ d c e H1, pW x = d ++ c :: e → J d H1 → uN prog f [I c] H1 fun v H2 => v = .bool true ∧ J (d ++ [c]) H2) :
 FnS prog 121 [f, ptr A 0 2] H fun _ H' => J (pW x) H' := by
 have hV0 := (hg _ _ h0).1
 refine FnS.aX func121 rfl (by kernel_rfl) fun l hl => ?_
 have hn : l.length = 29 := by rw [hl]; rfl
 have g0 : get l 0 = f := by rw [hl]; rfl
 have g1 : get l 1 = (ptr A 0 2) := by rw [hl]; rfl
 clear hl
 simp (disch := omega) only [↓RA, RZ, simprocAttr, hn, g1, hV0.ld, b3v]
 refine Wp.ak (fun n l H' => l.length = 29 ∧ get l 0 = f ∧ get l 1 = ptr A 0 2 ∧ get l 9 = .agg #[.int .u64 x.1, .int .u64 x.2] ∧ ∃ i : Nat, n + i = 2 ∧ get l 10 = I i ∧ J (a5v x i) H') 2 ?_ ?_
 ·simp (disch := omega) only [RB, RC, simprocAttr, hn, g0, g1]
  exact ⟨0, rfl, rfl, h0⟩
 rintro n l H9 ⟨hn, g0, g1, g9, i, hi, nV, hJ⟩
 simp (disch := omega) only [↓RA, RB, simprocAttr, hn, nV]
 refine iA (fun q1 => ?_) (fun q1 => ?_)
 ·have hix := c7E x i (by omega)
  have hwl := c0l hx i
  simp (disch := omega) only [↓RA, RZ, simprocAttr, hn, g9, nV, q1, hix]
  refine Wp.ak (fun n2 l H' => l.length = 29 ∧ get l 0 = f ∧ get l 1 = ptr A 0 2 ∧ get l 9 = .agg #[.int .u64 x.1, .int .u64 x.2] ∧ get l 10 = I i ∧ get l 3 = I i ∧ ∃ (y : Nat) (d : List Nat), (n2 = (pF y).length ∧ y < 18446744073709551616 ∧ pF (a8a x i) = d ++ pF y) ∧ get l 4 = .int .u64 y ∧ J (a5v x i ++ d.map fun (j : Nat) => 64 * (i : Int) + (j : Int)) H') (pF (a8a x i)).length ?_ ?_
  ·simp (disch := omega) only [RB, RC, simprocAttr, hn, g0, g1, g9, nV]
   exact ⟨a8a x i, [], ⟨rfl, hwl, rfl⟩, rfl, by rw [gp, dm]; exact hJ⟩
  rintro n2 l H8 ⟨hn, g0, g1, g9, nV, g3, y, d, ⟨hn2, hy, hbd⟩, g4, hJ2⟩
  simp (disch := omega) only [↓RA, RB, simprocAttr, hn, g4]
  refine iA (fun q2 => ?_) (fun q2 => ?_)
  ·have hy0 : y ≠ 0 := by omega
   have hc := a3v hy0 hy
   have hlow := b2G hy0 hy
   have hGl := (hg _ _ hJ2).2
   have eY1 : IntKind.wrap .u64 ((y : Int) - 1) = ((y - 1 : Nat) : Int) := by
    rw [a9j]
    omega
   have eY2 : IntKind.wrap .u64 ((BitVec.ofInt (IntKind.bits .u64) (y : Int) &&& BitVec.ofInt (IntKind.bits .u64) ((y - 1 : Nat) : Int)).toNat : Int) = ((y &&& (y - 1) : Nat) : Int) := by
    rw [gL, vG y hy, vG _ (by omega)]
    have := Nat.and_le_left (n := y) (m := y - 1)
    exact nB _ (by omega) (by omega)
   have hyl : y &&& (y - 1) < 18446744073709551616 := Nat.lt_of_le_of_lt Nat.and_le_left hy
   have hmem : pW x = (a5v x i ++ d.map fun (j : Nat) => 64 * (i : Int) + (j : Int)) ++ (64 * (i : Int) + (ctz y : Int)) :: ((pF (y &&& (y - 1))).map (fun (j : Nat) => 64 * (i : Int) + (j : Int)) ++ ((List.range 2).drop (i + 1)).flatMap (a5W x)) := by
    rw [← a8O]
    unfold a5v
    have e : List.range 2 = List.range i ++ i :: (List.range 2).drop (i + 1) := by
     rcases (by omega : i = 0 ∨ i = 1) with rfl | rfl <;> rfl
    rw [congrArg (List.flatMap (a5W x)) e, dD, dA]
    rw [show a5W x i = (d ++ pF y).map (fun (j : Nat) => 64 * (i : Int) + (j : Int)) from by unfold a5W; rw [hbd]]
    rw [hlow, dQ, ew]
    simp only [ed, gI]
   have hc1 := hc.1
   simp (disch := omega) only [↓RA, RZ, simprocAttr, hn, g0, g3, g4, q2]
   refine (sR H8).cF (c4E ((sR H8).gl hGl) y hy0 hy) fun H1 hS1 => ?_
   simp (disch := omega) only [↓RA, RZ, simprocAttr, hn, q2]
   refine b0c (hf _ _ _ _ hmem (hst _ _ _ hJ2 hS1)) ?_
   rintro r H10 ⟨rfl, hJ3⟩
   simp (disch := omega) only [↓RA, RZ, simprocAttr, hn, g0, g1, g9, nV, g3, g4, q2, eY1, eY2]
   refine ⟨(pF (y &&& (y - 1))).length, by rw [hn2, hlow]; simp, y &&& (y - 1), d ++ [ctz y], ⟨rfl, hyl, by rw [hbd, hlow]; simp⟩, rfl, ?_⟩
   rw [dQ, ew, gp, ← ed]
   exact hJ3
  simp (disch := omega) only [↓RA, RZ, simprocAttr, hn, g0, g1, g9, nV, q2]
  have hy0 : y = 0 := by omega
  subst hy0
  refine ⟨n - 1, by omega, i + 1, by omega, by simp, ?_⟩
  rw [a0v]
  have : a5W x i = d.map fun (j : Nat) => 64 * (i : Int) + (j : Int) := by
   unfold a5W
   rw [hbd, a9V, dm]
  rw [this]
  exact hJ2
 simp (disch := omega) only [↓RA, RZ, simprocAttr, c5J, q1]
 have e : i = 2 := by omega
 subst e
 rw [← a8O]
 exact hJ
theorem a3a (x : Nt) : (pW x).length ≤ 128 := by
 unfold pW
 rw [dp, ef, ef]
 have h1 := a7J x.1 64
 have h2 := a7J x.2 64
 unfold b5j at h1 h2
 unfold pF
 omega
theorem b3Y (hG : Glob gH H) (x : Nt) (hx : Nt.Ok x) (A : Nat) (hA : Var H A 2 [.int .u64 x.1, .int .u64 x.2]) :
 Fn prog 120 [.slice none 0 0, .func (.func 121) #[] #[ptr A 0 2]] H fun r H' => St prog H H' [⟨r, 1, (pW x).flatMap (one I)⟩] := by
 refine .aF func120 rfl (by kernel_rfl) (m := 13) rfl fun l hn g0 g1 => ?_
 simp (disch := omega) only [↓RA, RB, simprocAttr, g0]
 refine (sR H).eNew 1 [(.slice none 0 0)] rfl rfl rfl b4A fun A1 H1 hS1 => ?_
 simp only [RT] at hS1
 simp (disch := omega) only [↓RA, RB, simprocAttr, g1]
 have hS2 := hS1.nil 0
 simp only [RT] at hS2
 refine Wp.cG fun lrg1 hlrg1 => ?_
 have hnrg1 : lrg1.length = 13 := by rw [hlrg1]; simp (disch := omega) only [RB, simprocAttr, hn]
 have g2rg1 : get lrg1 2 = (ptr A1 0 1) := by rw [hlrg1]; simp (disch := omega) only [RB, simprocAttr, hn]
 have g4rg1 : get lrg1 4 = (.slice none 0 0) := by rw [hlrg1]; simp (disch := omega) only [RB, simprocAttr, hn]
 have gfrg1 : get lrg1 6 = .func (.func 121) #[] [(ptr A 0 2)].toArray := by rw [hlrg1]; simp (disch := omega) only [RB, simprocAttr, hn]
 clear hlrg1
 refine Wp.ch gfrg1 fun rg1 hstrg1 hpdrg1 htmrg1 hpsrg1 hasrg1 hbdrg1 => ?_
 have hreqrg1 : ({ rg1 with state := .ready, pending := none } : Loop) = rg1 := by
  cases rg1
  simp only at hstrg1 hpdrg1
  subst hstrg1 hpdrg1
  rfl
 have hLprg1 := Lp.enter hS2 rg1
 generalize H1.cons (.loop rg1) = Hcrg1 at hLprg1 ⊢
 generalize H1.length = Lrg1 at hLprg1 ⊢
 refine (c2u x hx A (.func (.yield Lrg1) #[] #[]) (fun d H1 => ∃ ow, Lp prog H Lrg1 rg1 H1 [⟨ptr A1 0 1, 0, [ow]⟩, ⟨ow, 1, d.flatMap (one I)⟩]) ⟨.slice none 0 0, hLprg1⟩ ?_ ?_ ?_).mono ?_
 ·rintro d H1 ⟨ow, h⟩
  exact ⟨hA.ab h.st.ab, h.st.gl hG⟩
 ·rintro d H1 H2 ⟨ow, h⟩ hS
  exact ⟨ow, by simpa using h.ext hS⟩
 ·rintro d c e H20 hm ⟨ow, hLpj⟩
  have hml := a3a x
  have hdl : d.length < 128 := by
   rw [hm, dp, dU] at hml
   omega
  refine a1j hLpj.get (by rw [hpsrg1]; rfl) hstrg1 ?_
  refine Wp.bP (l := put lrg1 (some 7) (I c)) hasrg1 (by rw [hpsrg1, htmrg1]; first | exact (nI ..).symm | rfl | simp [put, nI]) ?_
  simp (disch := omega) only [↓RA, RZ, simprocAttr, hnrg1]
  refine ⟨rg1, hLpj.get, hstrg1, ?_⟩
  have hYBs1 := hLpj.set (fun h => h) { rg1 with state := .busy }
  have hKBs1 : ∀ B, B ≠ Lrg1 → iR (hset H20 Lrg1 (.loop { rg1 with state := .busy })) B = iR H20 B := fun B h => iZ _ (eY h)
  have hNBs1 : (hset H20 Lrg1 (.loop { rg1 with state := .busy })).length = H20.length := jQ ..
  generalize hset H20 Lrg1 (.loop { rg1 with state := .busy }) = HBs1 at hYBs1 hKBs1 hNBs1 ⊢
  refine Wp.bP hbdrg1 rfl ?_
  have hZBs1 := hYBs1.st
  obtain ⟨Bs1, hBBs1, hS3⟩ := hZBs1.aC (os := [⟨ptr A1 0 1, 0, _⟩, ⟨ow, 1, _⟩])
  simp (disch := omega) only [↓RA, RZ, simprocAttr, hnrg1, g2rg1, hS3.ld 0 rfl]
  refine hS3.ai [I c] zQ a2c rfl rfl (by simp [Value.cells]) rfl rfl (by decide) (by decide) fun w1 H2 hS4 => ?_
  simp only [RT] at hS4
  simp (disch := omega) only [↓RA, RZ, simprocAttr, hnrg1]
  refine hS4.aq 1 rfl (hS4.rd 2 rfl) zQ (by rw [pX, ef]; simp; omega) fun w2 H3 hS5 => ?_
  simp only [RT] at hS5
  simp (disch := omega) only [↓RA, RB, simprocAttr, hnrg1, g2rg1]
  refine hS5.aa 0 rfl [w2] (by rw [(hS5.rd 1 rfl).cells.1]) (by simp [(hS5.rd 1 rfl).cells.2.1]) b4A (by simp) fun H4 hS6 => ?_
  simp only [RT] at hS6
  simp (disch := omega) only [↓RA, simprocAttr]
  have hS7 := hS6.pick (os' := [⟨ptr A1 0 1, 0, _⟩, ⟨w2, 1, _⟩]) [0, 1] (by decide) rfl
  have hWBs1 := (hYBs1.body (hBBs1 ▸ hS7)).set (fun h => h) rg1
  rw [← hreqrg1] at hWBs1
  refine ⟨_, (hYBs1.body (hBBs1 ▸ hS7)).get, rfl, w2, ?_⟩
  rw [dD]
  exact hreqrg1 ▸ hWBs1
 ·rintro _ H21 ⟨ow, hLp2⟩
  refine ⟨_, hLp2.get, (by rw [hstrg1]; exact fun h => by cases h), fun _ => ?_, fun c hc => by rw [hpdrg1] at hc; cases hc⟩
  have hAAf1 := (hLp2.set (fun h => h) { rg1 with state := .exhausted }).st
  have hKAf1 : ∀ B, B ≠ Lrg1 → iR (hset H21 Lrg1 (.loop { rg1 with state := .exhausted })) B = iR H21 B := fun B h => iZ _ (eY h)
  generalize hset H21 Lrg1 (.loop { rg1 with state := .exhausted }) = HAf1 at hAAf1 hKAf1 ⊢
  simp (disch := omega) only [↓RA, RZ, simprocAttr, hnrg1, g2rg1, hAAf1.ld 0 rfl, c5R]
  exact hAAf1.pick [1] (by decide) rfl
theorem a9y (hG : Glob gH H) (x : Nt) (hx : Nt.Ok x) (A : Nat) (hA : Var H A 2 [.int .u64 x.1, .int .u64 x.2]) :
 Fn prog 90 [.func (.func 121) #[] #[ptr A 0 2]] H fun r H' => St prog H H' [⟨r, 1, (pW x).flatMap (one I)⟩] := by
 refine .aP func90 rfl (by kernel_rfl) (m := 5) rfl fun l hn g0 => ?_
 simp (disch := omega) only [↓RA, RZ, simprocAttr, hn, g0]
 refine iG ((b3Y ((sR H).gl hG) x hx A (hA.ab (sR H).ab)).tr) ?_
 rintro r H1 ⟨-, hT1⟩
 have hS1 := (sR H).trans hT1
 simp only [RT] at hS1
 simp (disch := omega) only [↓RA, RB, simprocAttr, hn, c7s]
 exact hS1
theorem c0e (x : Nt) : Fn prog 91 [.agg #[.int .u64 x.1, .int .u64 x.2]] H fun r H' => ∃ A, r = .func (.func 121) #[] #[ptr A 0 2] ∧ St prog H H' [⟨ptr A 0 2, 0, [.int .u64 x.1, .int .u64 x.2]⟩] := by
 refine .aP func91 rfl (by kernel_rfl) (m := 4) rfl fun l hn g0 => ?_
 simp (disch := omega) only [↓RA, RB, simprocAttr, g0]
 refine (sR H).eNew 2 [(.int .u64 x.1), (.int .u64 x.2)] rfl rfl rfl kX fun A1 H1 hS1 => ?_
 simp only [RT] at hS1
 simp (disch := omega) only [↓RA, RZ, simprocAttr, hn, c8a]
 exact ⟨A1, rfl, hS1⟩
theorem a8V (hG : Glob gH H) (x : Nt) (hx : Nt.Ok x) :
 Fn prog 58 [.agg #[.int .u64 x.1, .int .u64 x.2]] H fun r H' => St prog H H' [⟨r, 1, (pW x).flatMap (one I)⟩] := by
 refine .aP func58 rfl (by kernel_rfl) (m := 6) rfl fun l hn g0 => ?_
 simp (disch := omega) only [↓RA, RB, simprocAttr, g0]
 refine (sR H).eNew 2 [(.int .u64 x.1), (.int .u64 x.2)] rfl rfl rfl kX fun A1 H1 hS1 => ?_
 simp only [RT] at hS1
 simp (disch := omega) only [↓RA, RZ, simprocAttr, hn, hS1.ae 0 rfl]
 refine iG (c0e x) ?_
 rintro r H2 ⟨A2, rfl, hT1⟩
 have hS2 := hS1.trans hT1
 simp only [RT] at hS2
 simp (disch := omega) only [↓RA, RZ, simprocAttr, hn]
 refine iG ((a9y (hS2.gl hG) x hx A2 (hS2.var 1 rfl)).tr) ?_
 rintro r H3 ⟨-, hT2⟩
 have hS3 := hS2.trans hT2
 simp only [RT] at hS3
 simp (disch := omega) only [↓RA, RB, simprocAttr, hn, c8m]
 exact hS3.pick [2] (by decide) rfl
def a8L (a b : Nat) : Nat := (BitVec.ofNat 64 a &&& ~~~ BitVec.ofNat 64 b).toNat
theorem a5X (a b : Nat) : a8L a b < 18446744073709551616 := (BitVec.ofNat 64 a &&& ~~~ BitVec.ofNat 64 b).isLt
theorem c1k (a b : Nat) : IntKind.wrap .u64 ((BitVec.ofInt (IntKind.bits .u64) (a : Int) &&& ~~~ BitVec.ofInt (IntKind.bits .u64) (b : Int)).toNat : Int) = ((a8L a b : Nat) : Int) := by
 have e : (BitVec.ofInt (IntKind.bits .u64) (a : Int) &&& ~~~ BitVec.ofInt (IntKind.bits .u64) (b : Int)).toNat = a8L a b := by
  unfold a8L
  rw [fU, fU]
  rfl
 rw [e]
 have := a5X a b
 exact nB _ (by omega) (by omega)
theorem a8I (a b j : Nat) (ha : a < 18446744073709551616) (hj : j < 64) : (a8L a b).testBit j = (a.testBit j && !b.testBit j) := by
 unfold a8L
 have h1 : (BitVec.ofNat 64 a &&& ~~~ BitVec.ofNat 64 b).toNat.testBit j = (BitVec.ofNat 64 a &&& ~~~ BitVec.ofNat 64 b).getLsbD j := rfl
 rw [h1, BitVec.getLsbD_and, BitVec.getLsbD_not, BitVec.getLsbD_ofNat, BitVec.getLsbD_ofNat]
 simp [hj]
def woF (x y : Nt) : Nt := (a8L x.1 y.1, a8L x.2 y.2)
theorem c2R (x y : Nt) : Nt.Ok (woF x y) := ⟨a5X _ _, a5X _ _⟩
theorem c3y (x y : Nt) : Fn prog 92 [.agg #[.int .u64 x.1, .int .u64 x.2], .agg #[.int .u64 y.1, .int .u64 y.2]] H fun r H' => r = .agg #[.int .u64 (woF x y).1, .int .u64 (woF x y).2] ∧ St prog H H' [] := by
 have e1 := c1k x.1 y.1
 have e2 := c1k x.2 y.2
 refine .aF func92 rfl (by kernel_rfl) (m := 16) rfl fun l hn g0 g1 => ?_
 simp (disch := omega) only [↓RA, RB, simprocAttr, g0]
 refine (sR H).eNew 2 [(.int .u64 x.1), (.int .u64 x.2)] rfl rfl rfl kX fun A1 H1 hS1 => ?_
 simp only [RT] at hS1
 simp (disch := omega) only [↓RA, RB, simprocAttr, g1]
 refine hS1.eNew 2 [(.int .u64 y.1), (.int .u64 y.2)] rfl rfl rfl kX fun A2 H2 hS2 => ?_
 simp only [RT] at hS2
 simp (disch := omega) only [↓RA, RZ, simprocAttr]
 refine hS2.eNew 2 [(.int .u64 0), (.int .u64 0)] rfl rfl rfl kX fun A3 H3 hS3 => ?_
 simp only [RT] at hS3
 simp (disch := omega) only [↓RA, RZ, simprocAttr, hn, hS3.ld 0 rfl, hS3.ld 1 rfl, b2w, e1, e2]
 refine hS3.aa 2 rfl [_, _] rfl rfl kX (by simp) fun H4 hS4 => ?_
 simp only [RT] at hS4
 simp (disch := omega) only [↓RA, RZ, simprocAttr, hn, c8l, hS4.ae 2 rfl]
 exact ⟨rfl, hS4.forget⟩
theorem a9S (x y : Nt) : Fn prog 59 [.agg #[.int .u64 x.1, .int .u64 x.2], .agg #[.int .u64 y.1, .int .u64 y.2]] H fun r H' => r = .bool (decide (woF x y = (0, 0))) ∧ St prog H H' [] := by
 refine .aF func59 rfl (by kernel_rfl) (m := 10) rfl fun l hn g0 g1 => ?_
 simp (disch := omega) only [↓RA, RB, simprocAttr, g0]
 refine (sR H).eNew 2 [(.int .u64 x.1), (.int .u64 x.2)] rfl rfl rfl kX fun A1 H1 hS1 => ?_
 simp only [RT] at hS1
 simp (disch := omega) only [↓RA, RB, simprocAttr, g1]
 refine hS1.eNew 2 [(.int .u64 y.1), (.int .u64 y.2)] rfl rfl rfl kX fun A2 H2 hS2 => ?_
 simp only [RT] at hS2
 simp (disch := omega) only [↓RA, RZ, simprocAttr, hn, hS2.ae 0 rfl, hS2.ae 1 rfl]
 refine hS2.cF (c3y x y) fun H3 hS3 => ?_
 simp (disch := omega) only [↓RA, RZ, simprocAttr, hn, a9Q, c7d]
 refine ⟨?_, hS3.forget⟩
 congr 1
 rw [decide_eq_decide]
 constructor
 ·rintro ⟨h1, h2⟩
  exact fT (by simpa using h1) (by simpa using h2)
 ·intro h
  rw [h]
  exact ⟨rfl, rfl⟩
def sI (lo hi : Int) : Nt := jF ((List.range (hi - lo + 1).toNat).map fun (k : Nat) => lo + (k : Int))
theorem a4q (lo hi : Int) (h0 : 0 ≤ lo) (h1 : lo ≤ hi) (h2 : hi ≤ 127) : Fn prog 50 [.agg #[I lo, I hi]] H fun r H' => r = .tuple #[.agg #[.int .u64 (sI lo hi).1, .int .u64 (sI lo hi).2], I 0] ∧ St prog H H' [] := by
 have hce : rE lo hi = 0 := by
  unfold rE
  rw [if_neg (by omega), if_neg (by omega)]
 refine .aP func50 rfl (by kernel_rfl) (m := 25) rfl fun l hn g0 => ?_
 simp (disch := omega) only [↓RA, RB, simprocAttr, g0]
 refine (sR H).eNew 2 [I lo, I hi] rfl rfl rfl a1D fun A1 H1 hS1 => ?_
 simp only [RT] at hS1
 simp (disch := omega) only [↓RA, RZ, simprocAttr]
 refine hS1.eNew 2 [(.int .u64 0), (.int .u64 0)] rfl rfl rfl kX fun A2 H2 hS2 => ?_
 simp only [RT] at hS2
 simp (disch := omega) only [↓RA, RZ, simprocAttr]
 refine hS2.eNew 2 [(.int .u64 0), (.int .u64 0)] rfl rfl rfl kX fun A3 H3 hS3 => ?_
 simp only [RT] at hS3
 simp (disch := omega) only [↓RA, RZ, simprocAttr, hn, hS3.ae 0 rfl]
 refine hS3.cF (a1J lo hi) fun H4 hS4 => ?_
 rw [hce]
 simp (disch := omega) only [↓RA, RZ, simprocAttr, hn, hS4.ld 0 rfl]
 refine Wp.ak (fun n l H' => l.length = 25 ∧ get l 1 = (ptr A1 0 2) ∧ get l 2 = (ptr A2 0 2) ∧ get l 3 = I 0 ∧ get l 4 = (ptr A3 0 2) ∧ ∃ (j : Nat), (n + j = (hi - lo + 1).toNat) ∧ get l 6 = I (lo + (j : Int)) ∧ St prog H H' [⟨ptr A1 0 2, 0, [I lo, I hi]⟩, ⟨ptr A2 0 2, 0, [(.int .u64 0), (.int .u64 0)]⟩, ⟨ptr A3 0 2, 0, [.int .u64 (jF ((List.range j).map fun (k : Nat) => lo + (k : Int))).1, .int .u64 (jF ((List.range j).map fun (k : Nat) => lo + (k : Int))).2]⟩]) (hi - lo + 1).toNat ?_ ?_
 ·simp (disch := omega) only [RB, RC, simprocAttr, hn]
  exact ⟨0, by omega, by simp, hS4⟩
 rintro n l H5 ⟨hn, g1, g2, g3, g4, j, hj, g6, hS5⟩
 simp (disch := omega) only [↓RA, RZ, simprocAttr, hn, g1, g6, hS5.ld 0 rfl]
 refine iA (fun q1 => ?_) (fun q1 => ?_)
 ·have hok : Nt.Ok (jF ((List.range j).map fun (k : Nat) => lo + (k : Int))) := qT _ _ (fun z h => by
   obtain ⟨k, hk, rfl⟩ := dz.1 h
   have := dw.1 hk
   exact ⟨by omega, by omega⟩) ⟨by decide, by decide⟩
  have hsu : jF ((List.range (j + 1)).map fun (k : Nat) => lo + (k : Int)) = rG (jF ((List.range j).map fun (k : Nat) => lo + (k : Int))) (lo + (j : Int)) := by
   unfold jF
   rw [dY, dQ, fz]
   rfl
  simp (disch := omega) only [↓RA, RZ, simprocAttr, hn, g4, g6, hS5.ae 2 rfl, q1]
  refine hS5.cF (a6O (jF ((List.range j).map fun (k : Nat) => lo + (k : Int))) hok (lo + (j : Int)) (by omega) (by omega)) fun H6 hS6 => ?_
  simp (disch := omega) only [↓RA, RZ, simprocAttr, hn, g4, q1]
  refine hS6.aa 2 rfl [(.int .u64 (rG (jF ((List.range j).map fun (k : Nat) => lo + (k : Int))) (lo + (j : Int))).1), (.int .u64 (rG (jF ((List.range j).map fun (k : Nat) => lo + (k : Int))) (lo + (j : Int))).2)] rfl rfl kX (by simp) fun H7 hS7 => ?_
  simp only [RT] at hS7
  simp (disch := omega) only [↓RA, RZ, simprocAttr, hn, g1, g2, g3, g4, g6, q1]
  refine ⟨n - 1, by omega, j + 1, by omega, by congr 1; omega, ?_⟩
  rw [hsu]
  exact hS7.pick [0, 1, 2] (by decide) rfl
 have hjj : j = (hi - lo + 1).toNat := by omega
 simp (disch := omega) only [↓RA, RZ, simprocAttr, hn, g2, g4, hS5.ae 2 rfl, q1]
 refine hS5.aa 1 rfl [(.int .u64 (jF ((List.range j).map fun (k : Nat) => lo + (k : Int))).1), (.int .u64 (jF ((List.range j).map fun (k : Nat) => lo + (k : Int))).2)] rfl rfl kX (by simp) fun H8 hS8 => ?_
 simp only [RT] at hS8
 simp (disch := omega) only [↓RA, RZ, simprocAttr, hn, g2, c7w, hS8.ae 1 rfl, q1]
 rw [hjj]
 exact ⟨rfl, hS8.forget⟩
structure Ks (H : Heap) (kv : Value) (ks : List Nt) : Prop where
 sl : Sl 2 yI H kv ks
 len : ks.length < 1000000000
 ok : ∀ x ∈ ks, Nt.Ok x
theorem Ks.ab {P : Program} {H' : Heap} {kv : Value} {ks : List Nt} {os : List Ob} (h : Ks H kv ks) (hS : St P H H' os) : Ks H' kv ks := ⟨hS.sl h.sl, h.len, h.ok⟩
def lW (o : Org) (ks : List Nt) : Int := if organE o ≠ 0 then organE o else if ks.length ≠ o.dvs.length then 5 else if ∃ j, j < o.dvs.length ∧ woF (iB ks j) (sI (iB o.dvs j).lo (iB o.dvs j).hi) ≠ (0, 0) then 23 else 0
theorem a7K (o : Org) (ho : o.In H) (kv : Value) (ks : List Nt) (hk : Ks H kv ks) : Fn prog 34 [.agg #[.string o.name, o.rv, o.dv, o.cv], kv] H fun r H' => r = I (lW o ks) ∧ St prog H H' [] := by
 have hkl := hk.len
 have hdl := ho.2.2.2.2.2.2.1
 refine .aF func34 rfl (by kernel_rfl) (m := 43) rfl fun l hn g0 g1 => ?_
 simp (disch := omega) only [↓RA, RB, simprocAttr, g0]
 refine (sR H).eNew 4 [(.string o.name), o.rv, o.dv, o.cv] rfl rfl (by simp [OC, ((sR H).sl ho.1).cells.2.1, ((sR H).sl ho.2.2.1).cells.2.1, ((sR H).sl ho.2.2.2.2.1).cells.2.1]) lP fun A1 H1 hS1 => ?_
 simp only [RT] at hS1
 simp (disch := omega) only [↓RA, RZ, simprocAttr, hn, hS1.ae 0 rfl]
 refine hS1.cF (yR o (ho.ab hS1)) fun H2 hS2 => ?_
 simp (disch := omega) only [↓RA, RB, simprocAttr, hn]
 refine iA (fun h1 => ?_) (fun h1 => ?_)
 ·simp (disch := omega) only [↓RA, RZ, simprocAttr, hn, b9Y, h1]
  exact ⟨by unfold lW; rw [if_pos h1], hS2.forget⟩
 have hz : organE o = 0 := du.1 h1
 have hf := Org.aH hz
 simp (disch := omega) only [↓RA, RZ, simprocAttr, hn, g1, (hS2.sl hk.sl).len, hS2.ld 0 rfl, (hS2.sl ho.2.2.1).len, h1]
 refine iA (fun h2 => ?_) (fun h2 => ?_)
 ·simp (disch := omega) only [↓RA, RZ, simprocAttr, hn, b9Y, h1, h2]
  exact ⟨by unfold lW; rw [if_neg h1, if_pos (by omega)], hS2.forget⟩
 have hlen : ks.length = o.dvs.length := by omega
 simp (disch := omega) only [↓RA, RZ, simprocAttr, hn, hS2.ld 0 rfl, (hS2.sl ho.2.2.1).len, h1, h2]
 refine Wp.ak (fun n l H' => l.length = 43 ∧ get l 1 = kv ∧ get l 22 = o.dv ∧ get l 23 = I o.dvs.length ∧ ∃ (j : Nat), (n + j = o.dvs.length ∧ ∀ q, q < j → woF (iB ks q) (sI (iB o.dvs q).lo (iB o.dvs q).hi) = (0, 0)) ∧ get l 24 = I j ∧ St prog H H' [⟨ptr A1 0 4, 0, [(.string o.name), o.rv, o.dv, o.cv]⟩]) o.dvs.length ?_ ?_
 ·simp (disch := omega) only [RB, RC, simprocAttr, hn, g1]
  exact ⟨0, ⟨by omega, fun q hq => absurd hq (dN _)⟩, rfl, hS2⟩
 rintro n l H3 ⟨hn, g1, g22, g23, j, ⟨hj,hq⟩, g24, hS3⟩
 simp (disch := omega) only [↓RA, RB, simprocAttr, hn, g23, g24]
 refine iA (fun h3 => ?_) (fun h3 => ?_)
 ·have hky := hf.keys j (by omega)
  simp (disch := omega) only [↓RA, RZ, simprocAttr, hn, g22, g24, (hS3.sl ho.2.2.1).idx, (hS3.sl ho.2.2.1).ae, Dvn.cells, h3]
  refine hS3.eNew 5 [(.string ⟨#[]⟩), (.bool false), I 0, I 0, (.slice none 0 0)] rfl rfl rfl uR fun A2 H4 hS4 => ?_
  simp only [RT] at hS4
  simp (disch := omega) only [↓RA, RZ, simprocAttr, hn, h3]
  refine hS4.aa 1 rfl [(.string (iB o.dvs j).name), (.bool (iB o.dvs j).pedal), I (iB o.dvs j).lo, I (iB o.dvs j).hi, (iB o.dvs j).sv] rfl (by simp [OC, (hS4.sl (ho.2.2.2.1 (iB o.dvs j) (iD (by omega))).1).cells.2.1]) uR (by simp) fun H5 hS5 => ?_
  simp only [RT] at hS5
  simp (disch := omega) only [↓RA, RZ, simprocAttr, hn, hS5.ae 1 rfl, h3]
  refine hS5.cF (a4q (iB o.dvs j).lo (iB o.dvs j).hi hky.1 hky.2.1 hky.2.2) fun H6 hS6 => ?_
  simp (disch := omega) only [↓RA, RZ, simprocAttr, hn, h3]
  refine hS6.eNew 2 [(.int .u64 0), (.int .u64 0)] rfl rfl rfl kX fun A3 H7 hS7 => ?_
  simp only [RT] at hS7
  simp (disch := omega) only [↓RA, RZ, simprocAttr, hn, h3]
  refine hS7.aa 2 rfl [(.int .u64 (sI (iB o.dvs j).lo (iB o.dvs j).hi).1), (.int .u64 (sI (iB o.dvs j).lo (iB o.dvs j).hi).2)] rfl rfl kX (by simp) fun H8 hS8 => ?_
  simp only [RT] at hS8
  simp (disch := omega) only [↓RA, RZ, simprocAttr, hn, h3]
  refine Wp.drw jZ (by kernel_rfl) ?_
  simp (disch := omega) only [↓RA, RZ, simprocAttr, hn, g1, (hS8.sl hk.sl).idx, (hS8.sl hk.sl).ae, yI, hS8.ae 2 rfl]
  refine hS8.cF (a9S (iB ks j) (sI (iB o.dvs j).lo (iB o.dvs j).hi)) fun H9 hS9 => ?_
  simp (disch := omega) only [↓RA, RB, simprocAttr, hn]
  refine jM (fun h4 => ?_) (fun h4 => ?_)
  ·have h5 : ¬ woF (iB ks j) (sI (iB o.dvs j).lo (iB o.dvs j).hi) = (0, 0) := by simpa using h4
   simp (disch := omega) only [↓RA, RB, simprocAttr, hn, b9Y, h4]
   exact ⟨by unfold lW; rw [if_neg h1, if_neg (by omega), if_pos ⟨j, by omega, h5⟩], hS9.forget⟩
  have h5 : woF (iB ks j) (sI (iB o.dvs j).lo (iB o.dvs j).hi) = (0, 0) := by simpa using h4
  simp (disch := omega) only [↓RA, RZ, simprocAttr, hn, g1, g22, g23, g24, h4]
  exact ⟨n - 1, by omega, j + 1, ⟨by omega, fun q hq' => by rcases dr.1 hq' with e | e; (· exact hq q e); (· rw [e]; exact h5)⟩, by simp, hS9.pick [0] (by decide) rfl⟩
 simp (disch := omega) only [↓RA, RZ, simprocAttr, hn, b9Y, h3]
 refine ⟨?_, hS3.forget⟩
 unfold lW
 rw [if_neg h1, if_neg (by omega), if_neg]
 rintro ⟨q, hq1, hq2⟩
 exact hq2 (hq q (by omega))
def plD (ks : List Nt) (i : Nat) : List Ct := (pW (iB ks i)).map fun z => ((i : Int), z)
def iF (ks : List Nt) : List Ct := (List.range ks.length).flatMap (plD ks)
theorem c2w (ks : List Nt) (i : Nat) : (plD ks i).length ≤ 128 := by
 unfold plD
 rw [ef]
 exact a3a _
theorem a8g (ks : List Nt) : ∀ i, ((List.range i).flatMap (plD ks)).length ≤ i * 128
 | 0 => by simp
 | i + 1 => by
   have := a8g ks i
   have := c2w ks i
   rw [dY, dD, dp, dA, ez, dm]
   omega
theorem a4O (hG : Glob gH H) (kv : Value) (ks : List Nt) (hk : Ks H kv ks) (h8 : ks.length ≤ 8) : Fn prog 74 [kv] H fun r H' => St prog H H' [⟨r, 2, pr (iF ks)⟩] := by
 refine .aP func74 rfl (by kernel_rfl) (m := 31) rfl fun l hn g0 => ?_
 simp (disch := omega) only [↓RA, RZ, simprocAttr, hn, g0, ((sR H).sl hk.sl).len]
 have hS1 := (sR H).nil 1
 simp only [RT] at hS1
 refine Wp.ak (fun n l H' => l.length = 31 ∧ get l 2 = (.slice none 0 0) ∧ get l 8 = kv ∧ get l 9 = I ks.length ∧ ∃ (i : Nat) (ov : Value), (n + i = ks.length) ∧ get l 10 = I i ∧ get l 3 = ov ∧ St prog H H' [⟨ov, 2, pr ((List.range i).flatMap (plD ks))⟩]) ks.length ?_ ?_
 ·simp (disch := omega) only [RB, RC, simprocAttr, hn]
  exact ⟨0, .slice none 0 0, by omega, rfl, rfl, hS1⟩
 rintro n l H1 ⟨hn, g2, g8, g9, i, ov, hi, nV, g3, hS2⟩
 simp (disch := omega) only [↓RA, RB, simprocAttr, hn, g9, nV]
 refine iA (fun q1 => ?_) (fun q1 => ?_)
 ·have hmo := hk.ok _ (iD (xs := ks) (j := i) (by omega))
  have hml := a3a (iB ks i)
  have hpl := a8g ks i
  simp (disch := omega) only [↓RA, RZ, simprocAttr, hn, g8, nV, (hS2.sl hk.sl).idx, (hS2.sl hk.sl).ae, yI, q1]
  refine hS2.eNew 2 [(.int .u64 0), (.int .u64 0)] rfl rfl rfl kX fun A1 H2 hS3 => ?_
  simp only [RT] at hS3
  simp (disch := omega) only [↓RA, RZ, simprocAttr, hn, q1]
  refine hS3.aa 1 rfl [(.int .u64 (iB ks i).1), (.int .u64 (iB ks i).2)] rfl rfl kX (by simp) fun H3 hS4 => ?_
  simp only [RT] at hS4
  simp (disch := omega) only [↓RA, RZ, simprocAttr, hn, hS4.ae 1 rfl, q1]
  refine iG ((a8V (hS4.gl hG) (iB ks i) hmo).tr) ?_
  rintro r H4 ⟨-, hT1⟩
  have hS5 := hS4.trans hT1
  simp only [RT] at hS5
  obtain ⟨mw, rfl⟩ : ∃ w, w = r := ⟨r, rfl⟩
  simp (disch := omega) only [↓RA, RZ, simprocAttr, hn, (hS5.aw 2 rfl (fun _ => rfl)).len, q1]
  refine Wp.ak (fun n l H' => l.length = 31 ∧ get l 2 = (.slice none 0 0) ∧ get l 4 = I i ∧ get l 8 = kv ∧ get l 9 = I ks.length ∧ get l 10 = I i ∧ get l 16 = mw ∧ get l 17 = I (pW (iB ks i)).length ∧ ∃ (j : Nat) (ow : Value), (n + j = (pW (iB ks i)).length) ∧ get l 18 = I j ∧ get l 3 = ow ∧ St prog H H' [⟨ow, 2, pr ((List.range i).flatMap (plD ks) ++ ((pW (iB ks i)).take j).map fun z => ((i : Int), z))⟩, ⟨ptr A1 0 2, 0, [(.int .u64 (iB ks i).1), (.int .u64 (iB ks i).2)]⟩, ⟨mw, 1, (pW (iB ks i)).flatMap (one I)⟩]) (pW (iB ks i)).length ?_ ?_
  ·simp (disch := omega) only [RB, RC, simprocAttr, hn, g2, g8, g9, nV, g3]
   refine ⟨0, ov, by omega, rfl, rfl, ?_⟩
   rw [List.take_zero, gp, dm]
   exact hS5
  rintro n l H5 ⟨hn, g2, g4, g8, g9, nV, g16, g17, j, ow, hj, g18, g3, hS6⟩
  simp (disch := omega) only [↓RA, RB, simprocAttr, hn, g17, g18]
  refine iA (fun q2 => ?_) (fun q2 => ?_)
  ·have hroom : (pr ((List.range i).flatMap (plD ks) ++ ((pW (iB ks i)).take j).map fun z => ((i : Int), z))).length ≤ 4000 := by
    rw [iJ, dp, ef, fL]
    omega
   simp (disch := omega) only [↓RA, RZ, simprocAttr, hn, g4, g16, g18, g3, (hS6.aw 2 rfl (fun _ => rfl)).idx, (hS6.aw 2 rfl (fun _ => rfl)).ld, one, qA, q2]
   refine hS6.ai [I i, I (iB (pW (iB ks i)) j)] qP a1Z rfl rfl (by simp [Value.cells]) rfl rfl (by decide) (by decide) fun w1 H6 hS7 => ?_
   simp only [RT] at hS7
   simp (disch := omega) only [↓RA, RZ, simprocAttr, hn, q2]
   refine hS7.aq 0 rfl (hS7.rd 3 rfl) qP (by have h := hroom; simp only [dU, eH]; omega) fun w2 H7 hS8 => ?_
   simp only [RT] at hS8
   simp (disch := omega) only [↓RA, RZ, simprocAttr, hn, g2, g4, g8, g9, nV, g16, g17, g18, q2]
   refine ⟨n - 1, by omega, j + 1, w2, by omega, by simp, rfl, ?_⟩
   rw [List.take_add_one, dq (by omega), Option.toList_some, dQ, ← ed, jJ]
   rw [show (pW (iB ks i))[j] = iB (pW (iB ks i)) j from (jL _ _ (by omega)).symm]
   exact hS8.pick [0, 1, 2] (by decide) rfl
  simp (disch := omega) only [↓RA, RZ, simprocAttr, hn, g2, g8, g9, nV, g3, q2]
  have hjj : j = (pW (iB ks i)).length := by omega
  refine ⟨ks.length - (i + 1), by omega, i + 1, ow, by omega, by simp, rfl, ?_⟩
  rw [dY, dD, dA, ez, dm]
  rw [show plD ks i = ((pW (iB ks i)).take j).map (fun z => ((i : Int), z)) from by rw [hjj, dS]; rfl]
  exact hS6.pick [0] (by decide) rfl
 have hii : i = ks.length := by omega
 simp (disch := omega) only [↓RA, RZ, simprocAttr, hn, g3, c7q, q1]
 have hfin := hS2
 rw [hii] at hfin
 exact hfin
end Go.Ds
namespace Go.Ds
open Go.Proofs
set_option maxRecDepth 10000
def nH (x : Nt) (z : Int) : Bool := if z < 64 then x.1.testBit z.toNat else x.2.testBit (z - 64).toNat
theorem sK {x i : Nat} : i ∈ pF x ↔ i < 64 ∧ x.testBit i = true := by
 unfold pF
 rw [eh, dw]
theorem vQ {x : Nt} {z : Int} : z ∈ pW x ↔ isN z ∧ nH x z = true := by
 unfold pW nH isN
 rw [dF, dz, dz]
 constructor
 ·rintro (⟨i, hi, rfl⟩ | ⟨i, hi, rfl⟩)
  ·obtain ⟨h1, h2⟩ := sK.1 hi
   exact ⟨by omega, by rw [if_pos (by omega)]; exact h2⟩
  ·obtain ⟨h1, h2⟩ := sK.1 hi
   refine ⟨by omega, ?_⟩
   rw [if_neg (by omega), show (64 + (i : Int) - 64).toNat = i by omega]
   exact h2
 ·rintro ⟨h1, h2⟩
  by_cases h : z < 64
  ·rw [if_pos h] at h2
   exact .inl ⟨z.toNat, sK.2 ⟨by omega, h2⟩, by omega⟩
  ·rw [if_neg h] at h2
   exact .inr ⟨(z - 64).toNat, sK.2 ⟨by omega, h2⟩, by omega⟩
theorem b4J (x : Nt) (n z : Int) (hn : isN n) (hz : isN z) : nH (rG x n) z = (nH x z || decide (z = n)) := by
 unfold nH rG isN at *
 by_cases h1 : n < 64
 ·rw [if_pos h1]
  by_cases h2 : z < 64
  ·rw [if_pos h2, if_pos h2, Nat.testBit_or, gg]
   congr 1
   rw [decide_eq_decide]
   omega
  ·rw [if_neg h2, if_neg h2, decide_eq_false (by omega), Bool.or_false]
 ·rw [if_neg h1]
  by_cases h2 : z < 64
  ·rw [if_pos h2, if_pos h2, decide_eq_false (by omega), Bool.or_false]
  ·rw [if_neg h2, if_neg h2, Nat.testBit_or, gg]
   congr 1
   rw [decide_eq_decide]
   omega
theorem a0V (z : Int) : nH (0, 0) z = false := by
 unfold nH
 split <;> simp
theorem a4D : ∀ (xs : List Int) (x : Nt) (z : Int), (∀ n ∈ xs, isN n) → isN z → nH (xs.foldl rG x) z = (nH x z || decide (z ∈ xs))
 | [], x, z, _, _ => by simp
 | n :: xs, x, z, h, hz => by
   rw [eF, a4D xs _ z (fun y hy => h y (dO _ hy)) hz, b4J x n z (h n (dI ..)) hz, Bool.or_assoc]
   congr 1
   rw [eG]
   simp
theorem tQ {xs : List Int} {z : Int} (h : ∀ n ∈ xs, isN n) (hz : isN z) : nH (jF xs) z = decide (z ∈ xs) := by
 unfold jF
 rw [a4D xs _ z h hz, a0V, Bool.false_or]
theorem sT {lo hi z : Int} (h0 : 0 ≤ lo) (h2 : hi ≤ 127) (hz : isN z) : nH (sI lo hi) z = (decide (lo ≤ z) && decide (z ≤ hi)) := by
 unfold sI
 rw [tQ (fun n hn => by
  obtain ⟨k, hk, rfl⟩ := dz.1 hn
  have := dw.1 hk
  exact ⟨by omega, by omega⟩) hz, eG, cW, decide_eq_true_eq, decide_eq_true_eq, decide_eq_true_eq, dz]
 constructor
 ·rintro ⟨k, hk, rfl⟩
  have := dw.1 hk
  omega
 ·rintro ⟨h3, h4⟩
  exact ⟨(z - lo).toNat, dw.2 (by omega), by omega⟩
theorem b1N {x y : Nt} (hx : Nt.Ok x) {z : Int} (hz : isN z) : nH (woF x y) z = (nH x z && !nH y z) := by
 obtain ⟨h1, h2⟩ := hz
 unfold nH woF
 by_cases h : z < 64
 ·rw [if_pos h, if_pos h, if_pos h, a8I _ _ _ hx.1 (by omega)]
 ·rw [if_neg h, if_neg h, if_neg h, a8I _ _ _ hx.2 (by omega)]
theorem a2h {x y : Nt} (hx : Nt.Ok x) (h : woF x y = (0, 0)) {z : Int} (hz : isN z) (hh : nH x z = true) : nH y z = true := by
 have := b1N (y := y) hx hz
 rw [h, a0V, hh] at this
 simpa using this.symm
theorem nY {o : Org} {ks : List Nt} (h : lW o ks = 0) : organE o = 0 ∧ ks.length = o.dvs.length ∧ ∀ j, j < o.dvs.length → woF (iB ks j) (sI (iB o.dvs j).lo (iB o.dvs j).hi) = (0, 0) := by
 unfold lW at h
 split at h
 ·rename_i hh; exact absurd h hh
 rename_i h1
 split at h
 ·omega
 rename_i h2
 split at h
 ·omega
 rename_i h3
 refine ⟨du.1 h1, by omega, fun j hj => ?_⟩
 by_cases hh : woF (iB ks j) (sI (iB o.dvs j).lo (iB o.dvs j).hi) = (0, 0)
 ·exact hh
 ·exact absurd ⟨j, hj, hh⟩ h3
theorem pQ {o : Org} {ks : List Nt} (hok : ∀ x ∈ ks, Nt.Ok x) (h : lW o ks = 0) : ∀ c ∈ iF ks, kY o c = true := by
 obtain ⟨h1, h2, h3⟩ := nY h
 have hf := Org.aH h1
 intro c hc
 unfold iF at hc
 obtain ⟨i, hi, hc⟩ := dR.1 hc
 have hi := dw.1 hi
 unfold plD at hc
 obtain ⟨z, hz, rfl⟩ := dz.1 hc
 obtain ⟨hz1, hz2⟩ := vQ.1 hz
 have hky := hf.keys i (by omega)
 have hw := a2h (hok _ (iD hi)) (h3 i (by omega)) hz1 hz2
 rw [sT hky.1 hky.2.2 hz1] at hw
 simp only [cW, decide_eq_true_eq] at hw
 unfold kY
 simp only [cW, decide_eq_true_eq, dJ]
 omega
theorem qU {o : Org} {ks : List Nt} (h : lW o ks = 0) : (iF ks).length ≤ 1024 := by
 obtain ⟨h1, h2, _⟩ := nY h
 have h8 := (Org.aH h1).dlen
 have := a8g ks ks.length
 unfold iF
 omega
structure SegsOk (m : Nat) (lo hi : Int) (gs : List Seg) : Prop where
 ord : ∀ i, i < gs.length → (iB gs i).lo ≤ (iB gs i).hi
 up : ∀ i, i < gs.length → 0 < i → (iB gs (i - 1)).hi < (iB gs i).lo
 within : ∀ i, i < gs.length → lo ≤ (iB gs i).lo ∧ (iB gs i).hi ≤ hi
 draws : ∀ i, i < gs.length → kZ m (iB gs i).draws = 0
 len : gs.length ≤ 12
theorem a0S {o : Org} (h : organE o = 0) {j : Nat} (hj : j < o.dvs.length) {s : Stp} (hs : s ∈ (iB o.dvs j).stops) : SegsOk o.ranks.length (iB o.dvs j).lo (iB o.dvs j).hi s.segs := by
 unfold organE at h
 split at h
 ·omega
 split at h
 ·omega
 split at h
 ·rename_i hh; exact absurd h hh
 split at h
 ·omega
 split at h
 ·omega
 split at h
 ·rename_i hh; exact absurd h hh
 rename_i h6
 have h6 := du.1 h6
 have e := oI h6 j hj
 unfold uB at e
 split at e
 ·omega
 split at e
 ·omega
 unfold divE at e
 split at e
 ·rename_i hh; exact absurd e hh
 split at e
 ·omega
 obtain ⟨k, hk, rfl⟩ := dK.1 hs
 have e2 := oI e k hk
 unfold oW at e2
 rw [jL _ k hk] at e2
 split at e2
 ·rename_i hh; exact absurd e2 hh
 rename_i e3
 have e3 := du.1 e3
 unfold stopE at e3
 split at e3
 ·rename_i hh; exact absurd e3 hh
 split at e3
 ·omega
 split at e3
 ·rename_i hh; exact absurd e3 hh
 split at e3
 ·omega
 split at e3
 ·omega
 have key : ∀ i, i < ((iB o.dvs j).stops[k]).segs.length → (iB ((iB o.dvs j).stops[k]).segs i).lo ≤ (iB ((iB o.dvs j).stops[k]).segs i).hi ∧ (0 < i → (iB ((iB o.dvs j).stops[k]).segs (i - 1)).hi < (iB ((iB o.dvs j).stops[k]).segs i).lo) ∧ ((iB o.dvs j).lo ≤ (iB ((iB o.dvs j).stops[k]).segs i).lo ∧ (iB ((iB o.dvs j).stops[k]).segs i).hi ≤ (iB o.dvs j).hi) ∧ kZ o.ranks.length (iB ((iB o.dvs j).stops[k]).segs i).draws = 0 := by
  intro i hi
  have e4 := oI e3 i hi
  unfold lB at e4
  split at e4
  ·omega
  split at e4
  ·omega
  exact ⟨by omega, fun h0 => by omega, ⟨by omega, by omega⟩, e4⟩
 exact ⟨fun i hi => (key i hi).1, fun i hi => (key i hi).2.1, fun i hi => (key i hi).2.2.1, fun i hi => (key i hi).2.2.2, by omega⟩
theorem SegsOk.lt {m : Nat} {lo hi : Int} {gs : List Seg} (h : SegsOk m lo hi gs) {i : Nat} : ∀ k, i + 1 + k < gs.length → (iB gs i).hi < (iB gs (i + 1 + k)).lo
 | 0, hk => h.up (i + 1) hk (by omega)
 | k + 1, hk => by
   have h1 := h.lt (i := i) k (by omega)
   have h2 := h.ord (i + 1 + k) (by omega)
   have h3 := h.up (i + 1 + (k + 1)) hk (by omega)
   rw [show i + 1 + (k + 1) - 1 = i + 1 + k by omega] at h3
   omega
theorem SegsOk.one {m : Nat} {lo hi : Int} {gs : List Seg} (h : SegsOk m lo hi gs) {key : Int} {i j : Nat} (hi' : i < gs.length) (hj : j < gs.length) (h1 : (iB gs i).lo ≤ key ∧ key ≤ (iB gs i).hi) (h2 : (iB gs j).lo ≤ key ∧ key ≤ (iB gs j).hi) : i = j := by
 rcases Nat.lt_trichotomy i j with e | e | e
 ·have := h.lt (i := i) (j - i - 1) (by omega)
  rw [show i + 1 + (j - i - 1) = j by omega] at this
  omega
 ·exact e
 ·have := h.lt (i := j) (i - j - 1) (by omega)
  rw [show j + 1 + (i - j - 1) = i by omega] at this
  omega
theorem a7z {m : Nat} {lo hi : Int} {s : Stp} (h : SegsOk m lo hi s.segs) {key : Int} {d : Drw} : d ∈ a5m s key ↔ ∃ i, i < s.segs.length ∧ vW s key i = true ∧ d ∈ (iB s.segs i).draws := by
 unfold a5m
 by_cases hf : pK (vW s key) s.segs.length < 0
 ·rw [if_pos hf]
  constructor
  ·intro hd; exact absurd hd ec
  ·rintro ⟨i, hi', hp, _⟩
   have := (zE (vW s key) s.segs.length).2 ⟨i, hi', hp⟩
   omega
 ·rw [if_neg hf]
  obtain ⟨k, hk⟩ : ∃ k : Nat, pK (vW s key) s.segs.length = k := ⟨(pK (vW s key) s.segs.length).toNat, by omega⟩
  have hkl := a1U hk
  have hkp : vW s key k = true := by
   unfold pK at hk
   cases e : (List.range s.segs.length).find? (vW s key) with
   | none => rw [e] at hk; simp only at hk; omega
   | some j =>
     rw [e] at hk
     have hk : (j : Int) = k := hk
     have := List.find?_some e
     rw [show k = j by omega]
     exact this
  rw [hk, dJ]
  constructor
  ·intro hd; exact ⟨k, hkl, hkp, hd⟩
  ·rintro ⟨i, hi', hp, hd⟩
   unfold vW at hp hkp
   rw [cW, decide_eq_true_eq, decide_eq_true_eq] at hp hkp
   rw [h.one hkl hi' hkp hp]
   exact hd
def sA (o : Org) (g : Seg) (key : Int) : List Ct := if g.lo ≤ key ∧ key ≤ g.hi then (g.draws.filter fun d => rK o.ranks d key).map fun d => mM o.ranks d key else []
def vM (o : Org) (r : Reg) (c : Ct) (i : Nat) : List Ct := if (iB r.stops c.1.toNat).testBit i then (iB (iB o.dvs c.1.toNat).stops i).segs.flatMap fun g => sA o g c.2 else []
def pY (o : Org) (r : Reg) (c : Ct) : List Ct := (List.range (iB o.dvs c.1.toNat).stops.length).flatMap (vM o r c)
theorem wF {o : Org} (h : organE o = 0) {r : Reg} {c : Ct} (hc : kY o c = true) {p : Ct} : p ∈ pY o r c ↔ p ∈ mU o r c := by
 have hc' := (kM o c).1 hc
 unfold pY mU
 rw [dR, dR]
 refine exists_congr fun i => and_congr_right fun hi => ?_
 have hi := dw.1 hi
 unfold vM
 split
 ·have hso := a0S h (j := c.1.toNat) (by omega) (iD hi)
  unfold qE
  rw [pT, dz, dR]
  constructor
  ·rintro ⟨g, hg, hp⟩
   unfold sA at hp
   split at hp
   ·rename_i hk
    obtain ⟨d, hd, rfl⟩ := dz.1 hp
    obtain ⟨hd1, hd2⟩ := eh.1 hd
    obtain ⟨k, hk', rfl⟩ := dK.1 hg
    refine ⟨d, eh.2 ⟨(a7z hso).2 ⟨k, hk', ?_, by rw [jL _ k hk']; exact hd1⟩, hd2⟩, rfl⟩
    unfold vW
    rw [jL _ k hk', decide_eq_true hk.1, decide_eq_true hk.2]
    rfl
   ·exact absurd hp ec
  ·rintro ⟨d, hd, rfl⟩
   obtain ⟨hd1, hd2⟩ := eh.1 hd
   obtain ⟨k, hk, hp, hd1⟩ := (a7z hso).1 hd1
   refine ⟨iB _ k, iD hk, ?_⟩
   unfold sA
   unfold vW at hp
   rw [cW, decide_eq_true_eq, decide_eq_true_eq] at hp
   rw [if_pos hp]
   exact dz.2 ⟨d, eh.2 ⟨hd1, hd2⟩, rfl⟩
 ·exact Iff.rfl
theorem b8u {o : Org} (h : organE o = 0) {r : Reg} {c : Ct} (hc : kY o c = true) : dd (pI (pY o r c)) = dd (pI (mU o r c)) := b1L fun _ => wF h hc
theorem b8h {o : Org} (h : organE o = 0) {r : Reg} {l : List Ct} (hl : ∀ c ∈ l, kY o c = true) : dd (pI (l.flatMap fun c => dd (pI (pY o r c)))) = vH o r l := by
 unfold vH
 refine b1L fun p => ?_
 rw [dR, dR]
 refine exists_congr fun c => and_congr_right fun hc => ?_
 rw [pT, wF h (hl c hc)]
def sY (r : Reg) (q : List Ct) (c : Ct) : List Ct := if !r.off.testBit c.1.toNat && !decide (c ∈ q) then q ++ [c] else q
def b6i (o : Org) (r : Reg) (l : List Ct) : List Ct := pI (l.foldl (sY r) (bfs o r.cpl 1100 0 (kH o r.cpl l)))
theorem a1W {r : Reg} : ∀ {l q : List Ct} {x : Ct}, x ∈ l.foldl (sY r) q ↔ x ∈ q ∨ (x ∈ l ∧ r.off.testBit x.1.toNat = false)
 | [], q, x => by simp
 | c :: l, q, x => by
   rw [eF, a1W]
   unfold sY
   by_cases h1 : r.off.testBit c.1.toNat = false
   ·by_cases h2 : c ∈ q
    ·rw [if_neg (by simp [h2])]
     constructor
     ·rintro (h | ⟨h, k⟩)
      ·exact .inl h
      ·exact .inr ⟨dO _ h, k⟩
     ·rintro (h | ⟨h, k⟩)
      ·exact .inl h
      ·rcases dV.1 h with e | e
       ·exact .inl (by rw [e]; exact h2)
       ·exact .inr ⟨e, k⟩
    ·rw [if_pos (by simp [h1, h2])]
     constructor
     ·rintro (h | ⟨h, k⟩)
      ·rcases dF.1 h with h | h
       ·exact .inl h
       ·have := dB.1 h
        subst this
        exact .inr ⟨dI .., h1⟩
      ·exact .inr ⟨dO _ h, k⟩
     ·rintro (h | ⟨h, k⟩)
      ·exact .inl (dF.2 (.inl h))
      ·rcases dV.1 h with e | e
       ·exact .inl (dF.2 (.inr (by rw [e]; simp)))
       ·exact .inr ⟨e, k⟩
   ·rw [if_neg (by simp [h1])]
    constructor
    ·rintro (h | ⟨h, k⟩)
     ·exact .inl h
     ·exact .inr ⟨dO _ h, k⟩
    ·rintro (h | ⟨h, k⟩)
     ·exact .inl h
     ·rcases dV.1 h with e | e
      ·subst e; exact absurd k h1
      ·exact .inr ⟨e, k⟩
theorem xJ {r : Reg} : ∀ {l q : List Ct}, q.Nodup → (l.foldl (sY r) q).Nodup
 | [], _, h => h
 | c :: l, q, h => by
   rw [eF]
   refine xJ ?_
   unfold sY
   split
   ·rename_i hh
    simp only [cW, dG, decide_eq_false_iff_not] at hh
    rw [List.nodup_append]
    exact ⟨h, by simp, fun a ha b hb e => hh.2 (by simp at hb; rw [← hb, ← e]; exact ha)⟩
   ·exact h
theorem c2C {l : List Ct} (h : l.Nodup) : (pI l).Pairwise xV := by
 have h1 : (pI l).Nodup := (mX l).nodup_iff.2 h
 refine List.Pairwise.imp₂ ?_ (tS l) h1
 intro a b h2 h3
 rw [nU] at h2
 unfold xV
 by_cases e : a.1 = b.1
 ·by_cases e2 : a.2 = b.2
  ·exact absurd (fT e e2) h3
  ·omega
 ·omega
theorem a6m {o : Org} (cp : Nat) : ∀ (n i : Nat) (q : List Ct), Que o q → Que o (bfs o cp n i q)
 | 0, _, _, h => h
 | n + 1, i, q, h => by
   rw [bfs]
   split
   ·exact a6m cp n (i + 1) _ (h.stepF cp true _)
   ·exact h
theorem b5D (o : Org) (r : Reg) (l : List Ct) : b6i o r l = jY o r l := by
 unfold b6i jY
 refine rA _ _ (c2C (xJ (a6m r.cpl 1100 0 _ (xS o r.cpl l)).1)) (a6k _) fun x => ?_
 rw [pT, (mX _).mem_iff, a1W, dF, eh]
 constructor
 ·rintro (h | ⟨h, k⟩)
  ·exact .inr h
  ·exact .inl ⟨h, by simpa using k⟩
 ·rintro (⟨h, k⟩ | h)
  ·exact .inr ⟨h, by simpa using k⟩
  ·exact .inl h
def a3n (o : Org) (ks : List Nt) (i : Nat) : List Ct := ((List.range ((iB o.dvs i).hi - (iB o.dvs i).lo + 1).toNat).filter fun (j : Nat) => nH (iB ks i) ((iB o.dvs i).lo + (j : Int))).map fun (j : Nat) => ((i : Int), (iB o.dvs i).lo + (j : Int))
def b0l (o : Org) (ks : List Nt) : List Ct := (List.range o.dvs.length).flatMap (a3n o ks)
theorem xI {f : Nat → List Ct} (h1 : ∀ i, (f i).Pairwise xV) (h2 : ∀ i, ∀ c ∈ f i, c.1 = (i : Int)) : ∀ n, ((List.range n).flatMap f).Pairwise xV
 | 0 => .nil
 | n + 1 => by
   rw [dY, dD, dA, ez, dm, fc]
   refine ⟨xI h1 h2 n, h1 n, fun a ha b hb => ?_⟩
   obtain ⟨i, hi, ha⟩ := dR.1 ha
   have hi := dw.1 hi
   unfold xV
   rw [h2 i a ha, h2 n b hb]
   omega
theorem c0k (o : Org) (ks : List Nt) (i : Nat) : (a3n o ks i).Pairwise xV := by
 unfold a3n
 rw [gC]
 refine List.Pairwise.imp ?_ (List.Pairwise.filter _ List.pairwise_lt_range)
 intro a b h
 unfold xV
 omega
theorem a7V (x : Nt) : (pW x).Pairwise (· < ·) := by
 unfold pW
 rw [fc, gC, gC]
 have h : ∀ n, (pF n).Pairwise (· < ·) := fun n => List.Pairwise.filter _ List.pairwise_lt_range
 refine ⟨(h _).imp (by intro a b h; omega), (h _).imp (by intro a b h; omega), fun a ha b hb => ?_⟩
 obtain ⟨i, hi, rfl⟩ := dz.1 ha
 obtain ⟨j, _, rfl⟩ := dz.1 hb
 have := (sK.1 hi).1
 omega
theorem c3v (ks : List Nt) (i : Nat) : (plD ks i).Pairwise xV := by
 unfold plD
 rw [gC]
 exact (a7V _).imp fun h => .inr ⟨rfl, h⟩
theorem a4a (ks : List Nt) : (iF ks).Pairwise xV := xI (c3v ks) (fun i c hc => by
 unfold plD at hc
 obtain ⟨z, _, rfl⟩ := dz.1 hc
 rfl) _
theorem b9A {o : Org} {ks : List Nt} (hok : ∀ x ∈ ks, Nt.Ok x) (h : lW o ks = 0) : b0l o ks = iF ks := by
 obtain ⟨h1, h2, h3⟩ := nY h
 have hf := Org.aH h1
 refine rA _ _ (xI (c0k o ks) (fun i c hc => by
  unfold a3n at hc
  obtain ⟨z, _, rfl⟩ := dz.1 hc
  rfl) _) (a4a ks) fun x => ?_
 constructor
 ·intro hx
  obtain ⟨i, hi, hx⟩ := dR.1 hx
  have hi := dw.1 hi
  have hk := hf.keys i hi
  unfold a3n at hx
  obtain ⟨z, hz, rfl⟩ := dz.1 hx
  obtain ⟨hz1, hz2⟩ := eh.1 hz
  have hz1 := dw.1 hz1
  unfold iF
  refine dR.2 ⟨i, dw.2 (by omega), ?_⟩
  unfold plD
  exact dz.2 ⟨_, vQ.2 ⟨⟨by omega, by omega⟩, hz2⟩, rfl⟩
 ·intro hx
  unfold iF at hx
  obtain ⟨i, hi, hx⟩ := dR.1 hx
  have hi := dw.1 hi
  have hk := hf.keys i (by omega)
  unfold plD at hx
  obtain ⟨z, hz, rfl⟩ := dz.1 hx
  obtain ⟨hz1, hz2⟩ := vQ.1 hz
  have hw := a2h (hok _ (iD hi)) (h3 i (by omega)) hz1 hz2
  rw [sT hk.1 hk.2.2 hz1, cW, decide_eq_true_eq, decide_eq_true_eq] at hw
  unfold b0l
  refine dR.2 ⟨i, dw.2 (by omega), ?_⟩
  unfold a3n
  refine dz.2 ⟨(z - (iB o.dvs i).lo).toNat, eh.2 ⟨dw.2 (by omega), ?_⟩, ?_⟩
  ·rw [show (iB o.dvs i).lo + ((z - (iB o.dvs i).lo).toNat : Int) = z by omega]
   exact hz2
  ·rw [show (iB o.dvs i).lo + ((z - (iB o.dvs i).lo).toNat : Int) = z by omega]
end Go.Ds
namespace Go.Ds
open Go.Proofs Go.Proofs.Tryz
variable {H : Heap}
set_option maxRecDepth 10000
set_option maxHeartbeats 1000000
def b6c (o : Org) (l : List (Value × Reg)) (ks : List Nt) : Int := if rQ o l ≠ 0 then rQ o l else lW o ks
theorem b4R (o : Org) (ho : o.In H) (lv : Value) (xs : List (Value × Reg)) (hl : Sl 3 rgc H lv xs) (hle : xs.length < 1000000000) (hr : ∀ p ∈ xs, p.2.In H p.1) (kv : Value) (ks : List Nt) (hk : Ks H kv ks) :
 Fn prog 72 [.agg #[.string o.name, o.rv, o.dv, o.cv], lv, kv] H fun r H' => r = I (b6c o xs ks) ∧ St prog H H' [] := by
 refine .bd func72 rfl (by kernel_rfl) (m := 17) rfl fun l hn g0 g1 g2 => ?_
 simp (disch := omega) only [↓RA, RB, simprocAttr, g0]
 refine (sR H).eNew 4 [(.string o.name), o.rv, o.dv, o.cv] rfl rfl (by simp [OC, ((sR H).sl ho.1).cells.2.1, ((sR H).sl ho.2.2.1).cells.2.1, ((sR H).sl ho.2.2.2.2.1).cells.2.1]) lP fun A1 H1 hS1 => ?_
 simp only [RT] at hS1
 simp (disch := omega) only [↓RA, RZ, simprocAttr, hn, g1, hS1.ae 0 rfl]
 refine hS1.cF (a4r o (ho.ab hS1) lv xs (hS1.sl hl) hle (fun p hp => (hr p hp).ab hS1)) fun H2 hS2 => ?_
 simp (disch := omega) only [↓RA, RB, simprocAttr, hn]
 refine iA (fun h1 => ?_) (fun h1 => ?_)
 ·simp (disch := omega) only [↓RA, RZ, simprocAttr, hn, c6y, h1]
  exact ⟨by unfold b6c; rw [if_pos h1], hS2.forget⟩
 simp (disch := omega) only [↓RA, RZ, simprocAttr, hn, g2, hS2.ae 0 rfl, h1]
 refine hS2.cF (a7K o (ho.ab hS2) kv ks (hk.ab hS2)) fun H3 hS3 => ?_
 simp (disch := omega) only [↓RA, RZ, simprocAttr, hn, c6y, h1]
 exact ⟨by unfold b6c; rw [if_neg h1], hS3.forget⟩
def rkE (o : Org) (rg : Reg) (ks : List Nt) : Int := if mQ o rg ≠ 0 then mQ o rg else lW o ks
theorem a7q (o : Org) (sv : Value) (rg : Reg) (ks : List Nt) : b6c o [(sv, rg)] ks = rkE o rg ks := by
 unfold b6c rkE
 rw [a1r]
theorem uU {o : Org} {rg : Reg} {ks : List Nt} (h : rkE o rg ks = 0) : mQ o rg = 0 ∧ lW o ks = 0 := by
 unfold rkE at h
 split at h
 ·rename_i hh; exact absurd h hh
 ·rename_i hh; exact ⟨du.1 hh, h⟩
def oL (o : Org) (rg : Reg) (ks : List Nt) : List Ct := if rkE o rg ks = 0 then kJ o rg (iF ks) else []
theorem a1g (hG : Glob gH H) (o : Org) (ho : o.In H) (rg : Reg) (sv : Value) (hr : rg.In H sv) (kv : Value) (ks : List Nt) (hk : Ks H kv ks) :
 Fn prog 42 [.agg #[.string o.name, o.rv, o.dv, o.cv], .agg #[sv, .int .u64 rg.cpl, .int .u64 rg.off], kv] H fun r H' => ∃ pv, r = .tuple #[pv, I (rkE o rg ks)] ∧ Slx 2 jP H' (fun B => H.length ≤ B) pv (oL o rg ks) ∧ St prog H H' [] := by
 refine .bd func42 rfl (by kernel_rfl) (m := 22) rfl fun l hn g0 g1 g2 => ?_
 simp (disch := omega) only [↓RA, RB, simprocAttr, g0]
 refine (sR H).eNew 4 [(.string o.name), o.rv, o.dv, o.cv] rfl rfl (by simp [OC, ((sR H).sl ho.1).cells.2.1, ((sR H).sl ho.2.2.1).cells.2.1, ((sR H).sl ho.2.2.2.2.1).cells.2.1]) lP fun A1 H1 hS1 => ?_
 simp only [RT] at hS1
 simp (disch := omega) only [↓RA, RB, simprocAttr, g1]
 refine hS1.eNew 3 [sv, (.int .u64 rg.cpl), (.int .u64 rg.off)] rfl rfl (by simp [OC, (hS1.sl hr.1).cells.2.1]) nQ fun A2 H2 hS2 => ?_
 simp only [RT] at hS2
 simp (disch := omega) only [↓RA, RZ, simprocAttr, hn, hS2.ae 0 rfl, hS2.ae 1 rfl]
 refine hS2.ai [sv, (.int .u64 rg.cpl), (.int .u64 rg.off)] b7M b5k rfl rfl (by first | (simp []; done) | simp [Value.cells]) (by first | (simp []; done) | simp [Value.cells]) (by simp [OC, (hS2.sl hr.1).cells.2.1]) (by decide) (by decide) fun w1 H3 hS3 => ?_
 simp only [RT] at hS3
 simp (disch := omega) only [↓RA, RZ, simprocAttr, hn, g2]
 refine hS3.cF (b4R o (ho.ab hS3) w1 [(sv, rg)] (hS3.aw 2 rfl (fun _ => rfl)) (by simp) (by intro p hp; rw [dB.1 hp]; exact hr.ab hS3) kv ks (hk.ab hS3)) fun H4 hS4 => ?_
 have hsc := a7q o sv rg ks
 simp (disch := omega) only [↓RA, RB, simprocAttr, hn, hsc]
 refine iA (fun h1 => ?_) (fun h1 => ?_)
 ·simp (disch := omega) only [↓RA, RZ, simprocAttr, hn, c4J, hsc, h1]
  exact ⟨.slice none 0 0, rfl, ⟨⟨.inl ⟨rfl, by rw [oL, if_neg h1]; rfl⟩, jS, by decide⟩, fun b h => by simp [kI] at h⟩, hS4.forget⟩
 have h0 := du.1 h1
 obtain ⟨hz1, hk0⟩ := uU h0
 obtain ⟨hz3, hz4⟩ := lZ hz1
 have hf := Org.aH hz3
 have h8 : ks.length ≤ 8 := by
  have := hf.dlen
  have := (nY hk0).2.1
  omega
 simp (disch := omega) only [↓RA, RC, simprocAttr, hsc, h1]
 refine Wp.aM jZ [(0, 4), (1, 4)] (by kernel_rfl) (by kernel_rfl) ?_
 simp (disch := omega) only [↓RA, RZ, simprocAttr, hn, g2, hS4.ae 0 rfl, hS4.ae 1 rfl]
 refine iG ((a4O (hS4.gl hG) kv ks (hk.ab hS4) h8).tr) ?_
 rintro r H5 ⟨-, hT2⟩
 have hS5 := hS4.trans hT2
 simp only [RT] at hS5
 obtain ⟨pv, rfl⟩ : ∃ w, w = r := ⟨r, rfl⟩
 simp (disch := omega) only [↓RA, RZ, simprocAttr, hn]
 have hSd := hS5
 refine iG (rX o (ho.ab hS5) hf rg sv (hr.ab hS5) hz4 pv (iF ks) (hS5.aw 3 rfl jS) (qU hk0) (pQ hk.ok hk0)) ?_
 rintro r H6 ⟨hx, hT3⟩
 have hS6 := hS5.trans hT3
 simp only [RT] at hS6
 obtain ⟨qv, rfl⟩ : ∃ w, w = r := ⟨r, rfl⟩
 simp (disch := omega) only [↓RA, RZ, simprocAttr, hn, hS5.ae 0 rfl, hS5.ae 1 rfl, c4J, hx.1.bD]
 rw [h0]
 refine ⟨qv, rfl, ⟨?_, fun b h => ?_⟩, hS6.forget⟩
 ·rw [oL, if_pos h0]
  exact hx.1
 ·have := hx.2 b h
  have : H.length ≤ _ := hSd.len
  omega
end Go.Ds
namespace Go.Ds
open Go.Proofs
variable {H : Heap}
set_option maxRecDepth 10000
set_option maxHeartbeats 1000000
end Go.Ds
namespace Go.Ds
open Go.Proofs Go.Proofs.Tryz
variable {H : Heap}
set_option maxRecDepth 10000
set_option maxHeartbeats 1000000
def a1F (lo : Int) (w m : Nat) : List Int := ((List.range m).filter fun j => w.testBit j).map fun (j : Nat) => lo + (j : Int)
def vD (lo hi : Int) : Nat := min 16 (hi - lo + 1).toNat
def wR (o : Org) (b : Nat → Nat) (i : Nat) : Nt := jF (a1F (iB o.dvs i).lo (b (i % 3)) (vD (iB o.dvs i).lo (iB o.dvs i).hi))
def lX (o : Org) (b : Nat → Nat) : List Nt := (List.range o.dvs.length).map (wR o b)
theorem c3U (a b : Nat) (h : a < 65536) : ((a : Nat) : Int).fdiv (2 ^ min b (IntKind.bits .u16)) = ((a >>> b : Nat) : Int) := by
 have e : IntKind.bits .u16 = 16 := rfl
 rw [e]
 have h1 : ((a : Nat) : Int).fdiv (2 ^ min b 16) = ((a / 2 ^ min b 16 : Nat) : Int) := by
  rw [gD _ (by exact Int.le_of_lt (Int.pow_pos (by decide)))]
  simp
 rw [h1, eO]
 by_cases hb : b ≤ 16
 ·rw [fR hb]
 ·rw [Nat.min_eq_right (by omega)]
  have h2 : a / 2 ^ 16 = 0 := gK (by simpa using h)
  have h3 : a / 2 ^ b = 0 := gK (dM (by simpa using h) (fq (by decide) (show 16 ≤ b by omega)))
  rw [h2, h3]
theorem b9P (n : Nat) (h : n < 65536) : IntKind.wrap .u16 ((BitVec.ofInt (IntKind.bits .u16) (n : Int) &&& BitVec.ofInt (IntKind.bits .u16) 1).toNat : Int) = ((n % 2 : Nat) : Int) := by
 have e : (BitVec.ofInt (IntKind.bits .u16) (n : Int) &&& BitVec.ofInt (IntKind.bits .u16) 1).toNat = n % 2 := by
  show (BitVec.ofInt 16 (n : Int) &&& BitVec.ofInt 16 1).toNat = n % 2
  rw [gL]
  have h1 : (BitVec.ofInt 16 (n : Int)).toNat = n := by
   rw [fU, BitVec.toNat_ofNat]
   exact gj (by simpa using h)
  have h2 : (BitVec.ofInt 16 1).toNat = 1 := rfl
  rw [h1, h2, Nat.and_one_is_mod]
 rw [e]
 have : n % 2 < 2 := eT _ (by decide)
 have hh : n % 2 = 0 ∨ n % 2 = 1 := by omega
 rcases hh with h | h <;> rw [h] <;> rfl
theorem b5U {a : Nat} (b : Nat) (h : a < 65536) : a >>> b < 65536 := by
 rw [eO]
 exact Nat.lt_of_le_of_lt (Nat.div_le_self _ _) h
theorem b3h (lo : Int) (w m : Nat) : a1F lo w (m + 1) = a1F lo w m ++ (if w.testBit m then [lo + (m : Int)] else []) := by
 unfold a1F
 rw [dY, eQ, dQ]
 congr 1
 cases h : w.testBit m <;> simp [h]
theorem b5o (lo : Int) (w m : Nat) : (a1F lo w m).length ≤ m := by
 unfold a1F
 rw [ef]
 exact dC (ek _ _) (by simp)
theorem b8Z (lo hi : Int) : vD lo hi ≤ 16 := Nat.min_le_left _ _
theorem sP {o : Org} (hf : o.Fine) (w : Nat) {i : Nat} (hi : i < o.dvs.length) : ∀ z ∈ a1F (iB o.dvs i).lo w (vD (iB o.dvs i).lo (iB o.dvs i).hi), isN z ∧ (iB o.dvs i).lo ≤ z ∧ z ≤ (iB o.dvs i).hi := by
 intro z hz
 have hk := hf.keys i hi
 unfold a1F vD at hz
 obtain ⟨j, hj, rfl⟩ := dz.1 hz
 have hj := dw.1 (eh.1 hj).1
 exact ⟨⟨by omega, by omega⟩, by omega, by omega⟩
theorem b0q (o : Org) (ho : o.In H) (hf : o.Fine) (b : Nat → Nat) (hb : ∀ i, b i < 65536) :
 Fn prog 14 [.agg #[.string o.name, o.rv, o.dv, o.cv], .agg #[.int .u16 (b 0), .int .u16 (b 1), .int .u16 (b 2)]] H fun r H' =>
  St prog H H' [⟨r, 2, (lX o b).flatMap yI⟩] := by
 have hd8 := hf.dlen
 refine .aF func14 rfl (by kernel_rfl) (m := 66) rfl fun l hn g0 g1 => ?_
 simp (disch := omega) only [↓RA, RB, simprocAttr, g0]
 refine (sR H).eNew 4 [(.string o.name), o.rv, o.dv, o.cv] rfl rfl (by simp [OC, ((sR H).sl ho.1).cells.2.1, ((sR H).sl ho.2.2.1).cells.2.1, ((sR H).sl ho.2.2.2.2.1).cells.2.1]) lP fun A1 H1 hS1 => ?_
 simp only [RT] at hS1
 simp (disch := omega) only [↓RA, RB, simprocAttr, g1]
 refine hS1.eNew 3 [(.int .u16 (b 0)), (.int .u16 (b 1)), (.int .u16 (b 2))] rfl rfl rfl c6N fun A2 H2 hS2 => ?_
 simp only [RT] at hS2
 simp (disch := omega) only [↓RA, RB, simprocAttr]
 have hS3 := hS2.nil 1
 simp only [RT] at hS3
 refine Wp.ak (fun n l H' => l.length = 66 ∧ get l 2 = (ptr A1 0 4) ∧ get l 3 = (ptr A2 0 3) ∧ get l 4 = (.slice none 0 0) ∧ ∃ (i : Nat) (kv : Value), (n + i = o.dvs.length) ∧ get l 6 = I i ∧ get l 5 = kv ∧ St prog H H' [⟨ptr A1 0 4, 0, [(.string o.name), o.rv, o.dv, o.cv]⟩, ⟨ptr A2 0 3, 0, [(.int .u16 (b 0)), (.int .u16 (b 1)), (.int .u16 (b 2))]⟩, ⟨kv, 2, ((List.range i).map (wR o b)).flatMap yI⟩]) o.dvs.length ?_ ?_
 ·simp (disch := omega) only [RB, RC, simprocAttr, hn]
  exact ⟨0, .slice none 0 0, by omega, rfl, rfl, hS3⟩
 rintro n l H3 ⟨hn, g2, g3, g4, i, kv, hi, g6, g5, hS4⟩
 simp (disch := omega) only [↓RA, RZ, simprocAttr, hn, g2, g6, hS4.ld 0 rfl, (hS4.sl ho.2.2.1).len]
 refine iA (fun q => ?_) (fun q => ?_)
 ·have hk := hf.keys i (by omega)
  simp (disch := omega) only [↓RA, RZ, simprocAttr, hn, g2, g6, hS4.ld 0 rfl, (hS4.sl ho.2.2.1).idx, (hS4.sl ho.2.2.1).aY, (hS4.sl ho.2.2.1).cI 2, Dvn.cells, q]
  refine hS4.eNew 2 [I 0, I 0] rfl rfl rfl a1D fun A3 H4 hS5 => ?_
  simp only [RT] at hS5
  simp (disch := omega) only [↓RA, RZ, simprocAttr, hn, q]
  refine hS5.aa 3 rfl [I (iB o.dvs i).lo, I (iB o.dvs i).hi] rfl rfl a1D (by simp) fun H5 hS6 => ?_
  simp only [RT] at hS6
  simp (disch := omega) only [↓RA, RZ, simprocAttr, hn, hS6.ld 3 rfl, q]
  have hS7 := hS6.nil 0
  simp only [RT] at hS7
  refine Wp.ak (fun n l H' => l.length = 66 ∧ get l 2 = (ptr A1 0 4) ∧ get l 3 = (ptr A2 0 3) ∧ get l 4 = (.slice none 0 0) ∧ get l 5 = kv ∧ get l 6 = I i ∧ get l 8 = (ptr A3 0 2) ∧ ∃ (m : Nat) (lv : Value), (n + m = vD (iB o.dvs i).lo (iB o.dvs i).hi) ∧ get l 9 = I ((iB o.dvs i).lo + m) ∧ get l 7 = lv ∧ St prog H H' [⟨ptr A1 0 4, 0, [(.string o.name), o.rv, o.dv, o.cv]⟩, ⟨ptr A2 0 3, 0, [(.int .u16 (b 0)), (.int .u16 (b 1)), (.int .u16 (b 2))]⟩, ⟨kv, 2, ((List.range i).map (wR o b)).flatMap yI⟩, ⟨ptr A3 0 2, 0, [I (iB o.dvs i).lo, I (iB o.dvs i).hi]⟩, ⟨lv, 1, (a1F (iB o.dvs i).lo (b (i % 3)) m).flatMap (one I)⟩]) (vD (iB o.dvs i).lo (iB o.dvs i).hi) ?_ ?_
  ·simp (disch := omega) only [RB, RC, simprocAttr, hn, g2, g3, g4, g6, g5]
   exact ⟨0, .slice none 0 0, by omega, by simp, rfl, hS7⟩
  rintro n l H6 ⟨hn, g2, g3, g4, g5, g6, g8, m, lv, hm, g9, g7, hS8⟩
  simp (disch := omega) only [↓RA, RZ, simprocAttr, hn, g8, g9, hS8.ld 3 rfl]
  have hM := b8Z (iB o.dvs i).lo (iB o.dvs i).hi
  have hi3 : (i : Int).tmod 3 = ((i % 3 : Nat) : Int) := (ey i 3).symm
  have hw : ([Value.int .u16 (b 0), .int .u16 (b 1), .int .u16 (b 2)] : List Value)[i % 3]? = some (.int .u16 (b (i % 3))) := by
   have : i % 3 = 0 ∨ i % 3 = 1 ∨ i % 3 = 2 := by omega
   rcases this with e | e | e <;> rw [e] <;> rfl
  have hsub : (iB o.dvs i).lo + (m : Int) - (iB o.dvs i).lo = (m : Int) := by omega
  have e1 := c3U (b (i % 3)) m (hb _)
  have e2 := b9P (b (i % 3) >>> m) (b5U m (hb _))
  have e3 := tb (b (i % 3)) m
  have hsu := b3h (iB o.dvs i).lo (b (i % 3)) m
  have hpl := b5o (iB o.dvs i).lo (b (i % 3)) m
  refine jI (fun q1 => ?_) (fun q1 => ?_)
  ·simp (disch := omega) only [↓RA, RZ, simprocAttr, hn, g8, g9, hS8.ld 3 rfl, q1]
   refine iA (fun q2 => ?_) (fun q2 => ?_)
   ·skip
    simp (disch := omega) only [↓RA, RC, simprocAttr, q1, q2]
    refine Wp.drw jZ (by kernel_rfl) ?_
    simp (disch := omega) only [↓RA, RZ, simprocAttr, hn, g3, g6, g8, g9, hS8.ld 1 rfl, hw, hS8.ld 3 rfl, hi3, hsub, e1, e2]
    refine iA (fun q3 => ?_) (fun q3 => ?_)
    ·rw [e3, decide_eq_true (by omega), if_pos rfl] at hsu
     simp (disch := omega) only [↓RA, RZ, simprocAttr, hn, g9, g7, q3]
     refine hS8.ai [I ((iB o.dvs i).lo + m)] zQ a2c rfl rfl (by simp [Value.cells]) rfl rfl (by decide) (by decide) fun w1 H7 hS9 => ?_
     simp only [RT] at hS9
     simp (disch := omega) only [↓RA, RZ, simprocAttr, hn, q3]
     refine hS9.aq 4 rfl (hS9.rd 5 rfl) zQ (by rw [iM (n := 1) (cel := one I) (fun _ => rfl)]; simp; omega) fun w2 H8 hS10 => ?_
     simp only [RT] at hS10
     simp (disch := omega) only [↓RA, RZ, simprocAttr, hn, g2, g3, g4, g5, g6, g8, g9, q3]
     refine ⟨n - 1, by unfold vD at hm; omega, m + 1, w2, by unfold vD at hm ⊢; omega, by simp; omega, rfl, ?_⟩
     rw [hsu, dD]
     exact hS10.pick [0, 1, 2, 3, 4] (by decide) rfl
    rw [e3, decide_eq_false (by omega), if_neg (by simp), dm] at hsu
    simp (disch := omega) only [↓RA, RZ, simprocAttr, hn, g2, g3, g4, g5, g6, g8, g9, g7, q3]
    refine ⟨n - 1, by unfold vD at hm; omega, m + 1, lv, by unfold vD at hm ⊢; omega, by simp; omega, rfl, ?_⟩
    rw [hsu]
    exact hS8.pick [0, 1, 2, 3, 4] (by decide) rfl
   have hmM : m = vD (iB o.dvs i).lo (iB o.dvs i).hi := by unfold vD at hm hM ⊢; omega
   have hz := sP hf (b (i % 3)) (show i < o.dvs.length by omega)
   subst hmM
   simp (disch := omega) only [↓RA, RZ, simprocAttr, hn, g7, q1, q2]
   refine hS8.cF (yE (a1F (iB o.dvs i).lo (b (i % 3)) (vD (iB o.dvs i).lo (iB o.dvs i).hi)) (fun z h => (hz z h).1) lv (hS8.aw 4 rfl (tR _)) (by omega)) fun H9 hS11 => ?_
   simp (disch := omega) only [↓RA, RZ, simprocAttr, hn, q1, q2]
   refine hS11.eNew 2 [(.int .u64 0), (.int .u64 0)] rfl rfl rfl kX fun A4 H10 hS12 => ?_
   simp only [RT] at hS12
   simp (disch := omega) only [↓RA, RZ, simprocAttr, hn, q1, q2]
   refine hS12.aa 5 rfl [(.int .u64 (wR o b i).1), (.int .u64 (wR o b i).2)] rfl rfl kX (by simp) fun H11 hS13 => ?_
   simp only [RT] at hS13
   simp (disch := omega) only [↓RA, RZ, simprocAttr, hn, g5, hS13.ae 5 rfl, q1, q2]
   refine hS13.ai [(.int .u64 (wR o b i).1), (.int .u64 (wR o b i).2)] a3C b6J rfl rfl (by simp [Value.cells]) rfl rfl (by decide) (by decide) fun w3 H12 hS14 => ?_
   simp only [RT] at hS14
   simp (disch := omega) only [↓RA, RZ, simprocAttr, hn, q1, q2]
   refine hS14.aq 2 rfl (hS14.rd 6 rfl) a3C (by rw [iM (n := 2) (cel := yI) (fun _ => rfl)]; simp; omega) fun w4 H13 hS15 => ?_
   simp only [RT] at hS15
   simp (disch := omega) only [↓RA, RZ, simprocAttr, hn, g2, g3, g4, g6, q1, q2]
   refine ⟨o.dvs.length - (i + 1), by omega, i + 1, w4, by omega, by simp, rfl, ?_⟩
   rw [dY, dQ, dD]
   exact hS15.pick [0, 1, 2] (by decide) rfl
  have hmM : m = vD (iB o.dvs i).lo (iB o.dvs i).hi := by unfold vD at hm hM ⊢; omega
  have hz := sP hf (b (i % 3)) (show i < o.dvs.length by omega)
  subst hmM
  simp (disch := omega) only [↓RA, RZ, simprocAttr, hn, g7, q1]
  refine hS8.cF (yE (a1F (iB o.dvs i).lo (b (i % 3)) (vD (iB o.dvs i).lo (iB o.dvs i).hi)) (fun z h => (hz z h).1) lv (hS8.aw 4 rfl (tR _)) (by omega)) fun H14 hS16 => ?_
  simp (disch := omega) only [↓RA, RZ, simprocAttr, hn, q1]
  refine hS16.eNew 2 [(.int .u64 0), (.int .u64 0)] rfl rfl rfl kX fun A5 H15 hS17 => ?_
  simp only [RT] at hS17
  simp (disch := omega) only [↓RA, RZ, simprocAttr, hn, q1]
  refine hS17.aa 5 rfl [(.int .u64 (wR o b i).1), (.int .u64 (wR o b i).2)] rfl rfl kX (by simp) fun H16 hS18 => ?_
  simp only [RT] at hS18
  simp (disch := omega) only [↓RA, RZ, simprocAttr, hn, g5, hS18.ae 5 rfl, q1]
  refine hS18.ai [(.int .u64 (wR o b i).1), (.int .u64 (wR o b i).2)] a3C b6J rfl rfl (by simp [Value.cells]) rfl rfl (by decide) (by decide) fun w5 H17 hS19 => ?_
  simp only [RT] at hS19
  simp (disch := omega) only [↓RA, RZ, simprocAttr, hn, q1]
  refine hS19.aq 2 rfl (hS19.rd 6 rfl) a3C (by rw [iM (n := 2) (cel := yI) (fun _ => rfl)]; simp; omega) fun w6 H18 hS20 => ?_
  simp only [RT] at hS20
  simp (disch := omega) only [↓RA, RZ, simprocAttr, hn, g2, g3, g4, g6, q1]
  refine ⟨o.dvs.length - (i + 1), by omega, i + 1, w6, by omega, by simp, rfl, ?_⟩
  rw [dY, dQ, dD]
  exact hS20.pick [0, 1, 2] (by decide) rfl
 simp (disch := omega) only [↓RA, RZ, simprocAttr, hn, g5, c7e, q]
 have hii : i = o.dvs.length := by omega
 subst hii
 exact hS4.pick [2] (by decide) rfl
theorem qO (o : Org) (b : Nat → Nat) : (lX o b).length = o.dvs.length := by simp [lX]
theorem tY {o : Org} {b : Nat → Nat} {i : Nat} (hi : i < o.dvs.length) : iB (lX o b) i = wR o b i := by
 rw [jL _ i (by rw [qO]; exact hi)]
 simp [lX]
theorem b1v {o : Org} (hf : o.Fine) (b : Nat → Nat) {i : Nat} (hi : i < o.dvs.length) : Nt.Ok (wR o b i) := qT _ _ (fun z h => (sP hf (b (i % 3)) hi z h).1) ⟨by decide, by decide⟩
theorem a6E {o : Org} (hf : o.Fine) (b : Nat → Nat) : ∀ x ∈ lX o b, Nt.Ok x := by
 intro x hx
 obtain ⟨i, hi, rfl⟩ := dz.1 hx
 exact b1v hf b (dw.1 hi)
theorem a2m {x y : Nt} (hx : Nt.Ok x) (h : ∀ z, isN z → nH x z = true → nH y z = true) : woF x y = (0, 0) := by
 have k : ∀ z, isN z → nH (woF x y) z = false := fun z hz => by
  rw [b1N hx hz]
  cases e : nH x z with
  | false => rfl
  | true => rw [h z hz e]; rfl
 have big : ∀ a : Nat, a < 18446744073709551616 → ∀ j, 64 ≤ j → a.testBit j = false := fun a ha j hj =>
  Nat.testBit_lt_two_pow (dM (show a < 2 ^ 64 from ha) (fq (by decide) hj))
 obtain ⟨h1, h2⟩ := c2R x y
 apply fT
 ·apply fW
  intro j
  rw [ik]
  by_cases hj : 64 ≤ j
  ·exact big _ h1 j hj
  ·have := k (j : Int) ⟨by omega, by omega⟩
   unfold nH at this
   rw [if_pos (by omega)] at this
   exact this
 ·apply fW
  intro j
  rw [ik]
  by_cases hj : 64 ≤ j
  ·exact big _ h2 j hj
  ·have := k (64 + j : Int) ⟨by omega, by omega⟩
   unfold nH at this
   rw [if_neg (by omega), show (64 + (j : Int) - 64).toNat = j by omega] at this
   exact this
theorem a9B {o : Org} (h0 : organE o = 0) (b : Nat → Nat) : lW o (lX o b) = 0 := by
 have hf := Org.aH h0
 unfold lW
 rw [if_neg (by rw [h0]; simp), if_neg (by rw [qO]; simp), if_neg]
 rintro ⟨j, hj, hne⟩
 apply hne
 have hk := hf.keys j hj
 rw [tY hj]
 refine a2m (b1v hf b hj) fun z hz hh => ?_
 rw [wR, tQ (fun n hn => (sP hf (b (j % 3)) hj n hn).1) hz] at hh
 have := sP hf (b (j % 3)) hj z (of_decide_eq_true hh)
 rw [sT hk.1 hk.2.2 hz, decide_eq_true this.2.1, decide_eq_true this.2.2]
 rfl
end Go.Ds
namespace Go.Ds
open Go.Proofs
set_option maxRecDepth 10000
theorem b0J {o : Org} (hf : o.Fine) {r : Reg} {l m : List Ct} (h : ∀ x, x ∈ l ↔ x ∈ m) : kJ o r l = kJ o r m := by
 refine rA _ _ (a0D o r l) (a0D o r m) fun p => ?_
 rw [a2I hf, a2I hf]
 exact exists_congr fun c => and_congr_left fun _ => h c
theorem rT {ks : List Nt} {x : Ct} : x ∈ iF ks ↔ (0 ≤ x.1 ∧ x.1 < ks.length) ∧ isN x.2 ∧ nH (iB ks x.1.toNat) x.2 = true := by
 unfold iF plD
 rw [dR]
 constructor
 ·rintro ⟨i, hi, h⟩
  have hi := dw.1 hi
  obtain ⟨z, hz, rfl⟩ := dz.1 h
  exact ⟨⟨by simp, by simp; omega⟩, vQ.1 hz⟩
 ·rintro ⟨⟨h1, h2⟩, h3⟩
  refine ⟨x.1.toNat, dw.2 (by omega), dz.2 ⟨x.2, vQ.2 h3, ?_⟩⟩
  apply fT
  ·simp; omega
  ·rfl
def pH (o : Org) (c : Ct) : List Nt := (List.replicate o.dvs.length ((0, 0) : Nt)).set c.1.toNat (jF [c.2])
theorem yH (o : Org) (c : Ct) : (pH o c).length = o.dvs.length := by simp [pH]
theorem sQ {o : Org} (hf : o.Fine) {c : Ct} (hc : kY o c = true) : isN c.2 := by
 have h := vC hf hc
 exact ⟨by omega, by omega⟩
theorem b3N {z : Int} (h : isN z) : Nt.Ok (jF [z]) := qT _ _ (fun y hy => by rw [dB.1 hy]; exact h) ⟨by decide, by decide⟩
theorem a2v {z y : Int} (h : isN z) (hy : isN y) : nH (jF [z]) y = decide (y = z) := by
 rw [tQ (fun n hn => by rw [dB.1 hn]; exact h) hy]
 simp
theorem a5c {o : Org} (hf : o.Fine) {c : Ct} (hc : kY o c = true) : ∀ x ∈ pH o c, Nt.Ok x := by
 intro x hx
 unfold pH at hx
 rcases List.mem_or_eq_of_mem_set hx with h | h
 ·rw [List.eq_of_mem_replicate h]
  exact ⟨by decide, by decide⟩
 ·rw [h]
  exact b3N (sQ hf hc)
theorem b1P {α : Type} [Inhabited α] (l : List α) (i j : Nat) (x : α) (h : i < l.length) : iB (l.set i x) j = if j = i then x else iB l j := by
 unfold iB
 rw [dc, dc]
 by_cases e : j = i
 ·subst e
  rw [if_pos rfl, List.getElem?_set_self h]
  rfl
 ·rw [if_neg e, List.getElem?_set_ne (eY e)]
theorem zM {o : Org} (hf : o.Fine) {c : Ct} (hc : kY o c = true) : iF (pH o c) = [c] := by
 have h := (kM o c).1 hc
 refine rA _ _ (a4a _) (List.pairwise_singleton _ _) fun x => ?_
 rw [rT, yH, dB]
 constructor
 ·rintro ⟨⟨h1, h2⟩, h3, h4⟩
  unfold pH at h4
  rw [b1P _ _ _ _ (by simp; omega)] at h4
  split at h4
  ·rename_i e
   rw [a2v (sQ hf hc) h3] at h4
   exact fT (by omega) (of_decide_eq_true h4)
  ·rw [jL _ _ (by simp; omega), List.getElem_replicate, a0V] at h4
   exact absurd h4 (by simp)
 ·rintro rfl
  refine ⟨⟨h.1, h.2.1⟩, sQ hf hc, ?_⟩
  unfold pH
  rw [b1P _ _ _ _ (by simp; omega), if_pos rfl, a2v (sQ hf hc) (sQ hf hc)]
  simp
theorem b7N {o : Org} (h0 : organE o = 0) {ks : List Nt} (hl : ks.length = o.dvs.length) (hok : ∀ x ∈ ks, Nt.Ok x) (hc : ∀ x ∈ iF ks, kY o x = true) : lW o ks = 0 := by
 have hf := Org.aH h0
 unfold lW
 rw [if_neg (by rw [h0]; simp), if_neg (by rw [hl]; simp), if_neg]
 rintro ⟨j, hj, hne⟩
 apply hne
 have hk := hf.keys j hj
 refine a2m (hok _ (iD (by omega))) fun z hz hh => ?_
 have := (kM o _).1 (hc ((j : Int), z) (rT.2 ⟨⟨by simp, by simp; omega⟩, hz, by simpa using hh⟩))
 simp only [dJ] at this
 rw [sT hk.1 hk.2.2 hz, decide_eq_true this.2.2.1, decide_eq_true this.2.2.2]
 rfl
theorem b9f {o : Org} (h0 : organE o = 0) {c : Ct} (hc : kY o c = true) : lW o (pH o c) = 0 :=
 b7N h0 (yH o c) (a5c (Org.aH h0) hc) fun x hx => by
  rw [zM (Org.aH h0) hc] at hx
  rw [dB.1 hx]
  exact hc
theorem Star.mono {α : Type} {R R' : α → α → Prop} (h : ∀ a b, R a b → R' a b) {a b : α} (hs : Star R a b) : Star R' a b := by
 induction hs with
 | refl => exact .refl _
 | tail _ h2 ih => exact .tail ih (h _ _ h2)
end Go.Ds
namespace Go.Ds
open Go.Proofs Go.Proofs.Tryz Go.Shelf Go.RowKit Go.Lib Go.Sort
def sm (x : Int × Int) : Prop := -1000000000 ≤ x.1 ∧ x.1 ≤ 1000000000 ∧ -1000000000 ≤ x.2 ∧ x.2 ≤ 1000000000
abbrev Sm := {x : Int × Int // sm x}
instance : Inhabited Sm := ⟨⟨(0, 0), by unfold sm; decide⟩⟩
def cfd (x y : Sm) : Int := if x.1.1 ≠ y.1.1 then x.1.1 - y.1.1 else x.1.2 - y.1.2
theorem ltd (x y : Sm) : ltOf cfd x y = decide (x.1.1 < y.1.1 ∨ (x.1.1 = y.1.1 ∧ x.1.2 < y.1.2)) := by
 unfold ltOf cfd
 congr 1
 apply propext
 split <;> omega
theorem c6a : SWO (ltOf cfd) where
 irrefl x := by rw [ltd]; simp
 trans x y z h1 h2 := by rw [ltd] at *; simp at *; omega
 ntrans x y z h1 h2 := by rw [ltd] at *; simp at *; omega
theorem c5U (x y : Sm) (h1 : ltOf cfd x y = false) (h2 : ltOf cfd y x = false) : x = y := by
 rw [ltd] at *
 simp at h1 h2
 apply Subtype.ext
 apply fT <;> omega
theorem c3m (x y : Sm) : (!(ltOf cfd) y x) = le2 x.1 y.1 := by
 rw [ltd, ← b1d]
 simp only [lt2]
theorem b5F (l : Array Sm) : flatK (fun x : Sm => jP x.1) 2 l = flatK jP 2 (l.map (·.1)) := by
 unfold flatK
 rw [Array.size_map]
 congr 1
 funext t
 congr 2
 by_cases h : t / 2 < l.size
 ·simp [h]
 ·simp [h]
  rfl
theorem b6a (w : World) (kI off n : Nat) (l : List Sm) (os : Array Obj) : sortWorldK (fun x : Sm => jP x.1) 2 w kI off n l.toArray os = sortWorldK jP 2 w kI off n (l.map (·.1)).toArray os := by
 unfold sortWorldK putRowK
 rw [b5F, List.map_toArray]
theorem b8R (l : List (Int × Int)) (h : ∀ x ∈ l, sm x) : (l.attachWith sm h).map (·.1) = l := by
 rw [List.map_attachWith]
 exact List.attach_map_subtype_val l
theorem b6K (l : List Sm) : (l.mergeSort fun x y => !(ltOf cfd) y x).map (·.1) = (l.map (·.1)).mergeSort le2 :=
 List.map_mergeSort fun x _ y _ => c3m x y
theorem c4s (kc : FuncId) (eg : ∀ args w, (callFunc kc args).run prog w = .ok (.enter kc args) w) (hf : ∀ x y : Sm, Fn prog kc [.agg #[I x.1.1, I x.1.2], .agg #[I y.1.1, I y.1.2]] .nil fun r H' => r = I (cfd x y) ∧ St prog (.nil : Heap) H' []) : a1a prog 46 kc sm :=
 fun kI off cap d w hs hH hblk hsz => by
  have hd : (d.toList.attachWith sm hs).toArray.map (·.1) = d := by
   rw [List.map_toArray, b8R]
  have hl : (d.toList.attachWith sm hs).toArray.size = d.size := by simp
  have hH' : HoldsK (fun x : Sm => jP x.1) 2 w kI off (d.toList.attachWith sm hs).toArray := by
   unfold HoldsK at hH ⊢
   rw [b5F, hd]
   exact hH
  have h := AnyQ.slices_SortFunc_total Tryz.bB 2 Tryz.isAgg55 Tryz.sizeOf55 (fun x : Sm => jP x.1) (fun _ => rfl) (fun x => yX x.1) cfd c6a kc #[] kI off cap (d.toList.attachWith sm hs).toArray w eg (a2F (fun x : Sm => x.1) cfd hf kI off _ w) hH' hblk (by rw [hl]; exact hsz) c5U
  rw [hl] at h
  refine h.mono ?_
  rintro e w' ⟨h1, n, os, h2⟩
  exact ⟨h1, n, os, by rw [h2, b6a, List.toList_toArray, b6K, b8R]⟩
def b1U (K kc : FuncId) : Prop := ∀ {H : Heap} {B : Base} {os : List Ob} (hS : St prog B H os) (i : Nat) {v : Value} {es : List (Int × Int)} (ho : os[i]? = some ⟨v, 2, pr es⟩) (hl : es.length < 100000000000) (hsm : ∀ x ∈ es, sm x) {Q : Value → Heap → Prop}
    (h : ∀ H1, St prog B H1 (os.set i ⟨v, 2, pr (pI es)⟩) → Q (.tuple #[]) H1), vT prog K [v, .func (.func kc) #[] #[]] H Q
section
variable {H : Heap}
theorem b9F (x y : Sm) : Fn prog 47 [.agg #[I x.1.1, I x.1.2], .agg #[I y.1.1, I y.1.2]] H fun r H' => r = I (cfd x y) ∧ St prog H H' [] := by
 obtain ⟨⟨x1, x2⟩, hx⟩ := x
 obtain ⟨⟨y1, y2⟩, hy⟩ := y
 unfold sm at hx hy
 simp only at hx hy ⊢
 refine .aF func47 rfl (by kernel_rfl) (m := 20) rfl fun l hn g0 g1 => ?_
 simp (disch := omega) only [↓RA, RB, simprocAttr, g0]
 refine (sR H).eNew 2 [I x1, I x2] rfl rfl rfl qJ fun A1 H1 hS1 => ?_
 simp only [RT] at hS1
 simp (disch := omega) only [↓RA, RB, simprocAttr, g1]
 refine hS1.eNew 2 [I y1, I y2] rfl rfl rfl qJ fun A2 H2 hS2 => ?_
 simp only [RT] at hS2
 simp (disch := omega) only [↓RA, RZ, simprocAttr, hn, hS2.ld 0 rfl, hS2.ld 1 rfl]
 refine iA (fun q => ?_) (fun q => ?_)
 ·simp (disch := omega) only [↓RA, RZ, simprocAttr, hn, hS2.ld 0 rfl, hS2.ld 1 rfl, c6Q, q]
  exact ⟨by unfold cfd; rw [if_pos q], hS2.forget⟩
 simp (disch := omega) only [↓RA, RZ, simprocAttr, hn, hS2.ld 0 rfl, hS2.ld 1 rfl, c6Q, q]
 exact ⟨by unfold cfd; rw [if_neg q], hS2.forget⟩
end
theorem c1H : b1U 46 47 := fun hS i _ _ ho hl hsm _ h => wC (c4s 47 (enters_of func47 (by kernel_rfl) rfl) fun x y => b9F x y) c2O c3K hS i ho hl hsm h
end Go.Ds
namespace Go.Ds
open Go.Proofs Go.Proofs.Tryz
variable {H : Heap}
set_option maxRecDepth 10000
set_option maxHeartbeats 1000000
theorem c4u (o : Org) (ho : o.In H) (d z : Int) : Fn prog 55 [.agg #[.string o.name, o.rv, o.dv, o.cv], .agg #[I d, I z]] H fun r H' => r = .bool (kY o (d, z)) ∧ St prog H H' [] := by
 have hl := ho.2.2.2.2.2.2.1
 by_cases hd : 0 ≤ d
 ·obtain ⟨j, rfl⟩ := eX hd
  refine .aF func55 rfl (by kernel_rfl) (m := 42) rfl fun l hn g0 g1 => ?_
  simp (disch := omega) only [↓RA, RB, simprocAttr, g0]
  refine (sR H).eNew 4 [(.string o.name), o.rv, o.dv, o.cv] rfl rfl (by simp [OC, ((sR H).sl ho.1).cells.2.1, ((sR H).sl ho.2.2.1).cells.2.1, ((sR H).sl ho.2.2.2.2.1).cells.2.1]) lP fun A1 H1 hS1 => ?_
  simp only [RT] at hS1
  simp (disch := omega) only [↓RA, RB, simprocAttr, g1]
  refine hS1.eNew 2 [I j, I z] rfl rfl rfl lA fun A2 H2 hS2 => ?_
  simp only [RT] at hS2
  simp (disch := omega) only [↓RA, RB, simprocAttr]
  refine Wp.drw jZ (by kernel_rfl) ?_
  simp (disch := omega) only [↓RA, RZ, simprocAttr, hn, hS2.ld 1 rfl]
  refine jI (fun g1 => ?_) (fun g1 => ?_)
  rotate_left
  ·exfalso; first | omega | (simp at g1; omega)
  simp (disch := omega) only [↓RA, RZ, simprocAttr, hn, hS2.ld 1 rfl, hS2.ld 0 rfl, (hS2.sl ho.2.2.1).len, g1]
  refine jI (fun g2 => ?_) (fun g2 => ?_)
  ·simp (disch := omega) only [↓RA, RZ, simprocAttr, hn, hS2.ld 1 rfl, hS2.ld 0 rfl, (hS2.sl ho.2.2.1).idx, (hS2.sl ho.2.2.1).aY, (hS2.sl ho.2.2.1).ld, Dvn.cells, g1, g2]
   refine jI (fun g3 => ?_) (fun g3 => ?_)
   ·simp (disch := omega) only [↓RA, RZ, simprocAttr, hn, hS2.ld 1 rfl, hS2.ld 0 rfl, (hS2.sl ho.2.2.1).idx, (hS2.sl ho.2.2.1).aY, (hS2.sl ho.2.2.1).ld, Dvn.cells, b8P, g1, g2, g3]
    exact ⟨by unfold kY; simp only [dJ]; congr 1; simp; omega, hS2.forget⟩
   simp (disch := omega) only [↓RA, RZ, simprocAttr, hn, b8P, g1, g2, g3]
   exact ⟨by congr 1; symm; rw [← eK, kM]; simp only [dJ]; omega, hS2.forget⟩
  simp (disch := omega) only [↓RA, RZ, simprocAttr, hn, b8P, g1, g2]
  exact ⟨by congr 1; symm; rw [← eK, kM]; simp only [dJ]; omega, hS2.forget⟩
 ·refine .aF func55 rfl (by kernel_rfl) (m := 42) rfl fun l hn g0 g1 => ?_
  simp (disch := omega) only [↓RA, RB, simprocAttr, g0]
  refine (sR H).eNew 4 [(.string o.name), o.rv, o.dv, o.cv] rfl rfl (by simp [OC, ((sR H).sl ho.1).cells.2.1, ((sR H).sl ho.2.2.1).cells.2.1, ((sR H).sl ho.2.2.2.2.1).cells.2.1]) lP fun A1 H1 hS1 => ?_
  simp only [RT] at hS1
  simp (disch := omega) only [↓RA, RB, simprocAttr, g1]
  refine hS1.eNew 2 [I d, I z] rfl rfl rfl lA fun A2 H2 hS2 => ?_
  simp only [RT] at hS2
  simp (disch := omega) only [↓RA, RB, simprocAttr]
  refine Wp.drw jZ (by kernel_rfl) ?_
  simp (disch := omega) only [↓RA, RZ, simprocAttr, hn, hS2.ld 1 rfl]
  refine jI (fun g1 => ?_) (fun g1 => ?_)
  ·exfalso; first | omega | (simp at g1; omega)
  simp (disch := omega) only [↓RA, RZ, simprocAttr, hn, b8P, g1]
  exact ⟨by congr 1; symm; rw [← eK, kM]; simp only; omega, hS2.forget⟩
theorem a6o (o : Org) (ho : o.In H) (c : Ct) : Fn prog 55 [.agg #[.string o.name, o.rv, o.dv, o.cv], .agg #[I c.1, I c.2]] H fun r H' => r = .bool (kY o c) ∧ St prog H H' [] := c4u o ho c.1 c.2
def a6L (o : Org) (ks : List Nt) (i n : Nat) : List Ct := ((List.range n).filter fun (j : Nat) => nH (iB ks i) ((iB o.dvs i).lo + (j : Int))).map fun (j : Nat) => ((i : Int), (iB o.dvs i).lo + (j : Int))
theorem b4n (o : Org) (ks : List Nt) (i n : Nat) : a6L o ks i (n + 1) = a6L o ks i n ++ (if nH (iB ks i) ((iB o.dvs i).lo + (n : Int)) then [((i : Int), (iB o.dvs i).lo + (n : Int))] else []) := by
 unfold a6L
 rw [dY, eQ, dQ]
 congr 1
 cases h : nH (iB ks i) ((iB o.dvs i).lo + (n : Int)) <;> simp [h]
theorem b2i (o : Org) (ks : List Nt) (i n : Nat) : (a6L o ks i n).length ≤ n := by
 unfold a6L
 rw [ef]
 exact dC (ek _ _) (by simp)
theorem a8K {o : Org} (hf : o.Fine) (ks : List Nt) : ∀ i, i ≤ o.dvs.length → ((List.range i).flatMap (a3n o ks)).length ≤ i * 128
 | 0, _ => by simp
 | i + 1, h => by
   have h1 := a8K hf ks i (by omega)
   have h2 := b2i o ks i ((iB o.dvs i).hi - (iB o.dvs i).lo + 1).toNat
   have hk := hf.keys i (by omega)
   have h3 : (a3n o ks i).length ≤ 128 := dC h2 (by omega)
   rw [dY, dD, dp, dA, ez, dm]
   omega
theorem a8G (o : Org) (ho : o.In H) (hf : o.Fine) (kv : Value) (ks : List Nt) (hk : Ks H kv ks) (hl : ks.length = o.dvs.length) :
 Fn prog 75 [.agg #[.string o.name, o.rv, o.dv, o.cv], kv] H fun r H' => St prog H H' [⟨r, 2, pr (b0l o ks)⟩] := by
 have hd8 := hf.dlen
 refine .aF func75 rfl (by kernel_rfl) (m := 55) rfl fun l hn g0 g1 => ?_
 simp (disch := omega) only [↓RA, RB, simprocAttr, g0]
 refine (sR H).eNew 4 [(.string o.name), o.rv, o.dv, o.cv] rfl rfl (by simp [OC, ((sR H).sl ho.1).cells.2.1, ((sR H).sl ho.2.2.1).cells.2.1, ((sR H).sl ho.2.2.2.2.1).cells.2.1]) lP fun A1 H1 hS1 => ?_
 simp only [RT] at hS1
 simp (disch := omega) only [↓RA, RZ, simprocAttr, hn, hS1.ld 0 rfl, (hS1.sl ho.2.2.1).len]
 have hS2 := hS1.nil 1
 simp only [RT] at hS2
 refine Wp.ak (fun n l H' => l.length = 55 ∧ get l 1 = kv ∧ get l 4 = (.slice none 0 0) ∧ get l 11 = o.dv ∧ get l 12 = I o.dvs.length ∧ ∃ (i : Nat) (ov : Value), (n + i = o.dvs.length) ∧ get l 13 = I i ∧ get l 5 = ov ∧ St prog H H' [⟨ptr A1 0 4, 0, [(.string o.name), o.rv, o.dv, o.cv]⟩, ⟨ov, 2, pr ((List.range i).flatMap (a3n o ks))⟩]) o.dvs.length ?_ ?_
 ·simp (disch := omega) only [RB, RC, simprocAttr, hn, g1]
  exact ⟨0, .slice none 0 0, by omega, rfl, rfl, hS2⟩
 rintro n l H2 ⟨hn, g1, g4, g11, g12, i, ov, hi, g13, g5, hS3⟩
 simp (disch := omega) only [↓RA, RB, simprocAttr, hn, g12, g13]
 refine iA (fun q => ?_) (fun q => ?_)
 ·have hky := hf.keys i (by omega)
  have hx := hk.ok _ (iD (xs := ks) (j := i) (by omega))
  have hpl := a8K hf ks i (by omega)
  simp (disch := omega) only [↓RA, RZ, simprocAttr, hn, g11, g13, (hS3.sl ho.2.2.1).idx, (hS3.sl ho.2.2.1).ae, Dvn.cells, q]
  refine hS3.eNew 5 [(.string ⟨#[]⟩), (.bool false), I 0, I 0, (.slice none 0 0)] rfl rfl rfl uR fun A2 H3 hS4 => ?_
  simp only [RT] at hS4
  simp (disch := omega) only [↓RA, RZ, simprocAttr, hn, q]
  refine hS4.aa 2 rfl [(.string (iB o.dvs i).name), (.bool (iB o.dvs i).pedal), I (iB o.dvs i).lo, I (iB o.dvs i).hi, (iB o.dvs i).sv] rfl (by simp [OC, (hS4.sl (ho.2.2.2.1 (iB o.dvs i) (iD (by omega))).1).cells.2.1]) uR (by simp) fun H4 hS5 => ?_
  simp only [RT] at hS5
  simp (disch := omega) only [↓RA, RZ, simprocAttr, hn, hS5.ld 2 rfl, q]
  refine Wp.ak (fun n l H' => l.length = 55 ∧ get l 1 = kv ∧ get l 4 = (.slice none 0 0) ∧ get l 6 = I i ∧ get l 7 = (ptr A2 0 5) ∧ get l 11 = o.dv ∧ get l 12 = I o.dvs.length ∧ get l 13 = I i ∧ ∃ (j : Nat) (ow : Value), (n + j = ((iB o.dvs i).hi - (iB o.dvs i).lo + 1).toNat) ∧ get l 8 = I ((iB o.dvs i).lo + j) ∧ get l 5 = ow ∧ St prog H H' [⟨ptr A1 0 4, 0, [(.string o.name), o.rv, o.dv, o.cv]⟩, ⟨ow, 2, pr ((List.range i).flatMap (a3n o ks) ++ a6L o ks i j)⟩, ⟨ptr A2 0 5, 0, [(.string (iB o.dvs i).name), (.bool (iB o.dvs i).pedal), I (iB o.dvs i).lo, I (iB o.dvs i).hi, (iB o.dvs i).sv]⟩]) ((iB o.dvs i).hi - (iB o.dvs i).lo + 1).toNat ?_ ?_
  ·simp (disch := omega) only [RB, RC, simprocAttr, hn, g1, g4, g11, g12, g13, g5]
   refine ⟨0, ov, by omega, by simp, rfl, ?_⟩
   rw [show a6L o ks i 0 = [] from rfl, dm]
   exact hS5
  rintro n l H5 ⟨hn, g1, g4, g6, g7, g11, g12, g13, j, ow, hj, g8, g5, hS6⟩
  simp (disch := omega) only [↓RA, RZ, simprocAttr, hn, g7, g8, hS6.ld 2 rfl]
  refine iA (fun q2 => ?_) (fun q2 => ?_)
  ·have hsu := b4n o ks i j
   have hpj := b2i o ks i j
   obtain ⟨m, hm⟩ : ∃ m : Nat, (iB o.dvs i).lo + (j : Int) = m := ⟨((iB o.dvs i).lo + (j : Int)).toNat, by omega⟩
   rw [hm] at hsu
   simp (disch := omega) only [↓RA, RZ, simprocAttr, hn, g1, g6, g8, (hS6.sl hk.sl).idx, (hS6.sl hk.sl).aY, (hS6.sl hk.sl).ld, yI, hm]
   refine iA (fun q3 => ?_) (fun q3 => ?_)
   ·have e0 : (m : Int).tmod 64 = ((m - 64 : Nat) : Int) := by rw [show (m : Int).tmod 64 = ((m % 64 : Nat) : Int) from (ey m 64).symm]; omega
    have e1 := a0i (iB ks i).2 (m - 64) hx.2
    have e2 := zW ((iB ks i).2 >>> (m - 64)) (tI _ hx.2)
    have e3 := tb (iB ks i).2 (m - 64)
    have e4 : nH (iB ks i) (m : Int) = (iB ks i).2.testBit (m - 64) := by unfold nH; rw [if_neg (by omega), show ((m : Int) - 64).toNat = m - 64 by omega]
    simp (disch := omega) only [↓RA, RZ, simprocAttr, hn, g1, g6, g8, (hS6.sl hk.sl).idx, (hS6.sl hk.sl).aY, (hS6.sl hk.sl).ld, yI, hm, q3, e0, e1, e2]
    refine iA (fun q4 => ?_) (fun q4 => ?_)
    ·rw [e4, e3, decide_eq_true (by omega), if_pos rfl] at hsu
     simp (disch := omega) only [↓RA, RZ, simprocAttr, hn, g6, g8, g5, qA, hm, q3, q4]
     refine hS6.ai [I i, I m] qP a1Z rfl rfl (by simp [Value.cells]) rfl rfl (by decide) (by decide) fun w1 H6 hS7 => ?_
     simp only [RT] at hS7
     simp (disch := omega) only [↓RA, RZ, simprocAttr, hn, hm, q3, q4]
     refine hS7.aq 1 rfl (hS7.rd 3 rfl) qP (by rw [iJ, dp]; simp only [dU, eH]; omega) fun w2 H7 hS8 => ?_
     simp only [RT] at hS8
     simp (disch := omega) only [↓RA, RZ, simprocAttr, hn, g1, g4, g6, g7, g11, g12, g13, g8, hm, q3, q4]
     refine ⟨n - 1, by omega, j + 1, w2, by omega, by simp; omega, rfl, ?_⟩
     rw [hsu, ← ed, jJ]
     exact hS8.pick [0, 1, 2] (by decide) rfl
    rw [e4, e3, decide_eq_false (by omega), if_neg (by simp), dm] at hsu
    simp (disch := omega) only [↓RA, RZ, simprocAttr, hn, g1, g4, g6, g7, g11, g12, g13, g8, g5, hm, q3, q4]
    refine ⟨n - 1, by omega, j + 1, ow, by omega, by simp; omega, rfl, ?_⟩
    rw [hsu]
    exact hS6.pick [0, 1, 2] (by decide) rfl
   have e0 : (m : Int).tmod 64 = ((m : Nat) : Int) := by rw [show (m : Int).tmod 64 = ((m % 64 : Nat) : Int) from (ey m 64).symm]; omega
   have e1 := a0i (iB ks i).1 m hx.1
   have e2 := zW ((iB ks i).1 >>> m) (tI _ hx.1)
   have e3 := tb (iB ks i).1 m
   have e4 : nH (iB ks i) (m : Int) = (iB ks i).1.testBit m := by unfold nH; rw [if_pos (by omega)]; rfl
   simp (disch := omega) only [↓RA, RZ, simprocAttr, hn, g8, hm, q3, e0, e1, e2]
   refine iA (fun q4 => ?_) (fun q4 => ?_)
   ·rw [e4, e3, decide_eq_true (by omega), if_pos rfl] at hsu
    simp (disch := omega) only [↓RA, RZ, simprocAttr, hn, g6, g8, g5, qA, hm, q3, q4]
    refine hS6.ai [I i, I m] qP a1Z rfl rfl (by simp [Value.cells]) rfl rfl (by decide) (by decide) fun w3 H8 hS9 => ?_
    simp only [RT] at hS9
    simp (disch := omega) only [↓RA, RZ, simprocAttr, hn, hm, q3, q4]
    refine hS9.aq 1 rfl (hS9.rd 3 rfl) qP (by rw [iJ, dp]; simp only [dU, eH]; omega) fun w4 H9 hS10 => ?_
    simp only [RT] at hS10
    simp (disch := omega) only [↓RA, RZ, simprocAttr, hn, g1, g4, g6, g7, g11, g12, g13, g8, hm, q3, q4]
    refine ⟨n - 1, by omega, j + 1, w4, by omega, by simp; omega, rfl, ?_⟩
    rw [hsu, ← ed, jJ]
    exact hS10.pick [0, 1, 2] (by decide) rfl
   rw [e4, e3, decide_eq_false (by omega), if_neg (by simp), dm] at hsu
   simp (disch := omega) only [↓RA, RZ, simprocAttr, hn, g1, g4, g6, g7, g11, g12, g13, g8, g5, hm, q3, q4]
   refine ⟨n - 1, by omega, j + 1, ow, by omega, by simp; omega, rfl, ?_⟩
   rw [hsu]
   exact hS6.pick [0, 1, 2] (by decide) rfl
  simp (disch := omega) only [↓RA, RZ, simprocAttr, hn, g1, g4, g11, g12, g13, g5, q2]
  refine ⟨o.dvs.length - (i + 1), by omega, i + 1, ow, by omega, by simp, rfl, ?_⟩
  have hjj : j = ((iB o.dvs i).hi - (iB o.dvs i).lo + 1).toNat := by omega
  rw [dY, dD, dA, ez, dm]
  rw [show a3n o ks i = a6L o ks i j from by rw [hjj]; rfl]
  exact hS6.pick [0, 1] (by decide) rfl
 simp (disch := omega) only [↓RA, RZ, simprocAttr, hn, g5, c7L, q]
 have hii : i = o.dvs.length := by omega
 subst hii
 exact hS3.pick [1] (by decide) rfl
end Go.Ds
namespace Go.Ds
open Go.Proofs Go.Proofs.Tryz Go.Shelf Go.RowKit Go.Lib Go.Sort
theorem c3E (kc : FuncId) (eg : ∀ args w, (callFunc kc args).run prog w = .ok (.enter kc args) w) (hf : ∀ x y : Sm, Fn prog kc [.agg #[I x.1.1, I x.1.2], .agg #[I y.1.1, I y.1.2]] .nil fun r H' => r = I (cfd x y) ∧ St prog (.nil : Heap) H' []) : a1a prog 78 kc sm :=
 fun kI off cap d w hs hH hblk hsz => by
  have hd : (d.toList.attachWith sm hs).toArray.map (·.1) = d := by
   rw [List.map_toArray, b8R]
  have hl : (d.toList.attachWith sm hs).toArray.size = d.size := by simp
  have hH' : HoldsK (fun x : Sm => jP x.1) 2 w kI off (d.toList.attachWith sm hs).toArray := by
   unfold HoldsK at hH ⊢
   rw [b5F, hd]
   exact hH
  have h := AnyQ.slices_SortFunc_total Tryz.bl 2 Tryz.isAgg64 Tryz.sizeOf64 (fun x : Sm => jP x.1) (fun _ => rfl) (fun x => yX x.1) cfd c6a kc #[] kI off cap (d.toList.attachWith sm hs).toArray w eg (a2F (fun x : Sm => x.1) cfd hf kI off _ w) hH' hblk (by rw [hl]; exact hsz) c5U
  rw [hl] at h
  refine h.mono ?_
  rintro e w' ⟨h1, n, os, h2⟩
  exact ⟨h1, n, os, by rw [h2, b6a, List.toList_toArray, b6K, b8R]⟩
section
variable {H : Heap}
theorem b8F (x y : Sm) : Fn prog 79 [.agg #[I x.1.1, I x.1.2], .agg #[I y.1.1, I y.1.2]] H fun r H' => r = I (cfd x y) ∧ St prog H H' [] := by
 obtain ⟨⟨x1, x2⟩, hx⟩ := x
 obtain ⟨⟨y1, y2⟩, hy⟩ := y
 unfold sm at hx hy
 simp only at hx hy ⊢
 refine .aF func79 rfl (by kernel_rfl) (m := 20) rfl fun l hn g0 g1 => ?_
 simp (disch := omega) only [↓RA, RB, simprocAttr, g0]
 refine (sR H).eNew 2 [I x1, I x2] rfl rfl rfl lA fun A1 H1 hS1 => ?_
 simp only [RT] at hS1
 simp (disch := omega) only [↓RA, RB, simprocAttr, g1]
 refine hS1.eNew 2 [I y1, I y2] rfl rfl rfl lA fun A2 H2 hS2 => ?_
 simp only [RT] at hS2
 simp (disch := omega) only [↓RA, RZ, simprocAttr, hn, hS2.ld 0 rfl, hS2.ld 1 rfl]
 refine iA (fun q => ?_) (fun q => ?_)
 ·simp (disch := omega) only [↓RA, RZ, simprocAttr, hn, hS2.ld 0 rfl, hS2.ld 1 rfl, c6t, q]
  exact ⟨by unfold cfd; rw [if_pos q], hS2.forget⟩
 simp (disch := omega) only [↓RA, RZ, simprocAttr, hn, hS2.ld 0 rfl, hS2.ld 1 rfl, c6t, q]
 exact ⟨by unfold cfd; rw [if_neg q], hS2.forget⟩
end
theorem c4K : b1U 78 79 := fun hS i _ _ ho hl hsm _ h => wC (c3E 79 (enters_of func79 (by kernel_rfl) rfl) fun x y => b8F x y) c1Q c1s hS i ho hl hsm h
end Go.Ds
namespace Go.Ds
open Go.Proofs Go.Proofs.Tryz
variable {H : Heap}
set_option maxRecDepth 10000
set_option maxHeartbeats 1000000
theorem Ct.cR (a b : Ct) : (a.1 = b.1 ∧ a.2 = b.2) ↔ b = a := ⟨fun h => fT h.1.symm h.2.symm, fun h => by rw [h]; exact ⟨rfl, rfl⟩⟩
theorem a9L (v : Value) (xs : List Ct) (hv : Sl 2 jP H v xs) (hl : xs.length < 1000000000) (d : Ct) :
 Fn prog 106 [v, .agg #[I d.1, I d.2]] H fun r H' => r = I (pK (fun j => decide (iB xs j = d)) xs.length) ∧ St prog H H' [] := by
 refine .aF func106 rfl (by kernel_rfl) (m := 19) rfl fun l hn g0 g1 => ?_
 simp (disch := omega) only [↓RA, RB, simprocAttr, g1]
 refine (sR H).eNew 2 [I d.1, I d.2] rfl rfl rfl lA fun A1 H1 hS1 => ?_
 simp only [RT] at hS1
 simp (disch := omega) only [↓RA, RZ, simprocAttr, hn, g0, (hS1.sl hv).len]
 refine Wp.ak (fun n l H' => l.length = 19 ∧ get l 0 = v ∧ get l 3 = (ptr A1 0 2) ∧ get l 7 = I xs.length ∧ ∃ (j : Nat), (n + j = xs.length ∧ ∀ q, q < j → decide (iB xs q = d) = false) ∧ get l 8 = I j ∧ St prog H H' [⟨ptr A1 0 2, 0, [I d.1, I d.2]⟩]) xs.length ?_ ?_
 ·simp (disch := omega) only [RB, RC, simprocAttr, hn, g0]
  exact ⟨0, ⟨by omega, fun q hq => absurd hq (dN _)⟩, rfl, hS1⟩
 rintro n l H2 ⟨hn, g0, g3, g7, j, ⟨hi,h0⟩, g8, hS2⟩
 simp (disch := omega) only [↓RA, RB, simprocAttr, hn, g7, g8]
 refine iA (fun h => ?_) (fun h => ?_)
 ·simp (disch := omega) only [↓RA, RZ, simprocAttr, hn, g8, h]
  refine Wp.drw jZ (by kernel_rfl) ?_
  simp (disch := omega) only [↓RA, RZ, simprocAttr, hn, g0, g3, hS2.ae 0 rfl, (hS2.sl hv).idx, (hS2.sl hv).ae, jP]
  refine iA (fun hp => ?_) (fun hp => ?_)
  ·simp (disch := omega) only [↓RA, RZ, simprocAttr, hn, c1S, hp]
   exact ⟨by rw [zJ _ xs.length j (by omega) (by simpa using (Ct.cR _ _).1 hp) h0], hS2.forget⟩
  simp (disch := omega) only [↓RA, RZ, simprocAttr, hn, g0, g3, g7, g8, hp]
  exact ⟨n - 1, by omega, j + 1, ⟨by omega, fun q hq => by rcases dr.1 hq with e | e; (· exact h0 q e); (· rw [e]; simpa using fun hh => hp ((Ct.cR _ _).2 hh))⟩, by simp, hS2⟩
 simp (disch := omega) only [↓RA, RZ, simprocAttr, hn, c1S, h]
 exact ⟨by rw [yU _ xs.length fun q hq => h0 q (by omega)], hS2.forget⟩
theorem a2u (v : Value) (xs : List Ct) (hv : Sl 2 jP H v xs) (hl : xs.length < 1000000000) (d : Ct) :
 Fn prog 77 [v, .agg #[I d.1, I d.2]] H fun r H' => r = .bool (decide (d ∈ xs)) ∧ St prog H H' [] := by
 have e : decide (0 ≤ pK (fun j => decide (iB xs j = d)) xs.length) = decide (d ∈ xs) := by
  rw [eG, decide_eq_true_iff, decide_eq_true_iff, zE]
  constructor
  ·rintro ⟨j, hj, hp⟩
   rw [← of_decide_eq_true hp]; exact iD hj
  ·intro hx
   obtain ⟨j, hj, rfl⟩ := dK.1 hx
   exact ⟨j, hj, by rw [jL xs j hj]; simp⟩
 refine .aF func77 rfl (by kernel_rfl) (m := 9) rfl fun l hn g0 g1 => ?_
 simp (disch := omega) only [↓RA, RB, simprocAttr, g1]
 refine (sR H).eNew 2 [I d.1, I d.2] rfl rfl rfl lA fun A1 H1 hS1 => ?_
 simp only [RT] at hS1
 simp (disch := omega) only [↓RA, RZ, simprocAttr, hn, g0, hS1.ae 0 rfl]
 refine hS1.cF (a9L v xs (hS1.sl hv) hl d) fun H2 hS2 => ?_
 simp (disch := omega) only [↓RA, RB, simprocAttr, hn, c7l]
 rw [← e]
 first | exact hS2.forget | exact ⟨rfl, hS2.forget⟩
theorem a6u {B : Base} (o : Org) (r : Reg) (sv : Value) (c : Ct) (thr : Bool) (AO AR AQ : Nat) (qv : Value) (q : List Ct)
 (hS : St prog B H [⟨ptr AQ 0 1, 0, [qv]⟩, ⟨qv, 2, pr q⟩])
 (hO : ∀ {H1 : Heap} {os : List Ob}, St prog B H1 os → Var H1 AO 4 [.string o.name, o.rv, o.dv, o.cv] ∧ o.In H1 ∧ Var H1 AR 3 [sv, .int .u64 r.cpl, .int .u64 r.off])
 (hq : Que o q) (ho : o.Fine) (hr : r.Ok) :
 Fn prog 105 [.agg #[I c.1, I c.2], .bool thr, ptr AO 0 4, ptr AR 0 3, ptr AQ 0 1] H fun rr H' => ∃ qv', rr = .tuple #[] ∧
  St prog B H' [⟨ptr AQ 0 1, 0, [qv']⟩, ⟨qv', 2, pr (stepF o r.cpl thr c q)⟩] := by
 have hcl := ho.clen
 refine .cS func105 rfl (by kernel_rfl) (m := 64) rfl fun l hn g0 g1 g2 g3 g4 => ?_
 simp (disch := omega) only [↓RA, RB, simprocAttr, g0]
 refine hS.eNew 2 [I c.1, I c.2] rfl rfl rfl lA fun A1 H1 hS1 => ?_
 simp only [RT] at hS1
 simp (disch := omega) only [↓RA, RZ, simprocAttr, hn, g2, ((hO hS1).1).ld, ((hO hS1).2.1.2.2.2.2.1).len]
 refine Wp.ak (fun n l H' => l.length = 64 ∧ get l 1 = (.bool thr) ∧ get l 2 = (ptr AO 0 4) ∧ get l 3 = (ptr AR 0 3) ∧ get l 4 = (ptr AQ 0 1) ∧ get l 5 = (ptr A1 0 2) ∧ get l 11 = o.cv ∧ get l 12 = I o.cpls.length ∧ ∃ (i : Nat) (qv' : Value), (n + i = o.cpls.length) ∧ get l 13 = I i ∧ St prog B H' [⟨ptr AQ 0 1, 0, [qv']⟩, ⟨qv', 2, pr (stepN o r.cpl thr c q i)⟩, ⟨ptr A1 0 2, 0, [I c.1, I c.2]⟩]) o.cpls.length ?_ ?_
 ·simp (disch := omega) only [RB, RC, simprocAttr, hn, g1, g2, g3, g4]
  exact ⟨0, qv, by omega, rfl, hS1⟩
 rintro n l H2 ⟨hn, g1, g2, g3, g4, g5, g11, g12, i, qv', hi, g13, hS2⟩
 simp (disch := omega) only [↓RA, RB, simprocAttr, hn, g12, g13]
 refine iA (fun q1 => ?_) (fun q1 => ?_)
 ·have hql : (stepN o r.cpl thr c q i).length ≤ 1024 := (hq.stepN r.cpl thr c i).len ho
  have e1 := a0i r.cpl i hr.2.2.1
  have e2 := zW (r.cpl >>> i) (tI i hr.2.2.1)
  have e3 := tb r.cpl i
  have hstay : (rO r.cpl thr c (iB o.cpls i) i && kY o (to1 (iB o.cpls i) c) && !decide (to1 (iB o.cpls i) c ∈ stepN o r.cpl thr c q i)) = false → stepN o r.cpl thr c q (i + 1) = stepN o r.cpl thr c q i := fun h => by
   rw [lI, step1, if_neg (by rw [h]; simp)]
  simp (disch := omega) only [↓RA, RZ, simprocAttr, hn, g11, g13, ((hO hS2).2.1.2.2.2.2.1).idx, ((hO hS2).2.1.2.2.2.2.1).ae, Cpl.cells, q1]
  refine hS2.eNew 5 [(.string ⟨#[]⟩), I 0, I 0, I 0, (.bool false)] rfl rfl rfl uH fun A2 H3 hS3 => ?_
  simp only [RT] at hS3
  simp (disch := omega) only [↓RA, RZ, simprocAttr, hn, q1]
  refine hS3.aa 3 rfl [(.string (iB o.cpls i).name), I (iB o.cpls i).src, I (iB o.cpls i).dst, I (iB o.cpls i).shift, (.bool (iB o.cpls i).thr)] rfl rfl uH (by simp) fun H4 hS4 => ?_
  simp only [RT] at hS4
  simp (disch := omega) only [↓RA, RZ, simprocAttr, hn, g5, hS4.ld 3 rfl, hS4.ld 2 rfl, q1]
  simp (disch := omega) only [↓RA, RZ, simprocAttr, qA]
  refine hS4.eNew 2 [I 0, I 0] rfl rfl rfl lA fun A3 H5 hS5 => ?_
  simp only [RT] at hS5
  simp (disch := omega) only [↓RA, RZ, simprocAttr, hn, q1]
  refine hS5.aa 4 rfl [I (iB o.cpls i).dst, I (nC (c.2 + (iB o.cpls i).shift))] rfl rfl lA (by simp) fun H6 hS6 => ?_
  simp only [RT] at hS6
  simp (disch := omega) only [↓RA, RZ, simprocAttr, hn, g3, ((hO hS6).2.2).ld, q1, e1, e2]
  refine jI (fun b1 => ?_) (fun b1 => ?_)
  ·have hb : r.cpl.testBit i = true := by rw [e3]; exact decide_eq_true (by omega)
   simp (disch := omega) only [↓RA, RZ, simprocAttr, hn, g5, hS6.ld 3 rfl, hS6.ld 2 rfl, q1, b1]
   refine jI (fun b2 => ?_) (fun b2 => ?_)
   ·have hsrc : (iB o.cpls i).src = c.1 := by omega
    have hgg : rO r.cpl thr c (iB o.cpls i) i = (!thr || (iB o.cpls i).thr) := by unfold rO; rw [hb, decide_eq_true hsrc]; rfl
    simp (disch := omega) only [↓RA, RZ, simprocAttr, hn, hS6.ld 3 rfl, q1, b1, b2]
    refine qX (fun b3 => ?_) (fun b3 => ?_)
    ·have hg : rO r.cpl thr c (iB o.cpls i) i = true := by rw [hgg, b3]; simp
     simp (disch := omega) only [↓RA, RZ, simprocAttr, hn, g2, ((hO hS6).1).ae, hS6.ae 4 rfl, q1, b1, b2, b3]
     refine hS6.cF (a6o o (hO hS6).2.1 ((iB o.cpls i).dst, nC (c.2 + (iB o.cpls i).shift))) fun H7 hS7 => ?_
     simp (disch := omega) only [↓RA, RZ, simprocAttr, hn, q1, b1, b2, b3]
     refine qX (fun b5 => ?_) (fun b5 => ?_)
     ·simp (disch := omega) only [↓RA, RZ, simprocAttr, hn, g4, hS7.ld 0 rfl, hS7.ae 4 rfl, q1, b1, b2, b3, b5]
      refine hS7.cF (a2u qv' (stepN o r.cpl thr c q i) (hS7.aw 1 rfl (fun _ => rfl)) (by omega) ((iB o.cpls i).dst, nC (c.2 + (iB o.cpls i).shift))) fun H8 hS8 => ?_
      simp (disch := omega) only [↓RA, RZ, simprocAttr, hn, q1, b1, b2, b3, b5]
      refine jM (fun b6 => ?_) (fun b6 => ?_)
      ·have hs : stepN o r.cpl thr c q (i + 1) = stepN o r.cpl thr c q i ++ [((iB o.cpls i).dst, nC (c.2 + (iB o.cpls i).shift))] := by
        rw [lI]
        unfold step1
        have hnot : ((iB o.cpls i).dst, nC (c.2 + (iB o.cpls i).shift)) ∉ stepN o r.cpl thr c q i := by simpa using b6
        rw [if_pos (by rw [hg]; simp only [to1, b5]; simp [hnot])]
        rfl
       simp (disch := omega) only [↓RA, RZ, simprocAttr, hn, g4, hS8.ld 0 rfl, hS8.ae 4 rfl, q1, b1, b2, b3, b5, b6]
       refine hS8.ai [I (iB o.cpls i).dst, I (nC (c.2 + (iB o.cpls i).shift))] qP a1Z rfl rfl (by simp [Value.cells]) rfl rfl (by decide) (by decide) fun w1 H9 hS9 => ?_
       simp only [RT] at hS9
       simp (disch := omega) only [↓RA, RZ, simprocAttr, hn, q1, b1, b2, b3, b5, b6]
       refine hS9.aq 1 rfl (hS9.rd 5 rfl) qP (by rw [iJ]; simp; omega) fun w2 H10 hS10 => ?_
       simp only [RT] at hS10
       simp (disch := omega) only [↓RA, RZ, simprocAttr, hn, g4, q1, b1, b2, b3, b5, b6]
       refine hS10.aa 0 rfl [w2] (by rw [(hS10.rd 1 rfl).cells.1]) (by simp [(hS10.rd 1 rfl).cells.2.1]) a9J (by simp) fun H11 hS11 => ?_
       simp only [RT] at hS11
       simp (disch := omega) only [↓RA, RZ, simprocAttr, hn, g1, g2, g3, g4, g5, g11, g12, g13, q1, b1, b2, b3, b5, b6]
       refine ⟨n - 1, by omega, i + 1, w2, by omega, by simp, ?_⟩
       rw [hs, jJ]
       exact hS11.pick [0, 1, 2] (by decide) rfl
      have hin : ((iB o.cpls i).dst, nC (c.2 + (iB o.cpls i).shift)) ∈ stepN o r.cpl thr c q i := by simpa using b6
      have hs := hstay (by simp only [to1]; simp [hin])
      simp (disch := omega) only [↓RA, RZ, simprocAttr, hn, g1, g2, g3, g4, g5, g11, g12, g13, q1, b1, b2, b3, b5, b6]
      exact ⟨n - 1, by omega, i + 1, qv', by omega, by simp, by rw [hs]; exact hS8.pick [0, 1, 2] (by decide) rfl⟩
     have hs := hstay (by rw [eN, eN]; exact .inl (.inr (by simpa [to1] using b5)))
     simp (disch := omega) only [↓RA, RZ, simprocAttr, hn, g1, g2, g3, g4, g5, g11, g12, g13, q1, b1, b2, b3, b5]
     exact ⟨n - 1, by omega, i + 1, qv', by omega, by simp, by rw [hs]; exact hS7.pick [0, 1, 2] (by decide) rfl⟩
    simp (disch := omega) only [↓RA, RZ, simprocAttr, hn, g1, q1, b1, b2, b3]
    refine qX (fun b4 => ?_) (fun b4 => ?_)
    ·have hg : rO r.cpl thr c (iB o.cpls i) i = true := by
      have : thr = false := by simpa using b4
      rw [hgg, this]; rfl
     simp (disch := omega) only [↓RA, RZ, simprocAttr, hn, g2, ((hO hS6).1).ae, hS6.ae 4 rfl, q1, b1, b2, b3, b4]
     refine hS6.cF (a6o o (hO hS6).2.1 ((iB o.cpls i).dst, nC (c.2 + (iB o.cpls i).shift))) fun H12 hS12 => ?_
     simp (disch := omega) only [↓RA, RZ, simprocAttr, hn, q1, b1, b2, b3, b4]
     refine qX (fun b5 => ?_) (fun b5 => ?_)
     ·simp (disch := omega) only [↓RA, RZ, simprocAttr, hn, g4, hS12.ld 0 rfl, hS12.ae 4 rfl, q1, b1, b2, b3, b4, b5]
      refine hS12.cF (a2u qv' (stepN o r.cpl thr c q i) (hS12.aw 1 rfl (fun _ => rfl)) (by omega) ((iB o.cpls i).dst, nC (c.2 + (iB o.cpls i).shift))) fun H13 hS13 => ?_
      simp (disch := omega) only [↓RA, RZ, simprocAttr, hn, q1, b1, b2, b3, b4, b5]
      refine jM (fun b6 => ?_) (fun b6 => ?_)
      ·have hs : stepN o r.cpl thr c q (i + 1) = stepN o r.cpl thr c q i ++ [((iB o.cpls i).dst, nC (c.2 + (iB o.cpls i).shift))] := by
        rw [lI]
        unfold step1
        have hnot : ((iB o.cpls i).dst, nC (c.2 + (iB o.cpls i).shift)) ∉ stepN o r.cpl thr c q i := by simpa using b6
        rw [if_pos (by rw [hg]; simp only [to1, b5]; simp [hnot])]
        rfl
       simp (disch := omega) only [↓RA, RZ, simprocAttr, hn, g4, hS13.ld 0 rfl, hS13.ae 4 rfl, q1, b1, b2, b3, b4, b5, b6]
       refine hS13.ai [I (iB o.cpls i).dst, I (nC (c.2 + (iB o.cpls i).shift))] qP a1Z rfl rfl (by simp [Value.cells]) rfl rfl (by decide) (by decide) fun w3 H14 hS14 => ?_
       simp only [RT] at hS14
       simp (disch := omega) only [↓RA, RZ, simprocAttr, hn, q1, b1, b2, b3, b4, b5, b6]
       refine hS14.aq 1 rfl (hS14.rd 5 rfl) qP (by rw [iJ]; simp; omega) fun w4 H15 hS15 => ?_
       simp only [RT] at hS15
       simp (disch := omega) only [↓RA, RZ, simprocAttr, hn, g4, q1, b1, b2, b3, b4, b5, b6]
       refine hS15.aa 0 rfl [w4] (by rw [(hS15.rd 1 rfl).cells.1]) (by simp [(hS15.rd 1 rfl).cells.2.1]) a9J (by simp) fun H16 hS16 => ?_
       simp only [RT] at hS16
       simp (disch := omega) only [↓RA, RZ, simprocAttr, hn, g1, g2, g3, g4, g5, g11, g12, g13, q1, b1, b2, b3, b4, b5, b6]
       refine ⟨n - 1, by omega, i + 1, w4, by omega, by simp, ?_⟩
       rw [hs, jJ]
       exact hS16.pick [0, 1, 2] (by decide) rfl
      have hin : ((iB o.cpls i).dst, nC (c.2 + (iB o.cpls i).shift)) ∈ stepN o r.cpl thr c q i := by simpa using b6
      have hs := hstay (by simp only [to1]; simp [hin])
      simp (disch := omega) only [↓RA, RZ, simprocAttr, hn, g1, g2, g3, g4, g5, g11, g12, g13, q1, b1, b2, b3, b4, b5, b6]
      exact ⟨n - 1, by omega, i + 1, qv', by omega, by simp, by rw [hs]; exact hS13.pick [0, 1, 2] (by decide) rfl⟩
     have hs := hstay (by rw [eN, eN]; exact .inl (.inr (by simpa [to1] using b5)))
     simp (disch := omega) only [↓RA, RZ, simprocAttr, hn, g1, g2, g3, g4, g5, g11, g12, g13, q1, b1, b2, b3, b4, b5]
     exact ⟨n - 1, by omega, i + 1, qv', by omega, by simp, by rw [hs]; exact hS12.pick [0, 1, 2] (by decide) rfl⟩
    have h4 : thr = true := by simpa using b4
    have h3 : (iB o.cpls i).thr = false := by simpa using b3
    have hs := hstay (by rw [hgg, h4, h3]; rfl)
    simp (disch := omega) only [↓RA, RZ, simprocAttr, hn, g1, g2, g3, g4, g5, g11, g12, g13, q1, b1, b2, b3, b4]
    exact ⟨n - 1, by omega, i + 1, qv', by omega, by simp, by rw [hs]; exact hS6.pick [0, 1, 2] (by decide) rfl⟩
   have hs := hstay (by unfold rO; rw [decide_eq_false (by omega)]; simp)
   simp (disch := omega) only [↓RA, RZ, simprocAttr, hn, g1, g2, g3, g4, g5, g11, g12, g13, q1, b1, b2]
   exact ⟨n - 1, by omega, i + 1, qv', by omega, by simp, by rw [hs]; exact hS6.pick [0, 1, 2] (by decide) rfl⟩
  have hs := hstay (by unfold rO; rw [e3, decide_eq_false (by omega)]; rfl)
  simp (disch := omega) only [↓RA, RZ, simprocAttr, hn, g1, g2, g3, g4, g5, g11, g12, g13, q1, b1]
  exact ⟨n - 1, by omega, i + 1, qv', by omega, by simp, by rw [hs]; exact hS6.pick [0, 1, 2] (by decide) rfl⟩
 simp (disch := omega) only [↓RA, RZ, simprocAttr, c4F, q1]
 have hii : i = o.cpls.length := by omega
 subst hii
 exact ⟨qv', hS2.pick [0, 1] (by decide) rfl⟩
theorem a5L (o : Org) (ho : o.In H) (hf : o.Fine) (r : Reg) (sv : Value) (hr : r.In H sv) (fv : Value) (first : List Ct) (hfi : Sl 2 jP H fv first) (hfl : first.length ≤ 1024) :
 Fn prog 76 [.agg #[.string o.name, o.rv, o.dv, o.cv], .agg #[sv, .int .u64 r.cpl, .int .u64 r.off], fv] H fun rr H' => St prog H H' [⟨rr, 2, pr (bfs o r.cpl 1100 0 (kH o r.cpl first))⟩] := by
 refine .bd func76 rfl (by kernel_rfl) (m := 36) rfl fun l hn g0 g1 g2 => ?_
 simp (disch := omega) only [↓RA, RB, simprocAttr, g0]
 refine (sR H).eNew 4 [(.string o.name), o.rv, o.dv, o.cv] rfl rfl (by simp [OC, ((sR H).sl ho.1).cells.2.1, ((sR H).sl ho.2.2.1).cells.2.1, ((sR H).sl ho.2.2.2.2.1).cells.2.1]) lP fun A1 H1 hS1 => ?_
 simp only [RT] at hS1
 simp (disch := omega) only [↓RA, RB, simprocAttr, g1]
 refine hS1.eNew 3 [sv, (.int .u64 r.cpl), (.int .u64 r.off)] rfl rfl (by simp [OC, (hS1.sl hr.1).cells.2.1]) nQ fun A2 H2 hS2 => ?_
 simp only [RT] at hS2
 simp (disch := omega) only [↓RA, RZ, simprocAttr]
 refine hS2.eNew 1 [(.slice none 0 0)] rfl rfl rfl a9J fun A3 H3 hS3 => ?_
 simp only [RT] at hS3
 simp (disch := omega) only [↓RA, RZ, simprocAttr, hn, g2, (hS3.sl hfi).len]
 have hS4 := hS3.nil 1
 simp only [RT] at hS4
 refine Wp.ak (fun n l H' => l.length = 36 ∧ get l 6 = (.slice none 0 0) ∧ get l 7 = (ptr A3 0 1) ∧ get l 8 = (.func (.func 105) #[] #[(ptr A1 0 4), (ptr A2 0 3), (ptr A3 0 1)]) ∧ get l 13 = fv ∧ get l 14 = I first.length ∧ ∃ (i : Nat) (qv : Value), (n + i = first.length) ∧ get l 15 = I i ∧ St prog H H' [⟨ptr A1 0 4, 0, [(.string o.name), o.rv, o.dv, o.cv]⟩, ⟨ptr A2 0 3, 0, [sv, (.int .u64 r.cpl), (.int .u64 r.off)]⟩, ⟨ptr A3 0 1, 0, [qv]⟩, ⟨qv, 2, pr (kH o r.cpl (first.take i))⟩]) first.length ?_ ?_
 ·simp (disch := omega) only [RB, RC, simprocAttr, hn]
  refine ⟨0, .slice none 0 0, by omega, rfl, ?_⟩
  rw [show kH o r.cpl (first.take 0) = [] from rfl]
  exact hS4
 rintro n l H4 ⟨hn, g6, g7, g8, g13, g14, i, qv, hi, g15, hS5⟩
 simp (disch := omega) only [↓RA, RB, simprocAttr, hn, g14, g15]
 refine iA (fun q1 => ?_) (fun q1 => ?_)
 ·have hqu := oC o r.cpl (first.take i)
  have hqs := a1l o r.cpl first i (by omega)
  simp (disch := omega) only [↓RA, RZ, simprocAttr, hn, g13, g15, (hS5.sl hfi).idx, (hS5.sl hfi).ae, jP, q1]
  refine hS5.eNew 2 [I 0, I 0] rfl rfl rfl lA fun A4 H5 hS6 => ?_
  simp only [RT] at hS6
  simp (disch := omega) only [↓RA, RZ, simprocAttr, hn, q1]
  refine hS6.aa 4 rfl [I (iB first i).1, I (iB first i).2] rfl rfl lA (by simp) fun H6 hS7 => ?_
  simp only [RT] at hS7
  simp (disch := omega) only [↓RA, RZ, simprocAttr, hn, g8, hS7.ae 4 rfl, q1]
  have hM1 := hS7.pick (os' := [⟨ptr A3 0 1, 0, _⟩, ⟨qv, 2, _⟩]) [2, 3] (by decide) rfl
  have hR1 := hS7.pick (os' := [⟨ptr A3 0 1, 0, _⟩, ⟨qv, 2, _⟩, ⟨ptr A1 0 4, 0, _⟩, ⟨ptr A2 0 3, 0, _⟩, ⟨ptr A4 0 2, 0, _⟩]) [2, 3, 0, 1, 4] (by decide) rfl
  refine iG (a6u o r sv (iB first i) false A1 A2 A3 qv (kH o r.cpl (first.take i)) hM1.aD (fun h => ⟨(hR1.frame h.forget).var 0 rfl, ho.ab (hR1.frame h.forget), (hR1.frame h.forget).var 1 rfl⟩) hqu hf hr.2) ?_
  rintro r H7 ⟨qv', rfl, hT1⟩
  have hS8 := hR1.frame hT1
  simp only [RT] at hS8
  simp (disch := omega) only [↓RA, RZ, simprocAttr, hn, g6, g7, g8, g13, g14, g15, q1]
  refine ⟨n - 1, by omega, i + 1, qv', by omega, by simp, ?_⟩
  rw [hqs]
  exact hS8.pick [2, 3, 0, 1] (by decide) rfl
 simp (disch := omega) only [↓RA, RZ, simprocAttr, q1]
 have hii : i = first.length := by omega
 subst hii
 rw [dS] at hS5
 have hqu := oC o r.cpl first
 refine Wp.ak (fun n l H' => l.length = 36 ∧ get l 6 = (.slice none 0 0) ∧ get l 7 = (ptr A3 0 1) ∧ get l 8 = (.func (.func 105) #[] #[(ptr A1 0 4), (ptr A2 0 3), (ptr A3 0 1)]) ∧ ∃ (j : Nat) (qv : Value) (q : List Ct), (n + j = 1100 ∧ bfs o r.cpl n j q = bfs o r.cpl 1100 0 (kH o r.cpl first) ∧ Que o q) ∧ get l 11 = I j ∧ St prog H H' [⟨ptr A1 0 4, 0, [(.string o.name), o.rv, o.dv, o.cv]⟩, ⟨ptr A2 0 3, 0, [sv, (.int .u64 r.cpl), (.int .u64 r.off)]⟩, ⟨ptr A3 0 1, 0, [qv]⟩, ⟨qv, 2, pr q⟩]) 1100 ?_ ?_
 ·simp (disch := omega) only [RB, RC, simprocAttr, hn, g6, g7, g8]
  exact ⟨0, qv, _, ⟨rfl, rfl, hqu⟩, rfl, hS5⟩
 rintro n l H8 ⟨hn, g6, g7, g8, j, qv, q, ⟨hj,hbf,hqq⟩, g11, hS9⟩
 have hql := hqq.len hf
 simp (disch := omega) only [↓RA, RZ, simprocAttr, hn, g7, g11, hS9.ld 2 rfl, (hS9.aw 3 rfl (fun _ => rfl)).len]
 refine iA (fun q3 => ?_) (fun q3 => ?_)
 ·have hjl : j < q.length := by omega
  simp (disch := omega) only [↓RA, RZ, simprocAttr, hn, g7, g8, g11, hS9.ld 2 rfl, (hS9.aw 3 rfl (fun _ => rfl)).idx, (hS9.aw 3 rfl (fun _ => rfl)).ae, jP, q3]
  have hM2 := hS9.pick (os' := [⟨ptr A3 0 1, 0, _⟩, ⟨qv, 2, _⟩]) [2, 3] (by decide) rfl
  have hR2 := hS9.pick (os' := [⟨ptr A3 0 1, 0, _⟩, ⟨qv, 2, _⟩, ⟨ptr A1 0 4, 0, _⟩, ⟨ptr A2 0 3, 0, _⟩]) [2, 3, 0, 1] (by decide) rfl
  refine iG (a6u o r sv (iB q j) true A1 A2 A3 qv q hM2.aD (fun h => ⟨(hR2.frame h.forget).var 0 rfl, ho.ab (hR2.frame h.forget), (hR2.frame h.forget).var 1 rfl⟩) hqq hf hr.2) ?_
  rintro r H9 ⟨qv', rfl, hT2⟩
  have hS10 := hR2.frame hT2
  simp only [RT] at hS10
  simp (disch := omega) only [↓RA, RZ, simprocAttr, hn, g6, g7, g8, g11, q3]
  obtain ⟨n', rfl⟩ : ∃ n', n = n' + 1 := ⟨n - 1, by omega⟩
  rw [bfs, if_pos hjl] at hbf
  exact ⟨n', by omega, j + 1, qv', _, ⟨by omega, hbf, hqq.stepF _ _ _⟩, by simp, hS10.pick [2, 3, 0, 1] (by decide) rfl⟩
 have hbq : bfs o r.cpl 1100 0 (kH o r.cpl first) = q := by
  rw [← hbf]
  cases n with
  | zero => rfl
  | succ n => rw [bfs, if_neg (by omega)]
 simp (disch := omega) only [↓RA, RZ, simprocAttr, hn, g7, hS9.ld 2 rfl, c7y, q3]
 rw [hbq]
 exact hS9.pick [3] (by decide) rfl
theorem a6A {o : Org} {r : Reg} {l q : List Ct} (hq : Que o q) (hl : ∀ c ∈ l, kY o c = true) : Que o (l.foldl (sY r) q) :=
 ⟨xJ hq.1, fun c hc => by
  rcases a1W.1 hc with h | h
  ·exact hq.2 c h
  ·exact hl c h.1⟩
theorem c3b {o : Org} (hf : o.Fine) {q : List Ct} (hq : Que o q) : ∀ x ∈ q, sm x := fun x hx => by
 have := vC hf (hq.2 x hx)
 unfold sm
 omega
theorem a3T (o : Org) (ho : o.In H) (hf : o.Fine) (rg : Reg) (sv : Value) (hr : rg.In H sv) (kv : Value) (ks : List Nt) (hk : Ks H kv ks) (h0 : lW o ks = 0) :
 Fn prog 44 [.agg #[.string o.name, o.rv, o.dv, o.cv], .agg #[sv, .int .u64 rg.cpl, .int .u64 rg.off], kv] H fun rr H' => St prog H H' [⟨rr, 2, pr (jY o rg (iF ks))⟩] := by
 have hkl := (nY h0).2.1
 have hple := b9A hk.ok h0
 have hpll := qU h0
 have hplc := pQ hk.ok h0
 refine .bd func44 rfl (by kernel_rfl) (m := 46) rfl fun l hn g0 g1 g2 => ?_
 simp (disch := omega) only [↓RA, RB, simprocAttr, g0]
 refine (sR H).eNew 4 [(.string o.name), o.rv, o.dv, o.cv] rfl rfl (by simp [OC, ((sR H).sl ho.1).cells.2.1, ((sR H).sl ho.2.2.1).cells.2.1, ((sR H).sl ho.2.2.2.2.1).cells.2.1]) lP fun A1 H1 hS1 => ?_
 simp only [RT] at hS1
 simp (disch := omega) only [↓RA, RB, simprocAttr, g1]
 refine hS1.eNew 3 [sv, (.int .u64 rg.cpl), (.int .u64 rg.off)] rfl rfl (by simp [OC, (hS1.sl hr.1).cells.2.1]) nQ fun A2 H2 hS2 => ?_
 simp only [RT] at hS2
 simp (disch := omega) only [↓RA, RZ, simprocAttr, hn, g2, hS2.ae 0 rfl]
 refine iG ((a8G o (ho.ab hS2) hf kv ks (hk.ab hS2) hkl).tr) ?_
 rintro r H3 ⟨-, hT1⟩
 have hS3 := hS2.trans hT1
 simp only [RT] at hS3
 obtain ⟨pv, rfl⟩ : ∃ w, w = r := ⟨r, rfl⟩
 rw [hple] at hS3
 simp (disch := omega) only [↓RA, RZ, simprocAttr, hn, hS3.ae 0 rfl, hS3.ae 1 rfl]
 refine iG ((a5L o (ho.ab hS3) hf rg sv (hr.ab hS3) pv (iF ks) (hS3.aw 2 rfl jS) hpll).tr) ?_
 rintro r H4 ⟨-, hT2⟩
 have hS4 := hS3.trans hT2
 simp only [RT] at hS4
 obtain ⟨qv, rfl⟩ : ∃ w, w = r := ⟨r, rfl⟩
 have hQ := a6m rg.cpl 1100 0 _ (xS o rg.cpl (iF ks))
 have hfin : b6i o rg (iF ks) = pI ((iF ks).foldl (sY rg) (bfs o rg.cpl 1100 0 (kH o rg.cpl (iF ks)))) := rfl
 rw [b5D] at hfin
 rw [hfin]
 clear hfin
 simp (disch := omega) only [↓RA, RZ, simprocAttr, hn, (hS4.aw 2 rfl jS).len]
 refine Wp.ak (fun n l H' => l.length = 46 ∧ get l 4 = (ptr A2 0 3) ∧ get l 6 = (.slice none 0 0) ∧ get l 18 = pv ∧ get l 19 = I (iF ks).length ∧ ∃ (i : Nat) (ov : Value), (n + i = (iF ks).length) ∧ get l 20 = I i ∧ get l 8 = ov ∧ St prog H H' [⟨ptr A1 0 4, 0, [(.string o.name), o.rv, o.dv, o.cv]⟩, ⟨ptr A2 0 3, 0, [sv, (.int .u64 rg.cpl), (.int .u64 rg.off)]⟩, ⟨pv, 2, pr (iF ks)⟩, ⟨ov, 2, pr (((iF ks).take i).foldl (sY rg) (bfs o rg.cpl 1100 0 (kH o rg.cpl (iF ks))))⟩]) (iF ks).length ?_ ?_
 ·simp (disch := omega) only [RB, RC, simprocAttr, hn]
  exact ⟨0, qv, by omega, rfl, rfl, hS4⟩
 rintro n l H5 ⟨hn, g4, g6, g18, g19, i, ov, hi, g20, g8, hS5⟩
 simp (disch := omega) only [↓RA, RB, simprocAttr, hn, g19, g20]
 refine iA (fun q1 => ?_) (fun q1 => ?_)
 ·have hci := (kM o _).1 (hplc _ (iD (xs := iF ks) (j := i) (by omega)))
  have hqi : Que o (((iF ks).take i).foldl (sY rg) (bfs o rg.cpl 1100 0 (kH o rg.cpl (iF ks)))) := a6A hQ fun c hc => hplc c (fV hc)
  have hql := hqi.len hf
  have hsu : ((iF ks).take (i + 1)).foldl (sY rg) (bfs o rg.cpl 1100 0 (kH o rg.cpl (iF ks))) = sY rg (((iF ks).take i).foldl (sY rg) (bfs o rg.cpl 1100 0 (kH o rg.cpl (iF ks)))) (iB (iF ks) i) := by
   rw [kG _ i (by omega), fz]
   rfl
  generalize ((iF ks).take i).foldl (sY rg) (bfs o rg.cpl 1100 0 (kH o rg.cpl (iF ks))) = Q at *
  have hd8 := hf.dlen
  obtain ⟨d, hd⟩ : ∃ d : Nat, (iB (iF ks) i).1.toNat = d := ⟨_, rfl⟩
  have hwd : IntKind.wrap .u64 (iB (iF ks) i).1 = ((d : Nat) : Int) := by rw [nB _ (by omega) (by omega)]; omega
  have e1 := a0i rg.off d hr.2.2.2.2
  have e2 := zW (rg.off >>> d) (tI _ hr.2.2.2.2)
  have e3 := tb rg.off d
  simp (disch := omega) only [↓RA, RZ, simprocAttr, hn, g18, g20, (hS5.aw 2 rfl jS).idx, (hS5.aw 2 rfl jS).ae, jP, q1]
  refine hS5.eNew 2 [I 0, I 0] rfl rfl rfl lA fun A3 H6 hS6 => ?_
  simp only [RT] at hS6
  simp (disch := omega) only [↓RA, RZ, simprocAttr, hn, q1]
  refine hS6.aa 4 rfl [I (iB (iF ks) i).1, I (iB (iF ks) i).2] rfl rfl lA (by simp) fun H7 hS7 => ?_
  simp only [RT] at hS7
  simp (disch := omega) only [↓RA, RZ, simprocAttr, hn, g4, hS7.ld 1 rfl, hS7.ld 4 rfl, q1, e1, e2, hwd]
  refine jI (fun q2 => ?_) (fun q2 => ?_)
  ·have hb : rg.off.testBit (iB (iF ks) i).1.toNat = false := by rw [hd, e3]; exact decide_eq_false (by omega)
   simp (disch := omega) only [↓RA, RZ, simprocAttr, hn, g8, hS7.ae 4 rfl, q1, q2]
   refine hS7.cF (a2u ov Q (hS7.aw 3 rfl jS) (by omega) (iB (iF ks) i)) fun H8 hS8 => ?_
   simp (disch := omega) only [↓RA, RZ, simprocAttr, hn, q1, q2]
   refine jM (fun q3 => ?_) (fun q3 => ?_)
   ·have hs : sY rg Q (iB (iF ks) i) = Q ++ [iB (iF ks) i] := by unfold sY; rw [if_pos (by rw [hb]; simpa using q3)]
    simp (disch := omega) only [↓RA, RZ, simprocAttr, hn, g8, hS8.ae 4 rfl, q1, q2, q3]
    refine hS8.ai [I (iB (iF ks) i).1, I (iB (iF ks) i).2] qP a1Z rfl rfl (by simp [Value.cells]) rfl rfl (by decide) (by decide) fun w1 H9 hS9 => ?_
    simp only [RT] at hS9
    simp (disch := omega) only [↓RA, RZ, simprocAttr, hn, q1, q2, q3]
    refine hS9.aq 3 rfl (hS9.rd 5 rfl) qP (by rw [iJ]; simp; omega) fun w2 H10 hS10 => ?_
    simp only [RT] at hS10
    simp (disch := omega) only [↓RA, RZ, simprocAttr, hn, g4, g6, g18, g19, g20, q1, q2, q3]
    refine ⟨n - 1, by omega, i + 1, w2, by omega, by simp, rfl, ?_⟩
    rw [hsu, hs, jJ]
    exact hS10.pick [0, 1, 2, 3] (by decide) rfl
   have hs : sY rg Q (iB (iF ks) i) = Q := by unfold sY; rw [if_neg (by rw [hb]; simpa using q3)]
   simp (disch := omega) only [↓RA, RZ, simprocAttr, hn, g4, g6, g18, g19, g20, g8, q1, q2, q3]
   refine ⟨n - 1, by omega, i + 1, ov, by omega, by simp, rfl, ?_⟩
   rw [hsu, hs]
   exact hS8.pick [0, 1, 2, 3] (by decide) rfl
  have hb : rg.off.testBit (iB (iF ks) i).1.toNat = true := by rw [hd, e3]; exact decide_eq_true (by omega)
  have hs : sY rg Q (iB (iF ks) i) = Q := by unfold sY; rw [if_neg (by rw [hb]; simp)]
  simp (disch := omega) only [↓RA, RZ, simprocAttr, hn, g4, g6, g18, g19, g20, g8, q1, q2]
  refine ⟨n - 1, by omega, i + 1, ov, by omega, by simp, rfl, ?_⟩
  rw [hsu, hs]
  exact hS7.pick [0, 1, 2, 3] (by decide) rfl
 simp (disch := omega) only [↓RA, RZ, simprocAttr, hn, g8, q1]
 have hii : i = (iF ks).length := by omega
 rw [hii, dS] at hS5
 have hqn : Que o ((iF ks).foldl (sY rg) (bfs o rg.cpl 1100 0 (kH o rg.cpl (iF ks)))) := a6A hQ hplc
 have hql := hqn.len hf
 refine c4K hS5 3 rfl (by omega) (c3b hf hqn) fun HS hSS => ?_
 simp only [fO, ff] at hSS
 simp (disch := omega) only [↓RA, RZ, simprocAttr, hn, g8, c7M, q1]
 exact hSS.pick [3] (by decide) rfl
theorem a7m {m : Nat} {l : List Drw} (h : kZ m l = 0) : l.length ≤ 8 ∧ ∀ q, q < l.length → 0 ≤ (iB l q).rank ∧ (iB l q).rank < m := by
 unfold kZ at h
 split at h
 ·omega
 refine ⟨by omega, fun q hq => ?_⟩
 have e := oI h q hq
 unfold kO at e
 split at e
 ·omega
 ·omega
def vF (o : Org) (rg : Reg) (j i : Nat) (z : Int) (k : Nat) : List Ct := if (iB rg.stops j).testBit i then ((iB (iB o.dvs j).stops i).segs.take k).flatMap fun g => sA o g z else []
def dr3 (o : Org) (z : Int) (l : List Drw) : List Ct := (l.filter fun d => rK o.ranks d z).map fun d => mM o.ranks d z
theorem b8e (o : Org) (z : Int) (l : List Drw) : (dr3 o z l).length ≤ l.length := by
 unfold dr3
 rw [ef]
 exact ek _ _
theorem b7W (o : Org) (z : Int) (l : List Drw) (q : Nat) (h : q < l.length) : dr3 o z (l.take (q + 1)) = dr3 o z (l.take q) ++ (if rK o.ranks (iB l q) z then [mM o.ranks (iB l q) z] else []) := by
 unfold dr3
 rw [kG l q h, eQ, dQ]
 congr 1
 cases e : rK o.ranks (iB l q) z <;> simp [e]
theorem b5N {o : Org} (g : Seg) (z : Int) (h : g.draws.length ≤ 8) : (sA o g z).length ≤ 8 := by
 unfold sA
 split
 ·exact dC (b8e o z g.draws) h
 ·simp
theorem b2r {o : Org} (z : Int) : ∀ (gs : List Seg), (∀ g ∈ gs, g.draws.length ≤ 8) → (gs.flatMap fun g => sA o g z).length ≤ gs.length * 8
 | [], _ => by simp
 | g :: gs, h => by
   have h1 := b5N (o := o) g z (h g (dI ..))
   have h2 := b2r (o := o) z gs fun x hx => h x (dO _ hx)
   rw [dA, dp, dU]
   omega
theorem c0C {o : Org} (rg : Reg) (j i : Nat) (z : Int) (k : Nat) (h : ∀ g ∈ (iB (iB o.dvs j).stops i).segs, g.draws.length ≤ 8) (h2 : (iB (iB o.dvs j).stops i).segs.length ≤ 12) : (vF o rg j i z k).length ≤ 96 := by
 unfold vF
 split
 ·have h1 := b2r (o := o) z ((iB (iB o.dvs j).stops i).segs.take k) fun g hg => h g (fV hg)
  have h3 := List.length_take_le k (iB (iB o.dvs j).stops i).segs
  have h4 : ((iB (iB o.dvs j).stops i).segs.take k).length ≤ (iB (iB o.dvs j).stops i).segs.length := by rw [fL]; omega
  omega
 ·simp
theorem a4S (o : Org) (rg : Reg) (j i : Nat) (z : Int) : vM o rg ((j : Int), z) i = vF o rg j i z (iB (iB o.dvs j).stops i).segs.length := by
 unfold vM vF
 simp only [dJ]
 rw [dS]
theorem a4M {o : Org} (rg : Reg) (j : Nat) (z : Int) (h : ∀ i, i < (iB o.dvs j).stops.length → (vF o rg j i z (iB (iB o.dvs j).stops i).segs.length).length ≤ 96) : ∀ i, i ≤ (iB o.dvs j).stops.length → ((List.range i).flatMap (vM o rg ((j : Int), z))).length ≤ i * 96
 | 0, _ => by simp
 | i + 1, hi => by
   have h1 := a4M rg j z h i (by omega)
   have h2 := h i (by omega)
   rw [dY, dD, dp, dA, ez, dm, a4S]
   omega
theorem b5s (o : Org) (ho : o.In H) (h0 : organE o = 0) (rg : Reg) (sv : Value) (hr : rg.In H sv) (hrl : rg.stops.length = o.dvs.length) (j : Nat) (z : Int) (hc : kY o ((j : Int), z) = true) :
 Fn prog 45 [.agg #[.string o.name, o.rv, o.dv, o.cv], .agg #[sv, .int .u64 rg.cpl, .int .u64 rg.off], .agg #[I j, I z]] H fun rr H' => Slx 2 jP H' (fun B => H.length ≤ B) rr (dd (pI (pY o rg ((j : Int), z)))) ∧ St prog H H' [] := by
 have hf := Org.aH h0
 have hcc := (kM o _).1 hc
 simp only [dJ] at hcc
 have hj : j < o.dvs.length := by omega
 have hky := hf.keys j hj
 have hst := hf.stops j hj
 have hsb : ∀ i, i < (iB o.dvs j).stops.length → iB (iB o.dvs j).stops i ∈ (iB o.dvs j).stops := fun i hi => iD hi
 have hsl : ∀ i, i < (iB o.dvs j).stops.length → ∀ k, (vF o rg j i z k).length ≤ 96 := fun i hi k => c0C rg j i z k (hf.draws j hj _ (hsb i hi)) (a0S h0 hj (hsb i hi)).len
 have hdl := a4M rg j z fun i hi => hsl i hi _
 refine .bd func45 rfl (by kernel_rfl) (m := 108) rfl fun l hn g0 g1 g2 => ?_
 simp (disch := omega) only [↓RA, RB, simprocAttr, g0]
 refine (sR H).eNew 4 [(.string o.name), o.rv, o.dv, o.cv] rfl rfl (by simp [OC, ((sR H).sl ho.1).cells.2.1, ((sR H).sl ho.2.2.1).cells.2.1, ((sR H).sl ho.2.2.2.2.1).cells.2.1]) lP fun A1 H1 hS1 => ?_
 simp only [RT] at hS1
 simp (disch := omega) only [↓RA, RB, simprocAttr, g1]
 refine hS1.eNew 3 [sv, (.int .u64 rg.cpl), (.int .u64 rg.off)] rfl rfl (by simp [OC, (hS1.sl hr.1).cells.2.1]) nQ fun A2 H2 hS2 => ?_
 simp only [RT] at hS2
 simp (disch := omega) only [↓RA, RB, simprocAttr, g2]
 refine hS2.eNew 2 [I j, I z] rfl rfl rfl lA fun A3 H3 hS3 => ?_
 simp only [RT] at hS3
 simp (disch := omega) only [↓RA, RZ, simprocAttr, hn, hS3.ld 0 rfl, hS3.ld 2 rfl, (hS3.sl ho.2.2.1).idx, (hS3.sl ho.2.2.1).aY, (hS3.sl ho.2.2.1).ld, Dvn.cells, (hS3.sl (ho.2.2.2.1 (iB o.dvs j) (iD (by omega))).1).len]
 have hS4 := hS3.nil 1
 simp only [RT] at hS4
 refine Wp.ak (fun n l H' => l.length = 108 ∧ get l 3 = (ptr A1 0 4) ∧ get l 4 = (ptr A2 0 3) ∧ get l 5 = (ptr A3 0 2) ∧ get l 6 = (.slice none 0 0) ∧ get l 21 = (iB o.dvs j).sv ∧ get l 22 = I (iB o.dvs j).stops.length ∧ ∃ (i : Nat) (ov : Value), (n + i = (iB o.dvs j).stops.length) ∧ get l 23 = I i ∧ get l 7 = ov ∧ St prog H H' [⟨ptr A1 0 4, 0, [(.string o.name), o.rv, o.dv, o.cv]⟩, ⟨ptr A2 0 3, 0, [sv, (.int .u64 rg.cpl), (.int .u64 rg.off)]⟩, ⟨ptr A3 0 2, 0, [I j, I z]⟩, ⟨ov, 2, pr ((List.range i).flatMap (vM o rg ((j : Int), z)))⟩]) (iB o.dvs j).stops.length ?_ ?_
 ·simp (disch := omega) only [RB, RC, simprocAttr, hn]
  exact ⟨0, .slice none 0 0, by omega, rfl, rfl, hS4⟩
 rintro n l H4 ⟨hn, g3, g4, g5, g6, g21, g22, i, ov, hi, g23, g7, hS5⟩
 simp (disch := omega) only [↓RA, RB, simprocAttr, hn, g22, g23]
 refine iA (fun q1 => ?_) (fun q1 => ?_)
 ·have hil : i < (iB o.dvs j).stops.length := by omega
  have hso := a0S h0 hj (hsb i hil)
  have hsu : (List.range (i + 1)).flatMap (vM o rg ((j : Int), z)) = (List.range i).flatMap (vM o rg ((j : Int), z)) ++ vF o rg j i z (iB (iB o.dvs j).stops i).segs.length := by
   rw [dY, dD, dA, ez, dm, a4S]
  have hpl := hdl i (by omega)
  have hsn : (iB (iB o.dvs j).stops i).segs.length < 1000000000 := ((ho.2.2.2.1 _ (iD hj)).2.1 _ (hsb i hil)).2.2
  have e1 := a0i (iB rg.stops j) i (hr.2.2.1 _ (iD (by omega)))
  have e2 := zW ((iB rg.stops j) >>> i) (tI _ (hr.2.2.1 _ (iD (by omega))))
  have e3 := tb (iB rg.stops j) i
  simp (disch := omega) only [↓RA, RZ, simprocAttr, hn, g21, g23, (hS5.sl (ho.2.2.2.1 (iB o.dvs j) (iD (by omega))).1).idx, (hS5.sl (ho.2.2.2.1 (iB o.dvs j) (iD (by omega))).1).ae, Stp.cells, q1]
  refine hS5.eNew 4 [(.string ⟨#[]⟩), I 0, I 0, (.slice none 0 0)] rfl rfl rfl oH fun A4 H5 hS6 => ?_
  simp only [RT] at hS6
  simp (disch := omega) only [↓RA, RZ, simprocAttr, hn, q1]
  refine hS6.aa 4 rfl [(.string (iB (iB o.dvs j).stops i).name), I (iB (iB o.dvs j).stops i).num, I (iB (iB o.dvs j).stops i).den, (iB (iB o.dvs j).stops i).gv] rfl (by simp [OC, (hS6.sl ((ho.2.2.2.1 (iB o.dvs j) (iD (by omega))).2.1 (iB (iB o.dvs j).stops i) (iD (by omega))).1).cells.2.1]) oH (by simp) fun H6 hS7 => ?_
  simp only [RT] at hS7
  simp (disch := omega) only [↓RA, RZ, simprocAttr, hn, hS7.ld 4 rfl, (hS7.sl ((ho.2.2.2.1 (iB o.dvs j) (iD (by omega))).2.1 (iB (iB o.dvs j).stops i) (iD (by omega))).1).len, q1]
  refine Wp.ak (fun n l H' => l.length = 108 ∧ get l 3 = (ptr A1 0 4) ∧ get l 4 = (ptr A2 0 3) ∧ get l 5 = (ptr A3 0 2) ∧ get l 6 = (.slice none 0 0) ∧ get l 8 = I i ∧ get l 21 = (iB o.dvs j).sv ∧ get l 22 = I (iB o.dvs j).stops.length ∧ get l 23 = I i ∧ get l 29 = (iB (iB o.dvs j).stops i).gv ∧ get l 30 = I (iB (iB o.dvs j).stops i).segs.length ∧ ∃ (k : Nat) (ow : Value), (n + k = (iB (iB o.dvs j).stops i).segs.length) ∧ get l 31 = I k ∧ get l 7 = ow ∧ St prog H H' [⟨ptr A1 0 4, 0, [(.string o.name), o.rv, o.dv, o.cv]⟩, ⟨ptr A2 0 3, 0, [sv, (.int .u64 rg.cpl), (.int .u64 rg.off)]⟩, ⟨ptr A3 0 2, 0, [I j, I z]⟩, ⟨ow, 2, pr ((List.range i).flatMap (vM o rg ((j : Int), z)) ++ vF o rg j i z k)⟩, ⟨ptr A4 0 4, 0, [(.string (iB (iB o.dvs j).stops i).name), I (iB (iB o.dvs j).stops i).num, I (iB (iB o.dvs j).stops i).den, (iB (iB o.dvs j).stops i).gv]⟩]) (iB (iB o.dvs j).stops i).segs.length ?_ ?_
  ·simp (disch := omega) only [RB, RC, simprocAttr, hn, g3, g4, g5, g6, g21, g22, g23, g7]
   refine ⟨0, ov, by omega, rfl, rfl, ?_⟩
   rw [show vF o rg j i z 0 = [] from by unfold vF; split <;> rfl, dm]
   exact hS7
  rintro n l H7 ⟨hn, g3, g4, g5, g6, g8, g21, g22, g23, g29, g30, k, ow, hk, g31, g7, hS8⟩
  simp (disch := omega) only [↓RA, RB, simprocAttr, hn, g30, g31]
  refine iA (fun q2 => ?_) (fun q2 => ?_)
  ·have hkl : k < (iB (iB o.dvs j).stops i).segs.length := by omega
   have hsk := hsl i hil k
   have hgd := hso.draws k hkl
   have hgd2 := a7m hgd
   simp (disch := omega) only [↓RA, RZ, simprocAttr, hn, g29, g31, (hS8.sl ((ho.2.2.2.1 (iB o.dvs j) (iD (by omega))).2.1 (iB (iB o.dvs j).stops i) (iD (by omega))).1).idx, (hS8.sl ((ho.2.2.2.1 (iB o.dvs j) (iD (by omega))).2.1 (iB (iB o.dvs j).stops i) (iD (by omega))).1).ae, Seg.cells, q2]
   refine hS8.eNew 3 [I 0, I 0, (.slice none 0 0)] rfl rfl rfl yV fun A5 H8 hS9 => ?_
   simp only [RT] at hS9
   simp (disch := omega) only [↓RA, RZ, simprocAttr, hn, q2]
   refine hS9.aa 5 rfl [I (iB (iB (iB o.dvs j).stops i).segs k).lo, I (iB (iB (iB o.dvs j).stops i).segs k).hi, (iB (iB (iB o.dvs j).stops i).segs k).dv] rfl (by simp [OC, (hS9.sl (((ho.2.2.2.1 (iB o.dvs j) (iD (by omega))).2.1 (iB (iB o.dvs j).stops i) (iD (by omega))).2.1 (iB (iB (iB o.dvs j).stops i).segs k) (iD (by omega))).1).cells.2.1]) yV (by simp) fun H9 hS10 => ?_
   simp only [RT] at hS10
   simp (disch := omega) only [↓RA, RZ, simprocAttr, hn, g4, g5, g8, hS10.ld 1 rfl, hS10.ld 2 rfl, (hS10.sl hr.1).idx, (hS10.sl hr.1).ld, one, u64, q2, e1, e2]
   refine iL (fun q3 => ?_) (fun q3 => ?_)
   ·have hb : (iB rg.stops j).testBit i = false := by rw [e3]; exact decide_eq_false (by omega)
    have hsg : ∀ k, vF o rg j i z k = [] := fun k => by unfold vF; rw [if_neg (by rw [hb]; simp)]
    simp (disch := omega) only [↓RA, RZ, simprocAttr, hn, g3, g4, g5, g6, g8, g21, g22, g23, g29, g30, g31, g7, q2, q3]
    refine ⟨n - 1, by omega, k + 1, ow, by omega, by simp, rfl, ?_⟩
    rw [hsg, ← hsg k]
    exact hS10.pick [0, 1, 2, 3, 4] (by decide) rfl
   have hb : (iB rg.stops j).testBit i = true := by rw [e3]; exact decide_eq_true (by omega)
   have hsg : vF o rg j i z (k + 1) = vF o rg j i z k ++ sA o (iB (iB (iB o.dvs j).stops i).segs k) z := by
    unfold vF
    rw [if_pos hb, if_pos hb, List.take_add_one, dq hkl, Option.toList_some, ← jL _ k hkl, dD, dA, ez, dm]
   simp (disch := omega) only [↓RA, RZ, simprocAttr, hn, g5, hS10.ld 2 rfl, hS10.ld 5 rfl, q2, q3]
   refine iL (fun q4 => ?_) (fun q4 => ?_)
   ·have hd1 : sA o (iB (iB (iB o.dvs j).stops i).segs k) z = [] := by unfold sA; rw [if_neg (by omega)]
    simp (disch := omega) only [↓RA, RZ, simprocAttr, hn, g3, g4, g5, g6, g8, g21, g22, g23, g29, g30, g31, g7, q2, q3, q4]
    refine ⟨n - 1, by omega, k + 1, ow, by omega, by simp, rfl, ?_⟩
    rw [hsg, hd1, dm]
    exact hS10.pick [0, 1, 2, 3, 4] (by decide) rfl
   simp (disch := omega) only [↓RA, RZ, simprocAttr, hn, g5, hS10.ld 2 rfl, hS10.ld 5 rfl, q2, q3, q4]
   refine iA (fun q5 => ?_) (fun q5 => ?_)
   ·have hd1 : sA o (iB (iB (iB o.dvs j).stops i).segs k) z = [] := by unfold sA; rw [if_neg (by omega)]
    simp (disch := omega) only [↓RA, RZ, simprocAttr, hn, g3, g4, g5, g6, g8, g21, g22, g23, g29, g30, g31, g7, q2, q3, q4, q5]
    refine ⟨n - 1, by omega, k + 1, ow, by omega, by simp, rfl, ?_⟩
    rw [hsg, hd1, dm]
    exact hS10.pick [0, 1, 2, 3, 4] (by decide) rfl
   have hd1 : sA o (iB (iB (iB o.dvs j).stops i).segs k) z = dr3 o z (iB (iB (iB o.dvs j).stops i).segs k).draws := by unfold sA; rw [if_pos (by omega)]; rfl
   have hsm2 : (vF o rg j i z k).length ≤ 96 := hsk
   simp (disch := omega) only [↓RA, RZ, simprocAttr, hn, hS10.ld 5 rfl, (hS10.sl (((ho.2.2.2.1 (iB o.dvs j) (iD (by omega))).2.1 (iB (iB o.dvs j).stops i) (iD (by omega))).2.1 (iB (iB (iB o.dvs j).stops i).segs k) (iD (by omega))).1).len, q2, q3, q4, q5]
   refine Wp.ak (fun n l H' => l.length = 108 ∧ get l 3 = (ptr A1 0 4) ∧ get l 4 = (ptr A2 0 3) ∧ get l 5 = (ptr A3 0 2) ∧ get l 6 = (.slice none 0 0) ∧ get l 8 = I i ∧ get l 21 = (iB o.dvs j).sv ∧ get l 22 = I (iB o.dvs j).stops.length ∧ get l 23 = I i ∧ get l 29 = (iB (iB o.dvs j).stops i).gv ∧ get l 30 = I (iB (iB o.dvs j).stops i).segs.length ∧ get l 31 = I k ∧ get l 61 = (iB (iB (iB o.dvs j).stops i).segs k).dv ∧ get l 62 = I (iB (iB (iB o.dvs j).stops i).segs k).draws.length ∧ ∃ (q : Nat) (oy : Value), (n + q = (iB (iB (iB o.dvs j).stops i).segs k).draws.length) ∧ get l 63 = I q ∧ get l 7 = oy ∧ St prog H H' [⟨ptr A1 0 4, 0, [(.string o.name), o.rv, o.dv, o.cv]⟩, ⟨ptr A2 0 3, 0, [sv, (.int .u64 rg.cpl), (.int .u64 rg.off)]⟩, ⟨ptr A3 0 2, 0, [I j, I z]⟩, ⟨oy, 2, pr ((List.range i).flatMap (vM o rg ((j : Int), z)) ++ vF o rg j i z k ++ dr3 o z ((iB (iB (iB o.dvs j).stops i).segs k).draws.take q))⟩, ⟨ptr A4 0 4, 0, [(.string (iB (iB o.dvs j).stops i).name), I (iB (iB o.dvs j).stops i).num, I (iB (iB o.dvs j).stops i).den, (iB (iB o.dvs j).stops i).gv]⟩, ⟨ptr A5 0 3, 0, [I (iB (iB (iB o.dvs j).stops i).segs k).lo, I (iB (iB (iB o.dvs j).stops i).segs k).hi, (iB (iB (iB o.dvs j).stops i).segs k).dv]⟩]) (iB (iB (iB o.dvs j).stops i).segs k).draws.length ?_ ?_
   ·simp (disch := omega) only [RB, RC, simprocAttr, hn, g3, g4, g5, g6, g8, g21, g22, g23, g29, g30, g31, g7]
    refine ⟨0, ow, by omega, rfl, rfl, ?_⟩
    rw [List.take_zero, show dr3 o z [] = [] from rfl, dm]
    exact hS10
   rintro n l H10 ⟨hn, g3, g4, g5, g6, g8, g21, g22, g23, g29, g30, g31, g61, g62, q, oy, hq, g63, g7, hS11⟩
   simp (disch := omega) only [↓RA, RB, simprocAttr, hn, g62, g63]
   refine iA (fun q6 => ?_) (fun q6 => ?_)
   ·have hql : q < (iB (iB (iB o.dvs j).stops i).segs k).draws.length := by omega
    have hdr := hgd2.2 q hql
    obtain ⟨e, he⟩ : ∃ e : Nat, (iB (iB (iB (iB o.dvs j).stops i).segs k).draws q).rank = e := ⟨(iB (iB (iB (iB o.dvs j).stops i).segs k).draws q).rank.toNat, by omega⟩
    have hel : e < o.ranks.length := by omega
    have hd3 := b7W o z (iB (iB (iB o.dvs j).stops i).segs k).draws q hql
    have hd3l := b8e o z ((iB (iB (iB o.dvs j).stops i).segs k).draws.take q)
    have hwl : (iB o.ranks e).wind.length < 1000000000 := (ho.2.1 _ (iD hel)).2
    have htl := List.length_take_le q (iB (iB (iB o.dvs j).stops i).segs k).draws
    have hp1 : mM o.ranks (iB (iB (iB (iB o.dvs j).stops i).segs k).draws q) z = ((e : Int), nC (nC (z + (iB (iB (iB (iB o.dvs j).stops i).segs k).draws q).shift) - (iB o.ranks e).first)) := by
     unfold mM
     rw [if_neg (by omega), he]
     rfl
    have hhp : rK o.ranks (iB (iB (iB (iB o.dvs j).stops i).segs k).draws q) z = (decide (0 ≤ nC (nC (z + (iB (iB (iB (iB o.dvs j).stops i).segs k).draws q).shift) - (iB o.ranks e).first)) && decide (nC (nC (z + (iB (iB (iB (iB o.dvs j).stops i).segs k).draws q).shift) - (iB o.ranks e).first) < (iB o.ranks e).wind.length)) := by
     unfold rK
     rw [hp1, decide_eq_false (by omega), he]
     rfl
    simp (disch := omega) only [↓RA, RZ, simprocAttr, hn, g61, g63, (hS11.sl (((ho.2.2.2.1 (iB o.dvs j) (iD (by omega))).2.1 (iB (iB o.dvs j).stops i) (iD (by omega))).2.1 (iB (iB (iB o.dvs j).stops i).segs k) (iD (by omega))).1).idx, (hS11.sl (((ho.2.2.2.1 (iB o.dvs j) (iD (by omega))).2.1 (iB (iB o.dvs j).stops i) (iD (by omega))).2.1 (iB (iB (iB o.dvs j).stops i).segs k) (iD (by omega))).1).ae, Drw.cells, q6]
    refine hS11.eNew 2 [I 0, I 0] rfl rfl rfl xB fun A6 H11 hS12 => ?_
    simp only [RT] at hS12
    simp (disch := omega) only [↓RA, RZ, simprocAttr, hn, q6]
    refine hS12.aa 6 rfl [I (iB (iB (iB (iB o.dvs j).stops i).segs k).draws q).rank, I (iB (iB (iB (iB o.dvs j).stops i).segs k).draws q).shift] rfl rfl xB (by simp) fun H12 hS13 => ?_
    simp only [RT] at hS13
    simp (disch := omega) only [↓RA, RZ, simprocAttr, q6]
    refine Wp.drw jZ (by kernel_rfl) ?_
    simp (disch := omega) only [↓RA, RZ, simprocAttr, hn, g3, g5, hS13.ld 2 rfl, hS13.ld 6 rfl, hS13.ld 0 rfl]
    simp (disch := omega) only [↓RA, RZ, simprocAttr, hn, (hS13.sl ho.1).idx, (hS13.sl ho.1).aY, (hS13.sl ho.1).ld, Rk.cells, he]
    refine jI (fun q7 => ?_) (fun q7 => ?_)
    ·simp (disch := omega) only [↓RA, RZ, simprocAttr, hn, g3, hS13.ld 0 rfl, hS13.ld 6 rfl, (hS13.sl ho.1).idx, (hS13.sl ho.1).aY, (hS13.sl ho.1).ld, Rk.cells, (hS13.sl (ho.2.1 (iB o.ranks e) (iD (by omega))).1).len, he, q7]
     refine iA (fun q8 => ?_) (fun q8 => ?_)
     ·have hht : rK o.ranks (iB (iB (iB (iB o.dvs j).stops i).segs k).draws q) z = true := by rw [hhp, decide_eq_true (by omega), decide_eq_true (by omega)]; rfl
      simp (disch := omega) only [↓RA, RZ, simprocAttr, hn, g7, hS13.ld 6 rfl, a8o, he, q7, q8]
      refine hS13.ai [I e, I (nC (nC (z + (iB (iB (iB (iB o.dvs j).stops i).segs k).draws q).shift) - (iB o.ranks e).first))] a7C c2t rfl rfl (by simp [Value.cells]) rfl rfl (by decide) (by decide) fun w1 H13 hS14 => ?_
      simp only [RT] at hS14
      simp (disch := omega) only [↓RA, RZ, simprocAttr, hn, he, q7, q8]
      refine hS14.aq 3 rfl (hS14.rd 7 rfl) a7C (by rw [iJ, dp, dp]; simp only [dU, eH]; omega) fun w2 H14 hS15 => ?_
      simp only [RT] at hS15
      simp (disch := omega) only [↓RA, RZ, simprocAttr, hn, g3, g4, g5, g6, g8, g21, g22, g23, g29, g30, g31, g61, g62, g63, he, q7, q8]
      refine ⟨n - 1, by omega, q + 1, w2, by omega, by simp, rfl, ?_⟩
      rw [hd3, hht, if_pos rfl, hp1, ← ed, jJ]
      exact hS15.pick [0, 1, 2, 3, 4, 5] (by decide) rfl
     have hhf : rK o.ranks (iB (iB (iB (iB o.dvs j).stops i).segs k).draws q) z = false := by rw [hhp, decide_eq_false (show ¬ nC (nC (z + (iB (iB (iB (iB o.dvs j).stops i).segs k).draws q).shift) - (iB o.ranks e).first) < _ by omega), Bool.and_false]
     simp (disch := omega) only [↓RA, RZ, simprocAttr, hn, g3, g4, g5, g6, g8, g21, g22, g23, g29, g30, g31, g61, g62, g63, g7, he, q7, q8]
     refine ⟨n - 1, by omega, q + 1, oy, by omega, by simp, rfl, ?_⟩
     rw [hd3, hhf, if_neg (by simp), dm]
     exact hS13.pick [0, 1, 2, 3, 4, 5] (by decide) rfl
    have hhf : rK o.ranks (iB (iB (iB (iB o.dvs j).stops i).segs k).draws q) z = false := by rw [hhp, decide_eq_false (show ¬ 0 ≤ nC (nC (z + (iB (iB (iB (iB o.dvs j).stops i).segs k).draws q).shift) - (iB o.ranks e).first) by omega), fy]
    simp (disch := omega) only [↓RA, RZ, simprocAttr, hn, g3, g4, g5, g6, g8, g21, g22, g23, g29, g30, g31, g61, g62, g63, g7, he, q7]
    refine ⟨n - 1, by omega, q + 1, oy, by omega, by simp, rfl, ?_⟩
    rw [hd3, hhf, if_neg (by simp), dm]
    exact hS13.pick [0, 1, 2, 3, 4, 5] (by decide) rfl
   simp (disch := omega) only [↓RA, RZ, simprocAttr, hn, g3, g4, g5, g6, g8, g21, g22, g23, g29, g30, g31, g7, q6]
   have hqq : q = (iB (iB (iB o.dvs j).stops i).segs k).draws.length := by omega
   refine ⟨(iB (iB o.dvs j).stops i).segs.length - (k + 1), by omega, k + 1, oy, by omega, by simp, rfl, ?_⟩
   rw [hsg, hd1, ← ed]
   rw [hqq, dS] at hS11
   exact hS11.pick [0, 1, 2, 3, 4] (by decide) rfl
  simp (disch := omega) only [↓RA, RZ, simprocAttr, hn, g3, g4, g5, g6, g21, g22, g23, g7, q2]
  have hkk : k = (iB (iB o.dvs j).stops i).segs.length := by omega
  refine ⟨(iB o.dvs j).stops.length - (i + 1), by omega, i + 1, ow, by omega, by simp, rfl, ?_⟩
  rw [hsu, ← hkk]
  exact hS8.pick [0, 1, 2, 3] (by decide) rfl
 simp (disch := omega) only [↓RA, RZ, simprocAttr, hn, g7, q1]
 have hii : i = (iB o.dvs j).stops.length := by omega
 rw [hii] at hS5
 have hdl2 := hdl _ (di _)
 have hc2 : kY o ((j : Int), z) = true := hc
 have hd3e : (List.range (iB o.dvs j).stops.length).flatMap (vM o rg ((j : Int), z)) = pY o rg ((j : Int), z) := by unfold pY; rfl
 rw [hd3e] at hS5
 rw [hd3e] at hdl2
 have hsm : ∀ x ∈ pY o rg ((j : Int), z), sm x := fun x hx => (xM ((wF h0 hc2).1 hx)).small hf ho
 refine c1H hS5 3 rfl (by omega) hsm fun HS hSS => ?_
 simp only [fO, ff] at hSS
 simp (disch := omega) only [↓RA, RZ, simprocAttr, hn, g7, q1]
 have hM1 := hSS.pick (os' := [⟨ov, 2, _⟩]) [3] (by decide) rfl
 have hR1 := hSS.pick (os' := [⟨ov, 2, _⟩, ⟨ptr A1 0 4, 0, _⟩, ⟨ptr A2 0 3, 0, _⟩, ⟨ptr A3 0 2, 0, _⟩]) [3, 0, 1, 2] (by decide) rfl
 refine iG (rP hM1.aD (by rw [lY]; omega)) ?_
 rintro r H15 ⟨rest, hb, hrd, hT1⟩
 have hS16 := hR1.frame hT1
 simp only [RT] at hS16
 have hrr := hrd _ (hS16.rd 0 rfl)
 have hrc := hrr.cells
 simp (disch := omega) only [↓RA, RZ, simprocAttr, hn, c7T, q1]
 refine ⟨⟨⟨hrr, jS, by decide⟩, fun b h => ?_⟩, hS16.forget⟩
 rcases hS16.new _ (dI ..) b (hb b h) with h | h
 ·exact h
 ·exact h.elim
theorem b0V (o : Org) (ho : o.In H) (h0 : organE o = 0) (rg : Reg) (sv : Value) (hr : rg.In H sv) (hrl : rg.stops.length = o.dvs.length) (c : Ct) (hc : kY o c = true) :
 Fn prog 45 [.agg #[.string o.name, o.rv, o.dv, o.cv], .agg #[sv, .int .u64 rg.cpl, .int .u64 rg.off], .agg #[I c.1, I c.2]] H fun rr H' => Slx 2 jP H' (fun B => H.length ≤ B) rr (dd (pI (pY o rg c))) ∧ St prog H H' [] := by
 obtain ⟨d, z⟩ := c
 have h := (kM o _).1 hc
 obtain ⟨j, rfl⟩ := eX h.1
 exact b5s o ho h0 rg sv hr hrl j z hc
theorem b5h {o : Org} (h0 : organE o = 0) (rg : Reg) {c : Ct} (hc : kY o c = true) : (dd (pI (pY o rg c))).length ≤ 480 := by
 rw [b8u h0 hc]
 have h1 := a8i (pI (mU o rg c))
 rw [lY] at h1
 exact dC h1 (a4Y (Org.aH h0) rg hc)
theorem b1J {o : Org} (h0 : organE o = 0) (rg : Reg) : ∀ (l : List Ct), (∀ c ∈ l, kY o c = true) → (l.flatMap fun c => dd (pI (pY o rg c))).length ≤ l.length * 480
 | [], _ => by simp
 | c :: l, h => by
   have h1 := b5h h0 rg (h c (dI ..))
   have h2 := b1J h0 rg l fun x hx => h x (dO _ hx)
   rw [dA, dp, dU]
   omega
theorem wY (o : Org) (ho : o.In H) (h0 : organE o = 0) (rg : Reg) (sv : Value) (hr : rg.In H sv) (hrl : rg.stops.length = o.dvs.length) (kv : Value) (ks : List Nt) (hk : Ks H kv ks) (hke : lW o ks = 0) :
 Fn prog 17 [.agg #[.string o.name, o.rv, o.dv, o.cv], .agg #[sv, .int .u64 rg.cpl, .int .u64 rg.off], kv] H fun rr H' => Slx 2 jP H' (fun B => H.length ≤ B) rr (kJ o rg (iF ks)) ∧ St prog H H' [] := by
 have hf := Org.aH h0
 have hplc := pQ hk.ok hke
 have hpll := qU hke
 have hsc := mI (o := o) (rg := rg) hplc
 have hsl := tM hf (rg := rg) hpll
 have hsp : dd (pI ((jY o rg (iF ks)).flatMap fun c => dd (pI (pY o rg c)))) = kJ o rg (iF ks) := b8h h0 hsc
 have hsm : ∀ x ∈ (jY o rg (iF ks)).flatMap (fun c => dd (pI (pY o rg c))), sm x := fun x hx => by
  obtain ⟨c, hc, hx⟩ := dR.1 hx
  exact (xM ((wF h0 (hsc c hc)).1 (pT.1 hx))).small hf ho
 have hle : ∀ i, (((jY o rg (iF ks)).take i).flatMap fun c => dd (pI (pY o rg c))).length ≤ 2048 * 480 := fun i => by
  have h1 := b1J h0 rg ((jY o rg (iF ks)).take i) fun c hc => hsc c (fV hc)
  have h2 : ((jY o rg (iF ks)).take i).length ≤ (jY o rg (iF ks)).length := by rw [fL]; omega
  exact dC h1 (dL _ (by omega))
 rw [← hsp]
 refine .bd func17 rfl (by kernel_rfl) (m := 30) rfl fun l hn g0 g1 g2 => ?_
 simp (disch := omega) only [↓RA, RB, simprocAttr, g0]
 refine (sR H).eNew 4 [(.string o.name), o.rv, o.dv, o.cv] rfl rfl (by simp [OC, ((sR H).sl ho.1).cells.2.1, ((sR H).sl ho.2.2.1).cells.2.1, ((sR H).sl ho.2.2.2.2.1).cells.2.1]) lP fun A1 H1 hS1 => ?_
 simp only [RT] at hS1
 simp (disch := omega) only [↓RA, RB, simprocAttr, g1]
 refine hS1.eNew 3 [sv, (.int .u64 rg.cpl), (.int .u64 rg.off)] rfl rfl (by simp [OC, (hS1.sl hr.1).cells.2.1]) nQ fun A2 H2 hS2 => ?_
 simp only [RT] at hS2
 simp (disch := omega) only [↓RA, RZ, simprocAttr, hn, g2, hS2.ae 0 rfl, hS2.ae 1 rfl]
 refine iG ((a3T o (ho.ab hS2) hf rg sv (hr.ab hS2) kv ks (hk.ab hS2) hke).tr) ?_
 rintro r H3 ⟨-, hT1⟩
 have hS3 := hS2.trans hT1
 simp only [RT] at hS3
 obtain ⟨cv, rfl⟩ : ∃ w, w = r := ⟨r, rfl⟩
 simp (disch := omega) only [↓RA, RZ, simprocAttr, hn, (hS3.aw 2 rfl jS).len]
 have hS4 := hS3.nil 1
 simp only [RT] at hS4
 refine Wp.ak (fun n l H' => l.length = 30 ∧ get l 3 = (ptr A1 0 4) ∧ get l 4 = (ptr A2 0 3) ∧ get l 6 = (.slice none 0 0) ∧ get l 13 = cv ∧ get l 14 = I (jY o rg (iF ks)).length ∧ ∃ (i : Nat) (ov : Value), (n + i = (jY o rg (iF ks)).length) ∧ get l 15 = I i ∧ get l 7 = ov ∧ St prog H H' [⟨ptr A1 0 4, 0, [(.string o.name), o.rv, o.dv, o.cv]⟩, ⟨ptr A2 0 3, 0, [sv, (.int .u64 rg.cpl), (.int .u64 rg.off)]⟩, ⟨cv, 2, pr (jY o rg (iF ks))⟩, ⟨ov, 2, pr (((jY o rg (iF ks)).take i).flatMap fun c => dd (pI (pY o rg c)))⟩]) (jY o rg (iF ks)).length ?_ ?_
 ·simp (disch := omega) only [RB, RC, simprocAttr, hn]
  exact ⟨0, .slice none 0 0, by omega, rfl, rfl, hS4⟩
 rintro n l H4 ⟨hn, g3, g4, g6, g13, g14, i, ov, hi, g15, g7, hS5⟩
 simp (disch := omega) only [↓RA, RB, simprocAttr, hn, g14, g15]
 refine iA (fun q1 => ?_) (fun q1 => ?_)
 ·have hci := hsc _ (iD (xs := jY o rg (iF ks)) (j := i) (by omega))
  have htk := kG (jY o rg (iF ks)) i (by omega)
  have hli := hle i
  have hl1 := b5h h0 rg hci
  simp (disch := omega) only [↓RA, RZ, simprocAttr, hn, g13, g15, (hS5.aw 2 rfl jS).idx, (hS5.aw 2 rfl jS).ae, jP, q1]
  refine hS5.eNew 2 [I 0, I 0] rfl rfl rfl lA fun A3 H5 hS6 => ?_
  simp only [RT] at hS6
  simp (disch := omega) only [↓RA, RZ, simprocAttr, hn, q1]
  refine hS6.aa 4 rfl [I (iB (jY o rg (iF ks)) i).1, I (iB (jY o rg (iF ks)) i).2] rfl rfl lA (by simp) fun H6 hS7 => ?_
  simp only [RT] at hS7
  simp (disch := omega) only [↓RA, RZ, simprocAttr, hn, g3, g4, g7, hS7.ae 0 rfl, hS7.ae 1 rfl, hS7.ae 4 rfl, q1]
  refine iG (b0V o (ho.ab hS7) h0 rg sv (hr.ab hS7) hrl (iB (jY o rg (iF ks)) i) hci) ?_
  rintro r H7 ⟨hqx, hT2⟩
  have hS8 := hS7.trans hT2
  simp only [RT] at hS8
  obtain ⟨qv, rfl⟩ : ∃ w, w = r := ⟨r, rfl⟩
  simp (disch := omega) only [↓RA, RZ, simprocAttr, hn, q1]
  refine hS8.aq 3 rfl hqx.1.rd a7C (by rw [iJ, show ((dd (pI (pY o rg (iB (jY o rg (iF ks)) i)))).flatMap jP).length = (dd (pI (pY o rg (iB (jY o rg (iF ks)) i)))).length * 2 from iJ _]; omega) fun w1 H8 hS9 => ?_
  simp only [RT] at hS9
  simp (disch := omega) only [↓RA, RZ, simprocAttr, hn, g3, g4, g6, g13, g14, g15, q1]
  refine ⟨n - 1, by omega, i + 1, w1, by omega, by simp, rfl, ?_⟩
  rw [htk, dD, jJ, dA, ez, dm]
  exact hS9.pick [0, 1, 2, 3] (by decide) rfl
 simp (disch := omega) only [↓RA, RZ, simprocAttr, hn, g7, q1]
 have hii : i = (jY o rg (iF ks)).length := by omega
 have hli := hle i
 rw [hii, dS] at hS5
 rw [hii, dS] at hli
 refine c1H hS5 3 rfl (by omega) hsm fun HS hSS => ?_
 simp only [fO, ff] at hSS
 simp (disch := omega) only [↓RA, RZ, simprocAttr, hn, g7, q1]
 have hM1 := hSS.pick (os' := [⟨ov, 2, _⟩]) [3] (by decide) rfl
 have hR1 := hSS.pick (os' := [⟨ov, 2, _⟩, ⟨ptr A1 0 4, 0, _⟩, ⟨ptr A2 0 3, 0, _⟩, ⟨cv, 2, _⟩]) [3, 0, 1, 2] (by decide) rfl
 refine iG (rP hM1.aD (by rw [lY]; omega)) ?_
 rintro r H9 ⟨rest, hb, hrd, hT3⟩
 have hS10 := hR1.frame hT3
 simp only [RT] at hS10
 have hrr := hrd _ (hS10.rd 0 rfl)
 have hrc := hrr.cells
 simp (disch := omega) only [↓RA, RZ, simprocAttr, hn, c7X, q1]
 refine ⟨⟨⟨hrr, jS, by decide⟩, fun b h => ?_⟩, hS10.forget⟩
 rcases hS10.new _ (dI ..) b (hb b h) with h | h
 ·exact h
 ·exact h.elim
end Go.Ds
namespace Go.Ds
open Go.Proofs
variable {H : Heap}
set_option maxRecDepth 10000
set_option maxHeartbeats 1000000
end Go.Ds
namespace Go.Ds
open Go.Proofs Go.Proofs.Tryz
variable {H : Heap}
set_option maxRecDepth 10000
set_option maxHeartbeats 1000000
theorem b7c {x y : Int × Int} : cf2 x y < 0 ↔ xV x y := by
 unfold cf2 xV
 split
 ·omega
 ·split
  ·omega
  ·split
   ·omega
   ·split <;> omega
theorem b7h {x y : Int × Int} : cf2 x y = 0 ↔ x = y := by
 unfold cf2
 constructor
 ·intro h
  split at h
  ·omega
  ·split at h
   ·omega
   ·split at h
    ·omega
    ·split at h
     ·omega
     ·exact fT (by omega) (by omega)
 ·rintro rfl
  rw [if_neg (by omega), if_neg (by omega), if_neg (by omega), if_neg (by omega)]
theorem a6h {xs : List Ct} (hs : xs.Pairwise xV) {i j : Nat} (h : i < j) (hj : j < xs.length) : xV (iB xs i) (iB xs j) := by
 rw [jL _ _ (by omega), jL _ _ hj]
 exact eJ.1 hs i j (by omega) hj h
theorem c4i (v : Value) (xs : List Ct) (hv : Sl 2 jP H v xs) (hl : xs.length < 1000000000) (hs : xs.Pairwise xV) (t : Ct) :
 Fn prog 118 [v, .agg #[I t.1, I t.2], .func (.func 119) #[] #[]] H fun r H' => ∃ k : Nat, r = .tuple #[I k, .bool (decide (t ∈ xs))] ∧ St prog H H' [] := by
 refine .bd func118 rfl (by kernel_rfl) (m := 49) rfl fun l hn g0 g1 g2 => ?_
 simp (disch := omega) only [↓RA, RB, simprocAttr, g1]
 refine (sR H).eNew 2 [I t.1, I t.2] rfl rfl rfl qJ fun A1 H1 hS1 => ?_
 simp only [RT] at hS1
 simp (disch := omega) only [↓RA, RZ, simprocAttr, hn, g0, (hS1.sl hv).len]
 refine Wp.ak (fun n l H' => l.length = 49 ∧ get l 0 = v ∧ get l 2 = (.func (.func 119) #[] #[]) ∧ get l 4 = (ptr A1 0 2) ∧ get l 6 = I 0 ∧ get l 7 = (.bool false) ∧ get l 8 = I xs.length ∧ ∃ (i : Nat) (j : Nat), (n + i = j ∧ j ≤ xs.length ∧ (∀ q, q < i → xV (iB xs q) t) ∧ ∀ q, j ≤ q → q < xs.length → ¬ xV (iB xs q) t) ∧ get l 9 = I i ∧ get l 10 = I j ∧ St prog H H' [⟨ptr A1 0 2, 0, [I t.1, I t.2]⟩]) xs.length ?_ ?_
 ·simp (disch := omega) only [RB, RC, simprocAttr, hn, g0, g2]
  exact ⟨0, xs.length, ⟨by omega, by omega, fun q hq => absurd hq (dN _), fun q h1 h2 => absurd h2 (by omega)⟩, rfl, rfl, hS1⟩
 rintro n l H2 ⟨hn, g0, g2, g4, g6, g7, g8, i, j, ⟨h1,h2,h3,h4⟩, g9, nV, hS2⟩
 simp (disch := omega) only [↓RA, RB, simprocAttr, hn, g9, nV]
 refine iA (fun q1 => ?_) (fun q1 => ?_)
 ·obtain ⟨m, hm⟩ : ∃ m : Nat, (i + j) / 2 = m := ⟨_, rfl⟩
  have e1 : ((i : Int) + j).fdiv (2 ^ min 1 (IntKind.bits .u64)) = ((m : Nat) : Int) := by
   have h := a0i (i + j) 1 (by omega)
   rw [eO] at h
   rw [← hm]
   exact h
  simp (disch := omega) only [↓RA, RZ, simprocAttr, hn, g9, nV, q1, e1]
  refine Wp.drw jZ (by kernel_rfl) ?_
  simp (disch := omega) only [↓RA, RZ, simprocAttr, hn, g0, g2]
  simp (disch := omega) only [↓RA, RZ, simprocAttr, hn, g4, (hS2.sl hv).idx, (hS2.sl hv).ae, jP, hS2.ae 0 rfl]
  refine hS2.cF (a5O (iB xs m) t) fun H3 hS3 => ?_
  simp (disch := omega) only [↓RA, RB, simprocAttr, hn]
  refine iA (fun q2 => ?_) (fun q2 => ?_)
  ·have hlt := b7c.1 q2
   simp (disch := omega) only [↓RA, RZ, simprocAttr, hn, g0, g2, g4, g6, g7, g8, nV, q2]
   refine ⟨j - (m + 1), by omega, m + 1, j, ⟨by omega, h2, fun q hq => ?_, h4⟩, by simp, rfl, hS3⟩
   by_cases e : q = m
   ·rw [e]; exact hlt
   ·exact a0I (a6h hs (show q < m by omega) (by omega)) hlt
  have hnl : ¬ xV (iB xs m) t := fun h => q2 (b7c.2 h)
  simp (disch := omega) only [↓RA, RZ, simprocAttr, hn, g0, g2, g4, g6, g7, g8, g9, q2]
  refine ⟨m - i, by omega, i, m, ⟨by omega, by omega, h3, fun q hq hql h => ?_⟩, rfl, by simp, hS3⟩
  by_cases e : q = m
  ·rw [e] at h; exact hnl h
  ·exact hnl (a0I (a6h hs (show m < q by omega) hql) h)
 have hij : i = j := by omega
 have hno : ∀ q, q < xs.length → q ≠ i → iB xs q ≠ t := fun q hq hne e => by
  by_cases hqi : q < i
  ·have := h3 q hqi
   rw [e] at this
   exact a1T this
  ·have h5 := h4 i (by omega) (by omega)
   have h6 := a6h hs (show i < q by omega) hq
   rw [e] at h6
   exact h5 h6
 simp (disch := omega) only [↓RA, RC, simprocAttr, q1]
 refine Wp.drw jZ (by kernel_rfl) ?_
 simp (disch := omega) only [↓RA, RZ, simprocAttr, hn, g8, g9]
 refine jI (fun q3 => ?_) (fun q3 => ?_)
 ·simp (disch := omega) only [↓RA, RZ, simprocAttr, hn, g0, g2, g4, g9, (hS2.sl hv).idx, (hS2.sl hv).ae, jP, hS2.ae 0 rfl, q3]
  refine hS2.cF (a5O (iB xs i) t) fun H4 hS4 => ?_
  simp (disch := omega) only [↓RA, RZ, simprocAttr, hn, c2a, q3]
  have he : decide (cf2 (iB xs i) t = 0) = decide (t ∈ xs) := by
   rw [decide_eq_decide, b7h]
   constructor
   ·intro e
    rw [← e]
    exact iD (by omega)
   ·intro hm
    obtain ⟨q, hq, e⟩ := dK.1 hm
    rw [← jL _ _ hq] at e
    by_cases hqi : q = i
    ·rw [hqi] at e; exact e
    ·exact absurd e (hno q hq hqi)
  exact ⟨i, by rw [← he], hS4.forget⟩
 have hf : decide (t ∈ xs) = false := by
  rw [decide_eq_false_iff_not]
  intro hm
  obtain ⟨q, hq, e⟩ := dK.1 hm
  rw [← jL _ _ hq] at e
  exact hno q hq (by omega) e
 simp (disch := omega) only [↓RA, RZ, simprocAttr, hn, c2a, q3]
 exact ⟨i, by rw [hf], hS2.forget⟩
def a3d (xs ys : List Ct) : List Ct := xs.filter fun c => !decide (c ∈ ys)
theorem a8s (xs ys : List Ct) : (a3d xs ys).length ≤ xs.length := ek _ _
theorem a9n (xs ys : List Ct) (i : Nat) (h : i < xs.length) : a3d (xs.take (i + 1)) ys = a3d (xs.take i) ys ++ (if iB xs i ∈ ys then [] else [iB xs i]) := by
 unfold a3d
 rw [kG xs i h, eQ]
 congr 1
 by_cases e : iB xs i ∈ ys <;> simp [e]
theorem a6G (v w : Value) (xs ys : List Ct) (hv : Sl 2 jP H v xs) (hw : Sl 2 jP H w ys) (hl : xs.length < 100000000) (hl2 : ys.length < 100000000) (hs : ys.Pairwise xV) :
 Fn prog 88 [v, w] H fun r H' => St prog H H' [⟨r, 2, pr (a3d xs ys)⟩] := by
 refine .aF func88 rfl (by kernel_rfl) (m := 30) rfl fun l hn g0 g1 => ?_
 simp (disch := omega) only [↓RA, RZ, simprocAttr, hn, g0, ((sR H).sl hv).len]
 have hS1 := (sR H).nil 1
 simp only [RT] at hS1
 refine Wp.ak (fun n l H' => l.length = 30 ∧ get l 1 = w ∧ get l 4 = (.slice none 0 0) ∧ get l 10 = v ∧ get l 11 = I xs.length ∧ ∃ (i : Nat) (ov : Value), (n + i = xs.length) ∧ get l 12 = I i ∧ get l 5 = ov ∧ St prog H H' [⟨ov, 2, pr (a3d (xs.take i) ys)⟩]) xs.length ?_ ?_
 ·simp (disch := omega) only [RB, RC, simprocAttr, hn, g1]
  exact ⟨0, .slice none 0 0, by omega, rfl, rfl, hS1⟩
 rintro n l H1 ⟨hn, g1, g4, nV, g11, i, ov, hi, g12, g5, hS2⟩
 simp (disch := omega) only [↓RA, RB, simprocAttr, hn, g11, g12]
 refine iA (fun q1 => ?_) (fun q1 => ?_)
 ·have hsu := a9n xs ys i (by omega)
  have hle := a8s (xs.take i) ys
  have htl := List.length_take_le i xs
  simp (disch := omega) only [↓RA, RZ, simprocAttr, hn, nV, g12, (hS2.sl hv).idx, (hS2.sl hv).ae, jP, q1]
  refine hS2.eNew 2 [I 0, I 0] rfl rfl rfl qJ fun A1 H2 hS3 => ?_
  simp only [RT] at hS3
  simp (disch := omega) only [↓RA, RZ, simprocAttr, hn, q1]
  refine hS3.aa 1 rfl [I (iB xs i).1, I (iB xs i).2] rfl rfl qJ (by simp) fun H3 hS4 => ?_
  simp only [RT] at hS4
  simp (disch := omega) only [↓RA, RZ, simprocAttr, hn, g1, hS4.ae 1 rfl, q1]
  refine iG (c4i w ys (hS4.sl hw) (by omega) hs (iB xs i)) ?_
  rintro r H4 ⟨k, rfl, hT1⟩
  have hS5 := hS4.trans hT1
  simp only [RT] at hS5
  simp (disch := omega) only [↓RA, RZ, simprocAttr, hn, q1]
  refine jM (fun q2 => ?_) (fun q2 => ?_)
  ·have hni : ¬ iB xs i ∈ ys := by simpa using q2
   rw [if_neg hni] at hsu
   simp (disch := omega) only [↓RA, RZ, simprocAttr, hn, g5, hS5.ae 1 rfl, q1, q2]
   refine hS5.ai [I (iB xs i).1, I (iB xs i).2] a7C c2t rfl rfl (by simp [Value.cells]) rfl rfl (by decide) (by decide) fun w1 H5 hS6 => ?_
   simp only [RT] at hS6
   simp (disch := omega) only [↓RA, RZ, simprocAttr, hn, q1, q2]
   refine hS6.aq 0 rfl (hS6.rd 2 rfl) a7C (by rw [iJ]; simp only [dU, eH]; omega) fun w2 H6 hS7 => ?_
   simp only [RT] at hS7
   simp (disch := omega) only [↓RA, RZ, simprocAttr, hn, g1, g4, nV, g11, g12, q1, q2]
   refine ⟨n - 1, by omega, i + 1, w2, by omega, by simp, rfl, ?_⟩
   rw [hsu, jJ]
   exact hS7.pick [0] (by decide) rfl
  have hni : iB xs i ∈ ys := by simpa using q2
  rw [if_pos hni, dm] at hsu
  simp (disch := omega) only [↓RA, RZ, simprocAttr, hn, g1, g4, nV, g11, g12, g5, q1, q2]
  refine ⟨n - 1, by omega, i + 1, ov, by omega, by simp, rfl, ?_⟩
  rw [hsu]
  exact hS5.pick [0] (by decide) rfl
 simp (disch := omega) only [↓RA, RZ, simprocAttr, hn, g5, c7o, q1]
 have hii : i = xs.length := by omega
 rw [hii, dS] at hS2
 exact hS2
end Go.Ds
namespace Go.Ds
open Go.Proofs
set_option maxRecDepth 10000
section
variable {o : Org} {b : Nat → Nat} {l : List Ct}
end
def rZ (o : Org) (p : Ct) : Int := iB (iB o.ranks p.1.toNat).wind p.2.toNat
def oO (o : Org) (l : List Ct) : Int := l.foldl (fun n p => nC (n + rZ o p)) 0
theorem a3i (o : Org) (l : List Ct) (i : Nat) (h : i < l.length) : oO o (l.take (i + 1)) = nC (oO o (l.take i) + rZ o (iB l i)) := by
 unfold oO
 rw [kG l i h, fz]
 rfl
def wW (o : Org) (l : List Ct) : Int := (l.map (rZ o)).sum
theorem b8g (a : Int) : nC a = if a % 18446744073709551616 ≥ 9223372036854775808 then a % 18446744073709551616 - 18446744073709551616 else a % 18446744073709551616 := by
 show IntKind.wrap .i64 a = _
 unfold IntKind.wrap
 simp [IntKind.bits, IntKind.signed]
theorem c0M (a b : Int) : nC (nC a + b) = nC (a + b) := by
 simp only [b8g]
 (repeat' split) <;> omega
theorem b6T {a : Int} (h1 : -9223372036854775808 ≤ a) (h2 : a < 9223372036854775808) : nC a = a := by
 rw [b8g]
 split <;> omega
theorem a2l (o : Org) (p : Ct) (l : List Ct) : wW o (p :: l) = rZ o p + wW o l := by simp [wW]
theorem a3l (o : Org) : ∀ (l : List Ct) (a : Int), l.foldl (fun n p => nC (n + rZ o p)) (nC a) = nC (a + wW o l)
 | [], a => by simp [wW]
 | p :: l, a => by
   rw [eF, c0M, a3l o l, a2l, Int.add_assoc]
theorem b7P (o : Org) (l : List Ct) : oO o l = nC (wW o l) := by
 have := a3l o l 0
 rw [b6T (by decide) (by decide), Int.zero_add] at this
 exact this
theorem Org.cH {o : Org} (h : organE o = 0) : ∀ j, j < o.ranks.length → rankE (iB o.ranks j) = 0 := by
 unfold organE at h
 split at h
 ·omega
 split at h
 ·omega
 split at h
 ·rename_i hh; exact absurd h hh
 rename_i h3
 have h3 := du.1 h3
 intro j hj
 have e := oI h3 j hj
 unfold oF at e
 split at e
 ·exact e
 ·rename_i h4; exact du.1 h4
theorem b9c {o : Org} (h : organE o = 0) {j : Nat} (hj : j < o.ranks.length) {i : Nat} (hi : i < (iB o.ranks j).wind.length) : 0 ≤ iB (iB o.ranks j).wind i ∧ iB (iB o.ranks j).wind i ≤ 1000000 := by
 have e := Org.cH h j hj
 unfold rankE at e
 split at e
 ·omega
 split at e
 ·rename_i hh; exact absurd e hh
 split at e
 ·omega
 split at e
 ·omega
 split at e
 ·omega
 unfold yF at e
 split at e
 ·omega
 rename_i hw
 have hn := iD hi
 have h2 : ¬ (decide (iB (iB o.ranks j).wind i < 0) || decide (1000000 < iB (iB o.ranks j).wind i)) = true := fun e => hw (gk.2 ⟨_, hn, e⟩)
 simp only [eu, decide_eq_true_eq] at h2
 omega
theorem b4P {o : Org} (h : organE o = 0) {p : Ct} (hp : IsP o p) : 0 ≤ rZ o p ∧ rZ o p ≤ 1000000 :=
 b9c h (by have := hp.1; have := hp.2.1; omega) (by have := hp.2.2.1; have := hp.2.2.2; omega)
theorem a2i {o : Org} (h : organE o = 0) : ∀ {l : List Ct}, (∀ p ∈ l, IsP o p) → 0 ≤ wW o l ∧ wW o l ≤ 1000000 * l.length
 | [], _ => by simp [wW]
 | p :: l, hl => by
   have h1 := b4P h (hl p (dI ..))
   have h2 := a2i h (l := l) fun x hx => hl x (dO _ hx)
   rw [a2l, dU]
   omega
theorem c1e {o : Org} (h : organE o = 0) {l : List Ct} (hl : ∀ p ∈ l, IsP o p) (hle : l.length ≤ 1000000) : oO o l = wW o l := by
 have h1 := a2i h hl
 rw [b7P, b6T (by omega) (by omega)]
end Go.Ds
namespace Go.Ds
open Go.Proofs Go.Proofs.Tryz
variable {H : Heap}
set_option maxRecDepth 10000
set_option maxHeartbeats 1000000
theorem a2C (o : Org) (ho : o.In H) (v : Value) (ps : List Ct) (hv : Sl 2 jP H v ps) (hl : ps.length < 100000000) (hp : ∀ p ∈ ps, IsP o p) :
 Fn prog 43 [.agg #[.string o.name, o.rv, o.dv, o.cv], v] H fun r H' => r = I (oO o ps) ∧ St prog H H' [] := by
 refine .aF func43 rfl (by kernel_rfl) (m := 29) rfl fun l hn g0 g1 => ?_
 simp (disch := omega) only [↓RA, RB, simprocAttr, g0]
 refine (sR H).eNew 4 [(.string o.name), o.rv, o.dv, o.cv] rfl rfl (by simp [OC, ((sR H).sl ho.1).cells.2.1, ((sR H).sl ho.2.2.1).cells.2.1, ((sR H).sl ho.2.2.2.2.1).cells.2.1]) lP fun A1 H1 hS1 => ?_
 simp only [RT] at hS1
 simp (disch := omega) only [↓RA, RZ, simprocAttr, hn, g1, (hS1.sl hv).len]
 refine Wp.ak (fun n l H' => l.length = 29 ∧ get l 2 = (ptr A1 0 4) ∧ get l 4 = I 0 ∧ get l 8 = v ∧ get l 9 = I ps.length ∧ ∃ (i : Nat), (n + i = ps.length) ∧ get l 10 = I i ∧ get l 5 = I (oO o (ps.take i)) ∧ St prog H H' [⟨ptr A1 0 4, 0, [(.string o.name), o.rv, o.dv, o.cv]⟩]) ps.length ?_ ?_
 ·simp (disch := omega) only [RB, RC, simprocAttr, hn]
  exact ⟨0, by omega, rfl, rfl, hS1⟩
 rintro n l H2 ⟨hn, g2, g4, g8, g9, i, hi, nV, g5, hS2⟩
 simp (disch := omega) only [↓RA, RB, simprocAttr, hn, g9, nV]
 refine iA (fun q1 => ?_) (fun q1 => ?_)
 ·have hpi := hp _ (iD (xs := ps) (j := i) (by omega))
  obtain ⟨e, he⟩ : ∃ e : Nat, (iB ps i).1 = e := ⟨(iB ps i).1.toNat, by have := hpi.1; omega⟩
  obtain ⟨f, hf⟩ : ∃ f : Nat, (iB ps i).2 = f := ⟨(iB ps i).2.toNat, by have := hpi.2.2.1; omega⟩
  have hel : e < o.ranks.length := by have := hpi.2.1; omega
  have hfl : f < (iB o.ranks e).wind.length := by
   have := hpi.2.2.2
   rw [he, dJ] at this
   omega
  have hsu := a3i o ps i (by omega)
  have hwt : rZ o (iB ps i) = iB (iB o.ranks e).wind f := by unfold rZ; rw [he, hf, dJ, dJ]
  rw [hwt] at hsu
  simp (disch := omega) only [↓RA, RZ, simprocAttr, hn, g8, nV, (hS2.sl hv).idx, (hS2.sl hv).ae, jP, q1]
  refine hS2.eNew 2 [I 0, I 0] rfl rfl rfl qJ fun A2 H3 hS3 => ?_
  simp only [RT] at hS3
  simp (disch := omega) only [↓RA, RZ, simprocAttr, hn, q1]
  refine hS3.aa 1 rfl [I (iB ps i).1, I (iB ps i).2] rfl rfl qJ (by simp) fun H4 hS4 => ?_
  simp only [RT] at hS4
  simp (disch := omega) only [↓RA, RZ, simprocAttr, q1]
  refine Wp.drw jZ (by kernel_rfl) ?_
  simp (disch := omega) only [↓RA, RZ, simprocAttr, hn, g2, g5, hS4.ld 0 rfl]
  simp (disch := omega) only [↓RA, RZ, simprocAttr, hn, g2, g4, g8, g9, nV, hS4.ld 1 rfl, (hS4.sl ho.1).idx, (hS4.sl ho.1).aY, (hS4.sl ho.1).ld, Rk.cells, (hS4.sl (ho.2.1 (iB o.ranks e) (iD (by omega))).1).idx, (hS4.sl (ho.2.1 (iB o.ranks e) (iD (by omega))).1).ld, one, he, hf]
  refine ⟨n - 1, by omega, i + 1, by omega, by simp, ?_, hS4.pick [0] (by decide) rfl⟩
  first | (rw [hsu]; done) | (rw [hsu]; rfl) | (rw [hsu]; simp)
 simp (disch := omega) only [↓RA, RZ, simprocAttr, hn, g5, c7J, q1]
 have hii : i = ps.length := by omega
 rw [hii, dS]
 exact ⟨rfl, hS2.forget⟩
theorem a8h (o : Org) (ho : o.In H) (v : Value) (ps : List Ct) (hv : Sl 2 jP H v ps) (hl : ps.length < 100000000) (hp : ∀ p ∈ ps, IsP o p) :
 Fn prog 22 [.agg #[.string o.name, o.rv, o.dv, o.cv], v] H fun r H' => r = I (oO o ps) ∧ St prog H H' [] := by
 refine .aF func22 rfl (by kernel_rfl) (m := 29) rfl fun l hn g0 g1 => ?_
 simp (disch := omega) only [↓RA, RB, simprocAttr, g0]
 refine (sR H).eNew 4 [(.string o.name), o.rv, o.dv, o.cv] rfl rfl (by simp [OC, ((sR H).sl ho.1).cells.2.1, ((sR H).sl ho.2.2.1).cells.2.1, ((sR H).sl ho.2.2.2.2.1).cells.2.1]) lP fun A1 H1 hS1 => ?_
 simp only [RT] at hS1
 simp (disch := omega) only [↓RA, RZ, simprocAttr, hn, g1, (hS1.sl hv).len]
 refine Wp.ak (fun n l H' => l.length = 29 ∧ get l 2 = (ptr A1 0 4) ∧ get l 4 = I 0 ∧ get l 8 = v ∧ get l 9 = I ps.length ∧ ∃ (i : Nat), (n + i = ps.length) ∧ get l 10 = I i ∧ get l 5 = I (oO o (ps.take i)) ∧ St prog H H' [⟨ptr A1 0 4, 0, [(.string o.name), o.rv, o.dv, o.cv]⟩]) ps.length ?_ ?_
 ·simp (disch := omega) only [RB, RC, simprocAttr, hn]
  exact ⟨0, by omega, rfl, rfl, hS1⟩
 rintro n l H2 ⟨hn, g2, g4, g8, g9, i, hi, nV, g5, hS2⟩
 simp (disch := omega) only [↓RA, RB, simprocAttr, hn, g9, nV]
 refine iA (fun q1 => ?_) (fun q1 => ?_)
 ·have hpi := hp _ (iD (xs := ps) (j := i) (by omega))
  obtain ⟨e, he⟩ : ∃ e : Nat, (iB ps i).1 = e := ⟨(iB ps i).1.toNat, by have := hpi.1; omega⟩
  obtain ⟨f, hf⟩ : ∃ f : Nat, (iB ps i).2 = f := ⟨(iB ps i).2.toNat, by have := hpi.2.2.1; omega⟩
  have hel : e < o.ranks.length := by have := hpi.2.1; omega
  have hfl : f < (iB o.ranks e).wind.length := by
   have := hpi.2.2.2
   rw [he, dJ] at this
   omega
  have hsu := a3i o ps i (by omega)
  have hwt : rZ o (iB ps i) = iB (iB o.ranks e).wind f := by unfold rZ; rw [he, hf, dJ, dJ]
  rw [hwt] at hsu
  simp (disch := omega) only [↓RA, RZ, simprocAttr, hn, g8, nV, (hS2.sl hv).idx, (hS2.sl hv).ae, jP, q1]
  refine hS2.eNew 2 [I 0, I 0] rfl rfl rfl qJ fun A2 H3 hS3 => ?_
  simp only [RT] at hS3
  simp (disch := omega) only [↓RA, RZ, simprocAttr, hn, q1]
  refine hS3.aa 1 rfl [I (iB ps i).1, I (iB ps i).2] rfl rfl qJ (by simp) fun H4 hS4 => ?_
  simp only [RT] at hS4
  simp (disch := omega) only [↓RA, RZ, simprocAttr, q1]
  refine Wp.drw jZ (by kernel_rfl) ?_
  simp (disch := omega) only [↓RA, RZ, simprocAttr, hn, g2, g5, hS4.ld 0 rfl]
  simp (disch := omega) only [↓RA, RZ, simprocAttr, hn, g2, g4, g8, g9, nV, hS4.ld 1 rfl, (hS4.sl ho.1).idx, (hS4.sl ho.1).aY, (hS4.sl ho.1).ld, Rk.cells, (hS4.sl (ho.2.1 (iB o.ranks e) (iD (by omega))).1).idx, (hS4.sl (ho.2.1 (iB o.ranks e) (iD (by omega))).1).ld, one, he, hf]
  refine ⟨n - 1, by omega, i + 1, by omega, by simp, ?_, hS4.pick [0] (by decide) rfl⟩
  first | (rw [hsu]; done) | (rw [hsu]; rfl) | (rw [hsu]; simp)
 simp (disch := omega) only [↓RA, RZ, simprocAttr, hn, g5, c7P, q1]
 have hii : i = ps.length := by omega
 rw [hii, dS]
 exact ⟨rfl, hS2.forget⟩
theorem b1Q {o : Org} {rg : Reg} {ks : List Nt} : ∀ p ∈ oL o rg ks, IsP o p := by
 intro p hp
 unfold oL at hp
 split at hp
 ·exact oD hp
 ·exact absurd hp ec
theorem b4Q {o : Org} {rg : Reg} {ks : List Nt} (hok : ∀ x ∈ ks, Nt.Ok x) : (oL o rg ks).length ≤ 1000000 := by
 unfold oL
 split
 ·rename_i h
  obtain ⟨h1, h2⟩ := uU h
  exact qY (Org.aH (lZ h1).1) rg (qU h2) (mI (pQ hok h2))
 ·simp
def a7T (o : Org) (rg : Reg) (ks : List Nt) : Int := oO o (oL o rg ks)
theorem b6p (hG : Glob gH H) (o : Org) (ho : o.In H) (rg : Reg) (sv : Value) (hr : rg.In H sv) (kv : Value) (ks : List Nt) (hk : Ks H kv ks) :
 Fn prog 15 [.agg #[.string o.name, o.rv, o.dv, o.cv], .agg #[sv, .int .u64 rg.cpl, .int .u64 rg.off], kv] H fun r H' => r = .tuple #[I (a7T o rg ks), I (rkE o rg ks)] ∧ St prog H H' [] := by
 have hle := b4Q (o := o) (rg := rg) hk.ok
 refine .bd func15 rfl (by kernel_rfl) (m := 23) rfl fun l hn g0 g1 g2 => ?_
 simp (disch := omega) only [↓RA, RB, simprocAttr, g0]
 refine (sR H).eNew 4 [(.string o.name), o.rv, o.dv, o.cv] rfl rfl (by simp [OC, ((sR H).sl ho.1).cells.2.1, ((sR H).sl ho.2.2.1).cells.2.1, ((sR H).sl ho.2.2.2.2.1).cells.2.1]) lP fun A1 H1 hS1 => ?_
 simp only [RT] at hS1
 simp (disch := omega) only [↓RA, RB, simprocAttr, g1]
 refine hS1.eNew 3 [sv, (.int .u64 rg.cpl), (.int .u64 rg.off)] rfl rfl (by simp [OC, (hS1.sl hr.1).cells.2.1]) nQ fun A2 H2 hS2 => ?_
 simp only [RT] at hS2
 simp (disch := omega) only [↓RA, RZ, simprocAttr, hn, g2, hS2.ae 0 rfl, hS2.ae 1 rfl]
 refine iG (a1g (hS2.gl hG) o (ho.ab hS2) rg sv (hr.ab hS2) kv ks (hk.ab hS2)) ?_
 rintro r H3 ⟨pv, rfl, hx, hT1⟩
 have hS3 := hS2.trans hT1
 simp only [RT] at hS3
 simp (disch := omega) only [↓RA, RB, simprocAttr, hn]
 refine iA (fun h1 => ?_) (fun h1 => ?_)
 ·have hs : a7T o rg ks = 0 := by unfold a7T oL; rw [if_neg h1]; rfl
  simp (disch := omega) only [↓RA, RZ, simprocAttr, hn, c5X, h1]
  exact ⟨by rw [hs], hS3.forget⟩
 have h0 := du.1 h1
 simp (disch := omega) only [↓RA, RZ, simprocAttr, hn, hS3.ae 0 rfl, h1]
 refine hS3.cF (a2C o (ho.ab hS3) pv (oL o rg ks) hx.1 (by omega) b1Q) fun H4 hS4 => ?_
 simp (disch := omega) only [↓RA, RZ, simprocAttr, hn, c5X, h1]
 rw [h0]
 exact ⟨rfl, hS4.forget⟩
def mJ (o : Org) (rg : Reg) (c : Ct) : Int := oO o (ofF o rg c)
theorem c2r {o : Org} {rg : Reg} {c : Ct} : (ofF o rg c).length ≤ 1000000 := by
 by_cases h : a1I o rg c = 0
 ·exact c3w (Org.aH (lZ (a0o h).1).1) rg c
 ·unfold ofF
  rw [if_neg h]
  simp
theorem b8D (o : Org) (ho : o.In H) (rg : Reg) (sv : Value) (hr : rg.In H sv) (c : Ct) :
 Fn prog 28 [.agg #[.string o.name, o.rv, o.dv, o.cv], .agg #[sv, .int .u64 rg.cpl, .int .u64 rg.off], .agg #[I c.1, I c.2]] H fun r H' => r = .tuple #[I (mJ o rg c), I (a1I o rg c)] ∧ St prog H H' [] := by
 have hle := c2r (o := o) (rg := rg) (c := c)
 refine .bd func28 rfl (by kernel_rfl) (m := 23) rfl fun l hn g0 g1 g2 => ?_
 simp (disch := omega) only [↓RA, RB, simprocAttr, g0]
 refine (sR H).eNew 4 [(.string o.name), o.rv, o.dv, o.cv] rfl rfl (by simp [OC, ((sR H).sl ho.1).cells.2.1, ((sR H).sl ho.2.2.1).cells.2.1, ((sR H).sl ho.2.2.2.2.1).cells.2.1]) lP fun A1 H1 hS1 => ?_
 simp only [RT] at hS1
 simp (disch := omega) only [↓RA, RB, simprocAttr, g1]
 refine hS1.eNew 3 [sv, (.int .u64 rg.cpl), (.int .u64 rg.off)] rfl rfl (by simp [OC, (hS1.sl hr.1).cells.2.1]) nQ fun A2 H2 hS2 => ?_
 simp only [RT] at hS2
 simp (disch := omega) only [↓RA, RB, simprocAttr, g2]
 refine hS2.eNew 2 [I c.1, I c.2] rfl rfl rfl lA fun A3 H3 hS3 => ?_
 simp only [RT] at hS3
 simp (disch := omega) only [↓RA, RZ, simprocAttr, hn, hS3.ae 0 rfl, hS3.ae 1 rfl, hS3.ae 2 rfl]
 refine iG (c6E o (ho.ab hS3) rg sv (hr.ab hS3) c) ?_
 rintro r H4 ⟨pv, rfl, hx, hT1⟩
 have hS4 := hS3.trans hT1
 simp only [RT] at hS4
 simp (disch := omega) only [↓RA, RB, simprocAttr, hn]
 refine iA (fun h1 => ?_) (fun h1 => ?_)
 ·have hs : mJ o rg c = 0 := by unfold mJ ofF; rw [if_neg h1]; rfl
  simp (disch := omega) only [↓RA, RZ, simprocAttr, hn, c6O, h1]
  exact ⟨by rw [hs], hS4.forget⟩
 have h0 := du.1 h1
 simp (disch := omega) only [↓RA, RZ, simprocAttr, hn, hS4.ae 0 rfl, h1]
 refine hS4.cF (a2C o (ho.ab hS4) pv (ofF o rg c) hx.1 (by omega) (fun p hp => b8y hp)) fun H5 hS5 => ?_
 simp (disch := omega) only [↓RA, RZ, simprocAttr, hn, c6O, h1]
 rw [h0]
 exact ⟨rfl, hS5.forget⟩
theorem c3P (o : Org) (ho : o.In H) (h0 : organE o = 0) (rg : Reg) (sv : Value) (hr : rg.In H sv) (hrl : rg.stops.length = o.dvs.length) (kv : Value) (ks : List Nt) (hk : Ks H kv ks) (hke : lW o ks = 0) :
 Fn prog 18 [.agg #[.string o.name, o.rv, o.dv, o.cv], .agg #[sv, .int .u64 rg.cpl, .int .u64 rg.off], kv] H fun r H' => r = I (oO o (kJ o rg (iF ks))) ∧ St prog H H' [] := by
 have hf := Org.aH h0
 have hle := qY hf rg (qU hke) (mI (pQ hk.ok hke))
 refine .bd func18 rfl (by kernel_rfl) (m := 13) rfl fun l hn g0 g1 g2 => ?_
 simp (disch := omega) only [↓RA, RB, simprocAttr, g0]
 refine (sR H).eNew 4 [(.string o.name), o.rv, o.dv, o.cv] rfl rfl (by simp [OC, ((sR H).sl ho.1).cells.2.1, ((sR H).sl ho.2.2.1).cells.2.1, ((sR H).sl ho.2.2.2.2.1).cells.2.1]) lP fun A1 H1 hS1 => ?_
 simp only [RT] at hS1
 simp (disch := omega) only [↓RA, RB, simprocAttr, g1]
 refine hS1.eNew 3 [sv, (.int .u64 rg.cpl), (.int .u64 rg.off)] rfl rfl (by simp [OC, (hS1.sl hr.1).cells.2.1]) nQ fun A2 H2 hS2 => ?_
 simp only [RT] at hS2
 simp (disch := omega) only [↓RA, RB, simprocAttr]
 refine Wp.aM jZ [(0, 5)] (by kernel_rfl) (by kernel_rfl) ?_
 simp (disch := omega) only [↓RA, RZ, simprocAttr, hn, g2, hS2.ae 0 rfl, hS2.ae 1 rfl]
 refine iG (wY o (ho.ab hS2) h0 rg sv (hr.ab hS2) hrl kv ks (hk.ab hS2) hke) ?_
 rintro r H3 ⟨hx, hT1⟩
 have hS3 := hS2.trans hT1
 simp only [RT] at hS3
 obtain ⟨pv, rfl⟩ : ∃ w, w = r := ⟨r, rfl⟩
 simp (disch := omega) only [↓RA, RZ, simprocAttr, hn]
 refine hS3.cF (a8h o (ho.ab hS3) pv (kJ o rg (iF ks)) hx.1 (by omega) (fun p hp => oD hp)) fun H4 hS4 => ?_
 simp (disch := omega) only [↓RA, RZ, simprocAttr, hn, hS3.ae 0 rfl, c7v]
 exact hS4.forget
end Go.Ds
namespace Go.Ds
open Go.Proofs
set_option maxRecDepth 10000
def tA (o : Org) : List Nt := o.dvs.map fun d => sI d.lo d.hi
theorem wH (o : Org) : (tA o).length = o.dvs.length := by simp [tA]
theorem a0M {o : Org} {i : Nat} (hi : i < o.dvs.length) : iB (tA o) i = sI (iB o.dvs i).lo (iB o.dvs i).hi := by
 rw [jL _ i (by rw [wH]; exact hi)]
 simp [tA, jL _ i hi]
theorem b1T {lo hi : Int} (h0 : 0 ≤ lo) (h2 : hi ≤ 127) : Nt.Ok (sI lo hi) :=
 qT _ _ (fun z hz => by
  obtain ⟨k, hk, rfl⟩ := dz.1 hz
  have := dw.1 hk
  exact ⟨by omega, by omega⟩) ⟨by decide, by decide⟩
theorem b7k {o : Org} (hf : o.Fine) : ∀ x ∈ tA o, Nt.Ok x := by
 intro x hx
 obtain ⟨d, hd, rfl⟩ := dz.1 hx
 obtain ⟨j, hj, rfl⟩ := dK.1 hd
 have hk := hf.keys j hj
 rw [jL _ j hj] at hk
 exact b1T hk.1 hk.2.2
theorem c0z {o : Org} (h0 : organE o = 0) : lW o (tA o) = 0 := by
 unfold lW
 rw [if_neg (by rw [h0]; simp), if_neg (by rw [wH]; simp), if_neg]
 rintro ⟨j, hj, hne⟩
 apply hne
 have hk := (Org.aH h0).keys j hj
 rw [a0M hj]
 exact a2m (b1T hk.1 hk.2.2) fun z _ hh => hh
theorem b6q {o : Org} (hf : o.Fine) {x : Ct} : x ∈ iF (tA o) ↔ kY o x = true := by
 rw [rT, wH, kM]
 constructor
 ·rintro ⟨⟨h1, h2⟩, h3, h4⟩
  have hj : x.1.toNat < o.dvs.length := by omega
  have hk := hf.keys _ hj
  rw [a0M hj, sT hk.1 hk.2.2 h3, cW, decide_eq_true_eq, decide_eq_true_eq] at h4
  exact ⟨h1, h2, h4⟩
 ·rintro ⟨h1, h2, h3, h4⟩
  have hj : x.1.toNat < o.dvs.length := by omega
  have hk := hf.keys _ hj
  have hz : isN x.2 := ⟨by omega, by omega⟩
  refine ⟨⟨h1, h2⟩, hz, ?_⟩
  rw [a0M hj, sT hk.1 hk.2.2 hz, cW, decide_eq_true_eq, decide_eq_true_eq]
  exact ⟨h3, h4⟩
def oA : Nat → Nat := fun _ => 65535
theorem c6w : ∀ j, j < 16 → (65535 : Nat).testBit j = true := by decide
theorem c0d {o : Org} (hf : o.Fine) (hw : ∀ j, j < o.dvs.length → (iB o.dvs j).hi ≤ (iB o.dvs j).lo + 8) {x : Ct} : x ∈ iF (lX o oA) ↔ kY o x = true := by
 rw [rT, qO, kM]
 have key : ∀ j, j < o.dvs.length → ∀ z, isN z → (nH (wR o oA j) z = true ↔ (iB o.dvs j).lo ≤ z ∧ z ≤ (iB o.dvs j).hi) := fun j hj z hz => by
  have hL := sP hf (oA (j % 3)) hj
  rw [wR, tQ (fun n hn => (hL n hn).1) hz, decide_eq_true_eq]
  refine ⟨fun h => (hL z h).2, fun ⟨h1, h2⟩ => ?_⟩
  have h3 := hw j hj
  unfold a1F
  refine dz.2 ⟨(z - (iB o.dvs j).lo).toNat, eh.2 ⟨dw.2 ?_, c6w _ (by omega)⟩, by omega⟩
  unfold vD
  omega
 constructor
 ·rintro ⟨⟨h1, h2⟩, h3, h4⟩
  have hj : x.1.toNat < o.dvs.length := by omega
  rw [tY hj, key _ hj _ h3] at h4
  exact ⟨h1, h2, h4⟩
 ·rintro ⟨h1, h2, h3, h4⟩
  have hj : x.1.toNat < o.dvs.length := by omega
  have hk := hf.keys _ hj
  have hz : isN x.2 := ⟨by omega, by omega⟩
  refine ⟨⟨h1, h2⟩, hz, ?_⟩
  rw [tY hj, key _ hj _ hz]
  exact ⟨h3, h4⟩
theorem b0K {o : Org} (hf : o.Fine) (hw : ∀ j, j < o.dvs.length → (iB o.dvs j).hi ≤ (iB o.dvs j).lo + 8) (r : Reg) : kJ o r (iF (tA o)) = kJ o r (iF (lX o oA)) :=
 b0J hf fun x => by rw [b6q hf, c0d hf hw]
def grS (f : Ct → Int) (a : Ct × Int) (c : Ct) : Ct × Int := if f c > a.2 then (c, f c) else a
def uV (f : Ct → Int) (l : List Ct) (a : Ct × Int) : Ct × Int := l.foldl (grS f) a
theorem b1x (f : Ct → Int) (l : List Ct) (c : Ct) (a : Ct × Int) : uV f (l ++ [c]) a = grS f (uV f l a) c := by
 unfold uV
 rw [fz]
 rfl
theorem b4h (f : Ct → Int) (c0 z : Ct) (t : List Ct) (h : 0 ≤ f c0) : uV f (c0 :: t) (c0, 0) = uV f (c0 :: t) (z, -1) := by
 have e : grS f (c0, 0) c0 = grS f (z, -1) c0 := by
  unfold grS
  by_cases h1 : 0 < f c0
  ·rw [if_pos h1, if_pos (by show f c0 > -1; omega)]
  ·rw [if_neg h1, if_pos (by show f c0 > -1; omega)]
   rw [show f c0 = 0 by omega]
 unfold uV
 rw [eF, eF, e]
theorem a9D {o : Org} (hf : o.Fine) : ∃ t, rS o = ((0 : Int), (iB o.dvs 0).lo) :: t := by
 have hd := hf.dpos
 have hk := hf.keys 0 hd
 obtain ⟨n, hn⟩ : ∃ n, o.dvs.length = n + 1 := ⟨o.dvs.length - 1, by omega⟩
 obtain ⟨m, hm⟩ : ∃ m, ((iB o.dvs 0).hi - (iB o.dvs 0).lo + 1).toNat = m + 1 := ⟨((iB o.dvs 0).hi - (iB o.dvs 0).lo).toNat, by omega⟩
 unfold rS
 rw [hn, List.range_succ_eq_map, dA]
 unfold rD
 rw [hm, List.range_succ_eq_map, ew]
 exact ⟨_, by simp only [gI]; congr 1; simp⟩
end Go.Ds
namespace Go.Ds
open Go.Proofs Go.Proofs.Tryz
variable {H : Heap}
set_option maxRecDepth 10000
set_option maxHeartbeats 1000000
structure Kv where
 v : Value
 l : List Nt
 deriving Inhabited
def Kv.cells (k : Kv) : List Value := [k.v]
def Kv.In (H : Heap) (k : Kv) : Prop := Ks H k.v k.l
theorem Kv.In.ab {P : Program} {H' : Heap} {k : Kv} {os : List Ob} (h : k.In H) (hS : St P H H' os) : k.In H' := Ks.ab h hS
def a1p (o : Org) (rg : Reg) (l : List Kv) : Int := if organE o ≠ 0 then organE o else if mQ o rg ≠ 0 then mQ o rg else if 200 < l.length then 4 else lL (fun j => lW o (iB l j).l) l.length
theorem c0q (o : Org) (ho : o.In H) (rg : Reg) (sv : Value) (hr : rg.In H sv) (lv : Value) (ls : List Kv) (hl : Sl 1 Kv.cells H lv ls) (hle : ls.length < 1000000000) (hk : ∀ k ∈ ls, k.In H) :
 Fn prog 49 [.agg #[.string o.name, o.rv, o.dv, o.cv], .agg #[sv, .int .u64 rg.cpl, .int .u64 rg.off], lv] H fun r H' => r = I (a1p o rg ls) ∧ St prog H H' [] := by
 have hlc := hl.cells
 refine .bd func49 rfl (by kernel_rfl) (m := 39) rfl fun l hn g0 g1 g2 => ?_
 simp (disch := omega) only [↓RA, RB, simprocAttr, g0]
 refine (sR H).eNew 4 [(.string o.name), o.rv, o.dv, o.cv] rfl rfl (by simp [OC, ((sR H).sl ho.1).cells.2.1, ((sR H).sl ho.2.2.1).cells.2.1, ((sR H).sl ho.2.2.2.2.1).cells.2.1]) lP fun A1 H1 hS1 => ?_
 simp only [RT] at hS1
 simp (disch := omega) only [↓RA, RB, simprocAttr, g1]
 refine hS1.eNew 3 [sv, (.int .u64 rg.cpl), (.int .u64 rg.off)] rfl rfl (by simp [OC, (hS1.sl hr.1).cells.2.1]) nQ fun A2 H2 hS2 => ?_
 simp only [RT] at hS2
 simp (disch := omega) only [↓RA, RZ, simprocAttr, hn, hS2.ae 0 rfl]
 refine hS2.cF (yR o (ho.ab hS2)) fun H3 hS3 => ?_
 simp (disch := omega) only [↓RA, RB, simprocAttr, hn]
 refine iA (fun h1 => ?_) (fun h1 => ?_)
 ·simp (disch := omega) only [↓RA, RZ, simprocAttr, hn, b7X, h1]
  exact ⟨by rw [a1p, if_pos h1], hS3.forget⟩
 simp (disch := omega) only [↓RA, RZ, simprocAttr, hn, hS3.ae 0 rfl, hS3.ae 1 rfl, h1]
 refine hS3.cF (b8l o (ho.ab hS3) rg sv (hr.ab hS3)) fun H4 hS4 => ?_
 simp (disch := omega) only [↓RA, RZ, simprocAttr, hn, h1]
 refine iA (fun h2 => ?_) (fun h2 => ?_)
 ·simp (disch := omega) only [↓RA, RZ, simprocAttr, hn, b7X, h1, h2]
  exact ⟨by rw [a1p, if_neg h1, if_pos h2], hS4.forget⟩
 simp (disch := omega) only [↓RA, RZ, simprocAttr, hn, g2, (hS4.sl hl).len, h1, h2]
 refine iA (fun h3 => ?_) (fun h3 => ?_)
 ·simp (disch := omega) only [↓RA, RZ, simprocAttr, hn, b7X, h1, h2, h3]
  exact ⟨by rw [a1p, if_neg h1, if_neg h2, if_pos (by omega)], hS4.forget⟩
 have hE : a1p o rg ls = lL (fun j => lW o (iB ls j).l) ls.length := by rw [a1p, if_neg h1, if_neg h2, if_neg (by omega)]
 simp (disch := omega) only [↓RA, RZ, simprocAttr, hn, g2, (hS4.sl hl).len, h1, h2, h3]
 refine Wp.ak (fun n l H' => l.length = 39 ∧ get l 3 = (ptr A1 0 4) ∧ get l 26 = lv ∧ get l 27 = I ls.length ∧ ∃ (j : Nat), (n + j = ls.length ∧ ∀ q, q < j → lW o (iB ls q).l = 0) ∧ get l 28 = I j ∧ St prog H H' [⟨ptr A1 0 4, 0, [(.string o.name), o.rv, o.dv, o.cv]⟩, ⟨ptr A2 0 3, 0, [sv, (.int .u64 rg.cpl), (.int .u64 rg.off)]⟩]) ls.length ?_ ?_
 ·simp (disch := omega) only [RB, RC, simprocAttr, hn]
  exact ⟨0, ⟨by omega, fun q hq => absurd hq (dN _)⟩, rfl, hS4⟩
 rintro n l H5 ⟨hn, g3, g26, g27, j, ⟨hj,hz⟩, g28, hS5⟩
 simp (disch := omega) only [↓RA, RB, simprocAttr, hn, g27, g28]
 refine iA (fun q1 => ?_) (fun q1 => ?_)
 ·simp (disch := omega) only [↓RA, RZ, simprocAttr, hn, g3, g26, g28, (hS5.sl hl).idx, (hS5.sl hl).ld, Kv.cells, hS5.ae 0 rfl, q1]
  refine hS5.cF (a7K o (ho.ab hS5) (iB ls j).v (iB ls j).l ((hk _ (iD (by omega))).ab hS5)) fun H6 hS6 => ?_
  simp (disch := omega) only [↓RA, RZ, simprocAttr, hn, q1]
  refine iA (fun q2 => ?_) (fun q2 => ?_)
  ·simp (disch := omega) only [↓RA, RZ, simprocAttr, hn, b7X, q1, q2]
   exact ⟨by rw [hE, nP (fun j => lW o (iB ls j).l) ls.length j (by omega) q2 hz], hS6.forget⟩
  simp (disch := omega) only [↓RA, RZ, simprocAttr, hn, g3, g26, g27, g28, q1, q2]
  exact ⟨n - 1, by omega, j + 1, ⟨by omega, fun q hq => by rcases dr.1 hq with e | e; (· exact hz q e); (· rw [e]; exact du.1 q2)⟩, by simp, hS6.pick [0, 1] (by decide) rfl⟩
 simp (disch := omega) only [↓RA, RZ, simprocAttr, hn, b7X, q1]
 exact ⟨by rw [hE, kL (fun j => lW o (iB ls j).l) ls.length fun q hq => hz q (by omega)], hS5.forget⟩
theorem a1z (a : Addr) (m c : Nat) : kU prog .eql 44 44 false true (.slice (some a) m c) (.slice none 0 0) = some (.bool false) := by kernel_rfl
theorem vV {v : Value} {a : Addr} {m c : Nat} (h : v = .slice (some a) m c) (K : Value → Prop) : kW prog .eql 44 44 false true v (.slice none 0 0) K = oM (.bool false) K := by
 subst h
 show jU (kU prog .eql 44 44 false true (.slice (some a) m c) (.slice none 0 0)) K = _
 rw [a1z]
 rfl
theorem a0z : kU prog .eql 44 44 false true (.slice none 0 0) (.slice none 0 0) = some (.bool true) := by kernel_rfl
theorem pD (K : Value → Prop) : kW prog .eql 44 44 false true (.slice none 0 0) (.slice none 0 0) K = oM (.bool true) K := by
 show jU (kU prog .eql 44 44 false true (.slice none 0 0) (.slice none 0 0)) K = _
 rw [a0z]
 rfl
theorem c3s (v : Value) (xs : List Nt) (hv : Sl 2 yI H v xs) (hl : xs.length < 100000000) : Fn prog 56 [v] H fun r H' => St prog H H' [⟨r, 2, xs.flatMap yI⟩] := by
 rcases hv.rd with ⟨rfl, h2⟩ | ⟨A, i, e, row, ty, rw', lo, ver, m, _, _, _, _, _, _, hvv⟩
 ·have hx : xs = [] := by
   have := congrArg List.length h2
   rw [show (xs.flatMap yI).length = xs.length * 2 from iM (n := 2) (cel := yI) (fun _ => rfl) xs, eH] at this
   exact fo.1 (by omega)
  subst hx
  refine .aP func56 rfl (by kernel_rfl) (m := 8) rfl fun l hn g0 => ?_
  have hbe := pD
  simp (disch := omega) only [↓RA, RB, simprocAttr, hn, g0, pD]
  have hS1 := (sR H).nil 1
  simp only [RT] at hS1
  simp (disch := omega) only [RB, simprocAttr, hn, c6b]
  exact hS1
 ·refine .aP func56 rfl (by kernel_rfl) (m := 8) rfl fun l hn g0 => ?_
  simp (disch := omega) only [↓RA, RB, simprocAttr, hn, g0, vV hvv]
  refine (sR H).bE a3C fun w1 H1 hS1 => ?_
  simp only [RT] at hS1
  simp (disch := omega) only [↓RA, RZ, simprocAttr, hn, g0]
  refine hS1.aq 0 rfl (hS1.sl hv).rd a3C (by rw [show (xs.flatMap yI).length = xs.length * 2 from iM (n := 2) (cel := yI) (fun _ => rfl) xs]; simp; omega) fun w2 H2 hS2 => ?_
  simp only [RT] at hS2
  simp (disch := omega) only [↓RA, RB, simprocAttr, hn, c6b]
  exact hS2
theorem a1H (a : Addr) (m c : Nat) : kU prog .eql 90 90 false true (.slice (some a) m c) (.slice none 0 0) = some (.bool false) := by kernel_rfl
theorem vP {v : Value} {a : Addr} {m c : Nat} (h : v = .slice (some a) m c) (K : Value → Prop) : kW prog .eql 90 90 false true v (.slice none 0 0) K = oM (.bool false) K := by
 subst h
 show jU (kU prog .eql 90 90 false true (.slice (some a) m c) (.slice none 0 0)) K = _
 rw [a1H]
 rfl
theorem a0A : kU prog .eql 90 90 false true (.slice none 0 0) (.slice none 0 0) = some (.bool true) := by kernel_rfl
theorem pE (K : Value → Prop) : kW prog .eql 90 90 false true (.slice none 0 0) (.slice none 0 0) K = oM (.bool true) K := by
 show jU (kU prog .eql 90 90 false true (.slice none 0 0) (.slice none 0 0)) K = _
 rw [a0A]
 rfl
theorem b1a (v : Value) (xs : List Ct) (hv : Sl 2 jP H v xs) (hl : xs.length < 100000000) : Fn prog 89 [v] H fun r H' => St prog H H' [⟨r, 2, xs.flatMap jP⟩] := by
 rcases hv.rd with ⟨rfl, h2⟩ | ⟨A, i, e, row, ty, rw', lo, ver, m, _, _, _, _, _, _, hvv⟩
 ·have hx : xs = [] := by
   have := congrArg List.length h2
   rw [show (xs.flatMap jP).length = xs.length * 2 from iM (n := 2) (cel := jP) (fun _ => rfl) xs, eH] at this
   exact fo.1 (by omega)
  subst hx
  refine .aP func89 rfl (by kernel_rfl) (m := 8) rfl fun l hn g0 => ?_
  have hbe := pE
  simp (disch := omega) only [↓RA, RB, simprocAttr, hn, g0, pE]
  have hS1 := (sR H).nil 1
  simp only [RT] at hS1
  simp (disch := omega) only [RB, simprocAttr, hn, c5l]
  exact hS1
 ·refine .aP func89 rfl (by kernel_rfl) (m := 8) rfl fun l hn g0 => ?_
  simp (disch := omega) only [↓RA, RB, simprocAttr, hn, g0, vP hvv]
  refine (sR H).bE qP fun w1 H1 hS1 => ?_
  simp only [RT] at hS1
  simp (disch := omega) only [↓RA, RZ, simprocAttr, hn, g0]
  refine hS1.aq 0 rfl (hS1.sl hv).rd qP (by rw [show (xs.flatMap jP).length = xs.length * 2 from iM (n := 2) (cel := jP) (fun _ => rfl) xs]; simp; omega) fun w2 H2 hS2 => ?_
  simp only [RT] at hS2
  simp (disch := omega) only [↓RA, RB, simprocAttr, hn, c5l]
  exact hS2
theorem b2A {m : Nat} (h : m < 64) : jF [(m : Int)] = (2 ^ m, 0) := by
 show rG (0, 0) (m : Int) = _
 unfold rG
 rw [if_pos (by omega)]
 simp
theorem b2Y {m : Nat} (h : 64 ≤ m) : jF [(m : Int)] = (0, 2 ^ (m - 64)) := by
 show rG (0, 0) (m : Int) = _
 unfold rG
 rw [if_neg (by omega), show ((m : Int) - 64).toNat = m - 64 by omega]
 simp
theorem b7A (z : Int) (hz : isN z) : Fn prog 83 [I z] H fun r H' => r = .agg #[.int .u64 (jF [z]).1, .int .u64 (jF [z]).2] ∧ St prog H H' [] := by
 have hz2 := hz.2
 obtain ⟨m, rfl⟩ := eX hz.1
 refine .aP func83 rfl (by kernel_rfl) (m := 14) rfl fun l hn g0 => ?_
 simp (disch := omega) only [↓RA, RZ, simprocAttr]
 refine (sR H).eNew 2 [(.int .u64 0), (.int .u64 0)] rfl rfl rfl kX fun A1 H1 hS1 => ?_
 simp only [RT] at hS1
 simp (disch := omega) only [↓RA, RB, simprocAttr, hn, g0]
 refine iA (fun q => ?_) (fun q => ?_)
 ·have hw : IntKind.wrap .u64 ((m : Int) - 64) = ((m - 64 : Nat) : Int) := by rw [nB _ (by omega) (by omega)]; omega
  have hp := b4V (m - 64) (by omega)
  simp (disch := omega) only [↓RA, RZ, simprocAttr, hn, g0, b8Q, q, hw, hp]
  refine hS1.aa 0 rfl [(.int .u64 0), _] rfl rfl kX (by simp) fun H2 hS2 => ?_
  simp only [RT] at hS2
  simp (disch := omega) only [↓RA, RZ, simprocAttr, hn, c6h, hS2.ae 0 rfl, q]
  rw [b2Y (by omega)]
  exact ⟨rfl, hS2.forget⟩
 have hw : IntKind.wrap .u64 (m : Int) = ((m : Nat) : Int) := nB _ (by omega) (by omega)
 have hp := b4V m (by omega)
 simp (disch := omega) only [↓RA, RZ, simprocAttr, hn, g0, c0W, q, hw, hp]
 refine hS1.aa 0 rfl [_, (.int .u64 0)] rfl rfl kX (by simp) fun H3 hS3 => ?_
 simp only [RT] at hS3
 simp (disch := omega) only [↓RA, RZ, simprocAttr, hn, c6h, hS3.ae 0 rfl, q]
 rw [b2A (by omega)]
 exact ⟨rfl, hS3.forget⟩
theorem c1h (o : Org) (ho : o.In H) (c : Ct) : Fn prog 30 [.agg #[.string o.name, o.rv, o.dv, o.cv], .agg #[I c.1, I c.2]] H fun r H' => r = I (qB o c) ∧ St prog H H' [] := by
 have hl := ho.2.2.2.2.2.2.1
 have hin : kY o c = false → ¬ (c.1 < 0 ∨ (o.dvs.length : Int) ≤ c.1) → qB o c = 23 := fun h h2 => by
  have h3 : qB o c ≠ 0 := fun e => by rw [(nM o c).1 e] at h; cases h
  unfold qB at h3 ⊢
  rw [if_neg h2] at h3 ⊢
  split at h3
  ·rename_i h4; rw [if_pos h4]
  ·exact absurd rfl h3
 refine .aF func30 rfl (by kernel_rfl) (m := 20) rfl fun l hn g0 g1 => ?_
 simp (disch := omega) only [↓RA, RB, simprocAttr, g0]
 refine (sR H).eNew 4 [(.string o.name), o.rv, o.dv, o.cv] rfl rfl (by simp [OC, ((sR H).sl ho.1).cells.2.1, ((sR H).sl ho.2.2.1).cells.2.1, ((sR H).sl ho.2.2.2.2.1).cells.2.1]) lP fun A1 H1 hS1 => ?_
 simp only [RT] at hS1
 simp (disch := omega) only [↓RA, RB, simprocAttr, g1]
 refine hS1.eNew 2 [I c.1, I c.2] rfl rfl rfl lA fun A2 H2 hS2 => ?_
 simp only [RT] at hS2
 simp (disch := omega) only [↓RA, RZ, simprocAttr, hn, hS2.ld 1 rfl]
 refine iL (fun h1 => ?_) (fun h1 => ?_)
 ·simp (disch := omega) only [↓RA, RZ, simprocAttr, hn, c0m, h1]
  exact ⟨by rw [qB, if_pos (by omega)], hS2.forget⟩
 simp (disch := omega) only [↓RA, RZ, simprocAttr, hn, hS2.ld 1 rfl, hS2.ld 0 rfl, (hS2.sl ho.2.2.1).len, h1]
 refine iA (fun h2 => ?_) (fun h2 => ?_)
 ·simp (disch := omega) only [↓RA, RZ, simprocAttr, hn, c0m, h1, h2]
  exact ⟨by rw [qB, if_pos (by omega)], hS2.forget⟩
 simp (disch := omega) only [↓RA, RZ, simprocAttr, hn, hS2.ae 0 rfl, hS2.ae 1 rfl, h1, h2]
 refine hS2.cF (a6o o (ho.ab hS2) c) fun H3 hS3 => ?_
 simp (disch := omega) only [↓RA, RZ, simprocAttr, hn, h1, h2]
 refine jM (fun h3 => ?_) (fun h3 => ?_)
 ·simp (disch := omega) only [↓RA, RZ, simprocAttr, hn, c0m, h1, h2, h3]
  exact ⟨by rw [hin (by simpa using h3) (by omega)], hS3.forget⟩
 simp (disch := omega) only [↓RA, RZ, simprocAttr, hn, c0m, h1, h2, h3]
 exact ⟨by rw [(nM o c).2 (by simpa using h3)], hS3.forget⟩
theorem b5b (o : Org) (ho : o.In H) (hf : o.Fine) (d : Nat) (z : Int) (hc : kY o ((d : Int), z) = true) : Fn prog 51 [.agg #[.string o.name, o.rv, o.dv, o.cv], .agg #[I d, I z]] H fun r H' => St prog H H' [⟨r, 2, (pH o ((d : Int), z)).flatMap yI⟩] := by
 have hd1 := hf.dpos
 have hd2 := hf.dlen
 have h := (kM o _).1 hc
 have hz := sQ hf hc
 simp only [dJ] at h
 refine .aF func51 rfl (by kernel_rfl) (m := 18) rfl fun l hn g0 g1 => ?_
 have hlr : (List.replicate o.dvs.length ((0, 0) : Nt)).length = o.dvs.length := eM
 simp (disch := omega) only [↓RA, RB, simprocAttr, g0]
 refine (sR H).eNew 4 [(.string o.name), o.rv, o.dv, o.cv] rfl rfl (by simp [OC, ((sR H).sl ho.1).cells.2.1, ((sR H).sl ho.2.2.1).cells.2.1, ((sR H).sl ho.2.2.2.2.1).cells.2.1]) lP fun A1 H1 hS1 => ?_
 simp only [RT] at hS1
 simp (disch := omega) only [↓RA, RB, simprocAttr, g1]
 refine hS1.eNew 2 [I d, I z] rfl rfl rfl lA fun A2 H2 hS2 => ?_
 simp only [RT] at hS2
 simp (disch := omega) only [↓RA, RZ, simprocAttr, hn, hS2.ld 0 rfl, (hS2.sl ho.2.2.1).len]
 refine hS2.cj (cel := yI) (x := (0, 0)) o.dvs.length c6C rfl (by omega) fun w1 H3 hS3 => ?_
 simp only [RT] at hS3
 simp (disch := omega) only [↓RA, RB, simprocAttr, hn]
 refine Wp.aM jZ [(2, 6)] (by kernel_rfl) (by kernel_rfl) ?_
 simp (disch := omega) only [↓RA, RZ, simprocAttr, hn, hS3.ld 1 rfl]
 refine hS3.cF (b7A z hz) fun H4 hS4 => ?_
 simp (disch := omega) only [↓RA, RZ, simprocAttr, hn, (hS4.aw 2 rfl (fun _ => rfl)).idx]
 refine hS4.aT 2 rfl [(.int .u64 (jF [z]).1), (.int .u64 (jF [z]).2)] rfl rfl kX (by simp) (by rw [show ((List.replicate o.dvs.length ((0, 0) : Nt)).flatMap yI).length = o.dvs.length * 2 from by rw [iM (n := 2) (fun _ => rfl)]; simp]; simp only [dU, eH]; omega) fun H5 hS5 => ?_
 simp only [RT] at hS5
 simp (disch := omega) only [↓RA, RZ, simprocAttr, hn, hS4.ld 1 rfl, c7B]
 have hset : (((List.replicate o.dvs.length ((0, 0) : Nt)).flatMap yI).set (d * 2) (.int .u64 (jF [z]).1)).set (d * 2 + 1) (.int .u64 (jF [z]).2) = (pH o ((d : Int), z)).flatMap yI := by
  unfold pH
  simp only [dJ]
  rw [← sC ((((List.replicate o.dvs.length ((0, 0) : Nt)).flatMap yI).set (d * 2) _).set (d * 2 + 1) _) (d * 2 + 1 + 1), ← lU, ← lU]
  exact a4V (n := 2) (cel := yI) (fun _ => rfl) _ d 0 [_, _] (jF [z]) (by simp; omega) (by simp) rfl
 rw [hset] at hS5
 exact hS5.pick [2] (by decide) rfl
theorem b0Q (o : Org) (ho : o.In H) (hf : o.Fine) (c : Ct) (hc : kY o c = true) : Fn prog 51 [.agg #[.string o.name, o.rv, o.dv, o.cv], .agg #[I c.1, I c.2]] H fun r H' => St prog H H' [⟨r, 2, (pH o c).flatMap yI⟩] := by
 obtain ⟨d, z⟩ := c
 obtain ⟨j, rfl⟩ := eX ((kM o _).1 hc).1
 exact b5b o ho hf j z hc
theorem b9M (o : Org) (ho : o.In H) (h0 : organE o = 0) (rg : Reg) (sv : Value) (hr : rg.In H sv) (hrl : rg.stops.length = o.dvs.length) (c : Ct) (hc : kY o c = true) :
 Fn prog 23 [.agg #[.string o.name, o.rv, o.dv, o.cv], .agg #[sv, .int .u64 rg.cpl, .int .u64 rg.off], .agg #[I c.1, I c.2]] H fun rr H' => Slx 2 jP H' (fun B => H.length ≤ B) rr (kJ o rg [c]) ∧ St prog H H' [] := by
 have hf := Org.aH h0
 have hl := yH o c
 have hokA := a5c hf hc
 have hEA := b9f h0 hc
 have hpA := zM hf hc
 have hd := hf.dlen
 refine .bd func23 rfl (by kernel_rfl) (m := 13) rfl fun l hn g0 g1 g2 => ?_
 simp (disch := omega) only [↓RA, RB, simprocAttr, g0]
 refine (sR H).eNew 4 [(.string o.name), o.rv, o.dv, o.cv] rfl rfl (by simp [OC, ((sR H).sl ho.1).cells.2.1, ((sR H).sl ho.2.2.1).cells.2.1, ((sR H).sl ho.2.2.2.2.1).cells.2.1]) lP fun A1 H1 hS1 => ?_
 simp only [RT] at hS1
 simp (disch := omega) only [↓RA, RB, simprocAttr, g1]
 refine hS1.eNew 3 [sv, (.int .u64 rg.cpl), (.int .u64 rg.off)] rfl rfl (by simp [OC, (hS1.sl hr.1).cells.2.1]) nQ fun A2 H2 hS2 => ?_
 simp only [RT] at hS2
 simp (disch := omega) only [↓RA, RB, simprocAttr, g2]
 refine hS2.eNew 2 [I c.1, I c.2] rfl rfl rfl lA fun A3 H3 hS3 => ?_
 simp only [RT] at hS3
 simp (disch := omega) only [↓RA, RB, simprocAttr]
 refine Wp.aM jZ [(0, 5), (1, 5)] (by kernel_rfl) (by kernel_rfl) ?_
 simp (disch := omega) only [↓RA, RZ, simprocAttr, hn, hS3.ae 0 rfl, hS3.ae 1 rfl, hS3.ae 2 rfl]
 refine iG ((b0Q o (ho.ab hS3) hf c hc).tr) ?_
 rintro r H4 ⟨-, hT1⟩
 have hS4 := hS3.trans hT1
 simp only [RT] at hS4
 obtain ⟨av, rfl⟩ : ∃ w, w = r := ⟨r, rfl⟩
 simp (disch := omega) only [↓RA, RZ, simprocAttr, hn]
 have hSd := hS4
 refine iG (wY o (ho.ab hS4) h0 rg sv (hr.ab hS4) hrl av (pH o c) ⟨hS4.aw 3 rfl (fun _ => rfl), by omega, hokA⟩ hEA) ?_
 rintro r H5 ⟨hx, hT2⟩
 have hS5 := hS4.trans hT2
 simp only [RT] at hS5
 rw [hpA] at hx
 simp (disch := omega) only [↓RA, RZ, simprocAttr, hn, hS4.ae 0 rfl, hS4.ae 1 rfl, c7r]
 refine ⟨⟨hx.1, fun B h => ?_⟩, hS5.forget⟩
 have := hx.2 B h
 have : H.length ≤ _ := hSd.len
 omega
end Go.Ds
namespace Go.Ds
open Go.Proofs
variable {H : Heap}
set_option maxRecDepth 10000
set_option maxHeartbeats 1000000
end Go.Ds
namespace Go.Ds
open Go.Proofs Go.Proofs.Tryz
variable {H : Heap}
set_option maxRecDepth 10000
set_option maxHeartbeats 1000000
def a5C (o : Org) (rg : Reg) (ks : List Nt) (c : Ct) : Int := if rkE o rg ks ≠ 0 then rkE o rg ks else qB o c
def adF (o : Org) (rg : Reg) (ks : List Nt) (c : Ct) : List Ct := if a5C o rg ks c = 0 then a3d (kJ o rg (iF ks ++ [c])) (kJ o rg (iF ks)) else []
theorem b8b (hG : Glob gH H) (o : Org) (ho : o.In H) (hdv : o.dvs.length ≤ 7) (rg : Reg) (sv : Value) (hr : rg.In H sv) (kv : Value) (ks : List Nt) (hk : Ks H kv ks) (c : Ct) :
 Fn prog 54 [.agg #[.string o.name, o.rv, o.dv, o.cv], .agg #[sv, .int .u64 rg.cpl, .int .u64 rg.off], kv, .agg #[I c.1, I c.2]] H fun r H' => ∃ v, r = .tuple #[v, I (a5C o rg ks c)] ∧ Slx 2 jP H' (fun B => H.length ≤ B) v (adF o rg ks c) ∧ St prog H H' [] := by
 have hnil : ∀ {H' : Heap}, Slx 2 jP H' (fun B => H.length ≤ B) (.slice none 0 0) ([] : List Ct) := fun {H'} => ⟨⟨.inl ⟨rfl, rfl⟩, jS, by decide⟩, fun b h => by simp [kI] at h⟩
 refine .cJ func54 rfl (by kernel_rfl) (m := 42) rfl fun l hn g0 g1 g2 g3 => ?_
 simp (disch := omega) only [↓RA, RB, simprocAttr, g0]
 refine (sR H).eNew 4 [(.string o.name), o.rv, o.dv, o.cv] rfl rfl (by simp [OC, ((sR H).sl ho.1).cells.2.1, ((sR H).sl ho.2.2.1).cells.2.1, ((sR H).sl ho.2.2.2.2.1).cells.2.1]) lP fun A1 H1 hS1 => ?_
 simp only [RT] at hS1
 simp (disch := omega) only [↓RA, RB, simprocAttr, g1]
 refine hS1.eNew 3 [sv, (.int .u64 rg.cpl), (.int .u64 rg.off)] rfl rfl (by simp [OC, (hS1.sl hr.1).cells.2.1]) nQ fun A2 H2 hS2 => ?_
 simp only [RT] at hS2
 simp (disch := omega) only [↓RA, RB, simprocAttr, g3]
 refine hS2.eNew 2 [I c.1, I c.2] rfl rfl rfl lA fun A3 H3 hS3 => ?_
 simp only [RT] at hS3
 simp (disch := omega) only [↓RA, RZ, simprocAttr, hn, hS3.ae 0 rfl, hS3.ae 1 rfl]
 refine hS3.ai [sv, (.int .u64 rg.cpl), (.int .u64 rg.off)] b7M b5k rfl rfl (by first | (simp []; done) | simp [Value.cells]) (by first | (simp []; done) | simp [Value.cells]) (by simp [OC, (hS3.sl hr.1).cells.2.1]) (by decide) (by decide) fun w1 H4 hS4 => ?_
 simp only [RT] at hS4
 simp (disch := omega) only [↓RA, RZ, simprocAttr, hn, g2]
 refine hS4.cF (b4R o (ho.ab hS4) w1 [(sv, rg)] (hS4.aw 3 rfl (fun _ => rfl)) (by simp) (by intro p hp; rw [dB.1 hp]; exact hr.ab hS4) kv ks (hk.ab hS4)) fun H5 hS5 => ?_
 have hsc := a7q o sv rg ks
 simp (disch := omega) only [↓RA, RB, simprocAttr, hn, hsc]
 refine iA (fun h1 => ?_) (fun h1 => ?_)
 ·have hd : a5C o rg ks c = rkE o rg ks := by rw [a5C, if_pos h1]
  simp (disch := omega) only [↓RA, RZ, simprocAttr, hn, c4b, hsc, h1]
  rw [hd, adF, if_neg (by rw [hd]; exact h1)]
  exact ⟨.slice none 0 0, rfl, hnil, hS5.forget⟩
 have hd : a5C o rg ks c = qB o c := by rw [a5C, if_neg h1]
 have h0 := du.1 h1
 simp (disch := omega) only [↓RA, RZ, simprocAttr, hn, hS5.ae 0 rfl, hS5.ae 2 rfl, hsc, h1]
 refine hS5.cF (uF o (ho.ab hS5) c) fun H6 hS6 => ?_
 simp (disch := omega) only [↓RA, RZ, simprocAttr, hn, hsc, h1]
 refine iA (fun h2 => ?_) (fun h2 => ?_)
 ·simp (disch := omega) only [↓RA, RZ, simprocAttr, hn, c4b, hsc, h1, h2]
  rw [hd, adF, if_neg (by rw [hd]; exact h2)]
  exact ⟨.slice none 0 0, rfl, hnil, hS6.forget⟩
 have h3 := du.1 h2
 have hc := (nM o c).1 h3
 obtain ⟨hz1, hz2⟩ := uU h0
 obtain ⟨hz3, hz4⟩ := lZ hz1
 have hf := Org.aH hz3
 have hplc := pQ hk.ok hz2
 have hkl := (nY hz2).2.1
 have hpl := a8g ks ks.length
 have hpl2 : (iF ks).length ≤ 896 := by unfold iF; omega
 have hpll := qU hz2
 have hplc2 : ∀ x ∈ iF ks ++ [c], kY o x = true := fun x hx => by
  rcases dF.1 hx with h | h
  ·exact hplc x h
  ·rw [dB.1 h]; exact hc
 have hpll2 : (iF ks ++ [c]).length ≤ 1024 := by rw [dp, gz]; omega
 rw [hd, h3, adF, if_pos (by rw [hd]; exact h3)]
 simp (disch := omega) only [↓RA, RZ, simprocAttr, hn, g2, hsc, h1]
 refine iG ((a4O (hS6.gl hG) kv ks (hk.ab hS6) (by omega)).tr) ?_
 rintro r H7 ⟨-, hT3⟩
 have hS7 := hS6.trans hT3
 simp only [RT] at hS7
 obtain ⟨pv, rfl⟩ : ∃ w, w = r := ⟨r, rfl⟩
 simp (disch := omega) only [↓RA, RZ, simprocAttr, hn, hsc, h1]
 refine Wp.aM jZ [(0, 4), (0, 7), (1, 4), (1, 7), (4, 0), (8, 0), (8, 4), (8, 7), (9, 0), (9, 4), (9, 7)] (by kernel_rfl) (by kernel_rfl) ?_
 simp (disch := omega) only [↓RA, RZ, simprocAttr, hn, hS7.ae 0 rfl, hS7.ae 1 rfl]
 refine iG ((b1a pv (iF ks) (hS7.aw 4 rfl jS) (by omega)).tr) ?_
 rintro r H8 ⟨-, hT4⟩
 have hS8 := hS7.trans hT4
 simp only [RT] at hS8
 obtain ⟨qv, rfl⟩ : ∃ w, w = r := ⟨r, rfl⟩
 simp (disch := omega) only [↓RA, RZ, simprocAttr, hn, hS8.ae 2 rfl]
 refine hS8.ai [I c.1, I c.2] qP a1Z rfl rfl (by simp [Value.cells]) rfl rfl (by decide) (by decide) fun w2 H9 hS9 => ?_
 simp only [RT] at hS9
 simp (disch := omega) only [↓RA, RZ, simprocAttr, hn]
 refine hS9.aq 5 rfl (hS9.rd 6 rfl) qP (by rw [show ((iF ks).flatMap jP).length = (iF ks).length * 2 from iJ _]; simp only [dU, eH]; omega) fun w3 H10 hS10 => ?_
 simp only [RT] at hS10
 simp (disch := omega) only [↓RA, RZ, simprocAttr, hn]
 have happ : (iF ks).flatMap jP ++ [I c.1, I c.2] = pr (iF ks ++ [c]) := by rw [jJ]; rfl
 rw [happ] at hS10
 have hS1 := hS10
 refine iG (rX o (ho.ab hS10) hf rg sv (hr.ab hS10) hz4 w3 (iF ks ++ [c]) (hS10.aw 5 rfl jS) hpll2 hplc2) ?_
 rintro r H11 ⟨hx, hT5⟩
 have hS11 := hS10.trans hT5
 simp only [RT] at hS11
 obtain ⟨av, rfl⟩ : ∃ w, w = r := ⟨r, rfl⟩
 have hx2 := hx.step (hS1.ba (H' := H11))
 obtain ⟨X, hBX, hS12⟩ := hS11.aC (os := [⟨ptr A1 0 4, 0, _⟩, ⟨ptr A2 0 3, 0, _⟩, ⟨ptr A3 0 2, 0, _⟩, ⟨w1, 3, _⟩, ⟨pv, 2, _⟩, ⟨w3, 2, _⟩, ⟨w2, 2, _⟩])
 simp (disch := omega) only [↓RA, RZ, simprocAttr, hn, hS12.ae 0 rfl, hS12.ae 1 rfl]
 have hS2 := hS12
 refine iG (rX o (ho.ab (hS11.aj hBX hS12)) hf rg sv (hr.ab (hS11.aj hBX hS12)) hz4 pv (iF ks) (hS12.aw 4 rfl jS) hpll hplc) ?_
 rintro r H12 ⟨hy, hT6⟩
 have hS13 := hS12.trans hT6
 simp only [RT] at hS13
 obtain ⟨bv, rfl⟩ : ∃ w, w = r := ⟨r, rfl⟩
 have hx3 := hx2.step (hS13.kept hBX)
 have hy2 := hy.step (hS2.ba (H' := H12))
 obtain ⟨Y, hBY, hS14⟩ := hS13.aC (os := [⟨ptr A1 0 4, 0, _⟩, ⟨ptr A2 0 3, 0, _⟩, ⟨ptr A3 0 2, 0, _⟩, ⟨w1, 3, _⟩, ⟨pv, 2, _⟩, ⟨w3, 2, _⟩, ⟨w2, 2, _⟩])
 have hla := qY hf rg hpll2 (mI hplc2)
 have hlb := qY hf rg hpll (mI hplc)
 have hsb := a0D o rg (iF ks)
 have hx4 := hx3.step (hS14.kept hBY)
 have hy3 := hy2.step (hS14.kept hBY)
 simp (disch := omega) only [↓RA, RZ, simprocAttr, hn]
 refine iG ((a6G av bv (kJ o rg (iF ks ++ [c])) (kJ o rg (iF ks)) hx4.1 hy3.1 (by omega) (by omega) hsb).tr) ?_
 rintro r H13 ⟨-, hT7⟩
 have hS15 := hS14.trans hT7
 simp only [RT] at hS15
 obtain ⟨gv, rfl⟩ : ∃ w, w = r := ⟨r, rfl⟩
 have hnt1 := (hS15.aw (cel := jP) 7 rfl jS).bD
 simp (disch := omega) only [↓RA, RZ, simprocAttr, hn, hS8.ae 0 rfl, hS10.ae 0 rfl, hS8.ae 1 rfl, hS10.ae 1 rfl, hS7.ae 2 rfl, hS7.ae 0 rfl, hS7.ae 1 rfl, c4b, hnt1]
 exact ⟨gv, rfl, (hS11.aj hBX (hS13.aj hBY hS15)).cq 7 rfl jS, (hS11.aj hBX (hS13.aj hBY hS15)).forget⟩
theorem b6d (o : Org) (rg : Reg) : a1p o rg [] = mQ o rg := by
 unfold a1p
 split
 ·rename_i h
  unfold mQ
  rw [if_pos h]
 ·split
  ·rfl
  ·rename_i h
   rw [if_neg (by simp), du.1 h]
   exact kL _ _ fun j hj => absurd hj (dN _)
theorem c4g {H : Heap} : Sl 1 Kv.cells H (.slice none 0 0) [] := ⟨.inl ⟨rfl, rfl⟩, fun _ => rfl, by decide⟩
theorem a7F (o : Org) (ho : o.In H) (rg : Reg) (sv : Value) (hr : rg.In H sv) :
 Fn prog 49 [.agg #[.string o.name, o.rv, o.dv, o.cv], .agg #[sv, .int .u64 rg.cpl, .int .u64 rg.off], .slice none 0 0] H fun r H' => r = I (mQ o rg) ∧ St prog H H' [] := by
 have h := c0q o ho rg sv hr (.slice none 0 0) [] c4g (by simp) (by simp)
 rw [b6d] at h
 exact h
def c3r (o : Org) (rg : Reg) (ks : List Nt) (c : Ct) : Int := oO o (adF o rg ks c)
theorem b9a {o : Org} {rg : Reg} {ks : List Nt} {c : Ct} : ∀ p ∈ adF o rg ks c, IsP o p := by
 intro p hp
 unfold adF at hp
 split at hp
 ·exact oD (eh.1 hp).1
 ·exact absurd hp ec
theorem c3z {o : Org} (hdv : o.dvs.length ≤ 7) {rg : Reg} {ks : List Nt} {c : Ct} (hok : ∀ x ∈ ks, Nt.Ok x) : (adF o rg ks c).length ≤ 1000000 := by
 unfold adF
 split
 ·rename_i h
  refine dC (a8s _ _) ?_
  have h1 : rkE o rg ks = 0 := by
   unfold a5C at h
   split at h
   ·rename_i h2; exact absurd h h2
   ·rename_i h2; exact du.1 h2
  have h2 : qB o c = 0 := by
   unfold a5C at h
   rw [if_neg (by rw [h1]; simp)] at h
   exact h
  obtain ⟨z1, z2⟩ := uU h1
  have hf := Org.aH (lZ z1).1
  have hcc := (nM o c).1 h2
  have hwl : (iF ks ++ [c]).length ≤ 1024 := by
   have hkl := (nY z2).2.1
   have hd := hf.dlen
   have hpl := a8g ks ks.length
   rw [dp, gz]
   unfold iF
   omega
  exact qY hf rg hwl (mI fun x hx => by
   rcases dF.1 hx with h | h
   ·exact pQ hok z2 x h
   ·rw [dB.1 h]; exact hcc)
 ·simp
theorem c1B (hG : Glob gH H) (o : Org) (ho : o.In H) (hdv : o.dvs.length ≤ 7) (rg : Reg) (sv : Value) (hr : rg.In H sv) (kv : Value) (ks : List Nt) (hk : Ks H kv ks) (c : Ct) :
 Fn prog 29 [.agg #[.string o.name, o.rv, o.dv, o.cv], .agg #[sv, .int .u64 rg.cpl, .int .u64 rg.off], kv, .agg #[I c.1, I c.2]] H fun r H' => r = .tuple #[I (c3r o rg ks c), I (a5C o rg ks c)] ∧ St prog H H' [] := by
 have hle := c3z hdv (rg := rg) (c := c) hk.ok
 refine .cJ func29 rfl (by kernel_rfl) (m := 26) rfl fun l hn g0 g1 g2 g3 => ?_
 simp (disch := omega) only [↓RA, RB, simprocAttr, g0]
 refine (sR H).eNew 4 [(.string o.name), o.rv, o.dv, o.cv] rfl rfl (by simp [OC, ((sR H).sl ho.1).cells.2.1, ((sR H).sl ho.2.2.1).cells.2.1, ((sR H).sl ho.2.2.2.2.1).cells.2.1]) lP fun A1 H1 hS1 => ?_
 simp only [RT] at hS1
 simp (disch := omega) only [↓RA, RB, simprocAttr, g1]
 refine hS1.eNew 3 [sv, (.int .u64 rg.cpl), (.int .u64 rg.off)] rfl rfl (by simp [OC, (hS1.sl hr.1).cells.2.1]) nQ fun A2 H2 hS2 => ?_
 simp only [RT] at hS2
 simp (disch := omega) only [↓RA, RB, simprocAttr, g3]
 refine hS2.eNew 2 [I c.1, I c.2] rfl rfl rfl lA fun A3 H3 hS3 => ?_
 simp only [RT] at hS3
 simp (disch := omega) only [↓RA, RZ, simprocAttr, hn, g2, hS3.ae 0 rfl, hS3.ae 1 rfl, hS3.ae 2 rfl]
 refine iG (b8b (hS3.gl hG) o (ho.ab hS3) hdv rg sv (hr.ab hS3) kv ks (hk.ab hS3) c) ?_
 rintro r H4 ⟨av, rfl, hx, hT1⟩
 have hS4 := hS3.trans hT1
 simp only [RT] at hS4
 simp (disch := omega) only [↓RA, RB, simprocAttr, hn]
 refine iA (fun h1 => ?_) (fun h1 => ?_)
 ·have hs : c3r o rg ks c = 0 := by unfold c3r adF; rw [if_neg h1]; rfl
  simp (disch := omega) only [↓RA, RZ, simprocAttr, hn, c6j, h1]
  exact ⟨by rw [hs], hS4.forget⟩
 have h0 := du.1 h1
 simp (disch := omega) only [↓RA, RZ, simprocAttr, hn, hS4.ae 0 rfl, h1]
 refine hS4.cF (a2C o (ho.ab hS4) av (adF o rg ks c) hx.1 (by omega) b9a) fun H5 hS5 => ?_
 simp (disch := omega) only [↓RA, RZ, simprocAttr, hn, c6j, h1]
 rw [h0]
 exact ⟨rfl, hS5.forget⟩
def grR (o : Org) (rg : Reg) : Ct × Int := if mQ o rg = 0 then uV (mJ o rg) (rS o) (((0 : Int), (iB o.dvs 0).lo), 0) else ((0, 0), 0)
theorem c6i (l : List Value) (H : Heap) : iC prog Tryz.f20 l H = (pO (jR prog 64) (iE prog 64) H (get l 4)).bind fun v => if (jD v && (jD (get l 5) && (jD (get l 6) && true))) = true then some (.tuple #[v, get l 5, get l 6]) else none := by
 show (Option.bind (Option.bind (lQ prog H 64 (get l 4)) fun v => some [v, get l 5, get l 6]) fun vs => _) = _
 rw [lE]
 cases pO _ _ H (get l 4) <;> rfl
theorem a1f (o : Org) (ho : o.In H) (rg : Reg) (sv : Value) (hr : rg.In H sv) :
 Fn prog 20 [.agg #[.string o.name, o.rv, o.dv, o.cv], .agg #[sv, .int .u64 rg.cpl, .int .u64 rg.off]] H fun r H' => r = .tuple #[.agg #[I (grR o rg).1.1, I (grR o rg).1.2], I (grR o rg).2, I (mQ o rg)] ∧ St prog H H' [] := by
 refine .aF func20 rfl (by kernel_rfl) (m := 64) rfl fun l hn g0 g1 => ?_
 simp (disch := omega) only [↓RA, RB, simprocAttr, g0]
 refine (sR H).eNew 4 [(.string o.name), o.rv, o.dv, o.cv] rfl rfl (by simp [OC, ((sR H).sl ho.1).cells.2.1, ((sR H).sl ho.2.2.1).cells.2.1, ((sR H).sl ho.2.2.2.2.1).cells.2.1]) lP fun A1 H1 hS1 => ?_
 simp only [RT] at hS1
 simp (disch := omega) only [↓RA, RB, simprocAttr, g1]
 refine hS1.eNew 3 [sv, (.int .u64 rg.cpl), (.int .u64 rg.off)] rfl rfl (by simp [OC, (hS1.sl hr.1).cells.2.1]) nQ fun A2 H2 hS2 => ?_
 simp only [RT] at hS2
 simp (disch := omega) only [↓RA, RZ, simprocAttr]
 refine hS2.eNew 2 [I 0, I 0] rfl rfl rfl lA fun A3 H3 hS3 => ?_
 simp only [RT] at hS3
 simp (disch := omega) only [↓RA, RZ, simprocAttr, hn, hS3.ae 0 rfl, hS3.ae 1 rfl]
 refine hS3.cF (a7F o (ho.ab hS3) rg sv (hr.ab hS3)) fun H4 hS4 => ?_
 simp (disch := omega) only [↓RA, RB, simprocAttr, hn]
 refine iA (fun h1 => ?_) (fun h1 => ?_)
 ·have e : grR o rg = ((0, 0), 0) := by unfold grR; rw [if_neg h1]
  simp (disch := omega) only [↓RA, RZ, simprocAttr, hn, c1Y, h1]
  refine hS4.aa 2 rfl [I 0, I 0] rfl rfl lA (by simp) fun H5 hS5 => ?_
  simp only [RT] at hS5
  simp (disch := omega) only [↓RA, RZ, simprocAttr, hn, c6i, hS5.ae 2 rfl, h1]
  exact ⟨by rw [e], hS5.forget⟩
 have h0 := du.1 h1
 have hf := Org.aH (lZ h0).1
 have hd := hf.dpos
 have hdl := hf.dlen
 have e : grR o rg = uV (mJ o rg) (rS o) (((0 : Int), (iB o.dvs 0).lo), 0) := by unfold grR; rw [if_pos h0]
 simp (disch := omega) only [↓RA, RZ, simprocAttr, hn, hS4.ld 0 rfl, (hS4.sl ho.2.2.1).idx, (hS4.sl ho.2.2.1).aY, (hS4.sl ho.2.2.1).ld, Dvn.cells, h1]
 refine hS4.aa 2 rfl [I (iB o.dvs 0).lo] rfl rfl tS3 (by simp) fun H6 hS6 => ?_
 simp only [RT] at hS6
 simp (disch := omega) only [↓RA, RZ, simprocAttr, hn, hS6.ld 0 rfl, (hS6.sl ho.2.2.1).len, h1]
 refine Wp.ak (fun n l H' => l.length = 64 ∧ get l 2 = (ptr A1 0 4) ∧ get l 3 = (ptr A2 0 3) ∧ get l 4 = (ptr A3 0 2) ∧ get l 6 = I 0 ∧ get l 29 = o.dv ∧ get l 30 = I o.dvs.length ∧ ∃ (i : Nat), (n + i = o.dvs.length) ∧ get l 31 = I i ∧ get l 5 = I (uV (mJ o rg) ((List.range i).flatMap (rD o)) (((0 : Int), (iB o.dvs 0).lo), 0)).2 ∧ St prog H H' [⟨ptr A1 0 4, 0, [(.string o.name), o.rv, o.dv, o.cv]⟩, ⟨ptr A2 0 3, 0, [sv, (.int .u64 rg.cpl), (.int .u64 rg.off)]⟩, ⟨ptr A3 0 2, 0, [I (uV (mJ o rg) ((List.range i).flatMap (rD o)) (((0 : Int), (iB o.dvs 0).lo), 0)).1.1, I (uV (mJ o rg) ((List.range i).flatMap (rD o)) (((0 : Int), (iB o.dvs 0).lo), 0)).1.2]⟩]) o.dvs.length ?_ ?_
 ·simp (disch := omega) only [RB, RC, simprocAttr, hn]
  exact ⟨0, by omega, rfl, rfl, hS6⟩
 rintro n l H7 ⟨hn, g2, g3, g4, g6, g29, g30, i, hi, g31, g5, hS7⟩
 simp (disch := omega) only [↓RA, RB, simprocAttr, hn, g30, g31]
 refine iA (fun q1 => ?_) (fun q1 => ?_)
 ·have hki := hf.keys i (by omega)
  have hcn : (a2k o i : Int) = (iB o.dvs i).hi - (iB o.dvs i).lo + 1 := by unfold a2k; omega
  have hpre : tK o i 0 = (List.range i).flatMap (rD o) := by unfold tK; simp
  simp (disch := omega) only [↓RA, RZ, simprocAttr, hn, g29, g31, (hS7.sl ho.2.2.1).idx, (hS7.sl ho.2.2.1).ae, Dvn.cells, q1]
  refine hS7.eNew 5 [(.string ⟨#[]⟩), (.bool false), I 0, I 0, (.slice none 0 0)] rfl rfl rfl uR fun A4 H8 hS8 => ?_
  simp only [RT] at hS8
  simp (disch := omega) only [↓RA, RZ, simprocAttr, hn, q1]
  refine hS8.aa 3 rfl [(.string (iB o.dvs i).name), (.bool (iB o.dvs i).pedal), I (iB o.dvs i).lo, I (iB o.dvs i).hi, (iB o.dvs i).sv] rfl (by simp [OC, (hS8.sl (ho.2.2.2.1 (iB o.dvs i) (iD (by omega))).1).cells.2.1]) uR (by simp) fun H9 hS9 => ?_
  simp only [RT] at hS9
  simp (disch := omega) only [↓RA, RZ, simprocAttr, hn, hS9.ld 3 rfl, q1]
  refine Wp.ak (fun n l H' => l.length = 64 ∧ get l 2 = (ptr A1 0 4) ∧ get l 3 = (ptr A2 0 3) ∧ get l 4 = (ptr A3 0 2) ∧ get l 6 = I 0 ∧ get l 8 = I i ∧ get l 9 = (ptr A4 0 5) ∧ get l 29 = o.dv ∧ get l 30 = I o.dvs.length ∧ get l 31 = I i ∧ ∃ (k : Nat), (n + k = a2k o i) ∧ get l 10 = I ((iB o.dvs i).lo + k) ∧ get l 5 = I (uV (mJ o rg) (tK o i k) (((0 : Int), (iB o.dvs 0).lo), 0)).2 ∧ St prog H H' [⟨ptr A1 0 4, 0, [(.string o.name), o.rv, o.dv, o.cv]⟩, ⟨ptr A2 0 3, 0, [sv, (.int .u64 rg.cpl), (.int .u64 rg.off)]⟩, ⟨ptr A3 0 2, 0, [I (uV (mJ o rg) (tK o i k) (((0 : Int), (iB o.dvs 0).lo), 0)).1.1, I (uV (mJ o rg) (tK o i k) (((0 : Int), (iB o.dvs 0).lo), 0)).1.2]⟩, ⟨ptr A4 0 5, 0, [(.string (iB o.dvs i).name), (.bool (iB o.dvs i).pedal), I (iB o.dvs i).lo, I (iB o.dvs i).hi, (iB o.dvs i).sv]⟩]) (a2k o i) ?_ ?_
  ·simp (disch := omega) only [RB, RC, simprocAttr, hn, g2, g3, g4, g6, g29, g30, g31, g5]
   refine ⟨0, by omega, by simp, ?_⟩
   rw [hpre]
   exact ⟨rfl, hS9⟩
  rintro n l H10 ⟨hn, g2, g3, g4, g6, g8, g9, g29, g30, g31, k, hk, nV, g5, hS10⟩
  simp (disch := omega) only [↓RA, RZ, simprocAttr, hn, g9, nV, hS10.ld 3 rfl]
  refine iA (fun q2 => ?_) (fun q2 => ?_)
  ·have hsu : uV (mJ o rg) (tK o i (k + 1)) (((0 : Int), (iB o.dvs 0).lo), 0) = grS (mJ o rg) (uV (mJ o rg) (tK o i k) (((0 : Int), (iB o.dvs 0).lo), 0)) (kAt o i k) := by rw [a4w, b1x]
   unfold grS at hsu
   simp (disch := omega) only [↓RA, RZ, simprocAttr, hn, g8, nV, qA, q2]
   refine hS10.eNew 2 [I 0, I 0] rfl rfl rfl lA fun A5 H11 hS11 => ?_
   simp only [RT] at hS11
   simp (disch := omega) only [↓RA, RZ, simprocAttr, hn, q2]
   refine hS11.aa 4 rfl [I i, I ((iB o.dvs i).lo + k)] rfl rfl lA (by simp) fun H12 hS12 => ?_
   simp only [RT] at hS12
   simp (disch := omega) only [↓RA, RZ, simprocAttr, hn, g2, g3, hS12.ae 0 rfl, hS12.ae 1 rfl, hS12.ae 4 rfl, q2]
   refine hS12.cF (b8D o (ho.ab hS12) rg sv (hr.ab hS12) (kAt o i k)) fun H13 hS13 => ?_
   simp (disch := omega) only [↓RA, RZ, simprocAttr, hn, g5, q2]
   refine iA (fun q3 => ?_) (fun q3 => ?_)
   ·simp (disch := omega) only [↓RA, RZ, simprocAttr, hn, g4, hS13.ae 4 rfl, q2, q3]
    refine hS13.aa 2 rfl [I i, I ((iB o.dvs i).lo + k)] rfl rfl lA (by simp) fun H14 hS14 => ?_
    simp only [RT] at hS14
    simp (disch := omega) only [↓RA, RZ, simprocAttr, hn, g2, g3, g4, g6, g8, g9, g29, g30, g31, nV, q2, q3]
    rw [if_pos q3] at hsu
    refine ⟨n - 1, by omega, k + 1, by omega, by congr 1; omega, by rw [hsu], ?_⟩
    rw [hsu]
    exact hS14.pick [0, 1, 2, 3] (by decide) rfl
   simp (disch := omega) only [↓RA, RZ, simprocAttr, hn, g2, g3, g4, g6, g8, g9, g29, g30, g31, nV, g5, q2, q3]
   rw [if_neg q3] at hsu
   refine ⟨n - 1, by omega, k + 1, by omega, by congr 1; omega, by rw [hsu], ?_⟩
   rw [hsu]
   exact hS13.pick [0, 1, 2, 3] (by decide) rfl
  simp (disch := omega) only [↓RA, RZ, simprocAttr, hn, g2, g3, g4, g6, g29, g30, g31, g5, q2]
  have hkk : k = a2k o i := by omega
  rw [hkk, wM] at hS10
  refine ⟨o.dvs.length - (i + 1), by omega, i + 1, by omega, by simp, ?_, ?_⟩
  ·rw [hkk, wM]
  ·exact hS10.pick [0, 1, 2] (by decide) rfl
 simp (disch := omega) only [↓RA, RZ, simprocAttr, hn, g4, g5, hS7.ae 2 rfl, q1]
 refine hS7.aa 2 rfl [I (uV (mJ o rg) ((List.range i).flatMap (rD o)) (((0 : Int), (iB o.dvs 0).lo), 0)).1.1, I (uV (mJ o rg) ((List.range i).flatMap (rD o)) (((0 : Int), (iB o.dvs 0).lo), 0)).1.2] rfl rfl lA (by simp) fun H15 hS15 => ?_
 simp only [RT] at hS15
 simp (disch := omega) only [↓RA, RZ, simprocAttr, hn, g4, c6i, hS15.ae 2 rfl, q1]
 have hii : i = o.dvs.length := by omega
 rw [h0]
 refine ⟨?_, hS15.forget⟩
 rw [hii, e]
 rfl
def a2f (o : Org) (rg : Reg) : Int := if mQ o rg = 0 then oO o (kJ o rg (iF (tA o))) else 0
theorem b9v (hG : Glob gH H) (o : Org) (ho : o.In H) (rg : Reg) (sv : Value) (hr : rg.In H sv) :
 Fn prog 21 [.agg #[.string o.name, o.rv, o.dv, o.cv], .agg #[sv, .int .u64 rg.cpl, .int .u64 rg.off]] H fun r H' => r = .tuple #[I (a2f o rg), I (mQ o rg)] ∧ St prog H H' [] := by
 refine .aF func21 rfl (by kernel_rfl) (m := 42) rfl fun l hn g0 g1 => ?_
 simp (disch := omega) only [↓RA, RB, simprocAttr, g0]
 refine (sR H).eNew 4 [(.string o.name), o.rv, o.dv, o.cv] rfl rfl (by simp [OC, ((sR H).sl ho.1).cells.2.1, ((sR H).sl ho.2.2.1).cells.2.1, ((sR H).sl ho.2.2.2.2.1).cells.2.1]) lP fun A1 H1 hS1 => ?_
 simp only [RT] at hS1
 simp (disch := omega) only [↓RA, RB, simprocAttr, g1]
 refine hS1.eNew 3 [sv, (.int .u64 rg.cpl), (.int .u64 rg.off)] rfl rfl (by simp [OC, (hS1.sl hr.1).cells.2.1]) nQ fun A2 H2 hS2 => ?_
 simp only [RT] at hS2
 simp (disch := omega) only [↓RA, RZ, simprocAttr, hn, hS2.ae 0 rfl, hS2.ae 1 rfl]
 refine hS2.cF (a7F o (ho.ab hS2) rg sv (hr.ab hS2)) fun H3 hS3 => ?_
 simp (disch := omega) only [↓RA, RB, simprocAttr, hn]
 refine iA (fun h1 => ?_) (fun h1 => ?_)
 ·have e : a2f o rg = 0 := by unfold a2f; rw [if_neg h1]
  simp (disch := omega) only [↓RA, RZ, simprocAttr, hn, c5Z, h1]
  exact ⟨by rw [e], hS3.forget⟩
 have h0 := du.1 h1
 have hoe := (lZ h0).1
 have hf := Org.aH hoe
 have hdl := hf.dlen
 simp (disch := omega) only [↓RA, RZ, simprocAttr, hn, hS3.ld 0 rfl, (hS3.sl ho.2.2.1).len, h1]
 have hS4 := hS3.nil 1
 simp only [RT] at hS4
 refine Wp.ak (fun n l H' => l.length = 42 ∧ get l 2 = (ptr A1 0 4) ∧ get l 3 = (ptr A2 0 3) ∧ get l 4 = I 0 ∧ get l 5 = I 0 ∧ get l 19 = o.dv ∧ get l 20 = I o.dvs.length ∧ ∃ (i : Nat) (ov : Value), (n + i = o.dvs.length) ∧ get l 21 = I i ∧ get l 7 = ov ∧ St prog H H' [⟨ptr A1 0 4, 0, [(.string o.name), o.rv, o.dv, o.cv]⟩, ⟨ptr A2 0 3, 0, [sv, (.int .u64 rg.cpl), (.int .u64 rg.off)]⟩, ⟨ov, 2, ((o.dvs.take i).map fun d => sI d.lo d.hi).flatMap yI⟩]) o.dvs.length ?_ ?_
 ·simp (disch := omega) only [RB, RC, simprocAttr, hn]
  exact ⟨0, .slice none 0 0, by omega, rfl, rfl, hS4⟩
 rintro n l H4 ⟨hn, g2, g3, g4, g5, g19, g20, i, ov, hi, g21, g7, hS5⟩
 simp (disch := omega) only [↓RA, RB, simprocAttr, hn, g20, g21]
 refine iA (fun q1 => ?_) (fun q1 => ?_)
 ·have hki := hf.keys i (by omega)
  simp (disch := omega) only [↓RA, RZ, simprocAttr, hn, g19, g21, (hS5.sl ho.2.2.1).idx, (hS5.sl ho.2.2.1).ae, Dvn.cells, q1]
  refine hS5.eNew 5 [(.string ⟨#[]⟩), (.bool false), I 0, I 0, (.slice none 0 0)] rfl rfl rfl uR fun A3 H5 hS6 => ?_
  simp only [RT] at hS6
  simp (disch := omega) only [↓RA, RZ, simprocAttr, hn, q1]
  refine hS6.aa 3 rfl [(.string (iB o.dvs i).name), (.bool (iB o.dvs i).pedal), I (iB o.dvs i).lo, I (iB o.dvs i).hi, (iB o.dvs i).sv] rfl (by simp [OC, (hS6.sl (ho.2.2.2.1 (iB o.dvs i) (iD (by omega))).1).cells.2.1]) uR (by simp) fun H6 hS7 => ?_
  simp only [RT] at hS7
  simp (disch := omega) only [↓RA, RZ, simprocAttr, hn, hS7.ae 3 rfl, q1]
  refine hS7.cF (a4q (iB o.dvs i).lo (iB o.dvs i).hi hki.1 hki.2.1 hki.2.2) fun H7 hS8 => ?_
  simp (disch := omega) only [↓RA, RZ, simprocAttr, hn, q1]
  refine hS8.eNew 2 [(.int .u64 0), (.int .u64 0)] rfl rfl rfl kX fun A4 H8 hS9 => ?_
  simp only [RT] at hS9
  simp (disch := omega) only [↓RA, RZ, simprocAttr, hn, q1]
  refine hS9.aa 4 rfl [(.int .u64 (sI (iB o.dvs i).lo (iB o.dvs i).hi).1), (.int .u64 (sI (iB o.dvs i).lo (iB o.dvs i).hi).2)] rfl rfl kX (by simp) fun H9 hS10 => ?_
  simp only [RT] at hS10
  simp (disch := omega) only [↓RA, RZ, simprocAttr, hn, g7, hS10.ae 4 rfl, q1]
  refine hS10.ai [(.int .u64 (sI (iB o.dvs i).lo (iB o.dvs i).hi).1), (.int .u64 (sI (iB o.dvs i).lo (iB o.dvs i).hi).2)] a3C b6J rfl rfl (by simp [Value.cells]) rfl rfl (by decide) (by decide) fun w1 H10 hS11 => ?_
  simp only [RT] at hS11
  simp (disch := omega) only [↓RA, RZ, simprocAttr, hn, q1]
  refine hS11.aq 2 rfl (hS11.rd 5 rfl) a3C (by rw [iM (n := 2) (cel := yI) (fun _ => rfl), ef, fL]; simp; omega) fun w2 H11 hS12 => ?_
  simp only [RT] at hS12
  simp (disch := omega) only [↓RA, RZ, simprocAttr, hn, g2, g3, g4, g5, g19, g20, g21, q1]
  refine ⟨n - 1, by omega, i + 1, w2, by omega, by simp, rfl, ?_⟩
  rw [wS o.dvs i (by omega), dQ, dD]
  exact hS12.pick [0, 1, 2] (by decide) rfl
 have hii : i = o.dvs.length := by omega
 subst hii
 simp (disch := omega) only [↓RA, RZ, simprocAttr, hn, g2, g3, g7, hS5.ae 0 rfl, hS5.ae 1 rfl, q1]
 have hfu : Sl 2 yI H4 ov (tA o) := by have h := hS5.aw (cel := yI) 2 rfl (fun _ => rfl); rw [dS] at h; exact h
 refine hS5.cF (b6p (hS5.gl hG) o (ho.ab hS5) rg sv (hr.ab hS5) ov (tA o) ⟨hfu, by rw [wH]; omega, b7k hf⟩) fun H12 hS13 => ?_
 have hrk : rkE o rg (tA o) = 0 := by unfold rkE; rw [if_neg (by rw [h0]; simp)]; exact c0z hoe
 have he : a7T o rg (tA o) = a2f o rg := by unfold a7T a2f oL; rw [if_pos hrk, if_pos h0]
 simp (disch := omega) only [↓RA, RZ, simprocAttr, hn, c5Z, q1]
 rw [hrk, he, h0]
 exact ⟨rfl, hS13.forget⟩
end Go.Ds
namespace Go.Ds
open Go.Proofs Go.Proofs.Tryz
variable {H : Heap}
set_option maxRecDepth 100000
set_option maxHeartbeats 1000000
def b1q (r : Rs) (n : Int) : Bool := match r with
 | .ok (.tuple vs) _ => (match vs.toList with
   | [.int .u64 a, .int .u64 b] => decide (a = 0) && decide (b = n)
   | _ => false)
 | .th (.tuple vs) _ => (match vs.toList with
   | [.int .u64 a, .int .u64 b] => decide (a = 0) && decide (b = n)
   | _ => false)
 | _ => false
theorem c2D : (uM prog [52, 84, 85] .e fun T => [(25 : Int)].all fun n => b1q (nA T (exF prog T 4000) [] (kT 52) [.int .u64 1, .int .u64 n] gH) n) = true := by kernel_rfl
theorem b4H {T : LT} (hT : TOk prog T) {k : FuncId} {args : List Value} {n : Int} (h : b1q (nA T (exF prog T 4000) [] (kT k) args gH) n = true) : Fn prog k args gH fun r _ => r = .tuple #[.int .u64 0, .int .u64 n] := by
 have hv : ∀ (vs : Array Value), (match vs.toList with
  | [.int .u64 a, .int .u64 b] => decide (a = 0) && decide (b = n)
  | _ => false) = true → Value.tuple vs = .tuple #[.int .u64 0, .int .u64 n] := by
  intro vs h
  split at h
  ·rename_i a b e
   rw [cW, decide_eq_true_eq, decide_eq_true_eq] at h
   obtain ⟨rfl, rfl⟩ := h
   congr 1
   exact gR e
  ·cases h
 unfold b1q at h
 split at h
 ·rename_i vs H1 e
  rw [← hv vs h]
  exact mH hT (.inl e)
 ·rename_i vs H1 e
  rw [← hv vs h]
  exact mH hT (.inr e)
 ·cases h
theorem b8j (hG : Glob gH H) : Fn prog 52 [.int .u64 1, .int .u64 25] H fun r H' => r = .tuple #[.int .u64 0, .int .u64 25] ∧ St prog H H' [] := by
 obtain ⟨T, hT, h⟩ := rI (ps := [(25 : Int)]) (f := fun T n => b1q (nA T (exF prog T 4000) [] (kT 52) [.int .u64 1, .int .u64 n] gH) n) c2D
 exact sX (by simp [flat, jB, iY]) rfl (b4H hT (h 25 (by simp))) hG
theorem sB (c z : Value) : ∀ (m x n : Nat), x + m ≤ n → iX (List.replicate x c ++ List.replicate (n - x) z) x (List.replicate m c) = List.replicate (x + m) c ++ List.replicate (n - (x + m)) z := by
 intro m x n h
 have e : List.replicate (n - x) z = List.replicate m z ++ List.replicate (n - (x + m)) z := by
  rw [List.replicate_append_replicate]; congr 1; omega
 have := nF (List.replicate m c) (List.replicate x c) (List.replicate (n - x) z) (by simp; omega)
 rw [eM] at this
 rw [this, List.replicate_append_replicate]
 congr 1
 simp
 omega
theorem a9q {H : Heap} {v : Value} {cs : List Value} (h : RdAt H v 1 cs) (h0 : cs ≠ []) : rN v 1 0 cs.length = v := by
 rcases h with ⟨rfl, rfl⟩ | ⟨A, i, e, row, ty, rw, lo', ver, n, h1, h2, h3, h4, h5, h6, rfl⟩
 ·exact (h0 rfl).elim
 ·simp [rN, h6]
theorem St.cm {P : Program} {H0 : Base} {os : List Ob} (hS : St P H0 H os) (i : Nat) {v : Value} {cs : List Value} (ho : os[i]? = some ⟨v, 1, cs⟩) {x : Value} {ys : List Value} (hx : RdAt H x 1 ys) (h0 : 0 < cs.length) (hy : 0 < ys.length) {t : TypeId} (ht : iT P t = some 1) {K : Value → Heap → Prop}
 (h : ∀ H1, St P H0 H1 (os.set i ⟨v, 1, iX cs 0 (ys.take (min ys.length cs.length))⟩) → K (.int .i64 ((min ys.length cs.length : Nat) : Int)) H1) : a4f P H t v x K := by
 have e := a9q (hS.rd (size := 0) i ho) (by intro e; simp [e] at h0)
 have := hS.bM i ho hx 0 cs.length (by omega) h0 hy ht h
 rwa [e] at this
theorem a3g (hG : Glob gH H) {c : Int} (v : Value) (hv : Sl 1 (one I) H v [c]) : Fn prog 38 [v, I 25] H fun r H' => St prog H H' [⟨r, 1, List.replicate 25 (I c)⟩] := by
 have h1 : (([c] : List Int).length : Int) = 1 := rfl
 refine .aF func38 rfl (by kernel_rfl) (m := 48) rfl fun l hn g0 g1 => ?_
 simp (disch := omega) only [↓RA, RZ, simprocAttr, hn, g0, g1, ((sR H).sl hv).len]
 refine (sR H).cF (b8j ((sR H).gl hG)) fun H1 hS1 => ?_
 simp (disch := omega) only [↓RA, RZ, simprocAttr, hn]
 refine hS1.bL 25 c4Z (by omega) fun w H2 hS2 => ?_
 simp only [RT] at hS2
 simp (disch := omega) only [↓RA, RB, simprocAttr, hn, g0]
 refine hS2.cm 0 rfl (hS2.sl hv).rd (by simp) (by simp [one]) c3k fun H3 hS3 => ?_
 have e1 : min ([c].flatMap (one I)).length (List.replicate 25 (Value.int .i64 0)).length = 1 := by simp [one]
 rw [e1] at hS3 ⊢
 have e2 := sB (I c) (.int .i64 0) 1 0 25 (by omega)
 simp only [List.replicate_zero, fj, Nat.sub_zero, fJ] at e2
 have hS4 : St prog H H3 [⟨w, 1, List.replicate 1 (I c) ++ List.replicate (25 - 1) (.int .i64 0)⟩] := by
  rw [← e2]
  exact hS3
 simp (disch := omega) only [↓RA, RB, simprocAttr, hn]
 have e3 : ∀ x : Nat, List.replicate x (I c) ++ List.replicate (25 - x) (.int .i64 0) = (List.replicate x (c : Int) ++ List.replicate (25 - x) 0).flatMap (one I) := fun x => by
  rw [pX, dQ, List.map_replicate, List.map_replicate]
 refine Wp.ak (fun n l H' => l.length = 48 ∧ get l 4 = (.slice none 0 0) ∧ ∃ (x : Nat), (n + x = 25 ∧ 1 ≤ x) ∧ get l 8 = I x ∧ get l 7 = w ∧ St prog H H' [⟨w, 1, (List.replicate x (c : Int) ++ List.replicate (25 - x) 0).flatMap (one I)⟩]) 24 ?_ ?_
 ·simp (disch := omega) only [RB, RC, simprocAttr, hn]
  rw [e3] at hS4
  exact ⟨1, ⟨by omega, by omega⟩, rfl, hS4⟩
 rintro n l H2 ⟨hn, g4, x, ⟨hx,hx1⟩, g8, g7, hS2⟩
 have hln : (List.replicate x (c : Int) ++ List.replicate (25 - x) 0).length = 25 := by simp; omega
 simp (disch := omega) only [↓RA, RZ, simprocAttr, hn, g8, g7, (hS2.aw 0 rfl (fun _ => rfl)).len, hln]
 refine iA (fun q1 => ?_) (fun q1 => ?_)
 ·simp (disch := omega) only [↓RA, RC, simprocAttr, q1]
  refine Wp.drw jZ (by kernel_rfl) ?_
  simp (disch := omega) only [↓RA, RZ, simprocAttr, hn, g8, g7, (hS2.aw 0 rfl (fun _ => rfl)).aU, (hS2.aw 0 rfl (fun _ => rfl)).aV, hln]
  have hxt : ((25 : Int) - (x : Int)).toNat = 25 - x := by omega
  rw [hxt]
  have hlc : ((List.replicate x (c : Int) ++ List.replicate (25 - x) 0).flatMap (one I)).length = 25 := by rw [pX, ef, hln]
  have hrd := hS2.rd 0 rfl
  have hsub := hrd.sub 0 x (by rw [hlc]; omega) (by intro e; rw [e] at hlc; simp at hlc)
  have e5 : (((List.replicate x (c : Int) ++ List.replicate (25 - x) 0).flatMap (one I)).drop (0 * (0 + 1))).take (x * (0 + 1)) = List.replicate x (I c) := by
   rw [← e3]
   simp []
  rw [e5] at hsub
  refine hS2.bM 0 rfl hsub x (25 - x) (by rw [hlc]; omega) (by omega) (by simp; omega) c3k fun H4 hS5 => ?_
  have e6 : (List.replicate x (I c)).take (min (List.replicate x (I c)).length (25 - x)) = List.replicate (min x (25 - x)) (I c) := by simp
  rw [e6] at hS5
  have e7 : min (List.replicate x (I c)).length (25 - x) = min x (25 - x) := by simp
  rw [e7]
  have e8 := sB (I c) (.int .i64 0) (min x (25 - x)) x 25 (by omega)
  have hS6 : St prog H H4 [⟨w, 1, (List.replicate (x + min x (25 - x)) (c : Int) ++ List.replicate (25 - (x + min x (25 - x))) 0).flatMap (one I)⟩] := by
   rw [← e3, ← e8, e3]
   exact hS5
  simp (disch := omega) only [↓RA, RZ, simprocAttr, hn, g4, g7]
  exact ⟨25 - (x + min x (25 - x)), by omega, x + min x (25 - x), ⟨by omega, by omega⟩, by simp, hS6⟩
 simp (disch := omega) only [↓RA, RZ, simprocAttr, hn, g7, c8s, q1]
 have e : x = 25 := by omega
 subst e
 have hfin : ((List.replicate 25 (c : Int) ++ List.replicate (25 - 25) 0).flatMap (one I)) = List.replicate 25 (I c) := by rw [← e3]; rfl
 have h9 := hS2
 rw [hfin] at h9
 exact h9
end Go.Ds
namespace Go.Ds
open Go.Proofs
variable {H : Heap}
set_option maxRecDepth 10000
set_option maxHeartbeats 1000000
section
variable (w1 w2 w3 w4 w5 w6 w7 : Value)
def a8W (x : Int × Int) : List (Int × Int) → List (Int × Int)
 | [] => [x]
 | y :: l => if le2 x y then x :: y :: l else y :: a8W x l
def a3S : List (Int × Int) → List (Int × Int)
 | [] => []
 | x :: l => a8W x (a3S l)
theorem a0L (x : Int × Int) : ∀ l, (a8W x l).Perm (x :: l)
 | [] => .refl _
 | y :: l => by
   unfold a8W
   split
   ·exact .refl _
   ·exact ((a0L x l).cons y).trans (.swap ..)
theorem a4y : ∀ l, (a3S l).Perm l
 | [] => .refl _
 | x :: l => (a0L x _).trans ((a4y l).cons x)
theorem b3d (x y : Int × Int) : le2 x y = false → le2 y x = true := by
 intro h
 rw [← eK] at h
 rw [nU] at h ⊢
 omega
theorem a1o (x : Int × Int) : ∀ l : List (Int × Int), l.Pairwise (fun a b => le2 a b = true) → (a8W x l).Pairwise fun a b => le2 a b = true
 | [], _ => by simp [a8W]
 | y :: l, h => by
   have h1 := gU.1 h
   unfold a8W
   split
   ·rename_i hxy
    refine gU.2 ⟨fun z hz => ?_, h⟩
    rcases dV.1 hz with rfl | hz
    ·exact hxy
    ·have h2 := h1.1 z hz
     rw [nU] at *
     omega
   ·rename_i hxy
    refine gU.2 ⟨fun z hz => ?_, a1o x l h1.2⟩
    rcases dV.1 ((a0L x l).mem_iff.1 hz) with rfl | hz
    ·exact b3d _ _ (by simpa using hxy)
    ·exact h1.1 z hz
theorem a1i : ∀ l : List (Int × Int), (a3S l).Pairwise fun a b => le2 a b = true
 | [] => .nil
 | x :: l => a1o x _ (a1i l)
theorem c2M : pI = a3S := by
 funext l
 refine List.Perm.eq_of_pairwise (le := fun a b => le2 a b = true) (fun a b _ _ h1 h2 => ?_) (tS l) (a1i l) ((mX l).trans (a4y l).symm)
 rw [nU] at h1 h2
 exact fT (by omega) (by omega)
def b7m (s : List Ct → List Ct) (o : Org) (r : Reg) (l : List Ct) : List Ct := dd (s (l.filter (fun c => !r.off.testBit c.1.toNat) ++ bfs o r.cpl 1100 0 (kH o r.cpl l)))
def c4h (s : List Ct → List Ct) (rs : List Rk) (p : Stp) (key : Int) : List Ct := dd (s (((a5m p key).filter fun d => rK rs d key).map fun d => mM rs d key))
def b6O (s : List Ct → List Ct) (o : Org) (r : Reg) (c : Ct) : List Ct := (List.range (iB o.dvs c.1.toNat).stops.length).flatMap fun i => if (iB r.stops c.1.toNat).testBit i then c4h s o.ranks (iB (iB o.dvs c.1.toNat).stops i) c.2 else []
end
end Go.Ds
namespace Go.Ds
open Go.Proofs Go.Proofs.Tryz
variable {H : Heap}
set_option maxRecDepth 10000
set_option maxHeartbeats 1000000
theorem a4X (hG : Glob gH H) (s : ByteArray) : Fn prog 66 [.string s] H fun r H' => ∃ wv, r = .agg #[.string s, .string ⟨#[102, 108, 117, 116, 101]⟩, I 8, I 1, I 36, wv] ∧ St prog H H' [⟨wv, 1, List.replicate 25 (I 1)⟩] := by
 refine .aP func66 rfl (by kernel_rfl) (m := 8) rfl fun l hn g0 => ?_
 simp (disch := omega) only [↓RA, RZ, simprocAttr]
 refine (sR H).eNew 6 [(.string ⟨#[]⟩), (.string ⟨#[]⟩), I 0, I 0, I 0, (.slice none 0 0)] rfl rfl rfl a1E fun A1 H1 hS1 => ?_
 simp only [RT] at hS1
 simp (disch := omega) only [↓RA, RB, simprocAttr, g0, zL]
 refine hS1.ai [I 1] zQ a2c rfl rfl (by simp [Value.cells]) rfl rfl (by decide) (by decide) fun w1 H2 hS2 => ?_
 simp only [RT] at hS2
 simp (disch := omega) only [↓RA, RZ, simprocAttr, hn]
 refine iG ((a3g (hS2.gl hG) w1 (hS2.aw 1 rfl (fun _ => rfl))).tr) ?_
 rintro r H3 ⟨-, hT1⟩
 have hS3 := hS2.trans hT1
 simp only [RT] at hS3
 obtain ⟨wv, rfl⟩ : ∃ w, w = r := ⟨r, rfl⟩
 simp (disch := omega) only [↓RA, RB, simprocAttr, hn, a2W (hS3.rd 2 rfl).cells]
 refine hS3.aa 0 rfl [(.string s), (.string ⟨#[102, 108, 117, 116, 101]⟩), I 8, I 1, I 36, wv] rfl (by simp [OC, (hS3.rd 2 rfl).cells.2.1]) a1E (by simp) fun H4 hS4 => ?_
 simp only [RT] at hS4
 simp (disch := omega) only [↓RA, RZ, simprocAttr, hn, c7R, hS4.ae 0 rfl]
 exact ⟨wv, rfl, hS4.pick [2] (by decide) rfl⟩
theorem a4x (n feet shift : Int) : Fn prog 65 [I n, I feet, I shift] H fun r H' => ∃ dv gv, St prog H H' [⟨dv, 2, [I n, I shift]⟩, ⟨gv, 3, [I 36, I 48, dv]⟩, ⟨r, 4, [.string ⟨#[97]⟩, I feet, I 1, gv]⟩] := by
 refine .bd func65 rfl (by kernel_rfl) (m := 17) rfl fun l hn g0 g1 g2 => ?_
 simp (disch := omega) only [↓RA, RB, simprocAttr, hn, g0, g1, g2, zL, qV]
 refine (sR H).ai [I n, I shift] a4e a4u rfl rfl (by simp [Value.cells]) rfl rfl (by decide) (by decide) fun w1 H1 hS1 => ?_
 simp only [RT] at hS1
 simp (disch := omega) only [↓RA, RB, simprocAttr, hn, lM (hS1.rd 0 rfl).cells]
 refine hS1.ai [I 36, I 48, w1] qH xH rfl rfl (by first | (simp []; done) | simp [Value.cells]) (by first | (simp []; done) | simp [Value.cells]) (by simp [OC, (hS1.rd 0 rfl).cells.2.1]) (by decide) (by decide) fun w2 H2 hS2 => ?_
 simp only [RT] at hS2
 simp (disch := omega) only [↓RA, RB, simprocAttr, hn, a6M (hS2.rd 1 rfl).cells]
 refine hS2.ai [(.string ⟨#[97]⟩), I feet, I 1, w2] c3Z c5E rfl rfl (by first | (simp []; done) | simp [Value.cells]) (by first | (simp []; done) | simp [Value.cells]) (by simp [OC, (hS2.rd 1 rfl).cells.2.1]) (by decide) (by decide) fun w3 H3 hS3 => ?_
 simp only [RT] at hS3
 simp (disch := omega) only [↓RA, RB, simprocAttr, hn, c7k]
 exact ⟨w1, w2, hS3⟩
section
variable (w1 w2 d1 g1 s1 d2 g2 s2 w3 w4 w5 : Value)
end
def a0w (c1 c2 : Int) (w1 w2 : Value) : List Rk := [⟨⟨#[114]⟩, ⟨#[102, 108, 117, 116, 101]⟩, 8, 1, 36, w1, List.replicate 25 c1⟩, ⟨⟨#[115]⟩, ⟨#[102, 108, 117, 116, 101]⟩, 8, 1, 36, w2, List.replicate 25 c2⟩]
def b6l (d1 g1 s1 d2 g2 s2 : Value) : List Dvn := [⟨⟨#[111, 110, 101]⟩, false, 36, 48, s1, [⟨⟨#[97]⟩, 8, 1, g1, [⟨36, 48, d1, [⟨0, 0⟩]⟩]⟩]⟩, ⟨⟨#[116, 119, 111]⟩, false, 36, 48, s2, [⟨⟨#[97]⟩, 4, 1, g2, [⟨36, 48, d2, [⟨1, 12⟩]⟩]⟩]⟩]
def b8w : List Cpl := [⟨⟨#[99]⟩, 0, 1, 0, false⟩]
def exW (c1 c2 : Int) (w1 w2 d1 g1 s1 d2 g2 s2 w3 w4 w5 : Value) : Org := ⟨⟨#[101]⟩, w3, a0w c1 c2 w1 w2, w4, b6l d1 g1 s1 d2 g2 s2, w5, b8w⟩
theorem a7H (hG : Glob gH H) : Fn prog 37 [] H fun r H' => ∃ w1 w2 d1 g1 s1 d2 g2 s2 w3 w4 w5, r = .agg #[.string ⟨#[101]⟩, w3, w4, w5] ∧ St prog H H' [⟨w1, 1, (List.replicate 25 (1 : Int)).flatMap (one I)⟩, ⟨w2, 1, (List.replicate 25 (1 : Int)).flatMap (one I)⟩,
 ⟨d1, 2, [(⟨0, 0⟩ : Drw)].flatMap Drw.cells⟩, ⟨g1, 3, [(⟨36, 48, d1, [⟨0, 0⟩]⟩ : Seg)].flatMap Seg.cells⟩, ⟨s1, 4, [(⟨⟨#[97]⟩, 8, 1, g1, [⟨36, 48, d1, [⟨0, 0⟩]⟩]⟩ : Stp)].flatMap Stp.cells⟩,
 ⟨d2, 2, [(⟨1, 12⟩ : Drw)].flatMap Drw.cells⟩, ⟨g2, 3, [(⟨36, 48, d2, [⟨1, 12⟩]⟩ : Seg)].flatMap Seg.cells⟩, ⟨s2, 4, [(⟨⟨#[97]⟩, 4, 1, g2, [⟨36, 48, d2, [⟨1, 12⟩]⟩]⟩ : Stp)].flatMap Stp.cells⟩,
 ⟨w3, 6, (a0w 1 1 w1 w2).flatMap Rk.cells⟩, ⟨w4, 5, (b6l d1 g1 s1 d2 g2 s2).flatMap Dvn.cells⟩, ⟨w5, 5, b8w.flatMap Cpl.cells⟩] := by
 refine .cO func37 rfl (by kernel_rfl) (m := 19) rfl fun l hn => ?_
 simp (disch := omega) only [↓RA, RZ, simprocAttr]
 refine (sR H).eNew 4 [(.string ⟨#[]⟩), (.slice none 0 0), (.slice none 0 0), (.slice none 0 0)] rfl rfl rfl lP fun A1 H1 hS1 => ?_
 simp only [RT] at hS1
 simp (disch := omega) only [↓RA, RZ, simprocAttr, a6F]
 refine hS1.eNew 2 [I 0, I 0] rfl rfl rfl a1D fun A2 H2 hS2 => ?_
 simp only [RT] at hS2
 simp (disch := omega) only [↓RA, RB, simprocAttr, hn]
 refine hS2.aa 1 rfl [I 36, I 48] rfl rfl a1D (by simp) fun H3 hS3 => ?_
 simp only [RT] at hS3
 simp (disch := omega) only [↓RA, RB, simprocAttr]
 refine Wp.cg jZ [0, 1, 4, 5, 8, 9, 2, 3, 6, 7, 10, 11, 12, 13, 14, 15] [0, 1, 6, 7, 2, 3, 8, 9, 4, 5, 10, 11, 12, 13, 14, 15] ⟨true, [36], []⟩ [(7, 0), (7, 1), (7, 2), (7, 4), (7, 6), (9, 0), (9, 1), (9, 2), (9, 4), (9, 6)] (by kernel_rfl) (by kernel_rfl) (by kernel_rfl) ?_
 simp (disch := omega) only [↓RA, RZ, simprocAttr]
 refine iG (a4X (hS3.gl hG) _) ?_
 rintro r H4 ⟨wv1, rfl, hT1⟩
 have hS4 := hS3.trans hT1
 simp only [RT] at hS4
 simp (disch := omega) only [↓RA, RZ, simprocAttr]
 refine iG (a4X (hS4.gl hG) _) ?_
 rintro r H5 ⟨wv2, rfl, hT2⟩
 have hS5 := hS4.trans hT2
 simp only [RT] at hS5
 simp (disch := omega) only [↓RA, RZ, simprocAttr, hn]
 refine iG (a4x 0 8 0) ?_
 rintro r H6 ⟨d1, g1, hT3⟩
 have hS6 := hS5.trans hT3
 simp only [RT] at hS6
 obtain ⟨s1, rfl⟩ : ∃ w, w = r := ⟨r, rfl⟩
 simp (disch := omega) only [↓RA, RZ, simprocAttr, hn]
 refine iG (a4x 1 4 12) ?_
 rintro r H7 ⟨d2, g2, hT4⟩
 have hS7 := hS6.trans hT4
 simp only [RT] at hS7
 obtain ⟨s2, rfl⟩ : ∃ w, w = r := ⟨r, rfl⟩
 simp (disch := omega) only [↓RA, RB, simprocAttr, hn]
 refine hS7.ai [(.string ⟨#[114]⟩), (.string ⟨#[102, 108, 117, 116, 101]⟩), I 8, I 1, I 36, wv1, (.string ⟨#[115]⟩), (.string ⟨#[102, 108, 117, 116, 101]⟩), I 8, I 1, I 36, wv2] c3c c4N rfl rfl (by first | (simp []; done) | simp [Value.cells]) (by first | (simp []; done) | simp [Value.cells]) (by simp [OC, (hS7.rd 2 rfl).cells.2.1, (hS7.rd 3 rfl).cells.2.1]) (by decide) (by decide) fun w1 H8 hS8 => ?_
 simp only [RT] at hS8
 simp (disch := omega) only [↓RA, RZ, simprocAttr, hn, hS8.ae 1 rfl, a2d (hS8.rd 6 rfl).cells, a2d (hS8.rd 9 rfl).cells]
 refine hS8.ai [(.string ⟨#[111, 110, 101]⟩), (.bool false), I 36, I 48, s1, (.string ⟨#[116, 119, 111]⟩), (.bool false), I 36, I 48, s2] c3D c5u rfl rfl (by first | (simp []; done) | simp [Value.cells]) (by first | (simp []; done) | simp [Value.cells]) (by simp [OC, (hS8.rd 6 rfl).cells.2.1, (hS8.rd 9 rfl).cells.2.1]) (by decide) (by decide) fun w2 H9 hS9 => ?_
 simp only [RT] at hS9
 simp (disch := omega) only [↓RA, RB, simprocAttr, hn, a6U]
 refine hS9.ai [(.string ⟨#[99]⟩), I 0, I 1, I 0, (.bool false)] b0f c0P rfl rfl (by simp [Value.cells]) rfl rfl (by decide) (by decide) fun w3 H10 hS10 => ?_
 simp only [RT] at hS10
 simp (disch := omega) only [↓RA, RB, simprocAttr, hn, a6a (hS10.rd 10 rfl).cells (hS10.rd 11 rfl).cells (hS10.rd 12 rfl).cells]
 refine hS10.aa 0 rfl [(.string ⟨#[101]⟩), w1, w2, w3] rfl (by simp [OC, (hS10.rd 10 rfl).cells.2.1, (hS10.rd 11 rfl).cells.2.1, (hS10.rd 12 rfl).cells.2.1]) lP (by simp) fun H11 hS11 => ?_
 simp only [RT] at hS11
 simp (disch := omega) only [↓RA, RZ, simprocAttr, hn, hS3.ae 1 rfl, hS4.ae 1 rfl, hS5.ae 1 rfl, hS6.ae 1 rfl, hS7.ae 1 rfl, c7i, hS11.ae 0 rfl]
 exact ⟨wv1, wv2, d1, g1, s1, d2, g2, s2, w1, w2, w3, rfl, hS11.pick [2, 3, 4, 5, 6, 7, 8, 9, 10, 11, 12] (by decide) rfl⟩
section
variable (w1 w2 d1 g1 s1 d2 g2 s2 w3 w4 w5 : Value)
theorem a6f : mQ (exW 7 2 w1 w2 d1 g1 s1 d2 g2 s2 w3 w4 w5) ⟨[1, 1], 1, 0⟩ = 0 := by kernel_rfl
theorem b5A : lW (exW 7 2 w1 w2 d1 g1 s1 d2 g2 s2 w3 w4 w5) [jF [40, 41], (0, 0)] = 0 := by kernel_rfl
theorem a9I : rkE (exW 7 2 w1 w2 d1 g1 s1 d2 g2 s2 w3 w4 w5) ⟨[1, 1], 1, 0⟩ [jF [40, 41], (0, 0)] = 0 := by
 unfold rkE
 rw [a6f, if_neg (by decide), b5A]
end
end Go.Ds
