/-
  A part of the proof of SilenceControls.
-/
import Derived.Test.YtabfngimnibecaaGreatDoorVE
import Derived.Test.YtabfngimnibecaaGreatDoorVJ
import Derived.Test.YtabfngimnibecaaGreatDoorVD
set_option linter.unusedVariables false
set_option linter.unusedSimpArgs false
set_option linter.defProp false
set_option linter.unusedSectionVars false
namespace Go.Ds
open Go.Proofs Go.Proofs.Tryz
variable {H : Heap}
set_option maxRecDepth 10000
set_option maxHeartbeats 1000000
def mkN (P : Program) (t : TypeId) : Option (Nat × Nat × List Value) :=
 (gQ P t).bind fun elem => (gM P elem).bind fun size => (mN P elem).bind fun bytes => (iF P elem).bind fun z => if size != 0 && size != 1 && z.cells.size == size && iL z then some (bytes, size, z.cells.toList) else none
theorem b3w {β : Type} (cel : β → List Value) (x : β) (z : Array Value) (hz : cel x = z.toList) (h0 : 0 < z.size) : ∀ a, (madeCells z (a * z.size)).toList = (List.replicate a x).flatMap cel := by
 have key : ∀ a, (List.range (a * z.size)).map (fun i => z[i % z.size]!) = (List.replicate a x).flatMap cel := by
  intro a
  induction a with
  | zero => simp
  | succ a ih =>
    rw [gh, Nat.add_comm, List.range_add, dN, List.map_map, List.replicate_succ, dD, ← ih, hz]
    congr 1
    ·refine List.ext_getElem (by simp) fun i h1 h2 => ?_
     simp only [List.getElem_map, gw]
     rw [fQ (by simpa using h1)]
     simp at h1
     simp [h1]
    ·refine List.map_congr_left fun i _ => ?_
     simp
 intro a
 rw [← key a]
 simp [madeCells]
theorem St.cj {P : Program} {H0 : Base} {H : Heap} {os : List Ob} {β : Type} {cel : β → List Value} {x : β} (hS : St P H0 H os) {t : TypeId} {bytes sz : Nat} {zs : List Value} {K : Value → Heap → Prop} (a : Nat) (ha : mkN P t = some (bytes, sz, zs)) (hz : cel x = zs) (hroom : a * (bytes + 1) ≤ 17592186044416)
 (h : ∀ v H1, St P H0 H1 (os ++ [⟨v, sz, (List.replicate a x).flatMap cel⟩]) → K v H1) : pF P H t (.int .i64 a) (.int .i64 a) K := by
 unfold mkN at ha
 cases he : gQ P t with
 | none => rw [he] at ha; cases ha
 | some elem =>
 rw [he] at ha
 simp only [cV] at ha
 cases hsz2 : gM P elem with
 | none => rw [hsz2] at ha; cases ha
 | some sz =>
 rw [hsz2] at ha
 simp only [cV] at ha
 cases hby : mN P elem with
 | none => rw [hby] at ha; cases ha
 | some by' =>
 rw [hby] at ha
 simp only [cV] at ha
 cases hz2 : iF P elem with
 | none => rw [hz2] at ha; cases ha
 | some z' =>
 rw [hz2] at ha
 simp only [cV] at ha
 split at ha
 case isFalse => cases ha
 rename_i hzs
 simp only [cW, beq_iff_eq, bne_iff_ne, ne_eq] at hzs
 obtain ⟨⟨⟨hs0, hs1⟩, hz1⟩, hfl⟩ := hzs
 simp only [du, gm] at ha
 obtain ⟨rfl, rfl, rfl⟩ := ha
 have hm := b3w cel x z'.cells hz (by omega) a
 rw [hz1] at hm
 have hln : ((List.replicate a x).flatMap cel).length = a * sz := by
  rw [← hm]
  simp [madeCells]
 refine ⟨.slice (some ⟨H.length, 0, some ((List.replicate a x).flatMap cel).length⟩) a sz, H.cons (.cells ((List.replicate a x).flatMap cel) elem true ((List.replicate a x).flatMap cel).length 0), ?_, h _ _ (hS.add ?_ ?_ ?_ ?_)⟩
 ·unfold vH
  simp only [he, hsz2, hby, hz2, cV]
  rw [if_pos]
  ·rw [if_neg hs1]
   simp only [fK, hm]
   rw [kT]
  ·have : (a : Int) * (by' + 1) ≤ (nT : Int) := by
    have h3 : ((a * (by' + 1) : Nat) : Int) ≤ ((17592186044416 : Nat) : Int) := Int.ofNat_le.2 hroom
    simpa [nT] using h3
   simp [hfl, hz1, this, hs0]
 ·unfold OwnAt
  rw [if_neg hs0]
  exact .inr ⟨_, 0, elem, _, 0, [], a, gW H _, by simp, rfl, hln, by simp, hsz2⟩
 ·simp [oG]
 ·exact fun B hB => iX _ hB
 ·intro B hB
  simp [jT] at hB
  omega
abbrev Nt := Nat × Nat
def ntc (x : Nt) : List Value := [.int .u64 x.1, .int .u64 x.2]
def Nt.Ok (x : Nt) : Prop := x.1 < 18446744073709551616 ∧ x.2 < 18446744073709551616
theorem b9q : mkN prog 107 = some (16, 2, ntc (0, 0)) := by kernel_rfl
def qJ (x : Nt) (n : Int) : Nt := if n < 64 then (x.1 ||| 2 ^ n.toNat, x.2) else (x.1, x.2 ||| 2 ^ (n - 64).toNat)
theorem a8G (i : Nat) (h : i < 64) : 2 ^ i < 18446744073709551616 := by
 have : 2 ^ i ≤ 2 ^ 63 := eZ (by decide) (by omega)
 have e : 2 ^ 63 = 9223372036854775808 := rfl
 omega
theorem a5Q {a b : Nat} (ha : a < 18446744073709551616) (hb : b < 18446744073709551616) : a ||| b < 18446744073709551616 := Nat.or_lt_two_pow (n := 64) ha hb
theorem orB (a b : Nat) (ha : a < 18446744073709551616) (hb : b < 18446744073709551616) : IntKind.wrap .u64 ((BitVec.ofInt (IntKind.bits .u64) (a : Int) ||| BitVec.ofInt (IntKind.bits .u64) (b : Int)).toNat : Int) = ((a ||| b : Nat) : Int) := by
 have e : (BitVec.ofInt (IntKind.bits .u64) (a : Int) ||| BitVec.ofInt (IntKind.bits .u64) (b : Int)).toNat = a ||| b := by
  rw [BitVec.toNat_or, a3v a ha, a3v b hb]
 rw [e]
 have := a5Q ha hb
 exact qW _ (by omega) (by omega)
theorem orN (n i : Nat) (hn : n < 18446744073709551616) (hi : i < 64) : IntKind.wrap .u64 ((BitVec.ofInt (IntKind.bits .u64) (n : Int) ||| BitVec.ofInt (IntKind.bits .u64) (IntKind.wrap .u64 (1 * 2 ^ min i (IntKind.bits .u64)))).toNat : Int) = ((n ||| 2 ^ i : Nat) : Int) := by
 rw [b7V i hi]
 exact orB n (2 ^ i) hn (a8G i hi)
theorem b5w {x : Nt} (hx : Nt.Ok x) {z : Int} (h0 : 0 ≤ z) (h1 : z < 128) : Nt.Ok (qJ x z) := by
 unfold qJ
 split
 ·exact ⟨a5Q hx.1 (a8G _ (by omega)), hx.2⟩
 ·exact ⟨hx.1, a5Q hx.2 (a8G _ (by omega))⟩
theorem b2G (x : Nt) (hx : Nt.Ok x) (z : Int) (h0 : 0 ≤ z) (h1 : z < 128) : Fn prog 176 [.agg #[.int .u64 x.1, .int .u64 x.2], I z] H fun r H' => r = .agg #[.int .u64 (qJ x z).1, .int .u64 (qJ x z).2] ∧ St prog H H' [] := by
 obtain ⟨m, rfl⟩ := eY h0
 refine .aE func176 rfl (by kernel_rfl) (m := 21) rfl fun l hn g0 g1 => ?_
 simp (disch := omega) only [↓RA, RB, simprocAttr, g0]
 refine (sR H).eNew 2 [(.int .u64 x.1), (.int .u64 x.2)] rfl rfl rfl oT fun A1 H1 hS1 => ?_
 simp only [RT] at hS1
 simp (disch := omega) only [↓RA, RZ, simprocAttr]
 refine hS1.eNew 2 [(.int .u64 0), (.int .u64 0)] rfl rfl rfl oT fun A2 H2 hS2 => ?_
 simp only [RT] at hS2
 simp (disch := omega) only [↓RA, RB, simprocAttr, hn, g1]
 refine gJ (fun q1 => ?_) (fun q1 => ?_)
 ·have e1 := orN x.1 m hx.1 (by omega)
  have e2 : qJ x (m : Int) = (x.1 ||| 2 ^ m, x.2) := by unfold qJ; rw [if_pos q1]; rfl
  simp (disch := omega) only [↓RA, RC, simprocAttr, q1]
  refine Wp.drw iZ (by kernel_rfl) ?_
  simp (disch := omega) only [↓RA, RZ, simprocAttr, hn, g1, hS2.ld 0 rfl, e1]
  refine hS2.aa 0 rfl [(.int .u64 (x.1 ||| 2 ^ m : Nat))] rfl rfl a0d (by simp) fun H3 hS3 => ?_
  simp only [RT] at hS3
  simp (disch := omega) only [↓RA, RZ, simprocAttr, hn, hS3.ab 0 rfl]
  refine hS3.aa 1 rfl [(.int .u64 (x.1 ||| 2 ^ m : Nat)), (.int .u64 x.2)] rfl rfl oT (by simp) fun H4 hS4 => ?_
  simp only [RT] at hS4
  simp (disch := omega) only [↓RA, RZ, simprocAttr, hn, b8l, hS4.ab 1 rfl]
  rw [e2]
  exact ⟨rfl, hS4.forget⟩
 have e1 := orN x.2 (m - 64) hx.2 (by omega)
 have e3 : (m : Int) - 64 = ((m - 64 : Nat) : Int) := by omega
 have e2 : qJ x (m : Int) = (x.1, x.2 ||| 2 ^ (m - 64)) := by unfold qJ; rw [if_neg q1, e3]; rfl
 simp (disch := omega) only [↓RA, RC, simprocAttr, q1]
 refine Wp.drw iZ (by kernel_rfl) ?_
 simp (disch := omega) only [↓RA, RZ, simprocAttr, hn, g1, hS2.ld 0 rfl, e1, e3]
 refine hS2.aa 0 rfl [(.int .u64 (x.2 ||| 2 ^ (m - 64) : Nat))] rfl rfl a0d (by simp) fun H5 hS5 => ?_
 simp only [RT] at hS5
 simp (disch := omega) only [↓RA, RZ, simprocAttr, hn, hS5.ab 0 rfl]
 refine hS5.aa 1 rfl [(.int .u64 x.1), (.int .u64 (x.2 ||| 2 ^ (m - 64) : Nat))] rfl rfl oT (by simp) fun H6 hS6 => ?_
 simp only [RT] at hS6
 simp (disch := omega) only [↓RA, RZ, simprocAttr, hn, b8l, hS6.ab 1 rfl]
 rw [e2]
 exact ⟨rfl, hS6.forget⟩
def jB (xs : List Int) : Nt := xs.foldl qJ (0, 0)
def isN (z : Int) : Prop := 0 ≤ z ∧ z < 128
theorem qQ : ∀ (xs : List Int) (x : Nt), (∀ z ∈ xs, isN z) → Nt.Ok x → Nt.Ok (xs.foldl qJ x)
 | [], _, _, h => h
 | z :: xs, x, hz, h => by
   rw [eT]
   exact qQ xs _ (fun y hy => hz y (eC _ hy)) (b5w h (hz z (dZ ..)).1 (hz z (dZ ..)).2)
theorem zH (xs : List Int) {j : Nat} (hj : j < xs.length) : jB (xs.take (j + 1)) = qJ (jB (xs.take j)) (gK xs j) := by
 unfold jB
 rw [List.take_add_one, dp hj, Option.toList_some, gC, ← jL _ j hj]
 rfl
theorem b1h (z : Int) (h : isN z) : Fn prog 175 [I z] H fun r H' => r = .bool true ∧ St prog H H' [] := by
 have h0 := h.1
 have h1 := h.2
 refine .aY func175 rfl (by kernel_rfl) (m := 9) rfl fun l hn g0 => ?_
 simp (disch := omega) only [↓RA, RZ, simprocAttr, hn, g0]
 refine hK (fun q1 => ?_) (fun q1 => ?_)
 rotate_left
 ·exfalso; first | omega | (simp at q1; omega)
 simp (disch := omega) only [↓RA, RZ, simprocAttr, hn, g0, c1f, q1]
 simpa using ⟨(by omega : z ≤ 127), (sR H)⟩
theorem a8D (xs : List Int) (hz : ∀ z ∈ xs, isN z) (v : Value) (hv : Sl 1 (one I) H v xs) (hl : xs.length < 1000000000) :
 Fn prog 107 [v] H fun r H' => r = .tuple #[.agg #[.int .u64 (jB xs).1, .int .u64 (jB xs).2], I 0] ∧ St prog H H' [] := by
 refine .aY func107 rfl (by kernel_rfl) (m := 22) rfl fun l hn g0 => ?_
 simp (disch := omega) only [↓RA, RZ, simprocAttr]
 refine (sR H).eNew 2 [(.int .u64 0), (.int .u64 0)] rfl rfl rfl oT fun A1 H1 hS1 => ?_
 simp only [RT] at hS1
 simp (disch := omega) only [↓RA, RZ, simprocAttr]
 refine hS1.eNew 2 [(.int .u64 0), (.int .u64 0)] rfl rfl rfl oT fun A2 H2 hS2 => ?_
 simp only [RT] at hS2
 simp (disch := omega) only [↓RA, RZ, simprocAttr, hn, g0, (hS2.sl hv).len]
 refine Wp.al (fun n l H' => l.length = 22 ∧ get l 2 = (ptr A1 0 2) ∧ get l 4 = (ptr A2 0 2) ∧ get l 7 = v ∧ get l 8 = I xs.length ∧ ∃ (j : Nat), (n + j = xs.length) ∧ get l 9 = I j ∧ St prog H H' [⟨ptr A1 0 2, 0, [(.int .u64 0), (.int .u64 0)]⟩, ⟨ptr A2 0 2, 0, [.int .u64 (jB (xs.take j)).1, .int .u64 (jB (xs.take j)).2]⟩]) xs.length ?_ ?_
 ·simp (disch := omega) only [RB, RC, simprocAttr, hn]
  exact ⟨0, by omega, rfl, hS2⟩
 rintro n l H3 ⟨hn, g2, g4, g7, g8, j, hj, g9, hS3⟩
 simp (disch := omega) only [↓RA, RB, simprocAttr, hn, g8, g9]
 refine gJ (fun q1 => ?_) (fun q1 => ?_)
 ·have hx := hz _ (gN (xs := xs) (j := j) (by omega))
  have hok : Nt.Ok (jB (xs.take j)) := qQ _ _ (fun z h => hz z (List.mem_of_mem_take h)) ⟨by decide, by decide⟩
  simp (disch := omega) only [↓RA, RZ, simprocAttr, hn, g7, g9, (hS3.sl hv).idx, (hS3.sl hv).ld, one, q1]
  refine hS3.cF (b1h (gK xs j) hx) fun H4 hS4 => ?_
  simp (disch := omega) only [↓RA, RZ, simprocAttr, hn, g4, hS4.ab 1 rfl, q1]
  refine hS4.cF (b2G (jB (xs.take j)) hok (gK xs j) hx.1 hx.2) fun H5 hS5 => ?_
  simp (disch := omega) only [↓RA, RZ, simprocAttr, hn, g4, q1]
  refine hS5.aa 1 rfl [(.int .u64 (qJ (jB (xs.take j)) (gK xs j)).1), (.int .u64 (qJ (jB (xs.take j)) (gK xs j)).2)] rfl rfl oT (by simp) fun H6 hS6 => ?_
  simp only [RT] at hS6
  simp (disch := omega) only [↓RA, RZ, simprocAttr, hn, g2, g4, g7, g8, g9, q1]
  refine ⟨n - 1, by omega, j + 1, by omega, by simp, ?_⟩
  rw [zH xs (by omega)]
  exact hS6.pick [0, 1] (by decide) rfl
 have hjj : j = xs.length := by omega
 simp (disch := omega) only [↓RA, RZ, simprocAttr, hn, g2, g4, hS3.ab 1 rfl, q1]
 refine hS3.aa 0 rfl [(.int .u64 (jB (xs.take j)).1), (.int .u64 (jB (xs.take j)).2)] rfl rfl oT (by simp) fun H7 hS7 => ?_
 simp only [RT] at hS7
 simp (disch := omega) only [↓RA, RZ, simprocAttr, hn, g2, c1X, hS7.ab 0 rfl, q1]
 rw [hjj, ez]
 exact ⟨rfl, hS7.forget⟩
def unF (x y : Nt) : Nt := (x.1 ||| y.1, x.2 ||| y.2)
theorem b8P {x y : Nt} (hx : Nt.Ok x) (hy : Nt.Ok y) : Nt.Ok (unF x y) := ⟨a5Q hx.1 hy.1, a5Q hx.2 hy.2⟩
theorem b0D (x y : Nt) (hx : Nt.Ok x) (hy : Nt.Ok y) : Fn prog 108 [.agg #[.int .u64 x.1, .int .u64 x.2], .agg #[.int .u64 y.1, .int .u64 y.2]] H fun r H' => r = .agg #[.int .u64 (unF x y).1, .int .u64 (unF x y).2] ∧ St prog H H' [] := by
 have e1 := orB x.1 y.1 hx.1 hy.1
 have e2 := orB x.2 y.2 hx.2 hy.2
 refine .aE func108 rfl (by kernel_rfl) (m := 16) rfl fun l hn g0 g1 => ?_
 simp (disch := omega) only [↓RA, RB, simprocAttr, g0]
 refine (sR H).eNew 2 [(.int .u64 x.1), (.int .u64 x.2)] rfl rfl rfl oT fun A1 H1 hS1 => ?_
 simp only [RT] at hS1
 simp (disch := omega) only [↓RA, RB, simprocAttr, g1]
 refine hS1.eNew 2 [(.int .u64 y.1), (.int .u64 y.2)] rfl rfl rfl oT fun A2 H2 hS2 => ?_
 simp only [RT] at hS2
 simp (disch := omega) only [↓RA, RZ, simprocAttr]
 refine hS2.eNew 2 [(.int .u64 0), (.int .u64 0)] rfl rfl rfl oT fun A3 H3 hS3 => ?_
 simp only [RT] at hS3
 simp (disch := omega) only [↓RA, RZ, simprocAttr, hn, hS3.ld 0 rfl, hS3.ld 1 rfl, e1, e2]
 simp (disch := omega) only [↓RA, RB, simprocAttr, hn, b4t]
 refine hS3.aa 2 rfl [(.int .u64 (x.1 ||| y.1 : Nat)), (.int .u64 (x.2 ||| y.2 : Nat))] rfl rfl oT (by simp) fun H4 hS4 => ?_
 simp only [RT] at hS4
 simp (disch := omega) only [↓RA, RZ, simprocAttr, hn, c2z, hS4.ab 2 rfl]
 exact ⟨rfl, hS4.forget⟩
theorem St.perm {P : Program} {H0 : Base} {os os' : List Ob} (h : St P H0 H os) (hp : os.Perm os') : St P H0 H os' where
 len := h.len
 old := h.old
 own o ho := h.own o (hp.mem_iff.2 ho)
 new o ho := h.new o (hp.mem_iff.2 ho)
 sep := (List.Perm.pairwise_iff (fun {_ _} hxy B hB hB2 => hxy B hB2 hB) hp).1 h.sep
theorem Lp.swap {P : Program} {B : Base} {L : Nat} {r : Loop} {xs ys zs : List Ob} (h : Lp P B L r H ((xs ++ ys) ++ zs)) : Lp P B L r H ((xs ++ zs) ++ ys) := by
 have hp : ((xs ++ ys) ++ zs).Perm ((xs ++ zs) ++ ys) := by
  rw [dM, dM]
  exact (List.perm_append_comm).append_left xs
 exact ⟨h.st.perm hp, h.get, h.lo, fun o ho => h.ne o (hp.mem_iff.2 ho)⟩
def a2k (o : Org) (rg : Reg) (acc : List Nt) (c : Ct) : List Nt := if (ofF o rg c).length = 0 then acc.set c.1.toNat (unF (gK acc c.1.toNat) (jB [c.2])) else acc
def oM (o : Org) (rg : Reg) (d : List Ct) : List Nt := d.foldl (a2k o rg) (List.replicate o.dvs.length (0, 0))
theorem a6l (o : Org) (rg : Reg) (d : List Ct) (c : Ct) : oM o rg (d ++ [c]) = a2k o rg (oM o rg d) c := by
 unfold oM
 rw [gC]
 rfl
theorem b4I {o : Org} (hf : o.Fine) {c : Ct} (h : c ∈ pR o) : ∃ (i : Nat) (z : Int), c = ((i : Int), z) ∧ i < o.dvs.length ∧ isN z := by
 obtain ⟨i, hi, h⟩ := eJ.1 h
 obtain ⟨k, hk, rfl⟩ := dA.1 h
 have hi := dF.1 hi
 have hk := dF.1 hk
 have := hf.keys i hi
 exact ⟨i, _, rfl, hi, by omega, by omega⟩
theorem a9m (o : Org) (rg : Reg) : ∀ (d : List Ct) (acc : List Nt), (d.foldl (a2k o rg) acc).length = acc.length
 | [], _ => rfl
 | c :: d, acc => by
   rw [eT, a9m o rg d]
   unfold a2k
   split
   ·rw [fT]
   ·rfl
theorem b4h (o : Org) (hf : o.Fine) (rg : Reg) : ∀ (d : List Ct) (acc : List Nt), (∀ c ∈ d, c ∈ pR o) → (∀ x ∈ acc, Nt.Ok x) → acc.length = o.dvs.length → ∀ x ∈ d.foldl (a2k o rg) acc, Nt.Ok x
 | [], _, _, h, _ => h
 | c :: d, acc, hd, h, hl => by
   rw [eT]
   obtain ⟨i, z, rfl, hi, hz⟩ := b4I hf (hd _ (dZ ..))
   refine b4h o hf rg d _ (fun c hc => hd c (eC _ hc)) (fun x hx => ?_) ?_
   ·unfold a2k at hx
    split at hx
    ·rcases List.mem_or_eq_of_mem_set hx with hx | hx
     ·exact h x hx
     ·rw [hx]
      refine b8P (h _ (gN (by simp; omega))) (qQ _ _ (fun y hy => ?_) ⟨by decide, by decide⟩)
      rw [dJ.1 hy]
      exact hz
    ·exact h x hx
   ·unfold a2k
    split
    ·rw [fT]; exact hl
    ·exact hl
theorem b1F (o : Org) (ho : o.In H) (rg : Reg) (sv : Value) (hr : rg.In H sv) :
 Fn prog 46 [.agg #[.string o.name, o.rv, o.dv, o.cv], .agg #[sv, .int .u64 rg.cpl, .int .u64 rg.off]] H fun r H' => ∃ lv, r = .tuple #[lv, I (jX o rg)] ∧ St prog H H' [⟨lv, 2, (if jX o rg = 0 then oM o rg (pR o) else []).flatMap ntc⟩] := by
 refine .aE func46 rfl (by kernel_rfl) (m := 49) rfl fun l hn g0 g1 => ?_
 simp (disch := omega) only [↓RA, RB, simprocAttr, g0]
 refine (sR H).eNew 4 [(.string o.name), o.rv, o.dv, o.cv] rfl rfl (by simp [OC, ((sR H).sl ho.1).cells.2.1, ((sR H).sl ho.2.2.1).cells.2.1, ((sR H).sl ho.2.2.2.2.1).cells.2.1]) lD fun A1 H1 hS1 => ?_
 simp only [RT] at hS1
 simp (disch := omega) only [↓RA, RB, simprocAttr, g1]
 refine hS1.eNew 3 [sv, (.int .u64 rg.cpl), (.int .u64 rg.off)] rfl rfl (by simp [OC, (hS1.sl hr.1).cells.2.1]) iK fun A2 H2 hS2 => ?_
 simp only [RT] at hS2
 simp (disch := omega) only [↓RA, RZ, simprocAttr, hn, hS2.ab 0 rfl, hS2.ab 1 rfl]
 refine hS2.cF (lN o (ho.ae hS2) rg sv (hr.ae hS2)) fun H3 hS3 => ?_
 simp (disch := omega) only [↓RA, RB, simprocAttr, hn]
 refine gJ (fun h1 => ?_) (fun h1 => ?_)
 ·simp (disch := omega) only [↓RA, RZ, simprocAttr, hn, c2Z, h1]
  exact ⟨.slice none 0 0, rfl, hS3.forget.nil 1⟩
 have h0 := dG.1 h1
 obtain ⟨hz3, hz4⟩ := iY h0
 have hf := Org.aT hz3
 have hd1 := hf.dpos
 have hd2 := hf.dlen
 simp (disch := omega) only [↓RA, RZ, simprocAttr, hn, hS3.ld 0 rfl, (hS3.sl ho.2.2.1).len, h1]
 refine hS3.cj (cel := ntc) (x := (0, 0)) o.dvs.length b9q rfl (by omega) fun w1 H4 hS4 => ?_
 simp only [RT] at hS4
 simp (disch := omega) only [↓RA, RZ, simprocAttr]
 refine hS4.eNew 1 [(.slice none 0 0)] rfl rfl rfl b2a fun A3 H5 hS5 => ?_
 simp only [RT] at hS5
 simp (disch := omega) only [↓RA, RZ, simprocAttr, hn, h1]
 refine hS5.aa 3 rfl [w1] (by rw [(hS5.rd 2 rfl).cells.1]) (by simp [(hS5.rd 2 rfl).cells.2.1]) b2a (by simp) fun H6 hS6 => ?_
 simp only [RT] at hS6
 simp (disch := omega) only [↓RA, RZ, simprocAttr, hn, hS6.ab 0 rfl, hS6.ab 1 rfl, h1]
 refine gP (a4z o (ho.ae hS6) rg sv (hr.ae hS6)) ?_
 rintro r H7 ⟨AK, AL, rfl, hT2⟩
 have hS7 := hS6.trans hT2
 simp only [RT] at hS7
 simp (disch := omega) only [↓RA, RZ, simprocAttr, h1]
 refine Wp.bB fun lrg1 hlrg1 => ?_
 have hnrg1 : lrg1.length = 49 := by rw [hlrg1]; simp (disch := omega) only [RB, simprocAttr, hn]
 have g4rg1 : get lrg1 4 = (.slice none 0 0) := by rw [hlrg1]; simp (disch := omega) only [RB, simprocAttr, hn]
 have g5rg1 : get lrg1 5 = I 0 := by rw [hlrg1]; simp (disch := omega) only [RB, simprocAttr, hn]
 have g7rg1 : get lrg1 7 = (ptr A3 0 1) := by rw [hlrg1]; simp (disch := omega) only [RB, simprocAttr, hn]
 have gfrg1 : get lrg1 24 = .func (.func 174) #[] [(ptr AK 0 4), (ptr AL 0 3)].toArray := by rw [hlrg1]; simp (disch := omega) only [RB, simprocAttr, hn]
 clear hlrg1
 refine Wp.bd gfrg1 fun rg1 hstrg1 hpdrg1 htmrg1 hpsrg1 hasrg1 hbdrg1 => ?_
 have hreqrg1 : ({ rg1 with state := .ready, pending := none } : Loop) = rg1 := by
  cases rg1
  simp only at hstrg1 hpdrg1
  subst hstrg1 hpdrg1
  rfl
 have hLprg1 := Lp.enter hS7 rg1
 generalize H7.cons (.loop rg1) = Hcrg1 at hLprg1 ⊢
 generalize H7.length = Lrg1 at hLprg1 ⊢
 refine (a9E o hf rg sv AK AL (.func (.yield Lrg1) #[] #[]) (fun d xs H1 =>
  Lp prog H Lrg1 rg1 H1 ([⟨ptr A1 0 4, 0, oC o⟩, ⟨ptr A2 0 3, 0, rC rg sv⟩, ⟨w1, 2, (oM o rg d).flatMap ntc⟩, ⟨ptr A3 0 1, 0, [w1]⟩, ⟨ptr AK 0 4, 0, oC o⟩, ⟨ptr AL 0 3, 0, rC rg sv⟩] ++ xs)) ?_ ?_ ?_ ?_ ?_).mono ?_
 ·rw [dh]
  exact hLprg1
 ·rintro d xs H1 h
  have hs := h.left.st
  exact ⟨hs.var 4 rfl, ho.ae hs, hs.var 5 rfl, hr.ae hs, fun x hx => h.st.own x (eR _ hx)⟩
 ·rintro d xs H1 H2 ys h hT
  have h3 := h.ext hT
  rwa [dM] at h3
 ·rintro d xs ys H1 h
  rw [← dM] at h
  exact h.left
 ·rintro d c e xs H1 H20 pv he hLp hT hx
  have hLpj := hLp.ext hT
  rw [dh] at hLpj
  have hdm : ∀ c ∈ d, c ∈ pR o := fun c hc => by rw [he]; exact List.mem_append_left _ hc
  have hal : (oM o rg d).length = o.dvs.length := by unfold oM; rw [a9m, eQ]
  have hOk : ∀ x ∈ oM o rg d, Nt.Ok x := b4h o hf rg d _ hdm (fun x hx => by rw [List.eq_of_mem_replicate hx]; exact ⟨by decide, by decide⟩) (by simp)
  obtain ⟨i, z, rfl, hi, hz⟩ := b4I hf (c := c) (by rw [he]; simp)
  refine mV hLpj.get (by rw [hpsrg1]; rfl) hstrg1 ?_
  refine Wp.aL (l := put (put lrg1 (some 25) (.agg #[I i, I z])) (some 26) (pv)) hasrg1 (by rw [hpsrg1, htmrg1]; first | exact (kG ..).symm | rfl | simp [put, kG]) ?_
  simp (disch := omega) only [↓RA, RZ, simprocAttr]
  refine (sR H20).eNew 2 [I 0, I 0] rfl rfl rfl pU fun A4 H8 hS8 => ?_
  simp only [RT] at hS8
  simp (disch := omega) only [↓RA, RB, simprocAttr, hnrg1]
  refine hS8.aa 0 rfl [I i, I z] rfl rfl pU (by simp) fun H9 hS9 => ?_
  simp only [RT] at hS9
  simp (disch := omega) only [↓RA, RZ, simprocAttr, hnrg1]
  have hSy := hS9
  have hLl : Lrg1 < H1.length := iP hLp.get
  have hLpx := Lp.swap (hLpj.ext hS9)
  refine ⟨rg1, hLpx.get, hstrg1, ?_⟩
  have hYBs1 := hLpx.set (fun h => h) { rg1 with state := .busy }
  have hKBs1 : ∀ B, B ≠ Lrg1 → gY (hset H9 Lrg1 (.loop { rg1 with state := .busy })) B = gY H9 B := fun B h => gT _ (eh h)
  have hNBs1 : (hset H9 Lrg1 (.loop { rg1 with state := .busy })).length = H9.length := iO ..
  generalize hset H9 Lrg1 (.loop { rg1 with state := .busy }) = HBs1 at hYBs1 hKBs1 hNBs1 ⊢
  refine Wp.aL hbdrg1 rfl ?_
  have hZBs1 := hYBs1.left.st
  obtain ⟨Bs1, hBBs1, hS10⟩ := hZBs1.az (os := [⟨ptr A1 0 4, 0, _⟩, ⟨ptr A2 0 3, 0, _⟩, ⟨w1, 2, _⟩, ⟨ptr A3 0 1, 0, _⟩, ⟨ptr AK 0 4, 0, _⟩, ⟨ptr AL 0 3, 0, _⟩, ⟨ptr A4 0 2, 0, _⟩])
  have hxB : Slx 2 kS HBs1 (fun B => H1.length ≤ B) pv (ofF o rg ((i : Int), z)) := hx.step fun B hB hl => ⟨by rw [hKBs1 B (by omega), hSy.ae B hl], hB⟩
  simp (disch := omega) only [↓RA, RZ, simprocAttr, hnrg1, hxB.1.len]
  refine gJ (fun q1 => ?_) (fun q1 => ?_)
  ·have hq : (ofF o rg ((i : Int), z)).length = 0 := by omega
   have hz1 : ∀ y ∈ [z], isN y := fun y hy => by rw [dJ.1 hy]; exact hz
   have hnok : Nt.Ok (jB [z]) := qQ _ _ hz1 ⟨by decide, by decide⟩
   have hiok := hOk _ (gN (xs := oM o rg d) (j := i) (by omega))
   simp (disch := omega) only [↓RA, RZ, simprocAttr, hnrg1, hS10.ld 6 rfl, q1]
   refine hS10.ai [I z] a5T a6W rfl rfl (by simp [Value.cells]) rfl rfl (by decide) (by decide) fun w2 H10 hS11 => ?_
   simp only [RT] at hS11
   simp (disch := omega) only [↓RA, RZ, simprocAttr, hnrg1, q1]
   refine hS11.cF (a8D [z] hz1 _ (hS11.aw 7 rfl (fun _ => rfl)) (by simp)) fun H11 hS12 => ?_
   simp (disch := omega) only [↓RA, RZ, simprocAttr, hnrg1, q1]
   refine hS12.eNew 2 [(.int .u64 0), (.int .u64 0)] rfl rfl rfl oT fun A5 H12 hS13 => ?_
   simp only [RT] at hS13
   simp (disch := omega) only [↓RA, RZ, simprocAttr, hnrg1, q1]
   refine hS13.aa 8 rfl [(.int .u64 (jB [z]).1), (.int .u64 (jB [z]).2)] rfl rfl oT (by simp) fun H13 hS14 => ?_
   simp only [RT] at hS14
   simp (disch := omega) only [↓RA, RZ, simprocAttr, hnrg1, q1]
   refine Wp.aJ iZ [(0, 10), (2, 10)] (by kernel_rfl) (by kernel_rfl) ?_
   simp (disch := omega) only [↓RA, RZ, simprocAttr, hnrg1, g7rg1, hS14.ld 3 rfl, hS14.ld 6 rfl, (hS14.aw 2 rfl (fun _ => rfl)).idx, (hS14.aw 2 rfl (fun _ => rfl)).ab, ntc, hS14.ab 8 rfl]
   refine hS14.cF (b0D (gK (oM o rg d) i) (jB [z]) hiok hnok) fun H14 hS15 => ?_
   simp (disch := omega) only [↓RA, RZ, simprocAttr, hnrg1, (hS15.aw 2 rfl (fun _ => rfl)).idx]
   refine hS15.aS 2 rfl [(.int .u64 (unF (gK (oM o rg d) i) (jB [z])).1), (.int .u64 (unF (gK (oM o rg d) i) (jB [z])).2)] rfl rfl oT (by simp) (by rw [gV (n := 2) (cel := ntc) (fun _ => rfl)]; simp; omega) fun H15 hS16 => ?_
   simp only [RT] at hS16
   simp (disch := omega) only [↓RA, RZ, simprocAttr, hnrg1, g7rg1, hS15.ld 3 rfl, hS15.ld 6 rfl]
   have hS17 := hS16.pick (os' := [⟨ptr A1 0 4, 0, _⟩, ⟨ptr A2 0 3, 0, _⟩, ⟨w1, 2, _⟩, ⟨ptr A3 0 1, 0, _⟩, ⟨ptr AK 0 4, 0, _⟩, ⟨ptr AL 0 3, 0, _⟩]) [0, 1, 2, 3, 4, 5] (by decide) rfl
   have hset2 : ((List.flatMap ntc (oM o rg d)).set (i * 2) (.int .u64 (unF (gK (oM o rg d) i) (jB [z])).1)).set (i * 2 + 1) (.int .u64 (unF (gK (oM o rg d) i) (jB [z])).2) = (oM o rg (d ++ [((i : Int), z)])).flatMap ntc := by
    rw [a6l, a2k, if_pos hq]
    simp only [fK]
    rw [← pY ((((oM o rg d).flatMap ntc).set (i * 2) _).set (i * 2 + 1) _) (i * 2 + 1 + 1), ← lB, ← lB]
    exact a2I (n := 2) (cel := ntc) (fun _ => rfl) (oM o rg d) i 0 [_, _] (unF (gK (oM o rg d) i) (jB [z])) (by omega) (by simp) rfl
   rw [hset2] at hS17
   have hWBs1 := (hYBs1.bh (hBBs1 ▸ hS17)).set (fun h => h) rg1
   rw [← hreqrg1] at hWBs1
   have hfin : Lp prog H Lrg1 rg1 (hset H15 Lrg1 (.loop rg1)) ([⟨ptr A1 0 4, 0, oC o⟩, ⟨ptr A2 0 3, 0, rC rg sv⟩, ⟨w1, 2, (oM o rg (d ++ [((i : Int), z)])).flatMap ntc⟩, ⟨ptr A3 0 1, 0, [w1]⟩, ⟨ptr AK 0 4, 0, oC o⟩, ⟨ptr AL 0 3, 0, rC rg sv⟩] ++ xs) := hreqrg1 ▸ hWBs1
   rw [← hreqrg1] at hfin
   exact ⟨_, (hYBs1.bh (hBBs1 ▸ hS17)).get, rfl, hreqrg1 ▸ hfin⟩
  have hq : ¬ (ofF o rg ((i : Int), z)).length = 0 := by omega
  have hsame : oM o rg (d ++ [((i : Int), z)]) = oM o rg d := by rw [a6l, a2k, if_neg hq]
  simp (disch := omega) only [↓RA, RC, simprocAttr]
  have hS18 := hS10.pick (os' := [⟨ptr A1 0 4, 0, _⟩, ⟨ptr A2 0 3, 0, _⟩, ⟨w1, 2, _⟩, ⟨ptr A3 0 1, 0, _⟩, ⟨ptr AK 0 4, 0, _⟩, ⟨ptr AL 0 3, 0, _⟩]) [0, 1, 2, 3, 4, 5] (by decide) rfl
  have hWBs1 := (hYBs1.bh (hBBs1 ▸ hS18)).set (fun h => h) rg1
  rw [← hreqrg1] at hWBs1
  have hfin : Lp prog H Lrg1 rg1 (hset HBs1 Lrg1 (.loop rg1)) ([⟨ptr A1 0 4, 0, oC o⟩, ⟨ptr A2 0 3, 0, rC rg sv⟩, ⟨w1, 2, (oM o rg (d ++ [((i : Int), z)])).flatMap ntc⟩, ⟨ptr A3 0 1, 0, [w1]⟩, ⟨ptr AK 0 4, 0, oC o⟩, ⟨ptr AL 0 3, 0, rC rg sv⟩] ++ xs) := by
   rw [hsame]
   exact hreqrg1 ▸ hWBs1
  rw [← hreqrg1] at hfin
  exact ⟨_, (hYBs1.bh (hBBs1 ▸ hS18)).get, rfl, hreqrg1 ▸ hfin⟩
 rintro _ H21 hLp2
 rw [dh] at hLp2
 refine ⟨_, hLp2.get, (by rw [hstrg1]; exact fun h => by cases h), fun _ => ?_, fun c hc => by rw [hpdrg1] at hc; cases hc⟩
 have hAAf1 := (hLp2.set (fun h => h) { rg1 with state := .exhausted }).st
 have hKAf1 : ∀ B, B ≠ Lrg1 → gY (hset H21 Lrg1 (.loop { rg1 with state := .exhausted })) B = gY H21 B := fun B h => gT _ (eh h)
 generalize hset H21 Lrg1 (.loop { rg1 with state := .exhausted }) = HAf1 at hAAf1 hKAf1 ⊢
 have hnt : iT w1 = true := (hAAf1.aw (cel := ntc) 2 rfl (fun _ => rfl)).bA
 simp (disch := omega) only [↓RA, RZ, simprocAttr, hnrg1, g7rg1, hAAf1.ld 3 rfl, c2Z, hnt]
 exact ⟨w1, by rw [h0], by rw [if_pos h0]; exact hAAf1.pick [2] (by decide) rfl⟩
theorem b3Q (x : Nt) (hx : Nt.Ok x) (z : Int) (h0 : 0 ≤ z) (h1 : z < 128) : Fn prog 109 [.agg #[.int .u64 x.1, .int .u64 x.2], I z] H fun r H' => r = .agg #[.int .u64 (qJ x z).1, .int .u64 (qJ x z).2] ∧ St prog H H' [] := by
 obtain ⟨m, rfl⟩ := eY h0
 refine .aE func109 rfl (by kernel_rfl) (m := 23) rfl fun l hn g0 g1 => ?_
 simp (disch := omega) only [↓RA, RB, simprocAttr, g0]
 refine (sR H).eNew 2 [(.int .u64 x.1), (.int .u64 x.2)] rfl rfl rfl oT fun A1 H1 hS1 => ?_
 simp only [RT] at hS1
 simp (disch := omega) only [↓RA, RZ, simprocAttr]
 refine hS1.eNew 2 [(.int .u64 0), (.int .u64 0)] rfl rfl rfl oT fun A2 H2 hS2 => ?_
 simp only [RT] at hS2
 simp (disch := omega) only [↓RA, RB, simprocAttr, hn, g1]
 refine gJ (fun q1 => ?_) (fun q1 => ?_)
 ·have e1 := orN x.1 m hx.1 (by omega)
  have e2 : qJ x (m : Int) = (x.1 ||| 2 ^ m, x.2) := by unfold qJ; rw [if_pos q1]; rfl
  simp (disch := omega) only [↓RA, RZ, simprocAttr, hn, g1, hS2.ld 0 rfl, q1, e1]
  refine hS2.aa 0 rfl [(.int .u64 (x.1 ||| 2 ^ m : Nat))] rfl rfl a0d (by simp) fun H3 hS3 => ?_
  simp only [RT] at hS3
  simp (disch := omega) only [↓RA, RZ, simprocAttr, hn, hS3.ab 0 rfl, q1]
  refine hS3.aa 1 rfl [(.int .u64 (x.1 ||| 2 ^ m : Nat)), (.int .u64 x.2)] rfl rfl oT (by simp) fun H4 hS4 => ?_
  simp only [RT] at hS4
  simp (disch := omega) only [↓RA, RZ, simprocAttr, hn, b8b, hS4.ab 1 rfl, q1]
  rw [e2]
  exact ⟨rfl, hS4.forget⟩
 have e1 := orN x.2 (m - 64) hx.2 (by omega)
 have e3 : (m : Int) - 64 = ((m - 64 : Nat) : Int) := by omega
 have e2 : qJ x (m : Int) = (x.1, x.2 ||| 2 ^ (m - 64)) := by unfold qJ; rw [if_neg q1, e3]; rfl
 simp (disch := omega) only [↓RA, RZ, simprocAttr, hn, g1, hS2.ld 0 rfl, q1, e1, e3]
 refine hS2.aa 0 rfl [(.int .u64 (x.2 ||| 2 ^ (m - 64) : Nat))] rfl rfl a0d (by simp) fun H5 hS5 => ?_
 simp only [RT] at hS5
 simp (disch := omega) only [↓RA, RZ, simprocAttr, hn, hS5.ab 0 rfl, q1]
 refine hS5.aa 1 rfl [(.int .u64 x.1), (.int .u64 (x.2 ||| 2 ^ (m - 64) : Nat))] rfl rfl oT (by simp) fun H6 hS6 => ?_
 simp only [RT] at hS6
 simp (disch := omega) only [↓RA, RZ, simprocAttr, hn, b8b, hS6.ab 1 rfl, q1]
 rw [e2]
 exact ⟨rfl, hS6.forget⟩
theorem c0g (xs : List Int) (hz : ∀ z ∈ xs, isN z) (v : Value) (hv : Sl 1 (one I) H v xs) (hl : xs.length < 1000000000) :
 Fn prog 100 [v] H fun r H' => r = .agg #[.int .u64 (jB xs).1, .int .u64 (jB xs).2] ∧ St prog H H' [] := by
 refine .aY func100 rfl (by kernel_rfl) (m := 30) rfl fun l hn g0 => ?_
 simp (disch := omega) only [↓RA, RZ, simprocAttr]
 refine (sR H).eNew 2 [(.int .u64 0), (.int .u64 0)] rfl rfl rfl oT fun A1 H1 hS1 => ?_
 simp only [RT] at hS1
 simp (disch := omega) only [↓RA, RZ, simprocAttr]
 refine hS1.eNew 2 [(.int .u64 0), (.int .u64 0)] rfl rfl rfl oT fun A2 H2 hS2 => ?_
 simp only [RT] at hS2
 simp (disch := omega) only [↓RA, RB, simprocAttr]
 refine Wp.al (fun n l H' => l.length = 30 ∧ get l 0 = v ∧ get l 2 = (ptr A1 0 2) ∧ get l 3 = (ptr A2 0 2) ∧ ∃ (j : Nat), (n + j = xs.length) ∧ get l 4 = I j ∧ St prog H H' [⟨ptr A1 0 2, 0, [(.int .u64 0), (.int .u64 0)]⟩, ⟨ptr A2 0 2, 0, [.int .u64 (jB (xs.take j)).1, .int .u64 (jB (xs.take j)).2]⟩]) xs.length ?_ ?_
 ·simp (disch := omega) only [RB, RC, simprocAttr, hn, g0]
  exact ⟨0, by omega, rfl, hS2⟩
 rintro n l H3 ⟨hn, g0, g2, g3, j, hj, g4, hS3⟩
 simp (disch := omega) only [↓RA, RZ, simprocAttr, hn, g0, g4, (hS3.sl hv).len]
 refine gJ (fun q1 => ?_) (fun q1 => ?_)
 ·have hx := hz _ (gN (xs := xs) (j := j) (by omega))
  have hx0 := hx.1
  have hx1 := hx.2
  have hok : Nt.Ok (jB (xs.take j)) := qQ _ _ (fun z h => hz z (List.mem_of_mem_take h)) ⟨by decide, by decide⟩
  simp (disch := omega) only [↓RA, RZ, simprocAttr, hn, g0, g4, (hS3.sl hv).idx, (hS3.sl hv).ld, one, q1]
  refine hK (fun q2 => ?_) (fun q2 => ?_)
  rotate_left
  ·exfalso; first | omega | (simp at q2; omega)
  simp (disch := omega) only [↓RA, RZ, simprocAttr, hn, g0, g4, (hS3.sl hv).idx, (hS3.sl hv).ld, one, q1, q2]
  refine gJ (fun q3 => ?_) (fun q3 => ?_)
  rotate_left
  ·exfalso; first | omega | (simp at q3; omega)
  simp (disch := omega) only [↓RA, RC, simprocAttr, q1, q2, q3]
  refine Wp.drw iZ (by kernel_rfl) ?_
  simp (disch := omega) only [↓RA, RZ, simprocAttr, hn, g0, g3, g4, hS3.ab 1 rfl, (hS3.sl hv).idx, (hS3.sl hv).ld, one]
  refine hS3.cF (b3Q (jB (xs.take j)) hok (gK xs j) hx.1 hx.2) fun H4 hS4 => ?_
  simp (disch := omega) only [↓RA, RB, simprocAttr, hn, g3]
  refine hS4.aa 1 rfl [(.int .u64 (qJ (jB (xs.take j)) (gK xs j)).1), (.int .u64 (qJ (jB (xs.take j)) (gK xs j)).2)] rfl rfl oT (by simp) fun H5 hS5 => ?_
  simp only [RT] at hS5
  simp (disch := omega) only [↓RA, RZ, simprocAttr, hn, g0, g2, g3, g4]
  refine ⟨n - 1, by omega, j + 1, by omega, by simp, ?_⟩
  rw [zH xs (by omega)]
  exact hS5.pick [0, 1] (by decide) rfl
 have hjj : j = xs.length := by omega
 simp (disch := omega) only [↓RA, RZ, simprocAttr, hn, g2, g3, hS3.ab 1 rfl, q1]
 refine hS3.aa 0 rfl [(.int .u64 (jB (xs.take j)).1), (.int .u64 (jB (xs.take j)).2)] rfl rfl oT (by simp) fun H6 hS6 => ?_
 simp only [RT] at hS6
 simp (disch := omega) only [↓RA, RZ, simprocAttr, g2, c1Y, hS6.ab 0 rfl, q1]
 rw [hjj, ez]
 exact ⟨rfl, hS6.forget⟩
def exO (w1 w2 w3 w4 w5 w6 w7 : Value) : Org := ⟨⟨#[111]⟩, w4, [⟨⟨#[114]⟩, ⟨#[116]⟩, 8, 1, 36, w3, [1, 1, 1]⟩], w6, [⟨⟨#[100]⟩, false, 36, 40, w5, [⟨⟨#[115]⟩, 8, 1, w2, [⟨36, 40, w1, [⟨0, 0⟩]⟩]⟩, ⟨⟨#[116]⟩, 8, 1, w2, [⟨36, 40, w1, [⟨0, 0⟩]⟩]⟩]⟩], w7, [⟨⟨#[99]⟩, 0, 0, 1, false⟩]⟩
theorem a7H : Fn prog 99 [] H fun r H' => ∃ w1 w2 w3 w4 w5 w6 w7, r = .agg #[.string (exO w1 w2 w3 w4 w5 w6 w7).name, w4, w6, w7] ∧ (exO w1 w2 w3 w4 w5 w6 w7).In H' ∧ St prog H H' [] := by
 refine .cO func99 rfl (by kernel_rfl) (m := 24) rfl fun l hn => ?_
 simp (disch := omega) only [↓RA, RZ, simprocAttr]
 refine (sR H).eNew 4 [(.string ⟨#[]⟩), (.slice none 0 0), (.slice none 0 0), (.slice none 0 0)] rfl rfl rfl lD fun A1 H1 hS1 => ?_
 simp only [RT] at hS1
 simp (disch := omega) only [↓RA, RB, simprocAttr, hn, wU, b9N]
 refine hS1.ai [I 0, I 0] a9U a9Q rfl rfl (by simp [Value.cells]) rfl rfl (by decide) (by decide) fun w1 H2 hS2 => ?_
 simp only [RT] at hS2
 simp (disch := omega) only [↓RA, RB, simprocAttr, hn, lG (hS2.rd 1 rfl).cells]
 refine hS2.ai [I 36, I 40, w1] uH a2f rfl rfl (by first | (simp []; done) | simp [Value.cells]) (by first | (simp []; done) | simp [Value.cells]) (by simp [OC, (hS2.rd 1 rfl).cells.2.1]) (by decide) (by decide) fun w2 H3 hS3 => ?_
 simp only [RT] at hS3
 simp (disch := omega) only [↓RA, RZ, simprocAttr, hn, a6M (hS3.rd 2 rfl).cells]
 refine hS3.eNew 4 [(.string ⟨#[]⟩), I 0, I 0, (.slice none 0 0)] rfl rfl rfl pV fun A2 H4 hS4 => ?_
 simp only [RT] at hS4
 simp (disch := omega) only [↓RA, RB, simprocAttr, hn]
 refine hS4.aa 3 rfl [(.string ⟨#[115]⟩), I 8, I 1, w2] rfl (by simp [OC, (hS4.rd 2 rfl).cells.2.1]) pV (by simp) fun H5 hS5 => ?_
 simp only [RT] at hS5
 simp (disch := omega) only [↓RA, RZ, simprocAttr, hn, hS5.ab 3 rfl]
 refine hS5.eNew 4 [(.string ⟨#[]⟩), I 0, I 0, (.slice none 0 0)] rfl rfl rfl pV fun A3 H6 hS6 => ?_
 simp only [RT] at hS6
 simp (disch := omega) only [↓RA, RB, simprocAttr, hn]
 refine hS6.aa 4 rfl [(.string ⟨#[115]⟩), I 8, I 1, w2] rfl (by simp [OC, (hS6.rd 2 rfl).cells.2.1]) pV (by simp) fun H7 hS7 => ?_
 simp only [RT] at hS7
 simp (disch := omega) only [↓RA, RZ, simprocAttr, hn]
 refine hS7.aa 4 rfl [(.string ⟨#[116]⟩)] rfl rfl tS9 (by simp) fun H8 hS8 => ?_
 simp only [RT] at hS8
 simp (disch := omega) only [↓RA, RB, simprocAttr, wU]
 refine hS8.ai [I 1, I 1, I 1] a5T a6W rfl rfl (by simp [Value.cells]) rfl rfl (by decide) (by decide) fun w3 H9 hS9 => ?_
 simp only [RT] at hS9
 simp (disch := omega) only [↓RA, RB, simprocAttr, hn, a0f (hS9.rd 5 rfl).cells]
 refine hS9.ai [(.string ⟨#[114]⟩), (.string ⟨#[116]⟩), I 8, I 1, I 36, w3] c0j c2x rfl rfl (by first | (simp []; done) | simp [Value.cells]) (by first | (simp []; done) | simp [Value.cells]) (by simp [OC, (hS9.rd 5 rfl).cells.2.1]) (by decide) (by decide) fun w4 H10 hS10 => ?_
 simp only [RT] at hS10
 simp (disch := omega) only [↓RA, RZ, simprocAttr, hn, a4G, hS10.ab 3 rfl, hS10.ab 4 rfl]
 refine hS10.ai [(.string ⟨#[115]⟩), I 8, I 1, w2, (.string ⟨#[116]⟩), I 8, I 1, w2] b8D c1E rfl rfl (by first | (simp []; done) | simp [Value.cells]) (by first | (simp []; done) | simp [Value.cells]) (by simp [OC, (hS10.rd 2 rfl).cells.2.1]) (by decide) (by decide) fun w5 H11 hS11 => ?_
 simp only [RT] at hS11
 simp (disch := omega) only [↓RA, RB, simprocAttr, hn, a7x (hS11.rd 7 rfl).cells]
 refine hS11.ai [(.string ⟨#[100]⟩), (.bool false), I 36, I 40, w5] b8A c2t rfl rfl (by first | (simp []; done) | simp [Value.cells]) (by first | (simp []; done) | simp [Value.cells]) (by simp [OC, (hS11.rd 7 rfl).cells.2.1]) (by decide) (by decide) fun w6 H12 hS12 => ?_
 simp only [RT] at hS12
 simp (disch := omega) only [↓RA, RB, simprocAttr, hn, b1R]
 refine hS12.ai [(.string ⟨#[99]⟩), I 0, I 0, I 1, (.bool false)] a7P b6Z rfl rfl (by simp [Value.cells]) rfl rfl (by decide) (by decide) fun w7 H13 hS13 => ?_
 simp only [RT] at hS13
 simp (disch := omega) only [↓RA, RB, simprocAttr, hn, a3K (hS13.rd 6 rfl).cells (hS13.rd 8 rfl).cells (hS13.rd 9 rfl).cells]
 refine hS13.aa 0 rfl [(.string ⟨#[111]⟩), w4, w6, w7] rfl (by simp [OC, (hS13.rd 6 rfl).cells.2.1, (hS13.rd 8 rfl).cells.2.1, (hS13.rd 9 rfl).cells.2.1]) lD (by simp) fun H14 hS14 => ?_
 simp only [RT] at hS14
 simp (disch := omega) only [↓RA, RZ, simprocAttr, hn, c3Q, hS14.ab 0 rfl]
 have h1 : Sl 2 Drw.cells H14 w1 [⟨0, 0⟩] := hS14.aw 1 rfl (fun _ => rfl)
 have h2 : Sl 3 Seg.cells H14 w2 [⟨36, 40, w1, [⟨0, 0⟩]⟩] := hS14.aw 2 rfl (fun _ => rfl)
 have h3 : Sl 1 (one I) H14 w3 [1, 1, 1] := hS14.aw 5 rfl (fun _ => rfl)
 have h4 : Sl 6 Rk.cells H14 w4 (exO w1 w2 w3 w4 w5 w6 w7).ranks := hS14.aw 6 rfl (fun _ => rfl)
 have h5 : Sl 4 Stp.cells H14 w5 [⟨⟨#[115]⟩, 8, 1, w2, [⟨36, 40, w1, [⟨0, 0⟩]⟩]⟩, ⟨⟨#[116]⟩, 8, 1, w2, [⟨36, 40, w1, [⟨0, 0⟩]⟩]⟩] := hS14.aw 7 rfl (fun _ => rfl)
 have h6 : Sl 5 Dvn.cells H14 w6 (exO w1 w2 w3 w4 w5 w6 w7).dvs := hS14.aw 8 rfl (fun _ => rfl)
 have h7 : Sl 5 Cpl.cells H14 w7 (exO w1 w2 w3 w4 w5 w6 w7).cpls := hS14.aw 9 rfl (fun _ => rfl)
 refine ⟨w1, w2, w3, w4, w5, w6, w7, rfl, ⟨h4, ?_, h6, ?_, h7, by simp [exO], by simp [exO], by simp [exO]⟩, hS14.forget⟩
 ·intro r hr
  rw [dJ.1 hr]
  exact ⟨h3, by simp⟩
 ·have hg : (⟨36, 40, w1, [⟨0, 0⟩]⟩ : Seg).In H14 := ⟨h1, by simp⟩
  intro d hd
  rw [dJ.1 hd]
  refine ⟨h5, ?_, by simp⟩
  intro s hs
  simp only [eo, eK, or_false] at hs
  rcases hs with rfl | rfl
  ·exact ⟨h2, fun g hg' => by rw [dJ.1 hg']; exact hg, by simp⟩
  ·exact ⟨h2, fun g hg' => by rw [dJ.1 hg']; exact hg, by simp⟩
section
variable (w1 w2 w3 w4 w5 w6 w7 : Value)
def a7k (x : Int × Int) : List (Int × Int) → List (Int × Int)
 | [] => [x]
 | y :: l => if le2 x y then x :: y :: l else y :: a7k x l
def a8p : List (Int × Int) → List (Int × Int)
 | [] => []
 | x :: l => a7k x (a8p l)
theorem yE (x : Int × Int) : ∀ l, (a7k x l).Perm (x :: l)
 | [] => .refl _
 | y :: l => by
   unfold a7k
   split
   ·exact .refl _
   ·exact ((yE x l).cons y).trans (.swap ..)
theorem a3i : ∀ l, (a8p l).Perm l
 | [] => .refl _
 | x :: l => (yE x _).trans ((a3i l).cons x)
theorem b0q (x y : Int × Int) : le2 x y = false → le2 y x = true := by
 intro h
 rw [← ey] at h
 rw [pZ] at h ⊢
 omega
theorem zE (x : Int × Int) : ∀ l : List (Int × Int), l.Pairwise (fun a b => le2 a b = true) → (a7k x l).Pairwise fun a b => le2 a b = true
 | [], _ => by simp [a7k]
 | y :: l, h => by
   have h1 := List.pairwise_cons.1 h
   unfold a7k
   split
   ·rename_i hxy
    refine List.pairwise_cons.2 ⟨fun z hz => ?_, h⟩
    rcases eo.1 hz with rfl | hz
    ·exact hxy
    ·have h2 := h1.1 z hz
     rw [pZ] at *
     omega
   ·rename_i hxy
    refine List.pairwise_cons.2 ⟨fun z hz => ?_, zE x l h1.2⟩
    rcases eo.1 ((yE x l).mem_iff.1 hz) with rfl | hz
    ·exact b0q _ _ (by simpa using hxy)
    ·exact h1.1 z hz
theorem zN : ∀ l : List (Int × Int), (a8p l).Pairwise fun a b => le2 a b = true
 | [] => .nil
 | x :: l => zE x _ (zN l)
theorem b9k : wK = a8p := by
 funext l
 refine List.Perm.eq_of_pairwise (le := fun a b => le2 a b = true) (fun a b _ _ h1 h2 => ?_) (a8y l) (zN l) ((oH l).trans (a3i l).symm)
 rw [pZ] at h1 h2
 exact Prod.ext (by omega) (by omega)
def b9n (s : List Ct → List Ct) (o : Org) (r : Reg) (l : List Ct) : List Ct := dd (s (l.filter (fun c => !r.off.testBit c.1.toNat) ++ bfs o r.cpl 1100 0 (nG o r.cpl l)))
def b9T (s : List Ct → List Ct) (rs : List Rk) (p : Stp) (key : Int) : List Ct := dd (s (((a8N p key).filter fun d => zC rs d key).map fun d => oL rs d key))
def b8Y (s : List Ct → List Ct) (o : Org) (r : Reg) (c : Ct) : List Ct := (List.range (gK o.dvs c.1.toNat).stops.length).flatMap fun i => if (gK r.stops c.1.toNat).testBit i then b9T s o.ranks (gK (gK o.dvs c.1.toNat).stops i) c.2 else []
def ofG (s : List Ct → List Ct) (o : Org) (r : Reg) (c : Ct) : List Ct := if a5A o r c = 0 then dd (s ((b9n s o r [c]).flatMap (b8Y s o r))) else []
theorem b4T : ofF = ofG a8p := by
 rw [← b9k]
 rfl
theorem b8C : jX (exO w1 w2 w3 w4 w5 w6 w7) ⟨[1], 0, 0⟩ = 0 := by kernel_rfl
theorem b9S : oM (exO w1 w2 w3 w4 w5 w6 w7) ⟨[1], 0, 0⟩ (pR (exO w1 w2 w3 w4 w5 w6 w7)) = [jB [39, 40]] := by
 unfold oM a2k
 rw [b4T]
 kernel_rfl
end
section
variable (w1 w2 w3 w4 w5 w6 w7 : Value)
def a1d (s : List Ct → List Ct) (o : Org) (r : Reg) : List Ctl := (gO r).filter fun c => decide ((pR o).map (ofG s o (iU r c)) = (pR o).map (ofG s o r))
theorem a4N : lT = a1d a8p := by
 funext o r
 unfold lT oP a1d
 rw [b4T]
def a8v (s : List Ct → List Ct) (o : Org) : Nat → Reg → List Ctl → Reg × List Ctl
 | 0, g, l => (g, l)
 | n + 1, g, l => if (a1d s o g).length = 0 then (g, l) else a8v s o n (iU g (gK (a1d s o g) ((a1d s o g).length - 1))) (l ++ [gK (a1d s o g) ((a1d s o g).length - 1)])
theorem a2U (o : Org) : ∀ n g l, lO o n g l = a8v a8p o n g l
 | 0, _, _ => rfl
 | n + 1, g, l => by
   rw [lO, a8v, a4N]
   split
   ·rfl
   ·exact a2U o n _ _
theorem b5p : jX (exO w1 w2 w3 w4 w5 w6 w7) ⟨[3], 0, 0⟩ = 0 := by kernel_rfl
theorem b5H : jX (exO w1 w2 w3 w4 w5 w6 w7) ⟨[0], 1, 0⟩ = 0 := by kernel_rfl
theorem b7x : lT (exO w1 w2 w3 w4 w5 w6 w7) ⟨[0], 1, 0⟩ = [mO 0] := by
 rw [a4N]
 kernel_rfl
theorem b3B : lO (exO w1 w2 w3 w4 w5 w6 w7) (mu ⟨[3], 0, 0⟩ + 1) ⟨[3], 0, 0⟩ [] = (⟨[1], 0, 0⟩, [nD 0 1]) := by
 rw [a2U]
 kernel_rfl
end
theorem a5I : Fn prog 99 [] H fun r H' => ∃ o : Org, r = .agg #[.string o.name, o.rv, o.dv, o.cv] ∧ (∃ w1 w2 w3 w4 w5 w6 w7, o = exO w1 w2 w3 w4 w5 w6 w7) ∧ o.In H' ∧ St prog H H' [] := by
 obtain ⟨h1, v, H1, h2, w1, w2, w3, w4, w5, w6, w7, h3, h4, h5⟩ := a7H (H := H)
 exact ⟨h1, v, H1, h2, _, h3, ⟨w1, w2, w3, w4, w5, w6, w7, rfl⟩, h4, h5⟩
theorem b1f (o : Org) (ho : o.In H) (rg : Reg) (sv : Value) (hr : rg.In H sv) (h0 : jX o rg = 0) (g : Reg) (gone : List Ctl) (hs : lO o (mu rg + 1) rg [] = (g, gone)) :
 Fn prog 41 [.agg #[.string o.name, o.rv, o.dv, o.cv], .agg #[sv, .int .u64 rg.cpl, .int .u64 rg.off]] H fun r H' => ∃ nv lv, r = .tuple #[.agg #[nv, .int .u64 g.cpl, .int .u64 g.off], lv, I 0] ∧ (g.Ok ∧ g.stops.length = rg.stops.length) ∧ St prog H H' [⟨nv, 1, g.stops.flatMap (one u64)⟩, ⟨lv, 3, jY gone⟩] := by
 obtain ⟨h1, v, H1, h2, nv, lv, h3⟩ := b3S o ho rg sv hr
 refine ⟨h1, v, H1, h2, ?_⟩
 rcases h3 with ⟨h, _⟩ | ⟨g', gone', _, he, h4, h5, h6, h7⟩
 ·exact absurd h0 h
 ·rw [hs] at he
  obtain ⟨rfl, rfl⟩ := Prod.mk.inj he
  exact ⟨nv, lv, h4, ⟨h5, h6⟩, h7⟩
theorem a7Z : Fn prog 36 [] H fun r H' => r = .bool true ∧ St prog H H' [] := by
 refine .cO func36 rfl (by kernel_rfl) (m := 92) rfl fun l hn => ?_
 simp (disch := omega) only [↓RA, RZ, simprocAttr]
 refine gP (a5I) ?_
 rintro r H1 ⟨o, rfl, ⟨v1, v2, v3, v4, v5, v6, v7, hoe⟩, ho, hT1⟩
 have hS1 := (sR H).trans hT1
 simp only [RT] at hS1
 have f1 : jX o ⟨[1], 0, 0⟩ = 0 := by rw [hoe]; exact b8C ..
 have f2 : oM o ⟨[1], 0, 0⟩ (pR o) = [jB [39, 40]] := by rw [hoe]; exact b9S ..
 have f3 : jX o ⟨[3], 0, 0⟩ = 0 := by rw [hoe]; exact b5p ..
 have f4 : lO o (mu ⟨[3], 0, 0⟩ + 1) ⟨[3], 0, 0⟩ [] = (⟨[1], 0, 0⟩, [nD 0 1]) := by rw [hoe]; exact b3B ..
 have f5 : jX o ⟨[0], 1, 0⟩ = 0 := by rw [hoe]; exact b5H ..
 have f6 : lT o ⟨[0], 1, 0⟩ = [mO 0] := by rw [hoe]; exact b7x ..
 have hS0 := hS1
 simp (disch := omega) only [↓RA, RZ, simprocAttr]
 refine (sR H1).eNew 4 [(.string ⟨#[]⟩), (.slice none 0 0), (.slice none 0 0), (.slice none 0 0)] rfl rfl rfl lD fun A1 H2 hS2 => ?_
 simp only [RT] at hS2
 simp (disch := omega) only [↓RA, RB, simprocAttr, hn]
 refine hS2.aa 0 rfl [(.string o.name), o.rv, o.dv, o.cv] rfl (by simp [OC, (hS2.sl ho.1).cells.2.1, (hS2.sl ho.2.2.1).cells.2.1, (hS2.sl ho.2.2.2.2.1).cells.2.1]) lD (by simp) fun H3 hS3 => ?_
 simp only [RT] at hS3
 simp (disch := omega) only [↓RA, RZ, simprocAttr, hn, hS3.ab 0 rfl]
 refine hS3.ai [(.int .u64 1)] zB b6I rfl rfl (by simp [Value.cells]) rfl rfl (by decide) (by decide) fun w1 H4 hS4 => ?_
 simp only [RT] at hS4
 simp (disch := omega) only [↓RA, RZ, simprocAttr, hn, b3N (hS4.rd 1 rfl).cells]
 refine gP (b1F o (ho.ae hS4) ⟨[1], 0, 0⟩ _ ⟨hS4.aw 1 rfl (fun _ => rfl), by decide, by decide, by decide, by decide⟩) ?_
 rintro r H5 ⟨lv, rfl, hT2⟩
 have hS5 := hS4.trans hT2
 simp only [RT] at hS5
 rw [f1]
 rw [if_pos f1, f2] at hS5
 simp (disch := omega) only [↓RA, RZ, simprocAttr, hn, hS5.ab 0 rfl]
 refine hS5.ai [(.int .u64 3)] zB b6I rfl rfl (by simp [Value.cells]) rfl rfl (by decide) (by decide) fun w2 H6 hS6 => ?_
 simp only [RT] at hS6
 simp (disch := omega) only [↓RA, RZ, simprocAttr, hn, b3N (hS6.rd 3 rfl).cells]
 refine gP (b1f o (ho.ae hS6) ⟨[3], 0, 0⟩ _ ⟨hS6.aw 3 rfl (fun _ => rfl), by decide, by decide, by decide, by decide⟩ f3 _ _ f4) ?_
 rintro r H7 ⟨nv, gv, rfl, -, hT3⟩
 have hS7 := hS6.trans hT3
 simp only [RT] at hS7
 simp (disch := omega) only [↓RA, RZ, simprocAttr, hn]
 refine hS7.eNew 3 [(.slice none 0 0), (.int .u64 0), (.int .u64 0)] rfl rfl rfl iK fun A2 H8 hS8 => ?_
 simp only [RT] at hS8
 simp (disch := omega) only [↓RA, RB, simprocAttr, hn]
 refine hS8.aa 6 rfl [nv, (.int .u64 0), (.int .u64 0)] rfl (by simp [OC, (hS8.rd 4 rfl).cells.2.1]) iK (by simp) fun H9 hS9 => ?_
 simp only [RT] at hS9
 simp (disch := omega) only [↓RA, RZ, simprocAttr, hn, hS9.ab 0 rfl]
 refine hS9.ai [(.int .u64 0)] zB b6I rfl rfl (by simp [Value.cells]) rfl rfl (by decide) (by decide) fun w3 H10 hS10 => ?_
 simp only [RT] at hS10
 simp (disch := omega) only [↓RA, RZ, simprocAttr, hn, b4B (hS10.rd 7 rfl).cells]
 have hS2 := hS10
 refine gP (b6t o (ho.ae hS10) ⟨[0], 1, 0⟩ _ ⟨hS10.aw 7 rfl (fun _ => rfl), by decide, by decide, by decide, by decide⟩) ?_
 rintro r H11 ⟨iv, rfl, hix, hT4⟩
 have hS11 := hS10.trans hT4
 simp only [RT] at hS11
 rw [if_pos f5, f6] at hix
 have hix2 := hix.step (hS2.aZ (H' := H11))
 obtain ⟨X, hBX, hS12⟩ := hS11.az (os := [⟨ptr A1 0 4, 0, _⟩, ⟨w1, 1, _⟩, ⟨lv, 2, _⟩, ⟨w2, 1, _⟩, ⟨nv, 1, _⟩, ⟨gv, 3, _⟩, ⟨ptr A2 0 3, 0, _⟩, ⟨w3, 1, _⟩])
 rw [f5]
 have hz : ∀ z ∈ [(39 : Int), 40], isN z := by
  intro z hz
  simp only [eo, eK, or_false] at hz
  rcases hz with rfl | rfl <;> exact ⟨by decide, by decide⟩
 have hL1 : ((([jB [39, 40]] : List Nt).length : Nat) : Int) = 1 := rfl
 have hL2 : ((([1] : List Nat).length : Nat) : Int) = 1 := rfl
 have hL3 : ((([nD 0 1] : List Ctl).length : Nat) : Int) = 1 := rfl
 have hL4 : ((([mO 0] : List Ctl).length : Nat) : Int) = 1 := rfl
 have hN1 : gK ([jB [39, 40]] : List Nt) 0 = jB [39, 40] := rfl
 have hN2 : gK ([1] : List Nat) 0 = 1 := rfl
 have hN3 : gK ([nD 0 1] : List Ctl) 0 = ⟨1, 0, 1⟩ := rfl
 have hN4 : gK ([mO 0] : List Ctl) 0 = ⟨2, 0, 0⟩ := rfl
 simp (disch := omega) only [↓RA, RB, simprocAttr, hn, eq_self]
 refine Wp.aJ iZ [(10, 12), (10, 13)] (by kernel_rfl) (by kernel_rfl) ?_
 simp (disch := omega) only [↓RA, RZ, simprocAttr, hn, (hS12.aw 2 rfl (fun _ => rfl)).len, eq_self]
 simp (disch := omega) only [↓RA, RZ, simprocAttr, hn, (hS12.aw 2 rfl (fun _ => rfl)).idx, (hS12.aw 2 rfl (fun _ => rfl)).ab, ntc, hN1, eq_self]
 refine hS12.ai [I 39, I 40] a5T a6W rfl rfl (by simp [Value.cells]) rfl rfl (by decide) (by decide) fun w4 H12 hS13 => ?_
 simp only [RT] at hS13
 simp (disch := omega) only [↓RA, RZ, simprocAttr, hn, eq_self]
 have hF1 := hS13
 refine hS13.cF (c0g [39, 40] hz _ (hS13.aw 8 rfl (fun _ => rfl)) (by decide)) fun H13 hS14 => ?_
 have hiy := hix2.step (hS14.kept hBX)
 simp (disch := omega) only [↓RA, RZ, simprocAttr, hn, eq_self, and_self]
 simp (disch := omega) only [↓RA, RZ, simprocAttr, hn, hS14.ld 6 rfl, (hS14.aw 4 rfl (fun _ => rfl)).len, eq_self]
 simp (disch := omega) only [↓RA, RZ, simprocAttr, hn, (hS14.aw 4 rfl (fun _ => rfl)).idx, (hS14.aw 4 rfl (fun _ => rfl)).ld, one, u64, hN2, eq_self]
 simp (disch := omega) only [↓RA, RZ, simprocAttr, hn, (hS14.aw 5 rfl (fun _ => rfl)).len, eq_self]
 simp (disch := omega) only [↓RA, RZ, simprocAttr, hn, (hS14.aw 5 rfl (fun _ => rfl)).idx, (hS14.aw 5 rfl (fun _ => rfl)).ab, Ctl.cells, yB, hN3, eq_self, and_self]
 simp (disch := omega) only [↓RA, RZ, simprocAttr, hn, hiy.1.len, eq_self]
 simp (disch := omega) only [↓RA, RZ, simprocAttr, hn, hiy.1.idx, hiy.1.bp, hiy.1.ld, Ctl.cells, ntc, (hS13.aw 2 rfl (fun _ => rfl)).ab, (hS14.aw 2 rfl (fun _ => rfl)).ab, c3S, hN1, hN4, eq_self, and_self]
 exact hS0.trans (hS11.aj hBX hS14).forget
end Go.Ds
namespace Go.Ds
open Go.Proofs Go.Proofs.Tryz Go.ChangeShapes Go.WideShapes Go.RowKit Go.Deep
set_option maxRecDepth 10000
theorem ce3 : prog.cellsOf 3 = 1 := by kernel_rfl
theorem c0X : prog.cellsOf 101 = 3 := by kernel_rfl
section
variable {H0 : Type} {enc : TypeId × Value → H0} {w : World} {base n : Nat} {spare : Nat → Bool} {kP : Bool} {x : DataW H0 × List MemPlace}
theorem a8u {v : Value} (h : DataW.trod enc prog w base spare kP n 3 [v] = some x) : ∃ m : Int, v = I m ∧ -9223372036854775808 ≤ m ∧ m < 9223372036854775808 := by
 obtain ⟨m, hv, _, hw⟩ := DataW.trod_int underlying3 h
 have hv : v = I m := by simpa using hv
 have hm : -9223372036854775808 ≤ m ∧ m ≤ 9223372036854775807 := by simpa [Lit.wf, IntKind.min, IntKind.max, IntKind.signed, IntKind.bits] using hw
 exact ⟨m, hv, hm.1, by omega⟩
end
section
variable {H0 : Type} {enc : TypeId × Value → H0} {w : World} {base : Nat} {kP : Bool}
theorem b9b {v0 : Value} {d0 : DataW H0} {p0 : List MemPlace} {c0 : Nat} (h0 : DataW.Trod enc prog w base (fun _ => true) kP 101 v0 d0 p0) (hval : Value.okWide prog w .any c0 101 v0) :
 ∃ c : Ctl, v0 = .agg #[I c.kind, I c.dv, I c.ix] := by
 obtain ⟨cs, rfl, hsz⟩ := okWide_struct underlying101 hval
 rw [c0X] at hsz
 obtain ⟨fuel, hf⟩ := h0
 obtain ⟨l⟩ := cs
 have hl : l.length = 3 := hsz
 match l, hl with
 | [x, y, z], _ =>
   obtain ⟨_, m, hf⟩ := xX (cs := [x, y, z]) underlying101 hf
   obtain ⟨_, h0⟩ := hf 0 ⟨_, 3, 0, _, _, _, _⟩ rfl
   obtain ⟨_, h1⟩ := hf 1 ⟨_, 3, 1, _, _, _, _⟩ rfl
   obtain ⟨_, h2⟩ := hf 2 ⟨_, 3, 2, _, _, _, _⟩ rfl
   simp only [ce3] at h0 h1 h2
   obtain ⟨a, rfl, _⟩ := a8u h0
   obtain ⟨b, rfl, _⟩ := a8u h1
   obtain ⟨c, rfl, _⟩ := a8u h2
   exact ⟨⟨a, b, c⟩, rfl⟩
end
end Go.Ds
namespace Go.Ds
open Go.Proofs
set_option maxRecDepth 10000
end Go.Ds
namespace Go.Ds
open Go.Proofs
variable {H : Heap}
set_option maxRecDepth 10000
set_option maxHeartbeats 1000000
end Go.Ds
namespace Go.Ds
open Go.Proofs
set_option maxRecDepth 10000
end Go.Ds
namespace Go.Ds
open Go.Proofs Go.Proofs.Tryz
variable {H : Heap}
set_option maxRecDepth 10000
set_option maxHeartbeats 1000000
theorem b1I (o : Org) (ho : o.In H) (rg : Reg) (sv : Value) (hr : rg.In H sv) (h0 : jX o rg = 0) :
 Fn prog 44 [.agg #[.string o.name, o.rv, o.dv, o.cv], .agg #[sv, .int .u64 rg.cpl, .int .u64 rg.off]] H fun r H' => ∃ lv, r = .tuple #[lv, I 0] ∧ St prog H H' [⟨lv, 3, jY (gO rg)⟩] := by
 simpa only [h0, if_true] using b2u o ho rg sv hr
theorem Ctl.eq (a b : Ctl) : (a.kind = b.kind ∧ a.dv = b.dv ∧ a.ix = b.ix) ↔ b = a := by
 cases a; cases b; simp [eq_comm]
theorem b0r (v : Value) (xs : List Ctl) (hv : Sl 3 Ctl.cells H v xs) (hl : xs.length < 1000000000) (d : Ctl) :
 Fn prog 177 [v, .agg #[I d.kind, I d.dv, I d.ix]] H fun r H' => r = I (nP (fun j => decide (gK xs j = d)) xs.length) ∧ St prog H H' [] := by
 refine .aE func177 rfl (by kernel_rfl) (m := 19) rfl fun l hn g0 g1 => ?_
 simp (disch := omega) only [↓RA, RB, simprocAttr, g1]
 refine (sR H).eNew 3 [I d.kind, I d.dv, I d.ix] rfl rfl rfl kE fun A1 H1 hS1 => ?_
 simp only [RT] at hS1
 simp (disch := omega) only [↓RA, RZ, simprocAttr, hn, g0, (hS1.sl hv).len]
 refine Wp.al (fun n l H' => l.length = 19 ∧ get l 0 = v ∧ get l 3 = (ptr A1 0 3) ∧ get l 7 = I xs.length ∧ ∃ (j : Nat), (n + j = xs.length ∧ ∀ q, q < j → decide (gK xs q = d) = false) ∧ get l 8 = I j ∧ St prog H H' [⟨ptr A1 0 3, 0, [I d.kind, I d.dv, I d.ix]⟩]) xs.length ?_ ?_
 ·simp (disch := omega) only [RB, RC, simprocAttr, hn, g0]
  exact ⟨0, ⟨by omega, fun q hq => absurd hq (dy _)⟩, rfl, hS1⟩
 rintro n l H2 ⟨hn, g0, g3, g7, j, ⟨hi,h0⟩, g8, hS2⟩
 simp (disch := omega) only [↓RA, RB, simprocAttr, hn, g7, g8]
 refine gJ (fun h => ?_) (fun h => ?_)
 ·simp (disch := omega) only [↓RA, RZ, simprocAttr, hn, g8, h]
  refine Wp.drw iZ (by kernel_rfl) ?_
  simp (disch := omega) only [↓RA, RZ, simprocAttr, hn, g0, g3, hS2.ab 0 rfl, (hS2.sl hv).idx, (hS2.sl hv).ab, Ctl.cells]
  refine gJ (fun hp => ?_) (fun hp => ?_)
  ·simp (disch := omega) only [↓RA, RZ, simprocAttr, hn, b8w, hp]
   exact ⟨by rw [tZ _ xs.length j (by omega) (by simpa using (Ctl.eq _ _).1 hp) h0], hS2.forget⟩
  simp (disch := omega) only [↓RA, RZ, simprocAttr, hn, g0, g3, g7, g8, hp]
  exact ⟨n - 1, by omega, j + 1, ⟨by omega, fun q hq => by rcases dj.1 hq with e | e; (· exact h0 q e); (· rw [e]; simpa using fun hh => hp ((Ctl.eq _ _).2 hh))⟩, by simp, hS2⟩
 simp (disch := omega) only [↓RA, RZ, simprocAttr, hn, b8w, h]
 exact ⟨by rw [tW _ xs.length fun q hq => h0 q (by omega)], hS2.forget⟩
theorem a3E (v : Value) (xs : List Ctl) (hv : Sl 3 Ctl.cells H v xs) (hl : xs.length < 1000000000) (d : Ctl) :
 Fn prog 114 [v, .agg #[I d.kind, I d.dv, I d.ix]] H fun r H' => r = .bool (decide (d ∈ xs)) ∧ St prog H H' [] := by
 have e : decide (0 ≤ nP (fun j => decide (gK xs j = d)) xs.length) = decide (d ∈ xs) := by
  rw [ec, decide_eq_true_iff, decide_eq_true_iff, vW]
  constructor
  ·rintro ⟨j, hj, hp⟩
   rw [← of_decide_eq_true hp]; exact gN hj
  ·intro hx
   obtain ⟨j, hj, rfl⟩ := dI.1 hx
   exact ⟨j, hj, by rw [jL xs j hj]; simp⟩
 refine .aE func114 rfl (by kernel_rfl) (m := 9) rfl fun l hn g0 g1 => ?_
 simp (disch := omega) only [↓RA, RB, simprocAttr, g1]
 refine (sR H).eNew 3 [I d.kind, I d.dv, I d.ix] rfl rfl rfl kE fun A1 H1 hS1 => ?_
 simp only [RT] at hS1
 simp (disch := omega) only [↓RA, RZ, simprocAttr, hn, g0, hS1.ab 0 rfl]
 refine hS1.cF (b0r v xs (hS1.sl hv) hl d) fun H2 hS2 => ?_
 simp (disch := omega) only [↓RA, RB, simprocAttr, hn, c0V]
 rw [← e]
 first | exact hS2.forget | exact ⟨rfl, hS2.forget⟩
abbrev a3V (o : Org) (c : Ctl) : Prop := (c.kind = 1 ∧ 0 ≤ c.dv ∧ c.dv < o.dvs.length ∧ 0 ≤ c.ix ∧ c.ix < (gK o.dvs c.dv.toNat).stops.length) ∨ (c.kind = 2 ∧ 0 ≤ c.ix ∧ c.ix < o.cpls.length) ∨ (c.kind = 3 ∧ 0 ≤ c.dv ∧ c.dv < o.dvs.length)
def rF (o : Org) (rg : Reg) (c : Ctl) : Int := if ¬ (c.kind = 1 ∨ c.kind = 2 ∨ c.kind = 3) then 12 else if (c.kind = 2 ∧ c.dv ≠ 0) ∨ (c.kind = 3 ∧ c.ix ≠ 0) then 7 else if ¬ a3V o c then 10 else if c ∈ gO rg then 0 else 11
def a0e (o : Org) (rg : Reg) (c : Ctl) : Reg := if rF o rg c = 0 then iU rg c else ⟨[], 0, 0⟩
theorem b2h {o : Org} {rg : Reg} {c : Ctl} (h : rF o rg c ≠ 0) : a0e o rg c = ⟨[], 0, 0⟩ := if_neg h
theorem tY {o : Org} {rg : Reg} {c : Ctl} (h : rF o rg c = 0) : a0e o rg c = iU rg c := if_pos h
def WthR (o : Org) (rg : Reg) (c : Ctl) (H : Heap) (r : Value) (H' : Heap) : Prop := ∃ nv, r = .tuple #[.agg #[nv, .int .u64 (a0e o rg c).cpl, .int .u64 (a0e o rg c).off], I (rF o rg c)] ∧ St prog H H' [⟨nv, 1, (a0e o rg c).stops.flatMap (one u64)⟩]
theorem WthR.err {o : Org} {rg : Reg} {c : Ctl} {H H' : Heap} {os : List Ob} {e : Int} (he : rF o rg c = e) (h0 : e ≠ 0) (hS : St prog H H' os) : WthR o rg c H (.tuple #[.agg #[.slice none 0 0, .int .u64 0, .int .u64 0], I e]) H' := by
 subst he
 have h := hS.forget.nil 0
 unfold WthR
 rw [b2h h0]
 exact ⟨.slice none 0 0, rfl, h⟩
theorem xR (o : Org) (rg : Reg) (cd ci : Int) : rF o rg ⟨1, cd, ci⟩ = if ¬ (0 ≤ cd ∧ cd < o.dvs.length ∧ 0 ≤ ci ∧ ci < (gK o.dvs cd.toNat).stops.length) then 10 else if (⟨1, cd, ci⟩ : Ctl) ∈ gO rg then 0 else 11 := by simp [rF, a3V]
theorem oY (o : Org) (rg : Reg) (d : Nat) (ci : Int) : rF o rg ⟨1, d, ci⟩ = if ¬ (d < o.dvs.length ∧ 0 ≤ ci ∧ ci < (gK o.dvs d).stops.length) then 10 else if (⟨1, d, ci⟩ : Ctl) ∈ gO rg then 0 else 11 := by
 rw [xR]
 simp only [fK]
 congr 1
 simp only [eq_iff_iff]
 omega
theorem pN (o : Org) (rg : Reg) (cd ci : Int) : rF o rg ⟨2, cd, ci⟩ = if cd ≠ 0 then 7 else if ¬ (0 ≤ ci ∧ ci < o.cpls.length) then 10 else if (⟨2, cd, ci⟩ : Ctl) ∈ gO rg then 0 else 11 := by simp [rF, a3V]
theorem nM (o : Org) (rg : Reg) (cd ci : Int) : rF o rg ⟨3, cd, ci⟩ = if ci ≠ 0 then 7 else if ¬ (0 ≤ cd ∧ cd < o.dvs.length) then 10 else if (⟨3, cd, ci⟩ : Ctl) ∈ gO rg then 0 else 11 := by simp [rF, a3V]
theorem b4d (o : Org) (ho : o.In H) (rg : Reg) (sv : Value) (hr : rg.In H sv) (h0 : jX o rg = 0) (cd ci : Int) :
 Fn prog 55 [.agg #[.string o.name, o.rv, o.dv, o.cv], .agg #[sv, .int .u64 rg.cpl, .int .u64 rg.off], .agg #[I 1, I cd, I ci]] H fun r H' => WthR o rg ⟨1, cd, ci⟩ H r H' := by
 obtain ⟨hz3, hz4⟩ := iY h0
 have hf := Org.aT hz3
 have hd1 := hf.dpos
 have hd8 := hf.dlen
 have hdl := kN (rg := rg) (by omega)
 refine .bf func55 rfl (by kernel_rfl) (m := 111) rfl fun l hn g0 g1 g2 => ?_
 simp (disch := omega) only [↓RA, RB, simprocAttr, g0]
 refine (sR H).eNew 4 [(.string o.name), o.rv, o.dv, o.cv] rfl rfl (by simp [OC, ((sR H).sl ho.1).cells.2.1, ((sR H).sl ho.2.2.1).cells.2.1, ((sR H).sl ho.2.2.2.2.1).cells.2.1]) lD fun A1 H1 hS1 => ?_
 simp only [RT] at hS1
 simp (disch := omega) only [↓RA, RB, simprocAttr, g1]
 refine hS1.eNew 3 [sv, (.int .u64 rg.cpl), (.int .u64 rg.off)] rfl rfl (by simp [OC, (hS1.sl hr.1).cells.2.1]) iK fun A2 H2 hS2 => ?_
 simp only [RT] at hS2
 simp (disch := omega) only [↓RA, RB, simprocAttr, g2]
 refine hS2.eNew 3 [I 1, I cd, I ci] rfl rfl rfl kE fun A3 H3 hS3 => ?_
 simp only [RT] at hS3
 simp (disch := omega) only [↓RA, RZ, simprocAttr]
 refine hS3.eNew 3 [(.slice none 0 0), (.int .u64 0), (.int .u64 0)] rfl rfl rfl iK fun A4 H4 hS4 => ?_
 simp only [RT] at hS4
 simp (disch := omega) only [↓RA, RZ, simprocAttr, hn, hS4.ab 0 rfl, hS4.ab 1 rfl]
 refine hS4.cF (lN o (ho.ae hS4) rg sv (hr.ae hS4)) fun H5 hS5 => ?_
 rw [h0]
 simp (disch := omega) only [↓RA, RZ, simprocAttr, hn, hS5.ld 2 rfl]
 refine Wp.drw iZ (by kernel_rfl) ?_
 simp (disch := omega) only [↓RA, RZ, simprocAttr, hn, hS5.ld 2 rfl]
 refine hK (fun g1 => ?_) (fun g1 => ?_)
 ·obtain ⟨d, rfl⟩ := eY g1
  simp (disch := omega) only [↓RA, RZ, simprocAttr, hn, hS5.ld 2 rfl, hS5.ld 0 rfl, (hS5.sl ho.2.2.1).len, g1]
  refine hK (fun g2 => ?_) (fun g2 => ?_)
  ·simp (disch := omega) only [↓RA, RZ, simprocAttr, hn, hS5.ld 2 rfl, g1, g2]
   refine hK (fun g3 => ?_) (fun g3 => ?_)
   ·simp (disch := omega) only [↓RA, RZ, simprocAttr, hn, hS5.ld 2 rfl, hS5.ld 0 rfl, (hS5.sl ho.2.2.1).idx, (hS5.sl ho.2.2.1).bp, (hS5.sl ho.2.2.1).ld, Dvn.cells, (hS5.sl (ho.2.2.2.1 (gK o.dvs d) (gN (by omega))).1).len, g1, g2, g3]
    refine iA (fun g4 => ?_) (fun g4 => ?_)
    ·simp (disch := omega) only [↓RA, RZ, simprocAttr, hn, kA, g1, g2, g3, g4]
     refine hS5.aa 3 rfl [(.slice none 0 0), (.int .u64 0), (.int .u64 0)] rfl rfl iK (by simp) fun H6 hS6 => ?_
     simp only [RT] at hS6
     simp (disch := omega) only [↓RA, RZ, simprocAttr, hn, rM, hS6.ab 3 rfl, g1, g2, g3, g4]
     simp at g4
     refine .err ?_ (by decide) hS6
     rw [oY, if_pos (by omega)]
    simp (disch := omega) only [↓RA, RC, simprocAttr, g1, g2, g3, g4]
    refine Wp.aJ iZ [(2, 0)] (by kernel_rfl) (by kernel_rfl) ?_
    simp (disch := omega) only [↓RA, RZ, simprocAttr, hn, hS5.ab 1 rfl]
    simp at g4
    refine gP ((qV rg sv (hr.ae hS5) (by omega)).tr) ?_
    rintro r H7 ⟨-, hT2⟩
    have hS7 := hS5.trans hT2
    simp only [RT] at hS7
    obtain ⟨dw, rfl⟩ : ∃ w, w = r := ⟨r, rfl⟩
    simp (disch := omega) only [↓RA, RZ, simprocAttr, hn, hS7.ab 2 rfl, g4]
    refine hS7.cF (a3E dw (gO rg) (hS7.aw 4 rfl (fun _ => rfl)) (by omega) ⟨1, d, ci⟩) fun H8 hS8 => ?_
    simp (disch := omega) only [↓RA, RZ, simprocAttr, hn, hS5.ab 2 rfl, g4]
    refine iA (fun g5 => ?_) (fun g5 => ?_)
    ·simp (disch := omega) only [↓RA, RZ, simprocAttr, hn, kA, g4, g5]
     refine hS8.aa 3 rfl [(.slice none 0 0), (.int .u64 0), (.int .u64 0)] rfl rfl iK (by simp) fun H9 hS9 => ?_
     simp only [RT] at hS9
     simp (disch := omega) only [↓RA, RZ, simprocAttr, hn, rM, hS9.ab 3 rfl, g4, g5]
     refine .err ?_ (by decide) hS9
     simp at g5
     rw [oY, if_neg (by omega), if_neg g5]
    simp at g5
    have hE : rF o rg ⟨1, d, ci⟩ = 0 := by
     rw [oY, if_neg (by omega), if_pos g5]
    simp (disch := omega) only [↓RA, RZ, simprocAttr, hn, hS8.ab 1 rfl, hS8.ab 2 rfl, g4, g5]
    refine gP (wN rg sv (hr.ae hS8) (by omega) (by omega) ⟨1, d, ci⟩ (pL (by omega) _ g5)) ?_
    rintro r H10 ⟨nw, rfl, hT4⟩
    have hS10 := hS8.trans hT4
    simp only [RT] at hS10
    simp (disch := omega) only [↓RA, RZ, simprocAttr, hn, g4, g5]
    refine hS10.aa 3 rfl [nw, (.int .u64 (iU rg ⟨1, d, ci⟩).cpl), (.int .u64 (iU rg ⟨1, d, ci⟩).off)] rfl (by simp [OC, (hS10.rd 5 rfl).cells.2.1]) iK (by simp) fun H11 hS11 => ?_
    simp only [RT] at hS11
    simp (disch := omega) only [↓RA, RZ, simprocAttr, hn, rM, hS11.ab 3 rfl, g4, g5]
    unfold WthR
    rw [tY hE, hE]
    exact ⟨nw, rfl, hS11.pick [5] (by decide) rfl⟩
   simp (disch := omega) only [↓RA, RZ, simprocAttr, hn, hS5.ld 2 rfl, kA, g1, g2, g3]
   refine hS5.aa 3 rfl [(.slice none 0 0), (.int .u64 0), (.int .u64 0)] rfl rfl iK (by simp) fun H12 hS12 => ?_
   simp only [RT] at hS12
   simp (disch := omega) only [↓RA, RZ, simprocAttr, hn, rM, hS12.ab 3 rfl, g1, g2, g3]
   refine .err ?_ (by decide) hS12
   rw [oY, if_pos (by omega)]
  simp (disch := omega) only [↓RA, RZ, simprocAttr, hn, hS5.ld 2 rfl, kA, g1, g2]
  refine hS5.aa 3 rfl [(.slice none 0 0), (.int .u64 0), (.int .u64 0)] rfl rfl iK (by simp) fun H13 hS13 => ?_
  simp only [RT] at hS13
  simp (disch := omega) only [↓RA, RZ, simprocAttr, hn, rM, hS13.ab 3 rfl, g1, g2]
  refine .err ?_ (by decide) hS13
  rw [oY, if_pos (by omega)]
 simp (disch := omega) only [↓RA, RZ, simprocAttr, hn, hS5.ld 2 rfl, kA, g1]
 refine hS5.aa 3 rfl [(.slice none 0 0), (.int .u64 0), (.int .u64 0)] rfl rfl iK (by simp) fun H14 hS14 => ?_
 simp only [RT] at hS14
 simp (disch := omega) only [↓RA, RZ, simprocAttr, hn, rM, hS14.ab 3 rfl, g1]
 refine .err ?_ (by decide) hS14
 rw [xR, if_pos (by omega)]
theorem b4K (o : Org) (ho : o.In H) (rg : Reg) (sv : Value) (hr : rg.In H sv) (h0 : jX o rg = 0) (cd ci : Int) :
 Fn prog 55 [.agg #[.string o.name, o.rv, o.dv, o.cv], .agg #[sv, .int .u64 rg.cpl, .int .u64 rg.off], .agg #[I 2, I cd, I ci]] H fun r H' => WthR o rg ⟨2, cd, ci⟩ H r H' := by
 obtain ⟨hz3, hz4⟩ := iY h0
 have hf := Org.aT hz3
 have hd1 := hf.dpos
 have hd8 := hf.dlen
 have hdl := kN (rg := rg) (by omega)
 refine .bf func55 rfl (by kernel_rfl) (m := 111) rfl fun l hn g0 g1 g2 => ?_
 simp (disch := omega) only [↓RA, RB, simprocAttr, g0]
 refine (sR H).eNew 4 [(.string o.name), o.rv, o.dv, o.cv] rfl rfl (by simp [OC, ((sR H).sl ho.1).cells.2.1, ((sR H).sl ho.2.2.1).cells.2.1, ((sR H).sl ho.2.2.2.2.1).cells.2.1]) lD fun A1 H1 hS1 => ?_
 simp only [RT] at hS1
 simp (disch := omega) only [↓RA, RB, simprocAttr, g1]
 refine hS1.eNew 3 [sv, (.int .u64 rg.cpl), (.int .u64 rg.off)] rfl rfl (by simp [OC, (hS1.sl hr.1).cells.2.1]) iK fun A2 H2 hS2 => ?_
 simp only [RT] at hS2
 simp (disch := omega) only [↓RA, RB, simprocAttr, g2]
 refine hS2.eNew 3 [I 2, I cd, I ci] rfl rfl rfl kE fun A3 H3 hS3 => ?_
 simp only [RT] at hS3
 simp (disch := omega) only [↓RA, RZ, simprocAttr]
 refine hS3.eNew 3 [(.slice none 0 0), (.int .u64 0), (.int .u64 0)] rfl rfl rfl iK fun A4 H4 hS4 => ?_
 simp only [RT] at hS4
 simp (disch := omega) only [↓RA, RZ, simprocAttr, hn, hS4.ab 0 rfl, hS4.ab 1 rfl]
 refine hS4.cF (lN o (ho.ae hS4) rg sv (hr.ae hS4)) fun H5 hS5 => ?_
 rw [h0]
 simp (disch := omega) only [↓RA, RZ, simprocAttr, hn, hS5.ld 2 rfl]
 refine hK (fun g1 => ?_) (fun g1 => ?_)
 ·simp (disch := omega) only [↓RA, RZ, simprocAttr, hn, hS5.ld 2 rfl, hS5.ld 0 rfl, (hS5.sl ho.2.2.2.2.1).len, g1]
  refine gS (fun g2 => ?_) (fun g2 => ?_)
  ·simp (disch := omega) only [↓RA, RZ, simprocAttr, hn, kA, g1, g2]
   refine hS5.aa 3 rfl [(.slice none 0 0), (.int .u64 0), (.int .u64 0)] rfl rfl iK (by simp) fun H6 hS6 => ?_
   simp only [RT] at hS6
   simp (disch := omega) only [↓RA, RZ, simprocAttr, hn, rM, hS6.ab 3 rfl, g1, g2]
   exact .err (by rw [pN, if_pos g2]) (by decide) hS6
  simp (disch := omega) only [↓RA, RZ, simprocAttr, hn, hS5.ld 2 rfl, g1, g2]
  refine iA (fun g4 => ?_) (fun g4 => ?_)
  ·simp (disch := omega) only [↓RA, RZ, simprocAttr, hn, kA, g1, g2, g4]
   refine hS5.aa 3 rfl [(.slice none 0 0), (.int .u64 0), (.int .u64 0)] rfl rfl iK (by simp) fun H7 hS7 => ?_
   simp only [RT] at hS7
   simp (disch := omega) only [↓RA, RZ, simprocAttr, hn, rM, hS7.ab 3 rfl, g1, g2, g4]
   simp at g4
   exact .err (by rw [pN, if_neg (by omega), if_pos (by omega)]) (by decide) hS7
  simp (disch := omega) only [↓RA, RC, simprocAttr, g1, g2, g4]
  refine Wp.aJ iZ [(2, 0)] (by kernel_rfl) (by kernel_rfl) ?_
  simp (disch := omega) only [↓RA, RZ, simprocAttr, hn, hS5.ab 1 rfl]
  simp at g4
  refine gP ((qV rg sv (hr.ae hS5) (by omega)).tr) ?_
  rintro r H8 ⟨-, hT2⟩
  have hS8 := hS5.trans hT2
  simp only [RT] at hS8
  obtain ⟨dw, rfl⟩ : ∃ w, w = r := ⟨r, rfl⟩
  simp (disch := omega) only [↓RA, RZ, simprocAttr, hn, hS8.ab 2 rfl, g4]
  refine hS8.cF (a3E dw (gO rg) (hS8.aw 4 rfl (fun _ => rfl)) (by omega) ⟨2, cd, ci⟩) fun H9 hS9 => ?_
  simp (disch := omega) only [↓RA, RZ, simprocAttr, hn, hS5.ab 2 rfl, g4]
  refine iA (fun g5 => ?_) (fun g5 => ?_)
  ·simp (disch := omega) only [↓RA, RZ, simprocAttr, hn, kA, g4, g5]
   refine hS9.aa 3 rfl [(.slice none 0 0), (.int .u64 0), (.int .u64 0)] rfl rfl iK (by simp) fun H10 hS10 => ?_
   simp only [RT] at hS10
   simp (disch := omega) only [↓RA, RZ, simprocAttr, hn, rM, hS10.ab 3 rfl, g4, g5]
   simp at g5
   exact .err (by rw [pN, if_neg (by omega), if_neg (by omega), if_neg g5]) (by decide) hS10
  simp at g5
  have hE : rF o rg ⟨2, cd, ci⟩ = 0 := by rw [pN, if_neg (by omega), if_neg (by omega), if_pos g5]
  simp (disch := omega) only [↓RA, RZ, simprocAttr, hn, hS9.ab 1 rfl, hS9.ab 2 rfl, g4, g5]
  refine gP (wN rg sv (hr.ae hS9) (by omega) (by omega) ⟨2, cd, ci⟩ (pL (by omega) _ g5)) ?_
  rintro r H11 ⟨nw, rfl, hT4⟩
  have hS11 := hS9.trans hT4
  simp only [RT] at hS11
  simp (disch := omega) only [↓RA, RZ, simprocAttr, hn, g4, g5]
  refine hS11.aa 3 rfl [nw, (.int .u64 (iU rg ⟨2, cd, ci⟩).cpl), (.int .u64 (iU rg ⟨2, cd, ci⟩).off)] rfl (by simp [OC, (hS11.rd 5 rfl).cells.2.1]) iK (by simp) fun H12 hS12 => ?_
  simp only [RT] at hS12
  simp (disch := omega) only [↓RA, RZ, simprocAttr, hn, rM, hS12.ab 3 rfl, g4, g5]
  unfold WthR
  rw [tY hE, hE]
  exact ⟨nw, rfl, hS12.pick [5] (by decide) rfl⟩
 simp (disch := omega) only [↓RA, RZ, simprocAttr, hn, hS5.ld 2 rfl, g1]
 refine gS (fun g2 => ?_) (fun g2 => ?_)
 ·simp (disch := omega) only [↓RA, RZ, simprocAttr, hn, kA, g1, g2]
  refine hS5.aa 3 rfl [(.slice none 0 0), (.int .u64 0), (.int .u64 0)] rfl rfl iK (by simp) fun H13 hS13 => ?_
  simp only [RT] at hS13
  simp (disch := omega) only [↓RA, RZ, simprocAttr, hn, rM, hS13.ab 3 rfl, g1, g2]
  exact .err (by rw [pN, if_pos g2]) (by decide) hS13
 simp (disch := omega) only [↓RA, RZ, simprocAttr, hn, hS5.ld 2 rfl, kA, g1, g2]
 refine hS5.aa 3 rfl [(.slice none 0 0), (.int .u64 0), (.int .u64 0)] rfl rfl iK (by simp) fun H14 hS14 => ?_
 simp only [RT] at hS14
 simp (disch := omega) only [↓RA, RZ, simprocAttr, hn, rM, hS14.ab 3 rfl, g1, g2]
 exact .err (by rw [pN, if_neg (by omega), if_pos (by omega)]) (by decide) hS14
theorem b2v (o : Org) (ho : o.In H) (rg : Reg) (sv : Value) (hr : rg.In H sv) (h0 : jX o rg = 0) (cd ci : Int) :
 Fn prog 55 [.agg #[.string o.name, o.rv, o.dv, o.cv], .agg #[sv, .int .u64 rg.cpl, .int .u64 rg.off], .agg #[I 3, I cd, I ci]] H fun r H' => WthR o rg ⟨3, cd, ci⟩ H r H' := by
 obtain ⟨hz3, hz4⟩ := iY h0
 have hf := Org.aT hz3
 have hd1 := hf.dpos
 have hd8 := hf.dlen
 have hdl := kN (rg := rg) (by omega)
 refine .bf func55 rfl (by kernel_rfl) (m := 111) rfl fun l hn g0 g1 g2 => ?_
 simp (disch := omega) only [↓RA, RB, simprocAttr, g0]
 refine (sR H).eNew 4 [(.string o.name), o.rv, o.dv, o.cv] rfl rfl (by simp [OC, ((sR H).sl ho.1).cells.2.1, ((sR H).sl ho.2.2.1).cells.2.1, ((sR H).sl ho.2.2.2.2.1).cells.2.1]) lD fun A1 H1 hS1 => ?_
 simp only [RT] at hS1
 simp (disch := omega) only [↓RA, RB, simprocAttr, g1]
 refine hS1.eNew 3 [sv, (.int .u64 rg.cpl), (.int .u64 rg.off)] rfl rfl (by simp [OC, (hS1.sl hr.1).cells.2.1]) iK fun A2 H2 hS2 => ?_
 simp only [RT] at hS2
 simp (disch := omega) only [↓RA, RB, simprocAttr, g2]
 refine hS2.eNew 3 [I 3, I cd, I ci] rfl rfl rfl kE fun A3 H3 hS3 => ?_
 simp only [RT] at hS3
 simp (disch := omega) only [↓RA, RZ, simprocAttr]
 refine hS3.eNew 3 [(.slice none 0 0), (.int .u64 0), (.int .u64 0)] rfl rfl rfl iK fun A4 H4 hS4 => ?_
 simp only [RT] at hS4
 simp (disch := omega) only [↓RA, RZ, simprocAttr, hn, hS4.ab 0 rfl, hS4.ab 1 rfl]
 refine hS4.cF (lN o (ho.ae hS4) rg sv (hr.ae hS4)) fun H5 hS5 => ?_
 rw [h0]
 simp (disch := omega) only [↓RA, RZ, simprocAttr, hn, hS5.ld 2 rfl]
 refine hK (fun g1 => ?_) (fun g1 => ?_)
 ·simp (disch := omega) only [↓RA, RZ, simprocAttr, hn, hS5.ld 2 rfl, hS5.ld 0 rfl, (hS5.sl ho.2.2.1).len, g1]
  refine gJ (fun g2 => ?_) (fun g2 => ?_)
  ·simp (disch := omega) only [↓RA, RZ, simprocAttr, hn, kA, g1, g2]
   refine hS5.aa 3 rfl [(.slice none 0 0), (.int .u64 0), (.int .u64 0)] rfl rfl iK (by simp) fun H6 hS6 => ?_
   simp only [RT] at hS6
   simp (disch := omega) only [↓RA, RZ, simprocAttr, hn, rM, hS6.ab 3 rfl, g1, g2]
   exact .err (by rw [nM, if_pos g2]) (by decide) hS6
  simp (disch := omega) only [↓RA, RZ, simprocAttr, hn, g1, g2]
  refine iA (fun g4 => ?_) (fun g4 => ?_)
  ·simp (disch := omega) only [↓RA, RZ, simprocAttr, hn, kA, g1, g2, g4]
   refine hS5.aa 3 rfl [(.slice none 0 0), (.int .u64 0), (.int .u64 0)] rfl rfl iK (by simp) fun H7 hS7 => ?_
   simp only [RT] at hS7
   simp (disch := omega) only [↓RA, RZ, simprocAttr, hn, rM, hS7.ab 3 rfl, g1, g2, g4]
   simp at g4
   exact .err (by rw [nM, if_neg (by omega), if_pos (by omega)]) (by decide) hS7
  simp (disch := omega) only [↓RA, RC, simprocAttr, g1, g2, g4]
  refine Wp.aJ iZ [(2, 0)] (by kernel_rfl) (by kernel_rfl) ?_
  simp (disch := omega) only [↓RA, RZ, simprocAttr, hn, hS5.ab 1 rfl]
  simp at g4
  refine gP ((qV rg sv (hr.ae hS5) (by omega)).tr) ?_
  rintro r H8 ⟨-, hT2⟩
  have hS8 := hS5.trans hT2
  simp only [RT] at hS8
  obtain ⟨dw, rfl⟩ : ∃ w, w = r := ⟨r, rfl⟩
  simp (disch := omega) only [↓RA, RZ, simprocAttr, hn, hS8.ab 2 rfl, g4]
  refine hS8.cF (a3E dw (gO rg) (hS8.aw 4 rfl (fun _ => rfl)) (by omega) ⟨3, cd, ci⟩) fun H9 hS9 => ?_
  simp (disch := omega) only [↓RA, RZ, simprocAttr, hn, hS5.ab 2 rfl, g4]
  refine iA (fun g5 => ?_) (fun g5 => ?_)
  ·simp (disch := omega) only [↓RA, RZ, simprocAttr, hn, kA, g4, g5]
   refine hS9.aa 3 rfl [(.slice none 0 0), (.int .u64 0), (.int .u64 0)] rfl rfl iK (by simp) fun H10 hS10 => ?_
   simp only [RT] at hS10
   simp (disch := omega) only [↓RA, RZ, simprocAttr, hn, rM, hS10.ab 3 rfl, g4, g5]
   simp at g5
   exact .err (by rw [nM, if_neg (by omega), if_neg (by omega), if_neg g5]) (by decide) hS10
  simp at g5
  have hE : rF o rg ⟨3, cd, ci⟩ = 0 := by rw [nM, if_neg (by omega), if_neg (by omega), if_pos g5]
  simp (disch := omega) only [↓RA, RZ, simprocAttr, hn, hS9.ab 1 rfl, hS9.ab 2 rfl, g4, g5]
  refine gP (wN rg sv (hr.ae hS9) (by omega) (by omega) ⟨3, cd, ci⟩ (pL (by omega) _ g5)) ?_
  rintro r H11 ⟨nw, rfl, hT4⟩
  have hS11 := hS9.trans hT4
  simp only [RT] at hS11
  simp (disch := omega) only [↓RA, RZ, simprocAttr, hn, g4, g5]
  refine hS11.aa 3 rfl [nw, (.int .u64 (iU rg ⟨3, cd, ci⟩).cpl), (.int .u64 (iU rg ⟨3, cd, ci⟩).off)] rfl (by simp [OC, (hS11.rd 5 rfl).cells.2.1]) iK (by simp) fun H12 hS12 => ?_
  simp only [RT] at hS12
  simp (disch := omega) only [↓RA, RZ, simprocAttr, hn, rM, hS12.ab 3 rfl, g4, g5]
  unfold WthR
  rw [tY hE, hE]
  exact ⟨nw, rfl, hS12.pick [5] (by decide) rfl⟩
 simp (disch := omega) only [↓RA, RZ, simprocAttr, hn, hS5.ld 2 rfl, g1]
 refine gJ (fun g2 => ?_) (fun g2 => ?_)
 ·simp (disch := omega) only [↓RA, RZ, simprocAttr, hn, kA, g1, g2]
  refine hS5.aa 3 rfl [(.slice none 0 0), (.int .u64 0), (.int .u64 0)] rfl rfl iK (by simp) fun H13 hS13 => ?_
  simp only [RT] at hS13
  simp (disch := omega) only [↓RA, RZ, simprocAttr, hn, rM, hS13.ab 3 rfl, g1, g2]
  exact .err (by rw [nM, if_pos g2]) (by decide) hS13
 simp (disch := omega) only [↓RA, RZ, simprocAttr, hn, kA, g1, g2]
 refine hS5.aa 3 rfl [(.slice none 0 0), (.int .u64 0), (.int .u64 0)] rfl rfl iK (by simp) fun H14 hS14 => ?_
 simp only [RT] at hS14
 simp (disch := omega) only [↓RA, RZ, simprocAttr, hn, rM, hS14.ab 3 rfl, g1, g2]
 exact .err (by rw [nM, if_neg (by omega), if_pos (by omega)]) (by decide) hS14
theorem b3H (o : Org) (ho : o.In H) (rg : Reg) (sv : Value) (hr : rg.In H sv) (h0 : jX o rg = 0) (ck cd ci : Int) (hk : ck ≠ 1 ∧ ck ≠ 2 ∧ ck ≠ 3) :
 Fn prog 55 [.agg #[.string o.name, o.rv, o.dv, o.cv], .agg #[sv, .int .u64 rg.cpl, .int .u64 rg.off], .agg #[I ck, I cd, I ci]] H fun r H' => WthR o rg ⟨ck, cd, ci⟩ H r H' := by
 obtain ⟨j1, j2, j3⟩ := hk
 refine .bf func55 rfl (by kernel_rfl) (m := 111) rfl fun l hn g0 g1 g2 => ?_
 simp (disch := omega) only [↓RA, RB, simprocAttr, g0]
 refine (sR H).eNew 4 [(.string o.name), o.rv, o.dv, o.cv] rfl rfl (by simp [OC, ((sR H).sl ho.1).cells.2.1, ((sR H).sl ho.2.2.1).cells.2.1, ((sR H).sl ho.2.2.2.2.1).cells.2.1]) lD fun A1 H1 hS1 => ?_
 simp only [RT] at hS1
 simp (disch := omega) only [↓RA, RB, simprocAttr, g1]
 refine hS1.eNew 3 [sv, (.int .u64 rg.cpl), (.int .u64 rg.off)] rfl rfl (by simp [OC, (hS1.sl hr.1).cells.2.1]) iK fun A2 H2 hS2 => ?_
 simp only [RT] at hS2
 simp (disch := omega) only [↓RA, RB, simprocAttr, g2]
 refine hS2.eNew 3 [I ck, I cd, I ci] rfl rfl rfl kE fun A3 H3 hS3 => ?_
 simp only [RT] at hS3
 simp (disch := omega) only [↓RA, RZ, simprocAttr]
 refine hS3.eNew 3 [(.slice none 0 0), (.int .u64 0), (.int .u64 0)] rfl rfl rfl iK fun A4 H4 hS4 => ?_
 simp only [RT] at hS4
 simp (disch := omega) only [↓RA, RZ, simprocAttr, hn, hS4.ab 0 rfl, hS4.ab 1 rfl]
 refine hS4.cF (lN o (ho.ae hS4) rg sv (hr.ae hS4)) fun H5 hS5 => ?_
 rw [h0]
 simp (disch := omega) only [↓RA, RZ, simprocAttr, hn, hS5.ld 2 rfl, j1, j2, j3]
 simp (disch := omega) only [↓RA, RB, simprocAttr, hn, kA]
 refine hS5.aa 3 rfl [(.slice none 0 0), (.int .u64 0), (.int .u64 0)] rfl rfl iK (by simp) fun H6 hS6 => ?_
 simp only [RT] at hS6
 simp (disch := omega) only [↓RA, RZ, simprocAttr, hn, rM, hS6.ab 3 rfl]
 exact .err (by simp [rF, j1, j2, j3]) (by decide) hS6
theorem b6u (o : Org) (ho : o.In H) (rg : Reg) (sv : Value) (hr : rg.In H sv) (h0 : jX o rg = 0) (c : Ctl) :
 Fn prog 55 [.agg #[.string o.name, o.rv, o.dv, o.cv], .agg #[sv, .int .u64 rg.cpl, .int .u64 rg.off], .agg #[I c.kind, I c.dv, I c.ix]] H fun r H' => WthR o rg c H r H' := by
 obtain ⟨ck, cd, ci⟩ := c
 by_cases j1 : ck = 1
 ·subst j1
  exact b4d o ho rg sv hr h0 cd ci
 by_cases j2 : ck = 2
 ·subst j2
  exact b4K o ho rg sv hr h0 cd ci
 by_cases j3 : ck = 3
 ·subst j3
  exact b2v o ho rg sv hr h0 cd ci
 exact b3H o ho rg sv hr h0 ck cd ci ⟨j1, j2, j3⟩
theorem b2Z (o : Org) (ho : o.In H) (rg : Reg) (sv : Value) (hr : rg.In H sv) (h0 : jX o rg = 0) (cd ci : Int) (hc : (⟨1, cd, ci⟩ : Ctl) ∉ gO rg) :
 Fn prog 42 [.agg #[.string o.name, o.rv, o.dv, o.cv], .agg #[sv, .int .u64 rg.cpl, .int .u64 rg.off], .agg #[I 1, I cd, I ci]] H fun r H' => WthR o rg ⟨1, cd, ci⟩ H r H' := by
 obtain ⟨hz3, hz4⟩ := iY h0
 have hf := Org.aT hz3
 have hd8 := hf.dlen
 have hdl := kN (rg := rg) (by omega)
 refine .bf func42 rfl (by kernel_rfl) (m := 144) rfl fun l hn g0 g1 g2 => ?_
 simp (disch := omega) only [↓RA, RB, simprocAttr, g0]
 refine (sR H).eNew 4 [(.string o.name), o.rv, o.dv, o.cv] rfl rfl (by simp [OC, ((sR H).sl ho.1).cells.2.1, ((sR H).sl ho.2.2.1).cells.2.1, ((sR H).sl ho.2.2.2.2.1).cells.2.1]) lD fun A1 H1 hS1 => ?_
 simp only [RT] at hS1
 simp (disch := omega) only [↓RA, RB, simprocAttr, g1]
 refine hS1.eNew 3 [sv, (.int .u64 rg.cpl), (.int .u64 rg.off)] rfl rfl (by simp [OC, (hS1.sl hr.1).cells.2.1]) iK fun A2 H2 hS2 => ?_
 simp only [RT] at hS2
 simp (disch := omega) only [↓RA, RB, simprocAttr, g2]
 refine hS2.eNew 3 [I 1, I cd, I ci] rfl rfl rfl kE fun A3 H3 hS3 => ?_
 simp only [RT] at hS3
 simp (disch := omega) only [↓RA, RZ, simprocAttr]
 refine hS3.eNew 3 [(.slice none 0 0), (.int .u64 0), (.int .u64 0)] rfl rfl rfl iK fun A4 H4 hS4 => ?_
 simp only [RT] at hS4
 simp (disch := omega) only [↓RA, RZ, simprocAttr, hn, hS4.ld 2 rfl]
 refine hK (fun g1 => ?_) (fun g1 => ?_)
 ·simp (disch := omega) only [↓RA, RZ, simprocAttr, hn, hS4.ld 2 rfl, hS4.ld 0 rfl, (hS4.sl ho.2.2.2.2.1).len, g1]
  refine hK (fun g2 => ?_) (fun g2 => ?_)
  ·obtain ⟨d, rfl⟩ := eY g2
   simp (disch := omega) only [↓RA, RZ, simprocAttr, hn, hS4.ld 2 rfl, hS4.ld 0 rfl, (hS4.sl ho.2.2.1).len, g1, g2]
   refine Wp.drw iZ (by kernel_rfl) ?_
   simp (disch := omega) only [↓RA, RZ, simprocAttr, hn]
   refine hK (fun g3 => ?_) (fun g3 => ?_)
   ·simp (disch := omega) only [↓RA, RZ, simprocAttr, hn, hS4.ld 2 rfl, g1, g3]
    simp (disch := omega) only [↓RA, RZ, simprocAttr, hn, hS4.ld 2 rfl, hS4.ld 0 rfl, (hS4.sl ho.2.2.1).idx, (hS4.sl ho.2.2.1).bp, (hS4.sl ho.2.2.1).ld, Dvn.cells, (hS4.sl (ho.2.2.2.1 (gK o.dvs d) (gN (by omega))).1).len, g3]
    refine iA (fun g4 => ?_) (fun g4 => ?_)
    ·simp (disch := omega) only [↓RA, RZ, simprocAttr, hn, kA, g3, g4]
     refine hS4.aa 3 rfl [(.slice none 0 0), (.int .u64 0), (.int .u64 0)] rfl rfl iK (by simp) fun H5 hS5 => ?_
     simp only [RT] at hS5
     simp (disch := omega) only [↓RA, RZ, simprocAttr, hn, pG, hS5.ab 3 rfl, g3, g4]
     simp at g4
     exact .err (by rw [oY, if_pos (by omega)]) (by decide) hS5
    simp (disch := omega) only [↓RA, RZ, simprocAttr, hn, hS4.ab 0 rfl, hS4.ab 1 rfl, g3, g4]
    simp at g4
    refine gP ((lW o (ho.ae hS4) rg sv (hr.ae hS4) h0).tr) ?_
    rintro r H6 ⟨-, hT1⟩
    have hS6 := hS4.trans hT1
    simp only [RT] at hS6
    obtain ⟨dw, rfl⟩ : ∃ w, w = r := ⟨r, rfl⟩
    simp (disch := omega) only [↓RA, RZ, simprocAttr, hn, (hS6.aw 4 rfl (fun _ => rfl)).len, g3, g4]
    refine Wp.al (fun n l H' => l.length = 144 ∧ get l 4 = (ptr A2 0 3) ∧ get l 5 = (ptr A3 0 3) ∧ get l 6 = (ptr A4 0 3) ∧ get l 92 = dw ∧ get l 93 = I (gO rg).length ∧ ∃ (j : Nat), (n + j = (gO rg).length) ∧ get l 94 = I j ∧ St prog H H' [⟨ptr A1 0 4, 0, [(.string o.name), o.rv, o.dv, o.cv]⟩, ⟨ptr A2 0 3, 0, [sv, (.int .u64 rg.cpl), (.int .u64 rg.off)]⟩, ⟨ptr A3 0 3, 0, [I 1, I d, I ci]⟩, ⟨ptr A4 0 3, 0, [(.slice none 0 0), (.int .u64 0), (.int .u64 0)]⟩, ⟨dw, 3, jY (gO rg)⟩]) (gO rg).length ?_ ?_
    ·simp (disch := omega) only [RB, RC, simprocAttr, hn]
     exact ⟨0, by omega, rfl, hS6⟩
    rintro n l H7 ⟨hn, g4, g5, g6, g92, g93, j, hj, g94, hS7⟩
    simp (disch := omega) only [↓RA, RB, simprocAttr, hn, g93, g94]
    refine gJ (fun q1 => ?_) (fun q1 => ?_)
    ·have hne : gK (gO rg) j ≠ ⟨1, d, ci⟩ := fun e => hc (e ▸ gN (by omega))
     have hne2 : ¬ ((gK (gO rg) j).kind = 1 ∧ (gK (gO rg) j).dv = d ∧ (gK (gO rg) j).ix = ci) := fun e => hne ((Ctl.eq ⟨1, d, ci⟩ _).1 ⟨e.1.symm, e.2.1.symm, e.2.2.symm⟩)
     simp (disch := omega) only [↓RA, RZ, simprocAttr, hn, g92, g94, (hS7.aw 4 rfl (fun _ => rfl)).idx, (hS7.aw 4 rfl (fun _ => rfl)).ab, Ctl.cells, q1]
     refine hS7.eNew 3 [I 0, I 0, I 0] rfl rfl rfl kE fun A5 H8 hS8 => ?_
     simp only [RT] at hS8
     simp (disch := omega) only [↓RA, RZ, simprocAttr, hn, q1]
     refine hS8.aa 5 rfl [I (gK (gO rg) j).kind, I (gK (gO rg) j).dv, I (gK (gO rg) j).ix] rfl rfl kE (by simp) fun H9 hS9 => ?_
     simp only [RT] at hS9
     simp (disch := omega) only [↓RA, RZ, simprocAttr, hn, g4, g5, g6, g92, g93, g94, hS9.ab 5 rfl, hS9.ab 2 rfl, q1, hne2]
     exact ⟨n - 1, by omega, j + 1, by omega, by simp, hS9.pick [0, 1, 2, 3, 4] (by decide) rfl⟩
    simp (disch := omega) only [↓RA, RZ, simprocAttr, hn, g6, kA, q1]
    refine hS7.aa 3 rfl [(.slice none 0 0), (.int .u64 0), (.int .u64 0)] rfl rfl iK (by simp) fun H10 hS10 => ?_
    simp only [RT] at hS10
    simp (disch := omega) only [↓RA, RZ, simprocAttr, hn, g6, pG, hS10.ab 3 rfl, q1]
    exact .err (by rw [oY, if_neg (by omega), if_neg hc]) (by decide) hS10
   simp (disch := omega) only [↓RA, RZ, simprocAttr, hn, kA, g3]
   refine hS4.aa 3 rfl [(.slice none 0 0), (.int .u64 0), (.int .u64 0)] rfl rfl iK (by simp) fun H11 hS11 => ?_
   simp only [RT] at hS11
   simp (disch := omega) only [↓RA, RZ, simprocAttr, hn, pG, hS11.ab 3 rfl, g3]
   exact .err (by rw [oY, if_pos (by omega)]) (by decide) hS11
  simp (disch := omega) only [↓RA, RZ, simprocAttr, hn, hS4.ld 2 rfl, g1, g2]
  refine Wp.drw iZ (by kernel_rfl) ?_
  simp (disch := omega) only [↓RA, RZ, simprocAttr, hn, kA]
  refine hS4.aa 3 rfl [(.slice none 0 0), (.int .u64 0), (.int .u64 0)] rfl rfl iK (by simp) fun H12 hS12 => ?_
  simp only [RT] at hS12
  simp (disch := omega) only [↓RA, RZ, simprocAttr, hn, pG, hS12.ab 3 rfl]
  exact .err (by rw [xR, if_pos (by omega)]) (by decide) hS12
 simp (disch := omega) only [↓RA, RZ, simprocAttr, hn, hS4.ld 2 rfl, g1]
 refine hK (fun g2 => ?_) (fun g2 => ?_)
 ·simp (disch := omega) only [↓RA, RZ, simprocAttr, hn, hS4.ld 2 rfl, hS4.ld 0 rfl, (hS4.sl ho.2.2.1).len, g1, g2]
  refine Wp.drw iZ (by kernel_rfl) ?_
  simp (disch := omega) only [↓RA, RZ, simprocAttr, hn]
  refine hK (fun g3 => ?_) (fun g3 => ?_)
  ·simp (disch := omega) only [↓RA, RZ, simprocAttr, hn, hS4.ld 2 rfl, g1, g3]
   simp (disch := omega) only [↓RA, RZ, simprocAttr, hn, kA, g3]
   refine hS4.aa 3 rfl [(.slice none 0 0), (.int .u64 0), (.int .u64 0)] rfl rfl iK (by simp) fun H13 hS13 => ?_
   simp only [RT] at hS13
   simp (disch := omega) only [↓RA, RZ, simprocAttr, hn, pG, hS13.ab 3 rfl, g3]
   exact .err (by rw [xR, if_pos (by omega)]) (by decide) hS13
  simp (disch := omega) only [↓RA, RZ, simprocAttr, hn, kA, g3]
  refine hS4.aa 3 rfl [(.slice none 0 0), (.int .u64 0), (.int .u64 0)] rfl rfl iK (by simp) fun H14 hS14 => ?_
  simp only [RT] at hS14
  simp (disch := omega) only [↓RA, RZ, simprocAttr, hn, pG, hS14.ab 3 rfl, g3]
  exact .err (by rw [xR, if_pos (by omega)]) (by decide) hS14
 simp (disch := omega) only [↓RA, RZ, simprocAttr, hn, hS4.ld 2 rfl, g1, g2]
 refine Wp.drw iZ (by kernel_rfl) ?_
 simp (disch := omega) only [↓RA, RZ, simprocAttr, hn, kA]
 refine hS4.aa 3 rfl [(.slice none 0 0), (.int .u64 0), (.int .u64 0)] rfl rfl iK (by simp) fun H15 hS15 => ?_
 simp only [RT] at hS15
 simp (disch := omega) only [↓RA, RZ, simprocAttr, hn, pG, hS15.ab 3 rfl]
 exact .err (by rw [xR, if_pos (by omega)]) (by decide) hS15
theorem b4v (o : Org) (ho : o.In H) (rg : Reg) (sv : Value) (hr : rg.In H sv) (h0 : jX o rg = 0) (cd ci : Int) (hc : (⟨2, cd, ci⟩ : Ctl) ∉ gO rg) :
 Fn prog 42 [.agg #[.string o.name, o.rv, o.dv, o.cv], .agg #[sv, .int .u64 rg.cpl, .int .u64 rg.off], .agg #[I 2, I cd, I ci]] H fun r H' => WthR o rg ⟨2, cd, ci⟩ H r H' := by
 obtain ⟨hz3, hz4⟩ := iY h0
 have hf := Org.aT hz3
 have hd8 := hf.dlen
 have hdl := kN (rg := rg) (by omega)
 refine .bf func42 rfl (by kernel_rfl) (m := 144) rfl fun l hn g0 g1 g2 => ?_
 simp (disch := omega) only [↓RA, RB, simprocAttr, g0]
 refine (sR H).eNew 4 [(.string o.name), o.rv, o.dv, o.cv] rfl rfl (by simp [OC, ((sR H).sl ho.1).cells.2.1, ((sR H).sl ho.2.2.1).cells.2.1, ((sR H).sl ho.2.2.2.2.1).cells.2.1]) lD fun A1 H1 hS1 => ?_
 simp only [RT] at hS1
 simp (disch := omega) only [↓RA, RB, simprocAttr, g1]
 refine hS1.eNew 3 [sv, (.int .u64 rg.cpl), (.int .u64 rg.off)] rfl rfl (by simp [OC, (hS1.sl hr.1).cells.2.1]) iK fun A2 H2 hS2 => ?_
 simp only [RT] at hS2
 simp (disch := omega) only [↓RA, RB, simprocAttr, g2]
 refine hS2.eNew 3 [I 2, I cd, I ci] rfl rfl rfl kE fun A3 H3 hS3 => ?_
 simp only [RT] at hS3
 simp (disch := omega) only [↓RA, RZ, simprocAttr]
 refine hS3.eNew 3 [(.slice none 0 0), (.int .u64 0), (.int .u64 0)] rfl rfl rfl iK fun A4 H4 hS4 => ?_
 simp only [RT] at hS4
 simp (disch := omega) only [↓RA, RZ, simprocAttr, hn, hS4.ld 2 rfl]
 refine gS (fun g0 => ?_) (fun g0 => ?_)
 ·simp (disch := omega) only [↓RA, RZ, simprocAttr, hn, kA, g0]
  refine hS4.aa 3 rfl [(.slice none 0 0), (.int .u64 0), (.int .u64 0)] rfl rfl iK (by simp) fun H5 hS5 => ?_
  simp only [RT] at hS5
  simp (disch := omega) only [↓RA, RZ, simprocAttr, hn, pG, hS5.ab 3 rfl, g0]
  exact .err (by rw [pN, if_pos g0]) (by decide) hS5
 simp (disch := omega) only [↓RA, RZ, simprocAttr, hn, hS4.ld 2 rfl, g0]
 refine hK (fun g1 => ?_) (fun g1 => ?_)
 ·simp (disch := omega) only [↓RA, RZ, simprocAttr, hn, hS4.ld 2 rfl, hS4.ld 0 rfl, (hS4.sl ho.2.2.2.2.1).len, g0, g1]
  refine iA (fun g4 => ?_) (fun g4 => ?_)
  ·simp (disch := omega) only [↓RA, RZ, simprocAttr, hn, kA, g0, g1, g4]
   refine hS4.aa 3 rfl [(.slice none 0 0), (.int .u64 0), (.int .u64 0)] rfl rfl iK (by simp) fun H6 hS6 => ?_
   simp only [RT] at hS6
   simp (disch := omega) only [↓RA, RZ, simprocAttr, hn, pG, hS6.ab 3 rfl, g0, g1, g4]
   simp at g4
   exact .err (by rw [pN, if_neg (by omega), if_pos (by omega)]) (by decide) hS6
  simp (disch := omega) only [↓RA, RZ, simprocAttr, hn, hS4.ab 0 rfl, hS4.ab 1 rfl, g0, g1, g4]
  simp at g4
  refine gP ((lW o (ho.ae hS4) rg sv (hr.ae hS4) h0).tr) ?_
  rintro r H7 ⟨-, hT1⟩
  have hS7 := hS4.trans hT1
  simp only [RT] at hS7
  obtain ⟨dw, rfl⟩ : ∃ w, w = r := ⟨r, rfl⟩
  simp (disch := omega) only [↓RA, RZ, simprocAttr, hn, (hS7.aw 4 rfl (fun _ => rfl)).len, g0, g1, g4]
  refine Wp.al (fun n l H' => l.length = 144 ∧ get l 4 = (ptr A2 0 3) ∧ get l 5 = (ptr A3 0 3) ∧ get l 6 = (ptr A4 0 3) ∧ get l 92 = dw ∧ get l 93 = I (gO rg).length ∧ ∃ (j : Nat), (n + j = (gO rg).length) ∧ get l 94 = I j ∧ St prog H H' [⟨ptr A1 0 4, 0, [(.string o.name), o.rv, o.dv, o.cv]⟩, ⟨ptr A2 0 3, 0, [sv, (.int .u64 rg.cpl), (.int .u64 rg.off)]⟩, ⟨ptr A3 0 3, 0, [I 2, I cd, I ci]⟩, ⟨ptr A4 0 3, 0, [(.slice none 0 0), (.int .u64 0), (.int .u64 0)]⟩, ⟨dw, 3, jY (gO rg)⟩]) (gO rg).length ?_ ?_
  ·simp (disch := omega) only [RB, RC, simprocAttr, hn]
   exact ⟨0, by omega, rfl, hS7⟩
  rintro n l H8 ⟨hn, g4, g5, g6, g92, g93, j, hj, g94, hS8⟩
  simp (disch := omega) only [↓RA, RB, simprocAttr, hn, g93, g94]
  refine gJ (fun q1 => ?_) (fun q1 => ?_)
  ·have hne : gK (gO rg) j ≠ ⟨2, cd, ci⟩ := fun e => hc (e ▸ gN (by omega))
   have hne2 : ¬ ((gK (gO rg) j).kind = 2 ∧ (gK (gO rg) j).dv = cd ∧ (gK (gO rg) j).ix = ci) := fun e => hne ((Ctl.eq ⟨2, cd, ci⟩ _).1 ⟨e.1.symm, e.2.1.symm, e.2.2.symm⟩)
   simp (disch := omega) only [↓RA, RZ, simprocAttr, hn, g92, g94, (hS8.aw 4 rfl (fun _ => rfl)).idx, (hS8.aw 4 rfl (fun _ => rfl)).ab, Ctl.cells, q1]
   refine hS8.eNew 3 [I 0, I 0, I 0] rfl rfl rfl kE fun A5 H9 hS9 => ?_
   simp only [RT] at hS9
   simp (disch := omega) only [↓RA, RZ, simprocAttr, hn, q1]
   refine hS9.aa 5 rfl [I (gK (gO rg) j).kind, I (gK (gO rg) j).dv, I (gK (gO rg) j).ix] rfl rfl kE (by simp) fun H10 hS10 => ?_
   simp only [RT] at hS10
   simp (disch := omega) only [↓RA, RZ, simprocAttr, hn, g4, g5, g6, g92, g93, g94, hS10.ab 5 rfl, hS10.ab 2 rfl, q1, hne2]
   exact ⟨n - 1, by omega, j + 1, by omega, by simp, hS10.pick [0, 1, 2, 3, 4] (by decide) rfl⟩
  simp (disch := omega) only [↓RA, RZ, simprocAttr, hn, g6, kA, q1]
  refine hS8.aa 3 rfl [(.slice none 0 0), (.int .u64 0), (.int .u64 0)] rfl rfl iK (by simp) fun H11 hS11 => ?_
  simp only [RT] at hS11
  simp (disch := omega) only [↓RA, RZ, simprocAttr, hn, g6, pG, hS11.ab 3 rfl, q1]
  exact .err (by rw [pN, if_neg (by omega), if_neg (by omega), if_neg hc]) (by decide) hS11
 simp (disch := omega) only [↓RA, RZ, simprocAttr, hn, hS4.ld 2 rfl, kA, g0, g1]
 refine hS4.aa 3 rfl [(.slice none 0 0), (.int .u64 0), (.int .u64 0)] rfl rfl iK (by simp) fun H12 hS12 => ?_
 simp only [RT] at hS12
 simp (disch := omega) only [↓RA, RZ, simprocAttr, hn, pG, hS12.ab 3 rfl, g0, g1]
 exact .err (by rw [pN, if_neg (by omega), if_pos (by omega)]) (by decide) hS12
theorem b3E (o : Org) (ho : o.In H) (rg : Reg) (sv : Value) (hr : rg.In H sv) (h0 : jX o rg = 0) (cd ci : Int) (hc : (⟨3, cd, ci⟩ : Ctl) ∉ gO rg) :
 Fn prog 42 [.agg #[.string o.name, o.rv, o.dv, o.cv], .agg #[sv, .int .u64 rg.cpl, .int .u64 rg.off], .agg #[I 3, I cd, I ci]] H fun r H' => WthR o rg ⟨3, cd, ci⟩ H r H' := by
 obtain ⟨hz3, hz4⟩ := iY h0
 have hf := Org.aT hz3
 have hd8 := hf.dlen
 have hdl := kN (rg := rg) (by omega)
 refine .bf func42 rfl (by kernel_rfl) (m := 144) rfl fun l hn g0 g1 g2 => ?_
 simp (disch := omega) only [↓RA, RB, simprocAttr, g0]
 refine (sR H).eNew 4 [(.string o.name), o.rv, o.dv, o.cv] rfl rfl (by simp [OC, ((sR H).sl ho.1).cells.2.1, ((sR H).sl ho.2.2.1).cells.2.1, ((sR H).sl ho.2.2.2.2.1).cells.2.1]) lD fun A1 H1 hS1 => ?_
 simp only [RT] at hS1
 simp (disch := omega) only [↓RA, RB, simprocAttr, g1]
 refine hS1.eNew 3 [sv, (.int .u64 rg.cpl), (.int .u64 rg.off)] rfl rfl (by simp [OC, (hS1.sl hr.1).cells.2.1]) iK fun A2 H2 hS2 => ?_
 simp only [RT] at hS2
 simp (disch := omega) only [↓RA, RB, simprocAttr, g2]
 refine hS2.eNew 3 [I 3, I cd, I ci] rfl rfl rfl kE fun A3 H3 hS3 => ?_
 simp only [RT] at hS3
 simp (disch := omega) only [↓RA, RZ, simprocAttr]
 refine hS3.eNew 3 [(.slice none 0 0), (.int .u64 0), (.int .u64 0)] rfl rfl rfl iK fun A4 H4 hS4 => ?_
 simp only [RT] at hS4
 simp (disch := omega) only [↓RA, RZ, simprocAttr, hn, hS4.ld 2 rfl]
 refine gJ (fun g0 => ?_) (fun g0 => ?_)
 ·simp (disch := omega) only [↓RA, RZ, simprocAttr, hn, kA, g0]
  refine hS4.aa 3 rfl [(.slice none 0 0), (.int .u64 0), (.int .u64 0)] rfl rfl iK (by simp) fun H5 hS5 => ?_
  simp only [RT] at hS5
  simp (disch := omega) only [↓RA, RZ, simprocAttr, hn, pG, hS5.ab 3 rfl, g0]
  exact .err (by rw [nM, if_pos g0]) (by decide) hS5
 simp (disch := omega) only [↓RA, RZ, simprocAttr, hn, hS4.ld 2 rfl, g0]
 refine hK (fun g1 => ?_) (fun g1 => ?_)
 ·simp (disch := omega) only [↓RA, RZ, simprocAttr, hn, hS4.ld 2 rfl, hS4.ld 0 rfl, (hS4.sl ho.2.2.2.2.1).len, g0, g1]
  refine hK (fun g2 => ?_) (fun g2 => ?_)
  ·simp (disch := omega) only [↓RA, RZ, simprocAttr, hn, hS4.ld 2 rfl, hS4.ld 0 rfl, (hS4.sl ho.2.2.1).len, g0, g1, g2]
   refine iA (fun g4 => ?_) (fun g4 => ?_)
   ·simp (disch := omega) only [↓RA, RZ, simprocAttr, hn, kA, g0, g1, g2, g4]
    refine hS4.aa 3 rfl [(.slice none 0 0), (.int .u64 0), (.int .u64 0)] rfl rfl iK (by simp) fun H6 hS6 => ?_
    simp only [RT] at hS6
    simp (disch := omega) only [↓RA, RZ, simprocAttr, hn, pG, hS6.ab 3 rfl, g0, g1, g2, g4]
    simp at g4
    exact .err (by rw [nM, if_neg (by omega), if_pos (by omega)]) (by decide) hS6
   simp (disch := omega) only [↓RA, RZ, simprocAttr, hn, hS4.ab 0 rfl, hS4.ab 1 rfl, g0, g1, g2, g4]
   simp at g4
   refine gP ((lW o (ho.ae hS4) rg sv (hr.ae hS4) h0).tr) ?_
   rintro r H7 ⟨-, hT1⟩
   have hS7 := hS4.trans hT1
   simp only [RT] at hS7
   obtain ⟨dw, rfl⟩ : ∃ w, w = r := ⟨r, rfl⟩
   simp (disch := omega) only [↓RA, RZ, simprocAttr, hn, (hS7.aw 4 rfl (fun _ => rfl)).len, g0, g1, g2, g4]
   refine Wp.al (fun n l H' => l.length = 144 ∧ get l 4 = (ptr A2 0 3) ∧ get l 5 = (ptr A3 0 3) ∧ get l 6 = (ptr A4 0 3) ∧ get l 92 = dw ∧ get l 93 = I (gO rg).length ∧ ∃ (j : Nat), (n + j = (gO rg).length) ∧ get l 94 = I j ∧ St prog H H' [⟨ptr A1 0 4, 0, [(.string o.name), o.rv, o.dv, o.cv]⟩, ⟨ptr A2 0 3, 0, [sv, (.int .u64 rg.cpl), (.int .u64 rg.off)]⟩, ⟨ptr A3 0 3, 0, [I 3, I cd, I ci]⟩, ⟨ptr A4 0 3, 0, [(.slice none 0 0), (.int .u64 0), (.int .u64 0)]⟩, ⟨dw, 3, jY (gO rg)⟩]) (gO rg).length ?_ ?_
   ·simp (disch := omega) only [RB, RC, simprocAttr, hn]
    exact ⟨0, by omega, rfl, hS7⟩
   rintro n l H8 ⟨hn, g4, g5, g6, g92, g93, j, hj, g94, hS8⟩
   simp (disch := omega) only [↓RA, RB, simprocAttr, hn, g93, g94]
   refine gJ (fun q1 => ?_) (fun q1 => ?_)
   ·have hne : gK (gO rg) j ≠ ⟨3, cd, ci⟩ := fun e => hc (e ▸ gN (by omega))
    have hne2 : ¬ ((gK (gO rg) j).kind = 3 ∧ (gK (gO rg) j).dv = cd ∧ (gK (gO rg) j).ix = ci) := fun e => hne ((Ctl.eq ⟨3, cd, ci⟩ _).1 ⟨e.1.symm, e.2.1.symm, e.2.2.symm⟩)
    simp (disch := omega) only [↓RA, RZ, simprocAttr, hn, g92, g94, (hS8.aw 4 rfl (fun _ => rfl)).idx, (hS8.aw 4 rfl (fun _ => rfl)).ab, Ctl.cells, q1]
    refine hS8.eNew 3 [I 0, I 0, I 0] rfl rfl rfl kE fun A5 H9 hS9 => ?_
    simp only [RT] at hS9
    simp (disch := omega) only [↓RA, RZ, simprocAttr, hn, q1]
    refine hS9.aa 5 rfl [I (gK (gO rg) j).kind, I (gK (gO rg) j).dv, I (gK (gO rg) j).ix] rfl rfl kE (by simp) fun H10 hS10 => ?_
    simp only [RT] at hS10
    simp (disch := omega) only [↓RA, RZ, simprocAttr, hn, g4, g5, g6, g92, g93, g94, hS10.ab 5 rfl, hS10.ab 2 rfl, q1, hne2]
    exact ⟨n - 1, by omega, j + 1, by omega, by simp, hS10.pick [0, 1, 2, 3, 4] (by decide) rfl⟩
   simp (disch := omega) only [↓RA, RZ, simprocAttr, hn, g6, kA, q1]
   refine hS8.aa 3 rfl [(.slice none 0 0), (.int .u64 0), (.int .u64 0)] rfl rfl iK (by simp) fun H11 hS11 => ?_
   simp only [RT] at hS11
   simp (disch := omega) only [↓RA, RZ, simprocAttr, hn, g6, pG, hS11.ab 3 rfl, q1]
   exact .err (by rw [nM, if_neg (by omega), if_neg (by omega), if_neg hc]) (by decide) hS11
  simp (disch := omega) only [↓RA, RZ, simprocAttr, hn, hS4.ld 2 rfl, kA, g0, g1, g2]
  refine hS4.aa 3 rfl [(.slice none 0 0), (.int .u64 0), (.int .u64 0)] rfl rfl iK (by simp) fun H12 hS12 => ?_
  simp only [RT] at hS12
  simp (disch := omega) only [↓RA, RZ, simprocAttr, hn, pG, hS12.ab 3 rfl, g0, g1, g2]
  exact .err (by rw [nM, if_neg (by omega), if_pos (by omega)]) (by decide) hS12
 simp (disch := omega) only [↓RA, RZ, simprocAttr, hn, hS4.ld 2 rfl, g0, g1]
 refine hK (fun g2 => ?_) (fun g2 => ?_)
 ·simp (disch := omega) only [↓RA, RZ, simprocAttr, hn, hS4.ld 2 rfl, hS4.ld 0 rfl, (hS4.sl ho.2.2.1).len, g0, g1, g2]
  refine iA (fun g4 => ?_) (fun g4 => ?_)
  ·simp (disch := omega) only [↓RA, RZ, simprocAttr, hn, kA, g0, g1, g2, g4]
   refine hS4.aa 3 rfl [(.slice none 0 0), (.int .u64 0), (.int .u64 0)] rfl rfl iK (by simp) fun H13 hS13 => ?_
   simp only [RT] at hS13
   simp (disch := omega) only [↓RA, RZ, simprocAttr, hn, pG, hS13.ab 3 rfl, g0, g1, g2, g4]
   simp at g4
   exact .err (by rw [nM, if_neg (by omega), if_pos (by omega)]) (by decide) hS13
  simp (disch := omega) only [↓RA, RZ, simprocAttr, hn, hS4.ab 0 rfl, hS4.ab 1 rfl, g0, g1, g2, g4]
  simp at g4
  refine gP ((lW o (ho.ae hS4) rg sv (hr.ae hS4) h0).tr) ?_
  rintro r H14 ⟨-, hT2⟩
  have hS14 := hS4.trans hT2
  simp only [RT] at hS14
  obtain ⟨dw, rfl⟩ : ∃ w, w = r := ⟨r, rfl⟩
  simp (disch := omega) only [↓RA, RZ, simprocAttr, hn, (hS14.aw 4 rfl (fun _ => rfl)).len, g0, g1, g2, g4]
  refine Wp.al (fun n l H' => l.length = 144 ∧ get l 4 = (ptr A2 0 3) ∧ get l 5 = (ptr A3 0 3) ∧ get l 6 = (ptr A4 0 3) ∧ get l 92 = dw ∧ get l 93 = I (gO rg).length ∧ ∃ (j : Nat), (n + j = (gO rg).length) ∧ get l 94 = I j ∧ St prog H H' [⟨ptr A1 0 4, 0, [(.string o.name), o.rv, o.dv, o.cv]⟩, ⟨ptr A2 0 3, 0, [sv, (.int .u64 rg.cpl), (.int .u64 rg.off)]⟩, ⟨ptr A3 0 3, 0, [I 3, I cd, I ci]⟩, ⟨ptr A4 0 3, 0, [(.slice none 0 0), (.int .u64 0), (.int .u64 0)]⟩, ⟨dw, 3, jY (gO rg)⟩]) (gO rg).length ?_ ?_
  ·simp (disch := omega) only [RB, RC, simprocAttr, hn]
   exact ⟨0, by omega, rfl, hS14⟩
  rintro n l H15 ⟨hn, g4, g5, g6, g92, g93, j, hj, g94, hS15⟩
  simp (disch := omega) only [↓RA, RB, simprocAttr, hn, g93, g94]
  refine gJ (fun q1 => ?_) (fun q1 => ?_)
  ·have hne : gK (gO rg) j ≠ ⟨3, cd, ci⟩ := fun e => hc (e ▸ gN (by omega))
   have hne2 : ¬ ((gK (gO rg) j).kind = 3 ∧ (gK (gO rg) j).dv = cd ∧ (gK (gO rg) j).ix = ci) := fun e => hne ((Ctl.eq ⟨3, cd, ci⟩ _).1 ⟨e.1.symm, e.2.1.symm, e.2.2.symm⟩)
   simp (disch := omega) only [↓RA, RZ, simprocAttr, hn, g92, g94, (hS15.aw 4 rfl (fun _ => rfl)).idx, (hS15.aw 4 rfl (fun _ => rfl)).ab, Ctl.cells, q1]
   refine hS15.eNew 3 [I 0, I 0, I 0] rfl rfl rfl kE fun A6 H16 hS16 => ?_
   simp only [RT] at hS16
   simp (disch := omega) only [↓RA, RZ, simprocAttr, hn, q1]
   refine hS16.aa 5 rfl [I (gK (gO rg) j).kind, I (gK (gO rg) j).dv, I (gK (gO rg) j).ix] rfl rfl kE (by simp) fun H17 hS17 => ?_
   simp only [RT] at hS17
   simp (disch := omega) only [↓RA, RZ, simprocAttr, hn, g4, g5, g6, g92, g93, g94, hS17.ab 5 rfl, hS17.ab 2 rfl, q1, hne2]
   exact ⟨n - 1, by omega, j + 1, by omega, by simp, hS17.pick [0, 1, 2, 3, 4] (by decide) rfl⟩
  simp (disch := omega) only [↓RA, RZ, simprocAttr, hn, g6, kA, q1]
  refine hS15.aa 3 rfl [(.slice none 0 0), (.int .u64 0), (.int .u64 0)] rfl rfl iK (by simp) fun H18 hS18 => ?_
  simp only [RT] at hS18
  simp (disch := omega) only [↓RA, RZ, simprocAttr, hn, g6, pG, hS18.ab 3 rfl, q1]
  exact .err (by rw [nM, if_neg (by omega), if_neg (by omega), if_neg hc]) (by decide) hS18
 simp (disch := omega) only [↓RA, RZ, simprocAttr, hn, hS4.ld 2 rfl, kA, g0, g1, g2]
 refine hS4.aa 3 rfl [(.slice none 0 0), (.int .u64 0), (.int .u64 0)] rfl rfl iK (by simp) fun H19 hS19 => ?_
 simp only [RT] at hS19
 simp (disch := omega) only [↓RA, RZ, simprocAttr, hn, pG, hS19.ab 3 rfl, g0, g1, g2]
 exact .err (by rw [nM, if_neg (by omega), if_pos (by omega)]) (by decide) hS19
theorem b2b (o : Org) (ho : o.In H) (rg : Reg) (sv : Value) (hr : rg.In H sv) (ck cd ci : Int) (hk : ck < 1 ∨ 3 < ck) :
 Fn prog 42 [.agg #[.string o.name, o.rv, o.dv, o.cv], .agg #[sv, .int .u64 rg.cpl, .int .u64 rg.off], .agg #[I ck, I cd, I ci]] H fun r H' => WthR o rg ⟨ck, cd, ci⟩ H r H' := by
 have hE : rF o rg ⟨ck, cd, ci⟩ = 12 := by
  unfold rF
  rw [if_pos (by simp only; omega)]
 refine .bf func42 rfl (by kernel_rfl) (m := 144) rfl fun l hn g0 g1 g2 => ?_
 simp (disch := omega) only [↓RA, RB, simprocAttr, g0]
 refine (sR H).eNew 4 [(.string o.name), o.rv, o.dv, o.cv] rfl rfl (by simp [OC, ((sR H).sl ho.1).cells.2.1, ((sR H).sl ho.2.2.1).cells.2.1, ((sR H).sl ho.2.2.2.2.1).cells.2.1]) lD fun A1 H1 hS1 => ?_
 simp only [RT] at hS1
 simp (disch := omega) only [↓RA, RB, simprocAttr, g1]
 refine hS1.eNew 3 [sv, (.int .u64 rg.cpl), (.int .u64 rg.off)] rfl rfl (by simp [OC, (hS1.sl hr.1).cells.2.1]) iK fun A2 H2 hS2 => ?_
 simp only [RT] at hS2
 simp (disch := omega) only [↓RA, RB, simprocAttr, g2]
 refine hS2.eNew 3 [I ck, I cd, I ci] rfl rfl rfl kE fun A3 H3 hS3 => ?_
 simp only [RT] at hS3
 simp (disch := omega) only [↓RA, RZ, simprocAttr]
 refine hS3.eNew 3 [(.slice none 0 0), (.int .u64 0), (.int .u64 0)] rfl rfl rfl iK fun A4 H4 hS4 => ?_
 simp only [RT] at hS4
 simp (disch := omega) only [↓RA, RZ, simprocAttr, hn, hS4.ld 2 rfl]
 refine gS (fun g1 => ?_) (fun g1 => ?_)
 ·simp (disch := omega) only [↓RA, RZ, simprocAttr, hn, kA, g1]
  refine hS4.aa 3 rfl [(.slice none 0 0), (.int .u64 0), (.int .u64 0)] rfl rfl iK (by simp) fun H5 hS5 => ?_
  simp only [RT] at hS5
  simp (disch := omega) only [↓RA, RZ, simprocAttr, hn, pG, hS5.ab 3 rfl, g1]
  exact .err hE (by decide) hS5
 simp (disch := omega) only [↓RA, RZ, simprocAttr, hn, hS4.ld 2 rfl, g1]
 refine gJ (fun g2 => ?_) (fun g2 => ?_)
 rotate_left
 ·exfalso; first | omega | (simp at g2; omega)
 simp (disch := omega) only [↓RA, RZ, simprocAttr, hn, kA, g1, g2]
 refine hS4.aa 3 rfl [(.slice none 0 0), (.int .u64 0), (.int .u64 0)] rfl rfl iK (by simp) fun H6 hS6 => ?_
 simp only [RT] at hS6
 simp (disch := omega) only [↓RA, RZ, simprocAttr, hn, pG, hS6.ab 3 rfl, g1, g2]
 exact .err hE (by decide) hS6
theorem b2c (o : Org) (ho : o.In H) (rg : Reg) (sv : Value) (hr : rg.In H sv) (h0 : jX o rg = 0) (c : Ctl) :
 Fn prog 42 [.agg #[.string o.name, o.rv, o.dv, o.cv], .agg #[sv, .int .u64 rg.cpl, .int .u64 rg.off], .agg #[I c.kind, I c.dv, I c.ix]] H fun r H' => WthR o rg c H r H' := by
 by_cases hc : c ∈ gO rg
 ·have hE : rF o rg c = 0 := by
   have hl := (iY h0).2
   rcases vV h0 hc with ⟨d, i, rfl, hd, hi⟩ | ⟨i, rfl, hi⟩ | ⟨i, rfl, hi⟩
   ·rw [show nD d i = ⟨1, (d : Int), (i : Int)⟩ from rfl, oY, if_neg (by omega)]
    exact if_pos hc
   ·rw [show mO i = ⟨2, 0, (i : Int)⟩ from rfl, pN, if_neg (by omega), if_neg (by omega)]
    exact if_pos hc
   ·rw [show pT i = ⟨3, (i : Int), 0⟩ from rfl, nM, if_neg (by omega), if_neg (by omega)]
    exact if_pos hc
  refine (a3q o ho rg sv hr h0 c hc).mono fun r H' h => ?_
  unfold WthR
  rw [tY hE, hE]
  exact h
 ·obtain ⟨ck, cd, ci⟩ := c
  by_cases j1 : ck = 1
  ·subst j1
   exact b2Z o ho rg sv hr h0 cd ci hc
  by_cases j2 : ck = 2
  ·subst j2
   exact b4v o ho rg sv hr h0 cd ci hc
  by_cases j3 : ck = 3
  ·subst j3
   exact b3E o ho rg sv hr h0 cd ci hc
  exact b2b o ho rg sv hr ck cd ci (by omega)
theorem b5r {o : Org} {rg : Reg} (h : rg.Ok) (c : Ctl) : (a0e o rg c).Ok := by
 unfold a0e
 split
 ·exact tI h c
 ·exact ⟨by decide, fun x hx => absurd hx eK, by decide, by decide⟩
theorem b2D (hG : Glob gH H) (hkn : b7u) (p : Pln) (hp : p.In H) (hk : p.Ok) (b : Nat → Nat) (hb : ∀ i, b i < 256) (c : Ctl) :
 Fn prog 10 [.agg #[p.rv, p.dv, p.cv], .agg #[.int .u8 (b 0), .int .u8 (b 1), .int .u8 (b 2), .int .u8 (b 3), .int .u8 (b 4)], .agg #[I c.kind, I c.dv, I c.ix]] H fun r H' => r = .bool true ∧ St prog H H' [] := by
 refine .bf func10 rfl (by kernel_rfl) (m := 67) rfl fun l hn g0 g1 g2 => ?_
 simp (disch := omega) only [↓RA, RB, simprocAttr, g0]
 refine (sR H).eNew 3 [p.rv, p.dv, p.cv] rfl rfl (by simp [((sR H).sl hp.1).cells.2.1, ((sR H).sl hp.2.1).cells.2.1, ((sR H).sl hp.2.2.2.1).cells.2.1]) b7l fun A1 H1 hS1 => ?_
 simp only [RT] at hS1
 simp (disch := omega) only [↓RA, RB, simprocAttr, g1]
 refine hS1.eNew 5 [(.int .u8 (b 0)), (.int .u8 (b 1)), (.int .u8 (b 2)), (.int .u8 (b 3)), (.int .u8 (b 4))] rfl rfl rfl b9z fun A2 H2 hS2 => ?_
 simp only [RT] at hS2
 simp (disch := omega) only [↓RA, RB, simprocAttr, g2]
 refine hS2.eNew 3 [I c.kind, I c.dv, I c.ix] rfl rfl rfl kE fun A3 H3 hS3 => ?_
 simp only [RT] at hS3
 simp (disch := omega) only [↓RA, RZ, simprocAttr]
 refine hS3.cF (hkn _) fun H4 hS4 => ?_
 simp (disch := omega) only [↓RA, RZ, simprocAttr, hn, hS4.ab 0 rfl]
 refine hS4.cF (b6Q p (hp.ae hS4)) fun H5 hS5 => ?_
 simp (disch := omega) only [↓RA, RZ, simprocAttr, hn]
 refine iA (fun h1 => ?_) (fun h1 => ?_)
 ·simp (disch := omega) only [↓RA, RZ, simprocAttr]
  refine hS5.cF (hkn _) fun H6 hS6 => ?_
  simp (disch := omega) only [↓RA, RZ, simprocAttr, hn, c2S, h1]
  exact hS6.forget
 have hf : uL p = true := by simpa using h1
 simp (disch := omega) only [↓RA, RZ, simprocAttr, hn, hS5.ab 0 rfl, h1]
 refine gP (a9N (hS5.gl hG) p (hp.ae hS5) hk hf) ?_
 rintro r H7 ⟨o, rfl, ho, hm, hT4⟩
 have hS7 := hS5.trans hT4
 simp only [RT] at hS7
 have hS0 := hS7
 have hoe := hm.ok.organE
 have hrg := b1L b hoe
 have hf0 := Org.aT hoe
 simp (disch := omega) only [↓RA, RZ, simprocAttr]
 refine (sR H7).eNew 4 [(.string ⟨#[]⟩), (.slice none 0 0), (.slice none 0 0), (.slice none 0 0)] rfl rfl rfl lD fun A4 H8 hS8 => ?_
 simp only [RT] at hS8
 simp (disch := omega) only [↓RA, RB, simprocAttr, hn, h1]
 refine hS8.aa 0 rfl [(.string o.name), o.rv, o.dv, o.cv] rfl (by simp [OC, (hS8.sl ho.1).cells.2.1, (hS8.sl ho.2.2.1).cells.2.1, (hS8.sl ho.2.2.2.2.1).cells.2.1]) lD (by simp) fun H9 hS9 => ?_
 simp only [RT] at hS9
 simp (disch := omega) only [↓RA, RZ, simprocAttr, hn, hS9.ab 0 rfl, ((hS0.var 1 rfl).ae hS9.ae).ab, h1]
 obtain ⟨k1, k2, k3⟩ := hm.small hf
 have hok := b0l (o := o) hb k2
 have hsl : (qE o b).stops.length ≤ 60 := by
  unfold qE
  simp only [dr, List.length_range]
  omega
 have hD := a7i o (ho.ae hS9) k1 k2 k3 b hb
 generalize qE o b = rg at hrg hok hsl hD
 refine gP (hD) ?_
 rintro r H10 ⟨sv, rfl, hT5⟩
 have hS10 := hS9.trans hT5
 simp only [RT] at hS10
 simp (disch := omega) only [↓RA, RZ, simprocAttr]
 refine hS10.eNew 3 [(.slice none 0 0), (.int .u64 0), (.int .u64 0)] rfl rfl rfl iK fun A5 H11 hS11 => ?_
 simp only [RT] at hS11
 simp (disch := omega) only [↓RA, RB, simprocAttr, hn, h1]
 refine hS11.aa 2 rfl [sv, (.int .u64 rg.cpl), (.int .u64 rg.off)] rfl (by simp [OC, (hS11.rd 1 rfl).cells.2.1]) iK (by simp) fun H12 hS12 => ?_
 simp only [RT] at hS12
 simp (disch := omega) only [↓RA, RZ, simprocAttr, hn, hS12.ab 0 rfl, hS12.ab 2 rfl, h1]
 have hdn : rg.stops.length = o.dvs.length := (iY hrg).2
 have hd1 := hf0.dpos
 have hd2 := hf0.dlen
 have hdl := kN (rg := rg) (by omega)
 refine gP (b1I o (ho.ae hS12) rg sv ⟨hS12.aw 1 rfl (fun _ => rfl), hok⟩ hrg) ?_
 rintro r H13 ⟨av, rfl, hT6⟩
 have hS13 := hS12.trans hT6
 simp only [RT] at hS13
 simp (disch := omega) only [↓RA, RZ, simprocAttr, hn, hS13.ab 0 rfl, hS13.ab 2 rfl, ((hS0.var 2 rfl).ae hS13.ae).ab, h1]
 refine gP (b6u o (ho.ae hS13) rg sv ⟨hS13.aw 1 rfl (fun _ => rfl), hok⟩ hrg c) ?_
 rintro r H14 ⟨nv, rfl, hT7⟩
 have hS14 := hS13.trans hT7
 simp only [RT] at hS14
 simp (disch := omega) only [↓RA, RZ, simprocAttr, hn, h1]
 refine hS14.eNew 3 [(.slice none 0 0), (.int .u64 0), (.int .u64 0)] rfl rfl rfl iK fun A6 H15 hS15 => ?_
 simp only [RT] at hS15
 simp (disch := omega) only [↓RA, RB, simprocAttr, hn, h1]
 refine hS15.aa 5 rfl [nv, (.int .u64 (a0e o rg c).cpl), (.int .u64 (a0e o rg c).off)] rfl (by simp [OC, (hS15.rd 4 rfl).cells.2.1]) iK (by simp) fun H16 hS16 => ?_
 simp only [RT] at hS16
 simp (disch := omega) only [↓RA, RZ, simprocAttr, hn, hS16.ab 0 rfl, hS16.ab 2 rfl, ((hS0.var 2 rfl).ae hS16.ae).ab, h1]
 refine gP (b2c o (ho.ae hS16) rg sv ⟨hS16.aw 1 rfl (fun _ => rfl), hok⟩ hrg c) ?_
 rintro r H17 ⟨mv, rfl, hT8⟩
 have hS17 := hS16.trans hT8
 simp only [RT] at hS17
 simp (disch := omega) only [↓RA, RZ, simprocAttr, hn, h1]
 refine hS17.eNew 3 [(.slice none 0 0), (.int .u64 0), (.int .u64 0)] rfl rfl rfl iK fun A7 H18 hS18 => ?_
 simp only [RT] at hS18
 simp (disch := omega) only [↓RA, RB, simprocAttr, hn, h1]
 refine hS18.aa 7 rfl [mv, (.int .u64 (a0e o rg c).cpl), (.int .u64 (a0e o rg c).off)] rfl (by simp [OC, (hS18.rd 6 rfl).cells.2.1]) iK (by simp) fun H19 hS19 => ?_
 simp only [RT] at hS19
 simp (disch := omega) only [↓RA, RZ, simprocAttr, hn, hS19.ab 0 rfl, hS19.ab 2 rfl, h1]
 refine gP ((lW o (ho.ae hS19) rg sv ⟨hS19.aw 1 rfl (fun _ => rfl), hok⟩ hrg).tr) ?_
 rintro r H20 ⟨-, hT9⟩
 have hS20 := hS19.trans hT9
 simp only [RT] at hS20
 obtain ⟨dw, rfl⟩ : ∃ w, w = r := ⟨r, rfl⟩
 simp (disch := omega) only [↓RA, RZ, simprocAttr, hn, h1]
 refine hS20.cF (b2F av dw (gO rg) (gO rg) (hS20.aw 3 rfl (fun _ => rfl)) (hS20.aw 8 rfl (fun _ => rfl)) (by omega) (by omega)) fun H21 hS21 => ?_
 rw [decide_eq_true rfl]
 simp (disch := omega) only [↓RA, RZ, simprocAttr, hn, h1]
 simp (disch := omega) only [↓RA, RZ, simprocAttr, hn, hS21.ab 5 rfl, hS21.ab 7 rfl, h1]
 have hwo := b5r (o := o) hok c
 have hwl := hwo.1
 refine hS21.cF (b1D (a0e o rg c) nv mv ⟨hS21.aw 4 rfl (fun _ => rfl), hwo⟩ ⟨hS21.aw 6 rfl (fun _ => rfl), hwo⟩ hwl) fun H22 hS22 => ?_
 simp (disch := omega) only [↓RA, RZ, simprocAttr, hn, c2S, h1]
 exact hS0.forget.trans hS22.forget
end Go.Ds
