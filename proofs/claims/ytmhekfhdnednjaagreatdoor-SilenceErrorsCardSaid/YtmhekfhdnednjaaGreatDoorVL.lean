/-
  A part of the proof of SilenceErrors.
-/
import Derived.Test.YtmhekfhdnednjaaGreatDoorVJ
import Derived.Test.YtmhekfhdnednjaaGreatDoorVE
import Derived.Test.YtmhekfhdnednjaaGreatDoorVD
import Derived.Test.YtmhekfhdnednjaaGreatDoorVB
import Derived.Test.YtmhekfhdnednjaaGreatDoorVC
set_option linter.unusedVariables false
set_option linter.unusedSimpArgs false
set_option linter.defProp false
set_option linter.unusedSectionVars false
namespace Go.Ds
open Go.Proofs Go.ChangeShapes Go.WideShapes Go.RowKit Go.Deep
set_option maxRecDepth 10000
section
variable {H0 : Type} {enc : TypeId × Value → H0} {w : World} {base n : Nat} {spare : Nat → Bool} {kV : Bool} {x : DataW H0 × List MemPlace}
end
section
variable {H0 : Type} {enc : TypeId × Value → H0} {w : World} {base : Nat} {kV : Bool}
end
end Go.Ds
namespace Go.Ds
open Go.Proofs Go.Proofs.Tryz
variable {H : Heap}
set_option maxRecDepth 10000
set_option maxHeartbeats 1000000
def mkN (P : Program) (t : TypeId) : Option (Nat × Nat × List Value) :=
 (iF P t).bind fun elem => (iC P elem).bind fun size => (nI P elem).bind fun bytes => (iU P elem).bind fun z => if size != 0 && size != 1 && z.cells.size == size && jA z then some (bytes, size, z.cells.toList) else none
theorem b3R {β : Type} (cel : β → List Value) (x : β) (z : Array Value) (hz : cel x = z.toList) (h0 : 0 < z.size) : ∀ a, (madeCells z (a * z.size)).toList = (List.replicate a x).flatMap cel := by
 have key : ∀ a, (List.range (a * z.size)).map (fun i => z[i % z.size]!) = (List.replicate a x).flatMap cel := by
  intro a
  induction a with
  | zero => simp
  | succ a ih =>
    rw [gy, Nat.add_comm, List.range_add, dx, List.map_map, List.replicate_succ, dJ, ← ih, hz]
    congr 1
    ·refine List.ext_getElem (by simp) fun i h1 h2 => ?_
     simp only [List.getElem_map, List.getElem_range]
     rw [fX (by simpa using h1)]
     simp at h1
     simp [h1]
    ·refine List.map_congr_left fun i _ => ?_
     simp
 intro a
 rw [← key a]
 simp [madeCells]
theorem St.cm {P : Program} {H0 : Base} {H : Heap} {os : List Ob} {β : Type} {cel : β → List Value} {x : β} (hS : St P H0 H os) {t : TypeId} {bytes sz : Nat} {zs : List Value} {K : Value → Heap → Prop} (a : Nat) (ha : mkN P t = some (bytes, sz, zs)) (hz : cel x = zs) (hroom : a * (bytes + 1) ≤ 17592186044416)
 (h : ∀ v H1, St P H0 H1 (os ++ [⟨v, sz, (List.replicate a x).flatMap cel⟩]) → K v H1) : qJ P H t (.int .i64 a) (.int .i64 a) K := by
 unfold mkN at ha
 cases he : iF P t with
 | none => rw [he] at ha; cases ha
 | some elem =>
 rw [he] at ha
 simp only [cY] at ha
 cases hsz2 : iC P elem with
 | none => rw [hsz2] at ha; cases ha
 | some sz =>
 rw [hsz2] at ha
 simp only [cY] at ha
 cases hby : nI P elem with
 | none => rw [hby] at ha; cases ha
 | some by' =>
 rw [hby] at ha
 simp only [cY] at ha
 cases hz2 : iU P elem with
 | none => rw [hz2] at ha; cases ha
 | some z' =>
 rw [hz2] at ha
 simp only [cY] at ha
 split at ha
 case isFalse => cases ha
 rename_i hzs
 simp only [da, beq_iff_eq, bne_iff_ne, ne_eq] at hzs
 obtain ⟨⟨⟨hs0, hs1⟩, hz1⟩, hfl⟩ := hzs
 simp only [dA, gI] at ha
 obtain ⟨rfl, rfl, rfl⟩ := ha
 have hm := b3R cel x z'.cells hz (by omega) a
 rw [hz1] at hm
 have hln : ((List.replicate a x).flatMap cel).length = a * sz := by
  rw [← hm]
  simp [madeCells]
 refine ⟨.slice (some ⟨H.length, 0, some ((List.replicate a x).flatMap cel).length⟩) a sz, H.cons (.cells ((List.replicate a x).flatMap cel) elem true ((List.replicate a x).flatMap cel).length 0), ?_, h _ _ (hS.add ?_ ?_ ?_ ?_)⟩
 ·unfold wG
  simp only [he, hsz2, hby, hz2, cY]
  rw [if_pos]
  ·rw [if_neg hs1]
   simp only [gm, hm]
   rw [lH]
  ·have : (a : Int) * (by' + 1) ≤ (oO : Int) := by
    have h3 : ((a * (by' + 1) : Nat) : Int) ≤ ((17592186044416 : Nat) : Int) := Int.ofNat_le.2 hroom
    simpa [oO] using h3
   simp [hfl, hz1, this, hs0]
 ·unfold OwnAt
  rw [if_neg hs0]
  exact .inr ⟨_, 0, elem, _, 0, [], a, iN H _, by simp, rfl, hln, by simp, hsz2⟩
 ·simp [pA]
 ·exact fun B hB => jN _ hB
 ·intro B hB
  simp [kE] at hB
  omega
abbrev Nt := Nat × Nat
def ntc (x : Nt) : List Value := [.int .u64 x.1, .int .u64 x.2]
def Nt.Ok (x : Nt) : Prop := x.1 < 18446744073709551616 ∧ x.2 < 18446744073709551616
theorem c2s : mkN prog 33 = some (16, 2, ntc (0, 0)) := by kernel_rfl
def oK (x : Nt) (n : Int) : Nt := if n < 64 then (x.1 ||| 2 ^ n.toNat, x.2) else (x.1, x.2 ||| 2 ^ (n - 64).toNat)
theorem a8Z (i : Nat) (h : i < 64) : 2 ^ i < 18446744073709551616 := by
 have : 2 ^ i ≤ 2 ^ 63 := fS (by decide) (by omega)
 have e : 2 ^ 63 = 9223372036854775808 := rfl
 omega
theorem a6l {a b : Nat} (ha : a < 18446744073709551616) (hb : b < 18446744073709551616) : a ||| b < 18446744073709551616 := Nat.or_lt_two_pow (n := 64) ha hb
theorem orB (a b : Nat) (ha : a < 18446744073709551616) (hb : b < 18446744073709551616) : IntKind.wrap .u64 ((BitVec.ofInt (IntKind.bits .u64) (a : Int) ||| BitVec.ofInt (IntKind.bits .u64) (b : Int)).toNat : Int) = ((a ||| b : Nat) : Int) := by
 have e : (BitVec.ofInt (IntKind.bits .u64) (a : Int) ||| BitVec.ofInt (IntKind.bits .u64) (b : Int)).toNat = a ||| b := by
  rw [BitVec.toNat_or, b3i a ha, b3i b hb]
 rw [e]
 have := a6l ha hb
 exact rP _ (by omega) (by omega)
theorem orN (n i : Nat) (hn : n < 18446744073709551616) (hi : i < 64) : IntKind.wrap .u64 ((BitVec.ofInt (IntKind.bits .u64) (n : Int) ||| BitVec.ofInt (IntKind.bits .u64) (IntKind.wrap .u64 (1 * 2 ^ min i (IntKind.bits .u64)))).toNat : Int) = ((n ||| 2 ^ i : Nat) : Int) := by
 rw [b8X i hi]
 exact orB n (2 ^ i) hn (a8Z i hi)
theorem b0E {x : Nt} (hx : Nt.Ok x) {z : Int} (h0 : 0 ≤ z) (h1 : z < 128) : Nt.Ok (oK x z) := by
 unfold oK
 split
 ·exact ⟨a6l hx.1 (a8Z _ (by omega)), hx.2⟩
 ·exact ⟨hx.1, a6l hx.2 (a8Z _ (by omega))⟩
theorem a1K (x : Nt) (hx : Nt.Ok x) (z : Int) (h0 : 0 ≤ z) (h1 : z < 128) : Fn prog 95 [.agg #[.int .u64 x.1, .int .u64 x.2], I z] H fun r H' => r = .agg #[.int .u64 (oK x z).1, .int .u64 (oK x z).2] ∧ St prog H H' [] := by
 obtain ⟨m, rfl⟩ := fY h0
 refine .aC func95 rfl (by kernel_rfl) (m := 21) rfl fun l hn g0 g1 => ?_
 simp (disch := omega) only [↓RA, RB, simprocAttr, g0]
 refine (sR H).eNew 2 [(.int .u64 x.1), (.int .u64 x.2)] rfl rfl rfl mG fun A1 H1 hS1 => ?_
 simp only [RT] at hS1
 simp (disch := omega) only [↓RA, RZ, simprocAttr]
 refine hS1.eNew 2 [(.int .u64 0), (.int .u64 0)] rfl rfl rfl mG fun A2 H2 hS2 => ?_
 simp only [RT] at hS2
 simp (disch := omega) only [↓RA, RB, simprocAttr, hn, g1]
 refine gZ (fun q1 => ?_) (fun q1 => ?_)
 ·have e1 := orN x.1 m hx.1 (by omega)
  have e2 : oK x (m : Int) = (x.1 ||| 2 ^ m, x.2) := by unfold oK; rw [if_pos q1]; rfl
  simp (disch := omega) only [↓RA, RC, simprocAttr, q1]
  refine Wp.drw kC (by kernel_rfl) ?_
  simp (disch := omega) only [↓RA, RZ, simprocAttr, hn, g1, hS2.ld 0 rfl, e1]
  refine hS2.aa 0 rfl [(.int .u64 (x.1 ||| 2 ^ m : Nat))] rfl rfl a4Y (by simp) fun H3 hS3 => ?_
  simp only [RT] at hS3
  simp (disch := omega) only [↓RA, RZ, simprocAttr, hn, hS3.ae 0 rfl]
  refine hS3.aa 1 rfl [(.int .u64 (x.1 ||| 2 ^ m : Nat)), (.int .u64 x.2)] rfl rfl mG (by simp) fun H4 hS4 => ?_
  simp only [RT] at hS4
  simp (disch := omega) only [↓RA, RZ, simprocAttr, hn, c2G, hS4.ae 1 rfl]
  rw [e2]
  exact ⟨rfl, hS4.forget⟩
 have e1 := orN x.2 (m - 64) hx.2 (by omega)
 have e3 : (m : Int) - 64 = ((m - 64 : Nat) : Int) := by omega
 have e2 : oK x (m : Int) = (x.1, x.2 ||| 2 ^ (m - 64)) := by unfold oK; rw [if_neg q1, e3]; rfl
 simp (disch := omega) only [↓RA, RC, simprocAttr, q1]
 refine Wp.drw kC (by kernel_rfl) ?_
 simp (disch := omega) only [↓RA, RZ, simprocAttr, hn, g1, hS2.ld 0 rfl, e1, e3]
 refine hS2.aa 0 rfl [(.int .u64 (x.2 ||| 2 ^ (m - 64) : Nat))] rfl rfl a4Y (by simp) fun H5 hS5 => ?_
 simp only [RT] at hS5
 simp (disch := omega) only [↓RA, RZ, simprocAttr, hn, hS5.ae 0 rfl]
 refine hS5.aa 1 rfl [(.int .u64 x.1), (.int .u64 (x.2 ||| 2 ^ (m - 64) : Nat))] rfl rfl mG (by simp) fun H6 hS6 => ?_
 simp only [RT] at hS6
 simp (disch := omega) only [↓RA, RZ, simprocAttr, hn, c2G, hS6.ae 1 rfl]
 rw [e2]
 exact ⟨rfl, hS6.forget⟩
def jF (xs : List Int) : Nt := xs.foldl oK (0, 0)
def isN (z : Int) : Prop := 0 ≤ z ∧ z < 128
theorem qD : ∀ (xs : List Int) (x : Nt), (∀ z ∈ xs, isN z) → Nt.Ok x → Nt.Ok (xs.foldl oK x)
 | [], _, _, h => h
 | z :: xs, x, hz, h => by
   rw [fg]
   exact qD xs _ (fun y hy => hz y (eK _ hy)) (b0E h (hz z (ew ..)).1 (hz z (ew ..)).2)
theorem a0s (xs : List Int) {j : Nat} (hj : j < xs.length) : jF (xs.take (j + 1)) = oK (jF (xs.take j)) (iA xs j) := by
 unfold jF
 rw [List.take_add_one, du hj, Option.toList_some, gr, ← jZ _ j hj]
 rfl
theorem a3w (z : Int) (h : isN z) : Fn prog 94 [I z] H fun r H' => r = .bool true ∧ St prog H H' [] := by
 have h0 := h.1
 have h1 := h.2
 refine .aY func94 rfl (by kernel_rfl) (m := 9) rfl fun l hn g0 => ?_
 simp (disch := omega) only [↓RA, RZ, simprocAttr, hn, g0]
 refine jV (fun q1 => ?_) (fun q1 => ?_)
 rotate_left
 ·exfalso; first | omega | (simp at q1; omega)
 simp (disch := omega) only [↓RA, RZ, simprocAttr, hn, g0, c4N, q1]
 simpa using ⟨(by omega : z ≤ 127), (sR H)⟩
theorem a9n (xs : List Int) (hz : ∀ z ∈ xs, isN z) (v : Value) (hv : Sl 1 (one I) H v xs) (hl : xs.length < 1000000000) :
 Fn prog 45 [v] H fun r H' => r = .tuple #[.agg #[.int .u64 (jF xs).1, .int .u64 (jF xs).2], I 0] ∧ St prog H H' [] := by
 refine .aY func45 rfl (by kernel_rfl) (m := 22) rfl fun l hn g0 => ?_
 simp (disch := omega) only [↓RA, RZ, simprocAttr]
 refine (sR H).eNew 2 [(.int .u64 0), (.int .u64 0)] rfl rfl rfl mG fun A1 H1 hS1 => ?_
 simp only [RT] at hS1
 simp (disch := omega) only [↓RA, RZ, simprocAttr]
 refine hS1.eNew 2 [(.int .u64 0), (.int .u64 0)] rfl rfl rfl mG fun A2 H2 hS2 => ?_
 simp only [RT] at hS2
 simp (disch := omega) only [↓RA, RZ, simprocAttr, hn, g0, (hS2.sl hv).len]
 refine Wp.al (fun n l H' => l.length = 22 ∧ get l 2 = (ptr A1 0 2) ∧ get l 4 = (ptr A2 0 2) ∧ get l 7 = v ∧ get l 8 = I xs.length ∧ ∃ (j : Nat), (n + j = xs.length) ∧ get l 9 = I j ∧ St prog H H' [⟨ptr A1 0 2, 0, [(.int .u64 0), (.int .u64 0)]⟩, ⟨ptr A2 0 2, 0, [.int .u64 (jF (xs.take j)).1, .int .u64 (jF (xs.take j)).2]⟩]) xs.length ?_ ?_
 ·simp (disch := omega) only [RB, RC, simprocAttr, hn]
  exact ⟨0, by omega, rfl, hS2⟩
 rintro n l H3 ⟨hn, g2, g4, g7, g8, j, hj, g9, hS3⟩
 simp (disch := omega) only [↓RA, RB, simprocAttr, hn, g8, g9]
 refine gZ (fun q1 => ?_) (fun q1 => ?_)
 ·have hx := hz _ (iD (xs := xs) (j := j) (by omega))
  have hok : Nt.Ok (jF (xs.take j)) := qD _ _ (fun z h => hz z (List.mem_of_mem_take h)) ⟨by decide, by decide⟩
  simp (disch := omega) only [↓RA, RZ, simprocAttr, hn, g7, g9, (hS3.sl hv).idx, (hS3.sl hv).ld, one, q1]
  refine hS3.cF (a3w (iA xs j) hx) fun H4 hS4 => ?_
  simp (disch := omega) only [↓RA, RZ, simprocAttr, hn, g4, hS4.ae 1 rfl, q1]
  refine hS4.cF (a1K (jF (xs.take j)) hok (iA xs j) hx.1 hx.2) fun H5 hS5 => ?_
  simp (disch := omega) only [↓RA, RZ, simprocAttr, hn, g4, q1]
  refine hS5.aa 1 rfl [(.int .u64 (oK (jF (xs.take j)) (iA xs j)).1), (.int .u64 (oK (jF (xs.take j)) (iA xs j)).2)] rfl rfl mG (by simp) fun H6 hS6 => ?_
  simp only [RT] at hS6
  simp (disch := omega) only [↓RA, RZ, simprocAttr, hn, g2, g4, g7, g8, g9, q1]
  refine ⟨n - 1, by omega, j + 1, by omega, by simp, ?_⟩
  rw [a0s xs (by omega)]
  exact hS6.pick [0, 1] (by decide) rfl
 have hjj : j = xs.length := by omega
 simp (disch := omega) only [↓RA, RZ, simprocAttr, hn, g2, g4, hS3.ae 1 rfl, q1]
 refine hS3.aa 0 rfl [(.int .u64 (jF (xs.take j)).1), (.int .u64 (jF (xs.take j)).2)] rfl rfl mG (by simp) fun H7 hS7 => ?_
 simp only [RT] at hS7
 simp (disch := omega) only [↓RA, RZ, simprocAttr, hn, g2, c4D, hS7.ae 0 rfl, q1]
 rw [hjj, ef]
 exact ⟨rfl, hS7.forget⟩
def unF (x y : Nt) : Nt := (x.1 ||| y.1, x.2 ||| y.2)
theorem c1y {x y : Nt} (hx : Nt.Ok x) (hy : Nt.Ok y) : Nt.Ok (unF x y) := ⟨a6l hx.1 hy.1, a6l hx.2 hy.2⟩
theorem b2I (x y : Nt) (hx : Nt.Ok x) (hy : Nt.Ok y) : Fn prog 87 [.agg #[.int .u64 x.1, .int .u64 x.2], .agg #[.int .u64 y.1, .int .u64 y.2]] H fun r H' => r = .agg #[.int .u64 (unF x y).1, .int .u64 (unF x y).2] ∧ St prog H H' [] := by
 have e1 := orB x.1 y.1 hx.1 hy.1
 have e2 := orB x.2 y.2 hx.2 hy.2
 refine .aC func87 rfl (by kernel_rfl) (m := 16) rfl fun l hn g0 g1 => ?_
 simp (disch := omega) only [↓RA, RB, simprocAttr, g0]
 refine (sR H).eNew 2 [(.int .u64 x.1), (.int .u64 x.2)] rfl rfl rfl mG fun A1 H1 hS1 => ?_
 simp only [RT] at hS1
 simp (disch := omega) only [↓RA, RB, simprocAttr, g1]
 refine hS1.eNew 2 [(.int .u64 y.1), (.int .u64 y.2)] rfl rfl rfl mG fun A2 H2 hS2 => ?_
 simp only [RT] at hS2
 simp (disch := omega) only [↓RA, RZ, simprocAttr]
 refine hS2.eNew 2 [(.int .u64 0), (.int .u64 0)] rfl rfl rfl mG fun A3 H3 hS3 => ?_
 simp only [RT] at hS3
 simp (disch := omega) only [↓RA, RZ, simprocAttr, hn, hS3.ld 0 rfl, hS3.ld 1 rfl, e1, e2]
 simp (disch := omega) only [↓RA, RB, simprocAttr, hn, a6U]
 refine hS3.aa 2 rfl [(.int .u64 (x.1 ||| y.1 : Nat)), (.int .u64 (x.2 ||| y.2 : Nat))] rfl rfl mG (by simp) fun H4 hS4 => ?_
 simp only [RT] at hS4
 simp (disch := omega) only [↓RA, RZ, simprocAttr, hn, c5D, hS4.ae 2 rfl]
 exact ⟨rfl, hS4.forget⟩
theorem St.perm {P : Program} {H0 : Base} {os os' : List Ob} (h : St P H0 H os) (hp : os.Perm os') : St P H0 H os' where
 len := h.len
 old := h.old
 own o ho := h.own o (hp.mem_iff.2 ho)
 new o ho := h.new o (hp.mem_iff.2 ho)
 sep := (List.Perm.pairwise_iff (fun {_ _} hxy B hB hB2 => hxy B hB2 hB) hp).1 h.sep
theorem Lp.swap {P : Program} {B : Base} {L : Nat} {r : Loop} {xs ys zs : List Ob} (h : Lp P B L r H ((xs ++ ys) ++ zs)) : Lp P B L r H ((xs ++ zs) ++ ys) := by
 have hp : ((xs ++ ys) ++ zs).Perm ((xs ++ zs) ++ ys) := by
  rw [dy, dy]
  exact (List.perm_append_comm).append_left xs
 exact ⟨h.st.perm hp, h.get, h.lo, fun o ho => h.ne o (hp.mem_iff.2 ho)⟩
def a2N (o : Org) (rg : Reg) (acc : List Nt) (c : Ct) : List Nt := if (nR o rg c).length = 0 then acc.set c.1.toNat (unF (iA acc c.1.toNat) (jF [c.2])) else acc
def pE (o : Org) (rg : Reg) (d : List Ct) : List Nt := d.foldl (a2N o rg) (List.replicate o.dvs.length (0, 0))
theorem a5E (o : Org) (rg : Reg) (d : List Ct) (c : Ct) : pE o rg (d ++ [c]) = a2N o rg (pE o rg d) c := by
 unfold pE
 rw [gr]
 rfl
theorem a7F {o : Org} (hf : o.Fine) {c : Ct} (h : c ∈ mT o) : ∃ (i : Nat) (z : Int), c = ((i : Int), z) ∧ i < o.dvs.length ∧ isN z := by
 obtain ⟨i, hi, h⟩ := fm.1 h
 obtain ⟨k, hk, rfl⟩ := dF.1 h
 have hi := dI.1 hi
 have hk := dI.1 hk
 have := hf.keys i hi
 exact ⟨i, _, rfl, hi, by omega, by omega⟩
theorem b0j (o : Org) (rg : Reg) : ∀ (d : List Ct) (acc : List Nt), (d.foldl (a2N o rg) acc).length = acc.length
 | [], _ => rfl
 | c :: d, acc => by
   rw [fg, b0j o rg d]
   unfold a2N
   split
   ·rw [gf]
   ·rfl
theorem b5A (o : Org) (hf : o.Fine) (rg : Reg) : ∀ (d : List Ct) (acc : List Nt), (∀ c ∈ d, c ∈ mT o) → (∀ x ∈ acc, Nt.Ok x) → acc.length = o.dvs.length → ∀ x ∈ d.foldl (a2N o rg) acc, Nt.Ok x
 | [], _, _, h, _ => h
 | c :: d, acc, hd, h, hl => by
   rw [fg]
   obtain ⟨i, z, rfl, hi, hz⟩ := a7F hf (hd _ (ew ..))
   refine b5A o hf rg d _ (fun c hc => hd c (eK _ hc)) (fun x hx => ?_) ?_
   ·unfold a2N at hx
    split at hx
    ·rcases List.mem_or_eq_of_mem_set hx with hx | hx
     ·exact h x hx
     ·rw [hx]
      refine c1y (h _ (iD (by simp; omega))) (qD _ _ (fun y hy => ?_) ⟨by decide, by decide⟩)
      rw [dz.1 hy]
      exact hz
    ·exact h x hx
   ·unfold a2N
    split
    ·rw [gf]; exact hl
    ·exact hl
theorem b1c (o : Org) (ho : o.In H) (rg : Reg) (sv : Value) (hr : rg.In H sv) :
 Fn prog 40 [.agg #[.string o.name, o.rv, o.dv, o.cv], .agg #[sv, .int .u64 rg.cpl, .int .u64 rg.off]] H fun r H' => ∃ lv, r = .tuple #[lv, I (kO o rg)] ∧ St prog H H' [⟨lv, 2, (if kO o rg = 0 then pE o rg (mT o) else []).flatMap ntc⟩] := by
 refine .aC func40 rfl (by kernel_rfl) (m := 49) rfl fun l hn g0 g1 => ?_
 simp (disch := omega) only [↓RA, RB, simprocAttr, g0]
 refine (sR H).eNew 4 [(.string o.name), o.rv, o.dv, o.cv] rfl rfl (by simp [OC, ((sR H).sl ho.1).cells.2.1, ((sR H).sl ho.2.2.1).cells.2.1, ((sR H).sl ho.2.2.2.2.1).cells.2.1]) lV fun A1 H1 hS1 => ?_
 simp only [RT] at hS1
 simp (disch := omega) only [↓RA, RB, simprocAttr, g1]
 refine hS1.eNew 3 [sv, (.int .u64 rg.cpl), (.int .u64 rg.off)] rfl rfl (by simp [OC, (hS1.sl hr.1).cells.2.1]) lN fun A2 H2 hS2 => ?_
 simp only [RT] at hS2
 simp (disch := omega) only [↓RA, RZ, simprocAttr, hn, hS2.ae 0 rfl, hS2.ae 1 rfl]
 refine hS2.cF (lI o (ho.ab hS2) rg sv (hr.ab hS2)) fun H3 hS3 => ?_
 simp (disch := omega) only [↓RA, RB, simprocAttr, hn]
 refine gZ (fun h1 => ?_) (fun h1 => ?_)
 ·simp (disch := omega) only [↓RA, RZ, simprocAttr, hn, c1o, h1]
  exact ⟨.slice none 0 0, rfl, hS3.forget.nil 1⟩
 have h0 := dC.1 h1
 obtain ⟨hz3, hz4⟩ := qO h0
 have hf := Org.bD hz3
 have hd1 := hf.dpos
 have hd2 := hf.dlen
 simp (disch := omega) only [↓RA, RZ, simprocAttr, hn, hS3.ld 0 rfl, (hS3.sl ho.2.2.1).len, h1]
 refine hS3.cm (cel := ntc) (x := (0, 0)) o.dvs.length c2s rfl (by omega) fun w1 H4 hS4 => ?_
 simp only [RT] at hS4
 simp (disch := omega) only [↓RA, RZ, simprocAttr]
 refine hS4.eNew 1 [(.slice none 0 0)] rfl rfl rfl b8y fun A3 H5 hS5 => ?_
 simp only [RT] at hS5
 simp (disch := omega) only [↓RA, RZ, simprocAttr, hn, h1]
 refine hS5.aa 3 rfl [w1] (by rw [(hS5.rd 2 rfl).cells.1]) (by simp [(hS5.rd 2 rfl).cells.2.1]) b8y (by simp) fun H6 hS6 => ?_
 simp only [RT] at hS6
 simp (disch := omega) only [↓RA, RZ, simprocAttr, hn, hS6.ae 0 rfl, hS6.ae 1 rfl, h1]
 refine iJ (a2k o (ho.ab hS6) rg sv (hr.ab hS6)) ?_
 rintro r H7 ⟨AK, AL, rfl, hT2⟩
 have hS7 := hS6.trans hT2
 simp only [RT] at hS7
 simp (disch := omega) only [↓RA, RZ, simprocAttr, h1]
 refine Wp.bg fun lrg1 hlrg1 => ?_
 have hnrg1 : lrg1.length = 49 := by rw [hlrg1]; simp (disch := omega) only [RB, simprocAttr, hn]
 have g4rg1 : get lrg1 4 = (.slice none 0 0) := by rw [hlrg1]; simp (disch := omega) only [RB, simprocAttr, hn]
 have g5rg1 : get lrg1 5 = I 0 := by rw [hlrg1]; simp (disch := omega) only [RB, simprocAttr, hn]
 have g7rg1 : get lrg1 7 = (ptr A3 0 1) := by rw [hlrg1]; simp (disch := omega) only [RB, simprocAttr, hn]
 have gfrg1 : get lrg1 24 = .func (.func 136) #[] [(ptr AK 0 4), (ptr AL 0 3)].toArray := by rw [hlrg1]; simp (disch := omega) only [RB, simprocAttr, hn]
 clear hlrg1
 refine Wp.aZ gfrg1 fun rg1 hstrg1 hpdrg1 htmrg1 hpsrg1 hasrg1 hbdrg1 => ?_
 have hreqrg1 : ({ rg1 with state := .ready, pending := none } : Loop) = rg1 := by
  cases rg1
  simp only at hstrg1 hpdrg1
  subst hstrg1 hpdrg1
  rfl
 have hLprg1 := Lp.enter hS7 rg1
 generalize H7.cons (.loop rg1) = Hcrg1 at hLprg1 ⊢
 generalize H7.length = Lrg1 at hLprg1 ⊢
 refine (a9U o hf rg sv AK AL (.func (.yield Lrg1) #[] #[]) (fun d xs H1 =>
  Lp prog H Lrg1 rg1 H1 ([⟨ptr A1 0 4, 0, oC o⟩, ⟨ptr A2 0 3, 0, rC rg sv⟩, ⟨w1, 2, (pE o rg d).flatMap ntc⟩, ⟨ptr A3 0 1, 0, [w1]⟩, ⟨ptr AK 0 4, 0, oC o⟩, ⟨ptr AL 0 3, 0, rC rg sv⟩] ++ xs)) ?_ ?_ ?_ ?_ ?_).mono ?_
 ·rw [dp]
  exact hLprg1
 ·rintro d xs H1 h
  have hs := h.left.st
  exact ⟨hs.var 4 rfl, ho.ab hs, hs.var 5 rfl, hr.ab hs, fun x hx => h.st.own x (eF _ hx)⟩
 ·rintro d xs H1 H2 ys h hT
  have h3 := h.ext hT
  rwa [dy] at h3
 ·rintro d xs ys H1 h
  rw [← dy] at h
  exact h.left
 ·rintro d c e xs H1 H20 pv he hLp hT hx
  have hLpj := hLp.ext hT
  rw [dp] at hLpj
  have hdm : ∀ c ∈ d, c ∈ mT o := fun c hc => by rw [he]; exact List.mem_append_left _ hc
  have hal : (pE o rg d).length = o.dvs.length := by unfold pE; rw [b0j, fc]
  have hOk : ∀ x ∈ pE o rg d, Nt.Ok x := b5A o hf rg d _ hdm (fun x hx => by rw [List.eq_of_mem_replicate hx]; exact ⟨by decide, by decide⟩) (by simp)
  obtain ⟨i, z, rfl, hi, hz⟩ := a7F hf (c := c) (by rw [he]; simp)
  refine mO hLpj.get (by rw [hpsrg1]; rfl) hstrg1 ?_
  refine Wp.aE (l := put (put lrg1 (some 25) (.agg #[I i, I z])) (some 26) (pv)) hasrg1 (by rw [hpsrg1, htmrg1]; first | exact (kI ..).symm | rfl | simp [put, kI]) ?_
  simp (disch := omega) only [↓RA, RZ, simprocAttr]
  refine (sR H20).eNew 2 [I 0, I 0] rfl rfl rfl qQ fun A4 H8 hS8 => ?_
  simp only [RT] at hS8
  simp (disch := omega) only [↓RA, RB, simprocAttr, hnrg1]
  refine hS8.aa 0 rfl [I i, I z] rfl rfl qQ (by simp) fun H9 hS9 => ?_
  simp only [RT] at hS9
  simp (disch := omega) only [↓RA, RZ, simprocAttr, hnrg1]
  have hSy := hS9
  have hLl : Lrg1 < H1.length := jC hLp.get
  have hLpx := Lp.swap (hLpj.ext hS9)
  refine ⟨rg1, hLpx.get, hstrg1, ?_⟩
  have hYBs1 := hLpx.set (fun h => h) { rg1 with state := .busy }
  have hKBs1 : ∀ B, B ≠ Lrg1 → iL (hset H9 Lrg1 (.loop { rg1 with state := .busy })) B = iL H9 B := fun B h => iI _ (ey h)
  have hNBs1 : (hset H9 Lrg1 (.loop { rg1 with state := .busy })).length = H9.length := iY ..
  generalize hset H9 Lrg1 (.loop { rg1 with state := .busy }) = HBs1 at hYBs1 hKBs1 hNBs1 ⊢
  refine Wp.aE hbdrg1 rfl ?_
  have hZBs1 := hYBs1.left.st
  obtain ⟨Bs1, hBBs1, hS10⟩ := hZBs1.ay (os := [⟨ptr A1 0 4, 0, _⟩, ⟨ptr A2 0 3, 0, _⟩, ⟨w1, 2, _⟩, ⟨ptr A3 0 1, 0, _⟩, ⟨ptr AK 0 4, 0, _⟩, ⟨ptr AL 0 3, 0, _⟩, ⟨ptr A4 0 2, 0, _⟩])
  have hxB : Slx 2 kB HBs1 (fun B => H1.length ≤ B) pv (nR o rg ((i : Int), z)) := hx.step fun B hB hl => ⟨by rw [hKBs1 B (by omega), hSy.ab B hl], hB⟩
  simp (disch := omega) only [↓RA, RZ, simprocAttr, hnrg1, hxB.1.len]
  refine gZ (fun q1 => ?_) (fun q1 => ?_)
  ·have hq : (nR o rg ((i : Int), z)).length = 0 := by omega
   have hz1 : ∀ y ∈ [z], isN y := fun y hy => by rw [dz.1 hy]; exact hz
   have hnok : Nt.Ok (jF [z]) := qD _ _ hz1 ⟨by decide, by decide⟩
   have hiok := hOk _ (iD (xs := pE o rg d) (j := i) (by omega))
   simp (disch := omega) only [↓RA, RZ, simprocAttr, hnrg1, hS10.ld 6 rfl, q1]
   refine hS10.ai [I z] a5D a8o rfl rfl (by simp [Value.cells]) rfl rfl (by decide) (by decide) fun w2 H10 hS11 => ?_
   simp only [RT] at hS11
   simp (disch := omega) only [↓RA, RZ, simprocAttr, hnrg1, q1]
   refine hS11.cF (a9n [z] hz1 _ (hS11.ax 7 rfl (fun _ => rfl)) (by simp)) fun H11 hS12 => ?_
   simp (disch := omega) only [↓RA, RZ, simprocAttr, hnrg1, q1]
   refine hS12.eNew 2 [(.int .u64 0), (.int .u64 0)] rfl rfl rfl mG fun A5 H12 hS13 => ?_
   simp only [RT] at hS13
   simp (disch := omega) only [↓RA, RZ, simprocAttr, hnrg1, q1]
   refine hS13.aa 8 rfl [(.int .u64 (jF [z]).1), (.int .u64 (jF [z]).2)] rfl rfl mG (by simp) fun H13 hS14 => ?_
   simp only [RT] at hS14
   simp (disch := omega) only [↓RA, RZ, simprocAttr, hnrg1, q1]
   refine Wp.aQ kC [(0, 10), (2, 10)] (by kernel_rfl) (by kernel_rfl) ?_
   simp (disch := omega) only [↓RA, RZ, simprocAttr, hnrg1, g7rg1, hS14.ld 3 rfl, hS14.ld 6 rfl, (hS14.ax 2 rfl (fun _ => rfl)).idx, (hS14.ax 2 rfl (fun _ => rfl)).ae, ntc, hS14.ae 8 rfl]
   refine hS14.cF (b2I (iA (pE o rg d) i) (jF [z]) hiok hnok) fun H14 hS15 => ?_
   simp (disch := omega) only [↓RA, RZ, simprocAttr, hnrg1, (hS15.ax 2 rfl (fun _ => rfl)).idx]
   refine hS15.aP 2 rfl [(.int .u64 (unF (iA (pE o rg d) i) (jF [z])).1), (.int .u64 (unF (iA (pE o rg d) i) (jF [z])).2)] rfl rfl mG (by simp) (by rw [iM (n := 2) (cel := ntc) (fun _ => rfl)]; simp; omega) fun H15 hS16 => ?_
   simp only [RT] at hS16
   simp (disch := omega) only [↓RA, RZ, simprocAttr, hnrg1, g7rg1, hS15.ld 3 rfl, hS15.ld 6 rfl]
   have hS17 := hS16.pick (os' := [⟨ptr A1 0 4, 0, _⟩, ⟨ptr A2 0 3, 0, _⟩, ⟨w1, 2, _⟩, ⟨ptr A3 0 1, 0, _⟩, ⟨ptr AK 0 4, 0, _⟩, ⟨ptr AL 0 3, 0, _⟩]) [0, 1, 2, 3, 4, 5] (by decide) rfl
   have hset2 : ((List.flatMap ntc (pE o rg d)).set (i * 2) (.int .u64 (unF (iA (pE o rg d) i) (jF [z])).1)).set (i * 2 + 1) (.int .u64 (unF (iA (pE o rg d) i) (jF [z])).2) = (pE o rg (d ++ [((i : Int), z)])).flatMap ntc := by
    rw [a5E, a2N, if_pos hq]
    simp only [gm]
    rw [← pI ((((pE o rg d).flatMap ntc).set (i * 2) _).set (i * 2 + 1) _) (i * 2 + 1 + 1), ← lG, ← lG]
    exact yS (n := 2) (cel := ntc) (fun _ => rfl) (pE o rg d) i 0 [_, _] (unF (iA (pE o rg d) i) (jF [z])) (by omega) (by simp) rfl
   rw [hset2] at hS17
   have hWBs1 := (hYBs1.aU (hBBs1 ▸ hS17)).set (fun h => h) rg1
   rw [← hreqrg1] at hWBs1
   have hfin : Lp prog H Lrg1 rg1 (hset H15 Lrg1 (.loop rg1)) ([⟨ptr A1 0 4, 0, oC o⟩, ⟨ptr A2 0 3, 0, rC rg sv⟩, ⟨w1, 2, (pE o rg (d ++ [((i : Int), z)])).flatMap ntc⟩, ⟨ptr A3 0 1, 0, [w1]⟩, ⟨ptr AK 0 4, 0, oC o⟩, ⟨ptr AL 0 3, 0, rC rg sv⟩] ++ xs) := hreqrg1 ▸ hWBs1
   rw [← hreqrg1] at hfin
   exact ⟨_, (hYBs1.aU (hBBs1 ▸ hS17)).get, rfl, hreqrg1 ▸ hfin⟩
  have hq : ¬ (nR o rg ((i : Int), z)).length = 0 := by omega
  have hsame : pE o rg (d ++ [((i : Int), z)]) = pE o rg d := by rw [a5E, a2N, if_neg hq]
  simp (disch := omega) only [↓RA, RC, simprocAttr]
  have hS18 := hS10.pick (os' := [⟨ptr A1 0 4, 0, _⟩, ⟨ptr A2 0 3, 0, _⟩, ⟨w1, 2, _⟩, ⟨ptr A3 0 1, 0, _⟩, ⟨ptr AK 0 4, 0, _⟩, ⟨ptr AL 0 3, 0, _⟩]) [0, 1, 2, 3, 4, 5] (by decide) rfl
  have hWBs1 := (hYBs1.aU (hBBs1 ▸ hS18)).set (fun h => h) rg1
  rw [← hreqrg1] at hWBs1
  have hfin : Lp prog H Lrg1 rg1 (hset HBs1 Lrg1 (.loop rg1)) ([⟨ptr A1 0 4, 0, oC o⟩, ⟨ptr A2 0 3, 0, rC rg sv⟩, ⟨w1, 2, (pE o rg (d ++ [((i : Int), z)])).flatMap ntc⟩, ⟨ptr A3 0 1, 0, [w1]⟩, ⟨ptr AK 0 4, 0, oC o⟩, ⟨ptr AL 0 3, 0, rC rg sv⟩] ++ xs) := by
   rw [hsame]
   exact hreqrg1 ▸ hWBs1
  rw [← hreqrg1] at hfin
  exact ⟨_, (hYBs1.aU (hBBs1 ▸ hS18)).get, rfl, hreqrg1 ▸ hfin⟩
 rintro _ H21 hLp2
 rw [dp] at hLp2
 refine ⟨_, hLp2.get, (by rw [hstrg1]; exact fun h => by cases h), fun _ => ?_, fun c hc => by rw [hpdrg1] at hc; cases hc⟩
 have hAAf1 := (hLp2.set (fun h => h) { rg1 with state := .exhausted }).st
 have hKAf1 : ∀ B, B ≠ Lrg1 → iL (hset H21 Lrg1 (.loop { rg1 with state := .exhausted })) B = iL H21 B := fun B h => iI _ (ey h)
 generalize hset H21 Lrg1 (.loop { rg1 with state := .exhausted }) = HAf1 at hAAf1 hKAf1 ⊢
 have hnt : jG w1 = true := (hAAf1.ax (cel := ntc) 2 rfl (fun _ => rfl)).bu
 simp (disch := omega) only [↓RA, RZ, simprocAttr, hnrg1, g7rg1, hAAf1.ld 3 rfl, c1o, hnt]
 exact ⟨w1, by rw [h0], by rw [if_pos h0]; exact hAAf1.pick [2] (by decide) rfl⟩
theorem b4U (x : Nt) (hx : Nt.Ok x) (z : Int) (h0 : 0 ≤ z) (h1 : z < 128) : Fn prog 133 [.agg #[.int .u64 x.1, .int .u64 x.2], I z] H fun r H' => r = .agg #[.int .u64 (oK x z).1, .int .u64 (oK x z).2] ∧ St prog H H' [] := by
 obtain ⟨m, rfl⟩ := fY h0
 refine .aC func133 rfl (by kernel_rfl) (m := 23) rfl fun l hn g0 g1 => ?_
 simp (disch := omega) only [↓RA, RB, simprocAttr, g0]
 refine (sR H).eNew 2 [(.int .u64 x.1), (.int .u64 x.2)] rfl rfl rfl mG fun A1 H1 hS1 => ?_
 simp only [RT] at hS1
 simp (disch := omega) only [↓RA, RZ, simprocAttr]
 refine hS1.eNew 2 [(.int .u64 0), (.int .u64 0)] rfl rfl rfl mG fun A2 H2 hS2 => ?_
 simp only [RT] at hS2
 simp (disch := omega) only [↓RA, RB, simprocAttr, hn, g1]
 refine gZ (fun q1 => ?_) (fun q1 => ?_)
 ·have e1 := orN x.1 m hx.1 (by omega)
  have e2 : oK x (m : Int) = (x.1 ||| 2 ^ m, x.2) := by unfold oK; rw [if_pos q1]; rfl
  simp (disch := omega) only [↓RA, RZ, simprocAttr, hn, g1, hS2.ld 0 rfl, q1, e1]
  refine hS2.aa 0 rfl [(.int .u64 (x.1 ||| 2 ^ m : Nat))] rfl rfl a4Y (by simp) fun H3 hS3 => ?_
  simp only [RT] at hS3
  simp (disch := omega) only [↓RA, RZ, simprocAttr, hn, hS3.ae 0 rfl, q1]
  refine hS3.aa 1 rfl [(.int .u64 (x.1 ||| 2 ^ m : Nat)), (.int .u64 x.2)] rfl rfl mG (by simp) fun H4 hS4 => ?_
  simp only [RT] at hS4
  simp (disch := omega) only [↓RA, RZ, simprocAttr, hn, b9g, hS4.ae 1 rfl, q1]
  rw [e2]
  exact ⟨rfl, hS4.forget⟩
 have e1 := orN x.2 (m - 64) hx.2 (by omega)
 have e3 : (m : Int) - 64 = ((m - 64 : Nat) : Int) := by omega
 have e2 : oK x (m : Int) = (x.1, x.2 ||| 2 ^ (m - 64)) := by unfold oK; rw [if_neg q1, e3]; rfl
 simp (disch := omega) only [↓RA, RZ, simprocAttr, hn, g1, hS2.ld 0 rfl, q1, e1, e3]
 refine hS2.aa 0 rfl [(.int .u64 (x.2 ||| 2 ^ (m - 64) : Nat))] rfl rfl a4Y (by simp) fun H5 hS5 => ?_
 simp only [RT] at hS5
 simp (disch := omega) only [↓RA, RZ, simprocAttr, hn, hS5.ae 0 rfl, q1]
 refine hS5.aa 1 rfl [(.int .u64 x.1), (.int .u64 (x.2 ||| 2 ^ (m - 64) : Nat))] rfl rfl mG (by simp) fun H6 hS6 => ?_
 simp only [RT] at hS6
 simp (disch := omega) only [↓RA, RZ, simprocAttr, hn, b9g, hS6.ae 1 rfl, q1]
 rw [e2]
 exact ⟨rfl, hS6.forget⟩
theorem c0Q (xs : List Int) (hz : ∀ z ∈ xs, isN z) (v : Value) (hv : Sl 1 (one I) H v xs) (hl : xs.length < 1000000000) :
 Fn prog 78 [v] H fun r H' => r = .agg #[.int .u64 (jF xs).1, .int .u64 (jF xs).2] ∧ St prog H H' [] := by
 refine .aY func78 rfl (by kernel_rfl) (m := 30) rfl fun l hn g0 => ?_
 simp (disch := omega) only [↓RA, RZ, simprocAttr]
 refine (sR H).eNew 2 [(.int .u64 0), (.int .u64 0)] rfl rfl rfl mG fun A1 H1 hS1 => ?_
 simp only [RT] at hS1
 simp (disch := omega) only [↓RA, RZ, simprocAttr]
 refine hS1.eNew 2 [(.int .u64 0), (.int .u64 0)] rfl rfl rfl mG fun A2 H2 hS2 => ?_
 simp only [RT] at hS2
 simp (disch := omega) only [↓RA, RB, simprocAttr]
 refine Wp.al (fun n l H' => l.length = 30 ∧ get l 0 = v ∧ get l 2 = (ptr A1 0 2) ∧ get l 3 = (ptr A2 0 2) ∧ ∃ (j : Nat), (n + j = xs.length) ∧ get l 4 = I j ∧ St prog H H' [⟨ptr A1 0 2, 0, [(.int .u64 0), (.int .u64 0)]⟩, ⟨ptr A2 0 2, 0, [.int .u64 (jF (xs.take j)).1, .int .u64 (jF (xs.take j)).2]⟩]) xs.length ?_ ?_
 ·simp (disch := omega) only [RB, RC, simprocAttr, hn, g0]
  exact ⟨0, by omega, rfl, hS2⟩
 rintro n l H3 ⟨hn, g0, g2, g3, j, hj, g4, hS3⟩
 simp (disch := omega) only [↓RA, RZ, simprocAttr, hn, g0, g4, (hS3.sl hv).len]
 refine gZ (fun q1 => ?_) (fun q1 => ?_)
 ·have hx := hz _ (iD (xs := xs) (j := j) (by omega))
  have hx0 := hx.1
  have hx1 := hx.2
  have hok : Nt.Ok (jF (xs.take j)) := qD _ _ (fun z h => hz z (List.mem_of_mem_take h)) ⟨by decide, by decide⟩
  simp (disch := omega) only [↓RA, RZ, simprocAttr, hn, g0, g4, (hS3.sl hv).idx, (hS3.sl hv).ld, one, q1]
  refine jV (fun q2 => ?_) (fun q2 => ?_)
  rotate_left
  ·exfalso; first | omega | (simp at q2; omega)
  simp (disch := omega) only [↓RA, RZ, simprocAttr, hn, g0, g4, (hS3.sl hv).idx, (hS3.sl hv).ld, one, q1, q2]
  refine gZ (fun q3 => ?_) (fun q3 => ?_)
  rotate_left
  ·exfalso; first | omega | (simp at q3; omega)
  simp (disch := omega) only [↓RA, RC, simprocAttr, q1, q2, q3]
  refine Wp.drw kC (by kernel_rfl) ?_
  simp (disch := omega) only [↓RA, RZ, simprocAttr, hn, g0, g3, g4, hS3.ae 1 rfl, (hS3.sl hv).idx, (hS3.sl hv).ld, one]
  refine hS3.cF (b4U (jF (xs.take j)) hok (iA xs j) hx.1 hx.2) fun H4 hS4 => ?_
  simp (disch := omega) only [↓RA, RB, simprocAttr, hn, g3]
  refine hS4.aa 1 rfl [(.int .u64 (oK (jF (xs.take j)) (iA xs j)).1), (.int .u64 (oK (jF (xs.take j)) (iA xs j)).2)] rfl rfl mG (by simp) fun H5 hS5 => ?_
  simp only [RT] at hS5
  simp (disch := omega) only [↓RA, RZ, simprocAttr, hn, g0, g2, g3, g4]
  refine ⟨n - 1, by omega, j + 1, by omega, by simp, ?_⟩
  rw [a0s xs (by omega)]
  exact hS5.pick [0, 1] (by decide) rfl
 have hjj : j = xs.length := by omega
 simp (disch := omega) only [↓RA, RZ, simprocAttr, hn, g2, g3, hS3.ae 1 rfl, q1]
 refine hS3.aa 0 rfl [(.int .u64 (jF (xs.take j)).1), (.int .u64 (jF (xs.take j)).2)] rfl rfl mG (by simp) fun H6 hS6 => ?_
 simp only [RT] at hS6
 simp (disch := omega) only [↓RA, RZ, simprocAttr, g2, c4W, hS6.ae 0 rfl, q1]
 rw [hjj, ef]
 exact ⟨rfl, hS6.forget⟩
end Go.Ds
namespace Go.Ds
open Go.Proofs
variable {H : Heap}
set_option maxRecDepth 10000
set_option maxHeartbeats 1000000
end Go.Ds
namespace Go.Ds
open Go.Proofs Go.Proofs.Tryz
variable {H : Heap}
set_option maxRecDepth 10000
set_option maxHeartbeats 1000000
def a6j (a b : Nat) : Nat := (BitVec.ofNat 64 a &&& ~~~ BitVec.ofNat 64 b).toNat
theorem a4c (a b : Nat) : a6j a b < 18446744073709551616 := (BitVec.ofNat 64 a &&& ~~~ BitVec.ofNat 64 b).isLt
theorem b9a (a b : Nat) : IntKind.wrap .u64 ((BitVec.ofInt (IntKind.bits .u64) (a : Int) &&& ~~~ BitVec.ofInt (IntKind.bits .u64) (b : Int)).toNat : Int) = ((a6j a b : Nat) : Int) := by
 have e : (BitVec.ofInt (IntKind.bits .u64) (a : Int) &&& ~~~ BitVec.ofInt (IntKind.bits .u64) (b : Int)).toNat = a6j a b := by
  unfold a6j
  rw [fJ, fJ]
  rfl
 rw [e]
 have := a4c a b
 exact rP _ (by omega) (by omega)
theorem a6X (a b j : Nat) (ha : a < 18446744073709551616) (hj : j < 64) : (a6j a b).testBit j = (a.testBit j && !b.testBit j) := by
 unfold a6j
 have h1 : (BitVec.ofNat 64 a &&& ~~~ BitVec.ofNat 64 b).toNat.testBit j = (BitVec.ofNat 64 a &&& ~~~ BitVec.ofNat 64 b).getLsbD j := rfl
 rw [h1, BitVec.getLsbD_and, BitVec.getLsbD_not, BitVec.getLsbD_ofNat, BitVec.getLsbD_ofNat]
 simp [hj]
def woF (x y : Nt) : Nt := (a6j x.1 y.1, a6j x.2 y.2)
theorem c0N (x y : Nt) : Nt.Ok (woF x y) := ⟨a4c _ _, a4c _ _⟩
theorem c0m (x y : Nt) : Fn prog 99 [.agg #[.int .u64 x.1, .int .u64 x.2], .agg #[.int .u64 y.1, .int .u64 y.2]] H fun r H' => r = .agg #[.int .u64 (woF x y).1, .int .u64 (woF x y).2] ∧ St prog H H' [] := by
 have e1 := b9a x.1 y.1
 have e2 := b9a x.2 y.2
 refine .aC func99 rfl (by kernel_rfl) (m := 16) rfl fun l hn g0 g1 => ?_
 simp (disch := omega) only [↓RA, RB, simprocAttr, g0]
 refine (sR H).eNew 2 [(.int .u64 x.1), (.int .u64 x.2)] rfl rfl rfl mG fun A1 H1 hS1 => ?_
 simp only [RT] at hS1
 simp (disch := omega) only [↓RA, RB, simprocAttr, g1]
 refine hS1.eNew 2 [(.int .u64 y.1), (.int .u64 y.2)] rfl rfl rfl mG fun A2 H2 hS2 => ?_
 simp only [RT] at hS2
 simp (disch := omega) only [↓RA, RZ, simprocAttr]
 refine hS2.eNew 2 [(.int .u64 0), (.int .u64 0)] rfl rfl rfl mG fun A3 H3 hS3 => ?_
 simp only [RT] at hS3
 simp (disch := omega) only [↓RA, RZ, simprocAttr, hn, hS3.ld 0 rfl, hS3.ld 1 rfl, a6U, e1, e2]
 refine hS3.aa 2 rfl [_, _] rfl rfl mG (by simp) fun H4 hS4 => ?_
 simp only [RT] at hS4
 simp (disch := omega) only [↓RA, RZ, simprocAttr, hn, c4M, hS4.ae 2 rfl]
 exact ⟨rfl, hS4.forget⟩
theorem a1x (x y : Nt) : Fn prog 50 [.agg #[.int .u64 x.1, .int .u64 x.2], .agg #[.int .u64 y.1, .int .u64 y.2]] H fun r H' => r = .bool (decide (woF x y = (0, 0))) ∧ St prog H H' [] := by
 refine .aC func50 rfl (by kernel_rfl) (m := 10) rfl fun l hn g0 g1 => ?_
 simp (disch := omega) only [↓RA, RB, simprocAttr, g0]
 refine (sR H).eNew 2 [(.int .u64 x.1), (.int .u64 x.2)] rfl rfl rfl mG fun A1 H1 hS1 => ?_
 simp only [RT] at hS1
 simp (disch := omega) only [↓RA, RB, simprocAttr, g1]
 refine hS1.eNew 2 [(.int .u64 y.1), (.int .u64 y.2)] rfl rfl rfl mG fun A2 H2 hS2 => ?_
 simp only [RT] at hS2
 simp (disch := omega) only [↓RA, RZ, simprocAttr, hn, hS2.ae 0 rfl, hS2.ae 1 rfl]
 refine hS2.cF (c0m x y) fun H3 hS3 => ?_
 simp (disch := omega) only [↓RA, RZ, simprocAttr, hn, b8N, c5r]
 refine ⟨?_, hS3.forget⟩
 congr 1
 rw [decide_eq_decide]
 constructor
 ·rintro ⟨h1, h2⟩
  exact gT (by simpa using h1) (by simpa using h2)
 ·intro h
  rw [h]
  exact ⟨rfl, rfl⟩
def a2n (lo hi : Int) : Nt := jF ((List.range (hi - lo + 1).toNat).map fun (k : Nat) => lo + (k : Int))
theorem b1r (lo hi : Int) (h0 : 0 ≤ lo) (h1 : lo ≤ hi) (h2 : hi ≤ 127) : Fn prog 49 [.agg #[I lo, I hi]] H fun r H' => r = .tuple #[.agg #[.int .u64 (a2n lo hi).1, .int .u64 (a2n lo hi).2], I 0] ∧ St prog H H' [] := by
 have hce : qG lo hi = 0 := by
  unfold qG
  rw [if_neg (by omega), if_neg (by omega)]
 refine .aY func49 rfl (by kernel_rfl) (m := 25) rfl fun l hn g0 => ?_
 simp (disch := omega) only [↓RA, RB, simprocAttr, g0]
 refine (sR H).eNew 2 [I lo, I hi] rfl rfl rfl a0j fun A1 H1 hS1 => ?_
 simp only [RT] at hS1
 simp (disch := omega) only [↓RA, RZ, simprocAttr]
 refine hS1.eNew 2 [(.int .u64 0), (.int .u64 0)] rfl rfl rfl mG fun A2 H2 hS2 => ?_
 simp only [RT] at hS2
 simp (disch := omega) only [↓RA, RZ, simprocAttr]
 refine hS2.eNew 2 [(.int .u64 0), (.int .u64 0)] rfl rfl rfl mG fun A3 H3 hS3 => ?_
 simp only [RT] at hS3
 simp (disch := omega) only [↓RA, RZ, simprocAttr, hn, hS3.ae 0 rfl]
 refine hS3.cF (a0L lo hi) fun H4 hS4 => ?_
 rw [hce]
 simp (disch := omega) only [↓RA, RZ, simprocAttr, hn, hS4.ld 0 rfl]
 refine Wp.al (fun n l H' => l.length = 25 ∧ get l 1 = (ptr A1 0 2) ∧ get l 2 = (ptr A2 0 2) ∧ get l 3 = I 0 ∧ get l 4 = (ptr A3 0 2) ∧ ∃ (j : Nat), (n + j = (hi - lo + 1).toNat) ∧ get l 6 = I (lo + (j : Int)) ∧ St prog H H' [⟨ptr A1 0 2, 0, [I lo, I hi]⟩, ⟨ptr A2 0 2, 0, [(.int .u64 0), (.int .u64 0)]⟩, ⟨ptr A3 0 2, 0, [.int .u64 (jF ((List.range j).map fun (k : Nat) => lo + (k : Int))).1, .int .u64 (jF ((List.range j).map fun (k : Nat) => lo + (k : Int))).2]⟩]) (hi - lo + 1).toNat ?_ ?_
 ·simp (disch := omega) only [RB, RC, simprocAttr, hn]
  exact ⟨0, by omega, by simp, hS4⟩
 rintro n l H5 ⟨hn, g1, g2, g3, g4, j, hj, g6, hS5⟩
 simp (disch := omega) only [↓RA, RZ, simprocAttr, hn, g1, g6, hS5.ld 0 rfl]
 refine gZ (fun q1 => ?_) (fun q1 => ?_)
 ·have hok : Nt.Ok (jF ((List.range j).map fun (k : Nat) => lo + (k : Int))) := qD _ _ (fun z h => by
   obtain ⟨k, hk, rfl⟩ := dF.1 h
   have := dI.1 hk
   exact ⟨by omega, by omega⟩) ⟨by decide, by decide⟩
  have hsu : jF ((List.range (j + 1)).map fun (k : Nat) => lo + (k : Int)) = oK (jF ((List.range j).map fun (k : Nat) => lo + (k : Int))) (lo + (j : Int)) := by
   unfold jF
   rw [eW, dx, gr]
   rfl
  simp (disch := omega) only [↓RA, RZ, simprocAttr, hn, g4, g6, hS5.ae 2 rfl, q1]
  refine hS5.cF (a1K (jF ((List.range j).map fun (k : Nat) => lo + (k : Int))) hok (lo + (j : Int)) (by omega) (by omega)) fun H6 hS6 => ?_
  simp (disch := omega) only [↓RA, RZ, simprocAttr, hn, g4, q1]
  refine hS6.aa 2 rfl [(.int .u64 (oK (jF ((List.range j).map fun (k : Nat) => lo + (k : Int))) (lo + (j : Int))).1), (.int .u64 (oK (jF ((List.range j).map fun (k : Nat) => lo + (k : Int))) (lo + (j : Int))).2)] rfl rfl mG (by simp) fun H7 hS7 => ?_
  simp only [RT] at hS7
  simp (disch := omega) only [↓RA, RZ, simprocAttr, hn, g1, g2, g3, g4, g6, q1]
  refine ⟨n - 1, by omega, j + 1, by omega, by congr 1; omega, ?_⟩
  rw [hsu]
  exact hS7.pick [0, 1, 2] (by decide) rfl
 have hjj : j = (hi - lo + 1).toNat := by omega
 simp (disch := omega) only [↓RA, RZ, simprocAttr, hn, g2, g4, hS5.ae 2 rfl, q1]
 refine hS5.aa 1 rfl [(.int .u64 (jF ((List.range j).map fun (k : Nat) => lo + (k : Int))).1), (.int .u64 (jF ((List.range j).map fun (k : Nat) => lo + (k : Int))).2)] rfl rfl mG (by simp) fun H8 hS8 => ?_
 simp only [RT] at hS8
 simp (disch := omega) only [↓RA, RZ, simprocAttr, hn, g2, c4w, hS8.ae 1 rfl, q1]
 rw [hjj]
 exact ⟨rfl, hS8.forget⟩
structure Ks (H : Heap) (kv : Value) (ks : List Nt) : Prop where
 sl : Sl 2 ntc H kv ks
 len : ks.length < 1000000000
 ok : ∀ x ∈ ks, Nt.Ok x
theorem Ks.ab {P : Program} {H' : Heap} {kv : Value} {ks : List Nt} {os : List Ob} (h : Ks H kv ks) (hS : St P H H' os) : Ks H' kv ks := ⟨hS.sl h.sl, h.len, h.ok⟩
def vM (o : Org) (ks : List Nt) : Int := if organE o ≠ 0 then organE o else if ks.length ≠ o.dvs.length then 5 else if ∃ j, j < o.dvs.length ∧ woF (iA ks j) (a2n (iA o.dvs j).lo (iA o.dvs j).hi) ≠ (0, 0) then 23 else 0
theorem a6c (o : Org) (ho : o.In H) (kv : Value) (ks : List Nt) (hk : Ks H kv ks) : Fn prog 14 [.agg #[.string o.name, o.rv, o.dv, o.cv], kv] H fun r H' => r = I (vM o ks) ∧ St prog H H' [] := by
 have hkl := hk.len
 have hdl := ho.2.2.2.2.2.2.1
 refine .aC func14 rfl (by kernel_rfl) (m := 43) rfl fun l hn g0 g1 => ?_
 simp (disch := omega) only [↓RA, RB, simprocAttr, g0]
 refine (sR H).eNew 4 [(.string o.name), o.rv, o.dv, o.cv] rfl rfl (by simp [OC, ((sR H).sl ho.1).cells.2.1, ((sR H).sl ho.2.2.1).cells.2.1, ((sR H).sl ho.2.2.2.2.1).cells.2.1]) lV fun A1 H1 hS1 => ?_
 simp only [RT] at hS1
 simp (disch := omega) only [↓RA, RZ, simprocAttr, hn, hS1.ae 0 rfl]
 refine hS1.cF (xZ o (ho.ab hS1)) fun H2 hS2 => ?_
 simp (disch := omega) only [↓RA, RB, simprocAttr, hn]
 refine gZ (fun h1 => ?_) (fun h1 => ?_)
 ·simp (disch := omega) only [↓RA, RZ, simprocAttr, hn, b8n, h1]
  exact ⟨by unfold vM; rw [if_pos h1], hS2.forget⟩
 have hz : organE o = 0 := dC.1 h1
 have hf := Org.bD hz
 simp (disch := omega) only [↓RA, RZ, simprocAttr, hn, g1, (hS2.sl hk.sl).len, hS2.ld 0 rfl, (hS2.sl ho.2.2.1).len, h1]
 refine gZ (fun h2 => ?_) (fun h2 => ?_)
 ·simp (disch := omega) only [↓RA, RZ, simprocAttr, hn, b8n, h1, h2]
  exact ⟨by unfold vM; rw [if_neg h1, if_pos (by omega)], hS2.forget⟩
 have hlen : ks.length = o.dvs.length := by omega
 simp (disch := omega) only [↓RA, RZ, simprocAttr, hn, hS2.ld 0 rfl, (hS2.sl ho.2.2.1).len, h1, h2]
 refine Wp.al (fun n l H' => l.length = 43 ∧ get l 1 = kv ∧ get l 22 = o.dv ∧ get l 23 = I o.dvs.length ∧ ∃ (j : Nat), (n + j = o.dvs.length ∧ ∀ q, q < j → woF (iA ks q) (a2n (iA o.dvs q).lo (iA o.dvs q).hi) = (0, 0)) ∧ get l 24 = I j ∧ St prog H H' [⟨ptr A1 0 4, 0, [(.string o.name), o.rv, o.dv, o.cv]⟩]) o.dvs.length ?_ ?_
 ·simp (disch := omega) only [RB, RC, simprocAttr, hn, g1]
  exact ⟨0, ⟨by omega, fun q hq => absurd hq (dK _)⟩, rfl, hS2⟩
 rintro n l H3 ⟨hn, g1, g22, g23, j, ⟨hj,hq⟩, g24, hS3⟩
 simp (disch := omega) only [↓RA, RB, simprocAttr, hn, g23, g24]
 refine gZ (fun h3 => ?_) (fun h3 => ?_)
 ·have hky := hf.keys j (by omega)
  simp (disch := omega) only [↓RA, RZ, simprocAttr, hn, g22, g24, (hS3.sl ho.2.2.1).idx, (hS3.sl ho.2.2.1).ae, Dvn.cells, h3]
  refine hS3.eNew 5 [(.string ⟨#[]⟩), (.bool false), I 0, I 0, (.slice none 0 0)] rfl rfl rfl sW fun A2 H4 hS4 => ?_
  simp only [RT] at hS4
  simp (disch := omega) only [↓RA, RZ, simprocAttr, hn, h3]
  refine hS4.aa 1 rfl [(.string (iA o.dvs j).name), (.bool (iA o.dvs j).pedal), I (iA o.dvs j).lo, I (iA o.dvs j).hi, (iA o.dvs j).sv] rfl (by simp [OC, (hS4.sl (ho.2.2.2.1 (iA o.dvs j) (iD (by omega))).1).cells.2.1]) sW (by simp) fun H5 hS5 => ?_
  simp only [RT] at hS5
  simp (disch := omega) only [↓RA, RZ, simprocAttr, hn, hS5.ae 1 rfl, h3]
  refine hS5.cF (b1r (iA o.dvs j).lo (iA o.dvs j).hi hky.1 hky.2.1 hky.2.2) fun H6 hS6 => ?_
  simp (disch := omega) only [↓RA, RZ, simprocAttr, hn, h3]
  refine hS6.eNew 2 [(.int .u64 0), (.int .u64 0)] rfl rfl rfl mG fun A3 H7 hS7 => ?_
  simp only [RT] at hS7
  simp (disch := omega) only [↓RA, RZ, simprocAttr, hn, h3]
  refine hS7.aa 2 rfl [(.int .u64 (a2n (iA o.dvs j).lo (iA o.dvs j).hi).1), (.int .u64 (a2n (iA o.dvs j).lo (iA o.dvs j).hi).2)] rfl rfl mG (by simp) fun H8 hS8 => ?_
  simp only [RT] at hS8
  simp (disch := omega) only [↓RA, RZ, simprocAttr, hn, h3]
  refine Wp.drw kC (by kernel_rfl) ?_
  simp (disch := omega) only [↓RA, RZ, simprocAttr, hn, g1, (hS8.sl hk.sl).idx, (hS8.sl hk.sl).ae, ntc, hS8.ae 2 rfl]
  refine hS8.cF (a1x (iA ks j) (a2n (iA o.dvs j).lo (iA o.dvs j).hi)) fun H9 hS9 => ?_
  simp (disch := omega) only [↓RA, RB, simprocAttr, hn]
  refine jK (fun h4 => ?_) (fun h4 => ?_)
  ·have h5 : ¬ woF (iA ks j) (a2n (iA o.dvs j).lo (iA o.dvs j).hi) = (0, 0) := by simpa using h4
   simp (disch := omega) only [↓RA, RB, simprocAttr, hn, b8n, h4]
   exact ⟨by unfold vM; rw [if_neg h1, if_neg (by omega), if_pos ⟨j, by omega, h5⟩], hS9.forget⟩
  have h5 : woF (iA ks j) (a2n (iA o.dvs j).lo (iA o.dvs j).hi) = (0, 0) := by simpa using h4
  simp (disch := omega) only [↓RA, RZ, simprocAttr, hn, g1, g22, g23, g24, h4]
  exact ⟨n - 1, by omega, j + 1, ⟨by omega, fun q hq' => by rcases dr.1 hq' with e | e; (· exact hq q e); (· rw [e]; exact h5)⟩, by simp, hS9.pick [0] (by decide) rfl⟩
 simp (disch := omega) only [↓RA, RZ, simprocAttr, hn, b8n, h3]
 refine ⟨?_, hS3.forget⟩
 unfold vM
 rw [if_neg h1, if_neg (by omega), if_neg]
 rintro ⟨q, hq1, hq2⟩
 exact hq2 (hq q (by omega))
end Go.Ds
namespace Go.Ds
open Go.Proofs Go.Proofs.Tryz Go.ChangeShapes Go.WideShapes Go.RowKit Go.Deep
set_option maxRecDepth 10000
theorem c1s : prog.cellsOf 28 = 1 := by kernel_rfl
theorem c3L : prog.cellsOf 96 = 2 := by kernel_rfl
theorem c4u : prog.cellsOf 27 = 1 := by kernel_rfl
theorem c4B : prog.cellsOf 30 = 3 := by kernel_rfl
theorem c5n : iC prog 28 = some 1 := by kernel_rfl
theorem c4y : iC prog 96 = some 2 := by kernel_rfl
structure RgI (H : Heap) (r : Reg) (sv : Value) : Prop where
 sl : Sl 1 (one u64) H sv r.stops
 len : r.stops.length < 9223372036854775808
 ok : ∀ x ∈ r.stops, x < 18446744073709551616
 cpl : r.cpl < 18446744073709551616
 off : r.off < 18446744073709551616
structure KsI (H : Heap) (kv : Value) (ks : List Nt) : Prop where
 sl : Sl 2 ntc H kv ks
 len : ks.length < 9223372036854775808
 ok : ∀ x ∈ ks, Nt.Ok x
theorem RgI.ext {ρ ρ' : Rho} {H H' : Heap} {r : Reg} {sv : Value} (h : RgI H r sv) (e : ExtW ρ H ρ' H') : RgI H' r sv := ⟨h.sl.ext e, h.len, h.ok, h.cpl, h.off⟩
theorem RgI.ab {P : Program} {H H0 : Heap} {os : List Ob} {r : Reg} {sv : Value} (h : RgI H0 r sv) (hS : St P H0 H os) : RgI H r sv := ⟨hS.sl h.sl, h.len, h.ok, h.cpl, h.off⟩
theorem KsI.ab {P : Program} {H H0 : Heap} {os : List Ob} {kv : Value} {ks : List Nt} (h : KsI H0 kv ks) (hS : St P H0 H os) : KsI H kv ks := ⟨hS.sl h.sl, h.len, h.ok⟩
theorem RgI.reg {H : Heap} {r : Reg} {sv : Value} (h : RgI H r sv) (hl : r.stops.length < 1000000000) : r.In H sv := ⟨h.sl, hl, h.ok, h.cpl, h.off⟩
theorem KsI.ks {H : Heap} {kv : Value} {ks : List Nt} (h : KsI H kv ks) (hl : ks.length < 1000000000) : Ks H kv ks := ⟨h.sl, hl, h.ok⟩
theorem Pln.In.ext {ρ ρ' : Rho} {H H' : Heap} {p : Pln} (h : p.In H) (e : ExtW ρ H ρ' H') : p.In H' := ⟨h.1.ext e, h.2.1.ext e, fun b hb => ⟨(h.2.2.1 b hb).1.ext e, (h.2.2.1 b hb).2⟩, h.2.2.2.1.ext e, h.2.2.2.2⟩
section
variable {H0 : Type} {enc : TypeId × Value → H0} {w : World} {base n : Nat} {spare : Nat → Bool} {kV : Bool} {x : DataW H0 × List MemPlace}
theorem a9H {cs : List Value} (h : DataW.trod enc prog w base spare kV n 28 cs = some x) : ∃ m : Nat, cs = one u64 m ∧ m < 18446744073709551616 := by
 obtain ⟨m, hv, _, hw⟩ := DataW.trod_int underlying28 h
 have hm : 0 ≤ m ∧ m ≤ 18446744073709551615 := by simpa [Lit.wf, IntKind.min, IntKind.max, IntKind.signed, IntKind.bits] using hw
 refine ⟨m.toNat, ?_, by omega⟩
 rw [hv]
 show _ = [Value.int .u64 ((m.toNat : Nat) : Int)]
 rw [eY hm.1]
theorem u64_in {v : Value} (h : DataW.trod enc prog w base spare kV n 28 [v] = some x) : ∃ m : Nat, v = .int .u64 m ∧ m < 18446744073709551616 := by
 obtain ⟨m, hv, hm⟩ := a9H h
 exact ⟨m, by simpa [one, u64] using hv, hm⟩
theorem c3i {cs : List Value} (h : DataW.trod enc prog w base spare kV n 96 cs = some x) : ∃ p : Nt, cs = ntc p ∧ Nt.Ok p := by
 obtain ⟨hl, m, hf⟩ := wF underlying96 h
 rw [c3L] at hl
 match cs, hl with
 | [c0, c1], _ =>
   obtain ⟨_, h0⟩ := hf 0 ⟨_, 28, 0, _, _, _, _⟩ rfl
   obtain ⟨_, h1⟩ := hf 1 ⟨_, 28, 1, _, _, _, _⟩ rfl
   simp only [c1s] at h0 h1
   obtain ⟨a, rfl, ha⟩ := u64_in h0
   obtain ⟨b, rfl, hb⟩ := u64_in h1
   exact ⟨(a, b), rfl, ha, hb⟩
end
section
variable {H0 : Type} {enc : TypeId × Value → H0} {w : World} {base fuel : Nat} {kV : Bool} {x : DataW H0 × List MemPlace} {ρ : Rho} {H : Heap}
theorem b7M {v0 : Value} {d0 : DataW H0} {p0 : List MemPlace} {c0 : Nat} (h : InW prog ρ H w) {b0 : Nat} {cur0 : Array Value} {t0 : TypeId} {fr0 : Nat × Nat} (hb0 : w.heap[b0]? = some (.cells cur0 t0 fr0)) (h0 : DataW.Trod enc prog w base (fun _ => true) kV 30 v0 d0 p0) (hval : Value.okWide prog w .any c0 30 v0) :
 ∃ (ρ' : Rho) (H' : Heap) (sv : Value) (rg : Reg), InW prog ρ' H' w ∧ ExtW ρ H ρ' H' ∧ V ρ' (.agg #[sv, .int .u64 rg.cpl, .int .u64 rg.off]) v0 ∧ RgI H' rg sv := by
 obtain ⟨cs, rfl, hsz⟩ := okWide_struct underlying30 hval
 rw [c4B] at hsz
 obtain ⟨fuel, hf⟩ := h0
 obtain ⟨l⟩ := cs
 have hl : l.length = 3 := hsz
 match l, hl with
 | [x, y, z], _ =>
   obtain ⟨_, m, hf⟩ := wF (cs := [x, y, z]) underlying30 hf
   obtain ⟨_, h0⟩ := hf 0 ⟨_, 27, 0, _, _, _, _⟩ rfl
   obtain ⟨_, h1⟩ := hf 1 ⟨_, 28, 1, _, _, _, _⟩ rfl
   obtain ⟨_, h2⟩ := hf 2 ⟨_, 28, 2, _, _, _, _⟩ rfl
   simp only [c1s, c4u] at h0 h1 h2
   obtain ⟨ρ1, H1, v1, xs, i1, i2, i3, i4, i5, i6⟩ := yA underlying27 c1s c5n (by decide) (fun _ => rfl) (fun x c hc => by
    simp only [one, ek, ez, or_false] at hc
    rw [hc]
    rfl) (fun hh => a9H hh) h hb0 h0
   obtain ⟨a, rfl, ha⟩ := u64_in h1
   obtain ⟨b, rfl, hb⟩ := u64_in h2
   exact ⟨ρ1, H1, v1, ⟨xs, a, b⟩, i1, i2, .v1 (.agg ⟨i3, .c0 (.flat rfl), .c0 (.flat rfl), trivial⟩), i4, i6, i5, ha, hb⟩
theorem b5Y {t : TypeId} (ht : prog.underlying t = some (.slice 96)) {v0 : Value} {d0 : DataW H0} {p0 : List MemPlace} {c0 : Nat} (h : InW prog ρ H w) {b0 : Nat} {cur0 : Array Value} {t0 : TypeId} {fr0 : Nat × Nat} (hb0 : w.heap[b0]? = some (.cells cur0 t0 fr0)) (h0 : DataW.Trod enc prog w base (fun _ => true) kV t v0 d0 p0) (hval : Value.okWide prog w .any c0 t v0) :
 ∃ (ρ' : Rho) (H' : Heap) (kv : Value) (ks : List Nt), InW prog ρ' H' w ∧ ExtW ρ H ρ' H' ∧ V ρ' kv v0 ∧ KsI H' kv ks := by
 obtain ⟨a, len, cap, rfl⟩ := okWide_slice ht hval
 obtain ⟨fuel, hf⟩ := h0
 obtain ⟨ρ1, H1, v1, xs, i1, i2, i3, i4, i5, i6⟩ := yA ht c3L c4y (by decide) (fun _ => rfl) (fun x c hc => by
  simp only [ntc, ek, ez, or_false] at hc
  rcases hc with rfl | rfl <;> rfl) (fun hh => c3i hh) h hb0 hf
 exact ⟨ρ1, H1, v1, xs, i1, i2, .v1 (.c1 i3), i4, i6, i5⟩
end
end Go.Ds
namespace Go.Ds
open Go.Proofs Go.ChangeShapes Go.WideShapes Go.RowKit Go.Deep
set_option maxRecDepth 10000
section
variable {H0 : Type} {enc : TypeId × Value → H0} {w : World} {base fuel : Nat} {kV : Bool} {x : DataW H0 × List MemPlace} {ρ : Rho} {H : Heap}
end
end Go.Ds
namespace Go.Ds
open Go.Proofs Go.Proofs.Tryz
variable {H : Heap}
set_option maxRecDepth 10000
set_option maxHeartbeats 1000000
def exO (w1 w2 w3 w4 w5 w6 w7 : Value) : Org := ⟨⟨#[111]⟩, w4, [⟨⟨#[114]⟩, ⟨#[116]⟩, 8, 1, 36, w3, [1, 1, 1]⟩], w6, [⟨⟨#[100]⟩, false, 36, 40, w5, [⟨⟨#[115]⟩, 8, 1, w2, [⟨36, 40, w1, [⟨0, 0⟩]⟩]⟩, ⟨⟨#[116]⟩, 8, 1, w2, [⟨36, 40, w1, [⟨0, 0⟩]⟩]⟩]⟩], w7, [⟨⟨#[99]⟩, 0, 0, 1, false⟩]⟩
theorem a8N : Fn prog 75 [] H fun r H' => ∃ w1 w2 w3 w4 w5 w6 w7, r = .agg #[.string (exO w1 w2 w3 w4 w5 w6 w7).name, w4, w6, w7] ∧ (exO w1 w2 w3 w4 w5 w6 w7).In H' ∧ St prog H H' [] := by
 refine .cS func75 rfl (by kernel_rfl) (m := 24) rfl fun l hn => ?_
 simp (disch := omega) only [↓RA, RZ, simprocAttr]
 refine (sR H).eNew 4 [(.string ⟨#[]⟩), (.slice none 0 0), (.slice none 0 0), (.slice none 0 0)] rfl rfl rfl lV fun A1 H1 hS1 => ?_
 simp only [RT] at hS1
 simp (disch := omega) only [↓RA, RB, simprocAttr, hn, xR, c0U]
 refine hS1.ai [I 0, I 0] a3J a3O rfl rfl (by simp [Value.cells]) rfl rfl (by decide) (by decide) fun w1 H2 hS2 => ?_
 simp only [RT] at hS2
 simp (disch := omega) only [↓RA, RB, simprocAttr, hn, lJ (hS2.rd 1 rfl).cells]
 refine hS2.ai [I 36, I 40, w1] pS vE rfl rfl (by first | (simp []; done) | simp [Value.cells]) (by first | (simp []; done) | simp [Value.cells]) (by simp [OC, (hS2.rd 1 rfl).cells.2.1]) (by decide) (by decide) fun w2 H3 hS3 => ?_
 simp only [RT] at hS3
 simp (disch := omega) only [↓RA, RZ, simprocAttr, hn, a5m (hS3.rd 2 rfl).cells]
 refine hS3.eNew 4 [(.string ⟨#[]⟩), I 0, I 0, (.slice none 0 0)] rfl rfl rfl mV fun A2 H4 hS4 => ?_
 simp only [RT] at hS4
 simp (disch := omega) only [↓RA, RB, simprocAttr, hn]
 refine hS4.aa 3 rfl [(.string ⟨#[115]⟩), I 8, I 1, w2] rfl (by simp [OC, (hS4.rd 2 rfl).cells.2.1]) mV (by simp) fun H5 hS5 => ?_
 simp only [RT] at hS5
 simp (disch := omega) only [↓RA, RZ, simprocAttr, hn, hS5.ae 3 rfl]
 refine hS5.eNew 4 [(.string ⟨#[]⟩), I 0, I 0, (.slice none 0 0)] rfl rfl rfl mV fun A3 H6 hS6 => ?_
 simp only [RT] at hS6
 simp (disch := omega) only [↓RA, RB, simprocAttr, hn]
 refine hS6.aa 4 rfl [(.string ⟨#[115]⟩), I 8, I 1, w2] rfl (by simp [OC, (hS6.rd 2 rfl).cells.2.1]) mV (by simp) fun H7 hS7 => ?_
 simp only [RT] at hS7
 simp (disch := omega) only [↓RA, RZ, simprocAttr, hn]
 refine hS7.aa 4 rfl [(.string ⟨#[116]⟩)] rfl rfl tS9 (by simp) fun H8 hS8 => ?_
 simp only [RT] at hS8
 simp (disch := omega) only [↓RA, RB, simprocAttr, xR]
 refine hS8.ai [I 1, I 1, I 1] a5D a8o rfl rfl (by simp [Value.cells]) rfl rfl (by decide) (by decide) fun w3 H9 hS9 => ?_
 simp only [RT] at hS9
 simp (disch := omega) only [↓RA, RB, simprocAttr, hn, a2q (hS9.rd 5 rfl).cells]
 refine hS9.ai [(.string ⟨#[114]⟩), (.string ⟨#[116]⟩), I 8, I 1, I 36, w3] c1e c4b rfl rfl (by first | (simp []; done) | simp [Value.cells]) (by first | (simp []; done) | simp [Value.cells]) (by simp [OC, (hS9.rd 5 rfl).cells.2.1]) (by decide) (by decide) fun w4 H10 hS10 => ?_
 simp only [RT] at hS10
 simp (disch := omega) only [↓RA, RZ, simprocAttr, hn, a3o, hS10.ae 3 rfl, hS10.ae 4 rfl]
 refine hS10.ai [(.string ⟨#[115]⟩), I 8, I 1, w2, (.string ⟨#[116]⟩), I 8, I 1, w2] b3N b9n rfl rfl (by first | (simp []; done) | simp [Value.cells]) (by first | (simp []; done) | simp [Value.cells]) (by simp [OC, (hS10.rd 2 rfl).cells.2.1]) (by decide) (by decide) fun w5 H11 hS11 => ?_
 simp only [RT] at hS11
 simp (disch := omega) only [↓RA, RB, simprocAttr, hn, a7h (hS11.rd 7 rfl).cells]
 refine hS11.ai [(.string ⟨#[100]⟩), (.bool false), I 36, I 40, w5] c0S c3m rfl rfl (by first | (simp []; done) | simp [Value.cells]) (by first | (simp []; done) | simp [Value.cells]) (by simp [OC, (hS11.rd 7 rfl).cells.2.1]) (by decide) (by decide) fun w6 H12 hS12 => ?_
 simp only [RT] at hS12
 simp (disch := omega) only [↓RA, RB, simprocAttr, hn, b2L]
 refine hS12.ai [(.string ⟨#[99]⟩), I 0, I 0, I 1, (.bool false)] a8D b6A rfl rfl (by simp [Value.cells]) rfl rfl (by decide) (by decide) fun w7 H13 hS13 => ?_
 simp only [RT] at hS13
 simp (disch := omega) only [↓RA, RB, simprocAttr, hn, a4j (hS13.rd 6 rfl).cells (hS13.rd 8 rfl).cells (hS13.rd 9 rfl).cells]
 refine hS13.aa 0 rfl [(.string ⟨#[111]⟩), w4, w6, w7] rfl (by simp [OC, (hS13.rd 6 rfl).cells.2.1, (hS13.rd 8 rfl).cells.2.1, (hS13.rd 9 rfl).cells.2.1]) lV (by simp) fun H14 hS14 => ?_
 simp only [RT] at hS14
 simp (disch := omega) only [↓RA, RZ, simprocAttr, hn, c5j, hS14.ae 0 rfl]
 have h1 : Sl 2 Drw.cells H14 w1 [⟨0, 0⟩] := hS14.ax 1 rfl (fun _ => rfl)
 have h2 : Sl 3 Seg.cells H14 w2 [⟨36, 40, w1, [⟨0, 0⟩]⟩] := hS14.ax 2 rfl (fun _ => rfl)
 have h3 : Sl 1 (one I) H14 w3 [1, 1, 1] := hS14.ax 5 rfl (fun _ => rfl)
 have h4 : Sl 6 Rk.cells H14 w4 (exO w1 w2 w3 w4 w5 w6 w7).ranks := hS14.ax 6 rfl (fun _ => rfl)
 have h5 : Sl 4 Stp.cells H14 w5 [⟨⟨#[115]⟩, 8, 1, w2, [⟨36, 40, w1, [⟨0, 0⟩]⟩]⟩, ⟨⟨#[116]⟩, 8, 1, w2, [⟨36, 40, w1, [⟨0, 0⟩]⟩]⟩] := hS14.ax 7 rfl (fun _ => rfl)
 have h6 : Sl 5 Dvn.cells H14 w6 (exO w1 w2 w3 w4 w5 w6 w7).dvs := hS14.ax 8 rfl (fun _ => rfl)
 have h7 : Sl 5 Cpl.cells H14 w7 (exO w1 w2 w3 w4 w5 w6 w7).cpls := hS14.ax 9 rfl (fun _ => rfl)
 refine ⟨w1, w2, w3, w4, w5, w6, w7, rfl, ⟨h4, ?_, h6, ?_, h7, by simp [exO], by simp [exO], by simp [exO]⟩, hS14.forget⟩
 ·intro r hr
  rw [dz.1 hr]
  exact ⟨h3, by simp⟩
 ·have hg : (⟨36, 40, w1, [⟨0, 0⟩]⟩ : Seg).In H14 := ⟨h1, by simp⟩
  intro d hd
  rw [dz.1 hd]
  refine ⟨h5, ?_, by simp⟩
  intro s hs
  simp only [ek, ez, or_false] at hs
  rcases hs with rfl | rfl
  ·exact ⟨h2, fun g hg' => by rw [dz.1 hg']; exact hg, by simp⟩
  ·exact ⟨h2, fun g hg' => by rw [dz.1 hg']; exact hg, by simp⟩
section
variable (w1 w2 w3 w4 w5 w6 w7 : Value)
def a7J (x : Int × Int) : List (Int × Int) → List (Int × Int)
 | [] => [x]
 | y :: l => if le2 x y then x :: y :: l else y :: a7J x l
def a8A : List (Int × Int) → List (Int × Int)
 | [] => []
 | x :: l => a7J x (a8A l)
theorem yO (x : Int × Int) : ∀ l, (a7J x l).Perm (x :: l)
 | [] => .refl _
 | y :: l => by
   unfold a7J
   split
   ·exact .refl _
   ·exact ((yO x l).cons y).trans (.swap ..)
theorem a3D : ∀ l, (a8A l).Perm l
 | [] => .refl _
 | x :: l => (yO x _).trans ((a3D l).cons x)
theorem b1a (x y : Int × Int) : le2 x y = false → le2 y x = true := by
 intro h
 rw [← eE] at h
 rw [oI] at h ⊢
 omega
theorem a0u (x : Int × Int) : ∀ l : List (Int × Int), l.Pairwise (fun a b => le2 a b = true) → (a7J x l).Pairwise fun a b => le2 a b = true
 | [], _ => by simp [a7J]
 | y :: l, h => by
   have h1 := List.pairwise_cons.1 h
   unfold a7J
   split
   ·rename_i hxy
    refine List.pairwise_cons.2 ⟨fun z hz => ?_, h⟩
    rcases ek.1 hz with rfl | hz
    ·exact hxy
    ·have h2 := h1.1 z hz
     rw [oI] at *
     omega
   ·rename_i hxy
    refine List.pairwise_cons.2 ⟨fun z hz => ?_, a0u x l h1.2⟩
    rcases ek.1 ((yO x l).mem_iff.1 hz) with rfl | hz
    ·exact b1a _ _ (by simpa using hxy)
    ·exact h1.1 z hz
theorem a0A : ∀ l : List (Int × Int), (a8A l).Pairwise fun a b => le2 a b = true
 | [] => .nil
 | x :: l => a0u x _ (a0A l)
theorem c0b : vL = a8A := by
 funext l
 refine List.Perm.eq_of_pairwise (le := fun a b => le2 a b = true) (fun a b _ _ h1 h2 => ?_) (a1E l) (a0A l) ((pG l).trans (a3D l).symm)
 rw [oI] at h1 h2
 exact gT (by omega) (by omega)
def b9K (s : List Ct → List Ct) (o : Org) (r : Reg) (l : List Ct) : List Ct := dd (s (l.filter (fun c => !r.off.testBit c.1.toNat) ++ bfs o r.cpl 1100 0 (nY o r.cpl l)))
def c1n (s : List Ct → List Ct) (rs : List Rk) (p : Stp) (key : Int) : List Ct := dd (s (((a8f p key).filter fun d => yW rs d key).map fun d => pC rs d key))
def b9I (s : List Ct → List Ct) (o : Org) (r : Reg) (c : Ct) : List Ct := (List.range (iA o.dvs c.1.toNat).stops.length).flatMap fun i => if (iA r.stops c.1.toNat).testBit i then c1n s o.ranks (iA (iA o.dvs c.1.toNat).stops i) c.2 else []
def ofG (s : List Ct → List Ct) (o : Org) (r : Reg) (c : Ct) : List Ct := if a6Y o r c = 0 then dd (s ((b9K s o r [c]).flatMap (b9I s o r))) else []
theorem b3t : nR = ofG a8A := by
 rw [← c0b]
 rfl
theorem b9L : kO (exO w1 w2 w3 w4 w5 w6 w7) ⟨[1], 0, 0⟩ = 0 := by kernel_rfl
theorem c0M : pE (exO w1 w2 w3 w4 w5 w6 w7) ⟨[1], 0, 0⟩ (mT (exO w1 w2 w3 w4 w5 w6 w7)) = [jF [39, 40]] := by
 unfold pE a2N
 rw [b3t]
 kernel_rfl
end
section
variable (w1 w2 w3 w4 w5 w6 w7 : Value)
def a1m (s : List Ct → List Ct) (o : Org) (r : Reg) : List Ctl := (oS r).filter fun c => decide ((mT o).map (ofG s o (kW r c)) = (mT o).map (ofG s o r))
theorem a7n : mI = a1m a8A := by
 funext o r
 unfold mI pR a1m
 rw [b3t]
def a9r (s : List Ct → List Ct) (o : Org) : Nat → Reg → List Ctl → Reg × List Ctl
 | 0, g, l => (g, l)
 | n + 1, g, l => if (a1m s o g).length = 0 then (g, l) else a9r s o n (kW g (iA (a1m s o g) ((a1m s o g).length - 1))) (l ++ [iA (a1m s o g) ((a1m s o g).length - 1)])
theorem a3e (o : Org) : ∀ n g l, mA o n g l = a9r a8A o n g l
 | 0, _, _ => rfl
 | n + 1, g, l => by
   rw [mA, a9r, a7n]
   split
   ·rfl
   ·exact a3e o n _ _
theorem b7C : kO (exO w1 w2 w3 w4 w5 w6 w7) ⟨[3], 0, 0⟩ = 0 := by kernel_rfl
theorem b8f : kO (exO w1 w2 w3 w4 w5 w6 w7) ⟨[0], 1, 0⟩ = 0 := by kernel_rfl
theorem b8w : mI (exO w1 w2 w3 w4 w5 w6 w7) ⟨[0], 1, 0⟩ = [vP 0] := by
 rw [a7n]
 kernel_rfl
theorem b3E : mA (exO w1 w2 w3 w4 w5 w6 w7) (mu ⟨[3], 0, 0⟩ + 1) ⟨[3], 0, 0⟩ [] = (⟨[1], 0, 0⟩, [zR 0 1]) := by
 rw [a3e]
 kernel_rfl
end
theorem a7f : Fn prog 75 [] H fun r H' => ∃ o : Org, r = .agg #[.string o.name, o.rv, o.dv, o.cv] ∧ (∃ w1 w2 w3 w4 w5 w6 w7, o = exO w1 w2 w3 w4 w5 w6 w7) ∧ o.In H' ∧ St prog H H' [] := by
 obtain ⟨h1, v, H1, h2, w1, w2, w3, w4, w5, w6, w7, h3, h4, h5⟩ := a8N (H := H)
 exact ⟨h1, v, H1, h2, _, h3, ⟨w1, w2, w3, w4, w5, w6, w7, rfl⟩, h4, h5⟩
theorem b2E (o : Org) (ho : o.In H) (rg : Reg) (sv : Value) (hr : rg.In H sv) (h0 : kO o rg = 0) (g : Reg) (gone : List Ctl) (hs : mA o (mu rg + 1) rg [] = (g, gone)) :
 Fn prog 76 [.agg #[.string o.name, o.rv, o.dv, o.cv], .agg #[sv, .int .u64 rg.cpl, .int .u64 rg.off]] H fun r H' => ∃ nv lv, r = .tuple #[.agg #[nv, .int .u64 g.cpl, .int .u64 g.off], lv, I 0] ∧ (g.Ok ∧ g.stops.length = rg.stops.length) ∧ St prog H H' [⟨nv, 1, g.stops.flatMap (one u64)⟩, ⟨lv, 3, lY gone⟩] := by
 obtain ⟨h1, v, H1, h2, nv, lv, h3⟩ := b4b o ho rg sv hr
 refine ⟨h1, v, H1, h2, ?_⟩
 rcases h3 with ⟨h, _⟩ | ⟨g', gone', _, he, h4, h5, h6, h7⟩
 ·exact absurd h0 h
 ·rw [hs] at he
  obtain ⟨rfl, rfl⟩ := Prod.mk.inj he
  exact ⟨nv, lv, h4, ⟨h5, h6⟩, h7⟩
theorem a7R : Fn prog 32 [] H fun r H' => r = .bool true ∧ St prog H H' [] := by
 refine .cS func32 rfl (by kernel_rfl) (m := 92) rfl fun l hn => ?_
 simp (disch := omega) only [↓RA, RZ, simprocAttr]
 refine iJ (a7f) ?_
 rintro r H1 ⟨o, rfl, ⟨v1, v2, v3, v4, v5, v6, v7, hoe⟩, ho, hT1⟩
 have hS1 := (sR H).trans hT1
 simp only [RT] at hS1
 have f1 : kO o ⟨[1], 0, 0⟩ = 0 := by rw [hoe]; exact b9L ..
 have f2 : pE o ⟨[1], 0, 0⟩ (mT o) = [jF [39, 40]] := by rw [hoe]; exact c0M ..
 have f3 : kO o ⟨[3], 0, 0⟩ = 0 := by rw [hoe]; exact b7C ..
 have f4 : mA o (mu ⟨[3], 0, 0⟩ + 1) ⟨[3], 0, 0⟩ [] = (⟨[1], 0, 0⟩, [zR 0 1]) := by rw [hoe]; exact b3E ..
 have f5 : kO o ⟨[0], 1, 0⟩ = 0 := by rw [hoe]; exact b8f ..
 have f6 : mI o ⟨[0], 1, 0⟩ = [vP 0] := by rw [hoe]; exact b8w ..
 have hS0 := hS1
 simp (disch := omega) only [↓RA, RZ, simprocAttr]
 refine (sR H1).eNew 4 [(.string ⟨#[]⟩), (.slice none 0 0), (.slice none 0 0), (.slice none 0 0)] rfl rfl rfl lV fun A1 H2 hS2 => ?_
 simp only [RT] at hS2
 simp (disch := omega) only [↓RA, RB, simprocAttr, hn]
 refine hS2.aa 0 rfl [(.string o.name), o.rv, o.dv, o.cv] rfl (by simp [OC, (hS2.sl ho.1).cells.2.1, (hS2.sl ho.2.2.1).cells.2.1, (hS2.sl ho.2.2.2.2.1).cells.2.1]) lV (by simp) fun H3 hS3 => ?_
 simp only [RT] at hS3
 simp (disch := omega) only [↓RA, RZ, simprocAttr, hn, hS3.ae 0 rfl]
 refine hS3.ai [(.int .u64 1)] b5p c0u rfl rfl (by simp [Value.cells]) rfl rfl (by decide) (by decide) fun w1 H4 hS4 => ?_
 simp only [RT] at hS4
 simp (disch := omega) only [↓RA, RZ, simprocAttr, hn, b4n (hS4.rd 1 rfl).cells]
 refine iJ (b1c o (ho.ab hS4) ⟨[1], 0, 0⟩ _ ⟨hS4.ax 1 rfl (fun _ => rfl), by decide, by decide, by decide, by decide⟩) ?_
 rintro r H5 ⟨lv, rfl, hT2⟩
 have hS5 := hS4.trans hT2
 simp only [RT] at hS5
 rw [f1]
 rw [if_pos f1, f2] at hS5
 simp (disch := omega) only [↓RA, RZ, simprocAttr, hn, hS5.ae 0 rfl]
 refine hS5.ai [(.int .u64 3)] b5p c0u rfl rfl (by simp [Value.cells]) rfl rfl (by decide) (by decide) fun w2 H6 hS6 => ?_
 simp only [RT] at hS6
 simp (disch := omega) only [↓RA, RZ, simprocAttr, hn, b4n (hS6.rd 3 rfl).cells]
 refine iJ (b2E o (ho.ab hS6) ⟨[3], 0, 0⟩ _ ⟨hS6.ax 3 rfl (fun _ => rfl), by decide, by decide, by decide, by decide⟩ f3 _ _ f4) ?_
 rintro r H7 ⟨nv, gv, rfl, -, hT3⟩
 have hS7 := hS6.trans hT3
 simp only [RT] at hS7
 simp (disch := omega) only [↓RA, RZ, simprocAttr, hn]
 refine hS7.eNew 3 [(.slice none 0 0), (.int .u64 0), (.int .u64 0)] rfl rfl rfl lN fun A2 H8 hS8 => ?_
 simp only [RT] at hS8
 simp (disch := omega) only [↓RA, RB, simprocAttr, hn]
 refine hS8.aa 6 rfl [nv, (.int .u64 0), (.int .u64 0)] rfl (by simp [OC, (hS8.rd 4 rfl).cells.2.1]) lN (by simp) fun H9 hS9 => ?_
 simp only [RT] at hS9
 simp (disch := omega) only [↓RA, RZ, simprocAttr, hn, hS9.ae 0 rfl]
 refine hS9.ai [(.int .u64 0)] b5p c0u rfl rfl (by simp [Value.cells]) rfl rfl (by decide) (by decide) fun w3 H10 hS10 => ?_
 simp only [RT] at hS10
 simp (disch := omega) only [↓RA, RZ, simprocAttr, hn, b5t (hS10.rd 7 rfl).cells]
 have hS2 := hS10
 refine iJ (b8C o (ho.ab hS10) ⟨[0], 1, 0⟩ _ ⟨hS10.ax 7 rfl (fun _ => rfl), by decide, by decide, by decide, by decide⟩) ?_
 rintro r H11 ⟨iv, rfl, hix, hT4⟩
 have hS11 := hS10.trans hT4
 simp only [RT] at hS11
 rw [if_pos f5, f6] at hix
 have hix2 := hix.step (hS2.aX (H' := H11))
 obtain ⟨X, hBX, hS12⟩ := hS11.ay (os := [⟨ptr A1 0 4, 0, _⟩, ⟨w1, 1, _⟩, ⟨lv, 2, _⟩, ⟨w2, 1, _⟩, ⟨nv, 1, _⟩, ⟨gv, 3, _⟩, ⟨ptr A2 0 3, 0, _⟩, ⟨w3, 1, _⟩])
 rw [f5]
 have hz : ∀ z ∈ [(39 : Int), 40], isN z := by
  intro z hz
  simp only [ek, ez, or_false] at hz
  rcases hz with rfl | rfl <;> exact ⟨by decide, by decide⟩
 have hL1 : ((([jF [39, 40]] : List Nt).length : Nat) : Int) = 1 := rfl
 have hL2 : ((([1] : List Nat).length : Nat) : Int) = 1 := rfl
 have hL3 : ((([zR 0 1] : List Ctl).length : Nat) : Int) = 1 := rfl
 have hL4 : ((([vP 0] : List Ctl).length : Nat) : Int) = 1 := rfl
 have hN1 : iA ([jF [39, 40]] : List Nt) 0 = jF [39, 40] := rfl
 have hN2 : iA ([1] : List Nat) 0 = 1 := rfl
 have hN3 : iA ([zR 0 1] : List Ctl) 0 = ⟨1, 0, 1⟩ := rfl
 have hN4 : iA ([vP 0] : List Ctl) 0 = ⟨2, 0, 0⟩ := rfl
 simp (disch := omega) only [↓RA, RB, simprocAttr, hn, eq_self]
 refine Wp.aQ kC [(10, 12), (10, 13)] (by kernel_rfl) (by kernel_rfl) ?_
 simp (disch := omega) only [↓RA, RZ, simprocAttr, hn, (hS12.ax 2 rfl (fun _ => rfl)).len, eq_self]
 simp (disch := omega) only [↓RA, RZ, simprocAttr, hn, (hS12.ax 2 rfl (fun _ => rfl)).idx, (hS12.ax 2 rfl (fun _ => rfl)).ae, ntc, hN1, eq_self]
 refine hS12.ai [I 39, I 40] a5D a8o rfl rfl (by simp [Value.cells]) rfl rfl (by decide) (by decide) fun w4 H12 hS13 => ?_
 simp only [RT] at hS13
 simp (disch := omega) only [↓RA, RZ, simprocAttr, hn, eq_self]
 have hF1 := hS13
 refine hS13.cF (c0Q [39, 40] hz _ (hS13.ax 8 rfl (fun _ => rfl)) (by decide)) fun H13 hS14 => ?_
 have hiy := hix2.step (hS14.kept hBX)
 simp (disch := omega) only [↓RA, RZ, simprocAttr, hn, eq_self, and_self]
 simp (disch := omega) only [↓RA, RZ, simprocAttr, hn, hS14.ld 6 rfl, (hS14.ax 4 rfl (fun _ => rfl)).len, eq_self]
 simp (disch := omega) only [↓RA, RZ, simprocAttr, hn, (hS14.ax 4 rfl (fun _ => rfl)).idx, (hS14.ax 4 rfl (fun _ => rfl)).ld, one, u64, hN2, eq_self]
 simp (disch := omega) only [↓RA, RZ, simprocAttr, hn, (hS14.ax 5 rfl (fun _ => rfl)).len, eq_self]
 simp (disch := omega) only [↓RA, RZ, simprocAttr, hn, (hS14.ax 5 rfl (fun _ => rfl)).idx, (hS14.ax 5 rfl (fun _ => rfl)).ae, Ctl.cells, a2W, hN3, eq_self, and_self]
 simp (disch := omega) only [↓RA, RZ, simprocAttr, hn, hiy.1.len, eq_self]
 simp (disch := omega) only [↓RA, RZ, simprocAttr, hn, hiy.1.idx, hiy.1.bz, hiy.1.ld, Ctl.cells, ntc, (hS13.ax 2 rfl (fun _ => rfl)).ae, (hS14.ax 2 rfl (fun _ => rfl)).ae, c4K, hN1, hN4, eq_self, and_self]
 exact hS0.trans (hS11.aj hBX hS14).forget
end Go.Ds
namespace Go.Ds
open Go.Proofs
set_option maxRecDepth 10000
def ltP (x y : Int × Int) : Prop := x.1 < y.1 ∨ (x.1 = y.1 ∧ x.2 < y.2)
theorem b6m {x : Int × Int} : ¬ ltP x x := by unfold ltP; omega
theorem b2Y {es : List (Int × Int)} (h : es.Pairwise fun a b => le2 a b = true) {i j : Nat} (hij : i < j) (hj : j < es.length) : le2 (iA es i) (iA es j) = true := by
 rw [jZ _ _ (by omega), jZ _ _ hj]
 exact dV.1 h i j (by omega) hj hij
theorem b3c {es : List (Int × Int)} (h : es.Pairwise fun a b => le2 a b = true) : ∀ m, m ≤ es.length → (yF es m).Pairwise ltP ∧ ∀ x, x ∈ yF es m ↔ ∃ j, j < m ∧ iA es j = x
 | 0, _ => ⟨by simp [yF], fun x => by simp [yF]⟩
 | m + 1, hm => by
   obtain ⟨h1, h2⟩ := b3c h m (by omega)
   rw [rG]
   by_cases hc : m = 0 ∨ iA es m ≠ iA es (m - 1)
   ·rw [if_pos hc]
    refine ⟨?_, fun x => ?_⟩
    ·rw [fH]
     refine ⟨h1, by simp, fun a ha b hb => ?_⟩
     obtain ⟨j, hj, rfl⟩ := (h2 a).1 ha
     obtain rfl := dz.1 hb
     have h3 := (oI _ _).1 (b2Y h hj (by omega))
     rcases hc with hc | hc
     ·omega
     ·by_cases he : j = m - 1
      ·subst he
       have hne : ¬ (iA es (m - 1) = iA es m) := fun e => hc e.symm
       rw [Prod.ext_iff] at hne
       unfold ltP
       omega
      ·have h4 := (oI _ _).1 (b2Y h (show j < m - 1 by omega) (by omega))
       have h5 := (oI _ _).1 (b2Y h (show m - 1 < m by omega) (by omega))
       have hne : ¬ (iA es (m - 1) = iA es m) := fun e => hc e.symm
       rw [Prod.ext_iff] at hne
       unfold ltP
       omega
    ·rw [dD, h2, dz]
     constructor
     ·rintro (⟨j, hj, e⟩ | e)
      ·exact ⟨j, by omega, e⟩
      ·exact ⟨m, by omega, e.symm⟩
     ·rintro ⟨j, hj, e⟩
      rcases dr.1 hj with e2 | e2
      ·exact .inl ⟨j, e2, e⟩
      ·subst e2
       exact .inr e.symm
   ·rw [if_neg hc, dp]
    refine ⟨h1, fun x => ?_⟩
    rw [h2]
    constructor
    ·rintro ⟨j, hj, e⟩
     exact ⟨j, by omega, e⟩
    ·rintro ⟨j, hj, e⟩
     rcases dr.1 hj with e2 | e2
     ·exact ⟨j, e2, e⟩
     ·subst e2
      have hc' : ¬ (j = 0) ∧ iA es j = iA es (j - 1) := ⟨fun e => hc (.inl e), gB fun e => hc (.inr e)⟩
      exact ⟨j - 1, by omega, by rw [← hc'.2]; exact e⟩
theorem c0o (l : List (Int × Int)) : (dd (vL l)).Pairwise ltP := (b3c (a1E l) _ (di _)).1
inductive Star {α : Type} (R : α → α → Prop) : α → α → Prop
 | refl (a : α) : Star R a a
 | tail {a b c : α} : Star R a b → R b c → Star R a c
theorem b0L (o : Org) (r : Reg) (l : List Ct) : (uA o r l).Pairwise ltP := c0o _
def pO (x : Nt) (z : Int) : Bool := if z < 64 then x.1.testBit z.toNat else x.2.testBit (z - 64).toNat
theorem a5N (x : Nt) (n z : Int) (hn : isN n) (hz : isN z) : pO (oK x n) z = (pO x z || decide (z = n)) := by
 unfold pO oK isN at *
 by_cases h1 : n < 64
 ·rw [if_pos h1]
  by_cases h2 : z < 64
  ·rw [if_pos h2, if_pos h2, Nat.testBit_or, gF]
   congr 1
   rw [decide_eq_decide]
   omega
  ·rw [if_neg h2, if_neg h2, decide_eq_false (by omega), Bool.or_false]
 ·rw [if_neg h1]
  by_cases h2 : z < 64
  ·rw [if_pos h2, if_pos h2, decide_eq_false (by omega), Bool.or_false]
  ·rw [if_neg h2, if_neg h2, Nat.testBit_or, gF]
   congr 1
   rw [decide_eq_decide]
   omega
theorem zJ (z : Int) : pO (0, 0) z = false := by
 unfold pO
 split <;> simp
theorem b0l {x y : Nt} (hx : Nt.Ok x) {z : Int} (hz : isN z) : pO (woF x y) z = (pO x z && !pO y z) := by
 obtain ⟨h1, h2⟩ := hz
 unfold pO woF
 by_cases h : z < 64
 ·rw [if_pos h, if_pos h, if_pos h, a6X _ _ _ hx.1 (by omega)]
 ·rw [if_neg h, if_neg h, if_neg h, a6X _ _ _ hx.2 (by omega)]
theorem a8p {x y : Nt} (hx : Nt.Ok x) (h : woF x y = (0, 0)) {z : Int} (hz : isN z) (hh : pO x z = true) : pO y z = true := by
 have := b0l (y := y) hx hz
 rw [h, zJ, hh] at this
 simpa using this.symm
theorem a8c {o : Org} {ks : List Nt} (h : vM o ks = 0) : organE o = 0 ∧ ks.length = o.dvs.length ∧ ∀ j, j < o.dvs.length → woF (iA ks j) (a2n (iA o.dvs j).lo (iA o.dvs j).hi) = (0, 0) := by
 unfold vM at h
 split at h
 ·rename_i hh; exact absurd h hh
 rename_i h1
 split at h
 ·omega
 rename_i h2
 split at h
 ·omega
 rename_i h3
 refine ⟨dC.1 h1, by omega, fun j hj => ?_⟩
 by_cases hh : woF (iA ks j) (a2n (iA o.dvs j).lo (iA o.dvs j).hi) = (0, 0)
 ·exact hh
 ·exact absurd ⟨j, hj, hh⟩ h3
structure SegsOk (m : Nat) (lo hi : Int) (gs : List Seg) : Prop where
 ord : ∀ i, i < gs.length → (iA gs i).lo ≤ (iA gs i).hi
 up : ∀ i, i < gs.length → 0 < i → (iA gs (i - 1)).hi < (iA gs i).lo
 within : ∀ i, i < gs.length → lo ≤ (iA gs i).lo ∧ (iA gs i).hi ≤ hi
 draws : ∀ i, i < gs.length → lF m (iA gs i).draws = 0
 len : gs.length ≤ 12
theorem SegsOk.lt {m : Nat} {lo hi : Int} {gs : List Seg} (h : SegsOk m lo hi gs) {i : Nat} : ∀ k, i + 1 + k < gs.length → (iA gs i).hi < (iA gs (i + 1 + k)).lo
 | 0, hk => h.up (i + 1) hk (by omega)
 | k + 1, hk => by
   have h1 := h.lt (i := i) k (by omega)
   have h2 := h.ord (i + 1 + k) (by omega)
   have h3 := h.up (i + 1 + (k + 1)) hk (by omega)
   rw [show i + 1 + (k + 1) - 1 = i + 1 + k by omega] at h3
   omega
theorem SegsOk.one {m : Nat} {lo hi : Int} {gs : List Seg} (h : SegsOk m lo hi gs) {key : Int} {i j : Nat} (hi' : i < gs.length) (hj : j < gs.length) (h1 : (iA gs i).lo ≤ key ∧ key ≤ (iA gs i).hi) (h2 : (iA gs j).lo ≤ key ∧ key ≤ (iA gs j).hi) : i = j := by
 rcases Nat.lt_trichotomy i j with e | e | e
 ·have := h.lt (i := i) (j - i - 1) (by omega)
  rw [show i + 1 + (j - i - 1) = j by omega] at this
  omega
 ·exact e
 ·have := h.lt (i := j) (i - j - 1) (by omega)
  rw [show j + 1 + (i - j - 1) = i by omega] at this
  omega
end Go.Ds
namespace Go.Ds
open Go.Proofs
variable {H : Heap}
set_option maxRecDepth 10000
set_option maxHeartbeats 1000000
def rkE (o : Org) (rg : Reg) (ks : List Nt) : Int := if kO o rg ≠ 0 then kO o rg else vM o ks
theorem b5X {x y : Nt} (hx : Nt.Ok x) (h : ∀ z, isN z → pO x z = true → pO y z = true) : woF x y = (0, 0) := by
 have k : ∀ z, isN z → pO (woF x y) z = false := fun z hz => by
  rw [b0l hx hz]
  cases e : pO x z with
  | false => rfl
  | true => rw [h z hz e]; rfl
 have big : ∀ a : Nat, a < 18446744073709551616 → ∀ j, 64 ≤ j → a.testBit j = false := fun a ha j hj =>
  Nat.testBit_lt_two_pow (dM (show a < 2 ^ 64 from ha) (fS (by decide) hj))
 obtain ⟨h1, h2⟩ := c0N x y
 apply gT
 ·apply Nat.eq_of_testBit_eq
  intro j
  rw [Nat.zero_testBit]
  by_cases hj : 64 ≤ j
  ·exact big _ h1 j hj
  ·have := k (j : Int) ⟨by omega, by omega⟩
   unfold pO at this
   rw [if_pos (by omega)] at this
   exact this
 ·apply Nat.eq_of_testBit_eq
  intro j
  rw [Nat.zero_testBit]
  by_cases hj : 64 ≤ j
  ·exact big _ h2 j hj
  ·have := k (64 + j : Int) ⟨by omega, by omega⟩
   unfold pO at this
   rw [if_neg (by omega), show (64 + (j : Int) - 64).toNat = j by omega] at this
   exact this
end Go.Ds
namespace Go.Ds
open Go.Proofs
set_option maxRecDepth 10000
theorem Star.mono {α : Type} {R R' : α → α → Prop} (h : ∀ a b, R a b → R' a b) {a b : α} (hs : Star R a b) : Star R' a b := by
 induction hs with
 | refl => exact .refl _
 | tail _ h2 ih => exact .tail ih (h _ _ h2)
end Go.Ds
namespace Go.Ds
open Go.Proofs Go.Shelf Go.RowKit Go.Lib Go.Sort
def sm (x : Int × Int) : Prop := -1000000000 ≤ x.1 ∧ x.1 ≤ 1000000000 ∧ -1000000000 ≤ x.2 ∧ x.2 ≤ 1000000000
abbrev Sm := {x : Int × Int // sm x}
instance : Inhabited Sm := ⟨⟨(0, 0), by unfold sm; decide⟩⟩
section
variable {H : Heap}
end
end Go.Ds
namespace Go.Ds
open Go.Proofs
variable {H : Heap}
set_option maxRecDepth 10000
set_option maxHeartbeats 1000000
end Go.Ds
namespace Go.Ds
open Go.Proofs Go.Shelf Go.RowKit Go.Lib Go.Sort
section
variable {H : Heap}
end
end Go.Ds
namespace Go.Ds
open Go.Proofs
variable {H : Heap}
set_option maxRecDepth 10000
set_option maxHeartbeats 1000000
end Go.Ds
namespace Go.Ds
open Go.Proofs Go.Proofs.Tryz
variable {H : Heap}
set_option maxRecDepth 10000
set_option maxHeartbeats 1000000
theorem b4m (v : Value) (xs : List Ct) (hv : Sl 2 kB H v xs) (hl : xs.length < 1000000000) (k : FuncId) (caps : List Value) (p : Nat → Bool)
 (hf : ∀ j H1, j < xs.length → St prog H H1 [] → Fn prog k (.agg #[I (iA xs j).1, I (iA xs j).2] :: caps) H1 fun r H2 => r = .bool (p j) ∧ St prog H1 H2 []) :
 Fn prog 137 [v, .func (.func k) #[] caps.toArray] H fun r H' => r = I (mW p xs.length) ∧ St prog H H' [] := by
 refine .aC func137 rfl (by kernel_rfl) (m := 19) rfl fun l hn g0 g1 => ?_
 simp (disch := omega) only [↓RA, RZ, simprocAttr, hn, g0, ((sR H).sl hv).len]
 refine Wp.al (fun n l H' => l.length = 19 ∧ get l 0 = v ∧ get l 1 = .func (.func k) #[] caps.toArray ∧ get l 7 = I xs.length ∧ ∃ (j : Nat), (n + j = xs.length ∧ ∀ q, q < j → p q = false) ∧ get l 8 = I j ∧ St prog H H' []) xs.length ?_ ?_
 ·simp (disch := omega) only [RB, RC, simprocAttr, hn, g0, g1]
  exact ⟨0, ⟨by omega, fun q hq => absurd hq (dK _)⟩, rfl, (sR H)⟩
 rintro n l H1 ⟨hn, g0, g1, g7, j, ⟨hi,h0⟩, g8, hS1⟩
 simp (disch := omega) only [↓RA, RB, simprocAttr, hn, g7, g8]
 refine gZ (fun h => ?_) (fun h => ?_)
 ·simp (disch := omega) only [↓RA, RZ, simprocAttr, hn, g0, g1, g8, (hS1.sl hv).idx, (hS1.sl hv).ae, kB, h]
  refine hS1.cF (hf j _ (by omega) hS1) fun H2 hS2 => ?_
  simp (disch := omega) only [↓RA, RZ, simprocAttr, hn, h]
  refine jK (fun hp => ?_) (fun hp => ?_)
  ·simp (disch := omega) only [↓RA, RZ, simprocAttr, hn, b8K, h, hp]
   exact ⟨by rw [uR p xs.length j (by omega) hp h0], hS2⟩
  simp (disch := omega) only [↓RA, RZ, simprocAttr, hn, g0, g1, g7, g8, h, hp]
  exact ⟨n - 1, by omega, j + 1, ⟨by omega, fun q hq => by rcases dr.1 hq with e | e; (· exact h0 q e); (· rw [e]; exact hp)⟩, by simp, hS2⟩
 simp (disch := omega) only [↓RA, RZ, simprocAttr, hn, b8K, h]
 exact ⟨by rw [uM p xs.length fun q hq => h0 q (by omega)], hS1⟩
theorem c2V : a3K prog 45 = some (1 + 1) := by kernel_rfl
structure Frs {α : Type} (n : Nat) (cel : α → List Value) (H : Heap) (v : Value) (xs : List α) (tl : List Value) (L : Nat) : Prop where
 rd : RdAt H v n (xs.flatMap cel ++ tl)
 hc : ∀ x, (cel x).length = n
 pos : 0 < n
 hL : L = xs.length
theorem nU (v : Value) (n lo k j f : Nat) : jM (kS v n lo k) n j f = jM v n (lo + j) f := by
 unfold kS
 split
 ·simp only [jM, Value.pointer.injEq, dA, Addr.mk.injEq, true_and, and_true]
  rw [eS]
  omega
 ·rename_i h
  unfold jM
  split
  ·exact absurd rfl (h _ _ _ _ _)
  ·rfl
theorem zM (v : Value) (n lo k lo2 k2 : Nat) : kS (kS v n lo k) n lo2 k2 = kS v n (lo + lo2) k2 := by
 cases v with
 | slice a m c =>
   cases a with
   | none => rfl
   | some a =>
     obtain ⟨A, i, e⟩ := a
     simp only [kS, Value.slice.injEq, dA, Addr.mk.injEq, true_and, and_true]
     rw [eS]
     omega
 | _ => rfl
section
variable {P : Program} {α : Type} {n : Nat} {cel : α → List Value} {v : Value} {xs : List α} {tl : List Value} {L : Nat}
theorem Frs.sl (h : Frs n cel H v xs tl L) : Sl n cel H (kS v n 0 L) xs := by
 refine ⟨?_, h.hc, h.pos⟩
 have hl := iM h.hc xs
 rw [h.hL]
 by_cases h0 : xs.flatMap cel ++ tl = []
 ·have hx : xs.length = 0 := by
   have := congrArg List.length h0
   rw [dg, hl, eA] at this
   have h2 : xs.length * n = 0 := by omega
   rcases Nat.mul_eq_zero.1 h2 with h3 | h3
   ·exact h3
   ·have := h.pos; omega
  obtain rfl := fj.1 hx
  have hr := h.rd
  rw [h0] at hr
  obtain ⟨m, rfl⟩ : ∃ m, n = m + 1 := ⟨n - 1, by have := h.pos; omega⟩
  have e := RdAt.sub_self (n := 0) hr (by simp)
  show RdAt H (kS v (m + 1) 0 0) (m + 1) []
  rw [e]
  exact hr
 ·have h5 := RdAt.sub h.rd 0 xs.length (by rw [dg, hl]; omega) h0
  rw [Nat.zero_mul, gR, ← hl, List.take_left' rfl] at h5
  exact h5
theorem Frs.len (h : Frs n cel H v xs tl L) (m : Nat) (t : TypeId) : a1e (some m) P H t (kS v n 0 L) = some (.int .i64 L) := by
 rw [h.sl.len m t, h.hL]
theorem Frs.idx (h : Frs n cel H v xs tl L) (t : TypeId) (k : IntKind) (j : Int) (h0 : 0 ≤ j) (h1 : j < xs.length) : a1A (some n) P t (kS v n 0 L) (.int k j) = some (jM v n j.toNat 0) := by
 rw [h.sl.idx t k j h0 h1, nU, eX]
theorem Frs.bz (h : Frs n cel H v xs tl L) (j : Nat) (hj : j < xs.length) (g d : Nat) : a7o (some d) (jM v n j g) = some (jM v n j (g + d)) := by
 have := h.sl.bz j hj g d
 rwa [nU, nU, eX] at this
theorem Frs.ld [Inhabited α] (h : Frs n cel H v xs tl L) (s : Option Nat) (j f : Nat) (hj : j < xs.length) (hf : f < n) : oJ (some false) s H (jM v n j f) = (cel (iA xs j))[f]? := by
 have := h.sl.ld s j f hj hf
 rwa [nU, eX] at this
theorem Frs.ae [Inhabited α] (h : Frs n cel H v xs tl L) (j : Nat) (hj : j < xs.length) : oJ (some true) (some n) H (jM v n j 0) = some (.agg (cel (iA xs j)).toArray) := by
 have := h.sl.ae j hj
 rwa [nU, eX] at this
theorem Frs.aK (h : Frs n cel H v xs tl L) (o : Oper) (l : List Value) (H' : Heap) (k : IntKind) (a : Int) (K : Value → Heap → Prop) (h0 : 0 < xs.length) (h1 : 0 ≤ a) (h2 : a ≤ xs.length) :
 nM P o l H' (some n) (kS v n 0 L) (some (.int k a)) none K = oA (kS v n a.toNat (L - a).toNat) fun v => K v H' := by
 rw [h.sl.aK o l H' k a K h0 h1 h2, zM, eX, h.hL]
theorem Frs.aL (h : Frs n cel H v xs tl L) (o : Oper) (l : List Value) (H' : Heap) (k : IntKind) (a : Int) (K : Value → Heap → Prop) (h0 : 0 < xs.length) (h1 : 0 ≤ a) (h2 : a ≤ xs.length) :
 nM P o l H' (some n) (kS v n 0 L) none (some (.int k a)) K = oA (kS v n 0 a.toNat) fun v => K v H' := by
 rw [h.sl.aL o l H' k a K h0 h1 h2, zM, eX]
theorem Frs.cells (h : Frs n cel H v xs tl L) : (kS v n 0 L).cells = #[kS v n 0 L] ∧ oneCell (kS v n 0 L) = true ∧ mY (kS v n 0 L) = true := h.sl.cells
theorem St.bY {B : Base} {os : List Ob} (hS : St P B H os) (i : Nat) {m : Nat} (ho : os[i]? = some ⟨v, m + 1, xs.flatMap cel ++ tl⟩) (hc : ∀ x, (cel x).length = m + 1) (hL : L = xs.length) : Frs (m + 1) cel H v xs tl L := ⟨hS.rd i ho, hc, fx _, hL⟩
end
theorem c3I {B : Base} {v : Value} {xs : List Ct} {tl : List Value} (hS : St prog B H [⟨v, 2, pr xs ++ tl⟩]) (hl : xs.length < 100000000) (k : FuncId) (caps : List Value) (p : Ct → Bool)
 (hf : ∀ c ∈ xs, ∀ {H1 : Heap} {os : List Ob}, St prog B H1 os → Fn prog k (.agg #[I c.1, I c.2] :: caps) H1 fun r H2 => r = .bool (p c) ∧ St prog H1 H2 []) :
 Fn prog 85 [kS v 2 0 xs.length, .func (.func k) #[] caps.toArray] H fun r H' => ∃ rest : List Value, r = kS v 2 0 (xs.filter fun c => !p c).length ∧ St prog B H' [⟨v, 2, pr (xs.filter fun c => !p c) ++ rest⟩] := by
 refine .aC func85 rfl (by kernel_rfl) (m := 42) rfl fun l hn g0 g1 => ?_
 simp (disch := omega) only [↓RA, RZ, simprocAttr, hn, g0, g1]
 refine hS.cF (b4m (kS v 2 0 xs.length) xs ((hS.bY (cel := kB) (xs := xs) 0 rfl (fun _ => rfl) rfl).sl) (by omega) k caps (fun j => p (iA xs j)) (fun j H1 hj hS' => hf _ (iD hj) (hS.trans hS'))) fun H1 hS1 => ?_
 simp (disch := omega) only [↓RA, RB, simprocAttr, hn]
 refine gZ (fun h1 => ?_) (fun h1 => ?_)
 ·have hno : ∀ c ∈ xs, p c = false := by
   intro c hc
   obtain ⟨j, hj, rfl⟩ := dP.1 hc
   have h2 : ¬ 0 ≤ mW (fun j => p (iA xs j)) xs.length := by omega
   rw [xK] at h2
   rw [← jZ xs j hj, ← eE]
   exact fun hp => h2 ⟨j, hj, hp⟩
  have hfe : (xs.filter fun c => !p c) = xs := gG.2 fun c hc => by rw [hno c hc]; rfl
  simp (disch := omega) only [↓RA, RZ, simprocAttr, hn, g0, c2S, h1]
  exact ⟨tl, by rw [hfe], by rw [hfe]; exact hS1⟩
 have hge : 0 ≤ mW (fun j => p (iA xs j)) xs.length := by
  unfold mW at h1 ⊢
  split
  ·omega
  ·rename_i hq
   rw [hq] at h1
   exact absurd rfl h1
 obtain ⟨i0, hi0⟩ : ∃ i0 : Nat, mW (fun j => p (iA xs j)) xs.length = i0 := ⟨_, (eY hge).symm⟩
 have hi0l := xF hi0
 have hi0b : (∀ j, j < i0 → p (iA xs j) = false) ∧ p (iA xs i0) = true := by
  unfold mW at hi0
  split at hi0
  ·rename_i q hq
   have hqi : q = i0 := by omega
   subst hqi
   rw [List.find?_range_eq_some] at hq
   exact ⟨fun j hj => by have := hq.2.2 j hj; simpa using this, hq.1⟩
  ·omega
 have hD0 : ((xs.take (i0 + 1)).filter fun c => !p c) = xs.take i0 := by
  rw [kF xs i0 hi0l, eB]
  have e1 : ([iA xs i0].filter fun c => !p c) = [] := by simp [hi0b.2]
  rw [e1, dp]
  refine gG.2 fun c hc => ?_
  obtain ⟨j, hj, rfl⟩ := dP.1 hc
  have hj2 : j < i0 := by rw [eI] at hj; omega
  have := hi0b.1 j hj2
  rw [jZ xs j (by omega)] at this
  rw [List.getElem_take, this]
  rfl
 simp (disch := omega) only [↓RA, RZ, simprocAttr, hn, hi0]
 have hrow : St prog B H1 [⟨v, 2, pr (((xs.take (i0 + 1)).filter fun c => !p c) ++ xs.drop ((xs.take (i0 + 1)).filter fun c => !p c).length) ++ tl⟩] := by
  rw [hD0, eI, fz (by omega), fM]
  exact hS1
 have hlt0 : ((xs.take (i0 + 1)).filter fun c => !p c).length < i0 + 1 := by
  rw [hD0, eI]
  omega
 refine Wp.al (fun n l H' => l.length = 42 ∧ get l 0 = kS v 2 0 xs.length ∧ get l 1 = .func (.func k) #[] caps.toArray ∧ ∃ j : Nat, (n + j = xs.length ∧ ((xs.take j).filter fun c => !p c).length < j) ∧ get l 5 = I ((xs.take j).filter fun c => !p c).length ∧ get l 6 = I j ∧ St prog B H' [⟨v, 2, pr (((xs.take j).filter fun c => !p c) ++ xs.drop ((xs.take j).filter fun c => !p c).length) ++ tl⟩]) (xs.length - (i0 + 1)) ?_ ?_
 ·simp (disch := omega) only [RB, RC, simprocAttr, hn, g0, g1]
  refine ⟨i0 + 1, ⟨by omega, hlt0⟩, ?_, by simp, hrow⟩
  rw [hD0, eI, fz (by omega)]
 clear hrow hlt0
 rintro n l H9 ⟨hn, g0, g1, j, ⟨hj, hlt⟩, g5, g6, hS9⟩
 have hsucc : j < xs.length → ((xs.take (j + 1)).filter fun c => !p c) = ((xs.take j).filter fun c => !p c) ++ (if p (iA xs j) = true then [] else [iA xs j]) := fun h => by
  rw [kF xs j h, eB]
  congr 1
  by_cases hp : p (iA xs j) = true
  ·rw [if_pos hp]; simp [hp]
  ·rw [if_neg hp]; simp [hp]
 have hall : j = xs.length → ((xs.take j).filter fun c => !p c) = xs.filter fun c => !p c := fun h => by rw [h, ef]
 generalize hD : ((xs.take j).filter fun c => !p c) = D at g5 hlt hS9 hsucc hall
 have hjl : j ≤ xs.length := by omega
 have hrl : (D ++ xs.drop D.length).length = xs.length := by rw [dg, eh]; omega
 have hat : ∀ q, D.length ≤ q → iA (D ++ xs.drop D.length) q = iA xs q := fun q hq => by
  unfold iA
  rw [dc, dU hq, dB, dc]
  congr 2; omega
 have hatj := hat j (by omega)
 simp (disch := omega) only [↓RA, RZ, simprocAttr, hn, g0, g6, (hS9.bY (cel := kB) (xs := D ++ xs.drop D.length) (L := xs.length) 0 rfl (fun _ => rfl) hrl.symm).len]
 refine gZ (fun h4 => ?_) (fun h4 => ?_)
 ·have hjx : j < xs.length := by omega
  have hsu := hsucc hjx
  simp (disch := omega) only [↓RA, RZ, simprocAttr, hn, g0, g6, (hS9.bY (cel := kB) (xs := D ++ xs.drop D.length) (L := xs.length) 0 rfl (fun _ => rfl) hrl.symm).idx, (hS9.bY (cel := kB) (xs := D ++ xs.drop D.length) (L := xs.length) 0 rfl (fun _ => rfl) hrl.symm).ae, kB, hatj, h4]
  refine hS9.eNew 2 [I 0, I 0] rfl rfl rfl sL fun A1 H2 hS2 => ?_
  simp only [RT] at hS2
  simp (disch := omega) only [↓RA, RZ, simprocAttr, hn, h4]
  refine hS2.aa 1 rfl [I (iA xs j).1, I (iA xs j).2] rfl rfl sL (by simp) fun H3 hS3 => ?_
  simp only [RT] at hS3
  simp (disch := omega) only [↓RA, RZ, simprocAttr, hn, g1, hS3.ae 1 rfl, h4]
  refine hS3.cF (hf (iA xs j) (iD hjx) hS3) fun H4 hS4 => ?_
  simp (disch := omega) only [↓RA, RZ, simprocAttr, hn, h4]
  refine jK (fun h5 => ?_) (fun h5 => ?_)
  ·have hpf : ¬ p (iA xs j) = true := by simpa using h5
   rw [if_neg hpf] at hsu
   simp (disch := omega) only [↓RA, RZ, simprocAttr, hn, g0, g5, hS4.ae 1 rfl, (hS4.bY (cel := kB) (xs := D ++ xs.drop D.length) (L := xs.length) 0 rfl (fun _ => rfl) hrl.symm).idx, h4, h5]
   refine hS4.aP 0 rfl [I (iA xs j).1, I (iA xs j).2] rfl rfl sL (by simp) (by rw [dg, iE, hrl]; simp; omega) fun H5 hS5 => ?_
   simp only [RT] at hS5
   simp (disch := omega) only [↓RA, RZ, simprocAttr, hn, g0, g1, g5, g6, h4, h5]
   refine ⟨n - 1, by omega, j + 1, ?_⟩
   rw [hsu]
   refine ⟨⟨by omega, by simp; omega⟩, by simp, by simp, ?_⟩
   have e3 : pr (D ++ [iA xs j] ++ xs.drop (D ++ [iA xs j]).length) ++ tl = ((pr (D ++ xs.drop D.length) ++ tl).set (D.length * 2) (I (iA xs j).1)).set (D.length * 2 + 1) (I (iA xs j).2) := by
    have hx : xs.drop D.length = iA xs D.length :: xs.drop (D.length + 1) := by
     rw [jZ xs _ (by omega)]
     exact eL (by omega)
    rw [hx, dg, gj, jT, jT, jT]
    have e4 : pr (iA xs D.length :: xs.drop (D.length + 1)) = I (iA xs D.length).1 :: I (iA xs D.length).2 :: pr (xs.drop (D.length + 1)) := rfl
    have e5 : pr [iA xs j] = [I (iA xs j).1, I (iA xs j).2] := rfl
    have e6 : (pr D).length = D.length * 2 := iE D
    rw [e4, e5, show pr D ++ (I (iA xs D.length).1 :: I (iA xs D.length).2 :: pr (xs.drop (D.length + 1))) ++ tl = pr D ++ (I (iA xs D.length).1 :: I (iA xs D.length).2 :: (pr (xs.drop (D.length + 1)) ++ tl)) from by simp, dS _ _ (by omega), dS _ _ (by omega), e6, gA, fo]
    simp
   rw [e3]
   exact hS5.pick [0] (by decide) rfl
  have hpt : p (iA xs j) = true := by simpa using h5
  rw [if_pos hpt, dp] at hsu
  simp (disch := omega) only [↓RA, RZ, simprocAttr, hn, g0, g1, g5, g6, h4, h5]
  refine ⟨n - 1, by omega, j + 1, ?_⟩
  rw [hsu]
  exact ⟨⟨by omega, by omega⟩, rfl, by simp, hS4.pick [0] (by decide) rfl⟩
 have hje : j = xs.length := by omega
 have hDe := hall hje
 have hcl : (pr (D ++ xs.drop D.length) ++ tl).length = xs.length * (1 + 1) + tl.length := by rw [dg, iE, hrl]
 have hDn : D.length ≤ xs.length := by omega
 simp (disch := omega) only [↓RA, RZ, simprocAttr, hn, g0, g5, (hS9.bY (cel := kB) (xs := D ++ xs.drop D.length) (L := xs.length) 0 rfl (fun _ => rfl) hrl.symm).aK, h4]
 rw [show ((xs.length : Int) - D.length).toNat = xs.length - D.length from by omega]
 refine hS9.bm (size := 1) 0 rfl D.length (xs.length - D.length) (by rw [hcl]; omega) (by
  intro e
  have h2 : (pr (D ++ xs.drop D.length) ++ tl).length = 0 := by rw [e]; rfl
  rw [hcl] at h2; omega) c2V fun z H3 hz hSc => ?_
 simp only [RT] at hSc
 have e3 : iX (pr (D ++ xs.drop D.length) ++ tl) (D.length * 2) z = pr D ++ (z ++ tl) := by
  rw [jT, dy, show D.length * 2 = (pr D).length from (iE D).symm, lZ z (pr D) (pr (xs.drop D.length) ++ tl) (by rw [dg, iE, eh]; omega), show z.length = (pr (xs.drop D.length)).length from by rw [hz, iE, eh], List.drop_left, dy]
 rw [show D.length * (1 + 1) = D.length * 2 from rfl, e3] at hSc
 have hwl : (pr D ++ z).length = xs.length * (1 + 1) := by rw [dg, iE, hz]; omega
 have hw : RdAt H3 (kS v (1 + 1) 0 xs.length) (1 + 1) (pr D ++ z) := by
  have h5 := RdAt.sub (hSc.rd 0 rfl) 0 xs.length (by rw [← dy, dg, hwl]; omega) (by
   intro e
   have h2 := congrArg List.length e
   rw [← dy, dg, hwl, eA] at h2
   omega)
  rw [Nat.zero_mul, gR, ← dy, ← hwl, List.take_left' rfl] at h5
  exact h5
 have hsl9 := fun o l H' k a K h0 h1 h2 => (hw.aL (P := prog) hwl o l H' k a K h0 h1 h2).trans (by rw [zM, eX])
 simp (disch := omega) only [↓RA, RZ, simprocAttr, hn, g0, g5, hsl9, c2S, h4]
 exact ⟨z ++ tl, by rw [← hDe], by rw [← hDe]; exact hSc⟩
end Go.Ds
namespace Go.Ds
open Go
section
variable {P : Program} {H : Heap}
theorem SWr.mono : ∀ (c : Code) {l : List Value} {H : Heap} {M Q : mU}, (∀ e l H, M e l H → Q e l H) → SWr P c l H M → SWr P c l H Q := by
 intro c
 induction c with
 | skip => intro l H M Q hm h; exact hm _ _ _ h
 | label t => intro l H M Q hm h; exact hm _ _ _ h
 | exit id => intro l H M Q hm h; exact hm _ _ _ h
 | ret => intro l H M Q hm h; exact hm _ _ _ h
 | seq a b iha ihb =>
   intro l H M Q hm h
   refine iha ?_ h
   intro e l1 H1 h1
   cases e with
   | normal => exact ihb hm h1
   | exit i => exact hm _ _ _ h1
   | ret => exact hm _ _ _ h1
 | block id b ih =>
   intro l H M Q hm h
   exact ih (fun e l1 H1 h1 => hm _ _ _ h1) h
 | cond c x y ihx ihy =>
   intro l H M Q hm h
   cases c with
   | tmp t => exact vQ h (ihx hm) (ihy hm)
   | _ => exact Wp.mono h hm
 | region id ops d =>
   intro l H M Q hm h
   cases d with
   | true => exact Wp.mono h hm
   | false => exact zD (fun l H h => hm _ _ _ h) _ _ _ h
 | _ => intro l H M Q hm h; exact Wp.mono h hm
def b7z (I : List Value → Heap → Prop) (Q : mU) : mU := fun e l1 H1 => match e with | .normal => I l1 H1 | e => Q e l1 H1
theorem a0n (I : List Value → Heap → Prop) (Q : mU) (l : List Value) : b7z I Q .normal l H = I l H := rfl
theorem a8r {v : Value} {x y : Code} {l : List Value} {Q : mU} (I : List Value → Heap → Prop) (hm : ∀ l H, I l H → Q .normal l H) (h : pD v (SW P x l H (b7z I Q)) (SW P y l H (b7z I Q))) : pD v (SW P x l H Q) (SW P y l H Q) := by
 have hc : ∀ e l H, b7z I Q e l H → Q e l H := fun e l H h => by
  cases e with
  | normal => exact hm _ _ h
  | exit i => exact h
  | ret => exact h
 exact vQ h (SWr.mono x hc) (SWr.mono y hc)
end
end Go.Ds
namespace Go.Ds
noncomputable section
variable {P : Program} {H0 : Base} {H : Heap} {os : List Ob} {κ β : Type} [DecidableEq κ] {enc : κ → Value} {f : β → Value} {z : Value} {t : TypeId}
theorem St.ba {o : Ob} (h : OwnAt P H o) : St P ⟨H, oP [o]⟩ H [o] where
 len := di _
 old := fun _ _ _ => rfl
 own := fun x hx => by rw [dz.1 hx]; exact h
 new := fun x hx B hB => .inr ⟨x, hx, hB⟩
 sep := List.pairwise_singleton _ _
theorem OwnAt.st {H0 : Heap} {o : Ob} (h : OwnAt P H0 o) (hS : St P H0 H os) : OwnAt P H o := h.ab fun B hB => hS.ab B (h.lt hB)
theorem b2A (kvs : List (κ × β)) (k k2 : κ) (b : β) (h : pJ kvs k = none) : pJ (kvs ++ [(k, b)]) k2 = if k2 = k then some b else pJ kvs k2 := by
 unfold pJ at h ⊢
 rw [List.find?_append]
 by_cases hk : k2 = k
 ·subst hk
  rw [if_pos rfl]
  cases hf : kvs.find? (fun p => decide (p.1 = k2)) with
  | none => simp
  | some p => rw [hf] at h; cases h
 ·rw [if_neg hk]
  cases hf : kvs.find? (fun p => decide (p.1 = k2)) with
  | none => simp [ey hk]
  | some p => simp
theorem St.cH (hS : St P H0 H os) (i : Nat) {A : Nat} {kvs : List (κ × β)} (ho : os[i]? = some ⟨.map (some A), 0, kcs enc f kvs⟩) (hk : MapK P t enc z) (hf : ∀ b, mE (f b) = true) {b0 : β} (hz : f b0 = z) {k : κ} {K : Value → Heap → Prop}
 (h : ∀ x (n : Nat) H1, (∀ (k2 : κ) (K : Value → Prop), a0z P H1 t (.map (some A)) (enc k2) false K = K (((pJ kvs k2).map f).getD z)) →
   (∀ (v : β) (K2 : Heap → Prop), (∀ H2, St P H0 H2 (os.set i ⟨.map (some A), 0, kcs enc f (zB kvs k v)⟩) → K2 H2) → a3x H1 (.map (some A)) (.int .i64 n) (f v) K2) → K (.tuple #[x, .int .i64 n]) H1) : b4P P H t (.map (some A)) (enc k) K := by
 obtain ⟨kt, et, h1, h2, h3, h4, h5, h6⟩ := hk.ex
 obtain ⟨es, ck, ver, h7, h8, hst⟩ := hS.bO i ho
 obtain ⟨h9, h10⟩ := a0O es kvs h8
 have hi := h5 k es (kvs.map (·.1)) (by rw [h9]; simp [gq])
 have hlt := jC h7
 have fin : ∀ (es1 : List MapEntry) (ck1 v1 j : Nat) (e1 : MapEntry) (v : β) (K2 : Heap → Prop), Stamps es1 ck1 → es1[j]? = some e1 → mcs (es1.set j { e1 with val := f v }) = kcs enc f (zB kvs k v) →
  (∀ H2, St P H0 H2 (os.set i ⟨.map (some A), 0, kcs enc f (zB kvs k v)⟩) → K2 H2) → a3x (hset H A (.map es1 ck1 v1)) (.map (some A)) (.int .i64 e1.born) (f v) K2 := by
  intro es1 ck1 v1 j e1 v K2 hs1 hj hm hK
  have hg1 : iL (hset H A (.map es1 ck1 v1)) A = some (.map es1 ck1 v1) := iP _ hlt
  refine ⟨hset (hset H A (.map es1 ck1 v1)) A (.map (es1.set j { e1 with val := f v }) ck1 (v1 + 1)), ?_, hK _ (hS.put i ho ?_ ?_ ?_ ?_)⟩
  ·simp only [qL, hg1, hs1.idx hj, hj, cY]
  ·unfold OwnAt
   rw [if_pos rfl]
   exact .inr ⟨A, _, ck1, _, iP _ (by rw [iY]; exact hlt), hm.symm, rfl, hs1.set hj _ rfl⟩
  ·rw [iY, iY]; exact di _
  ·intro B hB hne
   have hBA : A ≠ B := fun hh => hne (by simp [kE, hh])
   rw [pF hBA, pF hBA]
  ·exact fun B hB => .inl hB
 have lk : ∀ (es1 : List MapEntry) (ck1 v1 : Nat) (kvs1 : List (κ × β)), Stamps es1 ck1 → kcs enc f kvs1 = mcs es1 → (∀ k2, ((pJ kvs1 k2).map f).getD z = ((pJ kvs k2).map f).getD z) →
  ∀ (k2 : κ) (K : Value → Prop), a0z P (hset H A (.map es1 ck1 v1)) t (.map (some A)) (enc k2) false K = K (((pJ kvs k2).map f).getD z) := by
  intro es1 ck1 v1 kvs1 hs1 hm hkg k2 K
  have ho1 : OwnAt P (hset H A (.map es1 ck1 v1)) ⟨.map (some A), 0, kcs enc f kvs1⟩ := by
   unfold OwnAt
   rw [if_pos rfl]
   exact .inr ⟨A, es1, ck1, v1, iP _ hlt, hm, rfl, hs1⟩
  have hl := (St.ba ho1).cU 0 rfl hk hf false k2
  unfold a0z
  rw [hl, hkg]
  apply propext
  constructor
  ·rintro ⟨v, hv, hK⟩
   rw [← cX hv] at hK
   exact hK
  ·exact fun hK => ⟨_, rfl, hK⟩
 rcases a4p kvs k with ⟨j, x, e1, e2, _⟩ | ⟨e1, e4⟩
 ·have hj : es[j]?.map (·.key) = some (enc x.1) := by
   rw [← ec, h9, ec, e2]; rfl
  have hjv : es[j]?.map (·.val) = some (f x.2) := by
   rw [← ec, h10, ec, e2]; rfl
  have hx : x.1 = k := by
   have := fN.1 e1
   obtain ⟨hlt, hd, _⟩ := this
   have hlt' : j < kvs.length := by simpa using hlt
   have : kvs[j] = x := by
    rw [du hlt'] at e2
    exact cX e2
   simp [this] at hd
   exact hd
  cases he : es[j]? with
  | none => rw [he] at hj; simp at hj
  | some e =>
    rw [he] at hj hjv
    simp only [dN, dA] at hj hjv
    have hjl := (dq.1 he).1
    have hes : mcs (es.set j { e with key := enc k }) = mcs es := by
     have hee : ({ e with key := enc k } : MapEntry) = e := by
      rw [← hx, ← hj]
     rw [hee]
     have : es.set j e = es := by
      obtain ⟨_, hg⟩ := dq.1 he
      rw [← hg]; exact gi _
     rw [this]
    refine ⟨.tuple #[e.val, .int .i64 e.born], hset H A (.map (es.set j { e with key := enc k }) ck (ver + 1)), ?_, h _ _ _ (lk _ ck (ver + 1) kvs (hst.set he _ rfl) (by rw [hes]; exact h8) fun _ => rfl) fun v K2 hK => fin (es.set j { e with key := enc k }) ck (ver + 1) j { e with key := enc k } v K2 (hst.set he _ rfl) (by rw [gp]; simp [hjl]) ?_ hK⟩
    ·have hsb : Instr.sameBits 10000 e.key (enc k) = true := by rw [hj, hx]; exact h6 k
     simp only [qK, h1, cY, h7, h4, if_true, hi, e1, he, hsb, hjv, hf, Bool.and_self, goInt]
    ·symm
     rw [a0T, e1, List.set_set]
     refine zE _ _ ?_ ?_
     ·rw [fE, fE, h9]
     ·rw [fE, fE, h10]
 ·have hln : (es ++ [({ key := enc k, val := z, born := ck } : MapEntry)])[es.length]? = some { key := enc k, val := z, born := ck } := by simp
  have hkn : pJ kvs k = none := by unfold pJ; rw [e4]; rfl
  have hpm : kcs enc f (kvs ++ [(k, b0)]) = mcs (es ++ [{ key := enc k, val := z, born := ck }]) := by
   refine zE _ _ ?_ ?_
   ·rw [dx, dx, h9]; simp
   ·rw [dx, dx, h10]; simp [hz]
  refine ⟨.tuple #[z, .int .i64 ck], hset H A (.map (es ++ [{ key := enc k, val := z, born := ck }]) (ck + 1) (ver + 1)), ?_, h _ _ _ (lk _ (ck + 1) (ver + 1) (kvs ++ [(k, b0)]) (hst.push _ rfl) hpm fun k2 => ?_) fun v K2 hK => fin _ (ck + 1) (ver + 1) es.length { key := enc k, val := z, born := ck } v K2 (hst.push _ rfl) hln ?_ hK⟩
  ·simp only [qK, h1, cY, h7, h4, if_true, hi, e1, h2, h3, goInt]
  ·rw [b2A kvs k k2 b0 hkn]
   by_cases hk2 : k2 = k
   ·subst hk2
    rw [if_pos rfl, hkn]
    simp [hz]
   ·rw [if_neg hk2]
  ·symm
   rw [a0T, e1]
   refine zE _ _ ?_ ?_
   ·rw [dS _ _ (di _), dx, dx, h9]; simp
   ·rw [dS _ _ (di _), dx, dx, h10]; simp
end
end Go.Ds
namespace Go.Ds
open Go.Proofs Go.Proofs.Tryz
variable {H : Heap}
set_option maxRecDepth 10000
set_option maxHeartbeats 1000000
theorem b8e (x : Nt) (hx : Nt.Ok x) (z : Int) (hz : isN z) : Fn prog 84 [.agg #[.int .u64 x.1, .int .u64 x.2], I z] H fun r H' => r = .bool (pO x z) ∧ St prog H H' [] := by
 have h0 : Nt.Ok ((0, 0) : Nt) := ⟨by decide, by decide⟩
 have ha : Nt.Ok (oK (0, 0) z) := b0E h0 hz.1 hz.2
 have hiff : decide (woF (oK (0, 0) z) x = (0, 0)) = pO x z := by
  cases h : pO x z with
  | true =>
    rw [decide_eq_true_iff]
    refine b5X ha fun y hy hh => ?_
    rw [a5N _ _ _ hz hy, zJ, Bool.false_or, decide_eq_true_iff] at hh
    rw [hh]; exact h
  | false =>
    rw [decide_eq_false_iff_not]
    intro e
    have := a8p ha e hz (by rw [a5N _ _ _ hz hz, zJ]; simp)
    rw [h] at this
    cases this
 refine .aC func84 rfl (by kernel_rfl) (m := 13) rfl fun l hn g0 g1 => ?_
 simp (disch := omega) only [↓RA, RB, simprocAttr, g0]
 refine (sR H).eNew 2 [(.int .u64 x.1), (.int .u64 x.2)] rfl rfl rfl mG fun A1 H1 hS1 => ?_
 simp only [RT] at hS1
 simp (disch := omega) only [↓RA, RZ, simprocAttr, hn, g1]
 refine hS1.cF (a3w z hz) fun H2 hS2 => ?_
 simp (disch := omega) only [↓RA, RZ, simprocAttr, hn]
 refine Wp.aQ kC [(3, 0)] (by kernel_rfl) (by kernel_rfl) ?_
 simp (disch := omega) only [↓RA, RZ, simprocAttr, hn, g1, b8N]
 refine hS2.cF (a1K (0, 0) h0 z hz.1 hz.2) fun H3 hS3 => ?_
 simp (disch := omega) only [↓RA, RZ, simprocAttr, hn, hS3.ae 0 rfl]
 refine hS3.cF (a1x (oK (0, 0) z) x) fun H4 hS4 => ?_
 rw [hiff]
 simp (disch := omega) only [↓RA, RZ, simprocAttr, hn, hS2.ae 0 rfl, c5x]
 exact hS4.forget
abbrev KN (kvs : List (Ct × Int)) : List Value := kcs (fun p : Int × Int => .agg #[I p.1, I p.2]) I kvs
abbrev oY (kvs : List (Ct × Int)) (c : Ct) : Int := (pJ kvs c).getD 0
theorem b6b (c : Ct) (AT M : Nat) (kvs : List (Ct × Int)) (hV : Var H AT 1 [.map (some M)]) (hM : OwnAt prog H ⟨.map (some M), 0, KN kvs⟩) :
 Fn prog 86 [.agg #[I c.1, I c.2], ptr AT 0 1] H fun r H' => r = .bool (decide (1 < oY kvs c)) ∧ St prog H H' [] := by
 refine .aC func86 rfl (by kernel_rfl) (m := 8) rfl fun l hn g0 g1 => ?_
 simp (disch := omega) only [↓RA, RB, simprocAttr, g0]
 refine (sR H).eNew 2 [I c.1, I c.2] rfl rfl rfl sL fun A1 H1 hS1 => ?_
 simp only [RT] at hS1
 simp (disch := omega) only [↓RA, RZ, simprocAttr, hn, g1, (hV.ab hS1.ab).ld, hS1.ae 0 rfl]
 refine (St.ba ((hM.st hS1))).bq (k := c) 0 rfl a9K (fun _ => rfl) ?_
 simp (disch := omega) only [↓RA, RZ, simprocAttr, hn, c4A]
 exact hS1.forget
structure Gn where
 c : Ct
 w : Value
 l : List Ct
 tl : List Value
 deriving Inhabited
abbrev Gn.v (g : Gn) : Value := kS g.w 2 0 g.l.length
def Gn.cells (g : Gn) : List Value := [I g.c.1, I g.c.2, g.v]
def Gn.row (g : Gn) : Ob := ⟨g.w, 2, pr g.l ++ g.tl⟩
def Gn.key (g : Gn) : Ct × List Ct := (g.c, g.l)
def plK (ks : List Nt) (d : List Ct) : List Ct := d.filter fun c => pO (iA ks c.1.toNat) c.2
def yU (o : Org) (rg : Reg) (l : List Ct) (p : Ct) : Int := ((l.filter fun c => decide (p ∈ nR o rg c)).length : Nat)
theorem a9I (ks : List Nt) (d : List Ct) (c : Ct) : plK ks (d ++ [c]) = plK ks d ++ (if pO (iA ks c.1.toNat) c.2 then [c] else []) := by
 unfold plK
 rw [eB]
 congr 1
 by_cases h : pO (iA ks c.1.toNat) c.2 = true
 ·rw [if_pos h]; simp [h]
 ·rw [if_neg h]; simp [h]
theorem b5I (o : Org) (rg : Reg) (l : List Ct) (c p : Ct) : yU o rg (l ++ [c]) p = yU o rg l p + (if p ∈ nR o rg c then 1 else 0) := by
 unfold yU
 rw [eB, dg]
 by_cases h : p ∈ nR o rg c
 ·rw [if_pos h]; simp [h]
 ·rw [if_neg h]; simp [h]
theorem b7W (o : Org) (rg : Reg) (l : List Ct) (p : Ct) : 0 ≤ yU o rg l p ∧ yU o rg l p ≤ l.length := by
 unfold yU
 have := dX (fun c => decide (p ∈ nR o rg c)) l
 omega
theorem Lp.cI {P : Program} {B : Base} {L : Nat} {r : Loop} {A G xs : List Ob} {g : Ob} (h : Lp P B L r H (A ++ (G ++ (xs ++ [g])))) : Lp P B L r H ((A ++ G) ++ xs) :=
 h.sub (by rw [dy]; exact (List.Sublist.refl A).append ((List.Sublist.refl G).append (ff _ _)))
theorem Lp.cQ {P : Program} {B : Base} {L : Nat} {r : Loop} {A G xs : List Ob} {g : Ob} (h : Lp P B L r H (A ++ (G ++ (xs ++ [g])))) : Lp P B L r H ((A ++ (G ++ [g])) ++ xs) := by
 have hp : (A ++ (G ++ (xs ++ [g]))).Perm ((A ++ (G ++ [g])) ++ xs) := by
  rw [dy, dy]
  exact ((List.perm_append_comm).append_left G).append_left A
 exact ⟨h.st.perm hp, h.get, h.lo, fun o ho => h.ne o (hp.mem_iff.2 ho)⟩
theorem St.cJ {P : Program} {B : Base} {os os1 : List Ob} {H1 : Heap} {oi oj : Ob} (hS : St P B H os) (i j : Nat) (hi : os[i]? = some oi) (hj : os[j]? = some oj) (hij : i ≠ j) (h1 : St P ⟨H, oP [oj]⟩ H1 os1) : OwnAt P H1 oi := by
 have hoi := hS.own _ (dO hi)
 refine hoi.ab fun b hb => h1.old b (hoi.lt hb) ?_
 rintro ⟨x, hx, hxb⟩
 rw [dz.1 hx] at hxb
 obtain ⟨hil, hig⟩ := dq.1 hi
 obtain ⟨hjl, hjg⟩ := dq.1 hj
 rcases fC hij with h | h
 ·have := (dV.1 hS.sep) i j hil hjl h b
  rw [hig, hjg] at this
  exact this hb hxb
 ·have := (dV.1 hS.sep) j i hjl hil h b
  rw [hig, hjg] at this
  exact this hxb hb
def a0o (o : Org) (rg : Reg) (ks : List Nt) : List (Ct × List Ct) := if rkE o rg ks = 0 then (plK ks (mT o)).map fun c => (c, (nR o rg c).filter fun p => !decide (1 < yU o rg (plK ks (mT o)) p)) else []
end Go.Ds
namespace Go.Ds
open Go.Proofs
variable {H : Heap}
set_option maxRecDepth 10000
set_option maxHeartbeats 1000000
theorem b7i {xs : List Ct} (hs : xs.Pairwise ltP) {i j : Nat} (h : i < j) (hj : j < xs.length) : ltP (iA xs i) (iA xs j) := by
 rw [jZ _ _ (by omega), jZ _ _ hj]
 exact dV.1 hs i j (by omega) hj h
end Go.Ds
namespace Go.Ds
open Go.Proofs Go.Proofs.Tryz
variable {H : Heap}
set_option maxRecDepth 10000
set_option maxHeartbeats 1000000
theorem c0c (o : Org) (rg : Reg) (c : Ct) : (nR o rg c).Pairwise ltP := by
 unfold nR
 split
 ·exact b0L o rg _
 ·exact .nil
theorem a8B {l : List Ct} (hs : l.Pairwise ltP) {j : Nat} (hj : j < l.length) : iA l j ∉ l.take j := fun h => by
 obtain ⟨q, hq, e⟩ := dP.1 h
 rw [eI] at hq
 have h2 := b7i hs (i := q) (j := j) (by omega) hj
 rw [List.getElem_take] at e
 rw [jZ l q (by omega), e] at h2
 exact b6m h2
theorem b0t (o : Org) (ho : o.In H) (rg : Reg) (sv : Value) (hr : rg.In H sv) (kv : Value) (ks : List Nt) (hk : Ks H kv ks) :
 Fn prog 34 [.agg #[.string o.name, o.rv, o.dv, o.cv], .agg #[sv, .int .u64 rg.cpl, .int .u64 rg.off], kv] H fun r H' => ∃ (lv : Value) (gs : List Gn), r = .tuple #[lv, I (rkE o rg ks)] ∧ gs.map Gn.key = a0o o rg ks ∧
  Slx 3 Gn.cells H' (fun B => H.length ≤ B) lv gs ∧ (∀ g ∈ gs, Slx 2 kB H' (fun B => H.length ≤ B) g.v g.l) ∧ St prog H H' [] := by
 have hnil : ∀ {H' : Heap}, Slx 3 Gn.cells H' (fun B => H.length ≤ B) (.slice none 0 0) ([] : List Gn) := fun {H'} => ⟨⟨.inl ⟨rfl, rfl⟩, fun _ => rfl, by decide⟩, fun b h => by simp [kE] at h⟩
 refine .bN func34 rfl (by kernel_rfl) (m := 81) rfl fun l hn g0 g1 g2 => ?_
 simp (disch := omega) only [↓RA, RB, simprocAttr, g0]
 refine (sR H).eNew 4 [(.string o.name), o.rv, o.dv, o.cv] rfl rfl (by simp [OC, ((sR H).sl ho.1).cells.2.1, ((sR H).sl ho.2.2.1).cells.2.1, ((sR H).sl ho.2.2.2.2.1).cells.2.1]) lV fun A1 H1 hS1 => ?_
 simp only [RT] at hS1
 simp (disch := omega) only [↓RA, RB, simprocAttr, g1]
 refine hS1.eNew 3 [sv, (.int .u64 rg.cpl), (.int .u64 rg.off)] rfl rfl (by simp [OC, (hS1.sl hr.1).cells.2.1]) lN fun A2 H2 hS2 => ?_
 simp only [RT] at hS2
 simp (disch := omega) only [↓RA, RB, simprocAttr, g2]
 refine hS2.eNew 1 [kv] (by rw [(hS2.sl hk.sl).cells.1]) rfl (by simp [(hS2.sl hk.sl).cells.2.1]) b8y fun A3 H3 hS3 => ?_
 simp only [RT] at hS3
 simp (disch := omega) only [↓RA, RZ, simprocAttr, hn, hS3.ae 0 rfl, hS3.ae 1 rfl]
 refine hS3.cF (lI o (ho.ab hS3) rg sv (hr.ab hS3)) fun H4 hS4 => ?_
 simp (disch := omega) only [↓RA, RB, simprocAttr, hn]
 refine gZ (fun h1 => ?_) (fun h1 => ?_)
 ·have hE : rkE o rg ks = kO o rg := by unfold rkE; rw [if_pos h1]
  simp (disch := omega) only [↓RA, RZ, simprocAttr, hn, c0W, h1]
  exact ⟨.slice none 0 0, [], by rw [hE], by rw [a0o, if_neg (by rw [hE]; exact h1)]; rfl, hnil, fun _ h => absurd h ez, hS4.forget⟩
 have h0 := dC.1 h1
 obtain ⟨hz3, hz4⟩ := qO h0
 have hf := Org.bD hz3
 have hE : rkE o rg ks = vM o ks := by unfold rkE; rw [if_neg h1]
 simp (disch := omega) only [↓RA, RZ, simprocAttr, hn, hS4.ae 0 rfl, hS4.ld 2 rfl, h1]
 refine hS4.cF (a6c o (ho.ab hS4) kv ks (hk.ab hS4)) fun H5 hS5 => ?_
 simp (disch := omega) only [↓RA, RZ, simprocAttr, hn, h1]
 refine gZ (fun h2 => ?_) (fun h2 => ?_)
 ·simp (disch := omega) only [↓RA, RZ, simprocAttr, hn, c0W, h1, h2]
  exact ⟨.slice none 0 0, [], by rw [hE], by rw [a0o, if_neg (by rw [hE]; exact h2)]; rfl, hnil, fun _ h => absurd h ez, hS5.forget⟩
 have h3 := dC.1 h2
 have hkl := (a8c h3).2.1
 rw [hE, h3, a0o, if_pos (by rw [hE]; exact h3)]
 simp (disch := omega) only [↓RA, simprocAttr]
 refine hS5.bP a9K fun M1 H6 hS6 => ?_
 simp only [RT] at hS6
 simp (disch := omega) only [↓RA, RZ, simprocAttr, a1T]
 refine hS6.eNew 1 [(.map none)] rfl rfl rfl b4R fun A4 H7 hS7 => ?_
 simp only [RT] at hS7
 simp (disch := omega) only [↓RA, RZ, simprocAttr, hn, h1]
 refine hS7.aa 4 rfl [(.map (some M1))] rfl rfl b4R (by simp) fun H8 hS8 => ?_
 simp only [RT] at hS8
 simp (disch := omega) only [↓RA, RZ, simprocAttr]
 refine hS8.eNew 1 [(.slice none 0 0)] rfl rfl rfl c0e fun A5 H9 hS9 => ?_
 simp only [RT] at hS9
 simp (disch := omega) only [↓RA, RZ, simprocAttr, hn, hS9.ae 0 rfl, hS9.ae 1 rfl, h1]
 have hS10 := hS9.nil 2
 simp only [RT] at hS10
 refine iJ (a2k o (ho.ab hS10) rg sv (hr.ab hS10)) ?_
 rintro r H10 ⟨AK, AL, rfl, hT3⟩
 have hS11 := hS10.trans hT3
 simp only [RT] at hS11
 simp (disch := omega) only [↓RA, RZ, simprocAttr, h1]
 refine Wp.bg fun lrg1 hlrg1 => ?_
 have hnrg1 : lrg1.length = 81 := by rw [hlrg1]; simp (disch := omega) only [RB, simprocAttr, hn]
 have g5rg1 : get lrg1 5 = (ptr A3 0 1) := by rw [hlrg1]; simp (disch := omega) only [RB, simprocAttr, hn]
 have g6rg1 : get lrg1 6 = (.slice none 0 0) := by rw [hlrg1]; simp (disch := omega) only [RB, simprocAttr, hn]
 have g7rg1 : get lrg1 7 = I 0 := by rw [hlrg1]; simp (disch := omega) only [RB, simprocAttr, hn]
 have g10rg1 : get lrg1 10 = (ptr A4 0 1) := by rw [hlrg1]; simp (disch := omega) only [RB, simprocAttr, hn]
 have g11rg1 : get lrg1 11 = (ptr A5 0 1) := by rw [hlrg1]; simp (disch := omega) only [RB, simprocAttr, hn]
 have gfrg1 : get lrg1 33 = .func (.func 136) #[] [(ptr AK 0 4), (ptr AL 0 3)].toArray := by rw [hlrg1]; simp (disch := omega) only [RB, simprocAttr, hn]
 clear hlrg1
 refine Wp.aZ gfrg1 fun rg1 hstrg1 hpdrg1 htmrg1 hpsrg1 hasrg1 hbdrg1 => ?_
 have hreqrg1 : ({ rg1 with state := .ready, pending := none } : Loop) = rg1 := by
  cases rg1
  simp only at hstrg1 hpdrg1
  subst hstrg1 hpdrg1
  rfl
 have hLprg1 := Lp.enter hS11 rg1
 generalize H10.cons (.loop rg1) = Hcrg1 at hLprg1 ⊢
 generalize H10.length = Lrg1 at hLprg1 ⊢
 refine (a5F o hf rg sv AK AL (.func (.yield Lrg1) #[] #[]) (fun d xs H1 => ∃ (ow : Value) (gs : List Gn) (kvs : List (Ct × Int)), gs.map Gn.key = (plK ks d).map (fun c => (c, nR o rg c)) ∧ (∀ p, oY kvs p = yU o rg (plK ks d) p) ∧
  Lp prog H Lrg1 rg1 H1 (([⟨ptr A1 0 4, 0, oC o⟩, ⟨ptr A2 0 3, 0, rC rg sv⟩, ⟨ptr A3 0 1, 0, [kv]⟩, ⟨.map (some M1), 0, KN kvs⟩, ⟨ptr A4 0 1, 0, [.map (some M1)]⟩, ⟨ptr A5 0 1, 0, [ow]⟩, ⟨ow, 3, gs.flatMap Gn.cells⟩, ⟨ptr AK 0 4, 0, oC o⟩, ⟨ptr AL 0 3, 0, rC rg sv⟩] ++ gs.map Gn.row) ++ xs)) ⟨.slice none 0 0, [], [], rfl, fun p => rfl, ?_⟩ ?_ ?_ ?_ ?_).mono ?_
 ·rw [dp, fR, dp]
  exact hLprg1
 ·rintro d xs H1 ⟨ow, gs, kvs, hgs, hcn, h⟩
  have hs := h.left.left.st
  exact ⟨hs.var 7 rfl, ho.ab hs, hs.var 8 rfl, hr.ab hs, fun x hx => h.st.own x (eF _ hx)⟩
 ·rintro d xs H1 H2 ys ⟨ow, gs, kvs, hgs, hcn, h⟩ hT
  have h3 := h.ext hT
  rw [dy] at h3
  exact ⟨ow, gs, kvs, hgs, hcn, h3⟩
 ·rintro d xs ys H1 ⟨ow, gs, kvs, hgs, hcn, h⟩
  rw [← dy] at h
  exact ⟨ow, gs, kvs, hgs, hcn, h.left⟩
 ·rintro d c e xs H1 H20 pv gv rest he ⟨ow, gs, kvs, hgs, hcn, hLp⟩ hT hpv
  have hLpj := hLp.ext hT
  rw [dy, dy] at hLpj
  have hx : Slx 2 kB H20 (fun B => H1.length ≤ B) pv (nR o rg c) := by rw [hpv]; exact yE hT
  have hgl : gs.length = (plK ks d).length := by
   have := congrArg List.length hgs
   rwa [dH, dH] at this
  have hpl : (plK ks d).length ≤ 1024 := by
   have h1 := tG hf
   have h2 : (plK ks d).length ≤ d.length := dX _ _
   rw [he, dg] at h1
   omega
  obtain ⟨i, z, rfl, hi, hz⟩ := a7F hf (c := c) (by rw [he]; simp)
  have hlen := a7G hf rg ((i : Int), z)
  have hki : Nt.Ok (iA ks i) := hk.ok _ (iD (by rw [hkl]; exact hi))
  refine mO hLpj.get (by rw [hpsrg1]; rfl) hstrg1 ?_
  refine Wp.aE (l := put (put lrg1 (some 34) (.agg #[I i, I z])) (some 35) (pv)) hasrg1 (by rw [hpsrg1, htmrg1]; first | exact (kI ..).symm | rfl | simp [put, kI]) ?_
  simp (disch := omega) only [↓RA, RZ, simprocAttr]
  refine (sR H20).eNew 2 [I 0, I 0] rfl rfl rfl qQ fun A6 H11 hS12 => ?_
  simp only [RT] at hS12
  simp (disch := omega) only [↓RA, RB, simprocAttr, hnrg1]
  refine hS12.aa 0 rfl [I i, I z] rfl rfl qQ (by simp) fun H12 hS13 => ?_
  simp only [RT] at hS13
  simp (disch := omega) only [↓RA, RZ, simprocAttr, hnrg1]
  have hSy := hS13
  have hLl : Lrg1 < H1.length := jC hLp.get
  have hLpx := Lp.swap (hLpj.ext hS13)
  refine ⟨rg1, hLpx.get, hstrg1, ?_⟩
  have hYBs1 := hLpx.set (fun h => h) { rg1 with state := .busy }
  have hKBs1 : ∀ B, B ≠ Lrg1 → iL (hset H12 Lrg1 (.loop { rg1 with state := .busy })) B = iL H12 B := fun B h => iI _ (ey h)
  have hNBs1 : (hset H12 Lrg1 (.loop { rg1 with state := .busy })).length = H12.length := iY ..
  generalize hset H12 Lrg1 (.loop { rg1 with state := .busy }) = HBs1 at hYBs1 hKBs1 hNBs1 ⊢
  refine Wp.aE hbdrg1 rfl ?_
  have hZBs1 := hYBs1.left.st
  obtain ⟨Bs1, hBBs1, hS14⟩ := hZBs1.ay (os := [⟨ptr A1 0 4, 0, _⟩, ⟨ptr A2 0 3, 0, _⟩, ⟨ptr A3 0 1, 0, _⟩, ⟨.map (some M1), 0, _⟩, ⟨ptr A4 0 1, 0, _⟩, ⟨ptr A5 0 1, 0, _⟩, ⟨ow, 3, _⟩, ⟨ptr AK 0 4, 0, _⟩, ⟨ptr AL 0 3, 0, _⟩, ⟨ptr A6 0 2, 0, _⟩])
  have hxB : Slx 2 kB HBs1 (nb [ptr A1 0 4, ptr A2 0 3, ptr A3 0 1, .map (some M1), ptr A4 0 1, ptr A5 0 1, ow, ptr AK 0 4, ptr AL 0 3, ptr A6 0 2]) pv (nR o rg ((i : Int), z)) := hx.step fun B hB hl => ⟨by rw [hKBs1 B (by omega), hSy.ab B hl], fun v hv hb => by
   rw [show [ptr A1 0 4, ptr A2 0 3, ptr A3 0 1, .map (some M1), ptr A4 0 1, ptr A5 0 1, ow, ptr AK 0 4, ptr AL 0 3, ptr A6 0 2] = [ptr A1 0 4, ptr A2 0 3, ptr A3 0 1, .map (some M1), ptr A4 0 1, ptr A5 0 1, ow, ptr AK 0 4, ptr AL 0 3] ++ [ptr A6 0 2] from rfl] at hv
   rcases dD.1 hv with hv | hv
   ·exact (hLp.left.left.st.aX (H' := H20) B hB hl).2 v hv hb
   ·rw [dz.1 hv] at hb
    rcases hSy.new _ (dz.2 rfl) B hb with h | h
    ·have h : H20.length ≤ B := h
     omega
    ·exact h.elim⟩
  simp (disch := omega) only [↓RA, simprocAttr]
  refine Wp.drw kC (by kernel_rfl) ?_
  simp (disch := omega) only [↓RA, RZ, simprocAttr, hnrg1, g5rg1, hS14.ld 2 rfl, hS14.ld 9 rfl, ((hZBs1.aj hBBs1 hS14).sl hk.sl).idx, ((hZBs1.aj hBBs1 hS14).sl hk.sl).ae, ntc]
  refine hS14.cF (b8e (iA ks i) hki z hz) fun H13 hS15 => ?_
  simp (disch := omega) only [↓RA, RB, simprocAttr, hnrg1]
  refine jK (fun q1 => ?_) (fun q1 => ?_)
  ·have hq1 : ¬ pO (iA ks i) z = true := by simpa using q1
   have hplK : plK ks (d ++ [((i : Int), z)]) = plK ks d := by rw [a9I, if_neg (by simpa using hq1), dp]
   simp (disch := omega) only [↓RA, RC, simprocAttr]
   have hS16 := hS15.pick (os' := [⟨ptr A1 0 4, 0, _⟩, ⟨ptr A2 0 3, 0, _⟩, ⟨ptr A3 0 1, 0, _⟩, ⟨.map (some M1), 0, _⟩, ⟨ptr A4 0 1, 0, _⟩, ⟨ptr A5 0 1, 0, _⟩, ⟨ow, 3, _⟩, ⟨ptr AK 0 4, 0, _⟩, ⟨ptr AL 0 3, 0, _⟩]) [0, 1, 2, 3, 4, 5, 6, 7, 8] (by decide) rfl
   have hWBs1 := (hYBs1.aU (hBBs1 ▸ hS16)).set (fun h => h) rg1
   rw [← hreqrg1] at hWBs1
   have hfin : ∃ (ow : Value) (gs : List Gn) (kvs : List (Ct × Int)), gs.map Gn.key = (plK ks (d ++ [((i : Int), z)])).map (fun c => (c, nR o rg c)) ∧ (∀ p, oY kvs p = yU o rg (plK ks (d ++ [((i : Int), z)])) p) ∧
  Lp prog H Lrg1 rg1 (hset H13 Lrg1 (.loop rg1)) (([⟨ptr A1 0 4, 0, oC o⟩, ⟨ptr A2 0 3, 0, rC rg sv⟩, ⟨ptr A3 0 1, 0, [kv]⟩, ⟨.map (some M1), 0, KN kvs⟩, ⟨ptr A4 0 1, 0, [.map (some M1)]⟩, ⟨ptr A5 0 1, 0, [ow]⟩, ⟨ow, 3, gs.flatMap Gn.cells⟩, ⟨ptr AK 0 4, 0, oC o⟩, ⟨ptr AL 0 3, 0, rC rg sv⟩] ++ gs.map Gn.row) ++ xs) := ⟨ow, gs, kvs, by rw [hplK]; exact hgs, by rw [hplK]; exact hcn, Lp.cI (hreqrg1 ▸ hWBs1)⟩
   rw [← hreqrg1] at hfin
   exact ⟨_, (hYBs1.aU (hBBs1 ▸ hS16)).get, rfl, hreqrg1 ▸ hfin⟩
  have hq1 : pO (iA ks i) z = true := by simpa using q1
  have hplK : plK ks (d ++ [((i : Int), z)]) = plK ks d ++ [((i : Int), z)] := by rw [a9I, if_pos (by simpa using hq1)]
  simp (disch := omega) only [↓RA, RZ, simprocAttr, hnrg1, (hxB.step (hS15.kept hBBs1)).1.len, q1]
  refine Wp.al (fun n l H' => l.length = 81 ∧ get l 6 = (.slice none 0 0) ∧ get l 7 = I 0 ∧ get l 10 = (ptr A4 0 1) ∧ get l 11 = (ptr A5 0 1) ∧ get l 12 = (ptr A6 0 2) ∧ get l 13 = pv ∧ get l 45 = pv ∧ get l 46 = I (nR o rg ((i : Int), z)).length ∧ ∃ (j : Nat) (kvs1 : List (Ct × Int)), (n + j = (nR o rg ((i : Int), z)).length ∧ ∀ p, oY kvs1 p = yU o rg (plK ks d) p + (if p ∈ (nR o rg ((i : Int), z)).take j then 1 else 0)) ∧ get l 47 = I j ∧ St prog Bs1 H' [⟨ptr A1 0 4, 0, [(.string o.name), o.rv, o.dv, o.cv]⟩, ⟨ptr A2 0 3, 0, [sv, (.int .u64 rg.cpl), (.int .u64 rg.off)]⟩, ⟨ptr A3 0 1, 0, [kv]⟩, ⟨.map (some M1), 0, KN kvs1⟩, ⟨ptr A4 0 1, 0, [(.map (some M1))]⟩, ⟨ptr A5 0 1, 0, [ow]⟩, ⟨ow, 3, gs.flatMap Gn.cells⟩, ⟨ptr AK 0 4, 0, [(.string o.name), o.rv, o.dv, o.cv]⟩, ⟨ptr AL 0 3, 0, [sv, (.int .u64 rg.cpl), (.int .u64 rg.off)]⟩, ⟨ptr A6 0 2, 0, [I i, I z]⟩]) (nR o rg ((i : Int), z)).length ?_ ?_
  ·simp (disch := omega) only [RB, RC, simprocAttr, hnrg1, g6rg1, g7rg1, g10rg1, g11rg1]
   exact ⟨0, kvs, ⟨by omega, fun p => by rw [hcn, if_neg (by simp)]; omega⟩, rfl, hS15⟩
  rintro n l H14 ⟨hn, g6, g7, yR, g11, g12, g13, g45, g46, j, kvs1, ⟨hj,hcj⟩, g47, hS17⟩
  simp (disch := omega) only [↓RA, RB, simprocAttr, hn, g46, g47]
  refine gZ (fun q2 => ?_) (fun q2 => ?_)
  ·have hjl : j < (nR o rg ((i : Int), z)).length := by omega
   have hnt : iA (nR o rg ((i : Int), z)) j ∉ (nR o rg ((i : Int), z)).take j := a8B (c0c o rg _) hjl
   have hcv := hcj (iA (nR o rg ((i : Int), z)) j)
   rw [if_neg hnt] at hcv
   have hcb := b7W o rg (plK ks d) (iA (nR o rg ((i : Int), z)) j)
   have hcw : 0 ≤ (pJ kvs1 (iA (nR o rg ((i : Int), z)) j)).getD 0 ∧ (pJ kvs1 (iA (nR o rg ((i : Int), z)) j)).getD 0 ≤ 1024 := by
    rw [show (pJ kvs1 (iA (nR o rg ((i : Int), z)) j)).getD 0 = oY kvs1 (iA (nR o rg ((i : Int), z)) j) from rfl, hcv]
    omega
   simp (disch := omega) only [↓RA, RZ, simprocAttr, hn, g45, g47, (hxB.step (hS17.kept hBBs1)).1.idx, (hxB.step (hS17.kept hBBs1)).1.ae, kB, q2]
   refine hS17.eNew 2 [I 0, I 0] rfl rfl rfl sL fun A7 H15 hS18 => ?_
   simp only [RT] at hS18
   simp (disch := omega) only [↓RA, RZ, simprocAttr, hn, q2]
   refine hS18.aa 10 rfl [I (iA (nR o rg ((i : Int), z)) j).1, I (iA (nR o rg ((i : Int), z)) j).2] rfl rfl sL (by simp) fun H16 hS19 => ?_
   simp only [RT] at hS19
   simp (disch := omega) only [↓RA, RZ, simprocAttr, q2]
   refine Wp.aQ kC [(2, 5)] (by kernel_rfl) (by kernel_rfl) ?_
   simp (disch := omega) only [↓RA, RZ, simprocAttr, hn, yR, hS19.ld 4 rfl, hS19.ae 10 rfl]
   refine hS19.bq (k := (iA (nR o rg ((i : Int), z)) j)) 3 rfl a9K (fun _ => rfl) ?_
   simp (disch := omega) only [↓RA, RB, simprocAttr, hn]
   refine hS19.cH (k := (iA (nR o rg ((i : Int), z)) j)) 3 rfl a9K (fun _ => rfl) (b0 := 0) rfl fun _ n1 H17 hL1 hE1 => ?_
   have hL1k := hL1 ((iA (nR o rg ((i : Int), z)) j))
   simp (disch := omega) only [↓RA, RB, simprocAttr, hn]
   refine hE1 (oY kvs1 (iA (nR o rg ((i : Int), z)) j) + 1) _ fun H18 hS20 => ?_
   simp only [RT] at hS20
   simp (disch := omega) only [↓RA, RZ, simprocAttr, hn, g6, g7, yR, g11, g12, g13, g45, g46, g47, hL1k]
   exact ⟨n - 1, by omega, j + 1, zB kvs1 (iA (nR o rg ((i : Int), z)) j) (oY kvs1 (iA (nR o rg ((i : Int), z)) j) + 1), ⟨by omega, fun p => by
    rw [oY, wU, kF _ j hjl]
    by_cases hp : p = iA (nR o rg ((i : Int), z)) j
    ·subst hp
     rw [if_pos rfl, if_pos (by simp), eN, hcv]
     omega
    ·rw [if_neg hp]
     have := hcj p
     rw [show (pJ kvs1 p).getD 0 = oY kvs1 p from rfl, this]
     congr 1
     simp [hp]⟩, by simp, hS20.pick [0, 1, 2, 3, 4, 5, 6, 7, 8, 9] (by decide) rfl⟩
  have hje : j = (nR o rg ((i : Int), z)).length := by omega
  have hcf : ∀ p, oY kvs1 p = yU o rg (plK ks (d ++ [((i : Int), z)])) p := fun p => by rw [hplK, b5I, hcj p, hje, ef]
  simp (disch := omega) only [↓RA, RZ, simprocAttr, hn, g11, g12, g13, hS17.ld 5 rfl, hS17.ae 9 rfl, b1d (hxB.step (hS17.kept hBBs1)).1.cells, q2]
  refine hS17.ai [I i, I z, pv] c1Y c5e rfl rfl (by first | (simp []; done) | simp [Value.cells]) (by first | (simp []; done) | simp [Value.cells]) (by simp [OC, (hxB.step (hS17.kept hBBs1)).1.cells.2.1]) (by decide) (by decide) fun w1 H19 hS21 => ?_
  simp only [RT] at hS21
  simp (disch := omega) only [↓RA, RZ, simprocAttr, hn, q2]
  refine hS21.aq 6 rfl (hS21.rd 10 rfl) c1Y (by rw [iM (n := 3) (cel := Gn.cells) (fun _ => rfl)]; simp; omega) fun w2 H20 hS22 => ?_
  simp only [RT] at hS22
  simp (disch := omega) only [↓RA, RZ, simprocAttr, hn, g11, q2]
  refine hS22.aa 5 rfl [w2] (by rw [(hS22.rd 6 rfl).cells.1]) (by simp [(hS22.rd 6 rfl).cells.2.1]) c0e (by simp) fun H21 hS23 => ?_
  simp only [RT] at hS23
  simp (disch := omega) only [↓RA, RC, simprocAttr]
  have happ : gs.flatMap Gn.cells ++ [I i, I z, pv] = (gs ++ [(⟨((i : Int), z), gv, (nR o rg ((i : Int), z)), rest⟩ : Gn)]).flatMap Gn.cells := by rw [ee, hpv]; rfl
  rw [happ] at hS23
  have hS24 := hS23.pick (os' := [⟨ptr A1 0 4, 0, _⟩, ⟨ptr A2 0 3, 0, _⟩, ⟨ptr A3 0 1, 0, _⟩, ⟨.map (some M1), 0, _⟩, ⟨ptr A4 0 1, 0, _⟩, ⟨ptr A5 0 1, 0, _⟩, ⟨w2, 3, _⟩, ⟨ptr AK 0 4, 0, _⟩, ⟨ptr AL 0 3, 0, _⟩]) [0, 1, 2, 3, 4, 5, 6, 7, 8] (by decide) rfl
  have hWBs1 := (hYBs1.aU (hBBs1 ▸ hS24)).set (fun h => h) rg1
  rw [← hreqrg1] at hWBs1
  have hfin : ∃ (ow : Value) (gs : List Gn) (kvs : List (Ct × Int)), gs.map Gn.key = (plK ks (d ++ [((i : Int), z)])).map (fun c => (c, nR o rg c)) ∧ (∀ p, oY kvs p = yU o rg (plK ks (d ++ [((i : Int), z)])) p) ∧
  Lp prog H Lrg1 rg1 (hset H21 Lrg1 (.loop rg1)) (([⟨ptr A1 0 4, 0, oC o⟩, ⟨ptr A2 0 3, 0, rC rg sv⟩, ⟨ptr A3 0 1, 0, [kv]⟩, ⟨.map (some M1), 0, KN kvs⟩, ⟨ptr A4 0 1, 0, [.map (some M1)]⟩, ⟨ptr A5 0 1, 0, [ow]⟩, ⟨ow, 3, gs.flatMap Gn.cells⟩, ⟨ptr AK 0 4, 0, oC o⟩, ⟨ptr AL 0 3, 0, rC rg sv⟩] ++ gs.map Gn.row) ++ xs) := by
   refine ⟨w2, gs ++ [(⟨((i : Int), z), gv, (nR o rg ((i : Int), z)), rest⟩ : Gn)], kvs1, by rw [dx, hgs, hplK, dx]; rfl, hcf, ?_⟩
   rw [dx]
   exact Lp.cQ (hreqrg1 ▸ hWBs1)
  rw [← hreqrg1] at hfin
  exact ⟨_, (hYBs1.aU (hBBs1 ▸ hS24)).get, rfl, hreqrg1 ▸ hfin⟩
 rintro _ H21 ⟨ow, gs, kvs, hgs, hcn, hLp2⟩
 rw [dp] at hLp2
 have hgm : ∀ g ∈ gs, g.l = nR o rg g.c := fun g hg => by
  have h1 : g.key ∈ gs.map Gn.key := eP hg
  rw [hgs] at h1
  obtain ⟨c, _, h2⟩ := dF.1 h1
  have e1 : c = g.c := congrArg Prod.fst h2
  have e2 : nR o rg c = g.l := congrArg Prod.snd h2
  rw [← e2, e1]
 have hgl : gs.length ≤ 1024 := by
  have h1 := tG hf
  have h2 : (plK ks (mT o)).length ≤ (mT o).length := dX _ _
  have h3 := congrArg List.length hgs
  rw [dH, dH] at h3
  omega
 refine ⟨_, hLp2.get, (by rw [hstrg1]; exact fun h => by cases h), fun _ => ?_, fun c hc => by rw [hpdrg1] at hc; cases hc⟩
 have hAAf1 := (hLp2.set (fun h => h) { rg1 with state := .exhausted }).st
 have hKAf1 : ∀ B, B ≠ Lrg1 → iL (hset H21 Lrg1 (.loop { rg1 with state := .exhausted })) B = iL H21 B := fun B h => iI _ (ey h)
 generalize hset H21 Lrg1 (.loop { rg1 with state := .exhausted }) = HAf1 at hAAf1 hKAf1 ⊢
 have hA9 := hAAf1
 have hF9 := hA9.sub (ff _ _)
 simp (disch := omega) only [↓RA, RZ, simprocAttr, hnrg1, g11rg1, hF9.ld 5 rfl, (hF9.ax 6 rfl (fun _ => rfl)).len]
 refine Wp.al (fun n l H' => l.length = 81 ∧ get l 10 = ptr A4 0 1 ∧ get l 11 = ptr A5 0 1 ∧ get l 64 = ow ∧ get l 65 = I gs.length ∧ ∃ (i : Nat) (pre : List Gn), (n + i = gs.length ∧ pre.length = i ∧ pre.map Gn.key = (gs.take i).map (fun g : Gn => (g.c, g.l.filter fun p => !decide (1 < oY kvs p)))) ∧ get l 66 = I i ∧
  St prog H H' ([⟨ptr A1 0 4, 0, oC o⟩, ⟨ptr A2 0 3, 0, rC rg sv⟩, ⟨ptr A3 0 1, 0, [kv]⟩, ⟨.map (some M1), 0, KN kvs⟩, ⟨ptr A4 0 1, 0, [.map (some M1)]⟩, ⟨ptr A5 0 1, 0, [ow]⟩, ⟨ow, 3, (pre ++ gs.drop i).flatMap Gn.cells⟩, ⟨ptr AK 0 4, 0, oC o⟩, ⟨ptr AL 0 3, 0, rC rg sv⟩] ++ (pre ++ gs.drop i).map Gn.row)) gs.length ?_ ?_
 ·simp (disch := omega) only [RB, RC, simprocAttr, hnrg1, g10rg1, g11rg1]
  exact ⟨0, [], ⟨by omega, rfl, rfl⟩, rfl, hA9⟩
 rintro n l H9 ⟨hn, yR, g11, g64, g65, i, pre, ⟨hi, hpl, hpk⟩, g66, hS9⟩
 have hF := hS9.sub (ff _ _)
 simp (disch := omega) only [↓RA, RB, simprocAttr, hn, g65, g66]
 refine gZ (fun q4 => ?_) (fun q4 => ?_)
 ·have hil : i < gs.length := by omega
  have hdr := tU gs i hil
  have hll : (pre ++ gs.drop i).length = gs.length := by rw [dg, eh]; omega
  have hni : iA (pre ++ gs.drop i) i = iA gs i := by
   unfold iA
   rw [dc, dU (by omega), dB, dc]
   congr 2; omega
  have hP : (([⟨ptr A1 0 4, 0, oC o⟩, ⟨ptr A2 0 3, 0, rC rg sv⟩, ⟨ptr A3 0 1, 0, [kv]⟩, ⟨.map (some M1), 0, KN kvs⟩, ⟨ptr A4 0 1, 0, [.map (some M1)]⟩, ⟨ptr A5 0 1, 0, [ow]⟩, ⟨ow, 3, (pre ++ gs.drop i).flatMap Gn.cells⟩, ⟨ptr AK 0 4, 0, oC o⟩, ⟨ptr AL 0 3, 0, rC rg sv⟩] : List Ob) ++ (pre ++ gs.drop i).map Gn.row).Perm (([⟨ptr A1 0 4, 0, oC o⟩, ⟨ptr A2 0 3, 0, rC rg sv⟩, ⟨ptr A3 0 1, 0, [kv]⟩, ⟨.map (some M1), 0, KN kvs⟩, ⟨ptr A4 0 1, 0, [.map (some M1)]⟩, ⟨ptr A5 0 1, 0, [ow]⟩, ⟨ow, 3, (pre ++ gs.drop i).flatMap Gn.cells⟩, ⟨ptr AK 0 4, 0, oC o⟩, ⟨ptr AL 0 3, 0, rC rg sv⟩, ⟨(iA gs i).w, 2, pr (iA gs i).l ++ (iA gs i).tl⟩] : List Ob) ++ (pre.map Gn.row ++ (gs.drop (i + 1)).map Gn.row)) := by
   rw [dx, show (gs.drop i).map Gn.row = (iA gs i).row :: (gs.drop (i + 1)).map Gn.row from by rw [hdr]; rfl]
   exact (List.perm_middle (l₁ := pre.map Gn.row)).append_left ([⟨ptr A1 0 4, 0, oC o⟩, ⟨ptr A2 0 3, 0, rC rg sv⟩, ⟨ptr A3 0 1, 0, [kv]⟩, ⟨.map (some M1), 0, KN kvs⟩, ⟨ptr A4 0 1, 0, [.map (some M1)]⟩, ⟨ptr A5 0 1, 0, [ow]⟩, ⟨ow, 3, (pre ++ gs.drop i).flatMap Gn.cells⟩, ⟨ptr AK 0 4, 0, oC o⟩, ⟨ptr AL 0 3, 0, rC rg sv⟩] : List Ob)
  have hS9p := hS9.perm hP
  have hF2 := hS9p.sub (ff _ _)
  have hgc : (iA gs i).v.cells = #[(iA gs i).v] ∧ oneCell (iA gs i).v = true ∧ mY (iA gs i).v = true := (hF2.bY (cel := kB) (xs := (iA gs i).l) 9 rfl (fun _ => rfl) rfl).cells
  have hgll : (iA gs i).l.length < 100000000 := by
   rw [hgm _ (iD hil)]
   have := a7G hf rg (iA gs i).c
   omega
  obtain ⟨X, hBX, hS25⟩ := hF2.ay (os := [⟨ptr A1 0 4, 0, _⟩, ⟨ptr A2 0 3, 0, _⟩, ⟨ptr A3 0 1, 0, _⟩, ⟨.map (some M1), 0, _⟩, ⟨ptr A4 0 1, 0, _⟩, ⟨ptr A5 0 1, 0, _⟩, ⟨ow, 3, _⟩, ⟨ptr AK 0 4, 0, _⟩, ⟨ptr AL 0 3, 0, _⟩, ⟨(iA gs i).w, 2, _⟩])
  simp (disch := omega) only [↓RA, RZ, simprocAttr, hn, g64, g66, (hS25.ax 6 rfl (fun _ => rfl)).idx, (hS25.ax 6 rfl (fun _ => rfl)).ae, Gn.cells, q4, hni]
  refine hS25.eNew 3 [I 0, I 0, (.slice none 0 0)] rfl rfl rfl b3T fun A8 H22 hS26 => ?_
  simp only [RT] at hS26
  simp (disch := omega) only [↓RA, RZ, simprocAttr, hn, q4]
  refine hS26.aa 10 rfl [I (iA gs i).c.1, I (iA gs i).c.2, (iA gs i).v] rfl (by simp [OC, hgc.2.1]) b3T (by simp) fun H23 hS27 => ?_
  simp only [RT] at hS27
  simp (disch := omega) only [↓RA, RZ, simprocAttr, q4]
  refine Wp.aQ kC [(0, 6)] (by kernel_rfl) (by kernel_rfl) ?_
  simp (disch := omega) only [↓RA, RZ, simprocAttr, hn, yR, g11, hS27.ld 5 rfl, hS27.ld 10 rfl]
  have hSc := hS27
  have hM1 := hS27.pick (os' := [⟨(iA gs i).w, 2, _⟩]) [9] (by decide) rfl
  have hR1 := hS27.pick (os' := [⟨(iA gs i).w, 2, _⟩, ⟨ptr A1 0 4, 0, _⟩, ⟨ptr A2 0 3, 0, _⟩, ⟨ptr A3 0 1, 0, _⟩, ⟨.map (some M1), 0, _⟩, ⟨ptr A4 0 1, 0, _⟩, ⟨ptr A5 0 1, 0, _⟩, ⟨ow, 3, _⟩, ⟨ptr AK 0 4, 0, _⟩, ⟨ptr AL 0 3, 0, _⟩, ⟨ptr A8 0 3, 0, _⟩]) [9, 0, 1, 2, 3, 4, 5, 6, 7, 8, 10] (by decide) rfl
  refine iJ (c3I hM1.aH hgll 86 [ptr A4 0 1] (fun c => decide (1 < oY kvs c)) (fun c _ H1 os hS' => b6b c A4 M1 kvs (hSc.cJ 4 9 rfl rfl (by decide) hS').var (hSc.cJ 3 9 rfl rfl (by decide) hS'))) ?_
  rintro r H24 ⟨rest9, hrv, hT5⟩
  have hS28 := hR1.frame hT5
  simp only [RT] at hS28
  have hrc : r.cells = #[r] ∧ oneCell r = true ∧ mY r = true := by
   rw [hrv]
   exact (hS28.bY (cel := kB) (xs := ((iA gs i).l.filter fun c => !decide (1 < oY kvs c))) 0 rfl (fun _ => rfl) rfl).cells
  simp (disch := omega) only [↓RA, RZ, simprocAttr, hn, (hS28.ax 7 rfl (fun _ => rfl)).idx, (hS28.ax 7 rfl (fun _ => rfl)).bz]
  refine hS28.aP 7 rfl [r] (by rw [hrc.1]) (by simp [hrc.2.1]) c3C (by simp) (by rw [iM (n := 3) (cel := Gn.cells) (fun _ => rfl), hll]; simp only [ed, eA]; omega) fun H25 hS29 => ?_
  simp only [RT] at hS29
  simp (disch := omega) only [↓RA, RZ, simprocAttr, hn, yR, g11, g64, g65, g66, hS28.ld 6 rfl]
  have hset : ((pre ++ gs.drop i).flatMap Gn.cells).set (i * (2 + 1) + 2) r = ((pre ++ [(⟨(iA gs i).c, (iA gs i).w, ((iA gs i).l.filter fun c => !decide (1 < oY kvs c)), rest9⟩ : Gn)]) ++ gs.drop (i + 1)).flatMap Gn.cells := by
   have h5 := yS (n := 3) (cel := Gn.cells) (fun _ => rfl) (pre ++ gs.drop i) i 2 [r] (⟨(iA gs i).c, (iA gs i).w, ((iA gs i).l.filter fun c => !decide (1 < oY kvs c)), rest9⟩ : Gn) (by rw [hll]; exact hil) (by simp) (by rw [hni, hrv]; rfl)
   rw [lG, pI] at h5
   rw [show i * (2 + 1) + 2 = i * 3 + 2 from rfl, h5, dS _ _ (by omega), hdr, hpl, gA, fi, dy]
   rfl
  rw [hset] at hS29
  have hEnd := hS29.pick (os' := [⟨ptr A1 0 4, 0, oC o⟩, ⟨ptr A2 0 3, 0, rC rg sv⟩, ⟨ptr A3 0 1, 0, [kv]⟩, ⟨.map (some M1), 0, KN kvs⟩, ⟨ptr A4 0 1, 0, [.map (some M1)]⟩, ⟨ptr A5 0 1, 0, [ow]⟩, ⟨ow, 3, ((pre ++ [(⟨(iA gs i).c, (iA gs i).w, ((iA gs i).l.filter fun c => !decide (1 < oY kvs c)), rest9⟩ : Gn)]) ++ gs.drop (i + 1)).flatMap Gn.cells⟩, ⟨ptr AK 0 4, 0, oC o⟩, ⟨ptr AL 0 3, 0, rC rg sv⟩, ⟨(iA gs i).w, 2, pr ((iA gs i).l.filter fun c => !decide (1 < oY kvs c)) ++ rest9⟩]) [1, 2, 3, 4, 5, 6, 7, 8, 9, 0] (by decide) rfl
  have hfr := hS9p.frame (hBX ▸ hEnd)
  have hPe : (([⟨ptr A1 0 4, 0, oC o⟩, ⟨ptr A2 0 3, 0, rC rg sv⟩, ⟨ptr A3 0 1, 0, [kv]⟩, ⟨.map (some M1), 0, KN kvs⟩, ⟨ptr A4 0 1, 0, [.map (some M1)]⟩, ⟨ptr A5 0 1, 0, [ow]⟩, ⟨ow, 3, ((pre ++ [(⟨(iA gs i).c, (iA gs i).w, ((iA gs i).l.filter fun c => !decide (1 < oY kvs c)), rest9⟩ : Gn)]) ++ gs.drop (i + 1)).flatMap Gn.cells⟩, ⟨ptr AK 0 4, 0, oC o⟩, ⟨ptr AL 0 3, 0, rC rg sv⟩, ⟨(iA gs i).w, 2, pr ((iA gs i).l.filter fun c => !decide (1 < oY kvs c)) ++ rest9⟩] : List Ob) ++ (pre.map Gn.row ++ (gs.drop (i + 1)).map Gn.row)).Perm (([⟨ptr A1 0 4, 0, oC o⟩, ⟨ptr A2 0 3, 0, rC rg sv⟩, ⟨ptr A3 0 1, 0, [kv]⟩, ⟨.map (some M1), 0, KN kvs⟩, ⟨ptr A4 0 1, 0, [.map (some M1)]⟩, ⟨ptr A5 0 1, 0, [ow]⟩, ⟨ow, 3, ((pre ++ [(⟨(iA gs i).c, (iA gs i).w, ((iA gs i).l.filter fun c => !decide (1 < oY kvs c)), rest9⟩ : Gn)]) ++ gs.drop (i + 1)).flatMap Gn.cells⟩, ⟨ptr AK 0 4, 0, oC o⟩, ⟨ptr AL 0 3, 0, rC rg sv⟩] : List Ob) ++ ((pre ++ [(⟨(iA gs i).c, (iA gs i).w, ((iA gs i).l.filter fun c => !decide (1 < oY kvs c)), rest9⟩ : Gn)]) ++ gs.drop (i + 1)).map Gn.row) := by
   have e : ((pre ++ [(⟨(iA gs i).c, (iA gs i).w, ((iA gs i).l.filter fun c => !decide (1 < oY kvs c)), rest9⟩ : Gn)]) ++ gs.drop (i + 1)).map Gn.row = pre.map Gn.row ++ ((⟨(iA gs i).c, (iA gs i).w, ((iA gs i).l.filter fun c => !decide (1 < oY kvs c)), rest9⟩ : Gn).row :: (gs.drop (i + 1)).map Gn.row) := by
    rw [dx, dx, dy]
    rfl
   rw [e]
   exact (List.perm_middle (l₁ := pre.map Gn.row)).symm.append_left ([⟨ptr A1 0 4, 0, oC o⟩, ⟨ptr A2 0 3, 0, rC rg sv⟩, ⟨ptr A3 0 1, 0, [kv]⟩, ⟨.map (some M1), 0, KN kvs⟩, ⟨ptr A4 0 1, 0, [.map (some M1)]⟩, ⟨ptr A5 0 1, 0, [ow]⟩, ⟨ow, 3, ((pre ++ [(⟨(iA gs i).c, (iA gs i).w, ((iA gs i).l.filter fun c => !decide (1 < oY kvs c)), rest9⟩ : Gn)]) ++ gs.drop (i + 1)).flatMap Gn.cells⟩, ⟨ptr AK 0 4, 0, oC o⟩, ⟨ptr AL 0 3, 0, rC rg sv⟩] : List Ob)
  exact ⟨n - 1, by omega, i + 1, pre ++ [(⟨(iA gs i).c, (iA gs i).w, ((iA gs i).l.filter fun c => !decide (1 < oY kvs c)), rest9⟩ : Gn)], ⟨by omega, by rw [dg, hpl]; rfl, by
   rw [dx, hpk, vN gs i hil, dx]
   rfl⟩, by simp, hfr.perm hPe⟩
 have hie : i = gs.length := by omega
 have hdn : gs.drop i = [] := ga (by omega)
 rw [hdn, dp] at hS9
 have hFz := hF
 have hnt := (hF.ax (cel := Gn.cells) 6 rfl (fun _ => rfl)).bu
 simp (disch := omega) only [↓RA, RZ, simprocAttr, hn, g11, hF.ld 5 rfl, c0W, q4, hnt]
 rw [hdn, dp] at hFz
 refine ⟨ow, pre, rfl, ?_, hFz.ch 6 rfl (fun _ => rfl), fun g hg => ?_, hFz.forget⟩
 ·rw [hpk, hie, ef]
  have e1 : gs.map (fun g : Gn => (g.c, g.l.filter fun p => !decide (1 < oY kvs p))) = (gs.map Gn.key).map fun k => (k.1, k.2.filter fun p => !decide (1 < yU o rg (plK ks (mT o)) p)) := by
   rw [List.map_map]
   refine List.map_congr_left fun g _ => ?_
   show (g.c, _) = (g.c, _)
   congr 1
   refine List.filter_congr fun p _ => ?_
   rw [hcn p]
  rw [e1, hgs, List.map_map]
  rfl
 ·have hm : g.row ∈ ([⟨ptr A1 0 4, 0, oC o⟩, ⟨ptr A2 0 3, 0, rC rg sv⟩, ⟨ptr A3 0 1, 0, [kv]⟩, ⟨.map (some M1), 0, KN kvs⟩, ⟨ptr A4 0 1, 0, [.map (some M1)]⟩, ⟨ptr A5 0 1, 0, [ow]⟩, ⟨ow, 3, pre.flatMap Gn.cells⟩, ⟨ptr AK 0 4, 0, oC o⟩, ⟨ptr AL 0 3, 0, rC rg sv⟩] ++ pre.map Gn.row) := eF _ (eP hg)
  refine ⟨⟨tH ((hS9.own _ hm).rd (show g.row.size ≠ 0 from (by decide : (2 : Nat) ≠ 0))), pK, by decide⟩, fun b hb => ?_⟩
  rcases hS9.new _ hm b (tP hb) with h | h
  ·exact h
  ·exact h.elim
theorem a8m (o : Org) (ho : o.In H) (rg : Reg) (sv : Value) (hr : rg.In H sv) (h0 : kO o rg ≠ 0) :
 Fn prog 40 [.agg #[.string o.name, o.rv, o.dv, o.cv], .agg #[sv, .int .u64 rg.cpl, .int .u64 rg.off]] H fun r H' => r = .tuple #[.slice none 0 0, I (kO o rg)] ∧ St prog H H' [] := by
 refine .aC func40 rfl (by kernel_rfl) (m := 49) rfl fun l hn g0 g1 => ?_
 simp (disch := omega) only [↓RA, RB, simprocAttr, g0]
 refine (sR H).eNew 4 [(.string o.name), o.rv, o.dv, o.cv] rfl rfl (by simp [OC, ((sR H).sl ho.1).cells.2.1, ((sR H).sl ho.2.2.1).cells.2.1, ((sR H).sl ho.2.2.2.2.1).cells.2.1]) lV fun A1 H1 hS1 => ?_
 simp only [RT] at hS1
 simp (disch := omega) only [↓RA, RB, simprocAttr, g1]
 refine hS1.eNew 3 [sv, (.int .u64 rg.cpl), (.int .u64 rg.off)] rfl rfl (by simp [OC, (hS1.sl hr.1).cells.2.1]) lN fun A2 H2 hS2 => ?_
 simp only [RT] at hS2
 simp (disch := omega) only [↓RA, RZ, simprocAttr, hn, hS2.ae 0 rfl, hS2.ae 1 rfl]
 refine hS2.cF (lI o (ho.ab hS2) rg sv (hr.ab hS2)) fun H3 hS3 => ?_
 simp (disch := omega) only [↓RA, RB, simprocAttr, hn]
 refine gZ (fun h1 => ?_) (fun h1 => ?_)
 ·simp (disch := omega) only [↓RA, RZ, simprocAttr, hn, c1o, h1]
  exact hS3.forget
 exact absurd h0 h1
theorem a5k (o : Org) (ho : o.In H) (rg : Reg) (sv : Value) (hr : rg.In H sv) (h0 : kO o rg ≠ 0) :
 Fn prog 41 [.agg #[.string o.name, o.rv, o.dv, o.cv], .agg #[sv, .int .u64 rg.cpl, .int .u64 rg.off]] H fun r H' => r = .tuple #[.slice none 0 0, I (kO o rg)] ∧ St prog H H' [] := by
 refine .aC func41 rfl (by kernel_rfl) (m := 77) rfl fun l hn g0 g1 => ?_
 simp (disch := omega) only [↓RA, RB, simprocAttr, g0]
 refine (sR H).eNew 4 [(.string o.name), o.rv, o.dv, o.cv] rfl rfl (by simp [OC, ((sR H).sl ho.1).cells.2.1, ((sR H).sl ho.2.2.1).cells.2.1, ((sR H).sl ho.2.2.2.2.1).cells.2.1]) lV fun A1 H1 hS1 => ?_
 simp only [RT] at hS1
 simp (disch := omega) only [↓RA, RB, simprocAttr, g1]
 refine hS1.eNew 3 [sv, (.int .u64 rg.cpl), (.int .u64 rg.off)] rfl rfl (by simp [OC, (hS1.sl hr.1).cells.2.1]) lN fun A2 H2 hS2 => ?_
 simp only [RT] at hS2
 simp (disch := omega) only [↓RA, RZ, simprocAttr, hn, hS2.ae 0 rfl, hS2.ae 1 rfl]
 refine hS2.cF (lI o (ho.ab hS2) rg sv (hr.ab hS2)) fun H3 hS3 => ?_
 simp (disch := omega) only [↓RA, RB, simprocAttr, hn]
 refine gZ (fun h1 => ?_) (fun h1 => ?_)
 ·simp (disch := omega) only [↓RA, RZ, simprocAttr, hn, c5b, h1]
  exact hS3.forget
 exact absurd h0 h1
theorem b0G (o : Org) (ho : o.In H) (rg : Reg) (sv : Value) (hr : rg.In H sv) (h0 : kO o rg ≠ 0) :
 Fn prog 79 [.agg #[.string o.name, o.rv, o.dv, o.cv], .agg #[sv, .int .u64 rg.cpl, .int .u64 rg.off]] H fun r H' => r = .tuple #[.slice none 0 0, I (kO o rg)] ∧ St prog H H' [] := by
 refine .aC func79 rfl (by kernel_rfl) (m := 15) rfl fun l hn g0 g1 => ?_
 simp (disch := omega) only [↓RA, RB, simprocAttr, g0]
 refine (sR H).eNew 4 [(.string o.name), o.rv, o.dv, o.cv] rfl rfl (by simp [OC, ((sR H).sl ho.1).cells.2.1, ((sR H).sl ho.2.2.1).cells.2.1, ((sR H).sl ho.2.2.2.2.1).cells.2.1]) lV fun A1 H1 hS1 => ?_
 simp only [RT] at hS1
 simp (disch := omega) only [↓RA, RB, simprocAttr, g1]
 refine hS1.eNew 3 [sv, (.int .u64 rg.cpl), (.int .u64 rg.off)] rfl rfl (by simp [OC, (hS1.sl hr.1).cells.2.1]) lN fun A2 H2 hS2 => ?_
 simp only [RT] at hS2
 simp (disch := omega) only [↓RA, RZ, simprocAttr, hn, hS2.ae 0 rfl, hS2.ae 1 rfl]
 refine hS2.cF (lI o (ho.ab hS2) rg sv (hr.ab hS2)) fun H3 hS3 => ?_
 simp (disch := omega) only [↓RA, RB, simprocAttr, hn]
 refine gZ (fun h1 => ?_) (fun h1 => ?_)
 ·simp (disch := omega) only [↓RA, RZ, simprocAttr, hn, c4l, h1]
  exact hS3.forget
 exact absurd h0 h1
theorem b5Q (o : Org) (ho : o.In H) (rg : Reg) (sv : Value) (hr : rg.In H sv) (h0 : kO o rg ≠ 0) :
 Fn prog 77 [.agg #[.string o.name, o.rv, o.dv, o.cv], .agg #[sv, .int .u64 rg.cpl, .int .u64 rg.off]] H fun r H' => r = .tuple #[.slice none 0 0, I (kO o rg)] ∧ St prog H H' [] := by
 refine .aC func77 rfl (by kernel_rfl) (m := 16) rfl fun l hn g0 g1 => ?_
 simp (disch := omega) only [↓RA, RB, simprocAttr, g0]
 refine (sR H).eNew 4 [(.string o.name), o.rv, o.dv, o.cv] rfl rfl (by simp [OC, ((sR H).sl ho.1).cells.2.1, ((sR H).sl ho.2.2.1).cells.2.1, ((sR H).sl ho.2.2.2.2.1).cells.2.1]) lV fun A1 H1 hS1 => ?_
 simp only [RT] at hS1
 simp (disch := omega) only [↓RA, RB, simprocAttr, g1]
 refine hS1.eNew 3 [sv, (.int .u64 rg.cpl), (.int .u64 rg.off)] rfl rfl (by simp [OC, (hS1.sl hr.1).cells.2.1]) lN fun A2 H2 hS2 => ?_
 simp only [RT] at hS2
 simp (disch := omega) only [↓RA, RZ, simprocAttr, hn, hS2.ae 0 rfl, hS2.ae 1 rfl]
 refine hS2.cF (lI o (ho.ab hS2) rg sv (hr.ab hS2)) fun H3 hS3 => ?_
 simp (disch := omega) only [↓RA, RB, simprocAttr, hn]
 refine gZ (fun h1 => ?_) (fun h1 => ?_)
 ·simp (disch := omega) only [↓RA, RZ, simprocAttr, hn, b9H, h1]
  exact hS3.forget
 exact absurd h0 h1
theorem b1P (o : Org) (ho : o.In H) (rg : Reg) (sv : Value) (hr : rg.In H sv) (h0 : kO o rg ≠ 0) :
 Fn prog 76 [.agg #[.string o.name, o.rv, o.dv, o.cv], .agg #[sv, .int .u64 rg.cpl, .int .u64 rg.off]] H fun r H' => r = .tuple #[.agg #[.slice none 0 0, .int .u64 0, .int .u64 0], .slice none 0 0, I (kO o rg)] ∧ St prog H H' [] := by
 refine .aC func76 rfl (by kernel_rfl) (m := 43) rfl fun l hn g0 g1 => ?_
 simp (disch := omega) only [↓RA, RB, simprocAttr, g0]
 refine (sR H).eNew 4 [(.string o.name), o.rv, o.dv, o.cv] rfl rfl (by simp [OC, ((sR H).sl ho.1).cells.2.1, ((sR H).sl ho.2.2.1).cells.2.1, ((sR H).sl ho.2.2.2.2.1).cells.2.1]) lV fun A1 H1 hS1 => ?_
 simp only [RT] at hS1
 simp (disch := omega) only [↓RA, RB, simprocAttr, g1]
 refine hS1.eNew 3 [sv, (.int .u64 rg.cpl), (.int .u64 rg.off)] rfl rfl (by simp [OC, (hS1.sl hr.1).cells.2.1]) lN fun A2 H2 hS2 => ?_
 simp only [RT] at hS2
 simp (disch := omega) only [↓RA, RZ, simprocAttr]
 refine hS2.eNew 3 [(.slice none 0 0), (.int .u64 0), (.int .u64 0)] rfl rfl rfl lN fun A3 H3 hS3 => ?_
 simp only [RT] at hS3
 simp (disch := omega) only [↓RA, RZ, simprocAttr, hn, hS3.ae 0 rfl, hS3.ae 1 rfl]
 refine hS3.cF (lI o (ho.ab hS3) rg sv (hr.ab hS3)) fun H4 hS4 => ?_
 simp (disch := omega) only [↓RA, RB, simprocAttr, hn]
 refine gZ (fun h1 => ?_) (fun h1 => ?_)
 ·simp (disch := omega) only [↓RA, RZ, simprocAttr, hn, a9S, h1]
  refine hS4.aa 2 rfl [(.slice none 0 0), (.int .u64 0), (.int .u64 0)] rfl rfl lN (by simp) fun H5 hS5 => ?_
  simp only [RT] at hS5
  simp (disch := omega) only [↓RA, RZ, simprocAttr, hn, c1j, hS5.ae 2 rfl, h1]
  exact hS5.forget
 exact absurd h0 h1
theorem a6O (o : Org) (ho : o.In H) (rg : Reg) (sv : Value) (hr : rg.In H sv) (h0 : kO o rg ≠ 0) :
 Fn prog 80 [.agg #[.string o.name, o.rv, o.dv, o.cv], .agg #[sv, .int .u64 rg.cpl, .int .u64 rg.off], .agg #[I 0, I 0, I 0]] H fun r H' => r = .tuple #[.agg #[.slice none 0 0, .int .u64 0, .int .u64 0], I (kO o rg)] ∧ St prog H H' [] := by
 refine .bN func80 rfl (by kernel_rfl) (m := 111) rfl fun l hn g0 g1 g2 => ?_
 simp (disch := omega) only [↓RA, RB, simprocAttr, g0]
 refine (sR H).eNew 4 [(.string o.name), o.rv, o.dv, o.cv] rfl rfl (by simp [OC, ((sR H).sl ho.1).cells.2.1, ((sR H).sl ho.2.2.1).cells.2.1, ((sR H).sl ho.2.2.2.2.1).cells.2.1]) lV fun A1 H1 hS1 => ?_
 simp only [RT] at hS1
 simp (disch := omega) only [↓RA, RB, simprocAttr, g1]
 refine hS1.eNew 3 [sv, (.int .u64 rg.cpl), (.int .u64 rg.off)] rfl rfl (by simp [OC, (hS1.sl hr.1).cells.2.1]) lN fun A2 H2 hS2 => ?_
 simp only [RT] at hS2
 simp (disch := omega) only [↓RA, RB, simprocAttr, g2]
 refine hS2.eNew 3 [I 0, I 0, I 0] rfl rfl rfl wS fun A3 H3 hS3 => ?_
 simp only [RT] at hS3
 simp (disch := omega) only [↓RA, RZ, simprocAttr]
 refine hS3.eNew 3 [(.slice none 0 0), (.int .u64 0), (.int .u64 0)] rfl rfl rfl lN fun A4 H4 hS4 => ?_
 simp only [RT] at hS4
 simp (disch := omega) only [↓RA, RZ, simprocAttr, hn, hS4.ae 0 rfl, hS4.ae 1 rfl]
 refine hS4.cF (lI o (ho.ab hS4) rg sv (hr.ab hS4)) fun H5 hS5 => ?_
 simp (disch := omega) only [↓RA, RB, simprocAttr, hn]
 refine gZ (fun h1 => ?_) (fun h1 => ?_)
 ·simp (disch := omega) only [↓RA, RZ, simprocAttr, hn, a9S, h1]
  refine hS5.aa 3 rfl [(.slice none 0 0), (.int .u64 0), (.int .u64 0)] rfl rfl lN (by simp) fun H6 hS6 => ?_
  simp only [RT] at hS6
  simp (disch := omega) only [↓RA, RZ, simprocAttr, hn, c4S, hS6.ae 3 rfl, h1]
  exact hS6.forget
 exact absurd h0 h1
theorem b1C {P : Program} {H : Heap} (m : Nat) (t : TypeId) : a1e (some m) P H t (.slice none 0 0) = some (I 0) := rfl
theorem a0U : (⟨[], 0, 0⟩ : Reg).In H (.slice none 0 0) := ⟨⟨.inl ⟨rfl, rfl⟩, uJ _, by decide⟩, by decide, fun x hx => absurd hx ez, by decide, by decide⟩
theorem a8F (o : Org) (ho : o.In H) (rg : Reg) (sv : Value) (hr : rg.In H sv) (h0 : kO o rg ≠ 0) (kv : Value) (hkc : kv.cells = #[kv] ∧ oneCell kv = true ∧ mY kv = true) :
 Fn prog 33 [.agg #[.string o.name, o.rv, o.dv, o.cv], .agg #[sv, .int .u64 rg.cpl, .int .u64 rg.off], kv, I (kO o rg)] H fun r H' => r = .bool true ∧ St prog H H' [] := by
 refine .cK func33 rfl (by kernel_rfl) (m := 115) rfl fun l hn g0 g1 g2 g3 => ?_
 simp (disch := omega) only [↓RA, RB, simprocAttr, g0]
 refine (sR H).eNew 4 [(.string o.name), o.rv, o.dv, o.cv] rfl rfl (by simp [OC, ((sR H).sl ho.1).cells.2.1, ((sR H).sl ho.2.2.1).cells.2.1, ((sR H).sl ho.2.2.2.2.1).cells.2.1]) lV fun A1 H1 hS1 => ?_
 simp only [RT] at hS1
 simp (disch := omega) only [↓RA, RB, simprocAttr, g1]
 refine hS1.eNew 3 [sv, (.int .u64 rg.cpl), (.int .u64 rg.off)] rfl rfl (by simp [OC, (hS1.sl hr.1).cells.2.1]) lN fun A2 H2 hS2 => ?_
 simp only [RT] at hS2
 simp (disch := omega) only [↓RA, RZ, simprocAttr, hn, hS2.ae 0 rfl, hS2.ae 1 rfl]
 refine hS2.cF (a8m o (ho.ab hS2) rg sv (hr.ab hS2) h0) fun H3 hS3 => ?_
 simp (disch := omega) only [↓RA, RZ, simprocAttr, hn, hS3.ae 0 rfl, hS3.ae 1 rfl]
 refine hS3.cF (a5k o (ho.ab hS3) rg sv (hr.ab hS3) h0) fun H4 hS4 => ?_
 simp (disch := omega) only [↓RA, RZ, simprocAttr, hn, hS4.ae 0 rfl, hS4.ae 1 rfl]
 refine hS4.cF (b0G o (ho.ab hS4) rg sv (hr.ab hS4) h0) fun H5 hS5 => ?_
 simp (disch := omega) only [↓RA, RZ, simprocAttr, hn, hS5.ae 0 rfl, hS5.ae 1 rfl, b9G]
 refine hS5.cF (a6O o (ho.ab hS5) rg sv (hr.ab hS5) h0) fun H6 hS6 => ?_
 simp (disch := omega) only [↓RA, RZ, simprocAttr, hn]
 refine hS6.eNew 3 [(.slice none 0 0), (.int .u64 0), (.int .u64 0)] rfl rfl rfl lN fun A3 H7 hS7 => ?_
 simp only [RT] at hS7
 simp (disch := omega) only [↓RA, RB, simprocAttr, hn]
 refine hS7.aa 2 rfl [(.slice none 0 0), (.int .u64 0), (.int .u64 0)] rfl rfl lN (by simp) fun H8 hS8 => ?_
 simp only [RT] at hS8
 simp (disch := omega) only [↓RA, RZ, simprocAttr, hn, hS8.ae 0 rfl, hS8.ae 1 rfl]
 refine hS8.cF (b5Q o (ho.ab hS8) rg sv (hr.ab hS8) h0) fun H9 hS9 => ?_
 simp (disch := omega) only [↓RA, RZ, simprocAttr, hn, hS9.ae 0 rfl, hS9.ae 1 rfl]
 refine hS9.cF (b1P o (ho.ab hS9) rg sv (hr.ab hS9) h0) fun H10 hS10 => ?_
 simp (disch := omega) only [↓RA, RZ, simprocAttr, hn]
 refine hS10.eNew 3 [(.slice none 0 0), (.int .u64 0), (.int .u64 0)] rfl rfl rfl lN fun A4 H11 hS11 => ?_
 simp only [RT] at hS11
 simp (disch := omega) only [↓RA, RB, simprocAttr, hn]
 refine hS11.aa 3 rfl [(.slice none 0 0), (.int .u64 0), (.int .u64 0)] rfl rfl lN (by simp) fun H12 hS12 => ?_
 simp only [RT] at hS12
 simp (disch := omega) only [↓RA, RZ, simprocAttr, hn, b1C]
 simp (disch := omega) only [↓RA, RZ, simprocAttr, hn, hS12.ae 2 rfl, a9S]
 refine hS12.cF (a2X ⟨[], 0, 0⟩ (.slice none 0 0) (.slice none 0 0) a0U a0U (by decide)) fun H13 hS13 => ?_
 simp (disch := omega) only [↓RA, RZ, simprocAttr, hn, hS13.ae 3 rfl, hS13.ae 2 rfl]
 refine hS13.cF (a2X ⟨[], 0, 0⟩ (.slice none 0 0) (.slice none 0 0) a0U a0U (by decide)) fun H14 hS14 => ?_
 simp (disch := omega) only [↓RA, RZ, simprocAttr, hn, g3]
 simp (disch := omega) only [RB, RC, simprocAttr, hn, c4L]
 exact hS14.forget
theorem c1J : kR ⟨#[]⟩ = false := by decide
abbrev c4E (o : Org) : Org := { o with name := ⟨#[]⟩ }
theorem a5J {o : Org} (h : o.name = ⟨#[]⟩) (rg : Reg) : kO o rg = 8 := by
 have he : organE o = 8 := by unfold organE; rw [h, if_pos c1J]
 unfold kO
 rw [he, if_pos (by decide)]
theorem a2y (hG : Glob gH H) (hkn : b6K) (p : Pln) (hp : p.In H) (hk : p.Ok) (sv : Value) (rg : Reg) (hri : RgI H rg sv) (kv : Value) (ks : List Nt) (hki : KsI H kv ks) :
 Fn prog 6 [.agg #[p.rv, p.dv, p.cv], .agg #[sv, .int .u64 rg.cpl, .int .u64 rg.off], kv] H fun r H' => r = .bool true ∧ St prog H H' [] := by
 have hl1 := hri.len
 have hl2 := hki.len
 refine .bN func6 rfl (by kernel_rfl) (m := 88) rfl fun l hn g0 g1 g2 => ?_
 simp (disch := omega) only [↓RA, RB, simprocAttr, g0]
 refine (sR H).eNew 3 [p.rv, p.dv, p.cv] rfl rfl (by simp [((sR H).sl hp.1).cells.2.1, ((sR H).sl hp.2.1).cells.2.1, ((sR H).sl hp.2.2.2.1).cells.2.1]) b7v fun A1 H1 hS1 => ?_
 simp only [RT] at hS1
 simp (disch := omega) only [↓RA, RB, simprocAttr, g1]
 refine hS1.eNew 3 [sv, (.int .u64 rg.cpl), (.int .u64 rg.off)] rfl rfl (by simp [OC, (hS1.sl hri.sl).cells.2.1]) lN fun A2 H2 hS2 => ?_
 simp only [RT] at hS2
 simp (disch := omega) only [↓RA, RZ, simprocAttr]
 refine hS2.cF (hkn _) fun H3 hS3 => ?_
 simp (disch := omega) only [↓RA, RZ, simprocAttr, hn, hS3.ae 0 rfl]
 refine hS3.cF (b7O p (hp.ab hS3)) fun H4 hS4 => ?_
 simp (disch := omega) only [↓RA, RZ, simprocAttr, hn]
 refine zO (fun h1 => ?_) (fun h1 => ?_)
 ·simp (disch := omega) only [↓RA, RZ, simprocAttr, hn, h1]
  refine hS4.cF (hkn _) fun H5 hS5 => ?_
  simp (disch := omega) only [↓RA, RZ, simprocAttr, hn, tR6, h1]
  exact hS5.forget
 have hf : a0h p = true := by simpa using h1
 simp (disch := omega) only [↓RA, RZ, simprocAttr, hn, hS4.ld 1 rfl, (hS4.sl hri.sl).len, h1]
 refine iO (fun h2 => ?_) (fun h2 => ?_)
 ·simp (disch := omega) only [↓RA, RZ, simprocAttr, hn, h1, h2]
  refine hS4.cF (hkn _) fun H6 hS6 => ?_
  simp (disch := omega) only [↓RA, RZ, simprocAttr, hn, tR6, h1, h2]
  exact hS6.forget
 simp (disch := omega) only [↓RA, RZ, simprocAttr, hn, g2, (hS4.sl hki.sl).len, h1, h2]
 refine gZ (fun h3 => ?_) (fun h3 => ?_)
 ·simp (disch := omega) only [↓RA, RZ, simprocAttr]
  refine hS4.cF (hkn _) fun H7 hS7 => ?_
  simp (disch := omega) only [↓RA, RZ, simprocAttr, hn, tR6, h1, h2, h3]
  exact hS7.forget
 have hri5 : rg.stops.length < 1000000000 := by omega
 have hki5 : ks.length < 1000000000 := by omega
 simp (disch := omega) only [↓RA, RZ, simprocAttr, hn, hS4.ae 0 rfl, h1, h2, h3]
 refine iJ (b1N (hS4.gl hG) p (hp.ab hS4) hk hf) ?_
 rintro r H8 ⟨o, rfl, ho, hm, hT6⟩
 have hS8 := hS4.trans hT6
 simp only [RT] at hS8
 have hS0 := hS8
 have hrI : rg.In H8 sv := (hri.ab hS0).reg hri5
 have hkI : Ks H8 kv ks := (hki.ab hS0).ks hki5
 obtain ⟨HB, hHB⟩ : ∃ h, h = H8 := ⟨_, rfl⟩
 rw [← hHB] at hrI hkI ho hS0 ⊢
 have hoe := hm.ok.organE
 have hf0 := Org.bD hoe
 simp (disch := omega) only [↓RA, RZ, simprocAttr]
 refine (sR HB).eNew 4 [(.string ⟨#[]⟩), (.slice none 0 0), (.slice none 0 0), (.slice none 0 0)] rfl rfl rfl lV fun A3 H9 hS9 => ?_
 simp only [RT] at hS9
 simp (disch := omega) only [↓RA, RZ, simprocAttr, hn, h1, h2, h3]
 refine hS9.aa 0 rfl [(.string o.name), o.rv, o.dv, o.cv] rfl (by simp [OC, (hS9.sl ho.1).cells.2.1, (hS9.sl ho.2.2.1).cells.2.1, (hS9.sl ho.2.2.2.2.1).cells.2.1]) lV (by simp) fun H10 hS10 => ?_
 simp only [RT] at hS10
 simp (disch := omega) only [↓RA, RZ, simprocAttr, hn, hS10.ae 0 rfl, ((hS0.var 1 rfl).ab hS10.ab).ae, h1, h2, h3]
 refine hS10.cF (a8C o (ho.ab hS10) rg sv (hrI.ab hS10)) fun H11 hS11 => ?_
 simp (disch := omega) only [↓RA, RZ, simprocAttr, hn, hS11.ae 0 rfl, h1, h2, h3]
 refine hS11.eNew 4 [(.string ⟨#[]⟩), (.slice none 0 0), (.slice none 0 0), (.slice none 0 0)] rfl rfl rfl lV fun A4 H12 hS12 => ?_
 simp only [RT] at hS12
 simp (disch := omega) only [↓RA, RZ, simprocAttr, hn, h1, h2, h3]
 refine hS12.aa 1 rfl [(.string o.name), o.rv, o.dv, o.cv] rfl (by simp [OC, (hS12.sl ho.1).cells.2.1, (hS12.sl ho.2.2.1).cells.2.1, (hS12.sl ho.2.2.2.2.1).cells.2.1]) lV (by simp) fun H13 hS13 => ?_
 simp only [RT] at hS13
 simp (disch := omega) only [↓RA, RZ, simprocAttr, hn, h1, h2, h3]
 refine hS13.aa 1 rfl [(.string ⟨#[]⟩)] rfl rfl tS9 (by simp) fun H14 hS14 => ?_
 simp only [RT] at hS14
 simp (disch := omega) only [↓RA, RZ, simprocAttr, hn, hS14.ae 0 rfl, hS14.ae 1 rfl, h1, h2, h3]
 refine hS14.ai [(.string o.name), o.rv, o.dv, o.cv, (.string ⟨#[]⟩), o.rv, o.dv, o.cv] c5s c4z rfl rfl (by first | (simp []; done) | simp [Value.cells]) (by first | (simp []; done) | simp [Value.cells]) (by simp [OC, (hS14.sl ho.1).cells.2.1, (hS14.sl ho.2.2.1).cells.2.1, (hS14.sl ho.2.2.2.2.1).cells.2.1]) (by decide) (by decide) fun w1 H15 hS15 => ?_
 simp only [RT] at hS15
 simp (disch := omega) only [↓RA, RZ, simprocAttr, hn, h1, h2, h3]
 obtain ⟨ys, hys⟩ : ∃ ys : List Org, ys = [o, c4E o] := ⟨_, rfl⟩
 have hyl : ys.length = 2 := by rw [hys]; rfl
 have hyI : ∀ y ∈ ys, y.In HB := fun y hy => by
  rw [hys] at hy
  rcases ek.1 hy with rfl | hy
  ·exact ho
  ·rw [dz.1 hy]; exact ho
 have hyn : ∀ i, i < 2 → (iA ys i).name ≠ ⟨#[]⟩ → i = 0 ∧ iA ys i = o := fun i hi hn => by
  rw [hys] at hn ⊢
  rcases dr.1 hi with h | h
  ·have : i = 0 := by omega
   subst this
   exact ⟨rfl, rfl⟩
  ·subst h
   exact absurd rfl hn
 have hyc : [.string o.name, o.rv, o.dv, o.cv, .string ⟨#[]⟩, o.rv, o.dv, o.cv] = ys.flatMap Org.cells := by rw [hys]; rfl
 rw [hyc] at hS15
 simp (disch := omega) only [↓RA, RZ, simprocAttr, (hS15.ax 2 rfl (fun _ => rfl)).len, h1, h2, h3, hyl]
 refine Wp.al (fun n l H' => l.length = 88 ∧ get l 2 = kv ∧ get l 4 = (ptr A2 0 3) ∧ get l 7 = (ptr A3 0 4) ∧ get l 43 = w1 ∧ get l 44 = I ys.length ∧ ∃ (i : Nat) (e : Int), (n + i = 2 ∧ (i = 0 → e = kO o rg)) ∧ get l 45 = I i ∧ get l 8 = I e ∧ St prog HB H' [⟨ptr A3 0 4, 0, [(.string o.name), o.rv, o.dv, o.cv]⟩, ⟨ptr A4 0 4, 0, [(.string ⟨#[]⟩), o.rv, o.dv, o.cv]⟩, ⟨w1, 4, ys.flatMap Org.cells⟩]) 2 ?_ ?_
 ·simp (disch := omega) only [RB, RC, simprocAttr, hn, g2, hyl]
  exact ⟨0, _, ⟨rfl, fun _ => rfl⟩, rfl, rfl, hS15⟩
 rintro n l H16 ⟨hn, g2, g4, g7, g43, g44, i, e, ⟨hi,he⟩, g45, g8, hS16⟩
 simp (disch := omega) only [↓RA, RB, simprocAttr, hn, g44, g45, hyl]
 refine gZ (fun q1 => ?_) (fun q1 => ?_)
 ·have hi2 : i < 2 := by omega
  have hyi := hyI _ (iD (xs := ys) (j := i) (by omega))
  simp (disch := omega) only [↓RA, RZ, simprocAttr, hn, g43, g45, (hS16.ax 2 rfl (fun _ => rfl)).idx, (hS16.ax 2 rfl (fun _ => rfl)).ae, Org.cells, q1]
  refine hS16.eNew 4 [(.string ⟨#[]⟩), (.slice none 0 0), (.slice none 0 0), (.slice none 0 0)] rfl rfl rfl lV fun A5 H17 hS17 => ?_
  simp only [RT] at hS17
  simp (disch := omega) only [↓RA, RZ, simprocAttr, hn, q1]
  refine hS17.aa 3 rfl [(.string (iA ys i).name), (iA ys i).rv, (iA ys i).dv, (iA ys i).cv] rfl (by simp [OC, (hS17.sl (hyI (iA ys i) (iD (by omega))).1).cells.2.1, (hS17.sl (hyI (iA ys i) (iD (by omega))).2.2.1).cells.2.1, (hS17.sl (hyI (iA ys i) (iD (by omega))).2.2.2.2.1).cells.2.1]) lV (by simp) fun H18 hS18 => ?_
  simp only [RT] at hS18
  simp (disch := omega) only [↓RA, RZ, simprocAttr, hn, hS18.ld 3 rfl, q1]
  refine a8r (fun l H' => l.length = 88 ∧ get l 2 = kv ∧ get l 4 = (ptr A2 0 3) ∧ get l 7 = (ptr A3 0 4) ∧ get l 11 = (ptr A5 0 4) ∧ get l 43 = w1 ∧ get l 44 = I ys.length ∧ get l 45 = I i ∧ get l 8 = I (kO (iA ys i) rg) ∧ St prog HB H' [⟨ptr A3 0 4, 0, [(.string o.name), o.rv, o.dv, o.cv]⟩, ⟨ptr A4 0 4, 0, [(.string ⟨#[]⟩), o.rv, o.dv, o.cv]⟩, ⟨w1, 4, ys.flatMap Org.cells⟩, ⟨ptr A5 0 4, 0, [(.string (iA ys i).name), (iA ys i).rv, (iA ys i).dv, (iA ys i).cv]⟩]) ?_ ?_
  ·rintro l H19 ⟨hn, g2, g4, g7, g11, g43, g44, g45, g8, hS19⟩
   simp (disch := omega) only [↓RA, RZ, simprocAttr, hn, g8]
   refine jV (fun g1 => ?_) (fun g1 => ?_)
   ·have hE : rkE (iA ys i) rg ks = kO (iA ys i) rg := by unfold rkE; rw [if_pos g1]
    have hadd : a0o (iA ys i) rg ks = [] := by unfold a0o; rw [if_neg (by rw [hE]; exact g1)]
    simp (disch := omega) only [↓RA, RZ, simprocAttr, hn, g2, g4, g11, g8, hS19.ae 3 rfl, ((hS0.var 1 rfl).ab hS19.ab).ae, g1]
    refine hS19.cF (a8F (iA ys i) (hyi.ab hS19) rg sv (hrI.ab hS19) g1 kv hkI.sl.cells) fun H20 hS20 => ?_
    simp (disch := omega) only [↓RA, RZ, simprocAttr, hn, g11, g8, g1]
    simp (disch := omega) only [↓RA, RZ, simprocAttr, hn, g2, g4, hS20.ae 3 rfl, ((hS0.var 1 rfl).ab hS20.ab).ae, g1]
    refine iJ (b0t (iA ys i) (hyi.ab hS20) rg sv (hrI.ab hS20) kv ks (hkI.ab hS20)) ?_
    rintro r H21 ⟨lv, gs, rfl, hgk, hlx, hgx, hT9⟩
    have hS21 := hS20.trans hT9
    simp only [RT] at hS21
    rw [hE]
    have hg0 : gs = [] := by
     rw [hadd] at hgk
     exact gE.1 hgk
    rw [hg0] at hlx
    have h05 : ∀ m t, a1e (some m) prog H21 t lv = some (I 0) := fun m t => hlx.1.len m t
    simp (disch := omega) only [↓RA, RZ, simprocAttr, hn, g2, g4, g7, g43, g44, g45, g8, g1, h05]
    exact ⟨n - 1, by omega, i + 1, _, ⟨by omega, fun h => by omega⟩, by simp, rfl, hS21.pick [0, 1, 2] (by decide) rfl⟩
   have hz0 := dC.1 g1
   have hyo : iA ys i = o := (hyn i hi2 fun hn => by
    rw [a5J hn] at hz0
    exact absurd hz0 (by decide)).2
   have hz2 : kO o rg = 0 := by rw [← hyo]; exact hz0
   rw [hz0] at g8
   simp (disch := omega) only [↓RA, RZ, simprocAttr, hn, g2, g7, g8, hS19.ae 0 rfl, g1]
   refine hS19.cF (a6c o (ho.ab hS19) kv ks (hkI.ab hS19)) fun H22 hS22 => ?_
   simp (disch := omega) only [↓RA, RZ, simprocAttr, hn, g2, g4, g11, hS22.ae 3 rfl, ((hS0.var 1 rfl).ab hS22.ab).ae, g1]
   have hE : rkE (iA ys i) rg ks = vM o ks := by unfold rkE; rw [if_neg (by rw [hz0]; simp), hyo]
   refine iJ (b0t (iA ys i) (hyi.ab hS22) rg sv (hrI.ab hS22) kv ks (hkI.ab hS22)) ?_
   rintro r H23 ⟨lv, gs, rfl, hgk, hlx, hgx, hT11⟩
   have hS23 := hS22.trans hT11
   simp only [RT] at hS23
   rw [hE]
   simp (disch := omega) only [↓RA, RZ, simprocAttr, hn, g1]
   refine jV (fun w9 => ?_) (fun w9 => ?_)
   ·have hadd : a0o (iA ys i) rg ks = [] := by unfold a0o; rw [if_neg (by rw [hE]; exact w9)]
    have hg0 : gs = [] := by
     rw [hadd] at hgk
     exact gE.1 hgk
    rw [hg0] at hlx
    have h05 : ∀ m t, a1e (some m) prog H23 t lv = some (I 0) := fun m t => hlx.1.len m t
    simp (disch := omega) only [↓RA, RZ, simprocAttr, hn, g2, g4, g7, g43, g44, g45, g8, g1, w9, h05]
    exact ⟨n - 1, by omega, i + 1, _, ⟨by omega, fun h => by omega⟩, by simp, rfl, hS23.pick [0, 1, 2] (by decide) rfl⟩
   simp (disch := omega) only [↓RA, RZ, simprocAttr, hn, g2, g4, g7, g43, g44, g45, g8, g1, w9]
   exact ⟨n - 1, by omega, i + 1, _, ⟨by omega, fun h => by omega⟩, by simp, rfl, hS23.pick [0, 1, 2] (by decide) rfl⟩
  refine gZ (fun j1 => ?_) (fun j1 => ?_)
  ·simp (disch := omega) only [↓RA, RZ, simprocAttr, hn, g2, g4, g7, g43, g44, g45, hyl, q1, a0n, j1]
   rw [j1] at hS18
   exact ⟨by rw [a5J j1], hS18⟩
  obtain ⟨hi0, hyo⟩ := hyn i hi2 j1
  simp (disch := omega) only [↓RA, RZ, simprocAttr, hn, g2, g4, g7, g43, g44, g45, g8, hyl, q1, a0n, j1]
  exact ⟨by rw [he hi0, hyo], hS18⟩
 simp (disch := omega) only [↓RA, RZ, simprocAttr, hn, tR6, q1]
 exact hS0.forget.trans hS16.forget
end Go.Ds
