/-
  A part of the proof of SilenceStrips.
-/
import Derived.Test.YtabfngimnibecaaGreatDoorVE
import Derived.Test.YtabfngimnibecaaGreatDoorVJ
set_option linter.unusedVariables false
set_option linter.unusedSimpArgs false
set_option linter.defProp false
set_option linter.unusedSectionVars false
namespace Go.Ds
open Go.Proofs
variable {H : Heap}
set_option maxRecDepth 10000
set_option maxHeartbeats 1000000
def mkN (P : Program) (t : TypeId) : Option (Nat × Nat × List Value) :=
 (aI P t).bind fun elem => (aF P elem).bind fun size => (fJ P elem).bind fun bytes => (aY P elem).bind fun z => if size != 0 && size != 1 && z.cells.size == size && bC z then some (bytes, size, z.cells.toList) else none
theorem b0w {β : Type} (cel : β → List Value) (x : β) (z : Array Value) (hz : cel x = z.toList) (h0 : 0 < z.size) : ∀ a, (madeCells z (a * z.size)).toList = (List.replicate a x).flatMap cel := by
 have key : ∀ a, (List.range (a * z.size)).map (fun i => z[i % z.size]!) = (List.replicate a x).flatMap cel := by
  intro a
  induction a with
  | zero => simp
  | succ a ih =>
    rw [Nat.succ_mul, Nat.add_comm, List.range_add, List.map_append, List.map_map, List.replicate_succ, List.flatMap_cons, ← ih, hz]
    congr 1
    ·refine List.ext_getElem (by simp) fun i h1 h2 => ?_
     simp only [List.getElem_map, List.getElem_range]
     rw [Nat.mod_eq_of_lt (by simpa using h1)]
     simp at h1
     simp [h1]
    ·refine List.map_congr_left fun i _ => ?_
     simp
 intro a
 rw [← key a]
 simp [madeCells]
theorem St.eMakeN {P : Program} {H0 : Base} {H : Heap} {os : List Ob} {β : Type} {cel : β → List Value} {x : β} (hS : St P H0 H os) {t : TypeId} {bytes sz : Nat} {zs : List Value} {K : Value → Heap → Prop} (a : Nat) (ha : mkN P t = some (bytes, sz, zs)) (hz : cel x = zs) (hroom : a * (bytes + 1) ≤ 17592186044416)
 (h : ∀ v H1, St P H0 H1 (os ++ [⟨v, sz, (List.replicate a x).flatMap cel⟩]) → K v H1) : iZ P H t (.int .i64 a) (.int .i64 a) K := by
 unfold mkN at ha
 cases he : aI P t with
 | none => rw [he] at ha; cases ha
 | some elem =>
 rw [he] at ha
 simp only [Option.bind_some] at ha
 cases hsz2 : aF P elem with
 | none => rw [hsz2] at ha; cases ha
 | some sz =>
 rw [hsz2] at ha
 simp only [Option.bind_some] at ha
 cases hby : fJ P elem with
 | none => rw [hby] at ha; cases ha
 | some by' =>
 rw [hby] at ha
 simp only [Option.bind_some] at ha
 cases hz2 : aY P elem with
 | none => rw [hz2] at ha; cases ha
 | some z' =>
 rw [hz2] at ha
 simp only [Option.bind_some] at ha
 split at ha
 case isFalse => cases ha
 rename_i hzs
 simp only [Bool.and_eq_true, beq_iff_eq, bne_iff_ne, ne_eq] at hzs
 obtain ⟨⟨⟨hs0, hs1⟩, hz1⟩, hfl⟩ := hzs
 simp only [Option.some.injEq, Prod.mk.injEq] at ha
 obtain ⟨rfl, rfl, rfl⟩ := ha
 have hm := b0w cel x z'.cells hz (by omega) a
 rw [hz1] at hm
 have hln : ((List.replicate a x).flatMap cel).length = a * sz := by
  rw [← hm]
  simp [madeCells]
 refine ⟨.slice (some ⟨H.length, 0, some ((List.replicate a x).flatMap cel).length⟩) a sz, H.cons (.cells ((List.replicate a x).flatMap cel) elem true ((List.replicate a x).flatMap cel).length 0), ?_, h _ _ (hS.add ?_ ?_ ?_ ?_)⟩
 ·unfold oW
  simp only [he, hsz2, hby, hz2, Option.bind_some]
  rw [if_pos]
  ·rw [if_neg hs1]
   simp only [Int.toNat_natCast, hm]
   rw [dN]
  ·have : (a : Int) * (by' + 1) ≤ (gN : Int) := by
    have h3 : ((a * (by' + 1) : Nat) : Int) ≤ ((17592186044416 : Nat) : Int) := Int.ofNat_le.2 hroom
    simpa [gN] using h3
   simp [hfl, hz1, this, hs0]
 ·unfold OwnAt
  rw [if_neg hs0]
  exact .inr ⟨_, 0, elem, _, 0, [], a, aN H _, by simp, rfl, hln, by simp, hsz2⟩
 ·simp [hP]
 ·exact fun B hB => bO _ hB
 ·intro B hB
  simp [cP] at hB
  omega
abbrev Nt := Nat × Nat
def ntc (x : Nt) : List Value := [.int .u64 x.1, .int .u64 x.2]
def Nt.Ok (x : Nt) : Prop := x.1 < 18446744073709551616 ∧ x.2 < 18446744073709551616
theorem b6V : mkN Tryz.prog 107 = some (16, 2, ntc (0, 0)) := by kernel_rfl
def jU (x : Nt) (n : Int) : Nt := if n < 64 then (x.1 ||| 2 ^ n.toNat, x.2) else (x.1, x.2 ||| 2 ^ (n - 64).toNat)
theorem a3M (i : Nat) (h : i < 64) : 2 ^ i < 18446744073709551616 := by
 have : 2 ^ i ≤ 2 ^ 63 := Nat.pow_le_pow_right (by decide) (by omega)
 have e : 2 ^ 63 = 9223372036854775808 := rfl
 omega
theorem a3f {a b : Nat} (ha : a < 18446744073709551616) (hb : b < 18446744073709551616) : a ||| b < 18446744073709551616 := Nat.or_lt_two_pow (n := 64) ha hb
theorem orB (a b : Nat) (ha : a < 18446744073709551616) (hb : b < 18446744073709551616) : IntKind.wrap .u64 ((BitVec.ofInt (IntKind.bits .u64) (a : Int) ||| BitVec.ofInt (IntKind.bits .u64) (b : Int)).toNat : Int) = ((a ||| b : Nat) : Int) := by
 have e : (BitVec.ofInt (IntKind.bits .u64) (a : Int) ||| BitVec.ofInt (IntKind.bits .u64) (b : Int)).toNat = a ||| b := by
  rw [BitVec.toNat_or, a1e a ha, a1e b hb]
 rw [e]
 have := a3f ha hb
 exact kF _ (by omega) (by omega)
theorem orN (n i : Nat) (hn : n < 18446744073709551616) (hi : i < 64) : IntKind.wrap .u64 ((BitVec.ofInt (IntKind.bits .u64) (n : Int) ||| BitVec.ofInt (IntKind.bits .u64) (IntKind.wrap .u64 (1 * 2 ^ min i (IntKind.bits .u64)))).toNat : Int) = ((n ||| 2 ^ i : Nat) : Int) := by
 rw [b5j i hi]
 exact orB n (2 ^ i) hn (a3M i hi)
theorem b3l {x : Nt} (hx : Nt.Ok x) {z : Int} (h0 : 0 ≤ z) (h1 : z < 128) : Nt.Ok (jU x z) := by
 unfold jU
 split
 ·exact ⟨a3f hx.1 (a3M _ (by omega)), hx.2⟩
 ·exact ⟨hx.1, a3f hx.2 (a3M _ (by omega))⟩
theorem b1z (x : Nt) (hx : Nt.Ok x) (z : Int) (h0 : 0 ≤ z) (h1 : z < 128) : Fn Tryz.prog 176 [.agg #[.int .u64 x.1, .int .u64 x.2], I z] H fun r H' => r = .agg #[.int .u64 (jU x z).1, .int .u64 (jU x z).2] ∧ St Tryz.prog H H' [] := by
 obtain ⟨m, rfl⟩ := Int.eq_ofNat_of_zero_le h0
 refine Fn.of_sw Tryz.func176 rfl (by kernel_rfl) fun l hl => ?_
 have hn : l.length = 21 := by rw [hl]; rfl
 have g0 : get l 0 = (.agg #[(.int .u64 x.1), (.int .u64 x.2)]) := by rw [hl]; rfl
 have g1 : get l 1 = I m := by rw [hl]; rfl
 clear hl
 simp (disch := omega) only [↓RA, RB, simprocAttr, g0]
 refine (St.refl Tryz.prog H).eNew 2 [(.int .u64 x.1), (.int .u64 x.2)] rfl rfl rfl iR fun A1 H1 hS1 => ?_
 simp only [RT] at hS1
 simp (disch := omega) only [↓RA, RZ, simprocAttr]
 refine hS1.eNew 2 [(.int .u64 0), (.int .u64 0)] rfl rfl rfl iR fun A2 H2 hS2 => ?_
 simp only [RT] at hS2
 simp (disch := omega) only [↓RA, RB, simprocAttr, hn, g1]
 first | refine aA (fun q1 => ?_) (fun q1 => ?_) | refine aB (fun q1 => ?_) (fun q1 => ?_)
 ·have e1 := orN x.1 m hx.1 (by omega)
  have e2 : jU x (m : Int) = (x.1 ||| 2 ^ m, x.2) := by unfold jU; rw [if_pos q1]; rfl
  simp (disch := omega) only [↓RA, RC, simprocAttr, q1]
  refine Wp.drw bY (by kernel_rfl) ?_
  simp (disch := omega) only [↓RA, RZ, simprocAttr, hn, g1, hS2.ld 0 rfl, e1]
  refine hS2.eStore 0 rfl [(.int .u64 (x.1 ||| 2 ^ m : Nat))] rfl rfl tO (by simp) fun H3 hS3 => ?_
  simp only [RT] at hS3
  simp (disch := omega) only [↓RA, RZ, simprocAttr, hn, hS3.ldA 0 rfl]
  refine hS3.eStore 1 rfl [(.int .u64 (x.1 ||| 2 ^ m : Nat)), (.int .u64 x.2)] rfl rfl iR (by simp) fun H4 hS4 => ?_
  simp only [RT] at hS4
  simp (disch := omega) only [↓RA, RZ, simprocAttr, hn, b4T, hS4.ldA 1 rfl]
  rw [e2]
  exact ⟨rfl, hS4.forget⟩
 have e1 := orN x.2 (m - 64) hx.2 (by omega)
 have e3 : (m : Int) - 64 = ((m - 64 : Nat) : Int) := by omega
 have e2 : jU x (m : Int) = (x.1, x.2 ||| 2 ^ (m - 64)) := by unfold jU; rw [if_neg q1, e3]; rfl
 simp (disch := omega) only [↓RA, RC, simprocAttr, q1]
 refine Wp.drw bY (by kernel_rfl) ?_
 simp (disch := omega) only [↓RA, RZ, simprocAttr, hn, g1, hS2.ld 0 rfl, e1, e3]
 refine hS2.eStore 0 rfl [(.int .u64 (x.2 ||| 2 ^ (m - 64) : Nat))] rfl rfl tO (by simp) fun H5 hS5 => ?_
 simp only [RT] at hS5
 simp (disch := omega) only [↓RA, RZ, simprocAttr, hn, hS5.ldA 0 rfl]
 refine hS5.eStore 1 rfl [(.int .u64 x.1), (.int .u64 (x.2 ||| 2 ^ (m - 64) : Nat))] rfl rfl iR (by simp) fun H6 hS6 => ?_
 simp only [RT] at hS6
 simp (disch := omega) only [↓RA, RZ, simprocAttr, hn, b4T, hS6.ldA 1 rfl]
 rw [e2]
 exact ⟨rfl, hS6.forget⟩
end Go.Ds
namespace Go.Ds
open Go.Proofs
variable {H : Heap}
set_option maxRecDepth 10000
set_option maxHeartbeats 1000000
def bQ (xs : List Int) : Nt := xs.foldl jU (0, 0)
def isN (z : Int) : Prop := 0 ≤ z ∧ z < 128
theorem kJ : ∀ (xs : List Int) (x : Nt), (∀ z ∈ xs, isN z) → Nt.Ok x → Nt.Ok (xs.foldl jU x)
 | [], _, _, h => h
 | z :: xs, x, hz, h => by
   rw [List.foldl_cons]
   exact kJ xs _ (fun y hy => hz y (List.mem_cons_of_mem _ hy)) (b3l h (hz z (List.mem_cons_self ..)).1 (hz z (List.mem_cons_self ..)).2)
theorem sV (xs : List Int) {j : Nat} (hj : j < xs.length) : bQ (xs.take (j + 1)) = jU (bQ (xs.take j)) (aD xs j) := by
 unfold bQ
 rw [List.take_add_one, List.getElem?_eq_getElem hj, Option.toList_some, List.foldl_append, ← bX _ j hj]
 rfl
theorem a8g (z : Int) (h : isN z) : Fn Tryz.prog 175 [I z] H fun r H' => r = .bool true ∧ St Tryz.prog H H' [] := by
 have h0 := h.1
 have h1 := h.2
 refine Fn.of_sw Tryz.func175 rfl (by kernel_rfl) fun l hl => ?_
 have hn : l.length = 9 := by rw [hl]; rfl
 have g0 : get l 0 = I z := by rw [hl]; rfl
 clear hl
 simp (disch := omega) only [↓RA, RZ, simprocAttr, hn, g0]
 first | refine bL (fun q1 => ?_) (fun q1 => ?_) | refine aH (fun q1 => ?_) (fun q1 => ?_)
 rotate_left
 ·exfalso; first | omega | (simp at q1; omega)
 simp (disch := omega) only [↓RA, RZ, simprocAttr, hn, g0, b8v, q1]
 simpa using ⟨(by omega : z ≤ 127), (St.refl Tryz.prog H)⟩
theorem a3y (xs : List Int) (hz : ∀ z ∈ xs, isN z) (v : Value) (hv : Sl 1 (one I) H v xs) (hl : xs.length < 1000000000) :
 Fn Tryz.prog 107 [v] H fun r H' => r = .tuple #[.agg #[.int .u64 (bQ xs).1, .int .u64 (bQ xs).2], I 0] ∧ St Tryz.prog H H' [] := by
 refine Fn.of_sw Tryz.func107 rfl (by kernel_rfl) fun l hl => ?_
 have hn : l.length = 22 := by rw [hl]; rfl
 have g0 : get l 0 = v := by rw [hl]; rfl
 clear hl
 simp (disch := omega) only [↓RA, RZ, simprocAttr]
 refine (St.refl Tryz.prog H).eNew 2 [(.int .u64 0), (.int .u64 0)] rfl rfl rfl iR fun A1 H1 hS1 => ?_
 simp only [RT] at hS1
 simp (disch := omega) only [↓RA, RZ, simprocAttr]
 refine hS1.eNew 2 [(.int .u64 0), (.int .u64 0)] rfl rfl rfl iR fun A2 H2 hS2 => ?_
 simp only [RT] at hS2
 simp (disch := omega) only [↓RA, RZ, simprocAttr, hn, g0, (hS2.sl hv).len]
 refine Wp.loopS (fun n l H' => l.length = 22 ∧ get l 2 = (ptr A1 0 2) ∧ get l 4 = (ptr A2 0 2) ∧ get l 7 = v ∧ get l 8 = I xs.length ∧ ∃ (j : Nat), (n + j = xs.length) ∧ get l 9 = I j ∧ St Tryz.prog H H' [⟨ptr A1 0 2, 0, [(.int .u64 0), (.int .u64 0)]⟩, ⟨ptr A2 0 2, 0, [.int .u64 (bQ (xs.take j)).1, .int .u64 (bQ (xs.take j)).2]⟩]) xs.length ?_ ?_
 ·simp (disch := omega) only [RB, RC, simprocAttr, hn]
  exact ⟨0, by omega, rfl, hS2⟩
 rintro n l H3 ⟨hn, g2, g4, g7, g8, j, hj, g9, hS3⟩
 simp (disch := omega) only [↓RA, RB, simprocAttr, hn, g8, g9]
 first | refine aA (fun q1 => ?_) (fun q1 => ?_) | refine aB (fun q1 => ?_) (fun q1 => ?_)
 ·have hx := hz _ (aG (xs := xs) (j := j) (by omega))
  have hok : Nt.Ok (bQ (xs.take j)) := kJ _ _ (fun z h => hz z (List.mem_of_mem_take h)) ⟨by decide, by decide⟩
  simp (disch := omega) only [↓RA, RZ, simprocAttr, hn, g7, g9, (hS3.sl hv).idx, (hS3.sl hv).ld, one, q1]
  refine aC (a8g (aD xs j) hx) ?_
  rintro r H4 ⟨rfl, hT1⟩
  have hS4 := hS3.trans hT1
  simp only [RT] at hS4
  simp (disch := omega) only [↓RA, RZ, simprocAttr, hn, g4, hS4.ldA 1 rfl, q1]
  refine aC (b1z (bQ (xs.take j)) hok (aD xs j) hx.1 hx.2) ?_
  rintro r H5 ⟨rfl, hT2⟩
  have hS5 := hS4.trans hT2
  simp only [RT] at hS5
  simp (disch := omega) only [↓RA, RZ, simprocAttr, hn, g4, q1]
  refine hS5.eStore 1 rfl [(.int .u64 (jU (bQ (xs.take j)) (aD xs j)).1), (.int .u64 (jU (bQ (xs.take j)) (aD xs j)).2)] rfl rfl iR (by simp) fun H6 hS6 => ?_
  simp only [RT] at hS6
  simp (disch := omega) only [↓RA, RZ, simprocAttr, hn, g2, g4, g7, g8, g9, q1]
  refine ⟨n - 1, by omega, j + 1, by omega, by simp, ?_⟩
  rw [sV xs (by omega)]
  exact hS6.pick [0, 1] (by decide) rfl
 have hjj : j = xs.length := by omega
 simp (disch := omega) only [↓RA, RZ, simprocAttr, hn, g2, g4, hS3.ldA 1 rfl, q1]
 refine hS3.eStore 0 rfl [(.int .u64 (bQ (xs.take j)).1), (.int .u64 (bQ (xs.take j)).2)] rfl rfl iR (by simp) fun H7 hS7 => ?_
 simp only [RT] at hS7
 simp (disch := omega) only [↓RA, RZ, simprocAttr, hn, g2, c1K, hS7.ldA 0 rfl, q1]
 rw [hjj, List.take_length]
 exact ⟨rfl, hS7.forget⟩
def unF (x y : Nt) : Nt := (x.1 ||| y.1, x.2 ||| y.2)
theorem b5X {x y : Nt} (hx : Nt.Ok x) (hy : Nt.Ok y) : Nt.Ok (unF x y) := ⟨a3f hx.1 hy.1, a3f hx.2 hy.2⟩
theorem a6B (x y : Nt) (hx : Nt.Ok x) (hy : Nt.Ok y) : Fn Tryz.prog 108 [.agg #[.int .u64 x.1, .int .u64 x.2], .agg #[.int .u64 y.1, .int .u64 y.2]] H fun r H' => r = .agg #[.int .u64 (unF x y).1, .int .u64 (unF x y).2] ∧ St Tryz.prog H H' [] := by
 have e1 := orB x.1 y.1 hx.1 hy.1
 have e2 := orB x.2 y.2 hx.2 hy.2
 refine Fn.of_sw Tryz.func108 rfl (by kernel_rfl) fun l hl => ?_
 have hn : l.length = 16 := by rw [hl]; rfl
 have g0 : get l 0 = (.agg #[(.int .u64 x.1), (.int .u64 x.2)]) := by rw [hl]; rfl
 have g1 : get l 1 = (.agg #[(.int .u64 y.1), (.int .u64 y.2)]) := by rw [hl]; rfl
 clear hl
 simp (disch := omega) only [↓RA, RB, simprocAttr, g0]
 refine (St.refl Tryz.prog H).eNew 2 [(.int .u64 x.1), (.int .u64 x.2)] rfl rfl rfl iR fun A1 H1 hS1 => ?_
 simp only [RT] at hS1
 simp (disch := omega) only [↓RA, RB, simprocAttr, g1]
 refine hS1.eNew 2 [(.int .u64 y.1), (.int .u64 y.2)] rfl rfl rfl iR fun A2 H2 hS2 => ?_
 simp only [RT] at hS2
 simp (disch := omega) only [↓RA, RZ, simprocAttr]
 refine hS2.eNew 2 [(.int .u64 0), (.int .u64 0)] rfl rfl rfl iR fun A3 H3 hS3 => ?_
 simp only [RT] at hS3
 simp (disch := omega) only [↓RA, RZ, simprocAttr, hn, hS3.ld 0 rfl, hS3.ld 1 rfl, e1, e2]
 simp (disch := omega) only [↓RA, RB, simprocAttr, hn, a8P]
 refine hS3.eStore 2 rfl [(.int .u64 (x.1 ||| y.1 : Nat)), (.int .u64 (x.2 ||| y.2 : Nat))] rfl rfl iR (by simp) fun H4 hS4 => ?_
 simp only [RT] at hS4
 simp (disch := omega) only [↓RA, RZ, simprocAttr, hn, c0n, hS4.ldA 2 rfl]
 exact ⟨rfl, hS4.forget⟩
end Go.Ds
namespace Go.Ds
open Go.Proofs
variable {H : Heap}
set_option maxRecDepth 10000
set_option maxHeartbeats 1000000
theorem St.perm {P : Program} {H0 : Base} {os os' : List Ob} (h : St P H0 H os) (hp : os.Perm os') : St P H0 H os' where
 len := h.len
 old := h.old
 own o ho := h.own o (hp.mem_iff.2 ho)
 new o ho := h.new o (hp.mem_iff.2 ho)
 sep := (List.Perm.pairwise_iff (fun {_ _} hxy B hB hB2 => hxy B hB2 hB) hp).1 h.sep
theorem Lp.swap {P : Program} {B : Base} {L : Nat} {r : Loop} {xs ys zs : List Ob} (h : Lp P B L r H ((xs ++ ys) ++ zs)) : Lp P B L r H ((xs ++ zs) ++ ys) := by
 have hp : ((xs ++ ys) ++ zs).Perm ((xs ++ zs) ++ ys) := by
  rw [List.append_assoc, List.append_assoc]
  exact (List.perm_append_comm).append_left xs
 exact ⟨h.st.perm hp, h.get, h.lo, fun o ho => h.ne o (hp.mem_iff.2 ho)⟩
def xN (o : Org) (rg : Reg) (acc : List Nt) (c : Ct) : List Nt := if (uB o rg c).length = 0 then acc.set c.1.toNat (unF (aD acc c.1.toNat) (bQ [c.2])) else acc
def iF (o : Org) (rg : Reg) (d : List Ct) : List Nt := d.foldl (xN o rg) (List.replicate o.dvs.length (0, 0))
theorem a1T (o : Org) (rg : Reg) (d : List Ct) (c : Ct) : iF o rg (d ++ [c]) = xN o rg (iF o rg d) c := by
 unfold iF
 rw [List.foldl_append]
 rfl
theorem b1e {o : Org} (hf : o.Fine) {c : Ct} (h : c ∈ dJ o) : ∃ (i : Nat) (z : Int), c = ((i : Int), z) ∧ i < o.dvs.length ∧ isN z := by
 obtain ⟨i, hi, h⟩ := List.mem_flatMap.1 h
 obtain ⟨k, hk, rfl⟩ := List.mem_map.1 h
 have hi := List.mem_range.1 hi
 have hk := List.mem_range.1 hk
 have := hf.keys i hi
 exact ⟨i, _, rfl, hi, by omega, by omega⟩
theorem a5W (o : Org) (rg : Reg) : ∀ (d : List Ct) (acc : List Nt), (d.foldl (xN o rg) acc).length = acc.length
 | [], _ => rfl
 | c :: d, acc => by
   rw [List.foldl_cons, a5W o rg d]
   unfold xN
   split
   ·rw [List.length_set]
   ·rfl
theorem b0f (o : Org) (hf : o.Fine) (rg : Reg) : ∀ (d : List Ct) (acc : List Nt), (∀ c ∈ d, c ∈ dJ o) → (∀ x ∈ acc, Nt.Ok x) → acc.length = o.dvs.length → ∀ x ∈ d.foldl (xN o rg) acc, Nt.Ok x
 | [], _, _, h, _ => h
 | c :: d, acc, hd, h, hl => by
   rw [List.foldl_cons]
   obtain ⟨i, z, rfl, hi, hz⟩ := b1e hf (hd _ (List.mem_cons_self ..))
   refine b0f o hf rg d _ (fun c hc => hd c (List.mem_cons_of_mem _ hc)) (fun x hx => ?_) ?_
   ·unfold xN at hx
    split at hx
    ·rcases List.mem_or_eq_of_mem_set hx with hx | hx
     ·exact h x hx
     ·rw [hx]
      refine b5X (h _ (aG (by simp; omega))) (kJ _ _ (fun y hy => ?_) ⟨by decide, by decide⟩)
      rw [List.mem_singleton.1 hy]
      exact hz
    ·exact h x hx
   ·unfold xN
    split
    ·rw [List.length_set]; exact hl
    ·exact hl
theorem a7v (o : Org) (ho : o.In H) (rg : Reg) (sv : Value) (hr : rg.In H sv) :
 Fn Tryz.prog 46 [.agg #[.string o.name, o.rv, o.dv, o.cv], .agg #[sv, .int .u64 rg.cpl, .int .u64 rg.off]] H fun r H' => ∃ lv, r = .tuple #[lv, I (dF o rg)] ∧ St Tryz.prog H H' [⟨lv, 2, (if dF o rg = 0 then iF o rg (dJ o) else []).flatMap ntc⟩] := by
 refine Fn.of_sw Tryz.func46 rfl (by kernel_rfl) fun l hl => ?_
 have hn : l.length = 49 := by rw [hl]; rfl
 have g0 : get l 0 = (.agg #[(.string o.name), o.rv, o.dv, o.cv]) := by rw [hl]; rfl
 have g1 : get l 1 = (.agg #[sv, (.int .u64 rg.cpl), (.int .u64 rg.off)]) := by rw [hl]; rfl
 clear hl
 simp (disch := omega) only [↓RA, RB, simprocAttr, g0]
 refine (St.refl Tryz.prog H).eNew 4 [(.string o.name), o.rv, o.dv, o.cv] rfl rfl (by simp [OC, ((St.refl Tryz.prog H).sl ho.1).cells.2.1, ((St.refl Tryz.prog H).sl ho.2.2.1).cells.2.1, ((St.refl Tryz.prog H).sl ho.2.2.2.2.1).cells.2.1]) eJ fun A1 H1 hS1 => ?_
 simp only [RT] at hS1
 simp (disch := omega) only [↓RA, RB, simprocAttr, g1]
 refine hS1.eNew 3 [sv, (.int .u64 rg.cpl), (.int .u64 rg.off)] rfl rfl (by simp [OC, (hS1.sl hr.1).cells.2.1]) cF fun A2 H2 hS2 => ?_
 simp only [RT] at hS2
 simp (disch := omega) only [↓RA, RZ, simprocAttr, hn, hS2.ldA 0 rfl, hS2.ldA 1 rfl]
 refine aC (mI o (ho.keep hS2) rg sv (hr.keep hS2)) ?_
 rintro r H3 ⟨rfl, hT1⟩
 have hS3 := hS2.trans hT1
 simp only [RT] at hS3
 simp (disch := omega) only [↓RA, RB, simprocAttr, hn]
 first | refine aA (fun h1 => ?_) (fun h1 => ?_) | refine aB (fun h1 => ?_) (fun h1 => ?_)
 ·simp (disch := omega) only [↓RA, RZ, simprocAttr, hn, b9C, h1]
  exact ⟨.slice none 0 0, rfl, hS3.forget.nil 1⟩
 have h0 := Classical.not_not.1 h1
 obtain ⟨hz3, hz4⟩ := cN h0
 have hf := Org.fine hz3
 have hd1 := hf.dpos
 have hd2 := hf.dlen
 simp (disch := omega) only [↓RA, RZ, simprocAttr, hn, hS3.ld 0 rfl, (hS3.sl ho.2.2.1).len, h1]
 refine hS3.eMakeN (cel := ntc) (x := (0, 0)) o.dvs.length b6V rfl (by omega) fun w1 H4 hS4 => ?_
 simp only [RT] at hS4
 simp (disch := omega) only [↓RA, RZ, simprocAttr]
 refine hS4.eNew 1 [(.slice none 0 0)] rfl rfl rfl b0k fun A3 H5 hS5 => ?_
 simp only [RT] at hS5
 simp (disch := omega) only [↓RA, RZ, simprocAttr, hn, h1]
 refine hS5.eStore 3 rfl [w1] (by rw [(hS5.rd 2 rfl).cells.1]) (by simp [(hS5.rd 2 rfl).cells.2.1]) b0k (by simp) fun H6 hS6 => ?_
 simp only [RT] at hS6
 simp (disch := omega) only [↓RA, RZ, simprocAttr, hn, hS6.ldA 0 rfl, hS6.ldA 1 rfl, h1]
 refine aC (a3n o (ho.keep hS6) rg sv (hr.keep hS6)) ?_
 rintro r H7 ⟨AK, AL, rfl, hT2⟩
 have hS7 := hS6.trans hT2
 simp only [RT] at hS7
 simp (disch := omega) only [↓RA, RZ, simprocAttr, h1]
 refine Wp.slots fun lrg1 hlrg1 => ?_
 have hnrg1 : lrg1.length = 49 := by rw [hlrg1]; simp (disch := omega) only [RB, simprocAttr, hn]
 have g4rg1 : get lrg1 4 = (.slice none 0 0) := by rw [hlrg1]; simp (disch := omega) only [RB, simprocAttr, hn]
 have g5rg1 : get lrg1 5 = I 0 := by rw [hlrg1]; simp (disch := omega) only [RB, simprocAttr, hn]
 have g7rg1 : get lrg1 7 = (ptr A3 0 1) := by rw [hlrg1]; simp (disch := omega) only [RB, simprocAttr, hn]
 have gfrg1 : get lrg1 24 = .func (.func 174) #[] [(ptr AK 0 4), (ptr AL 0 3)].toArray := by rw [hlrg1]; simp (disch := omega) only [RB, simprocAttr, hn]
 clear hlrg1
 refine Wp.rangeR gfrg1 fun rg1 hstrg1 hpdrg1 htmrg1 hpsrg1 hasrg1 hbdrg1 => ?_
 have hreqrg1 : ({ rg1 with state := .ready, pending := none } : Loop) = rg1 := by
  cases rg1
  simp only at hstrg1 hpdrg1
  subst hstrg1 hpdrg1
  rfl
 have hLprg1 := Lp.enter hS7 rg1
 generalize H7.cons (.loop rg1) = Hcrg1 at hLprg1 ⊢
 generalize H7.length = Lrg1 at hLprg1 ⊢
 refine (a5Z o hf rg sv AK AL (.func (.yield Lrg1) #[] #[]) (fun d xs H1 =>
  Lp Tryz.prog H Lrg1 rg1 H1 ([⟨ptr A1 0 4, 0, oC o⟩, ⟨ptr A2 0 3, 0, rC rg sv⟩, ⟨w1, 2, (iF o rg d).flatMap ntc⟩, ⟨ptr A3 0 1, 0, [w1]⟩, ⟨ptr AK 0 4, 0, oC o⟩, ⟨ptr AL 0 3, 0, rC rg sv⟩] ++ xs)) ?_ ?_ ?_ ?_ ?_).mono ?_
 ·rw [List.append_nil]
  exact hLprg1
 ·rintro d xs H1 h
  have hs := h.left.st
  exact ⟨hs.var 4 rfl, ho.keep hs, hs.var 5 rfl, hr.keep hs, fun x hx => h.st.own x (List.mem_append_right _ hx)⟩
 ·rintro d xs H1 H2 ys h hT
  have h3 := h.ext hT
  rwa [List.append_assoc] at h3
 ·rintro d xs ys H1 h
  rw [← List.append_assoc] at h
  exact h.left
 ·rintro d c e xs H1 H20 pv he hLp hT hx
  have hLpj := hLp.ext hT
  rw [List.append_nil] at hLpj
  have hdm : ∀ c ∈ d, c ∈ dJ o := fun c hc => by rw [he]; exact List.mem_append_left _ hc
  have hal : (iF o rg d).length = o.dvs.length := by unfold iF; rw [a5W, List.length_replicate]
  have hOk : ∀ x ∈ iF o rg d, Nt.Ok x := b0f o hf rg d _ hdm (fun x hx => by rw [List.eq_of_mem_replicate hx]; exact ⟨by decide, by decide⟩) (by simp)
  obtain ⟨i, z, rfl, hi, hz⟩ := b1e hf (c := c) (by rw [he]; simp)
  refine fO hLpj.get (by rw [hpsrg1]; rfl) hstrg1 ?_
  refine Wp.of_eqS (l := put (put lrg1 (some 25) (.agg #[I i, I z])) (some 26) (pv)) hasrg1 (by rw [hpsrg1, htmrg1]; first | exact (cZ ..).symm | rfl | simp [put, cZ]) ?_
  simp (disch := omega) only [↓RA, RZ, simprocAttr]
  refine (St.refl Tryz.prog H20).eNew 2 [I 0, I 0] rfl rfl rfl iS fun A4 H8 hS8 => ?_
  simp only [RT] at hS8
  simp (disch := omega) only [↓RA, RB, simprocAttr, hnrg1]
  refine hS8.eStore 0 rfl [I i, I z] rfl rfl iS (by simp) fun H9 hS9 => ?_
  simp only [RT] at hS9
  simp (disch := omega) only [↓RA, RZ, simprocAttr, hnrg1]
  have hSy := hS9
  have hLl : Lrg1 < H1.length := bH hLp.get
  have hLpx := Lp.swap (hLpj.ext hS9)
  refine ⟨rg1, hLpx.get, hstrg1, ?_⟩
  have hYBs1 := hLpx.set (fun h => h) { rg1 with state := .busy }
  have hKBs1 : ∀ B, B ≠ Lrg1 → aR (hset H9 Lrg1 (.loop { rg1 with state := .busy })) B = aR H9 B := fun B h => aK _ (Ne.symm h)
  have hNBs1 : (hset H9 Lrg1 (.loop { rg1 with state := .busy })).length = H9.length := bG ..
  generalize hset H9 Lrg1 (.loop { rg1 with state := .busy }) = HBs1 at hYBs1 hKBs1 hNBs1 ⊢
  refine Wp.of_eqS hbdrg1 rfl ?_
  have hZBs1 := hYBs1.left.st
  obtain ⟨Bs1, hBBs1, hS10⟩ := hZBs1.rebaseE (os := [⟨ptr A1 0 4, 0, _⟩, ⟨ptr A2 0 3, 0, _⟩, ⟨w1, 2, _⟩, ⟨ptr A3 0 1, 0, _⟩, ⟨ptr AK 0 4, 0, _⟩, ⟨ptr AL 0 3, 0, _⟩, ⟨ptr A4 0 2, 0, _⟩])
  have hxB : Slx 2 dE HBs1 (fun B => H1.length ≤ B) pv (uB o rg ((i : Int), z)) := hx.step fun B hB hl => ⟨by rw [hKBs1 B (by omega), hSy.keep B hl], hB⟩
  simp (disch := omega) only [↓RA, RZ, simprocAttr, hnrg1, hxB.1.len]
  first | refine aA (fun q1 => ?_) (fun q1 => ?_) | refine aB (fun q1 => ?_) (fun q1 => ?_)
  ·have hq : (uB o rg ((i : Int), z)).length = 0 := by omega
   have hz1 : ∀ y ∈ [z], isN y := fun y hy => by rw [List.mem_singleton.1 hy]; exact hz
   have hnok : Nt.Ok (bQ [z]) := kJ _ _ hz1 ⟨by decide, by decide⟩
   have hiok := hOk _ (aG (xs := iF o rg d) (j := i) (by omega))
   simp (disch := omega) only [↓RA, RZ, simprocAttr, hnrg1, hS10.ld 6 rfl, q1]
   refine hS10.eSlice [I z] a2q a5s rfl rfl (by simp [Value.cells]) rfl rfl (by decide) (by decide) fun w2 H10 hS11 => ?_
   simp only [RT] at hS11
   simp (disch := omega) only [↓RA, RZ, simprocAttr, hnrg1, q1]
   refine aC (a3y [z] hz1 _ (hS11.slo 7 rfl (fun _ => rfl)) (by simp)) ?_
   rintro r H11 ⟨rfl, hT3⟩
   have hS12 := hS11.trans hT3
   simp only [RT] at hS12
   simp (disch := omega) only [↓RA, RZ, simprocAttr, hnrg1, q1]
   refine hS12.eNew 2 [(.int .u64 0), (.int .u64 0)] rfl rfl rfl iR fun A5 H12 hS13 => ?_
   simp only [RT] at hS13
   simp (disch := omega) only [↓RA, RZ, simprocAttr, hnrg1, q1]
   refine hS13.eStore 8 rfl [(.int .u64 (bQ [z]).1), (.int .u64 (bQ [z]).2)] rfl rfl iR (by simp) fun H13 hS14 => ?_
   simp only [RT] at hS14
   simp (disch := omega) only [↓RA, RZ, simprocAttr, hnrg1, q1]
   refine Wp.drwT bY [(0, 10), (2, 10)] (by kernel_rfl) (by kernel_rfl) ?_
   simp (disch := omega) only [↓RA, RZ, simprocAttr, hnrg1, g7rg1, hS14.ld 3 rfl, hS14.ld 6 rfl, (hS14.slo 2 rfl (fun _ => rfl)).idx, (hS14.slo 2 rfl (fun _ => rfl)).ldA, ntc, hS14.ldA 8 rfl]
   refine aC (a6B (aD (iF o rg d) i) (bQ [z]) hiok hnok) ?_
   rintro r H14 ⟨rfl, hT4⟩
   have hS15 := hS14.trans hT4
   simp only [RT] at hS15
   simp (disch := omega) only [↓RA, RZ, simprocAttr, hnrg1, (hS15.slo 2 rfl (fun _ => rfl)).idx]
   refine hS15.eStoreE 2 rfl [(.int .u64 (unF (aD (iF o rg d) i) (bQ [z])).1), (.int .u64 (unF (aD (iF o rg d) i) (bQ [z])).2)] rfl rfl iR (by simp) (by rw [aM (n := 2) (cel := ntc) (fun _ => rfl)]; simp; omega) fun H15 hS16 => ?_
   simp only [RT] at hS16
   simp (disch := omega) only [↓RA, RZ, simprocAttr, hnrg1, g7rg1, hS15.ld 3 rfl, hS15.ld 6 rfl]
   have hS17 := hS16.pick (os' := [⟨ptr A1 0 4, 0, _⟩, ⟨ptr A2 0 3, 0, _⟩, ⟨w1, 2, _⟩, ⟨ptr A3 0 1, 0, _⟩, ⟨ptr AK 0 4, 0, _⟩, ⟨ptr AL 0 3, 0, _⟩]) [0, 1, 2, 3, 4, 5] (by decide) rfl
   have hset2 : ((List.flatMap ntc (iF o rg d)).set (i * 2) (.int .u64 (unF (aD (iF o rg d) i) (bQ [z])).1)).set (i * 2 + 1) (.int .u64 (unF (aD (iF o rg d) i) (bQ [z])).2) = (iF o rg (d ++ [((i : Int), z)])).flatMap ntc := by
    rw [a1T, xN, if_pos hq]
    simp only [Int.toNat_natCast]
    rw [← jL ((((iF o rg d).flatMap ntc).set (i * 2) _).set (i * 2 + 1) _) (i * 2 + 1 + 1), ← dW, ← dW]
    exact zG (n := 2) (cel := ntc) (fun _ => rfl) (iF o rg d) i 0 [_, _] (unF (aD (iF o rg d) i) (bQ [z])) (by omega) (by simp) rfl
   rw [hset2] at hS17
   have hWBs1 := (hYBs1.bodyF (hBBs1 ▸ hS17)).set (fun h => h) rg1
   rw [← hreqrg1] at hWBs1
   have hfin : Lp Tryz.prog H Lrg1 rg1 (hset H15 Lrg1 (.loop rg1)) ([⟨ptr A1 0 4, 0, oC o⟩, ⟨ptr A2 0 3, 0, rC rg sv⟩, ⟨w1, 2, (iF o rg (d ++ [((i : Int), z)])).flatMap ntc⟩, ⟨ptr A3 0 1, 0, [w1]⟩, ⟨ptr AK 0 4, 0, oC o⟩, ⟨ptr AL 0 3, 0, rC rg sv⟩] ++ xs) := hreqrg1 ▸ hWBs1
   rw [← hreqrg1] at hfin
   exact ⟨_, (hYBs1.bodyF (hBBs1 ▸ hS17)).get, rfl, hreqrg1 ▸ hfin⟩
  have hq : ¬ (uB o rg ((i : Int), z)).length = 0 := by omega
  have hsame : iF o rg (d ++ [((i : Int), z)]) = iF o rg d := by rw [a1T, xN, if_neg hq]
  simp (disch := omega) only [↓RA, RC, simprocAttr]
  have hS18 := hS10.pick (os' := [⟨ptr A1 0 4, 0, _⟩, ⟨ptr A2 0 3, 0, _⟩, ⟨w1, 2, _⟩, ⟨ptr A3 0 1, 0, _⟩, ⟨ptr AK 0 4, 0, _⟩, ⟨ptr AL 0 3, 0, _⟩]) [0, 1, 2, 3, 4, 5] (by decide) rfl
  have hWBs1 := (hYBs1.bodyF (hBBs1 ▸ hS18)).set (fun h => h) rg1
  rw [← hreqrg1] at hWBs1
  have hfin : Lp Tryz.prog H Lrg1 rg1 (hset HBs1 Lrg1 (.loop rg1)) ([⟨ptr A1 0 4, 0, oC o⟩, ⟨ptr A2 0 3, 0, rC rg sv⟩, ⟨w1, 2, (iF o rg (d ++ [((i : Int), z)])).flatMap ntc⟩, ⟨ptr A3 0 1, 0, [w1]⟩, ⟨ptr AK 0 4, 0, oC o⟩, ⟨ptr AL 0 3, 0, rC rg sv⟩] ++ xs) := by
   rw [hsame]
   exact hreqrg1 ▸ hWBs1
  rw [← hreqrg1] at hfin
  exact ⟨_, (hYBs1.bodyF (hBBs1 ▸ hS18)).get, rfl, hreqrg1 ▸ hfin⟩
 rintro _ H21 hLp2
 rw [List.append_nil] at hLp2
 refine ⟨_, hLp2.get, (by rw [hstrg1]; exact fun h => by cases h), fun _ => ?_, fun c hc => by rw [hpdrg1] at hc; cases hc⟩
 have hAAf1 := (hLp2.set (fun h => h) { rg1 with state := .exhausted }).st
 have hKAf1 : ∀ B, B ≠ Lrg1 → aR (hset H21 Lrg1 (.loop { rg1 with state := .exhausted })) B = aR H21 B := fun B h => aK _ (Ne.symm h)
 generalize hset H21 Lrg1 (.loop { rg1 with state := .exhausted }) = HAf1 at hAAf1 hKAf1 ⊢
 have hnt : bR w1 = true := (hAAf1.slo (cel := ntc) 2 rfl (fun _ => rfl)).noTup
 simp (disch := omega) only [↓RA, RZ, simprocAttr, hnrg1, g7rg1, hAAf1.ld 3 rfl, b9C, hnt]
 exact ⟨w1, by rw [h0], by rw [if_pos h0]; exact hAAf1.pick [2] (by decide) rfl⟩
end Go.Ds
namespace Go.Ds
open Go.Proofs
variable {H : Heap}
set_option maxRecDepth 10000
set_option maxHeartbeats 1000000
theorem a9P (x : Nt) (hx : Nt.Ok x) (z : Int) (h0 : 0 ≤ z) (h1 : z < 128) : Fn Tryz.prog 109 [.agg #[.int .u64 x.1, .int .u64 x.2], I z] H fun r H' => r = .agg #[.int .u64 (jU x z).1, .int .u64 (jU x z).2] ∧ St Tryz.prog H H' [] := by
 obtain ⟨m, rfl⟩ := Int.eq_ofNat_of_zero_le h0
 refine Fn.of_sw Tryz.func109 rfl (by kernel_rfl) fun l hl => ?_
 have hn : l.length = 23 := by rw [hl]; rfl
 have g0 : get l 0 = (.agg #[(.int .u64 x.1), (.int .u64 x.2)]) := by rw [hl]; rfl
 have g1 : get l 1 = I m := by rw [hl]; rfl
 clear hl
 simp (disch := omega) only [↓RA, RB, simprocAttr, g0]
 refine (St.refl Tryz.prog H).eNew 2 [(.int .u64 x.1), (.int .u64 x.2)] rfl rfl rfl iR fun A1 H1 hS1 => ?_
 simp only [RT] at hS1
 simp (disch := omega) only [↓RA, RZ, simprocAttr]
 refine hS1.eNew 2 [(.int .u64 0), (.int .u64 0)] rfl rfl rfl iR fun A2 H2 hS2 => ?_
 simp only [RT] at hS2
 simp (disch := omega) only [↓RA, RB, simprocAttr, hn, g1]
 first | refine aA (fun q1 => ?_) (fun q1 => ?_) | refine aB (fun q1 => ?_) (fun q1 => ?_)
 ·have e1 := orN x.1 m hx.1 (by omega)
  have e2 : jU x (m : Int) = (x.1 ||| 2 ^ m, x.2) := by unfold jU; rw [if_pos q1]; rfl
  simp (disch := omega) only [↓RA, RZ, simprocAttr, hn, g1, hS2.ld 0 rfl, q1, e1]
  refine hS2.eStore 0 rfl [(.int .u64 (x.1 ||| 2 ^ m : Nat))] rfl rfl tO (by simp) fun H3 hS3 => ?_
  simp only [RT] at hS3
  simp (disch := omega) only [↓RA, RZ, simprocAttr, hn, hS3.ldA 0 rfl, q1]
  refine hS3.eStore 1 rfl [(.int .u64 (x.1 ||| 2 ^ m : Nat)), (.int .u64 x.2)] rfl rfl iR (by simp) fun H4 hS4 => ?_
  simp only [RT] at hS4
  simp (disch := omega) only [↓RA, RZ, simprocAttr, hn, b5c, hS4.ldA 1 rfl, q1]
  rw [e2]
  exact ⟨rfl, hS4.forget⟩
 have e1 := orN x.2 (m - 64) hx.2 (by omega)
 have e3 : (m : Int) - 64 = ((m - 64 : Nat) : Int) := by omega
 have e2 : jU x (m : Int) = (x.1, x.2 ||| 2 ^ (m - 64)) := by unfold jU; rw [if_neg q1, e3]; rfl
 simp (disch := omega) only [↓RA, RZ, simprocAttr, hn, g1, hS2.ld 0 rfl, q1, e1, e3]
 refine hS2.eStore 0 rfl [(.int .u64 (x.2 ||| 2 ^ (m - 64) : Nat))] rfl rfl tO (by simp) fun H5 hS5 => ?_
 simp only [RT] at hS5
 simp (disch := omega) only [↓RA, RZ, simprocAttr, hn, hS5.ldA 0 rfl, q1]
 refine hS5.eStore 1 rfl [(.int .u64 x.1), (.int .u64 (x.2 ||| 2 ^ (m - 64) : Nat))] rfl rfl iR (by simp) fun H6 hS6 => ?_
 simp only [RT] at hS6
 simp (disch := omega) only [↓RA, RZ, simprocAttr, hn, b5c, hS6.ldA 1 rfl, q1]
 rw [e2]
 exact ⟨rfl, hS6.forget⟩
theorem b6u (xs : List Int) (hz : ∀ z ∈ xs, isN z) (v : Value) (hv : Sl 1 (one I) H v xs) (hl : xs.length < 1000000000) :
 Fn Tryz.prog 100 [v] H fun r H' => r = .agg #[.int .u64 (bQ xs).1, .int .u64 (bQ xs).2] ∧ St Tryz.prog H H' [] := by
 refine Fn.of_sw Tryz.func100 rfl (by kernel_rfl) fun l hl => ?_
 have hn : l.length = 30 := by rw [hl]; rfl
 have g0 : get l 0 = v := by rw [hl]; rfl
 clear hl
 simp (disch := omega) only [↓RA, RZ, simprocAttr]
 refine (St.refl Tryz.prog H).eNew 2 [(.int .u64 0), (.int .u64 0)] rfl rfl rfl iR fun A1 H1 hS1 => ?_
 simp only [RT] at hS1
 simp (disch := omega) only [↓RA, RZ, simprocAttr]
 refine hS1.eNew 2 [(.int .u64 0), (.int .u64 0)] rfl rfl rfl iR fun A2 H2 hS2 => ?_
 simp only [RT] at hS2
 simp (disch := omega) only [↓RA, RB, simprocAttr]
 refine Wp.loopS (fun n l H' => l.length = 30 ∧ get l 0 = v ∧ get l 2 = (ptr A1 0 2) ∧ get l 3 = (ptr A2 0 2) ∧ ∃ (j : Nat), (n + j = xs.length) ∧ get l 4 = I j ∧ St Tryz.prog H H' [⟨ptr A1 0 2, 0, [(.int .u64 0), (.int .u64 0)]⟩, ⟨ptr A2 0 2, 0, [.int .u64 (bQ (xs.take j)).1, .int .u64 (bQ (xs.take j)).2]⟩]) xs.length ?_ ?_
 ·simp (disch := omega) only [RB, RC, simprocAttr, hn, g0]
  exact ⟨0, by omega, rfl, hS2⟩
 rintro n l H3 ⟨hn, g0, g2, g3, j, hj, g4, hS3⟩
 simp (disch := omega) only [↓RA, RZ, simprocAttr, hn, g0, g4, (hS3.sl hv).len]
 first | refine aA (fun q1 => ?_) (fun q1 => ?_) | refine aB (fun q1 => ?_) (fun q1 => ?_)
 ·have hx := hz _ (aG (xs := xs) (j := j) (by omega))
  have hx0 := hx.1
  have hx1 := hx.2
  have hok : Nt.Ok (bQ (xs.take j)) := kJ _ _ (fun z h => hz z (List.mem_of_mem_take h)) ⟨by decide, by decide⟩
  simp (disch := omega) only [↓RA, RZ, simprocAttr, hn, g0, g4, (hS3.sl hv).idx, (hS3.sl hv).ld, one, q1]
  first | refine bL (fun q2 => ?_) (fun q2 => ?_) | refine aH (fun q2 => ?_) (fun q2 => ?_)
  rotate_left
  ·exfalso; first | omega | (simp at q2; omega)
  simp (disch := omega) only [↓RA, RZ, simprocAttr, hn, g0, g4, (hS3.sl hv).idx, (hS3.sl hv).ld, one, q1, q2]
  first | refine aA (fun q3 => ?_) (fun q3 => ?_) | refine aB (fun q3 => ?_) (fun q3 => ?_)
  rotate_left
  ·exfalso; first | omega | (simp at q3; omega)
  simp (disch := omega) only [↓RA, RC, simprocAttr, q1, q2, q3]
  refine Wp.drw bY (by kernel_rfl) ?_
  simp (disch := omega) only [↓RA, RZ, simprocAttr, hn, g0, g3, g4, hS3.ldA 1 rfl, (hS3.sl hv).idx, (hS3.sl hv).ld, one]
  refine aC (a9P (bQ (xs.take j)) hok (aD xs j) hx.1 hx.2) ?_
  rintro r H4 ⟨rfl, hT1⟩
  have hS4 := hS3.trans hT1
  simp only [RT] at hS4
  simp (disch := omega) only [↓RA, RB, simprocAttr, hn, g3]
  refine hS4.eStore 1 rfl [(.int .u64 (jU (bQ (xs.take j)) (aD xs j)).1), (.int .u64 (jU (bQ (xs.take j)) (aD xs j)).2)] rfl rfl iR (by simp) fun H5 hS5 => ?_
  simp only [RT] at hS5
  simp (disch := omega) only [↓RA, RZ, simprocAttr, hn, g0, g2, g3, g4]
  refine ⟨n - 1, by omega, j + 1, by omega, by simp, ?_⟩
  rw [sV xs (by omega)]
  exact hS5.pick [0, 1] (by decide) rfl
 have hjj : j = xs.length := by omega
 simp (disch := omega) only [↓RA, RZ, simprocAttr, hn, g2, g3, hS3.ldA 1 rfl, q1]
 refine hS3.eStore 0 rfl [(.int .u64 (bQ (xs.take j)).1), (.int .u64 (bQ (xs.take j)).2)] rfl rfl iR (by simp) fun H6 hS6 => ?_
 simp only [RT] at hS6
 simp (disch := omega) only [↓RA, RZ, simprocAttr, g2, b9R, hS6.ldA 0 rfl, q1]
 rw [hjj, List.take_length]
 exact ⟨rfl, hS6.forget⟩
end Go.Ds
namespace Go.Ds
open Go.Proofs
variable {H : Heap}
set_option maxRecDepth 10000
set_option maxHeartbeats 1000000
def exO (w1 w2 w3 w4 w5 w6 w7 : Value) : Org := ⟨⟨#[111]⟩, w4, [⟨⟨#[114]⟩, ⟨#[116]⟩, 8, 1, 36, w3, [1, 1, 1]⟩], w6, [⟨⟨#[100]⟩, false, 36, 40, w5, [⟨⟨#[115]⟩, 8, 1, w2, [⟨36, 40, w1, [⟨0, 0⟩]⟩]⟩, ⟨⟨#[116]⟩, 8, 1, w2, [⟨36, 40, w1, [⟨0, 0⟩]⟩]⟩]⟩], w7, [⟨⟨#[99]⟩, 0, 0, 1, false⟩]⟩
theorem a4l : Fn Tryz.prog 99 [] H fun r H' => ∃ w1 w2 w3 w4 w5 w6 w7, r = .agg #[.string (exO w1 w2 w3 w4 w5 w6 w7).name, w4, w6, w7] ∧ (exO w1 w2 w3 w4 w5 w6 w7).In H' ∧ St Tryz.prog H H' [] := by
 refine Fn.of_sw Tryz.func99 rfl (by kernel_rfl) fun l hl => ?_
 have hn : l.length = 24 := by rw [hl]; rfl
 clear hl
 simp (disch := omega) only [↓RA, RZ, simprocAttr]
 refine (St.refl Tryz.prog H).eNew 4 [(.string ⟨#[]⟩), (.slice none 0 0), (.slice none 0 0), (.slice none 0 0)] rfl rfl rfl eJ fun A1 H1 hS1 => ?_
 simp only [RT] at hS1
 simp (disch := omega) only [↓RA, RB, simprocAttr, hn, pP, b6m]
 refine hS1.eSlice [I 0, I 0] a6C a6F rfl rfl (by simp [Value.cells]) rfl rfl (by decide) (by decide) fun w1 H2 hS2 => ?_
 simp only [RT] at hS2
 simp (disch := omega) only [↓RA, RB, simprocAttr, hn, dZ (hS2.rd 1 rfl).cells]
 refine hS2.eSlice [I 36, I 40, w1] nS xS rfl rfl (by first | (simp []; done) | simp [Value.cells]) (by first | (simp []; done) | simp [Value.cells]) (by simp [OC, (hS2.rd 1 rfl).cells.2.1]) (by decide) (by decide) fun w2 H3 hS3 => ?_
 simp only [RT] at hS3
 simp (disch := omega) only [↓RA, RZ, simprocAttr, hn, a4G (hS3.rd 2 rfl).cells]
 refine hS3.eNew 4 [(.string ⟨#[]⟩), I 0, I 0, (.slice none 0 0)] rfl rfl rfl jG fun A2 H4 hS4 => ?_
 simp only [RT] at hS4
 simp (disch := omega) only [↓RA, RB, simprocAttr, hn]
 refine hS4.eStore 3 rfl [(.string ⟨#[115]⟩), I 8, I 1, w2] rfl (by simp [OC, (hS4.rd 2 rfl).cells.2.1]) jG (by simp) fun H5 hS5 => ?_
 simp only [RT] at hS5
 simp (disch := omega) only [↓RA, RZ, simprocAttr, hn, hS5.ldA 3 rfl]
 refine hS5.eNew 4 [(.string ⟨#[]⟩), I 0, I 0, (.slice none 0 0)] rfl rfl rfl jG fun A3 H6 hS6 => ?_
 simp only [RT] at hS6
 simp (disch := omega) only [↓RA, RB, simprocAttr, hn]
 refine hS6.eStore 4 rfl [(.string ⟨#[115]⟩), I 8, I 1, w2] rfl (by simp [OC, (hS6.rd 2 rfl).cells.2.1]) jG (by simp) fun H7 hS7 => ?_
 simp only [RT] at hS7
 simp (disch := omega) only [↓RA, RZ, simprocAttr, hn]
 refine hS7.eStore 4 rfl [(.string ⟨#[116]⟩)] rfl rfl tS9 (by simp) fun H8 hS8 => ?_
 simp only [RT] at hS8
 simp (disch := omega) only [↓RA, RB, simprocAttr, pP]
 refine hS8.eSlice [I 1, I 1, I 1] a2q a5s rfl rfl (by simp [Value.cells]) rfl rfl (by decide) (by decide) fun w3 H9 hS9 => ?_
 simp only [RT] at hS9
 simp (disch := omega) only [↓RA, RB, simprocAttr, hn, tU (hS9.rd 5 rfl).cells]
 refine hS9.eSlice [(.string ⟨#[114]⟩), (.string ⟨#[116]⟩), I 8, I 1, I 36, w3] b6J c1h rfl rfl (by first | (simp []; done) | simp [Value.cells]) (by first | (simp []; done) | simp [Value.cells]) (by simp [OC, (hS9.rd 5 rfl).cells.2.1]) (by decide) (by decide) fun w4 H10 hS10 => ?_
 simp only [RT] at hS10
 simp (disch := omega) only [↓RA, RZ, simprocAttr, hn, a1q, hS10.ldA 3 rfl, hS10.ldA 4 rfl]
 refine hS10.eSlice [(.string ⟨#[115]⟩), I 8, I 1, w2, (.string ⟨#[116]⟩), I 8, I 1, w2] b7e b8M rfl rfl (by first | (simp []; done) | simp [Value.cells]) (by first | (simp []; done) | simp [Value.cells]) (by simp [OC, (hS10.rd 2 rfl).cells.2.1]) (by decide) (by decide) fun w5 H11 hS11 => ?_
 simp only [RT] at hS11
 simp (disch := omega) only [↓RA, RB, simprocAttr, hn, a5q (hS11.rd 7 rfl).cells]
 refine hS11.eSlice [(.string ⟨#[100]⟩), (.bool false), I 36, I 40, w5] b6t c1u rfl rfl (by first | (simp []; done) | simp [Value.cells]) (by first | (simp []; done) | simp [Value.cells]) (by simp [OC, (hS11.rd 7 rfl).cells.2.1]) (by decide) (by decide) fun w6 H12 hS12 => ?_
 simp only [RT] at hS12
 simp (disch := omega) only [↓RA, RB, simprocAttr, hn, a6O]
 refine hS12.eSlice [(.string ⟨#[99]⟩), I 0, I 0, I 1, (.bool false)] a4b b4M rfl rfl (by simp [Value.cells]) rfl rfl (by decide) (by decide) fun w7 H13 hS13 => ?_
 simp only [RT] at hS13
 simp (disch := omega) only [↓RA, RB, simprocAttr, hn, a0W (hS13.rd 6 rfl).cells (hS13.rd 8 rfl).cells (hS13.rd 9 rfl).cells]
 refine hS13.eStore 0 rfl [(.string ⟨#[111]⟩), w4, w6, w7] rfl (by simp [OC, (hS13.rd 6 rfl).cells.2.1, (hS13.rd 8 rfl).cells.2.1, (hS13.rd 9 rfl).cells.2.1]) eJ (by simp) fun H14 hS14 => ?_
 simp only [RT] at hS14
 simp (disch := omega) only [↓RA, RZ, simprocAttr, hn, c2q, hS14.ldA 0 rfl]
 have h1 : Sl 2 Drw.cells H14 w1 [⟨0, 0⟩] := hS14.slo 1 rfl (fun _ => rfl)
 have h2 : Sl 3 Seg.cells H14 w2 [⟨36, 40, w1, [⟨0, 0⟩]⟩] := hS14.slo 2 rfl (fun _ => rfl)
 have h3 : Sl 1 (one I) H14 w3 [1, 1, 1] := hS14.slo 5 rfl (fun _ => rfl)
 have h4 : Sl 6 Rk.cells H14 w4 (exO w1 w2 w3 w4 w5 w6 w7).ranks := hS14.slo 6 rfl (fun _ => rfl)
 have h5 : Sl 4 Stp.cells H14 w5 [⟨⟨#[115]⟩, 8, 1, w2, [⟨36, 40, w1, [⟨0, 0⟩]⟩]⟩, ⟨⟨#[116]⟩, 8, 1, w2, [⟨36, 40, w1, [⟨0, 0⟩]⟩]⟩] := hS14.slo 7 rfl (fun _ => rfl)
 have h6 : Sl 5 Dvn.cells H14 w6 (exO w1 w2 w3 w4 w5 w6 w7).dvs := hS14.slo 8 rfl (fun _ => rfl)
 have h7 : Sl 5 Cpl.cells H14 w7 (exO w1 w2 w3 w4 w5 w6 w7).cpls := hS14.slo 9 rfl (fun _ => rfl)
 refine ⟨w1, w2, w3, w4, w5, w6, w7, rfl, ⟨h4, ?_, h6, ?_, h7, by simp [exO], by simp [exO], by simp [exO]⟩, hS14.forget⟩
 ·intro r hr
  rw [List.mem_singleton.1 hr]
  exact ⟨h3, by simp⟩
 ·have hg : (⟨36, 40, w1, [⟨0, 0⟩]⟩ : Seg).In H14 := ⟨h1, by simp⟩
  intro d hd
  rw [List.mem_singleton.1 hd]
  refine ⟨h5, ?_, by simp⟩
  intro s hs
  simp only [List.mem_cons, List.not_mem_nil, or_false] at hs
  rcases hs with rfl | rfl
  ·exact ⟨h2, fun g hg' => by rw [List.mem_singleton.1 hg']; exact hg, by simp⟩
  ·exact ⟨h2, fun g hg' => by rw [List.mem_singleton.1 hg']; exact hg, by simp⟩
section
variable (w1 w2 w3 w4 w5 w6 w7 : Value)
def a5c (x : Int × Int) : List (Int × Int) → List (Int × Int)
 | [] => [x]
 | y :: l => if le2 x y then x :: y :: l else y :: a5c x l
def a4s : List (Int × Int) → List (Int × Int)
 | [] => []
 | x :: l => a5c x (a4s l)
theorem rD (x : Int × Int) : ∀ l, (a5c x l).Perm (x :: l)
 | [] => .refl _
 | y :: l => by
   unfold a5c
   split
   ·exact .refl _
   ·exact ((rD x l).cons y).trans (.swap ..)
theorem yN : ∀ l, (a4s l).Perm l
 | [] => .refl _
 | x :: l => (rD x _).trans ((yN l).cons x)
theorem a8h (x y : Int × Int) : le2 x y = false → le2 y x = true := by
 intro h
 rw [← Bool.not_eq_true] at h
 rw [jM] at h ⊢
 omega
theorem tC (x : Int × Int) : ∀ l : List (Int × Int), l.Pairwise (fun a b => le2 a b = true) → (a5c x l).Pairwise fun a b => le2 a b = true
 | [], _ => by simp [a5c]
 | y :: l, h => by
   have h1 := List.pairwise_cons.1 h
   unfold a5c
   split
   ·rename_i hxy
    refine List.pairwise_cons.2 ⟨fun z hz => ?_, h⟩
    rcases List.mem_cons.1 hz with rfl | hz
    ·exact hxy
    ·have h2 := h1.1 z hz
     rw [jM] at *
     omega
   ·rename_i hxy
    refine List.pairwise_cons.2 ⟨fun z hz => ?_, tC x l h1.2⟩
    rcases List.mem_cons.1 ((rD x l).mem_iff.1 hz) with rfl | hz
    ·exact a8h _ _ (by simpa using hxy)
    ·exact h1.1 z hz
theorem tM : ∀ l : List (Int × Int), (a4s l).Pairwise fun a b => le2 a b = true
 | [] => .nil
 | x :: l => tC x _ (tM l)
theorem b6v : pY = a4s := by
 funext l
 refine List.Perm.eq_of_pairwise (le := fun a b => le2 a b = true) (fun a b _ _ h1 h2 => ?_) (a3G l) (tM l) ((iB l).trans (yN l).symm)
 rw [jM] at h1 h2
 exact Prod.ext (by omega) (by omega)
def b5H (s : List Ct → List Ct) (o : Org) (r : Reg) (l : List Ct) : List Ct := dd (s (l.filter (fun c => !r.off.testBit c.1.toNat) ++ bfs o r.cpl 1100 0 (fU o r.cpl l)))
def b5N (s : List Ct → List Ct) (rs : List Rk) (p : Stp) (key : Int) : List Ct := dd (s (((a4F p key).filter fun d => rK rs d key).map fun d => iC rs d key))
def b6F (s : List Ct → List Ct) (o : Org) (r : Reg) (c : Ct) : List Ct := (List.range (aD o.dvs c.1.toNat).stops.length).flatMap fun i => if (aD r.stops c.1.toNat).testBit i then b5N s o.ranks (aD (aD o.dvs c.1.toNat).stops i) c.2 else []
def ofG (s : List Ct → List Ct) (o : Org) (r : Reg) (c : Ct) : List Ct := if a1N o r c = 0 then dd (s ((b5H s o r [c]).flatMap (b6F s o r))) else []
theorem a9X : uB = ofG a4s := by
 rw [← b6v]
 rfl
theorem b7L : dF (exO w1 w2 w3 w4 w5 w6 w7) ⟨[1], 0, 0⟩ = 0 := by kernel_rfl
theorem b5Y : iF (exO w1 w2 w3 w4 w5 w6 w7) ⟨[1], 0, 0⟩ (dJ (exO w1 w2 w3 w4 w5 w6 w7)) = [bQ [39, 40]] := by
 unfold iF xN
 rw [a9X]
 kernel_rfl
end
end Go.Ds
namespace Go.Ds
open Go.Proofs
variable {H : Heap}
set_option maxRecDepth 10000
set_option maxHeartbeats 1000000
section
variable (w1 w2 w3 w4 w5 w6 w7 : Value)
def wH (s : List Ct → List Ct) (o : Org) (r : Reg) : List Ctl := (aQ r).filter fun c => decide ((dJ o).map (ofG s o (bD r c)) = (dJ o).map (ofG s o r))
theorem a1I : cY = wH a4s := by
 funext o r
 unfold cY cW wH
 rw [a9X]
def a5u (s : List Ct → List Ct) (o : Org) : Nat → Reg → List Ctl → Reg × List Ctl
 | 0, g, l => (g, l)
 | n + 1, g, l => if (wH s o g).length = 0 then (g, l) else a5u s o n (bD g (aD (wH s o g) ((wH s o g).length - 1))) (l ++ [aD (wH s o g) ((wH s o g).length - 1)])
theorem zK (o : Org) : ∀ n g l, cQ o n g l = a5u a4s o n g l
 | 0, _, _ => rfl
 | n + 1, g, l => by
   rw [cQ, a5u, a1I]
   split
   ·rfl
   ·exact zK o n _ _
theorem b4I : dF (exO w1 w2 w3 w4 w5 w6 w7) ⟨[3], 0, 0⟩ = 0 := by kernel_rfl
theorem b4j : dF (exO w1 w2 w3 w4 w5 w6 w7) ⟨[0], 1, 0⟩ = 0 := by kernel_rfl
theorem b3J : cY (exO w1 w2 w3 w4 w5 w6 w7) ⟨[0], 1, 0⟩ = [fS 0] := by
 rw [a1I]
 kernel_rfl
theorem a9p : cQ (exO w1 w2 w3 w4 w5 w6 w7) (mu ⟨[3], 0, 0⟩ + 1) ⟨[3], 0, 0⟩ [] = (⟨[1], 0, 0⟩, [gJ 0 1]) := by
 rw [zK]
 kernel_rfl
end
theorem a2r : Fn Tryz.prog 99 [] H fun r H' => ∃ o : Org, r = .agg #[.string o.name, o.rv, o.dv, o.cv] ∧ (∃ w1 w2 w3 w4 w5 w6 w7, o = exO w1 w2 w3 w4 w5 w6 w7) ∧ o.In H' ∧ St Tryz.prog H H' [] := by
 obtain ⟨h1, v, H1, h2, w1, w2, w3, w4, w5, w6, w7, h3, h4, h5⟩ := a4l (H := H)
 exact ⟨h1, v, H1, h2, _, h3, ⟨w1, w2, w3, w4, w5, w6, w7, rfl⟩, h4, h5⟩
theorem zR (o : Org) (ho : o.In H) (rg : Reg) (sv : Value) (hr : rg.In H sv) (h0 : dF o rg = 0) (g : Reg) (gone : List Ctl) (hs : cQ o (mu rg + 1) rg [] = (g, gone)) :
 Fn Tryz.prog 41 [.agg #[.string o.name, o.rv, o.dv, o.cv], .agg #[sv, .int .u64 rg.cpl, .int .u64 rg.off]] H fun r H' => ∃ nv lv, r = .tuple #[.agg #[nv, .int .u64 g.cpl, .int .u64 g.off], lv, I 0] ∧ (g.Ok ∧ g.stops.length = rg.stops.length) ∧ St Tryz.prog H H' [⟨nv, 1, g.stops.flatMap (one u64)⟩, ⟨lv, 3, cT gone⟩] := by
 obtain ⟨h1, v, H1, h2, nv, lv, h3⟩ := a8V o ho rg sv hr
 refine ⟨h1, v, H1, h2, ?_⟩
 rcases h3 with ⟨h, _⟩ | ⟨g', gone', _, he, h4, h5, h6, h7⟩
 ·exact absurd h0 h
 ·rw [hs] at he
  obtain ⟨rfl, rfl⟩ := Prod.mk.inj he
  exact ⟨nv, lv, h4, ⟨h5, h6⟩, h7⟩
theorem a3T : Fn Tryz.prog 36 [] H fun r H' => r = .bool true ∧ St Tryz.prog H H' [] := by
 refine Fn.of_sw Tryz.func36 rfl (by kernel_rfl) fun l hl => ?_
 have hn : l.length = 92 := by rw [hl]; rfl
 clear hl
 simp (disch := omega) only [↓RA, RZ, simprocAttr]
 refine aC (a2r) ?_
 rintro r H1 ⟨o, rfl, ⟨v1, v2, v3, v4, v5, v6, v7, hoe⟩, ho, hT1⟩
 have hS1 := (St.refl Tryz.prog H).trans hT1
 simp only [RT] at hS1
 have f1 : dF o ⟨[1], 0, 0⟩ = 0 := by rw [hoe]; exact b7L ..
 have f2 : iF o ⟨[1], 0, 0⟩ (dJ o) = [bQ [39, 40]] := by rw [hoe]; exact b5Y ..
 have f3 : dF o ⟨[3], 0, 0⟩ = 0 := by rw [hoe]; exact b4I ..
 have f4 : cQ o (mu ⟨[3], 0, 0⟩ + 1) ⟨[3], 0, 0⟩ [] = (⟨[1], 0, 0⟩, [gJ 0 1]) := by rw [hoe]; exact a9p ..
 have f5 : dF o ⟨[0], 1, 0⟩ = 0 := by rw [hoe]; exact b4j ..
 have f6 : cY o ⟨[0], 1, 0⟩ = [fS 0] := by rw [hoe]; exact b3J ..
 have hS0 := hS1
 simp (disch := omega) only [↓RA, RZ, simprocAttr]
 refine (St.refl Tryz.prog H1).eNew 4 [(.string ⟨#[]⟩), (.slice none 0 0), (.slice none 0 0), (.slice none 0 0)] rfl rfl rfl eJ fun A1 H2 hS2 => ?_
 simp only [RT] at hS2
 simp (disch := omega) only [↓RA, RB, simprocAttr, hn]
 refine hS2.eStore 0 rfl [(.string o.name), o.rv, o.dv, o.cv] rfl (by simp [OC, (hS2.sl ho.1).cells.2.1, (hS2.sl ho.2.2.1).cells.2.1, (hS2.sl ho.2.2.2.2.1).cells.2.1]) eJ (by simp) fun H3 hS3 => ?_
 simp only [RT] at hS3
 simp (disch := omega) only [↓RA, RZ, simprocAttr, hn, hS3.ldA 0 rfl]
 refine hS3.eSlice [(.int .u64 1)] sI b1M rfl rfl (by simp [Value.cells]) rfl rfl (by decide) (by decide) fun w1 H4 hS4 => ?_
 simp only [RT] at hS4
 simp (disch := omega) only [↓RA, RZ, simprocAttr, hn, b1d (hS4.rd 1 rfl).cells]
 refine aC (a7v o (ho.keep hS4) ⟨[1], 0, 0⟩ _ ⟨hS4.slo 1 rfl (fun _ => rfl), by decide, by decide, by decide, by decide⟩) ?_
 rintro r H5 ⟨lv, rfl, hT2⟩
 have hS5 := hS4.trans hT2
 simp only [RT] at hS5
 rw [f1]
 rw [if_pos f1, f2] at hS5
 simp (disch := omega) only [↓RA, RZ, simprocAttr, hn, hS5.ldA 0 rfl]
 refine hS5.eSlice [(.int .u64 3)] sI b1M rfl rfl (by simp [Value.cells]) rfl rfl (by decide) (by decide) fun w2 H6 hS6 => ?_
 simp only [RT] at hS6
 simp (disch := omega) only [↓RA, RZ, simprocAttr, hn, b1d (hS6.rd 3 rfl).cells]
 refine aC (zR o (ho.keep hS6) ⟨[3], 0, 0⟩ _ ⟨hS6.slo 3 rfl (fun _ => rfl), by decide, by decide, by decide, by decide⟩ f3 _ _ f4) ?_
 rintro r H7 ⟨nv, gv, rfl, -, hT3⟩
 have hS7 := hS6.trans hT3
 simp only [RT] at hS7
 simp (disch := omega) only [↓RA, RZ, simprocAttr, hn]
 refine hS7.eNew 3 [(.slice none 0 0), (.int .u64 0), (.int .u64 0)] rfl rfl rfl cF fun A2 H8 hS8 => ?_
 simp only [RT] at hS8
 simp (disch := omega) only [↓RA, RB, simprocAttr, hn]
 refine hS8.eStore 6 rfl [nv, (.int .u64 0), (.int .u64 0)] rfl (by simp [OC, (hS8.rd 4 rfl).cells.2.1]) cF (by simp) fun H9 hS9 => ?_
 simp only [RT] at hS9
 simp (disch := omega) only [↓RA, RZ, simprocAttr, hn, hS9.ldA 0 rfl]
 refine hS9.eSlice [(.int .u64 0)] sI b1M rfl rfl (by simp [Value.cells]) rfl rfl (by decide) (by decide) fun w3 H10 hS10 => ?_
 simp only [RT] at hS10
 simp (disch := omega) only [↓RA, RZ, simprocAttr, hn, a9W (hS10.rd 7 rfl).cells]
 have hS2 := hS10
 refine aC (b3C o (ho.keep hS10) ⟨[0], 1, 0⟩ _ ⟨hS10.slo 7 rfl (fun _ => rfl), by decide, by decide, by decide, by decide⟩) ?_
 rintro r H11 ⟨iv, rfl, hix, hT4⟩
 have hS11 := hS10.trans hT4
 simp only [RT] at hS11
 rw [if_pos f5, f6] at hix
 have hix2 := hix.step (hS2.keptNew (H' := H11))
 obtain ⟨X, hBX, hS12⟩ := hS11.rebaseE (os := [⟨ptr A1 0 4, 0, _⟩, ⟨w1, 1, _⟩, ⟨lv, 2, _⟩, ⟨w2, 1, _⟩, ⟨nv, 1, _⟩, ⟨gv, 3, _⟩, ⟨ptr A2 0 3, 0, _⟩, ⟨w3, 1, _⟩])
 rw [f5]
 have hz : ∀ z ∈ [(39 : Int), 40], isN z := by
  intro z hz
  simp only [List.mem_cons, List.not_mem_nil, or_false] at hz
  rcases hz with rfl | rfl <;> exact ⟨by decide, by decide⟩
 have hL1 : ((([bQ [39, 40]] : List Nt).length : Nat) : Int) = 1 := rfl
 have hL2 : ((([1] : List Nat).length : Nat) : Int) = 1 := rfl
 have hL3 : ((([gJ 0 1] : List Ctl).length : Nat) : Int) = 1 := rfl
 have hL4 : ((([fS 0] : List Ctl).length : Nat) : Int) = 1 := rfl
 have hN1 : aD ([bQ [39, 40]] : List Nt) 0 = bQ [39, 40] := rfl
 have hN2 : aD ([1] : List Nat) 0 = 1 := rfl
 have hN3 : aD ([gJ 0 1] : List Ctl) 0 = ⟨1, 0, 1⟩ := rfl
 have hN4 : aD ([fS 0] : List Ctl) 0 = ⟨2, 0, 0⟩ := rfl
 simp (disch := omega) only [↓RA, RB, simprocAttr, hn, eq_self]
 refine Wp.drwT bY [(10, 12), (10, 13)] (by kernel_rfl) (by kernel_rfl) ?_
 simp (disch := omega) only [↓RA, RZ, simprocAttr, hn, (hS12.slo 2 rfl (fun _ => rfl)).len, eq_self]
 simp (disch := omega) only [↓RA, RZ, simprocAttr, hn, (hS12.slo 2 rfl (fun _ => rfl)).idx, (hS12.slo 2 rfl (fun _ => rfl)).ldA, ntc, hN1, eq_self]
 refine hS12.eSlice [I 39, I 40] a2q a5s rfl rfl (by simp [Value.cells]) rfl rfl (by decide) (by decide) fun w4 H12 hS13 => ?_
 simp only [RT] at hS13
 simp (disch := omega) only [↓RA, RZ, simprocAttr, hn, eq_self]
 have hF1 := hS13
 refine aC (b6u [39, 40] hz _ (hS13.slo 8 rfl (fun _ => rfl)) (by decide)) ?_
 rintro r H13 ⟨rfl, hT5⟩
 have hS14 := hS13.trans hT5
 simp only [RT] at hS14
 have hiy := hix2.step (hS14.kept hBX)
 simp (disch := omega) only [↓RA, RZ, simprocAttr, hn, eq_self, and_self]
 simp (disch := omega) only [↓RA, RZ, simprocAttr, hn, hS14.ld 6 rfl, (hS14.slo 4 rfl (fun _ => rfl)).len, eq_self]
 simp (disch := omega) only [↓RA, RZ, simprocAttr, hn, (hS14.slo 4 rfl (fun _ => rfl)).idx, (hS14.slo 4 rfl (fun _ => rfl)).ld, one, u64, hN2, eq_self]
 simp (disch := omega) only [↓RA, RZ, simprocAttr, hn, (hS14.slo 5 rfl (fun _ => rfl)).len, eq_self]
 simp (disch := omega) only [↓RA, RZ, simprocAttr, hn, (hS14.slo 5 rfl (fun _ => rfl)).idx, (hS14.slo 5 rfl (fun _ => rfl)).ldA, Ctl.cells, sO, hN3, eq_self, and_self]
 simp (disch := omega) only [↓RA, RZ, simprocAttr, hn, hiy.1.len, eq_self]
 simp (disch := omega) only [↓RA, RZ, simprocAttr, hn, hiy.1.idx, hiy.1.fld, hiy.1.ld, Ctl.cells, ntc, (hS13.slo 2 rfl (fun _ => rfl)).ldA, (hS14.slo 2 rfl (fun _ => rfl)).ldA, c2N, hN1, hN4, eq_self, and_self]
 exact hS0.trans (hS11.unbaseE hBX hS14).forget
end Go.Ds
namespace Go.Ds
open Go.Proofs
set_option maxRecDepth 10000
theorem b3f (x : Nat) (i : Int) (hx : x < 18446744073709551616) : gX x i ≤ x := by
 have hx' : x < 2 ^ 64 := by simpa using hx
 unfold gX
 rw [BitVec.toNat_and, BitVec.toNat_ofNat, Nat.mod_eq_of_lt hx']
 exact Nat.and_le_left
theorem a0I {x n : Nat} (i : Int) (hx : x < 18446744073709551616) (h : x >>> n = 0) : gX x i >>> n = 0 := by
 rw [Nat.shiftRight_eq_div_pow] at *
 have := Nat.div_le_div_right (c := 2 ^ n) (b3f x i hx)
 exact Nat.le_zero.1 (h ▸ this)
theorem a8d {o : Org} {rg : Reg} (h1 : organE o = 0) (h2 : rg.stops.length = o.dvs.length) (h3 : ∀ j, j < o.dvs.length → aD rg.stops j >>> (aD o.dvs j).stops.length = 0) (h4 : rg.cpl >>> o.cpls.length = 0) (h5 : rg.off >>> o.dvs.length = 0) : dF o rg = 0 := by
 unfold dF
 rw [if_neg (by omega), if_neg (by omega), if_neg (by rintro ⟨j, hj, h⟩; exact h (h3 j hj)), if_neg (by omega)]
theorem a7t {o : Org} {rg : Reg} (hg : rg.Ok) (h : dF o rg = 0) (c : Ctl) : dF o (bD rg c) = 0 := by
 obtain ⟨_, hg2, hg3, hg4⟩ := hg
 obtain ⟨h1, h2, h3⟩ := rW h
 obtain ⟨k1, k2⟩ := cN h
 refine a8d k1 ((rU rg c).trans k2) (fun j hj => ?_) ?_ ?_
 ·unfold bD
  split
  ·by_cases e : c.dv.toNat = j
   ·subst e
    rw [show aD (rg.stops.set c.dv.toNat (gX (aD rg.stops c.dv.toNat) c.ix)) c.dv.toNat = gX (aD rg.stops c.dv.toNat) c.ix from by rw [bX _ _ (by simp; omega)]; simp]
    exact a0I _ (hg2 _ (aG (by omega))) (h1 _ hj)
   ·rw [show aD (rg.stops.set c.dv.toNat (gX (aD rg.stops c.dv.toNat) c.ix)) j = aD rg.stops j from by rw [bX _ j (by simp; omega), bX rg.stops j (by omega)]; simp [List.getElem_set_ne e]]
    exact h1 j hj
  ·split
   ·exact h1 j hj
   ·exact h1 j hj
 ·unfold bD
  split
  ·exact h2
  ·split
   ·exact a0I _ hg3 h2
   ·exact h2
 ·unfold bD
  split
  ·exact h3
  ·split
   ·exact h3
   ·exact a0I _ hg4 h3
end Go.Ds
namespace Go.Ds
open Go.Proofs
variable {H : Heap}
set_option maxRecDepth 10000
set_option maxHeartbeats 1000000
theorem b3d (hG : Glob gH H) (hkn : b3o) (p : Pln) (hp : p.In H) (hk : p.Ok) (b : Nat → Nat) (hb : ∀ i, b i < 256) :
 Fn Tryz.prog 7 [.agg #[p.rv, p.dv, p.cv], .agg #[.int .u8 (b 0), .int .u8 (b 1), .int .u8 (b 2), .int .u8 (b 3), .int .u8 (b 4)]] H fun r H' => r = .bool true ∧ St Tryz.prog H H' [] := by
 refine Fn.of_sw Tryz.func7 rfl (by kernel_rfl) fun l hl => ?_
 have hn : l.length = 68 := by rw [hl]; rfl
 have g0 : get l 0 = (.agg #[p.rv, p.dv, p.cv]) := by rw [hl]; rfl
 have g1 : get l 1 = (.agg #[(.int .u8 (b 0)), (.int .u8 (b 1)), (.int .u8 (b 2)), (.int .u8 (b 3)), (.int .u8 (b 4))]) := by rw [hl]; rfl
 clear hl
 simp (disch := omega) only [↓RA, RB, simprocAttr, g0]
 refine (St.refl Tryz.prog H).eNew 3 [p.rv, p.dv, p.cv] rfl rfl (by simp [((St.refl Tryz.prog H).sl hp.1).cells.2.1, ((St.refl Tryz.prog H).sl hp.2.1).cells.2.1, ((St.refl Tryz.prog H).sl hp.2.2.2.1).cells.2.1]) b2s fun A1 H1 hS1 => ?_
 simp only [RT] at hS1
 simp (disch := omega) only [↓RA, RB, simprocAttr, g1]
 refine hS1.eNew 5 [(.int .u8 (b 0)), (.int .u8 (b 1)), (.int .u8 (b 2)), (.int .u8 (b 3)), (.int .u8 (b 4))] rfl rfl rfl b7n fun A2 H2 hS2 => ?_
 simp only [RT] at hS2
 simp (disch := omega) only [↓RA, RZ, simprocAttr]
 refine aC (hkn _) ?_
 rintro r H3 ⟨rfl, hT1⟩
 have hS3 := hS2.trans hT1
 simp only [RT] at hS3
 simp (disch := omega) only [↓RA, RZ, simprocAttr, hn, hS3.ldA 0 rfl]
 refine aC (b2b p (hp.keep hS3)) ?_
 rintro r H4 ⟨rfl, hT2⟩
 have hS4 := hS3.trans hT2
 simp only [RT] at hS4
 simp (disch := omega) only [↓RA, RZ, simprocAttr, hn]
 first | refine aA (fun h1 => ?_) (fun h1 => ?_) | refine aB (fun h1 => ?_) (fun h1 => ?_)
 ·simp (disch := omega) only [↓RA, RZ, simprocAttr]
  refine aC (hkn _) ?_
  rintro r H5 ⟨rfl, hT3⟩
  have hS5 := hS4.trans hT3
  simp only [RT] at hS5
  simp (disch := omega) only [↓RA, RZ, simprocAttr, hn, tR7, h1]
  exact hS5.forget
 have hf : nY p = true := by simpa using h1
 simp (disch := omega) only [↓RA, RZ, simprocAttr, hn, hS4.ldA 0 rfl, h1]
 refine aC (a7c (hS4.gl hG) p (hp.keep hS4) hk hf) ?_
 rintro r H6 ⟨o, rfl, ho, hm, hT4⟩
 have hS6 := hS4.trans hT4
 simp only [RT] at hS6
 have hS0 := hS6
 have hoe := hm.ok.organE
 have hrg := a7E b hoe
 have hf0 := Org.fine hoe
 simp (disch := omega) only [↓RA, RZ, simprocAttr]
 refine (St.refl Tryz.prog H6).eNew 4 [(.string ⟨#[]⟩), (.slice none 0 0), (.slice none 0 0), (.slice none 0 0)] rfl rfl rfl eJ fun A3 H7 hS7 => ?_
 simp only [RT] at hS7
 simp (disch := omega) only [↓RA, RB, simprocAttr, hn, h1]
 refine hS7.eStore 0 rfl [(.string o.name), o.rv, o.dv, o.cv] rfl (by simp [OC, (hS7.sl ho.1).cells.2.1, (hS7.sl ho.2.2.1).cells.2.1, (hS7.sl ho.2.2.2.2.1).cells.2.1]) eJ (by simp) fun H8 hS8 => ?_
 simp only [RT] at hS8
 simp (disch := omega) only [↓RA, RZ, simprocAttr, hn, hS8.ldA 0 rfl, ((hS0.var 1 rfl).keep hS8.keep).ldA, h1]
 obtain ⟨k1, k2, k3⟩ := hm.small hf
 have hok := a6Z (o := o) hb k2
 have hsl : (jR o b).stops.length ≤ 60 := by
  unfold jR
  simp only [List.length_map, List.length_range]
  omega
 have hD := a4Y o (ho.keep hS8) k1 k2 k3 b hb
 generalize jR o b = rg at hrg hok hsl hD
 refine aC (hD) ?_
 rintro r H9 ⟨sv, rfl, hT5⟩
 have hS9 := hS8.trans hT5
 simp only [RT] at hS9
 simp (disch := omega) only [↓RA, RZ, simprocAttr]
 refine hS9.eNew 3 [(.slice none 0 0), (.int .u64 0), (.int .u64 0)] rfl rfl rfl cF fun A4 H10 hS10 => ?_
 simp only [RT] at hS10
 simp (disch := omega) only [↓RA, RB, simprocAttr, hn, h1]
 refine hS10.eStore 2 rfl [sv, (.int .u64 rg.cpl), (.int .u64 rg.off)] rfl (by simp [OC, (hS10.rd 1 rfl).cells.2.1]) cF (by simp) fun H11 hS11 => ?_
 simp only [RT] at hS11
 simp (disch := omega) only [↓RA, RZ, simprocAttr, hn, hS11.ldA 0 rfl, hS11.ldA 2 rfl, h1]
 obtain ⟨⟨g, gone⟩, hsf⟩ : ∃ z, z = cQ o (mu rg + 1) rg [] := ⟨_, rfl⟩
 refine aC (zR o (ho.keep hS11) rg sv ⟨hS11.slo 1 rfl (fun _ => rfl), hok⟩ hrg g gone hsf.symm) ?_
 rintro r H12 ⟨nv, lv, rfl, hgk, hT6⟩
 have hS12 := hS11.trans hT6
 simp only [RT] at hS12
 have hdn : rg.stops.length = o.dvs.length := (cN hrg).2
 have hd1 := hf0.dpos
 have hd2 := hf0.dlen
 have hmr := b5B rg
 simp (disch := omega) only [↓RA, RZ, simprocAttr, hn, h1]
 refine hS12.eNew 3 [(.slice none 0 0), (.int .u64 0), (.int .u64 0)] rfl rfl rfl cF fun A5 H13 hS13 => ?_
 simp only [RT] at hS13
 simp (disch := omega) only [↓RA, RB, simprocAttr, hn, h1]
 refine hS13.eStore 5 rfl [nv, (.int .u64 g.cpl), (.int .u64 g.off)] rfl (by simp [OC, (hS13.rd 3 rfl).cells.2.1]) cF (by simp) fun H14 hS14 => ?_
 simp only [RT] at hS14
 simp (disch := omega) only [↓RA, RB, simprocAttr, hn, h1]
 have hS15 := hS14.nil 2
 simp only [RT] at hS15
 refine Wp.loopS (fun n l H' => l.length = 68 ∧ get l 4 = (.bool false) ∧ get l 5 = (ptr A3 0 4) ∧ get l 6 = (ptr A4 0 3) ∧ get l 7 = (ptr A5 0 3) ∧ get l 8 = lv ∧ get l 9 = I 0 ∧ ∃ (g2 : Reg) (gone2 : List Ctl) (wv ov : Value), (g2.Ok ∧ mu g2 ≤ n ∧ dF o g2 = 0 ∧ gone2.length + mu g2 ≤ mu rg ∧ cQ o (mu g2 + 1) g2 gone2 = cQ o (mu rg + 1) rg []) ∧ get l 10 = ov ∧ St Tryz.prog H6 H' [⟨ptr A3 0 4, 0, [(.string o.name), o.rv, o.dv, o.cv]⟩, ⟨wv, 1, g2.stops.flatMap (one u64)⟩, ⟨ptr A4 0 3, 0, [wv, .int .u64 g2.cpl, .int .u64 g2.off]⟩, ⟨nv, 1, g.stops.flatMap (one u64)⟩, ⟨lv, 3, cT gone⟩, ⟨ptr A5 0 3, 0, [nv, (.int .u64 g.cpl), (.int .u64 g.off)]⟩, ⟨ov, 3, cT gone2⟩]) (mu rg) ?_ ?_
 ·simp (disch := omega) only [RB, RC, simprocAttr, hn]
  exact ⟨rg, [], sv, .slice none 0 0, ⟨hok, Nat.le_refl _, hrg, by simp, rfl⟩, rfl, hS15⟩
 rintro n l H15 ⟨hn, g4, g5, g6, g7, g8, g9, g2, gone2, wv, ov, ⟨hgo,hgn,hge,hgm,hgs⟩, g10, hS16⟩
 have hgl : g2.stops.length = o.dvs.length := (cN hge).2
 simp (disch := omega) only [↓RA, RZ, simprocAttr, hn, g5, g6, hS16.ldA 0 rfl, hS16.ldA 2 rfl]
 refine aC ((a8C o (ho.keep hS16) g2 wv ⟨hS16.slo 1 rfl (fun _ => rfl), hgo⟩ hge).tr) ?_
 rintro r H16 ⟨-, hT7⟩
 have hS17 := hS16.trans hT7
 simp only [RT] at hS17
 obtain ⟨iv, rfl⟩ : ∃ w, w = r := ⟨r, rfl⟩
 have hil := a2k o g2
 have hil2 := fK (rg := g2) (by omega)
 simp (disch := omega) only [↓RA, RZ, simprocAttr, hn, (hS17.slo 7 rfl (fun _ => rfl)).len]
 first | refine aA (fun q1 => ?_) (fun q1 => ?_) | refine aB (fun q1 => ?_) (fun q1 => ?_)
 ·have hi0 : (cY o g2).length = 0 := by omega
  rw [cQ, if_pos hi0, ← hsf] at hgs
  obtain ⟨e1, e2⟩ := Prod.mk.inj hgs
  have e1 := e1.symm
  have e2 := e2.symm
  subst e1
  subst e2
  simp (disch := omega) only [↓RA, RZ, simprocAttr, hn, g6, g7, g9, hS17.ldA 5 rfl, hS17.ldA 2 rfl, q1]
  refine aC (a7x g nv wv ⟨hS17.slo 3 rfl (fun _ => rfl), hgo⟩ ⟨hS17.slo 1 rfl (fun _ => rfl), hgo⟩ (by omega)) ?_
  rintro r H17 ⟨rfl, hT8⟩
  have hS18 := hS17.trans hT8
  simp only [RT] at hS18
  simp (disch := omega) only [↓RA, RZ, simprocAttr, hn, g8, g10, q1]
  refine aC (b0h lv ov gone gone (hS18.slo 4 rfl (fun _ => rfl)) (hS18.slo 6 rfl (fun _ => rfl)) (by omega) (by omega)) ?_
  rintro r H18 ⟨rfl, hT9⟩
  have hS19 := hS18.trans hT9
  simp only [RT] at hS19
  rw [decide_eq_true rfl]
  simp (disch := omega) only [↓RA, RZ, simprocAttr, hn, tR7, q1]
  exact (hS0.forget.trans hS19.forget)
 have hpre : ((cY o g2).length : Int) - 1 = (((cY o g2).length - 1 : Nat) : Int) := by omega
 have hcm := rY (aG (xs := cY o g2) (j := (cY o g2).length - 1) (by omega))
 have hmu := a0f hgo hcm
 have hle := a7t hgo hge (aD (cY o g2) ((cY o g2).length - 1))
 simp (disch := omega) only [↓RA, RZ, simprocAttr, hn, (hS17.slo 7 rfl (fun _ => rfl)).len, q1, hpre]
 generalize hcc : aD (cY o g2) ((cY o g2).length - 1) = c at hcm hmu hle
 have hgs2 : cQ o (mu (bD g2 c) + 1) (bD g2 c) (gone2 ++ [c]) = cQ o (mu rg + 1) rg [] := by
  have hstep : cQ o (mu g2 + 1) g2 gone2 = cQ o (mu g2) (bD g2 c) (gone2 ++ [c]) := by rw [cQ, if_neg (by omega), hcc]
  rw [← hgs, hstep]
  exact mS o _ _ _ _ (iX hgo c) (by omega) (by omega)
 simp (disch := omega) only [↓RA, RZ, simprocAttr, hn, (hS17.slo 7 rfl (fun _ => rfl)).idx, (hS17.slo 7 rfl (fun _ => rfl)).ldA, Ctl.cells, q1, hcc]
 refine hS17.eNew 3 [I 0, I 0, I 0] rfl rfl rfl fD fun A6 H19 hS20 => ?_
 simp only [RT] at hS20
 simp (disch := omega) only [↓RA, RZ, simprocAttr, hn, q1]
 refine hS20.eStore 8 rfl [I c.kind, I c.dv, I c.ix] rfl rfl fD (by simp) fun H20 hS21 => ?_
 simp only [RT] at hS21
 simp (disch := omega) only [↓RA, RZ, simprocAttr, hn, g10, hS21.ldA 8 rfl, q1]
 refine hS21.eSlice [I c.kind, I c.dv, I c.ix] lV a0R rfl rfl (by simp [Value.cells]) rfl rfl (by decide) (by decide) fun w1 H21 hS22 => ?_
 simp only [RT] at hS22
 simp (disch := omega) only [↓RA, RZ, simprocAttr, hn, q1]
 refine hS22.eAppend 6 rfl (hS22.rd 9 rfl) lV (by rw [dC]; simp only [List.length_cons, List.length_nil]; omega) fun w2 H22 hS23 => ?_
 simp only [RT] at hS23
 simp (disch := omega) only [↓RA, RZ, simprocAttr, hn, g5, g6, hS23.ldA 0 rfl, hS23.ldA 2 rfl, hS23.ldA 8 rfl, q1]
 refine aC (qP o (ho.keep hS23) g2 wv ⟨hS23.slo 1 rfl (fun _ => rfl), hgo⟩ hge c hcm) ?_
 rintro r H23 ⟨xv, rfl, hT10⟩
 have hS24 := hS23.trans hT10
 simp only [RT] at hS24
 simp (disch := omega) only [↓RA, RZ, simprocAttr, hn, g6, q1]
 refine hS24.eStore 2 rfl [xv, (.int .u64 (bD g2 c).cpl), (.int .u64 (bD g2 c).off)] rfl (by simp [OC, (hS24.rd 10 rfl).cells.2.1]) cF (by simp) fun H24 hS25 => ?_
 simp only [RT] at hS25
 simp (disch := omega) only [↓RA, RZ, simprocAttr, hn, g4, g5, g6, g7, g8, g9, q1]
 refine ⟨mu (bD g2 c), by omega, bD g2 c, gone2 ++ [c], xv, w2, ⟨iX hgo c, Nat.le_refl _, hle, by simp; omega, hgs2⟩, rfl, ?_⟩
 rw [gB]
 exact hS25.pick [0, 10, 2, 3, 4, 5, 6] (by decide) rfl
end Go.Ds
