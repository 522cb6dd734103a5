/-
  A part of the proof of SilenceLaws.
-/
import Derived.Test.YtabfngimnibecaaGreatDoorVE
import Derived.Test.YtabfngimnibecaaGreatDoorVJ
set_option linter.unusedVariables false
set_option linter.unusedSimpArgs false
set_option linter.defProp false
set_option linter.unusedSectionVars false
namespace Go.Ds
open Go.Proofs
variable {H : Heap}
set_option maxRecDepth 10000
set_option maxHeartbeats 1000000
def mkN (P : Program) (t : TypeId) : Option (Nat × Nat × List Value) :=
 (aH P t).bind fun elem => (aF P elem).bind fun size => (fF P elem).bind fun bytes => (aX P elem).bind fun z => if size != 0 && size != 1 && z.cells.size == size && bC z then some (bytes, size, z.cells.toList) else none
theorem b1A {β : Type} (cel : β → List Value) (x : β) (z : Array Value) (hz : cel x = z.toList) (h0 : 0 < z.size) : ∀ a, (madeCells z (a * z.size)).toList = (List.replicate a x).flatMap cel := by
 have key : ∀ a, (List.range (a * z.size)).map (fun i => z[i % z.size]!) = (List.replicate a x).flatMap cel := by
  intro a
  induction a with
  | zero => simp
  | succ a ih =>
    rw [Nat.succ_mul, Nat.add_comm, List.range_add, List.map_append, List.map_map, List.replicate_succ, List.flatMap_cons, ← ih, hz]
    congr 1
    ·refine List.ext_getElem (by simp) fun i h1 h2 => ?_
     simp only [List.getElem_map, List.getElem_range]
     rw [Nat.mod_eq_of_lt (by simpa using h1)]
     simp at h1
     simp [h1]
    ·refine List.map_congr_left fun i _ => ?_
     simp
 intro a
 rw [← key a]
 simp [madeCells]
theorem St.eMakeN {P : Program} {H0 : Base} {H : Heap} {os : List Ob} {β : Type} {cel : β → List Value} {x : β} (hS : St P H0 H os) {t : TypeId} {bytes sz : Nat} {zs : List Value} {K : Value → Heap → Prop} (a : Nat) (ha : mkN P t = some (bytes, sz, zs)) (hz : cel x = zs) (hroom : a * (bytes + 1) ≤ 17592186044416)
 (h : ∀ v H1, St P H0 H1 (os ++ [⟨v, sz, (List.replicate a x).flatMap cel⟩]) → K v H1) : iW P H t (.int .i64 a) (.int .i64 a) K := by
 unfold mkN at ha
 cases he : aH P t with
 | none => rw [he] at ha; cases ha
 | some elem =>
 rw [he] at ha
 simp only [Option.bind_some] at ha
 cases hsz2 : aF P elem with
 | none => rw [hsz2] at ha; cases ha
 | some sz =>
 rw [hsz2] at ha
 simp only [Option.bind_some] at ha
 cases hby : fF P elem with
 | none => rw [hby] at ha; cases ha
 | some by' =>
 rw [hby] at ha
 simp only [Option.bind_some] at ha
 cases hz2 : aX P elem with
 | none => rw [hz2] at ha; cases ha
 | some z' =>
 rw [hz2] at ha
 simp only [Option.bind_some] at ha
 split at ha
 case isFalse => cases ha
 rename_i hzs
 simp only [Bool.and_eq_true, beq_iff_eq, bne_iff_ne, ne_eq] at hzs
 obtain ⟨⟨⟨hs0, hs1⟩, hz1⟩, hfl⟩ := hzs
 simp only [Option.some.injEq, Prod.mk.injEq] at ha
 obtain ⟨rfl, rfl, rfl⟩ := ha
 have hm := b1A cel x z'.cells hz (by omega) a
 rw [hz1] at hm
 have hln : ((List.replicate a x).flatMap cel).length = a * sz := by
  rw [← hm]
  simp [madeCells]
 refine ⟨.slice (some ⟨H.length, 0, some ((List.replicate a x).flatMap cel).length⟩) a sz, H.cons (.cells ((List.replicate a x).flatMap cel) elem true ((List.replicate a x).flatMap cel).length 0), ?_, h _ _ (hS.add ?_ ?_ ?_ ?_)⟩
 ·unfold oH
  simp only [he, hsz2, hby, hz2, Option.bind_some]
  rw [if_pos]
  ·rw [if_neg hs1]
   simp only [Int.toNat_natCast, hm]
   rw [dF]
  ·have : (a : Int) * (by' + 1) ≤ (gM : Int) := by
    have h3 : ((a * (by' + 1) : Nat) : Int) ≤ ((17592186044416 : Nat) : Int) := Int.ofNat_le.2 hroom
    simpa [gM] using h3
   simp [hfl, hz1, this, hs0]
 ·unfold OwnAt
  rw [if_neg hs0]
  exact .inr ⟨_, 0, elem, _, 0, [], a, aM H _, by simp, rfl, hln, by simp, hsz2⟩
 ·simp [hK]
 ·exact fun B hB => bM _ hB
 ·intro B hB
  simp [cM] at hB
  omega
abbrev Nt := Nat × Nat
def ntc (x : Nt) : List Value := [.int .u64 x.1, .int .u64 x.2]
def Nt.Ok (x : Nt) : Prop := x.1 < 18446744073709551616 ∧ x.2 < 18446744073709551616
theorem b7w : mkN Tryz.prog 107 = some (16, 2, ntc (0, 0)) := by kernel_rfl
def gJ (x : Nt) (n : Int) : Nt := if n < 64 then (x.1 ||| 2 ^ n.toNat, x.2) else (x.1, x.2 ||| 2 ^ (n - 64).toNat)
theorem a4Z (i : Nat) (h : i < 64) : 2 ^ i < 18446744073709551616 := by
 have : 2 ^ i ≤ 2 ^ 63 := Nat.pow_le_pow_right (by decide) (by omega)
 have e : 2 ^ 63 = 9223372036854775808 := rfl
 omega
theorem a2e {a b : Nat} (ha : a < 18446744073709551616) (hb : b < 18446744073709551616) : a ||| b < 18446744073709551616 := Nat.or_lt_two_pow (n := 64) ha hb
theorem orB (a b : Nat) (ha : a < 18446744073709551616) (hb : b < 18446744073709551616) : IntKind.wrap .u64 ((BitVec.ofInt (IntKind.bits .u64) (a : Int) ||| BitVec.ofInt (IntKind.bits .u64) (b : Int)).toNat : Int) = ((a ||| b : Nat) : Int) := by
 have e : (BitVec.ofInt (IntKind.bits .u64) (a : Int) ||| BitVec.ofInt (IntKind.bits .u64) (b : Int)).toNat = a ||| b := by
  rw [BitVec.toNat_or, a0M a ha, a0M b hb]
 rw [e]
 have := a2e ha hb
 exact jV _ (by omega) (by omega)
theorem orN (n i : Nat) (hn : n < 18446744073709551616) (hi : i < 64) : IntKind.wrap .u64 ((BitVec.ofInt (IntKind.bits .u64) (n : Int) ||| BitVec.ofInt (IntKind.bits .u64) (IntKind.wrap .u64 (1 * 2 ^ min i (IntKind.bits .u64)))).toNat : Int) = ((n ||| 2 ^ i : Nat) : Int) := by
 rw [b5G i hi]
 exact orB n (2 ^ i) hn (a4Z i hi)
theorem b2O {x : Nt} (hx : Nt.Ok x) {z : Int} (h0 : 0 ≤ z) (h1 : z < 128) : Nt.Ok (gJ x z) := by
 unfold gJ
 split
 ·exact ⟨a2e hx.1 (a4Z _ (by omega)), hx.2⟩
 ·exact ⟨hx.1, a2e hx.2 (a4Z _ (by omega))⟩
theorem a9O (x : Nt) (hx : Nt.Ok x) (z : Int) (h0 : 0 ≤ z) (h1 : z < 128) : Fn Tryz.prog 176 [.agg #[.int .u64 x.1, .int .u64 x.2], I z] H fun r H' => r = .agg #[.int .u64 (gJ x z).1, .int .u64 (gJ x z).2] ∧ St Tryz.prog H H' [] := by
 obtain ⟨m, rfl⟩ := Int.eq_ofNat_of_zero_le h0
 refine Fn.of_sw Tryz.func176 rfl (by kernel_rfl) fun l hl => ?_
 have hn : l.length = 21 := by rw [hl]; rfl
 have g0 : get l 0 = (.agg #[(.int .u64 x.1), (.int .u64 x.2)]) := by rw [hl]; rfl
 have g1 : get l 1 = I m := by rw [hl]; rfl
 clear hl
 simp (disch := omega) only [↓RA, RB, simprocAttr, g0]
 refine (St.refl Tryz.prog H).eNew 2 [(.int .u64 x.1), (.int .u64 x.2)] rfl rfl rfl gI fun A1 H1 hS1 => ?_
 simp only [RT] at hS1
 simp (disch := omega) only [↓RA, RZ, simprocAttr]
 refine hS1.eNew 2 [(.int .u64 0), (.int .u64 0)] rfl rfl rfl gI fun A2 H2 hS2 => ?_
 simp only [RT] at hS2
 simp (disch := omega) only [↓RA, RB, simprocAttr, hn, g1]
 first | refine aA (fun q1 => ?_) (fun q1 => ?_) | refine aB (fun q1 => ?_) (fun q1 => ?_)
 ·have e1 := orN x.1 m hx.1 (by omega)
  have e2 : gJ x (m : Int) = (x.1 ||| 2 ^ m, x.2) := by unfold gJ; rw [if_pos q1]; rfl
  simp (disch := omega) only [↓RA, RC, simprocAttr, q1]
  refine Wp.drw cA (by kernel_rfl) ?_
  simp (disch := omega) only [↓RA, RZ, simprocAttr, hn, g1, hS2.ld 0 rfl, e1]
  refine hS2.eStore 0 rfl [(.int .u64 (x.1 ||| 2 ^ m : Nat))] rfl rfl wU (by simp) fun H3 hS3 => ?_
  simp only [RT] at hS3
  simp (disch := omega) only [↓RA, RZ, simprocAttr, hn, hS3.ldA 0 rfl]
  refine hS3.eStore 1 rfl [(.int .u64 (x.1 ||| 2 ^ m : Nat)), (.int .u64 x.2)] rfl rfl gI (by simp) fun H4 hS4 => ?_
  simp only [RT] at hS4
  simp (disch := omega) only [↓RA, RZ, simprocAttr, hn, b5k, hS4.ldA 1 rfl]
  rw [e2]
  exact ⟨rfl, hS4.forget⟩
 have e1 := orN x.2 (m - 64) hx.2 (by omega)
 have e3 : (m : Int) - 64 = ((m - 64 : Nat) : Int) := by omega
 have e2 : gJ x (m : Int) = (x.1, x.2 ||| 2 ^ (m - 64)) := by unfold gJ; rw [if_neg q1, e3]; rfl
 simp (disch := omega) only [↓RA, RC, simprocAttr, q1]
 refine Wp.drw cA (by kernel_rfl) ?_
 simp (disch := omega) only [↓RA, RZ, simprocAttr, hn, g1, hS2.ld 0 rfl, e1, e3]
 refine hS2.eStore 0 rfl [(.int .u64 (x.2 ||| 2 ^ (m - 64) : Nat))] rfl rfl wU (by simp) fun H5 hS5 => ?_
 simp only [RT] at hS5
 simp (disch := omega) only [↓RA, RZ, simprocAttr, hn, hS5.ldA 0 rfl]
 refine hS5.eStore 1 rfl [(.int .u64 x.1), (.int .u64 (x.2 ||| 2 ^ (m - 64) : Nat))] rfl rfl gI (by simp) fun H6 hS6 => ?_
 simp only [RT] at hS6
 simp (disch := omega) only [↓RA, RZ, simprocAttr, hn, b5k, hS6.ldA 1 rfl]
 rw [e2]
 exact ⟨rfl, hS6.forget⟩
end Go.Ds
namespace Go.Ds
open Go.Proofs
variable {H : Heap}
set_option maxRecDepth 10000
set_option maxHeartbeats 1000000
def bB (xs : List Int) : Nt := xs.foldl gJ (0, 0)
def isN (z : Int) : Prop := 0 ≤ z ∧ z < 128
theorem iT : ∀ (xs : List Int) (x : Nt), (∀ z ∈ xs, isN z) → Nt.Ok x → Nt.Ok (xs.foldl gJ x)
 | [], _, _, h => h
 | z :: xs, x, hz, h => by
   rw [List.foldl_cons]
   exact iT xs _ (fun y hy => hz y (List.mem_cons_of_mem _ hy)) (b2O h (hz z (List.mem_cons_self ..)).1 (hz z (List.mem_cons_self ..)).2)
theorem tB (xs : List Int) {j : Nat} (hj : j < xs.length) : bB (xs.take (j + 1)) = gJ (bB (xs.take j)) (aD xs j) := by
 unfold bB
 rw [List.take_add_one, List.getElem?_eq_getElem hj, Option.toList_some, List.foldl_append, ← bX _ j hj]
 rfl
theorem a7b (z : Int) (h : isN z) : Fn Tryz.prog 175 [I z] H fun r H' => r = .bool true ∧ St Tryz.prog H H' [] := by
 have h0 := h.1
 have h1 := h.2
 refine Fn.of_sw Tryz.func175 rfl (by kernel_rfl) fun l hl => ?_
 have hn : l.length = 9 := by rw [hl]; rfl
 have g0 : get l 0 = I z := by rw [hl]; rfl
 clear hl
 simp (disch := omega) only [↓RA, RZ, simprocAttr, hn, g0]
 first | refine bY (fun q1 => ?_) (fun q1 => ?_) | refine aI (fun q1 => ?_) (fun q1 => ?_)
 rotate_left
 ·exfalso; first | omega | (simp at q1; omega)
 simp (disch := omega) only [↓RA, RZ, simprocAttr, hn, g0, b9R, q1]
 simpa using ⟨(by omega : z ≤ 127), (St.refl Tryz.prog H)⟩
theorem a4h (xs : List Int) (hz : ∀ z ∈ xs, isN z) (v : Value) (hv : Sl 1 (one I) H v xs) (hl : xs.length < 1000000000) :
 Fn Tryz.prog 107 [v] H fun r H' => r = .tuple #[.agg #[.int .u64 (bB xs).1, .int .u64 (bB xs).2], I 0] ∧ St Tryz.prog H H' [] := by
 refine Fn.of_sw Tryz.func107 rfl (by kernel_rfl) fun l hl => ?_
 have hn : l.length = 22 := by rw [hl]; rfl
 have g0 : get l 0 = v := by rw [hl]; rfl
 clear hl
 simp (disch := omega) only [↓RA, RZ, simprocAttr]
 refine (St.refl Tryz.prog H).eNew 2 [(.int .u64 0), (.int .u64 0)] rfl rfl rfl gI fun A1 H1 hS1 => ?_
 simp only [RT] at hS1
 simp (disch := omega) only [↓RA, RZ, simprocAttr]
 refine hS1.eNew 2 [(.int .u64 0), (.int .u64 0)] rfl rfl rfl gI fun A2 H2 hS2 => ?_
 simp only [RT] at hS2
 simp (disch := omega) only [↓RA, RZ, simprocAttr, hn, g0, (hS2.sl hv).len]
 refine Wp.loopS (fun n l H' => l.length = 22 ∧ get l 2 = (ptr A1 0 2) ∧ get l 4 = (ptr A2 0 2) ∧ get l 7 = v ∧ get l 8 = I xs.length ∧ ∃ (j : Nat), (n + j = xs.length) ∧ get l 9 = I j ∧ St Tryz.prog H H' [⟨ptr A1 0 2, 0, [(.int .u64 0), (.int .u64 0)]⟩, ⟨ptr A2 0 2, 0, [.int .u64 (bB (xs.take j)).1, .int .u64 (bB (xs.take j)).2]⟩]) xs.length ?_ ?_
 ·simp (disch := omega) only [RB, RC, simprocAttr, hn]
  exact ⟨0, by omega, rfl, hS2⟩
 rintro n l H3 ⟨hn, g2, g4, g7, g8, j, hj, g9, hS3⟩
 simp (disch := omega) only [↓RA, RB, simprocAttr, hn, g8, g9]
 first | refine aA (fun q1 => ?_) (fun q1 => ?_) | refine aB (fun q1 => ?_) (fun q1 => ?_)
 ·have hx := hz _ (aG (xs := xs) (j := j) (by omega))
  have hok : Nt.Ok (bB (xs.take j)) := iT _ _ (fun z h => hz z (List.mem_of_mem_take h)) ⟨by decide, by decide⟩
  simp (disch := omega) only [↓RA, RZ, simprocAttr, hn, g7, g9, (hS3.sl hv).idx, (hS3.sl hv).ld, one, q1]
  refine aC (a7b (aD xs j) hx) ?_
  rintro r H4 ⟨rfl, hT1⟩
  have hS4 := hS3.trans hT1
  simp only [RT] at hS4
  simp (disch := omega) only [↓RA, RZ, simprocAttr, hn, g4, hS4.ldA 1 rfl, q1]
  refine aC (a9O (bB (xs.take j)) hok (aD xs j) hx.1 hx.2) ?_
  rintro r H5 ⟨rfl, hT2⟩
  have hS5 := hS4.trans hT2
  simp only [RT] at hS5
  simp (disch := omega) only [↓RA, RZ, simprocAttr, hn, g4, q1]
  refine hS5.eStore 1 rfl [(.int .u64 (gJ (bB (xs.take j)) (aD xs j)).1), (.int .u64 (gJ (bB (xs.take j)) (aD xs j)).2)] rfl rfl gI (by simp) fun H6 hS6 => ?_
  simp only [RT] at hS6
  simp (disch := omega) only [↓RA, RZ, simprocAttr, hn, g2, g4, g7, g8, g9, q1]
  refine ⟨n - 1, by omega, j + 1, by omega, by simp, ?_⟩
  rw [tB xs (by omega)]
  exact hS6.pick [0, 1] (by decide) rfl
 have hjj : j = xs.length := by omega
 simp (disch := omega) only [↓RA, RZ, simprocAttr, hn, g2, g4, hS3.ldA 1 rfl, q1]
 refine hS3.eStore 0 rfl [(.int .u64 (bB (xs.take j)).1), (.int .u64 (bB (xs.take j)).2)] rfl rfl gI (by simp) fun H7 hS7 => ?_
 simp only [RT] at hS7
 simp (disch := omega) only [↓RA, RZ, simprocAttr, hn, g2, c1C, hS7.ldA 0 rfl, q1]
 rw [hjj, List.take_length]
 exact ⟨rfl, hS7.forget⟩
def unF (x y : Nt) : Nt := (x.1 ||| y.1, x.2 ||| y.2)
theorem b6i {x y : Nt} (hx : Nt.Ok x) (hy : Nt.Ok y) : Nt.Ok (unF x y) := ⟨a2e hx.1 hy.1, a2e hx.2 hy.2⟩
theorem a8u (x y : Nt) (hx : Nt.Ok x) (hy : Nt.Ok y) : Fn Tryz.prog 108 [.agg #[.int .u64 x.1, .int .u64 x.2], .agg #[.int .u64 y.1, .int .u64 y.2]] H fun r H' => r = .agg #[.int .u64 (unF x y).1, .int .u64 (unF x y).2] ∧ St Tryz.prog H H' [] := by
 have e1 := orB x.1 y.1 hx.1 hy.1
 have e2 := orB x.2 y.2 hx.2 hy.2
 refine Fn.of_sw Tryz.func108 rfl (by kernel_rfl) fun l hl => ?_
 have hn : l.length = 16 := by rw [hl]; rfl
 have g0 : get l 0 = (.agg #[(.int .u64 x.1), (.int .u64 x.2)]) := by rw [hl]; rfl
 have g1 : get l 1 = (.agg #[(.int .u64 y.1), (.int .u64 y.2)]) := by rw [hl]; rfl
 clear hl
 simp (disch := omega) only [↓RA, RB, simprocAttr, g0]
 refine (St.refl Tryz.prog H).eNew 2 [(.int .u64 x.1), (.int .u64 x.2)] rfl rfl rfl gI fun A1 H1 hS1 => ?_
 simp only [RT] at hS1
 simp (disch := omega) only [↓RA, RB, simprocAttr, g1]
 refine hS1.eNew 2 [(.int .u64 y.1), (.int .u64 y.2)] rfl rfl rfl gI fun A2 H2 hS2 => ?_
 simp only [RT] at hS2
 simp (disch := omega) only [↓RA, RZ, simprocAttr]
 refine hS2.eNew 2 [(.int .u64 0), (.int .u64 0)] rfl rfl rfl gI fun A3 H3 hS3 => ?_
 simp only [RT] at hS3
 simp (disch := omega) only [↓RA, RZ, simprocAttr, hn, hS3.ld 0 rfl, hS3.ld 1 rfl, e1, e2]
 simp (disch := omega) only [↓RA, RB, simprocAttr, hn, a9L]
 refine hS3.eStore 2 rfl [(.int .u64 (x.1 ||| y.1 : Nat)), (.int .u64 (x.2 ||| y.2 : Nat))] rfl rfl gI (by simp) fun H4 hS4 => ?_
 simp only [RT] at hS4
 simp (disch := omega) only [↓RA, RZ, simprocAttr, hn, b9b, hS4.ldA 2 rfl]
 exact ⟨rfl, hS4.forget⟩
end Go.Ds
namespace Go.Ds
open Go.Proofs
variable {H : Heap}
set_option maxRecDepth 10000
set_option maxHeartbeats 1000000
theorem St.perm {P : Program} {H0 : Base} {os os' : List Ob} (h : St P H0 H os) (hp : os.Perm os') : St P H0 H os' where
 len := h.len
 old := h.old
 own o ho := h.own o (hp.mem_iff.2 ho)
 new o ho := h.new o (hp.mem_iff.2 ho)
 sep := (List.Perm.pairwise_iff (fun {_ _} hxy B hB hB2 => hxy B hB2 hB) hp).1 h.sep
theorem Lp.swap {P : Program} {B : Base} {L : Nat} {r : Loop} {xs ys zs : List Ob} (h : Lp P B L r H ((xs ++ ys) ++ zs)) : Lp P B L r H ((xs ++ zs) ++ ys) := by
 have hp : ((xs ++ ys) ++ zs).Perm ((xs ++ zs) ++ ys) := by
  rw [List.append_assoc, List.append_assoc]
  exact (List.perm_append_comm).append_left xs
 exact ⟨h.st.perm hp, h.get, h.lo, fun o ho => h.ne o (hp.mem_iff.2 ho)⟩
def oN (o : Org) (rg : Reg) (acc : List Nt) (c : Ct) : List Nt := if (nW o rg c).length = 0 then acc.set c.1.toNat (unF (aD acc c.1.toNat) (bB [c.2])) else acc
def eX (o : Org) (rg : Reg) (d : List Ct) : List Nt := d.foldl (oN o rg) (List.replicate o.dvs.length (0, 0))
theorem a1W (o : Org) (rg : Reg) (d : List Ct) (c : Ct) : eX o rg (d ++ [c]) = oN o rg (eX o rg d) c := by
 unfold eX
 rw [List.foldl_append]
 rfl
theorem b1x {o : Org} (hf : o.Fine) {c : Ct} (h : c ∈ cC o) : ∃ (i : Nat) (z : Int), c = ((i : Int), z) ∧ i < o.dvs.length ∧ isN z := by
 obtain ⟨i, hi, h⟩ := List.mem_flatMap.1 h
 obtain ⟨k, hk, rfl⟩ := List.mem_map.1 h
 have hi := List.mem_range.1 hi
 have hk := List.mem_range.1 hk
 have := hf.keys i hi
 exact ⟨i, _, rfl, hi, by omega, by omega⟩
theorem a0J (o : Org) (rg : Reg) : ∀ (d : List Ct) (acc : List Nt), (d.foldl (oN o rg) acc).length = acc.length
 | [], _ => rfl
 | c :: d, acc => by
   rw [List.foldl_cons, a0J o rg d]
   unfold oN
   split
   ·rw [List.length_set]
   ·rfl
theorem b0f (o : Org) (hf : o.Fine) (rg : Reg) : ∀ (d : List Ct) (acc : List Nt), (∀ c ∈ d, c ∈ cC o) → (∀ x ∈ acc, Nt.Ok x) → acc.length = o.dvs.length → ∀ x ∈ d.foldl (oN o rg) acc, Nt.Ok x
 | [], _, _, h, _ => h
 | c :: d, acc, hd, h, hl => by
   rw [List.foldl_cons]
   obtain ⟨i, z, rfl, hi, hz⟩ := b1x hf (hd _ (List.mem_cons_self ..))
   refine b0f o hf rg d _ (fun c hc => hd c (List.mem_cons_of_mem _ hc)) (fun x hx => ?_) ?_
   ·unfold oN at hx
    split at hx
    ·rcases List.mem_or_eq_of_mem_set hx with hx | hx
     ·exact h x hx
     ·rw [hx]
      refine b6i (h _ (aG (by simp; omega))) (iT _ _ (fun y hy => ?_) ⟨by decide, by decide⟩)
      rw [List.mem_singleton.1 hy]
      exact hz
    ·exact h x hx
   ·unfold oN
    split
    ·rw [List.length_set]; exact hl
    ·exact hl
theorem yN (o : Org) (ho : o.In H) (rg : Reg) (sv : Value) (hr : rg.In H sv) :
 Fn Tryz.prog 46 [.agg #[.string o.name, o.rv, o.dv, o.cv], .agg #[sv, .int .u64 rg.cpl, .int .u64 rg.off]] H fun r H' => ∃ lv, r = .tuple #[lv, I (cX o rg)] ∧ St Tryz.prog H H' [⟨lv, 2, (if cX o rg = 0 then eX o rg (cC o) else []).flatMap ntc⟩] := by
 refine Fn.of_sw Tryz.func46 rfl (by kernel_rfl) fun l hl => ?_
 have hn : l.length = 49 := by rw [hl]; rfl
 have g0 : get l 0 = (.agg #[(.string o.name), o.rv, o.dv, o.cv]) := by rw [hl]; rfl
 have g1 : get l 1 = (.agg #[sv, (.int .u64 rg.cpl), (.int .u64 rg.off)]) := by rw [hl]; rfl
 clear hl
 simp (disch := omega) only [↓RA, RB, simprocAttr, g0]
 refine (St.refl Tryz.prog H).eNew 4 [(.string o.name), o.rv, o.dv, o.cv] rfl rfl (by simp [OC, ((St.refl Tryz.prog H).sl ho.1).cells.2.1, ((St.refl Tryz.prog H).sl ho.2.2.1).cells.2.1, ((St.refl Tryz.prog H).sl ho.2.2.2.2.1).cells.2.1]) eU fun A1 H1 hS1 => ?_
 simp only [RT] at hS1
 simp (disch := omega) only [↓RA, RB, simprocAttr, g1]
 refine hS1.eNew 3 [sv, (.int .u64 rg.cpl), (.int .u64 rg.off)] rfl rfl (by simp [OC, (hS1.sl hr.1).cells.2.1]) eB fun A2 H2 hS2 => ?_
 simp only [RT] at hS2
 simp (disch := omega) only [↓RA, RZ, simprocAttr, hn, hS2.ldA 0 rfl, hS2.ldA 1 rfl]
 refine aC (jH o (ho.keep hS2) rg sv (hr.keep hS2)) ?_
 rintro r H3 ⟨rfl, hT1⟩
 have hS3 := hS2.trans hT1
 simp only [RT] at hS3
 simp (disch := omega) only [↓RA, RB, simprocAttr, hn]
 first | refine aA (fun h1 => ?_) (fun h1 => ?_) | refine aB (fun h1 => ?_) (fun h1 => ?_)
 ·simp (disch := omega) only [↓RA, RZ, simprocAttr, hn, b9g, h1]
  exact ⟨.slice none 0 0, rfl, hS3.forget.nil 1⟩
 have h0 := Classical.not_not.1 h1
 obtain ⟨hz3, hz4⟩ := eN h0
 have hf := Org.fine hz3
 have hd1 := hf.dpos
 have hd2 := hf.dlen
 simp (disch := omega) only [↓RA, RZ, simprocAttr, hn, hS3.ld 0 rfl, (hS3.sl ho.2.2.1).len, h1]
 refine hS3.eMakeN (cel := ntc) (x := (0, 0)) o.dvs.length b7w rfl (by omega) fun w1 H4 hS4 => ?_
 simp only [RT] at hS4
 simp (disch := omega) only [↓RA, RZ, simprocAttr]
 refine hS4.eNew 1 [(.slice none 0 0)] rfl rfl rfl b0O fun A3 H5 hS5 => ?_
 simp only [RT] at hS5
 simp (disch := omega) only [↓RA, RZ, simprocAttr, hn, h1]
 refine hS5.eStore 3 rfl [w1] (by rw [(hS5.rd 2 rfl).cells.1]) (by simp [(hS5.rd 2 rfl).cells.2.1]) b0O (by simp) fun H6 hS6 => ?_
 simp only [RT] at hS6
 simp (disch := omega) only [↓RA, RZ, simprocAttr, hn, hS6.ldA 0 rfl, hS6.ldA 1 rfl, h1]
 refine aC (a1h o (ho.keep hS6) rg sv (hr.keep hS6)) ?_
 rintro r H7 ⟨AK, AL, rfl, hT2⟩
 have hS7 := hS6.trans hT2
 simp only [RT] at hS7
 simp (disch := omega) only [↓RA, RZ, simprocAttr, h1]
 refine Wp.slots fun lrg1 hlrg1 => ?_
 have hnrg1 : lrg1.length = 49 := by rw [hlrg1]; simp (disch := omega) only [RB, simprocAttr, hn]
 have g4rg1 : get lrg1 4 = (.slice none 0 0) := by rw [hlrg1]; simp (disch := omega) only [RB, simprocAttr, hn]
 have g5rg1 : get lrg1 5 = I 0 := by rw [hlrg1]; simp (disch := omega) only [RB, simprocAttr, hn]
 have g7rg1 : get lrg1 7 = (ptr A3 0 1) := by rw [hlrg1]; simp (disch := omega) only [RB, simprocAttr, hn]
 have gfrg1 : get lrg1 24 = .func (.func 174) #[] [(ptr AK 0 4), (ptr AL 0 3)].toArray := by rw [hlrg1]; simp (disch := omega) only [RB, simprocAttr, hn]
 clear hlrg1
 refine Wp.rangeR gfrg1 fun rg1 hstrg1 hpdrg1 htmrg1 hpsrg1 hasrg1 hbdrg1 => ?_
 have hreqrg1 : ({ rg1 with state := .ready, pending := none } : Loop) = rg1 := by
  cases rg1
  simp only at hstrg1 hpdrg1
  subst hstrg1 hpdrg1
  rfl
 have hLprg1 := Lp.enter hS7 rg1
 generalize H7.cons (.loop rg1) = Hcrg1 at hLprg1 ⊢
 generalize H7.length = Lrg1 at hLprg1 ⊢
 refine (a6i o hf rg sv AK AL (.func (.yield Lrg1) #[] #[]) (fun d xs H1 =>
  Lp Tryz.prog H Lrg1 rg1 H1 ([⟨ptr A1 0 4, 0, oC o⟩, ⟨ptr A2 0 3, 0, rC rg sv⟩, ⟨w1, 2, (eX o rg d).flatMap ntc⟩, ⟨ptr A3 0 1, 0, [w1]⟩, ⟨ptr AK 0 4, 0, oC o⟩, ⟨ptr AL 0 3, 0, rC rg sv⟩] ++ xs)) ?_ ?_ ?_ ?_ ?_).mono ?_
 ·rw [List.append_nil]
  exact hLprg1
 ·rintro d xs H1 h
  have hs := h.left.st
  exact ⟨hs.var 4 rfl, ho.keep hs, hs.var 5 rfl, hr.keep hs, fun x hx => h.st.own x (List.mem_append_right _ hx)⟩
 ·rintro d xs H1 H2 ys h hT
  have h3 := h.ext hT
  rwa [List.append_assoc] at h3
 ·rintro d xs ys H1 h
  rw [← List.append_assoc] at h
  exact h.left
 ·rintro d c e xs H1 H20 pv he hLp hT hx
  have hLpj := hLp.ext hT
  rw [List.append_nil] at hLpj
  have hdm : ∀ c ∈ d, c ∈ cC o := fun c hc => by rw [he]; exact List.mem_append_left _ hc
  have hal : (eX o rg d).length = o.dvs.length := by unfold eX; rw [a0J, List.length_replicate]
  have hOk : ∀ x ∈ eX o rg d, Nt.Ok x := b0f o hf rg d _ hdm (fun x hx => by rw [List.eq_of_mem_replicate hx]; exact ⟨by decide, by decide⟩) (by simp)
  obtain ⟨i, z, rfl, hi, hz⟩ := b1x hf (c := c) (by rw [he]; simp)
  refine fN hLpj.get (by rw [hpsrg1]; rfl) hstrg1 ?_
  refine Wp.of_eqS (l := put (put lrg1 (some 25) (.agg #[I i, I z])) (some 26) (pv)) hasrg1 (by rw [hpsrg1, htmrg1]; first | exact (cS ..).symm | rfl | simp [put, cS]) ?_
  simp (disch := omega) only [↓RA, RZ, simprocAttr]
  refine (St.refl Tryz.prog H20).eNew 2 [I 0, I 0] rfl rfl rfl iL fun A4 H8 hS8 => ?_
  simp only [RT] at hS8
  simp (disch := omega) only [↓RA, RB, simprocAttr, hnrg1]
  refine hS8.eStore 0 rfl [I i, I z] rfl rfl iL (by simp) fun H9 hS9 => ?_
  simp only [RT] at hS9
  simp (disch := omega) only [↓RA, RZ, simprocAttr, hnrg1]
  have hSy := hS9
  have hLl : Lrg1 < H1.length := bG hLp.get
  have hLpx := Lp.swap (hLpj.ext hS9)
  refine ⟨rg1, hLpx.get, hstrg1, ?_⟩
  have hYBs1 := hLpx.set (fun h => h) { rg1 with state := .busy }
  have hKBs1 : ∀ B, B ≠ Lrg1 → aP (hset H9 Lrg1 (.loop { rg1 with state := .busy })) B = aP H9 B := fun B h => aK _ (Ne.symm h)
  have hNBs1 : (hset H9 Lrg1 (.loop { rg1 with state := .busy })).length = H9.length := bF ..
  generalize hset H9 Lrg1 (.loop { rg1 with state := .busy }) = HBs1 at hYBs1 hKBs1 hNBs1 ⊢
  refine Wp.of_eqS hbdrg1 rfl ?_
  have hZBs1 := hYBs1.left.st
  obtain ⟨Bs1, hBBs1, hS10⟩ := hZBs1.rebaseE (os := [⟨ptr A1 0 4, 0, _⟩, ⟨ptr A2 0 3, 0, _⟩, ⟨w1, 2, _⟩, ⟨ptr A3 0 1, 0, _⟩, ⟨ptr AK 0 4, 0, _⟩, ⟨ptr AL 0 3, 0, _⟩, ⟨ptr A4 0 2, 0, _⟩])
  have hxB : Slx 2 cU HBs1 (fun B => H1.length ≤ B) pv (nW o rg ((i : Int), z)) := hx.step fun B hB hl => ⟨by rw [hKBs1 B (by omega), hSy.keep B hl], hB⟩
  simp (disch := omega) only [↓RA, RZ, simprocAttr, hnrg1, hxB.1.len]
  first | refine aA (fun q1 => ?_) (fun q1 => ?_) | refine aB (fun q1 => ?_) (fun q1 => ?_)
  ·have hq : (nW o rg ((i : Int), z)).length = 0 := by omega
   have hz1 : ∀ y ∈ [z], isN y := fun y hy => by rw [List.mem_singleton.1 hy]; exact hz
   have hnok : Nt.Ok (bB [z]) := iT _ _ hz1 ⟨by decide, by decide⟩
   have hiok := hOk _ (aG (xs := eX o rg d) (j := i) (by omega))
   simp (disch := omega) only [↓RA, RZ, simprocAttr, hnrg1, hS10.ld 6 rfl, q1]
   refine hS10.eSlice [I z] a1P a3z rfl rfl (by simp [Value.cells]) rfl rfl (by decide) (by decide) fun w2 H10 hS11 => ?_
   simp only [RT] at hS11
   simp (disch := omega) only [↓RA, RZ, simprocAttr, hnrg1, q1]
   refine aC (a4h [z] hz1 _ (hS11.slo 7 rfl (fun _ => rfl)) (by simp)) ?_
   rintro r H11 ⟨rfl, hT3⟩
   have hS12 := hS11.trans hT3
   simp only [RT] at hS12
   simp (disch := omega) only [↓RA, RZ, simprocAttr, hnrg1, q1]
   refine hS12.eNew 2 [(.int .u64 0), (.int .u64 0)] rfl rfl rfl gI fun A5 H12 hS13 => ?_
   simp only [RT] at hS13
   simp (disch := omega) only [↓RA, RZ, simprocAttr, hnrg1, q1]
   refine hS13.eStore 8 rfl [(.int .u64 (bB [z]).1), (.int .u64 (bB [z]).2)] rfl rfl gI (by simp) fun H13 hS14 => ?_
   simp only [RT] at hS14
   simp (disch := omega) only [↓RA, RZ, simprocAttr, hnrg1, q1]
   refine Wp.drwT cA [(0, 10), (2, 10)] (by kernel_rfl) (by kernel_rfl) ?_
   simp (disch := omega) only [↓RA, RZ, simprocAttr, hnrg1, g7rg1, hS14.ld 3 rfl, hS14.ld 6 rfl, (hS14.slo 2 rfl (fun _ => rfl)).idx, (hS14.slo 2 rfl (fun _ => rfl)).ldA, ntc, hS14.ldA 8 rfl]
   refine aC (a8u (aD (eX o rg d) i) (bB [z]) hiok hnok) ?_
   rintro r H14 ⟨rfl, hT4⟩
   have hS15 := hS14.trans hT4
   simp only [RT] at hS15
   simp (disch := omega) only [↓RA, RZ, simprocAttr, hnrg1, (hS15.slo 2 rfl (fun _ => rfl)).idx]
   refine hS15.eStoreE 2 rfl [(.int .u64 (unF (aD (eX o rg d) i) (bB [z])).1), (.int .u64 (unF (aD (eX o rg d) i) (bB [z])).2)] rfl rfl gI (by simp) (by rw [aQ (n := 2) (cel := ntc) (fun _ => rfl)]; simp; omega) fun H15 hS16 => ?_
   simp only [RT] at hS16
   simp (disch := omega) only [↓RA, RZ, simprocAttr, hnrg1, g7rg1, hS15.ld 3 rfl, hS15.ld 6 rfl]
   have hS17 := hS16.pick (os' := [⟨ptr A1 0 4, 0, _⟩, ⟨ptr A2 0 3, 0, _⟩, ⟨w1, 2, _⟩, ⟨ptr A3 0 1, 0, _⟩, ⟨ptr AK 0 4, 0, _⟩, ⟨ptr AL 0 3, 0, _⟩]) [0, 1, 2, 3, 4, 5] (by decide) rfl
   have hset2 : ((List.flatMap ntc (eX o rg d)).set (i * 2) (.int .u64 (unF (aD (eX o rg d) i) (bB [z])).1)).set (i * 2 + 1) (.int .u64 (unF (aD (eX o rg d) i) (bB [z])).2) = (eX o rg (d ++ [((i : Int), z)])).flatMap ntc := by
    rw [a1W, oN, if_pos hq]
    simp only [Int.toNat_natCast]
    rw [← jJ ((((eX o rg d).flatMap ntc).set (i * 2) _).set (i * 2 + 1) _) (i * 2 + 1 + 1), ← dP, ← dP]
    exact zO (n := 2) (cel := ntc) (fun _ => rfl) (eX o rg d) i 0 [_, _] (unF (aD (eX o rg d) i) (bB [z])) (by omega) (by simp) rfl
   rw [hset2] at hS17
   have hWBs1 := (hYBs1.bodyF (hBBs1 ▸ hS17)).set (fun h => h) rg1
   rw [← hreqrg1] at hWBs1
   have hfin : Lp Tryz.prog H Lrg1 rg1 (hset H15 Lrg1 (.loop rg1)) ([⟨ptr A1 0 4, 0, oC o⟩, ⟨ptr A2 0 3, 0, rC rg sv⟩, ⟨w1, 2, (eX o rg (d ++ [((i : Int), z)])).flatMap ntc⟩, ⟨ptr A3 0 1, 0, [w1]⟩, ⟨ptr AK 0 4, 0, oC o⟩, ⟨ptr AL 0 3, 0, rC rg sv⟩] ++ xs) := hreqrg1 ▸ hWBs1
   rw [← hreqrg1] at hfin
   exact ⟨_, (hYBs1.bodyF (hBBs1 ▸ hS17)).get, rfl, hreqrg1 ▸ hfin⟩
  have hq : ¬ (nW o rg ((i : Int), z)).length = 0 := by omega
  have hsame : eX o rg (d ++ [((i : Int), z)]) = eX o rg d := by rw [a1W, oN, if_neg hq]
  simp (disch := omega) only [↓RA, RC, simprocAttr]
  have hS18 := hS10.pick (os' := [⟨ptr A1 0 4, 0, _⟩, ⟨ptr A2 0 3, 0, _⟩, ⟨w1, 2, _⟩, ⟨ptr A3 0 1, 0, _⟩, ⟨ptr AK 0 4, 0, _⟩, ⟨ptr AL 0 3, 0, _⟩]) [0, 1, 2, 3, 4, 5] (by decide) rfl
  have hWBs1 := (hYBs1.bodyF (hBBs1 ▸ hS18)).set (fun h => h) rg1
  rw [← hreqrg1] at hWBs1
  have hfin : Lp Tryz.prog H Lrg1 rg1 (hset HBs1 Lrg1 (.loop rg1)) ([⟨ptr A1 0 4, 0, oC o⟩, ⟨ptr A2 0 3, 0, rC rg sv⟩, ⟨w1, 2, (eX o rg (d ++ [((i : Int), z)])).flatMap ntc⟩, ⟨ptr A3 0 1, 0, [w1]⟩, ⟨ptr AK 0 4, 0, oC o⟩, ⟨ptr AL 0 3, 0, rC rg sv⟩] ++ xs) := by
   rw [hsame]
   exact hreqrg1 ▸ hWBs1
  rw [← hreqrg1] at hfin
  exact ⟨_, (hYBs1.bodyF (hBBs1 ▸ hS18)).get, rfl, hreqrg1 ▸ hfin⟩
 rintro _ H21 hLp2
 rw [List.append_nil] at hLp2
 refine ⟨_, hLp2.get, (by rw [hstrg1]; exact fun h => by cases h), fun _ => ?_, fun c hc => by rw [hpdrg1] at hc; cases hc⟩
 have hAAf1 := (hLp2.set (fun h => h) { rg1 with state := .exhausted }).st
 have hKAf1 : ∀ B, B ≠ Lrg1 → aP (hset H21 Lrg1 (.loop { rg1 with state := .exhausted })) B = aP H21 B := fun B h => aK _ (Ne.symm h)
 generalize hset H21 Lrg1 (.loop { rg1 with state := .exhausted }) = HAf1 at hAAf1 hKAf1 ⊢
 have hnt : bN w1 = true := (hAAf1.slo (cel := ntc) 2 rfl (fun _ => rfl)).noTup
 simp (disch := omega) only [↓RA, RZ, simprocAttr, hnrg1, g7rg1, hAAf1.ld 3 rfl, b9g, hnt]
 exact ⟨w1, by rw [h0], by rw [if_pos h0]; exact hAAf1.pick [2] (by decide) rfl⟩
end Go.Ds
namespace Go.Ds
open Go.Proofs
variable {H : Heap}
set_option maxRecDepth 10000
set_option maxHeartbeats 1000000
theorem a1u (x : Nt) (hx : Nt.Ok x) (z : Int) (h0 : 0 ≤ z) (h1 : z < 128) : Fn Tryz.prog 109 [.agg #[.int .u64 x.1, .int .u64 x.2], I z] H fun r H' => r = .agg #[.int .u64 (gJ x z).1, .int .u64 (gJ x z).2] ∧ St Tryz.prog H H' [] := by
 obtain ⟨m, rfl⟩ := Int.eq_ofNat_of_zero_le h0
 refine Fn.of_sw Tryz.func109 rfl (by kernel_rfl) fun l hl => ?_
 have hn : l.length = 23 := by rw [hl]; rfl
 have g0 : get l 0 = (.agg #[(.int .u64 x.1), (.int .u64 x.2)]) := by rw [hl]; rfl
 have g1 : get l 1 = I m := by rw [hl]; rfl
 clear hl
 simp (disch := omega) only [↓RA, RB, simprocAttr, g0]
 refine (St.refl Tryz.prog H).eNew 2 [(.int .u64 x.1), (.int .u64 x.2)] rfl rfl rfl gI fun A1 H1 hS1 => ?_
 simp only [RT] at hS1
 simp (disch := omega) only [↓RA, RZ, simprocAttr]
 refine hS1.eNew 2 [(.int .u64 0), (.int .u64 0)] rfl rfl rfl gI fun A2 H2 hS2 => ?_
 simp only [RT] at hS2
 simp (disch := omega) only [↓RA, RB, simprocAttr, hn, g1]
 first | refine aA (fun q1 => ?_) (fun q1 => ?_) | refine aB (fun q1 => ?_) (fun q1 => ?_)
 ·have e1 := orN x.1 m hx.1 (by omega)
  have e2 : gJ x (m : Int) = (x.1 ||| 2 ^ m, x.2) := by unfold gJ; rw [if_pos q1]; rfl
  simp (disch := omega) only [↓RA, RZ, simprocAttr, hn, g1, hS2.ld 0 rfl, q1, e1]
  refine hS2.eStore 0 rfl [(.int .u64 (x.1 ||| 2 ^ m : Nat))] rfl rfl wU (by simp) fun H3 hS3 => ?_
  simp only [RT] at hS3
  simp (disch := omega) only [↓RA, RZ, simprocAttr, hn, hS3.ldA 0 rfl, q1]
  refine hS3.eStore 1 rfl [(.int .u64 (x.1 ||| 2 ^ m : Nat)), (.int .u64 x.2)] rfl rfl gI (by simp) fun H4 hS4 => ?_
  simp only [RT] at hS4
  simp (disch := omega) only [↓RA, RZ, simprocAttr, hn, b5J, hS4.ldA 1 rfl, q1]
  rw [e2]
  exact ⟨rfl, hS4.forget⟩
 have e1 := orN x.2 (m - 64) hx.2 (by omega)
 have e3 : (m : Int) - 64 = ((m - 64 : Nat) : Int) := by omega
 have e2 : gJ x (m : Int) = (x.1, x.2 ||| 2 ^ (m - 64)) := by unfold gJ; rw [if_neg q1, e3]; rfl
 simp (disch := omega) only [↓RA, RZ, simprocAttr, hn, g1, hS2.ld 0 rfl, q1, e1, e3]
 refine hS2.eStore 0 rfl [(.int .u64 (x.2 ||| 2 ^ (m - 64) : Nat))] rfl rfl wU (by simp) fun H5 hS5 => ?_
 simp only [RT] at hS5
 simp (disch := omega) only [↓RA, RZ, simprocAttr, hn, hS5.ldA 0 rfl, q1]
 refine hS5.eStore 1 rfl [(.int .u64 x.1), (.int .u64 (x.2 ||| 2 ^ (m - 64) : Nat))] rfl rfl gI (by simp) fun H6 hS6 => ?_
 simp only [RT] at hS6
 simp (disch := omega) only [↓RA, RZ, simprocAttr, hn, b5J, hS6.ldA 1 rfl, q1]
 rw [e2]
 exact ⟨rfl, hS6.forget⟩
theorem b5W (xs : List Int) (hz : ∀ z ∈ xs, isN z) (v : Value) (hv : Sl 1 (one I) H v xs) (hl : xs.length < 1000000000) :
 Fn Tryz.prog 100 [v] H fun r H' => r = .agg #[.int .u64 (bB xs).1, .int .u64 (bB xs).2] ∧ St Tryz.prog H H' [] := by
 refine Fn.of_sw Tryz.func100 rfl (by kernel_rfl) fun l hl => ?_
 have hn : l.length = 30 := by rw [hl]; rfl
 have g0 : get l 0 = v := by rw [hl]; rfl
 clear hl
 simp (disch := omega) only [↓RA, RZ, simprocAttr]
 refine (St.refl Tryz.prog H).eNew 2 [(.int .u64 0), (.int .u64 0)] rfl rfl rfl gI fun A1 H1 hS1 => ?_
 simp only [RT] at hS1
 simp (disch := omega) only [↓RA, RZ, simprocAttr]
 refine hS1.eNew 2 [(.int .u64 0), (.int .u64 0)] rfl rfl rfl gI fun A2 H2 hS2 => ?_
 simp only [RT] at hS2
 simp (disch := omega) only [↓RA, RB, simprocAttr]
 refine Wp.loopS (fun n l H' => l.length = 30 ∧ get l 0 = v ∧ get l 2 = (ptr A1 0 2) ∧ get l 3 = (ptr A2 0 2) ∧ ∃ (j : Nat), (n + j = xs.length) ∧ get l 4 = I j ∧ St Tryz.prog H H' [⟨ptr A1 0 2, 0, [(.int .u64 0), (.int .u64 0)]⟩, ⟨ptr A2 0 2, 0, [.int .u64 (bB (xs.take j)).1, .int .u64 (bB (xs.take j)).2]⟩]) xs.length ?_ ?_
 ·simp (disch := omega) only [RB, RC, simprocAttr, hn, g0]
  exact ⟨0, by omega, rfl, hS2⟩
 rintro n l H3 ⟨hn, g0, g2, g3, j, hj, g4, hS3⟩
 simp (disch := omega) only [↓RA, RZ, simprocAttr, hn, g0, g4, (hS3.sl hv).len]
 first | refine aA (fun q1 => ?_) (fun q1 => ?_) | refine aB (fun q1 => ?_) (fun q1 => ?_)
 ·have hx := hz _ (aG (xs := xs) (j := j) (by omega))
  have hx0 := hx.1
  have hx1 := hx.2
  have hok : Nt.Ok (bB (xs.take j)) := iT _ _ (fun z h => hz z (List.mem_of_mem_take h)) ⟨by decide, by decide⟩
  simp (disch := omega) only [↓RA, RZ, simprocAttr, hn, g0, g4, (hS3.sl hv).idx, (hS3.sl hv).ld, one, q1]
  first | refine bY (fun q2 => ?_) (fun q2 => ?_) | refine aI (fun q2 => ?_) (fun q2 => ?_)
  rotate_left
  ·exfalso; first | omega | (simp at q2; omega)
  simp (disch := omega) only [↓RA, RZ, simprocAttr, hn, g0, g4, (hS3.sl hv).idx, (hS3.sl hv).ld, one, q1, q2]
  first | refine aA (fun q3 => ?_) (fun q3 => ?_) | refine aB (fun q3 => ?_) (fun q3 => ?_)
  rotate_left
  ·exfalso; first | omega | (simp at q3; omega)
  simp (disch := omega) only [↓RA, RC, simprocAttr, q1, q2, q3]
  refine Wp.drw cA (by kernel_rfl) ?_
  simp (disch := omega) only [↓RA, RZ, simprocAttr, hn, g0, g3, g4, hS3.ldA 1 rfl, (hS3.sl hv).idx, (hS3.sl hv).ld, one]
  refine aC (a1u (bB (xs.take j)) hok (aD xs j) hx.1 hx.2) ?_
  rintro r H4 ⟨rfl, hT1⟩
  have hS4 := hS3.trans hT1
  simp only [RT] at hS4
  simp (disch := omega) only [↓RA, RB, simprocAttr, hn, g3]
  refine hS4.eStore 1 rfl [(.int .u64 (gJ (bB (xs.take j)) (aD xs j)).1), (.int .u64 (gJ (bB (xs.take j)) (aD xs j)).2)] rfl rfl gI (by simp) fun H5 hS5 => ?_
  simp only [RT] at hS5
  simp (disch := omega) only [↓RA, RZ, simprocAttr, hn, g0, g2, g3, g4]
  refine ⟨n - 1, by omega, j + 1, by omega, by simp, ?_⟩
  rw [tB xs (by omega)]
  exact hS5.pick [0, 1] (by decide) rfl
 have hjj : j = xs.length := by omega
 simp (disch := omega) only [↓RA, RZ, simprocAttr, hn, g2, g3, hS3.ldA 1 rfl, q1]
 refine hS3.eStore 0 rfl [(.int .u64 (bB (xs.take j)).1), (.int .u64 (bB (xs.take j)).2)] rfl rfl gI (by simp) fun H6 hS6 => ?_
 simp only [RT] at hS6
 simp (disch := omega) only [↓RA, RZ, simprocAttr, g2, c0k, hS6.ldA 0 rfl, q1]
 rw [hjj, List.take_length]
 exact ⟨rfl, hS6.forget⟩
theorem a7c (lo hi : Int) (h0 : 0 ≤ lo) (h2 : hi ≤ 127) : Fn Tryz.prog 47 [.agg #[I lo, I hi]] H fun r H' => r = .agg #[.int .u64 (bB ((List.range (hi - lo + 1).toNat).map fun (k : Nat) => lo + (k : Int))).1, .int .u64 (bB ((List.range (hi - lo + 1).toNat).map fun (k : Nat) => lo + (k : Int))).2] ∧ St Tryz.prog H H' [] := by
 refine Fn.of_sw Tryz.func47 rfl (by kernel_rfl) fun l hl => ?_
 have hn : l.length = 17 := by rw [hl]; rfl
 have g0 : get l 0 = (.agg #[I lo, I hi]) := by rw [hl]; rfl
 clear hl
 simp (disch := omega) only [↓RA, RB, simprocAttr, g0]
 refine (St.refl Tryz.prog H).eNew 2 [I lo, I hi] rfl rfl rfl a2Q fun A1 H1 hS1 => ?_
 simp only [RT] at hS1
 simp (disch := omega) only [↓RA, RZ, simprocAttr]
 refine hS1.eNew 2 [(.int .u64 0), (.int .u64 0)] rfl rfl rfl gI fun A2 H2 hS2 => ?_
 simp only [RT] at hS2
 simp (disch := omega) only [↓RA, RZ, simprocAttr]
 refine hS2.eNew 2 [(.int .u64 0), (.int .u64 0)] rfl rfl rfl gI fun A3 H3 hS3 => ?_
 simp only [RT] at hS3
 simp (disch := omega) only [↓RA, RZ, simprocAttr, hn, hS3.ld 0 rfl]
 refine Wp.loopS (fun n l H' => l.length = 17 ∧ get l 1 = (ptr A1 0 2) ∧ get l 2 = (ptr A2 0 2) ∧ get l 3 = (ptr A3 0 2) ∧ ∃ (j : Nat), (n + j = (hi - lo + 1).toNat) ∧ get l 4 = I (lo + (j : Int)) ∧ St Tryz.prog H H' [⟨ptr A1 0 2, 0, [I lo, I hi]⟩, ⟨ptr A2 0 2, 0, [(.int .u64 0), (.int .u64 0)]⟩, ⟨ptr A3 0 2, 0, [.int .u64 (bB ((List.range j).map fun (k : Nat) => lo + (k : Int))).1, .int .u64 (bB ((List.range j).map fun (k : Nat) => lo + (k : Int))).2]⟩]) (hi - lo + 1).toNat ?_ ?_
 ·simp (disch := omega) only [RB, RC, simprocAttr, hn]
  exact ⟨0, by omega, by simp, hS3⟩
 rintro n l H4 ⟨hn, g1, g2, g3, j, hj, g4, hS4⟩
 simp (disch := omega) only [↓RA, RZ, simprocAttr, hn, g1, g4, hS4.ld 0 rfl]
 first | refine aA (fun q1 => ?_) (fun q1 => ?_) | refine aB (fun q1 => ?_) (fun q1 => ?_)
 ·have hok : Nt.Ok (bB ((List.range j).map fun (k : Nat) => lo + (k : Int))) := iT _ _ (fun z h => by
   obtain ⟨k, hk, rfl⟩ := List.mem_map.1 h
   have := List.mem_range.1 hk
   exact ⟨by omega, by omega⟩) ⟨by decide, by decide⟩
  have hsu : bB ((List.range (j + 1)).map fun (k : Nat) => lo + (k : Int)) = gJ (bB ((List.range j).map fun (k : Nat) => lo + (k : Int))) (lo + (j : Int)) := by
   unfold bB
   rw [List.range_succ, List.map_append, List.foldl_append]
   rfl
  simp (disch := omega) only [↓RA, RZ, simprocAttr, hn, g3, g4, hS4.ldA 2 rfl, q1]
  refine aC (a1u (bB ((List.range j).map fun (k : Nat) => lo + (k : Int))) hok (lo + (j : Int)) (by omega) (by omega)) ?_
  rintro r H5 ⟨rfl, hT1⟩
  have hS5 := hS4.trans hT1
  simp only [RT] at hS5
  simp (disch := omega) only [↓RA, RZ, simprocAttr, hn, g3, q1]
  refine hS5.eStore 2 rfl [(.int .u64 (gJ (bB ((List.range j).map fun (k : Nat) => lo + (k : Int))) (lo + (j : Int))).1), (.int .u64 (gJ (bB ((List.range j).map fun (k : Nat) => lo + (k : Int))) (lo + (j : Int))).2)] rfl rfl gI (by simp) fun H6 hS6 => ?_
  simp only [RT] at hS6
  simp (disch := omega) only [↓RA, RZ, simprocAttr, hn, g1, g2, g3, g4, q1]
  refine ⟨n - 1, by omega, j + 1, by omega, by simp; omega, ?_⟩
  rw [hsu]
  exact hS6.pick [0, 1, 2] (by decide) rfl
 have hjj : j = (hi - lo + 1).toNat := by omega
 simp (disch := omega) only [↓RA, RZ, simprocAttr, hn, g2, g3, hS4.ldA 2 rfl, q1]
 refine hS4.eStore 1 rfl [(.int .u64 (bB ((List.range j).map fun (k : Nat) => lo + (k : Int))).1), (.int .u64 (bB ((List.range j).map fun (k : Nat) => lo + (k : Int))).2)] rfl rfl gI (by simp) fun H7 hS7 => ?_
 simp only [RT] at hS7
 simp (disch := omega) only [↓RA, RZ, simprocAttr, g2, c2R, hS7.ldA 1 rfl, q1]
 rw [hjj]
 exact ⟨rfl, hS7.forget⟩
end Go.Ds
namespace Go.Ds
open Go.Proofs
variable {H : Heap}
set_option maxRecDepth 10000
set_option maxHeartbeats 1000000
def exO (w1 w2 w3 w4 w5 w6 w7 : Value) : Org := ⟨⟨#[111]⟩, w4, [⟨⟨#[114]⟩, ⟨#[116]⟩, 8, 1, 36, w3, [1, 1, 1]⟩], w6, [⟨⟨#[100]⟩, false, 36, 40, w5, [⟨⟨#[115]⟩, 8, 1, w2, [⟨36, 40, w1, [⟨0, 0⟩]⟩]⟩, ⟨⟨#[116]⟩, 8, 1, w2, [⟨36, 40, w1, [⟨0, 0⟩]⟩]⟩]⟩], w7, [⟨⟨#[99]⟩, 0, 0, 1, false⟩]⟩
theorem a4A : Fn Tryz.prog 99 [] H fun r H' => ∃ w1 w2 w3 w4 w5 w6 w7, r = .agg #[.string (exO w1 w2 w3 w4 w5 w6 w7).name, w4, w6, w7] ∧ (exO w1 w2 w3 w4 w5 w6 w7).In H' ∧ St Tryz.prog H H' [] := by
 refine Fn.of_sw Tryz.func99 rfl (by kernel_rfl) fun l hl => ?_
 have hn : l.length = 24 := by rw [hl]; rfl
 clear hl
 simp (disch := omega) only [↓RA, RZ, simprocAttr]
 refine (St.refl Tryz.prog H).eNew 4 [(.string ⟨#[]⟩), (.slice none 0 0), (.slice none 0 0), (.slice none 0 0)] rfl rfl rfl eU fun A1 H1 hS1 => ?_
 simp only [RT] at hS1
 simp (disch := omega) only [↓RA, RB, simprocAttr, hn, qH, b6T]
 refine hS1.eSlice [I 0, I 0] a7B a7T rfl rfl (by simp [Value.cells]) rfl rfl (by decide) (by decide) fun w1 H2 hS2 => ?_
 simp only [RT] at hS2
 simp (disch := omega) only [↓RA, RB, simprocAttr, hn, dU (hS2.rd 1 rfl).cells]
 refine hS2.eSlice [I 36, I 40, w1] nG wX rfl rfl (by first | (simp []; done) | simp [Value.cells]) (by first | (simp []; done) | simp [Value.cells]) (by simp [OC, (hS2.rd 1 rfl).cells.2.1]) (by decide) (by decide) fun w2 H3 hS3 => ?_
 simp only [RT] at hS3
 simp (disch := omega) only [↓RA, RZ, simprocAttr, hn, a5D (hS3.rd 2 rfl).cells]
 refine hS3.eNew 4 [(.string ⟨#[]⟩), I 0, I 0, (.slice none 0 0)] rfl rfl rfl jG fun A2 H4 hS4 => ?_
 simp only [RT] at hS4
 simp (disch := omega) only [↓RA, RB, simprocAttr, hn]
 refine hS4.eStore 3 rfl [(.string ⟨#[115]⟩), I 8, I 1, w2] rfl (by simp [OC, (hS4.rd 2 rfl).cells.2.1]) jG (by simp) fun H5 hS5 => ?_
 simp only [RT] at hS5
 simp (disch := omega) only [↓RA, RZ, simprocAttr, hn, hS5.ldA 3 rfl]
 refine hS5.eNew 4 [(.string ⟨#[]⟩), I 0, I 0, (.slice none 0 0)] rfl rfl rfl jG fun A3 H6 hS6 => ?_
 simp only [RT] at hS6
 simp (disch := omega) only [↓RA, RB, simprocAttr, hn]
 refine hS6.eStore 4 rfl [(.string ⟨#[115]⟩), I 8, I 1, w2] rfl (by simp [OC, (hS6.rd 2 rfl).cells.2.1]) jG (by simp) fun H7 hS7 => ?_
 simp only [RT] at hS7
 simp (disch := omega) only [↓RA, RZ, simprocAttr, hn]
 refine hS7.eStore 4 rfl [(.string ⟨#[116]⟩)] rfl rfl tS9 (by simp) fun H8 hS8 => ?_
 simp only [RT] at hS8
 simp (disch := omega) only [↓RA, RB, simprocAttr, qH]
 refine hS8.eSlice [I 1, I 1, I 1] a1P a3z rfl rfl (by simp [Value.cells]) rfl rfl (by decide) (by decide) fun w3 H9 hS9 => ?_
 simp only [RT] at hS9
 simp (disch := omega) only [↓RA, RB, simprocAttr, hn, tE (hS9.rd 5 rfl).cells]
 refine hS9.eSlice [(.string ⟨#[114]⟩), (.string ⟨#[116]⟩), I 8, I 1, I 36, w3] b5R c0p rfl rfl (by first | (simp []; done) | simp [Value.cells]) (by first | (simp []; done) | simp [Value.cells]) (by simp [OC, (hS9.rd 5 rfl).cells.2.1]) (by decide) (by decide) fun w4 H10 hS10 => ?_
 simp only [RT] at hS10
 simp (disch := omega) only [↓RA, RZ, simprocAttr, hn, a3i, hS10.ldA 3 rfl, hS10.ldA 4 rfl]
 refine hS10.eSlice [(.string ⟨#[115]⟩), I 8, I 1, w2, (.string ⟨#[116]⟩), I 8, I 1, w2] b6Q b9E rfl rfl (by first | (simp []; done) | simp [Value.cells]) (by first | (simp []; done) | simp [Value.cells]) (by simp [OC, (hS10.rd 2 rfl).cells.2.1]) (by decide) (by decide) fun w5 H11 hS11 => ?_
 simp only [RT] at hS11
 simp (disch := omega) only [↓RA, RB, simprocAttr, hn, a4T (hS11.rd 7 rfl).cells]
 refine hS11.eSlice [(.string ⟨#[100]⟩), (.bool false), I 36, I 40, w5] b7k c0u rfl rfl (by first | (simp []; done) | simp [Value.cells]) (by first | (simp []; done) | simp [Value.cells]) (by simp [OC, (hS11.rd 7 rfl).cells.2.1]) (by decide) (by decide) fun w6 H12 hS12 => ?_
 simp only [RT] at hS12
 simp (disch := omega) only [↓RA, RB, simprocAttr, hn, a6S]
 refine hS12.eSlice [(.string ⟨#[99]⟩), I 0, I 0, I 1, (.bool false)] a4c b4K rfl rfl (by simp [Value.cells]) rfl rfl (by decide) (by decide) fun w7 H13 hS13 => ?_
 simp only [RT] at hS13
 simp (disch := omega) only [↓RA, RB, simprocAttr, hn, a0Y (hS13.rd 6 rfl).cells (hS13.rd 8 rfl).cells (hS13.rd 9 rfl).cells]
 refine hS13.eStore 0 rfl [(.string ⟨#[111]⟩), w4, w6, w7] rfl (by simp [OC, (hS13.rd 6 rfl).cells.2.1, (hS13.rd 8 rfl).cells.2.1, (hS13.rd 9 rfl).cells.2.1]) eU (by simp) fun H14 hS14 => ?_
 simp only [RT] at hS14
 simp (disch := omega) only [↓RA, RZ, simprocAttr, hn, c2B, hS14.ldA 0 rfl]
 have h1 : Sl 2 Drw.cells H14 w1 [⟨0, 0⟩] := hS14.slo 1 rfl (fun _ => rfl)
 have h2 : Sl 3 Seg.cells H14 w2 [⟨36, 40, w1, [⟨0, 0⟩]⟩] := hS14.slo 2 rfl (fun _ => rfl)
 have h3 : Sl 1 (one I) H14 w3 [1, 1, 1] := hS14.slo 5 rfl (fun _ => rfl)
 have h4 : Sl 6 Rk.cells H14 w4 (exO w1 w2 w3 w4 w5 w6 w7).ranks := hS14.slo 6 rfl (fun _ => rfl)
 have h5 : Sl 4 Stp.cells H14 w5 [⟨⟨#[115]⟩, 8, 1, w2, [⟨36, 40, w1, [⟨0, 0⟩]⟩]⟩, ⟨⟨#[116]⟩, 8, 1, w2, [⟨36, 40, w1, [⟨0, 0⟩]⟩]⟩] := hS14.slo 7 rfl (fun _ => rfl)
 have h6 : Sl 5 Dvn.cells H14 w6 (exO w1 w2 w3 w4 w5 w6 w7).dvs := hS14.slo 8 rfl (fun _ => rfl)
 have h7 : Sl 5 Cpl.cells H14 w7 (exO w1 w2 w3 w4 w5 w6 w7).cpls := hS14.slo 9 rfl (fun _ => rfl)
 refine ⟨w1, w2, w3, w4, w5, w6, w7, rfl, ⟨h4, ?_, h6, ?_, h7, by simp [exO], by simp [exO], by simp [exO]⟩, hS14.forget⟩
 ·intro r hr
  rw [List.mem_singleton.1 hr]
  exact ⟨h3, by simp⟩
 ·have hg : (⟨36, 40, w1, [⟨0, 0⟩]⟩ : Seg).In H14 := ⟨h1, by simp⟩
  intro d hd
  rw [List.mem_singleton.1 hd]
  refine ⟨h5, ?_, by simp⟩
  intro s hs
  simp only [List.mem_cons, List.not_mem_nil, or_false] at hs
  rcases hs with rfl | rfl
  ·exact ⟨h2, fun g hg' => by rw [List.mem_singleton.1 hg']; exact hg, by simp⟩
  ·exact ⟨h2, fun g hg' => by rw [List.mem_singleton.1 hg']; exact hg, by simp⟩
section
variable (w1 w2 w3 w4 w5 w6 w7 : Value)
def a4U (x : Int × Int) : List (Int × Int) → List (Int × Int)
 | [] => [x]
 | y :: l => if le2 x y then x :: y :: l else y :: a4U x l
def a5b : List (Int × Int) → List (Int × Int)
 | [] => []
 | x :: l => a4U x (a5b l)
theorem rE (x : Int × Int) : ∀ l, (a4U x l).Perm (x :: l)
 | [] => .refl _
 | y :: l => by
   unfold a4U
   split
   ·exact .refl _
   ·exact ((rE x l).cons y).trans (.swap ..)
theorem xW : ∀ l, (a5b l).Perm l
 | [] => .refl _
 | x :: l => (rE x _).trans ((xW l).cons x)
theorem a7F (x y : Int × Int) : le2 x y = false → le2 y x = true := by
 intro h
 rw [← Bool.not_eq_true] at h
 rw [jN] at h ⊢
 omega
theorem sV (x : Int × Int) : ∀ l : List (Int × Int), l.Pairwise (fun a b => le2 a b = true) → (a4U x l).Pairwise fun a b => le2 a b = true
 | [], _ => by simp [a4U]
 | y :: l, h => by
   have h1 := List.pairwise_cons.1 h
   unfold a4U
   split
   ·rename_i hxy
    refine List.pairwise_cons.2 ⟨fun z hz => ?_, h⟩
    rcases List.mem_cons.1 hz with rfl | hz
    ·exact hxy
    ·have h2 := h1.1 z hz
     rw [jN] at *
     omega
   ·rename_i hxy
    refine List.pairwise_cons.2 ⟨fun z hz => ?_, sV x l h1.2⟩
    rcases List.mem_cons.1 ((rE x l).mem_iff.1 hz) with rfl | hz
    ·exact a7F _ _ (by simpa using hxy)
    ·exact h1.1 z hz
theorem sZ : ∀ l : List (Int × Int), (a5b l).Pairwise fun a b => le2 a b = true
 | [] => .nil
 | x :: l => sV x _ (sZ l)
theorem b7W : oW = a5b := by
 funext l
 refine List.Perm.eq_of_pairwise (le := fun a b => le2 a b = true) (fun a b _ _ h1 h2 => ?_) (a4E l) (sZ l) ((hP l).trans (xW l).symm)
 rw [jN] at h1 h2
 exact Prod.ext (by omega) (by omega)
def b8e (s : List Ct → List Ct) (o : Org) (r : Reg) (l : List Ct) : List Ct := dd (s (l.filter (fun c => !r.off.testBit c.1.toNat) ++ bfs o r.cpl 1100 0 (fX o r.cpl l)))
def b7l (s : List Ct → List Ct) (rs : List Rk) (p : Stp) (key : Int) : List Ct := dd (s (((a5o p key).filter fun d => rK rs d key).map fun d => iE rs d key))
def b6V (s : List Ct → List Ct) (o : Org) (r : Reg) (c : Ct) : List Ct := (List.range (aD o.dvs c.1.toNat).stops.length).flatMap fun i => if (aD r.stops c.1.toNat).testBit i then b7l s o.ranks (aD (aD o.dvs c.1.toNat).stops i) c.2 else []
def ofG (s : List Ct → List Ct) (o : Org) (r : Reg) (c : Ct) : List Ct := if a2H o r c = 0 then dd (s ((b8e s o r [c]).flatMap (b6V s o r))) else []
theorem a9e : nW = ofG a5b := by
 rw [← b7W]
 rfl
theorem b7P : cX (exO w1 w2 w3 w4 w5 w6 w7) ⟨[1], 0, 0⟩ = 0 := by kernel_rfl
theorem b7x : eX (exO w1 w2 w3 w4 w5 w6 w7) ⟨[1], 0, 0⟩ (cC (exO w1 w2 w3 w4 w5 w6 w7)) = [bB [39, 40]] := by
 unfold eX oN
 rw [a9e]
 kernel_rfl
end
end Go.Ds
namespace Go.Ds
open Go.Proofs
variable {H : Heap}
set_option maxRecDepth 10000
set_option maxHeartbeats 1000000
section
variable (w1 w2 w3 w4 w5 w6 w7 : Value)
def uU (s : List Ct → List Ct) (o : Org) (r : Reg) : List Ctl := (dD r).filter fun c => decide ((cC o).map (ofG s o (bU r c)) = (cC o).map (ofG s o r))
theorem a3k : dN = uU a5b := by
 funext o r
 unfold dN dT uU
 rw [a9e]
def a3O (s : List Ct → List Ct) (o : Org) : Nat → Reg → List Ctl → Reg × List Ctl
 | 0, g, l => (g, l)
 | n + 1, g, l => if (uU s o g).length = 0 then (g, l) else a3O s o n (bU g (aD (uU s o g) ((uU s o g).length - 1))) (l ++ [aD (uU s o g) ((uU s o g).length - 1)])
theorem yE (o : Org) : ∀ n g l, cT o n g l = a3O a5b o n g l
 | 0, _, _ => rfl
 | n + 1, g, l => by
   rw [cT, a3O, a3k]
   split
   ·rfl
   ·exact yE o n _ _
theorem b3d : cX (exO w1 w2 w3 w4 w5 w6 w7) ⟨[3], 0, 0⟩ = 0 := by kernel_rfl
theorem b2z : cX (exO w1 w2 w3 w4 w5 w6 w7) ⟨[0], 1, 0⟩ = 0 := by kernel_rfl
theorem b3H : dN (exO w1 w2 w3 w4 w5 w6 w7) ⟨[0], 1, 0⟩ = [nJ 0] := by
 rw [a3k]
 kernel_rfl
theorem b0A : cT (exO w1 w2 w3 w4 w5 w6 w7) (mu ⟨[3], 0, 0⟩ + 1) ⟨[3], 0, 0⟩ [] = (⟨[1], 0, 0⟩, [nH 0 1]) := by
 rw [yE]
 kernel_rfl
end
theorem a3u : Fn Tryz.prog 99 [] H fun r H' => ∃ o : Org, r = .agg #[.string o.name, o.rv, o.dv, o.cv] ∧ (∃ w1 w2 w3 w4 w5 w6 w7, o = exO w1 w2 w3 w4 w5 w6 w7) ∧ o.In H' ∧ St Tryz.prog H H' [] := by
 obtain ⟨h1, v, H1, h2, w1, w2, w3, w4, w5, w6, w7, h3, h4, h5⟩ := a4A (H := H)
 exact ⟨h1, v, H1, h2, _, h3, ⟨w1, w2, w3, w4, w5, w6, w7, rfl⟩, h4, h5⟩
theorem zL (o : Org) (ho : o.In H) (rg : Reg) (sv : Value) (hr : rg.In H sv) (h0 : cX o rg = 0) (g : Reg) (gone : List Ctl) (hs : cT o (mu rg + 1) rg [] = (g, gone)) :
 Fn Tryz.prog 41 [.agg #[.string o.name, o.rv, o.dv, o.cv], .agg #[sv, .int .u64 rg.cpl, .int .u64 rg.off]] H fun r H' => ∃ nv lv, r = .tuple #[.agg #[nv, .int .u64 g.cpl, .int .u64 g.off], lv, I 0] ∧ (g.Ok ∧ g.stops.length = rg.stops.length) ∧ St Tryz.prog H H' [⟨nv, 1, g.stops.flatMap (one u64)⟩, ⟨lv, 3, dH gone⟩] := by
 obtain ⟨h1, v, H1, h2, nv, lv, h3⟩ := b0q o ho rg sv hr
 refine ⟨h1, v, H1, h2, ?_⟩
 rcases h3 with ⟨h, _⟩ | ⟨g', gone', _, he, h4, h5, h6, h7⟩
 ·exact absurd h0 h
 ·rw [hs] at he
  obtain ⟨rfl, rfl⟩ := Prod.mk.inj he
  exact ⟨nv, lv, h4, ⟨h5, h6⟩, h7⟩
theorem a3D : Fn Tryz.prog 36 [] H fun r H' => r = .bool true ∧ St Tryz.prog H H' [] := by
 refine Fn.of_sw Tryz.func36 rfl (by kernel_rfl) fun l hl => ?_
 have hn : l.length = 92 := by rw [hl]; rfl
 clear hl
 simp (disch := omega) only [↓RA, RZ, simprocAttr]
 refine aC (a3u) ?_
 rintro r H1 ⟨o, rfl, ⟨v1, v2, v3, v4, v5, v6, v7, hoe⟩, ho, hT1⟩
 have hS1 := (St.refl Tryz.prog H).trans hT1
 simp only [RT] at hS1
 have f1 : cX o ⟨[1], 0, 0⟩ = 0 := by rw [hoe]; exact b7P ..
 have f2 : eX o ⟨[1], 0, 0⟩ (cC o) = [bB [39, 40]] := by rw [hoe]; exact b7x ..
 have f3 : cX o ⟨[3], 0, 0⟩ = 0 := by rw [hoe]; exact b3d ..
 have f4 : cT o (mu ⟨[3], 0, 0⟩ + 1) ⟨[3], 0, 0⟩ [] = (⟨[1], 0, 0⟩, [nH 0 1]) := by rw [hoe]; exact b0A ..
 have f5 : cX o ⟨[0], 1, 0⟩ = 0 := by rw [hoe]; exact b2z ..
 have f6 : dN o ⟨[0], 1, 0⟩ = [nJ 0] := by rw [hoe]; exact b3H ..
 have hS0 := hS1
 simp (disch := omega) only [↓RA, RZ, simprocAttr]
 refine (St.refl Tryz.prog H1).eNew 4 [(.string ⟨#[]⟩), (.slice none 0 0), (.slice none 0 0), (.slice none 0 0)] rfl rfl rfl eU fun A1 H2 hS2 => ?_
 simp only [RT] at hS2
 simp (disch := omega) only [↓RA, RB, simprocAttr, hn]
 refine hS2.eStore 0 rfl [(.string o.name), o.rv, o.dv, o.cv] rfl (by simp [OC, (hS2.sl ho.1).cells.2.1, (hS2.sl ho.2.2.1).cells.2.1, (hS2.sl ho.2.2.2.2.1).cells.2.1]) eU (by simp) fun H3 hS3 => ?_
 simp only [RT] at hS3
 simp (disch := omega) only [↓RA, RZ, simprocAttr, hn, hS3.ldA 0 rfl]
 refine hS3.eSlice [(.int .u64 1)] a5e b2h rfl rfl (by simp [Value.cells]) rfl rfl (by decide) (by decide) fun w1 H4 hS4 => ?_
 simp only [RT] at hS4
 simp (disch := omega) only [↓RA, RZ, simprocAttr, hn, b1I (hS4.rd 1 rfl).cells]
 refine aC (yN o (ho.keep hS4) ⟨[1], 0, 0⟩ _ ⟨hS4.slo 1 rfl (fun _ => rfl), by decide, by decide, by decide, by decide⟩) ?_
 rintro r H5 ⟨lv, rfl, hT2⟩
 have hS5 := hS4.trans hT2
 simp only [RT] at hS5
 rw [f1]
 rw [if_pos f1, f2] at hS5
 simp (disch := omega) only [↓RA, RZ, simprocAttr, hn, hS5.ldA 0 rfl]
 refine hS5.eSlice [(.int .u64 3)] a5e b2h rfl rfl (by simp [Value.cells]) rfl rfl (by decide) (by decide) fun w2 H6 hS6 => ?_
 simp only [RT] at hS6
 simp (disch := omega) only [↓RA, RZ, simprocAttr, hn, b1I (hS6.rd 3 rfl).cells]
 refine aC (zL o (ho.keep hS6) ⟨[3], 0, 0⟩ _ ⟨hS6.slo 3 rfl (fun _ => rfl), by decide, by decide, by decide, by decide⟩ f3 _ _ f4) ?_
 rintro r H7 ⟨nv, gv, rfl, -, hT3⟩
 have hS7 := hS6.trans hT3
 simp only [RT] at hS7
 simp (disch := omega) only [↓RA, RZ, simprocAttr, hn]
 refine hS7.eNew 3 [(.slice none 0 0), (.int .u64 0), (.int .u64 0)] rfl rfl rfl eB fun A2 H8 hS8 => ?_
 simp only [RT] at hS8
 simp (disch := omega) only [↓RA, RB, simprocAttr, hn]
 refine hS8.eStore 6 rfl [nv, (.int .u64 0), (.int .u64 0)] rfl (by simp [OC, (hS8.rd 4 rfl).cells.2.1]) eB (by simp) fun H9 hS9 => ?_
 simp only [RT] at hS9
 simp (disch := omega) only [↓RA, RZ, simprocAttr, hn, hS9.ldA 0 rfl]
 refine hS9.eSlice [(.int .u64 0)] a5e b2h rfl rfl (by simp [Value.cells]) rfl rfl (by decide) (by decide) fun w3 H10 hS10 => ?_
 simp only [RT] at hS10
 simp (disch := omega) only [↓RA, RZ, simprocAttr, hn, b0S (hS10.rd 7 rfl).cells]
 have hS2 := hS10
 refine aC (a5L o (ho.keep hS10) ⟨[0], 1, 0⟩ _ ⟨hS10.slo 7 rfl (fun _ => rfl), by decide, by decide, by decide, by decide⟩) ?_
 rintro r H11 ⟨iv, rfl, hix, hT4⟩
 have hS11 := hS10.trans hT4
 simp only [RT] at hS11
 rw [if_pos f5, f6] at hix
 have hix2 := hix.step (hS2.keptNew (H' := H11))
 obtain ⟨X, hBX, hS12⟩ := hS11.rebaseE (os := [⟨ptr A1 0 4, 0, _⟩, ⟨w1, 1, _⟩, ⟨lv, 2, _⟩, ⟨w2, 1, _⟩, ⟨nv, 1, _⟩, ⟨gv, 3, _⟩, ⟨ptr A2 0 3, 0, _⟩, ⟨w3, 1, _⟩])
 rw [f5]
 have hz : ∀ z ∈ [(39 : Int), 40], isN z := by
  intro z hz
  simp only [List.mem_cons, List.not_mem_nil, or_false] at hz
  rcases hz with rfl | rfl <;> exact ⟨by decide, by decide⟩
 have hL1 : ((([bB [39, 40]] : List Nt).length : Nat) : Int) = 1 := rfl
 have hL2 : ((([1] : List Nat).length : Nat) : Int) = 1 := rfl
 have hL3 : ((([nH 0 1] : List Ctl).length : Nat) : Int) = 1 := rfl
 have hL4 : ((([nJ 0] : List Ctl).length : Nat) : Int) = 1 := rfl
 have hN1 : aD ([bB [39, 40]] : List Nt) 0 = bB [39, 40] := rfl
 have hN2 : aD ([1] : List Nat) 0 = 1 := rfl
 have hN3 : aD ([nH 0 1] : List Ctl) 0 = ⟨1, 0, 1⟩ := rfl
 have hN4 : aD ([nJ 0] : List Ctl) 0 = ⟨2, 0, 0⟩ := rfl
 simp (disch := omega) only [↓RA, RB, simprocAttr, hn, eq_self]
 refine Wp.drwT cA [(10, 12), (10, 13)] (by kernel_rfl) (by kernel_rfl) ?_
 simp (disch := omega) only [↓RA, RZ, simprocAttr, hn, (hS12.slo 2 rfl (fun _ => rfl)).len, eq_self]
 simp (disch := omega) only [↓RA, RZ, simprocAttr, hn, (hS12.slo 2 rfl (fun _ => rfl)).idx, (hS12.slo 2 rfl (fun _ => rfl)).ldA, ntc, hN1, eq_self]
 refine hS12.eSlice [I 39, I 40] a1P a3z rfl rfl (by simp [Value.cells]) rfl rfl (by decide) (by decide) fun w4 H12 hS13 => ?_
 simp only [RT] at hS13
 simp (disch := omega) only [↓RA, RZ, simprocAttr, hn, eq_self]
 have hF1 := hS13
 refine aC (b5W [39, 40] hz _ (hS13.slo 8 rfl (fun _ => rfl)) (by decide)) ?_
 rintro r H13 ⟨rfl, hT5⟩
 have hS14 := hS13.trans hT5
 simp only [RT] at hS14
 have hiy := hix2.step (hS14.kept hBX)
 simp (disch := omega) only [↓RA, RZ, simprocAttr, hn, eq_self, and_self]
 simp (disch := omega) only [↓RA, RZ, simprocAttr, hn, hS14.ld 6 rfl, (hS14.slo 4 rfl (fun _ => rfl)).len, eq_self]
 simp (disch := omega) only [↓RA, RZ, simprocAttr, hn, (hS14.slo 4 rfl (fun _ => rfl)).idx, (hS14.slo 4 rfl (fun _ => rfl)).ld, one, u64, hN2, eq_self]
 simp (disch := omega) only [↓RA, RZ, simprocAttr, hn, (hS14.slo 5 rfl (fun _ => rfl)).len, eq_self]
 simp (disch := omega) only [↓RA, RZ, simprocAttr, hn, (hS14.slo 5 rfl (fun _ => rfl)).idx, (hS14.slo 5 rfl (fun _ => rfl)).ldA, Ctl.cells, yP, hN3, eq_self, and_self]
 simp (disch := omega) only [↓RA, RZ, simprocAttr, hn, hiy.1.len, eq_self]
 simp (disch := omega) only [↓RA, RZ, simprocAttr, hn, hiy.1.idx, hiy.1.fld, hiy.1.ld, Ctl.cells, ntc, (hS13.slo 2 rfl (fun _ => rfl)).ldA, (hS14.slo 2 rfl (fun _ => rfl)).ldA, c3l, hN1, hN4, eq_self, and_self]
 exact hS0.trans (hS11.unbaseE hBX hS14).forget
end Go.Ds
namespace Go.Ds
open Go.Proofs
set_option maxRecDepth 10000
theorem uO (x i : Nat) (hx : x < 18446744073709551616) (hi : i < 64) (hb : x.testBit i = true) : pc (fP x i) + 1 = pc x := by
 have hnd : (fB x).Nodup := List.nodup_range.sublist List.filter_sublist
 have e : fB (fP x i) = (fB x).erase i := by
  rw [hnd.erase_eq_filter]
  unfold fB
  rw [List.filter_filter]
  refine List.filter_congr fun j _ => ?_
  rw [a2o x i j hx hi, Bool.and_comm]
  rfl
 have hm : i ∈ fB x := List.mem_filter.2 ⟨List.mem_range.2 hi, hb⟩
 unfold pc
 rw [e, List.length_erase_of_mem hm]
 have := List.length_pos_of_mem hm
 omega
theorem a1p : ∀ (l : List Nat) (d y : Nat), d < l.length → y + 1 = aD l d → (l.set d y).sum + 1 = l.sum
 | [], d, y, h, _ => by simp at h
 | a :: l, 0, y, _, hy => by
   have : aD (a :: l) 0 = a := rfl
   rw [this] at hy
   simp only [List.set_cons_zero, List.sum_cons]
   omega
 | a :: l, d + 1, y, h, hy => by
   have h1 : aD (a :: l) (d + 1) = aD l d := rfl
   rw [h1] at hy
   have := a1p l d y (by simpa using h) hy
   simp only [List.set_cons_succ, List.sum_cons]
   omega
theorem b1m {g : Reg} (hg : g.Ok) {c : Ctl} (hc : c ∈ dD g) : mu (bU g c) + 1 = mu g := by
 obtain ⟨_, hg2, hg3, hg4⟩ := hg
 unfold dD at hc
 have hb : ∀ (x i : Nat), i ∈ fB x → i < 64 ∧ x.testBit i = true := fun x i hi => by
  unfold fB at hi
  exact ⟨List.mem_range.1 (List.mem_filter.1 hi).1, (List.mem_filter.1 hi).2⟩
 rcases List.mem_append.1 hc with hc | hc
 ·rcases List.mem_append.1 hc with hc | hc
  ·obtain ⟨d, hd, hc⟩ := List.mem_flatMap.1 hc
   obtain ⟨i, hi, rfl⟩ := List.mem_map.1 hc
   have hd := List.mem_range.1 hd
   obtain ⟨hi, hbit⟩ := hb _ _ hi
   have e : bU g (nH d i) = { g with stops := g.stops.set d (fP (aD g.stops d) i) } := rfl
   rw [e]
   have hp := uO _ i (hg2 _ (aG hd)) hi hbit
   have := a1p (g.stops.map pc) d (pc (fP (aD g.stops d) i)) (by simpa using hd) (by rw [iN _ hd]; exact hp)
   unfold mu
   simp only [List.map_set]
   omega
  ·obtain ⟨i, hi, rfl⟩ := List.mem_map.1 hc
   obtain ⟨hi, hbit⟩ := hb _ _ hi
   have e : bU g (nJ i) = { g with cpl := fP g.cpl i } := rfl
   rw [e]
   have := uO _ i hg3 hi hbit
   unfold mu
   simp only
   omega
 ·obtain ⟨i, hi, rfl⟩ := List.mem_map.1 hc
  obtain ⟨hi, hbit⟩ := hb _ _ hi
  have e : bU g (xH i) = { g with off := fP g.off i } := rfl
  rw [e]
  have := uO _ i hg4 hi hbit
  unfold mu
  simp only
  omega
theorem a9l (l : List Nat) : ((List.range l.length).flatMap fun d => (fB (aD l d)).map (nH d)).length = (l.map pc).sum := by
 have h : ∀ k, k ≤ l.length → ((List.range k).flatMap fun d => (fB (aD l d)).map (nH d)).length = ((l.take k).map pc).sum := by
  intro k
  induction k with
  | zero => intro _; simp
  | succ k ih =>
    intro hk
    rw [List.range_succ, List.flatMap_append, List.length_append, ih (by omega), List.flatMap_cons, List.flatMap_nil, List.append_nil, List.length_map, List.take_add_one, List.getElem?_eq_getElem (by omega), Option.toList_some, List.map_append, List.sum_append, bX _ k (by omega)]
    simp [pc]
 have := h l.length (Nat.le_refl _)
 rwa [List.take_length] at this
theorem zI (g : Reg) : (dD g).length = mu g := by
 unfold dD mu
 rw [List.length_append, List.length_append, a9l, List.length_map, List.length_map]
 rfl
theorem b3D (x : Nat) (i : Int) (hx : x < 18446744073709551616) : fP x i ≤ x := by
 have hx' : x < 2 ^ 64 := by simpa using hx
 unfold fP
 rw [BitVec.toNat_and, BitVec.toNat_ofNat, Nat.mod_eq_of_lt hx']
 exact Nat.and_le_left
theorem a0t {x n : Nat} (i : Int) (hx : x < 18446744073709551616) (h : x >>> n = 0) : fP x i >>> n = 0 := by
 rw [Nat.shiftRight_eq_div_pow] at *
 have := Nat.div_le_div_right (c := 2 ^ n) (b3D x i hx)
 exact Nat.le_zero.1 (h ▸ this)
theorem zR {o : Org} {rg : Reg} (h1 : organE o = 0) (h2 : rg.stops.length = o.dvs.length) (h3 : ∀ j, j < o.dvs.length → aD rg.stops j >>> (aD o.dvs j).stops.length = 0) (h4 : rg.cpl >>> o.cpls.length = 0) (h5 : rg.off >>> o.dvs.length = 0) : cX o rg = 0 := by
 unfold cX
 rw [if_neg (by omega), if_neg (by omega), if_neg (by rintro ⟨j, hj, h⟩; exact h (h3 j hj)), if_neg (by omega)]
theorem a6Y {o : Org} {rg : Reg} (hg : rg.Ok) (h : cX o rg = 0) (c : Ctl) : cX o (bU rg c) = 0 := by
 obtain ⟨_, hg2, hg3, hg4⟩ := hg
 obtain ⟨h1, h2, h3⟩ := zS h
 obtain ⟨k1, k2⟩ := eN h
 refine zR k1 ((qS rg c).trans k2) (fun j hj => ?_) ?_ ?_
 ·unfold bU
  split
  ·by_cases e : c.dv.toNat = j
   ·subst e
    rw [show aD (rg.stops.set c.dv.toNat (fP (aD rg.stops c.dv.toNat) c.ix)) c.dv.toNat = fP (aD rg.stops c.dv.toNat) c.ix from by rw [bX _ _ (by simp; omega)]; simp]
    exact a0t _ (hg2 _ (aG (by omega))) (h1 _ hj)
   ·rw [show aD (rg.stops.set c.dv.toNat (fP (aD rg.stops c.dv.toNat) c.ix)) j = aD rg.stops j from by rw [bX _ j (by simp; omega), bX rg.stops j (by omega)]; simp [List.getElem_set_ne e]]
    exact h1 j hj
  ·split
   ·exact h1 j hj
   ·exact h1 j hj
 ·unfold bU
  split
  ·exact h2
  ·split
   ·exact a0t _ hg3 h2
   ·exact h2
 ·unfold bU
  split
  ·exact h3
  ·split
   ·exact h3
   ·exact a0t _ hg4 h3
theorem pA (o : Org) : ∀ (n : Nat) (g : Reg) (l : List Ctl), g.Ok → cX o g = 0 → mu g < n →
 dN o (cT o n g l).1 = [] ∧ dT o (cT o n g l).1 = dT o g ∧ cX o (cT o n g l).1 = 0 ∧ mu (cT o n g l).1 + (cT o n g l).2.length = mu g + l.length
 | 0, _, _, _, _, h => absurd h (Nat.not_lt_zero _)
 | n + 1, g, l, hg, h0, hm => by
   rw [cT]
   split
   ·rename_i h
    exact ⟨List.eq_nil_of_length_eq_zero h, rfl, h0, rfl⟩
   ·rename_i h
    have hcm := aG (xs := dN o g) (j := (dN o g).length - 1) (by omega)
    generalize aD (dN o g) ((dN o g).length - 1) = c at hcm
    have hc := rY hcm
    have hp : dT o (bU g c) = dT o g := by
     unfold dN at hcm
     simpa using (List.mem_filter.1 hcm).2
    have hlt := b1m hg hc
    obtain ⟨r1, r2, r3, r4⟩ := pA o n (bU g c) (l ++ [c]) (mM hg c) (a6Y hg h0 c) (by omega)
    refine ⟨r1, r2.trans hp, r3, ?_⟩
    rw [r4, List.length_append, List.length_singleton]
    omega
end Go.Ds
namespace Go.Ds
open Go.Proofs
variable {H : Heap}
set_option maxRecDepth 10000
set_option maxHeartbeats 1000000
end Go.Ds
namespace Go.Ds
open Go.Proofs
set_option maxRecDepth 10000
theorem b4w (x : Nt) (z : Int) : unF x (bB [z]) = gJ x z := by
 unfold unF bB gJ
 rw [List.foldl_cons, List.foldl_nil]
 split <;> simp
theorem b2p {α : Type} [Inhabited α] (l : List α) (i j : Nat) (x : α) (hi : i < l.length) : aD (l.set i x) j = if i = j then x else aD l j := by
 unfold aD
 rw [List.getD_eq_getElem?_getD, List.getD_eq_getElem?_getD, List.getElem?_set, if_pos hi]
 split
 ·rfl
 ·rfl
theorem a2E (o : Org) (rg : Reg) : ∀ (d : List Ct) (acc : List Nt) (i : Nat), (∀ c ∈ d, ∃ (j : Nat) (z : Int), c = ((j : Int), z) ∧ j < acc.length) →
 aD (d.foldl (oN o rg) acc) i = ((d.filter fun c => decide (c.1 = (i : Int)) && decide ((nW o rg c).length = 0)).map (·.2)).foldl gJ (aD acc i)
 | [], _, _, _ => rfl
 | c :: d, acc, i, h => by
   obtain ⟨j, z, rfl, hj⟩ := h c (List.mem_cons_self ..)
   have hl : (oN o rg acc ((j : Int), z)).length = acc.length := by
    unfold oN
    split
    ·rw [List.length_set]
    ·rfl
   rw [List.foldl_cons, a2E o rg d _ i (fun c hc => by rw [hl]; exact h c (List.mem_cons_of_mem _ hc))]
   have e : aD (oN o rg acc ((j : Int), z)) i = if (j = i ∧ (nW o rg ((j : Int), z)).length = 0) then gJ (aD acc i) z else aD acc i := by
    unfold oN
    by_cases h1 : (nW o rg ((j : Int), z)).length = 0
    ·rw [if_pos h1, show ((j : Int), z).1.toNat = j from rfl, b2p _ _ _ _ hj, b4w]
     by_cases h2 : j = i
     ·rw [if_pos h2, if_pos ⟨h2, h1⟩, h2]
     ·rw [if_neg h2, if_neg fun h => h2 h.1]
    ·rw [if_neg h1, if_neg fun h => h1 h.2]
   rw [e]
   by_cases h1 : j = i ∧ (nW o rg ((j : Int), z)).length = 0
   ·rw [if_pos h1, List.filter_cons_of_pos (by rw [decide_eq_true h1.2, Bool.and_true, decide_eq_true_eq]; show (j : Int) = i; rw [h1.1]), List.map_cons, List.foldl_cons]
   ·rw [if_neg h1, List.filter_cons_of_neg (by
     simp only [Bool.and_eq_true, decide_eq_true_eq]
     intro h
     exact h1 ⟨by omega, h.2⟩)]
theorem rD {o : Org} {i : Nat} {c : Ct} (h : c ∈ gD o i) : c.1 = (i : Int) := by
 unfold gD at h
 obtain ⟨k, _, rfl⟩ := List.mem_map.1 h
 rfl
theorem a1R (o : Org) (p : Ct → Bool) (i : Nat) : ∀ m, ((List.range m).flatMap (gD o)).filter (fun c => decide (c.1 = (i : Int)) && p c) = if i < m then (gD o i).filter p else []
 | 0 => by simp
 | m + 1 => by
   rw [List.range_succ, List.flatMap_append, List.filter_append, a1R o p i m, List.flatMap_cons, List.flatMap_nil, List.append_nil]
   by_cases h : i = m
   ·subst h
    rw [if_neg (by omega), if_pos (by omega), List.nil_append]
    refine List.filter_congr fun c hc => ?_
    rw [rD hc]
    simp
   ·have e : (gD o m).filter (fun c => decide (c.1 = (i : Int)) && p c) = [] := by
     rw [List.filter_eq_nil_iff]
     intro c hc
     rw [rD hc]
     simp only [Bool.and_eq_true, decide_eq_true_eq]
     intro hh
     exact h (by omega)
    rw [e, List.append_nil]
    by_cases hm : i < m
    ·rw [if_pos hm, if_pos (by omega)]
    ·rw [if_neg hm, if_neg (by omega)]
def b6a (o : Org) (rg : Reg) (i : Nat) : List Int := ((gD o i).filter fun c => decide ((nW o rg c).length = 0)).map (·.2)
theorem a9v {o : Org} {c : Ct} (h : c ∈ cC o) : ∃ (j : Nat) (z : Int), c = ((j : Int), z) ∧ j < o.dvs.length := by
 unfold cC at h
 obtain ⟨j, hj, hc⟩ := List.mem_flatMap.1 h
 refine ⟨j, c.2, ?_, List.mem_range.1 hj⟩
 rw [← rD hc]
theorem b0s (o : Org) (rg : Reg) {i : Nat} (hi : i < o.dvs.length) : aD (eX o rg (cC o)) i = bB (b6a o rg i) := by
 unfold eX
 rw [a2E o rg _ _ i (fun c hc => by rw [List.length_replicate]; exact a9v hc)]
 unfold cC
 rw [a1R o (fun c => decide ((nW o rg c).length = 0)) i, if_pos hi]
 have e : aD (List.replicate o.dvs.length ((0, 0) : Nt)) i = (0, 0) := by
  rw [bX _ i (by simpa using hi), List.getElem_replicate]
 rw [e]
 rfl
theorem a1w (o : Org) (rg : Reg) (d : List Ct) : (eX o rg d).length = o.dvs.length := by
 unfold eX
 rw [a0J, List.length_replicate]
def iZ (rg : Reg) : Reg := ⟨List.replicate rg.stops.length 0, rg.cpl, rg.off⟩
theorem a2B (n i : Nat) : aD (List.replicate n 0) i = 0 := by
 by_cases h : i < n
 ·rw [bX _ i (by simpa using h), List.getElem_replicate]
 ·unfold aD
  rw [List.getD_eq_getElem?_getD, List.getElem?_eq_none (by simpa using h)]
  rfl
theorem b0N (o : Org) (rg : Reg) (c : Ct) : nW o (iZ rg) c = [] := by
 unfold nW
 split
 ·unfold a0Z a0U
  have e : ∀ l : List Ct, l.flatMap (jA o (iZ rg)) = [] := by
   intro l
   rw [List.flatMap_eq_nil_iff]
   intro c _
   unfold jA
   rw [List.flatMap_eq_nil_iff]
   intro i _
   have : aD (iZ rg).stops c.1.toNat = 0 := a2B _ _
   rw [this, Nat.zero_testBit]
   rfl
  rw [e]
  simp [oW, dd, sR]
 ·rfl
theorem a3Y {o : Org} {rg : Reg} (h : cX o rg = 0) : cX o (iZ rg) = 0 := by
 obtain ⟨h1, h2, h3⟩ := zS h
 obtain ⟨k1, k2⟩ := eN h
 refine zR k1 (by simpa [iZ] using k2) (fun j _ => ?_) h2 h3
 rw [show aD (iZ rg).stops j = 0 from a2B _ _, Nat.zero_shiftRight]
theorem a8r (o : Org) (rg : Reg) (i : Nat) : b6a o (iZ rg) i = (List.range ((aD o.dvs i).hi - (aD o.dvs i).lo + 1).toNat).map fun (k : Nat) => (aD o.dvs i).lo + (k : Int) := by
 unfold b6a
 rw [List.filter_eq_self.2 fun c _ => by rw [b0N]; rfl]
 unfold gD
 rw [List.map_map]
 rfl
theorem a9m {rg : Reg} (h : rg.Ok) : (iZ rg).Ok := by
 refine ⟨by simpa [iZ] using h.1, fun x hx => ?_, h.2.2.1, h.2.2.2⟩
 have := (List.mem_replicate.1 hx).2
 omega
end Go.Ds
namespace Go.Ds
open Go.Proofs
variable {H : Heap}
set_option maxRecDepth 10000
set_option maxHeartbeats 1000000
theorem zK (o : Org) (ho : o.In H) (rg : Reg) (sv : Value) (hr : rg.In H sv) (h0 : cX o rg = 0) :
 Fn Tryz.prog 44 [.agg #[.string o.name, o.rv, o.dv, o.cv], .agg #[sv, .int .u64 rg.cpl, .int .u64 rg.off]] H fun r H' => ∃ lv, r = .tuple #[lv, I 0] ∧ St Tryz.prog H H' [⟨lv, 3, dH (dD rg)⟩] := by
 simpa only [h0, if_true] using a8V o ho rg sv hr
theorem a9U (o : Org) (ho : o.In H) (rg : Reg) (sv : Value) (hr : rg.In H sv) (h0 : cX o rg = 0) (l : List Ctl) (hi : dN o rg = l) :
 Fn Tryz.prog 38 [.agg #[.string o.name, o.rv, o.dv, o.cv], .agg #[sv, .int .u64 rg.cpl, .int .u64 rg.off]] H fun r H' => ∃ lv, r = .tuple #[lv, I 0] ∧ Slx 3 Ctl.cells H' (fun B => H.length ≤ B) lv l ∧ St Tryz.prog H H' [] := by
 simpa only [h0, if_true, hi] using a5L o ho rg sv hr
theorem a5n (o : Org) (ho : o.In H) (rg : Reg) (sv : Value) (hr : rg.In H sv) (h0 : cX o rg = 0) :
 Fn Tryz.prog 46 [.agg #[.string o.name, o.rv, o.dv, o.cv], .agg #[sv, .int .u64 rg.cpl, .int .u64 rg.off]] H fun r H' => ∃ lv, r = .tuple #[lv, I 0] ∧ St Tryz.prog H H' [⟨lv, 2, (eX o rg (cC o)).flatMap ntc⟩] := by
 simpa only [h0, if_true] using yN o ho rg sv hr
theorem b2v (xs : List Nat) (i : Nat) (h : i < xs.length) : (List.replicate i 0 ++ xs.drop i).set i 0 = List.replicate (i + 1) 0 ++ xs.drop (i + 1) := by
 rw [List.set_append_right _ _ (by simp), List.length_replicate, Nat.sub_self, List.drop_eq_getElem_cons h, List.set_cons_zero, List.replicate_succ', List.append_assoc]
 rfl
theorem b4h (hG : Glob gH H) (hkn : b4T) (p : Pln) (hp : p.In H) (hk : p.Ok) (b : Nat → Nat) (hb : ∀ i, b i < 256) :
 Fn Tryz.prog 8 [.agg #[p.rv, p.dv, p.cv], .agg #[.int .u8 (b 0), .int .u8 (b 1), .int .u8 (b 2), .int .u8 (b 3), .int .u8 (b 4)]] H fun r H' => r = .bool true ∧ St Tryz.prog H H' [] := by
 refine Fn.of_sw Tryz.func8 rfl (by kernel_rfl) fun l hl => ?_
 have hn : l.length = 139 := by rw [hl]; rfl
 have g0 : get l 0 = (.agg #[p.rv, p.dv, p.cv]) := by rw [hl]; rfl
 have g1 : get l 1 = (.agg #[(.int .u8 (b 0)), (.int .u8 (b 1)), (.int .u8 (b 2)), (.int .u8 (b 3)), (.int .u8 (b 4))]) := by rw [hl]; rfl
 clear hl
 simp (disch := omega) only [↓RA, RB, simprocAttr, g0]
 refine (St.refl Tryz.prog H).eNew 3 [p.rv, p.dv, p.cv] rfl rfl (by simp [((St.refl Tryz.prog H).sl hp.1).cells.2.1, ((St.refl Tryz.prog H).sl hp.2.1).cells.2.1, ((St.refl Tryz.prog H).sl hp.2.2.2.1).cells.2.1]) b4W fun A1 H1 hS1 => ?_
 simp only [RT] at hS1
 simp (disch := omega) only [↓RA, RB, simprocAttr, g1]
 refine hS1.eNew 5 [(.int .u8 (b 0)), (.int .u8 (b 1)), (.int .u8 (b 2)), (.int .u8 (b 3)), (.int .u8 (b 4))] rfl rfl rfl b7M fun A2 H2 hS2 => ?_
 simp only [RT] at hS2
 simp (disch := omega) only [↓RA, RZ, simprocAttr]
 refine aC (hkn _) ?_
 rintro r H3 ⟨rfl, hT1⟩
 have hS3 := hS2.trans hT1
 simp only [RT] at hS3
 simp (disch := omega) only [↓RA, RZ, simprocAttr, hn, hS3.ldA 0 rfl]
 refine aC (b2P p (hp.keep hS3)) ?_
 rintro r H4 ⟨rfl, hT2⟩
 have hS4 := hS3.trans hT2
 simp only [RT] at hS4
 simp (disch := omega) only [↓RA, RZ, simprocAttr, hn]
 first | refine aA (fun h1 => ?_) (fun h1 => ?_) | refine aB (fun h1 => ?_) (fun h1 => ?_)
 ·simp (disch := omega) only [↓RA, RZ, simprocAttr]
  refine aC (hkn _) ?_
  rintro r H5 ⟨rfl, hT3⟩
  have hS5 := hS4.trans hT3
  simp only [RT] at hS5
  simp (disch := omega) only [↓RA, RZ, simprocAttr, hn, tR8, h1]
  exact hS5.forget
 have hf : nO p = true := by simpa using h1
 simp (disch := omega) only [↓RA, RZ, simprocAttr, hn, hS4.ldA 0 rfl, h1]
 refine aC (a7v (hS4.gl hG) p (hp.keep hS4) hk hf) ?_
 rintro r H6 ⟨o, rfl, ho, hm, hT4⟩
 have hS6 := hS4.trans hT4
 simp only [RT] at hS6
 have hS0 := hS6
 have hoe := hm.ok.organE
 have hrg := a6M b hoe
 have hf0 := Org.fine hoe
 simp (disch := omega) only [↓RA, RZ, simprocAttr]
 refine (St.refl Tryz.prog H6).eNew 4 [(.string ⟨#[]⟩), (.slice none 0 0), (.slice none 0 0), (.slice none 0 0)] rfl rfl rfl eU fun A3 H7 hS7 => ?_
 simp only [RT] at hS7
 simp (disch := omega) only [↓RA, RB, simprocAttr, hn, h1]
 refine hS7.eStore 0 rfl [(.string o.name), o.rv, o.dv, o.cv] rfl (by simp [OC, (hS7.sl ho.1).cells.2.1, (hS7.sl ho.2.2.1).cells.2.1, (hS7.sl ho.2.2.2.2.1).cells.2.1]) eU (by simp) fun H8 hS8 => ?_
 simp only [RT] at hS8
 simp (disch := omega) only [↓RA, RZ, simprocAttr, hn, hS8.ldA 0 rfl, ((hS0.var 1 rfl).keep hS8.keep).ldA, h1]
 obtain ⟨k1, k2, k3⟩ := hm.small hf
 have hok := a7Z (o := o) hb k2
 have hsl : (jR o b).stops.length ≤ 60 := by
  unfold jR
  simp only [List.length_map, List.length_range]
  omega
 have hD := a5k o (ho.keep hS8) k1 k2 k3 b hb
 generalize jR o b = rg at hrg hok hsl hD
 refine aC (hD) ?_
 rintro r H9 ⟨sv, rfl, hT5⟩
 have hS9 := hS8.trans hT5
 simp only [RT] at hS9
 simp (disch := omega) only [↓RA, RZ, simprocAttr]
 refine hS9.eNew 3 [(.slice none 0 0), (.int .u64 0), (.int .u64 0)] rfl rfl rfl eB fun A4 H10 hS10 => ?_
 simp only [RT] at hS10
 simp (disch := omega) only [↓RA, RB, simprocAttr, hn, h1]
 refine hS10.eStore 2 rfl [sv, (.int .u64 rg.cpl), (.int .u64 rg.off)] rfl (by simp [OC, (hS10.rd 1 rfl).cells.2.1]) eB (by simp) fun H11 hS11 => ?_
 simp only [RT] at hS11
 simp (disch := omega) only [↓RA, RZ, simprocAttr, hn, hS11.ldA 0 rfl, hS11.ldA 2 rfl, h1]
 obtain ⟨z1, z2, z3, z4⟩ := pA o (mu rg + 1) rg [] hok hrg (by omega)
 obtain ⟨⟨g, gone⟩, hsf⟩ : ∃ z, z = cT o (mu rg + 1) rg [] := ⟨_, rfl⟩
 rw [← hsf] at z1 z2 z3 z4
 simp only [List.length_nil, Nat.add_zero] at z1 z2 z3 z4
 rw [← zI, ← zI] at z4
 refine aC (zL o (ho.keep hS11) rg sv ⟨hS11.slo 1 rfl (fun _ => rfl), hok⟩ hrg g gone hsf.symm) ?_
 rintro r H12 ⟨nv, lv, rfl, hgk, hT6⟩
 have hS12 := hS11.trans hT6
 simp only [RT] at hS12
 have hdn : rg.stops.length = o.dvs.length := (eN hrg).2
 have hd1 := hf0.dpos
 have hd2 := hf0.dlen
 have hdl := oB (rg := rg) (by omega)
 simp (disch := omega) only [↓RA, RZ, simprocAttr, hn, h1]
 refine hS12.eNew 3 [(.slice none 0 0), (.int .u64 0), (.int .u64 0)] rfl rfl rfl eB fun A5 H13 hS13 => ?_
 simp only [RT] at hS13
 simp (disch := omega) only [↓RA, RB, simprocAttr, hn, h1]
 refine hS13.eStore 5 rfl [nv, (.int .u64 g.cpl), (.int .u64 g.off)] rfl (by simp [OC, (hS13.rd 3 rfl).cells.2.1]) eB (by simp) fun H14 hS14 => ?_
 simp only [RT] at hS14
 simp (disch := omega) only [↓RA, RZ, simprocAttr, hn, hS14.ldA 0 rfl, hS14.ldA 5 rfl, h1]
 refine aC (a9U o (ho.keep hS14) g nv ⟨hS14.slo 3 rfl (fun _ => rfl), hgk.1⟩ z3 [] z1) ?_
 rintro r H15 ⟨iv, rfl, hlx, hT7⟩
 have hS15 := hS14.trans hT7
 simp only [RT] at hS15
 simp (disch := omega) only [↓RA, RZ, simprocAttr, hn, hS15.ldA 0 rfl, hS15.ldA 2 rfl, h1]
 refine aC (zK o (ho.keep hS15) rg sv ⟨hS15.slo 1 rfl (fun _ => rfl), hok⟩ hrg) ?_
 rintro r H16 ⟨av, rfl, hT8⟩
 have hS16 := hS15.trans hT8
 simp only [RT] at hS16
 simp (disch := omega) only [↓RA, RZ, simprocAttr, hn, hS16.ldA 0 rfl, hS16.ldA 5 rfl, h1]
 refine aC (zK o (ho.keep hS16) g nv ⟨hS16.slo 3 rfl (fun _ => rfl), hgk.1⟩ z3) ?_
 rintro r H17 ⟨bv, rfl, hT9⟩
 have hS17 := hS16.trans hT9
 simp only [RT] at hS17
 have zl : ((dD g).length : Int) + gone.length = (dD rg).length := by omega
 have zi : (([] : List Ctl).length : Int) = 0 := rfl
 have hiy := Sl.keep (Sl.keep hlx.1 hT8.keep) hT9.keep
 simp (disch := omega) only [↓RA, RZ, simprocAttr, hn, hiy.len, h1]
 simp (disch := omega) only [↓RA, RZ, simprocAttr, hn, (hS17.slo 6 rfl (fun _ => rfl)).len, (hS17.slo 7 rfl (fun _ => rfl)).len, (hS17.slo 4 rfl (fun _ => rfl)).len, h1, zl]
 simp (disch := omega) only [↓RA, RZ, simprocAttr, hn, hS17.ldA 0 rfl, hS17.ldA 2 rfl, hS17.ldA 5 rfl, h1]
 refine aC (a3T o (ho.keep hS17) hf0 rg sv ⟨hS17.slo 1 rfl (fun _ => rfl), hok⟩ g nv ⟨hS17.slo 3 rfl (fun _ => rfl), hgk.1⟩) ?_
 rintro r H18 ⟨rfl, hT10⟩
 have hS18 := hS17.trans hT10
 simp only [RT] at hS18
 rw [decide_eq_true z2.symm]
 simp (disch := omega) only [↓RA, RZ, simprocAttr, hn, h1]
 refine Wp.loopS (fun n l H' => l.length = 139 ∧ get l 4 = (.bool false) ∧ get l 5 = (ptr A3 0 4) ∧ get l 6 = (ptr A4 0 3) ∧ ∃ (i : Nat), (n + i = rg.stops.length) ∧ get l 16 = I i ∧ St Tryz.prog H6 H' [⟨ptr A3 0 4, 0, [(.string o.name), o.rv, o.dv, o.cv]⟩, ⟨sv, 1, (List.replicate i 0 ++ rg.stops.drop i).flatMap (one u64)⟩, ⟨ptr A4 0 3, 0, [sv, (.int .u64 rg.cpl), (.int .u64 rg.off)]⟩, ⟨nv, 1, g.stops.flatMap (one u64)⟩, ⟨lv, 3, dH gone⟩, ⟨ptr A5 0 3, 0, [nv, (.int .u64 g.cpl), (.int .u64 g.off)]⟩, ⟨av, 3, dH (dD rg)⟩, ⟨bv, 3, dH (dD g)⟩]) rg.stops.length ?_ ?_
 ·simp (disch := omega) only [RB, RC, simprocAttr, hn]
  exact ⟨0, by omega, rfl, hS18⟩
 rintro n l H19 ⟨hn, g4, g5, g6, i, hi, g16, hS19⟩
 have hln : (List.replicate i 0 ++ rg.stops.drop i).length = rg.stops.length := by
  rw [List.length_append, List.length_replicate, List.length_drop]
  omega
 simp (disch := omega) only [↓RA, RZ, simprocAttr, hn, g6, g16, hS19.ld 2 rfl, (hS19.slo 1 rfl (fun _ => rfl)).len, hln]
 first | refine aA (fun q1 => ?_) (fun q1 => ?_) | refine aB (fun q1 => ?_) (fun q1 => ?_)
 ·skip
  simp (disch := omega) only [↓RA, RZ, simprocAttr, hn, g6, g16, hS19.ld 2 rfl, (hS19.slo 1 rfl (fun _ => rfl)).idx, q1]
  refine hS19.eStoreE 1 rfl [(.int .u64 0)] rfl rfl wU (by simp) (by rw [jU, List.length_map]; simp; omega) fun H20 hS20 => ?_
  simp only [RT] at hS20
  simp (disch := omega) only [↓RA, RZ, simprocAttr, hn, g4, g5, g6, g16, q1]
  have e2 : (List.replicate (i + 1) 0 ++ rg.stops.drop (i + 1)).flatMap (one u64) = ((List.replicate i 0 ++ rg.stops.drop i).flatMap (one u64)).set i (.int .u64 0) := by
   rw [← b2v _ _ (by omega), jU, jU, List.map_set]
   rfl
  refine ⟨n - 1, by omega, i + 1, by omega, by simp, ?_⟩
  rw [e2]
  exact hS20
 have hii : i = rg.stops.length := by omega
 have ez : List.replicate i 0 ++ rg.stops.drop i = (iZ rg).stops := by
  rw [hii, List.drop_length, List.append_nil]
  rfl
 simp (disch := omega) only [↓RA, RZ, simprocAttr, hn, g5, g6, hS19.ldA 0 rfl, hS19.ldA 2 rfl, q1]
 rw [ez] at hS19
 have hsf := a1w o (iZ rg) (cC o)
 refine aC (a5n o (ho.keep hS19) (iZ rg) sv ⟨hS19.slo 1 rfl (fun _ => rfl), a9m hok⟩ (a3Y hrg)) ?_
 rintro r H21 ⟨kv, rfl, hT11⟩
 have hS21 := hS19.trans hT11
 simp only [RT] at hS21
 simp (disch := omega) only [↓RA, RZ, simprocAttr, hn, g5, (hS21.slo 8 rfl (fun _ => rfl)).len, hS21.ld 0 rfl, (hS21.sl ho.2.2.1).len, q1, hsf]
 refine Wp.loopS (fun n l H' => l.length = 139 ∧ get l 5 = (ptr A3 0 4) ∧ get l 17 = kv ∧ ∃ (j : Nat), (n + j = o.dvs.length) ∧ get l 19 = I j ∧ St Tryz.prog H6 H' [⟨ptr A3 0 4, 0, [(.string o.name), o.rv, o.dv, o.cv]⟩, ⟨sv, 1, (iZ rg).stops.flatMap (one u64)⟩, ⟨ptr A4 0 3, 0, [sv, (.int .u64 rg.cpl), (.int .u64 rg.off)]⟩, ⟨nv, 1, g.stops.flatMap (one u64)⟩, ⟨lv, 3, dH gone⟩, ⟨ptr A5 0 3, 0, [nv, (.int .u64 g.cpl), (.int .u64 g.off)]⟩, ⟨av, 3, dH (dD rg)⟩, ⟨bv, 3, dH (dD g)⟩, ⟨kv, 2, (eX o (iZ rg) (cC o)).flatMap ntc⟩]) o.dvs.length ?_ ?_
 ·simp (disch := omega) only [RB, RC, simprocAttr, hn, g5]
  exact ⟨0, by omega, rfl, hS21⟩
 rintro n l H22 ⟨hn, g5, g17, j, hj, g19, hS22⟩
 simp (disch := omega) only [↓RA, RZ, simprocAttr, hn, g17, g19, (hS22.slo 8 rfl (fun _ => rfl)).len, hsf]
 first | refine aA (fun q2 => ?_) (fun q2 => ?_) | refine aB (fun q2 => ?_) (fun q2 => ?_)
 ·have hjl : j < o.dvs.length := by omega
  have hsn := b0s o (iZ rg) hjl
  rw [a8r] at hsn
  have hky := hf0.keys j hjl
  simp (disch := omega) only [↓RA, RC, simprocAttr, q2]
  refine Wp.drwT cA [(3, 11)] (by kernel_rfl) (by kernel_rfl) ?_
  simp (disch := omega) only [↓RA, RZ, simprocAttr, hn, g5, g17, g19, (hS22.slo 8 rfl (fun _ => rfl)).idx, (hS22.slo 8 rfl (fun _ => rfl)).ldA, ntc, hS22.ld 0 rfl, (hS22.sl ho.2.2.1).idx, (hS22.sl ho.2.2.1).fld, (hS22.sl ho.2.2.1).ldP 2, Dvn.cells, hsn]
  refine aC (a7c (aD o.dvs j).lo (aD o.dvs j).hi hky.1 hky.2.2) ?_
  rintro r H23 ⟨rfl, hT12⟩
  have hS23 := hS22.trans hT12
  simp only [RT] at hS23
  simp (disch := omega) only [↓RA, RZ, simprocAttr, hn, g5, g17, g19, ntc, (hS23.slo 8 rfl (fun _ => rfl)).ldA, hsn]
  exact ⟨n - 1, by omega, j + 1, by omega, by simp, hS23.pick [0, 1, 2, 3, 4, 5, 6, 7, 8] (by decide) rfl⟩
 simp (disch := omega) only [↓RA, RZ, simprocAttr, hn, tR8, q2]
 exact hS0.forget.trans hS22.forget
end Go.Ds
