/-
  A part of the proof of SilenceApart.
-/
import Derived.Test.YtmhekfhdnednjaaGreatDoorVJ
import Derived.Test.YtmhekfhdnednjaaGreatDoorVE
import Derived.Test.YtmhekfhdnednjaaGreatDoorVD
import Derived.Test.YtmhekfhdnednjaaGreatDoorVB
import Derived.Test.YtmhekfhdnednjaaGreatDoorVC
set_option linter.unusedVariables false
set_option linter.unusedSimpArgs false
set_option linter.defProp false
set_option linter.unusedSectionVars false
namespace Go.Ds
open Go.Proofs Go.Proofs.Tryz Go.ChangeShapes Go.WideShapes Go.RowKit Go.Deep
set_option maxRecDepth 10000
theorem c7f : prog.cellsOf 56 = 1 := by kernel_rfl
theorem c6k : prog.cellsOf 57 = 3 := by kernel_rfl
section
variable {H0 : Type} {enc : TypeId × Value → H0} {w : World} {base n : Nat} {spare : Nat → Bool} {lB : Bool} {x : DataW H0 × List MemPlace}
theorem b0c {v : Value} (h : DataW.trod enc prog w base spare lB n 56 [v] = some x) : ∃ m : Nat, v = .int .u16 m ∧ m < 65536 := by
 obtain ⟨m, hv, _, hw⟩ := DataW.trod_int underlying56 h
 have hv : v = .int .u16 m := by simpa using hv
 have hm : 0 ≤ m ∧ m ≤ 65535 := by simpa [Lit.wf, IntKind.min, IntKind.max, IntKind.signed, IntKind.bits] using hw
 exact ⟨m.toNat, by rw [hv, fp hm.1], by omega⟩
theorem c3k {cs : List Value} (h : DataW.trod enc prog w base spare lB n 57 cs = some x) : ∃ b : Nat → Nat, (∀ i, b i < 65536) ∧ cs = [.int .u16 (b 0), .int .u16 (b 1), .int .u16 (b 2)] := by
 obtain ⟨xs, m, _, _, hl, hxl, hf⟩ := DataW.trod_array underlying57 h
 rw [c6k] at hl
 match cs, hl with
 | [c0, c1, c2], _ =>
   have hy : ∀ i, i < 3 → ∃ y, DataW.trod enc prog w base spare lB m 56 ((([c0, c1, c2] : List Value).drop (i * 1)).take 1) = some y := fun i hi => by
    have := hf i hi
    rw [c7f] at this
    exact ⟨xs[i], by rw [this, dr (by omega)]⟩
   obtain ⟨_, h0⟩ := hy 0 (by decide)
   obtain ⟨_, h1⟩ := hy 1 (by decide)
   obtain ⟨_, h2⟩ := hy 2 (by decide)
   obtain ⟨b0, rfl, k0⟩ := b0c h0
   obtain ⟨b1, rfl, k1⟩ := b0c h1
   obtain ⟨b2, rfl, k2⟩ := b0c h2
   exact ⟨fun i => match i with | 0 => b0 | 1 => b1 | _ => b2, fun i => by
    match i with
    | 0 => exact k0
    | 1 => exact k1
    | _ + 2 => exact k2, rfl⟩
end
section
variable {H0 : Type} {enc : TypeId × Value → H0} {w : World} {base : Nat} {lB : Bool}
theorem c3u {v0 : Value} {d0 : DataW H0} {p0 : List MemPlace} {c0 : Nat} (h0 : DataW.Trod enc prog w base (fun _ => true) lB 57 v0 d0 p0) (hval : Value.okWide prog w .any c0 57 v0) :
 ∃ b : Nat → Nat, (∀ i, b i < 65536) ∧ v0 = .agg #[.int .u16 (b 0), .int .u16 (b 1), .int .u16 (b 2)] := by
 simp only [Value.okWide, underlying57] at hval
 obtain ⟨cs, rfl, _, _⟩ := hval
 obtain ⟨fuel, hf⟩ := h0
 obtain ⟨b, hb, he⟩ := c3k hf
 obtain ⟨l⟩ := cs
 have he : l = _ := he
 exact ⟨b, hb, by rw [he]⟩
end
end Go.Ds
namespace Go.Ds
open Go.Proofs Go.Proofs.Tryz
variable {H : Heap}
set_option maxRecDepth 10000
set_option maxHeartbeats 1000000
def mkN (P : Program) (t : TypeId) : Option (Nat × Nat × List Value) :=
 (iJ P t).bind fun elem => (iF P elem).bind fun size => (nV P elem).bind fun bytes => (iZ P elem).bind fun z => if size != 0 && size != 1 && z.cells.size == size && jD z then some (bytes, size, z.cells.toList) else none
theorem b6n {β : Type} (cel : β → List Value) (x : β) (z : Array Value) (hz : cel x = z.toList) (h0 : 0 < z.size) : ∀ a, (madeCells z (a * z.size)).toList = (List.replicate a x).flatMap cel := by
 have key : ∀ a, (List.range (a * z.size)).map (fun i => z[i % z.size]!) = (List.replicate a x).flatMap cel := by
  intro a
  induction a with
  | zero => simp
  | succ a ih =>
    rw [gO, Nat.add_comm, List.range_add, dy, List.map_map, List.replicate_succ, dF, ← ih, hz]
    congr 1
    ·refine List.ext_getElem (by simp) fun i h1 h2 => ?_
     simp only [List.getElem_map, ia]
     rw [fX (by simpa using h1)]
     simp at h1
     simp [h1]
    ·refine List.map_congr_left fun i _ => ?_
     simp
 intro a
 rw [← key a]
 simp [madeCells]
theorem St.cm {P : Program} {H0 : Base} {H : Heap} {os : List Ob} {β : Type} {cel : β → List Value} {x : β} (hS : St P H0 H os) {t : TypeId} {bytes sz : Nat} {zs : List Value} {K : Value → Heap → Prop} (a : Nat) (ha : mkN P t = some (bytes, sz, zs)) (hz : cel x = zs) (hroom : a * (bytes + 1) ≤ 17592186044416)
 (h : ∀ v H1, St P H0 H1 (os ++ [⟨v, sz, (List.replicate a x).flatMap cel⟩]) → K v H1) : qX P H t (.int .i64 a) (.int .i64 a) K := by
 unfold mkN at ha
 cases he : iJ P t with
 | none => rw [he] at ha; cases ha
 | some elem =>
 rw [he] at ha
 simp only [da] at ha
 cases hsz2 : iF P elem with
 | none => rw [hsz2] at ha; cases ha
 | some sz =>
 rw [hsz2] at ha
 simp only [da] at ha
 cases hby : nV P elem with
 | none => rw [hby] at ha; cases ha
 | some by' =>
 rw [hby] at ha
 simp only [da] at ha
 cases hz2 : iZ P elem with
 | none => rw [hz2] at ha; cases ha
 | some z' =>
 rw [hz2] at ha
 simp only [da] at ha
 split at ha
 case isFalse => cases ha
 rename_i hzs
 simp only [cZ, beq_iff_eq, bne_iff_ne, ne_eq] at hzs
 obtain ⟨⟨⟨hs0, hs1⟩, hz1⟩, hfl⟩ := hzs
 simp only [dE, gU] at ha
 obtain ⟨rfl, rfl, rfl⟩ := ha
 have hm := b6n cel x z'.cells hz (by omega) a
 rw [hz1] at hm
 have hln : ((List.replicate a x).flatMap cel).length = a * sz := by
  rw [← hm]
  simp [madeCells]
 refine ⟨.slice (some ⟨H.length, 0, some ((List.replicate a x).flatMap cel).length⟩) a sz, H.cons (.cells ((List.replicate a x).flatMap cel) elem true ((List.replicate a x).flatMap cel).length 0), ?_, h _ _ (hS.add ?_ ?_ ?_ ?_)⟩
 ·unfold wO
  simp only [he, hsz2, hby, hz2, da]
  rw [if_pos]
  ·rw [if_neg hs1]
   simp only [fV, hm]
   rw [lK]
  ·have : (a : Int) * (by' + 1) ≤ (pC : Int) := by
    have h3 : ((a * (by' + 1) : Nat) : Int) ≤ ((17592186044416 : Nat) : Int) := Int.ofNat_le.2 hroom
    simpa [pC] using h3
   simp [hfl, hz1, this, hs0]
 ·unfold OwnAt
  rw [if_neg hs0]
  exact .inr ⟨_, 0, elem, _, 0, [], a, iQ H _, by simp, rfl, hln, by simp, hsz2⟩
 ·simp [pR]
 ·exact fun B hB => jR _ hB
 ·intro B hB
  simp [kJ] at hB
  omega
abbrev Nt := Nat × Nat
def ntc (x : Nt) : List Value := [.int .u64 x.1, .int .u64 x.2]
def Nt.Ok (x : Nt) : Prop := x.1 < 18446744073709551616 ∧ x.2 < 18446744073709551616
theorem c3R : mkN prog 33 = some (16, 2, ntc (0, 0)) := by kernel_rfl
def oF (x : Nt) (n : Int) : Nt := if n < 64 then (x.1 ||| 2 ^ n.toNat, x.2) else (x.1, x.2 ||| 2 ^ (n - 64).toNat)
theorem a6a (i : Nat) (h : i < 64) : 2 ^ i < 18446744073709551616 := by
 have : 2 ^ i ≤ 2 ^ 63 := fo (by decide) (by omega)
 have e : 2 ^ 63 = 9223372036854775808 := rfl
 omega
theorem a8C {a b : Nat} (ha : a < 18446744073709551616) (hb : b < 18446744073709551616) : a ||| b < 18446744073709551616 := Nat.or_lt_two_pow (n := 64) ha hb
theorem orB (a b : Nat) (ha : a < 18446744073709551616) (hb : b < 18446744073709551616) : IntKind.wrap .u64 ((BitVec.ofInt (IntKind.bits .u64) (a : Int) ||| BitVec.ofInt (IntKind.bits .u64) (b : Int)).toNat : Int) = ((a ||| b : Nat) : Int) := by
 have e : (BitVec.ofInt (IntKind.bits .u64) (a : Int) ||| BitVec.ofInt (IntKind.bits .u64) (b : Int)).toNat = a ||| b := by
  rw [BitVec.toNat_or, uN a ha, uN b hb]
 rw [e]
 have := a8C ha hb
 exact oQ _ (by omega) (by omega)
theorem orN (n i : Nat) (hn : n < 18446744073709551616) (hi : i < 64) : IntKind.wrap .u64 ((BitVec.ofInt (IntKind.bits .u64) (n : Int) ||| BitVec.ofInt (IntKind.bits .u64) (IntKind.wrap .u64 (1 * 2 ^ min i (IntKind.bits .u64)))).toNat : Int) = ((n ||| 2 ^ i : Nat) : Int) := by
 rw [c0V i hi]
 exact orB n (2 ^ i) hn (a6a i hi)
theorem b1P {x : Nt} (hx : Nt.Ok x) {z : Int} (h0 : 0 ≤ z) (h1 : z < 128) : Nt.Ok (oF x z) := by
 unfold oF
 split
 ·exact ⟨a8C hx.1 (a6a _ (by omega)), hx.2⟩
 ·exact ⟨hx.1, a8C hx.2 (a6a _ (by omega))⟩
theorem a3g (x : Nt) (hx : Nt.Ok x) (z : Int) (h0 : 0 ≤ z) (h1 : z < 128) : Fn prog 95 [.agg #[.int .u64 x.1, .int .u64 x.2], I z] H fun r H' => r = .agg #[.int .u64 (oF x z).1, .int .u64 (oF x z).2] ∧ St prog H H' [] := by
 obtain ⟨m, rfl⟩ := gp h0
 refine .aE func95 rfl (by kernel_rfl) (m := 21) rfl fun l hn g0 g1 => ?_
 simp (disch := omega) only [↓RA, RB, simprocAttr, g0]
 refine (sR H).eNew 2 [(.int .u64 x.1), (.int .u64 x.2)] rfl rfl rfl lR fun A1 H1 hS1 => ?_
 simp only [RT] at hS1
 simp (disch := omega) only [↓RA, RZ, simprocAttr]
 refine hS1.eNew 2 [(.int .u64 0), (.int .u64 0)] rfl rfl rfl lR fun A2 H2 hS2 => ?_
 simp only [RT] at hS2
 simp (disch := omega) only [↓RA, RB, simprocAttr, hn, g1]
 refine iC (fun q1 => ?_) (fun q1 => ?_)
 ·have e1 := orN x.1 m hx.1 (by omega)
  have e2 : oF x (m : Int) = (x.1 ||| 2 ^ m, x.2) := by unfold oF; rw [if_pos q1]; rfl
  simp (disch := omega) only [↓RA, RC, simprocAttr, q1]
  refine Wp.drw kE (by kernel_rfl) ?_
  simp (disch := omega) only [↓RA, RZ, simprocAttr, hn, g1, hS2.ld 0 rfl, e1]
  refine hS2.aa 0 rfl [(.int .u64 (x.1 ||| 2 ^ m : Nat))] rfl rfl a5z (by simp) fun H3 hS3 => ?_
  simp only [RT] at hS3
  simp (disch := omega) only [↓RA, RZ, simprocAttr, hn, hS3.ag 0 rfl]
  refine hS3.aa 1 rfl [(.int .u64 (x.1 ||| 2 ^ m : Nat)), (.int .u64 x.2)] rfl rfl lR (by simp) fun H4 hS4 => ?_
  simp only [RT] at hS4
  simp (disch := omega) only [↓RA, RZ, simprocAttr, hn, c5M, hS4.ag 1 rfl]
  rw [e2]
  exact ⟨rfl, hS4.forget⟩
 have e1 := orN x.2 (m - 64) hx.2 (by omega)
 have e3 : (m : Int) - 64 = ((m - 64 : Nat) : Int) := by omega
 have e2 : oF x (m : Int) = (x.1, x.2 ||| 2 ^ (m - 64)) := by unfold oF; rw [if_neg q1, e3]; rfl
 simp (disch := omega) only [↓RA, RC, simprocAttr, q1]
 refine Wp.drw kE (by kernel_rfl) ?_
 simp (disch := omega) only [↓RA, RZ, simprocAttr, hn, g1, hS2.ld 0 rfl, e1, e3]
 refine hS2.aa 0 rfl [(.int .u64 (x.2 ||| 2 ^ (m - 64) : Nat))] rfl rfl a5z (by simp) fun H5 hS5 => ?_
 simp only [RT] at hS5
 simp (disch := omega) only [↓RA, RZ, simprocAttr, hn, hS5.ag 0 rfl]
 refine hS5.aa 1 rfl [(.int .u64 x.1), (.int .u64 (x.2 ||| 2 ^ (m - 64) : Nat))] rfl rfl lR (by simp) fun H6 hS6 => ?_
 simp only [RT] at hS6
 simp (disch := omega) only [↓RA, RZ, simprocAttr, hn, c5M, hS6.ag 1 rfl]
 rw [e2]
 exact ⟨rfl, hS6.forget⟩
def jE (xs : List Int) : Nt := xs.foldl oF (0, 0)
def isN (z : Int) : Prop := 0 ≤ z ∧ z < 128
theorem pL : ∀ (xs : List Int) (x : Nt), (∀ z ∈ xs, isN z) → Nt.Ok x → Nt.Ok (xs.foldl oF x)
 | [], _, _, h => h
 | z :: xs, x, hz, h => by
   rw [eX]
   exact pL xs _ (fun y hy => hz y (ey _ hy)) (b1P h (hz z (dS ..)).1 (hz z (dS ..)).2)
theorem a0Q (xs : List Int) {j : Nat} (hj : j < xs.length) : jE (xs.take (j + 1)) = oF (jE (xs.take j)) (iD xs j) := by
 unfold jE
 rw [List.take_add_one, dr hj, Option.toList_some, gJ, ← jN _ j hj]
 rfl
theorem a4v (z : Int) (h : isN z) : Fn prog 94 [I z] H fun r H' => r = .bool true ∧ St prog H H' [] := by
 have h0 := h.1
 have h1 := h.2
 refine .aV func94 rfl (by kernel_rfl) (m := 9) rfl fun l hn g0 => ?_
 simp (disch := omega) only [↓RA, RZ, simprocAttr, hn, g0]
 refine kF (fun q1 => ?_) (fun q1 => ?_)
 rotate_left
 ·exfalso; first | omega | (simp at q1; omega)
 simp (disch := omega) only [↓RA, RZ, simprocAttr, hn, g0, c6p, q1]
 simpa using ⟨(by omega : z ≤ 127), (sR H)⟩
theorem xK (xs : List Int) (hz : ∀ z ∈ xs, isN z) (v : Value) (hv : Sl 1 (one I) H v xs) (hl : xs.length < 1000000000) :
 Fn prog 45 [v] H fun r H' => r = .tuple #[.agg #[.int .u64 (jE xs).1, .int .u64 (jE xs).2], I 0] ∧ St prog H H' [] := by
 refine .aV func45 rfl (by kernel_rfl) (m := 22) rfl fun l hn g0 => ?_
 simp (disch := omega) only [↓RA, RZ, simprocAttr]
 refine (sR H).eNew 2 [(.int .u64 0), (.int .u64 0)] rfl rfl rfl lR fun A1 H1 hS1 => ?_
 simp only [RT] at hS1
 simp (disch := omega) only [↓RA, RZ, simprocAttr]
 refine hS1.eNew 2 [(.int .u64 0), (.int .u64 0)] rfl rfl rfl lR fun A2 H2 hS2 => ?_
 simp only [RT] at hS2
 simp (disch := omega) only [↓RA, RZ, simprocAttr, hn, g0, (hS2.sl hv).len]
 refine Wp.al (fun n l H' => l.length = 22 ∧ get l 2 = (ptr A1 0 2) ∧ get l 4 = (ptr A2 0 2) ∧ get l 7 = v ∧ get l 8 = I xs.length ∧ ∃ (j : Nat), (n + j = xs.length) ∧ get l 9 = I j ∧ St prog H H' [⟨ptr A1 0 2, 0, [(.int .u64 0), (.int .u64 0)]⟩, ⟨ptr A2 0 2, 0, [.int .u64 (jE (xs.take j)).1, .int .u64 (jE (xs.take j)).2]⟩]) xs.length ?_ ?_
 ·simp (disch := omega) only [RB, RC, simprocAttr, hn]
  exact ⟨0, by omega, rfl, hS2⟩
 rintro n l H3 ⟨hn, g2, g4, g7, g8, j, hj, g9, hS3⟩
 simp (disch := omega) only [↓RA, RB, simprocAttr, hn, g8, g9]
 refine iC (fun q1 => ?_) (fun q1 => ?_)
 ·have hx := hz _ (iG (xs := xs) (j := j) (by omega))
  have hok : Nt.Ok (jE (xs.take j)) := pL _ _ (fun z h => hz z (List.mem_of_mem_take h)) ⟨by decide, by decide⟩
  simp (disch := omega) only [↓RA, RZ, simprocAttr, hn, g7, g9, (hS3.sl hv).idx, (hS3.sl hv).ld, one, q1]
  refine hS3.cF (a4v (iD xs j) hx) fun H4 hS4 => ?_
  simp (disch := omega) only [↓RA, RZ, simprocAttr, hn, g4, hS4.ag 1 rfl, q1]
  refine hS4.cF (a3g (jE (xs.take j)) hok (iD xs j) hx.1 hx.2) fun H5 hS5 => ?_
  simp (disch := omega) only [↓RA, RZ, simprocAttr, hn, g4, q1]
  refine hS5.aa 1 rfl [(.int .u64 (oF (jE (xs.take j)) (iD xs j)).1), (.int .u64 (oF (jE (xs.take j)) (iD xs j)).2)] rfl rfl lR (by simp) fun H6 hS6 => ?_
  simp only [RT] at hS6
  simp (disch := omega) only [↓RA, RZ, simprocAttr, hn, g2, g4, g7, g8, g9, q1]
  refine ⟨n - 1, by omega, j + 1, by omega, by simp, ?_⟩
  rw [a0Q xs (by omega)]
  exact hS6.pick [0, 1] (by decide) rfl
 have hjj : j = xs.length := by omega
 simp (disch := omega) only [↓RA, RZ, simprocAttr, hn, g2, g4, hS3.ag 1 rfl, q1]
 refine hS3.aa 0 rfl [(.int .u64 (jE (xs.take j)).1), (.int .u64 (jE (xs.take j)).2)] rfl rfl lR (by simp) fun H7 hS7 => ?_
 simp only [RT] at hS7
 simp (disch := omega) only [↓RA, RZ, simprocAttr, hn, g2, c7k, hS7.ag 0 rfl, q1]
 rw [hjj, ew]
 exact ⟨rfl, hS7.forget⟩
def unF (x y : Nt) : Nt := (x.1 ||| y.1, x.2 ||| y.2)
theorem c1Y {x y : Nt} (hx : Nt.Ok x) (hy : Nt.Ok y) : Nt.Ok (unF x y) := ⟨a8C hx.1 hy.1, a8C hx.2 hy.2⟩
theorem b3Z (x y : Nt) (hx : Nt.Ok x) (hy : Nt.Ok y) : Fn prog 87 [.agg #[.int .u64 x.1, .int .u64 x.2], .agg #[.int .u64 y.1, .int .u64 y.2]] H fun r H' => r = .agg #[.int .u64 (unF x y).1, .int .u64 (unF x y).2] ∧ St prog H H' [] := by
 have e1 := orB x.1 y.1 hx.1 hy.1
 have e2 := orB x.2 y.2 hx.2 hy.2
 refine .aE func87 rfl (by kernel_rfl) (m := 16) rfl fun l hn g0 g1 => ?_
 simp (disch := omega) only [↓RA, RB, simprocAttr, g0]
 refine (sR H).eNew 2 [(.int .u64 x.1), (.int .u64 x.2)] rfl rfl rfl lR fun A1 H1 hS1 => ?_
 simp only [RT] at hS1
 simp (disch := omega) only [↓RA, RB, simprocAttr, g1]
 refine hS1.eNew 2 [(.int .u64 y.1), (.int .u64 y.2)] rfl rfl rfl lR fun A2 H2 hS2 => ?_
 simp only [RT] at hS2
 simp (disch := omega) only [↓RA, RZ, simprocAttr]
 refine hS2.eNew 2 [(.int .u64 0), (.int .u64 0)] rfl rfl rfl lR fun A3 H3 hS3 => ?_
 simp only [RT] at hS3
 simp (disch := omega) only [↓RA, RZ, simprocAttr, hn, hS3.ld 0 rfl, hS3.ld 1 rfl, e1, e2]
 simp (disch := omega) only [↓RA, RB, simprocAttr, hn, a7B]
 refine hS3.aa 2 rfl [(.int .u64 (x.1 ||| y.1 : Nat)), (.int .u64 (x.2 ||| y.2 : Nat))] rfl rfl lR (by simp) fun H4 hS4 => ?_
 simp only [RT] at hS4
 simp (disch := omega) only [↓RA, RZ, simprocAttr, hn, c7l, hS4.ag 2 rfl]
 exact ⟨rfl, hS4.forget⟩
theorem St.perm {P : Program} {H0 : Base} {os os' : List Ob} (h : St P H0 H os) (hp : os.Perm os') : St P H0 H os' where
 len := h.len
 old := h.old
 own o ho := h.own o (hp.mem_iff.2 ho)
 new o ho := h.new o (hp.mem_iff.2 ho)
 sep := (List.Perm.pairwise_iff (fun {_ _} hxy B hB hB2 => hxy B hB2 hB) hp).1 h.sep
theorem Lp.swap {P : Program} {B : Base} {L : Nat} {r : Loop} {xs ys zs : List Ob} (h : Lp P B L r H ((xs ++ ys) ++ zs)) : Lp P B L r H ((xs ++ zs) ++ ys) := by
 have hp : ((xs ++ ys) ++ zs).Perm ((xs ++ zs) ++ ys) := by
  rw [dC, dC]
  exact (List.perm_append_comm).append_left xs
 exact ⟨h.st.perm hp, h.get, h.lo, fun o ho => h.ne o (hp.mem_iff.2 ho)⟩
def a3x (o : Org) (rg : Reg) (acc : List Nt) (c : Ct) : List Nt := if (nR o rg c).length = 0 then acc.set c.1.toNat (unF (iD acc c.1.toNat) (jE [c.2])) else acc
def qA (o : Org) (rg : Reg) (d : List Ct) : List Nt := d.foldl (a3x o rg) (List.replicate o.dvs.length (0, 0))
theorem a6J (o : Org) (rg : Reg) (d : List Ct) (c : Ct) : qA o rg (d ++ [c]) = a3x o rg (qA o rg d) c := by
 unfold qA
 rw [gJ]
 rfl
theorem a9H {o : Org} (hf : o.Fine) {c : Ct} (h : c ∈ mN o) : ∃ (i : Nat) (z : Int), c = ((i : Int), z) ∧ i < o.dvs.length ∧ isN z := by
 obtain ⟨i, hi, h⟩ := dY.1 h
 obtain ⟨k, hk, rfl⟩ := dz.1 h
 have hi := dx.1 hi
 have hk := dx.1 hk
 have := hf.keys i hi
 exact ⟨i, _, rfl, hi, by omega, by omega⟩
theorem b1C (o : Org) (rg : Reg) : ∀ (d : List Ct) (acc : List Nt), (d.foldl (a3x o rg) acc).length = acc.length
 | [], _ => rfl
 | c :: d, acc => by
   rw [eX, b1C o rg d]
   unfold a3x
   split
   ·rw [gz]
   ·rfl
theorem b7E (o : Org) (hf : o.Fine) (rg : Reg) : ∀ (d : List Ct) (acc : List Nt), (∀ c ∈ d, c ∈ mN o) → (∀ x ∈ acc, Nt.Ok x) → acc.length = o.dvs.length → ∀ x ∈ d.foldl (a3x o rg) acc, Nt.Ok x
 | [], _, _, h, _ => h
 | c :: d, acc, hd, h, hl => by
   rw [eX]
   obtain ⟨i, z, rfl, hi, hz⟩ := a9H hf (hd _ (dS ..))
   refine b7E o hf rg d _ (fun c hc => hd c (ey _ hc)) (fun x hx => ?_) ?_
   ·unfold a3x at hx
    split at hx
    ·rcases List.mem_or_eq_of_mem_set hx with hx | hx
     ·exact h x hx
     ·rw [hx]
      refine c1Y (h _ (iG (by simp; omega))) (pL _ _ (fun y hy => ?_) ⟨by decide, by decide⟩)
      rw [dB.1 hy]
      exact hz
    ·exact h x hx
   ·unfold a3x
    split
    ·rw [gz]; exact hl
    ·exact hl
theorem b3y (o : Org) (ho : o.In H) (rg : Reg) (sv : Value) (hr : rg.In H sv) :
 Fn prog 40 [.agg #[.string o.name, o.rv, o.dv, o.cv], .agg #[sv, .int .u64 rg.cpl, .int .u64 rg.off]] H fun r H' => ∃ lv, r = .tuple #[lv, I (lZ o rg)] ∧ St prog H H' [⟨lv, 2, (if lZ o rg = 0 then qA o rg (mN o) else []).flatMap ntc⟩] := by
 refine .aE func40 rfl (by kernel_rfl) (m := 49) rfl fun l hn g0 g1 => ?_
 simp (disch := omega) only [↓RA, RB, simprocAttr, g0]
 refine (sR H).eNew 4 [(.string o.name), o.rv, o.dv, o.cv] rfl rfl (by simp [OC, ((sR H).sl ho.1).cells.2.1, ((sR H).sl ho.2.2.1).cells.2.1, ((sR H).sl ho.2.2.2.2.1).cells.2.1]) nC fun A1 H1 hS1 => ?_
 simp only [RT] at hS1
 simp (disch := omega) only [↓RA, RB, simprocAttr, g1]
 refine hS1.eNew 3 [sv, (.int .u64 rg.cpl), (.int .u64 rg.off)] rfl rfl (by simp [OC, (hS1.sl hr.1).cells.2.1]) mS fun A2 H2 hS2 => ?_
 simp only [RT] at hS2
 simp (disch := omega) only [↓RA, RZ, simprocAttr, hn, hS2.ag 0 rfl, hS2.ag 1 rfl]
 refine hS2.cF (rO o (ho.ab hS2) rg sv (hr.ab hS2)) fun H3 hS3 => ?_
 simp (disch := omega) only [↓RA, RB, simprocAttr, hn]
 refine iC (fun h1 => ?_) (fun h1 => ?_)
 ·simp (disch := omega) only [↓RA, RZ, simprocAttr, hn, c5g, h1]
  exact ⟨.slice none 0 0, rfl, hS3.forget.nil 1⟩
 have h0 := dG.1 h1
 obtain ⟨hz3, hz4⟩ := mV h0
 have hf := Org.ba hz3
 have hd1 := hf.dpos
 have hd2 := hf.dlen
 simp (disch := omega) only [↓RA, RZ, simprocAttr, hn, hS3.ld 0 rfl, (hS3.sl ho.2.2.1).len, h1]
 refine hS3.cm (cel := ntc) (x := (0, 0)) o.dvs.length c3R rfl (by omega) fun w1 H4 hS4 => ?_
 simp only [RT] at hS4
 simp (disch := omega) only [↓RA, RZ, simprocAttr]
 refine hS4.eNew 1 [(.slice none 0 0)] rfl rfl rfl b9d fun A3 H5 hS5 => ?_
 simp only [RT] at hS5
 simp (disch := omega) only [↓RA, RZ, simprocAttr, hn, h1]
 refine hS5.aa 3 rfl [w1] (by rw [(hS5.rd 2 rfl).cells.1]) (by simp [(hS5.rd 2 rfl).cells.2.1]) b9d (by simp) fun H6 hS6 => ?_
 simp only [RT] at hS6
 simp (disch := omega) only [↓RA, RZ, simprocAttr, hn, hS6.ag 0 rfl, hS6.ag 1 rfl, h1]
 refine iK (a1H o (ho.ab hS6) rg sv (hr.ab hS6)) ?_
 rintro r H7 ⟨AK, AL, rfl, hT2⟩
 have hS7 := hS6.trans hT2
 simp only [RT] at hS7
 simp (disch := omega) only [↓RA, RZ, simprocAttr, h1]
 refine Wp.bg fun lrg1 hlrg1 => ?_
 have hnrg1 : lrg1.length = 49 := by rw [hlrg1]; simp (disch := omega) only [RB, simprocAttr, hn]
 have g4rg1 : get lrg1 4 = (.slice none 0 0) := by rw [hlrg1]; simp (disch := omega) only [RB, simprocAttr, hn]
 have g5rg1 : get lrg1 5 = I 0 := by rw [hlrg1]; simp (disch := omega) only [RB, simprocAttr, hn]
 have g7rg1 : get lrg1 7 = (ptr A3 0 1) := by rw [hlrg1]; simp (disch := omega) only [RB, simprocAttr, hn]
 have gfrg1 : get lrg1 24 = .func (.func 136) #[] [(ptr AK 0 4), (ptr AL 0 3)].toArray := by rw [hlrg1]; simp (disch := omega) only [RB, simprocAttr, hn]
 clear hlrg1
 refine Wp.aY gfrg1 fun rg1 hstrg1 hpdrg1 htmrg1 hpsrg1 hasrg1 hbdrg1 => ?_
 have hreqrg1 : ({ rg1 with state := .ready, pending := none } : Loop) = rg1 := by
  cases rg1
  simp only at hstrg1 hpdrg1
  subst hstrg1 hpdrg1
  rfl
 have hLprg1 := Lp.enter hS7 rg1
 generalize H7.cons (.loop rg1) = Hcrg1 at hLprg1 ⊢
 generalize H7.length = Lrg1 at hLprg1 ⊢
 refine (b1b o hf rg sv AK AL (.func (.yield Lrg1) #[] #[]) (fun d xs H1 =>
  Lp prog H Lrg1 rg1 H1 ([⟨ptr A1 0 4, 0, oC o⟩, ⟨ptr A2 0 3, 0, rC rg sv⟩, ⟨w1, 2, (qA o rg d).flatMap ntc⟩, ⟨ptr A3 0 1, 0, [w1]⟩, ⟨ptr AK 0 4, 0, oC o⟩, ⟨ptr AL 0 3, 0, rC rg sv⟩] ++ xs)) ?_ ?_ ?_ ?_ ?_).mono ?_
 ·rw [dm]
  exact hLprg1
 ·rintro d xs H1 h
  have hs := h.left.st
  exact ⟨hs.var 4 rfl, ho.ab hs, hs.var 5 rfl, hr.ab hs, fun x hx => h.st.own x (eR _ hx)⟩
 ·rintro d xs H1 H2 ys h hT
  have h3 := h.ext hT
  rwa [dC] at h3
 ·rintro d xs ys H1 h
  rw [← dC] at h
  exact h.left
 ·rintro d c e xs H1 H20 pv he hLp hT hx
  have hLpj := hLp.ext hT
  rw [dm] at hLpj
  have hdm : ∀ c ∈ d, c ∈ mN o := fun c hc => by rw [he]; exact List.mem_append_left _ hc
  have hal : (qA o rg d).length = o.dvs.length := by unfold qA; rw [b1C, fu]
  have hOk : ∀ x ∈ qA o rg d, Nt.Ok x := b7E o hf rg d _ hdm (fun x hx => by rw [List.eq_of_mem_replicate hx]; exact ⟨by decide, by decide⟩) (by simp)
  obtain ⟨i, z, rfl, hi, hz⟩ := a9H hf (c := c) (by rw [he]; simp)
  refine mD hLpj.get (by rw [hpsrg1]; rfl) hstrg1 ?_
  refine Wp.aC (l := put (put lrg1 (some 25) (.agg #[I i, I z])) (some 26) (pv)) hasrg1 (by rw [hpsrg1, htmrg1]; first | exact (kH ..).symm | rfl | simp [put, kH]) ?_
  simp (disch := omega) only [↓RA, RZ, simprocAttr]
  refine (sR H20).eNew 2 [I 0, I 0] rfl rfl rfl rH fun A4 H8 hS8 => ?_
  simp only [RT] at hS8
  simp (disch := omega) only [↓RA, RB, simprocAttr, hnrg1]
  refine hS8.aa 0 rfl [I i, I z] rfl rfl rH (by simp) fun H9 hS9 => ?_
  simp only [RT] at hS9
  simp (disch := omega) only [↓RA, RZ, simprocAttr, hnrg1]
  have hSy := hS9
  have hLl : Lrg1 < H1.length := jG hLp.get
  have hLpx := Lp.swap (hLpj.ext hS9)
  refine ⟨rg1, hLpx.get, hstrg1, ?_⟩
  have hYBs1 := hLpx.set (fun h => h) { rg1 with state := .busy }
  have hKBs1 : ∀ B, B ≠ Lrg1 → iO (hset H9 Lrg1 (.loop { rg1 with state := .busy })) B = iO H9 B := fun B h => iL _ (eH h)
  have hNBs1 : (hset H9 Lrg1 (.loop { rg1 with state := .busy })).length = H9.length := jA ..
  generalize hset H9 Lrg1 (.loop { rg1 with state := .busy }) = HBs1 at hYBs1 hKBs1 hNBs1 ⊢
  refine Wp.aC hbdrg1 rfl ?_
  have hZBs1 := hYBs1.left.st
  obtain ⟨Bs1, hBBs1, hS10⟩ := hZBs1.av (os := [⟨ptr A1 0 4, 0, _⟩, ⟨ptr A2 0 3, 0, _⟩, ⟨w1, 2, _⟩, ⟨ptr A3 0 1, 0, _⟩, ⟨ptr AK 0 4, 0, _⟩, ⟨ptr AL 0 3, 0, _⟩, ⟨ptr A4 0 2, 0, _⟩])
  have hxB : Slx 2 kB HBs1 (fun B => H1.length ≤ B) pv (nR o rg ((i : Int), z)) := hx.step fun B hB hl => ⟨by rw [hKBs1 B (by omega), hSy.ab B hl], hB⟩
  simp (disch := omega) only [↓RA, RZ, simprocAttr, hnrg1, hxB.1.len]
  refine iC (fun q1 => ?_) (fun q1 => ?_)
  ·have hq : (nR o rg ((i : Int), z)).length = 0 := by omega
   have hz1 : ∀ y ∈ [z], isN y := fun y hy => by rw [dB.1 hy]; exact hz
   have hnok : Nt.Ok (jE [z]) := pL _ _ hz1 ⟨by decide, by decide⟩
   have hiok := hOk _ (iG (xs := qA o rg d) (j := i) (by omega))
   simp (disch := omega) only [↓RA, RZ, simprocAttr, hnrg1, hS10.ld 6 rfl, q1]
   refine hS10.ai [I z] a1d a5A rfl rfl (by simp [Value.cells]) rfl rfl (by decide) (by decide) fun w2 H10 hS11 => ?_
   simp only [RT] at hS11
   simp (disch := omega) only [↓RA, RZ, simprocAttr, hnrg1, q1]
   refine hS11.cF (xK [z] hz1 _ (hS11.ax 7 rfl (fun _ => rfl)) (by simp)) fun H11 hS12 => ?_
   simp (disch := omega) only [↓RA, RZ, simprocAttr, hnrg1, q1]
   refine hS12.eNew 2 [(.int .u64 0), (.int .u64 0)] rfl rfl rfl lR fun A5 H12 hS13 => ?_
   simp only [RT] at hS13
   simp (disch := omega) only [↓RA, RZ, simprocAttr, hnrg1, q1]
   refine hS13.aa 8 rfl [(.int .u64 (jE [z]).1), (.int .u64 (jE [z]).2)] rfl rfl lR (by simp) fun H13 hS14 => ?_
   simp only [RT] at hS14
   simp (disch := omega) only [↓RA, RZ, simprocAttr, hnrg1, q1]
   refine Wp.aO kE [(0, 10), (2, 10)] (by kernel_rfl) (by kernel_rfl) ?_
   simp (disch := omega) only [↓RA, RZ, simprocAttr, hnrg1, g7rg1, hS14.ld 3 rfl, hS14.ld 6 rfl, (hS14.ax 2 rfl (fun _ => rfl)).idx, (hS14.ax 2 rfl (fun _ => rfl)).ag, ntc, hS14.ag 8 rfl]
   refine hS14.cF (b3Z (iD (qA o rg d) i) (jE [z]) hiok hnok) fun H14 hS15 => ?_
   simp (disch := omega) only [↓RA, RZ, simprocAttr, hnrg1, (hS15.ax 2 rfl (fun _ => rfl)).idx]
   refine hS15.aR 2 rfl [(.int .u64 (unF (iD (qA o rg d) i) (jE [z])).1), (.int .u64 (unF (iD (qA o rg d) i) (jE [z])).2)] rfl rfl lR (by simp) (by rw [iM (n := 2) (cel := ntc) (fun _ => rfl)]; simp; omega) fun H15 hS16 => ?_
   simp only [RT] at hS16
   simp (disch := omega) only [↓RA, RZ, simprocAttr, hnrg1, g7rg1, hS15.ld 3 rfl, hS15.ld 6 rfl]
   have hS17 := hS16.pick (os' := [⟨ptr A1 0 4, 0, _⟩, ⟨ptr A2 0 3, 0, _⟩, ⟨w1, 2, _⟩, ⟨ptr A3 0 1, 0, _⟩, ⟨ptr AK 0 4, 0, _⟩, ⟨ptr AL 0 3, 0, _⟩]) [0, 1, 2, 3, 4, 5] (by decide) rfl
   have hset2 : ((List.flatMap ntc (qA o rg d)).set (i * 2) (.int .u64 (unF (iD (qA o rg d) i) (jE [z])).1)).set (i * 2 + 1) (.int .u64 (unF (iD (qA o rg d) i) (jE [z])).2) = (qA o rg (d ++ [((i : Int), z)])).flatMap ntc := by
    rw [a6J, a3x, if_pos hq]
    simp only [fV]
    rw [← pZ ((((qA o rg d).flatMap ntc).set (i * 2) _).set (i * 2 + 1) _) (i * 2 + 1 + 1), ← lI, ← lI]
    exact zT (n := 2) (cel := ntc) (fun _ => rfl) (qA o rg d) i 0 [_, _] (unF (iD (qA o rg d) i) (jE [z])) (by omega) (by simp) rfl
   rw [hset2] at hS17
   have hWBs1 := (hYBs1.aX (hBBs1 ▸ hS17)).set (fun h => h) rg1
   rw [← hreqrg1] at hWBs1
   have hfin : Lp prog H Lrg1 rg1 (hset H15 Lrg1 (.loop rg1)) ([⟨ptr A1 0 4, 0, oC o⟩, ⟨ptr A2 0 3, 0, rC rg sv⟩, ⟨w1, 2, (qA o rg (d ++ [((i : Int), z)])).flatMap ntc⟩, ⟨ptr A3 0 1, 0, [w1]⟩, ⟨ptr AK 0 4, 0, oC o⟩, ⟨ptr AL 0 3, 0, rC rg sv⟩] ++ xs) := hreqrg1 ▸ hWBs1
   rw [← hreqrg1] at hfin
   exact ⟨_, (hYBs1.aX (hBBs1 ▸ hS17)).get, rfl, hreqrg1 ▸ hfin⟩
  have hq : ¬ (nR o rg ((i : Int), z)).length = 0 := by omega
  have hsame : qA o rg (d ++ [((i : Int), z)]) = qA o rg d := by rw [a6J, a3x, if_neg hq]
  simp (disch := omega) only [↓RA, RC, simprocAttr]
  have hS18 := hS10.pick (os' := [⟨ptr A1 0 4, 0, _⟩, ⟨ptr A2 0 3, 0, _⟩, ⟨w1, 2, _⟩, ⟨ptr A3 0 1, 0, _⟩, ⟨ptr AK 0 4, 0, _⟩, ⟨ptr AL 0 3, 0, _⟩]) [0, 1, 2, 3, 4, 5] (by decide) rfl
  have hWBs1 := (hYBs1.aX (hBBs1 ▸ hS18)).set (fun h => h) rg1
  rw [← hreqrg1] at hWBs1
  have hfin : Lp prog H Lrg1 rg1 (hset HBs1 Lrg1 (.loop rg1)) ([⟨ptr A1 0 4, 0, oC o⟩, ⟨ptr A2 0 3, 0, rC rg sv⟩, ⟨w1, 2, (qA o rg (d ++ [((i : Int), z)])).flatMap ntc⟩, ⟨ptr A3 0 1, 0, [w1]⟩, ⟨ptr AK 0 4, 0, oC o⟩, ⟨ptr AL 0 3, 0, rC rg sv⟩] ++ xs) := by
   rw [hsame]
   exact hreqrg1 ▸ hWBs1
  rw [← hreqrg1] at hfin
  exact ⟨_, (hYBs1.aX (hBBs1 ▸ hS18)).get, rfl, hreqrg1 ▸ hfin⟩
 rintro _ H21 hLp2
 rw [dm] at hLp2
 refine ⟨_, hLp2.get, (by rw [hstrg1]; exact fun h => by cases h), fun _ => ?_, fun c hc => by rw [hpdrg1] at hc; cases hc⟩
 have hAAf1 := (hLp2.set (fun h => h) { rg1 with state := .exhausted }).st
 have hKAf1 : ∀ B, B ≠ Lrg1 → iO (hset H21 Lrg1 (.loop { rg1 with state := .exhausted })) B = iO H21 B := fun B h => iL _ (eH h)
 generalize hset H21 Lrg1 (.loop { rg1 with state := .exhausted }) = HAf1 at hAAf1 hKAf1 ⊢
 have hnt : jP w1 = true := (hAAf1.ax (cel := ntc) 2 rfl (fun _ => rfl)).bk
 simp (disch := omega) only [↓RA, RZ, simprocAttr, hnrg1, g7rg1, hAAf1.ld 3 rfl, c5g, hnt]
 exact ⟨w1, by rw [h0], by rw [if_pos h0]; exact hAAf1.pick [2] (by decide) rfl⟩
theorem b7C (x : Nt) (hx : Nt.Ok x) (z : Int) (h0 : 0 ≤ z) (h1 : z < 128) : Fn prog 133 [.agg #[.int .u64 x.1, .int .u64 x.2], I z] H fun r H' => r = .agg #[.int .u64 (oF x z).1, .int .u64 (oF x z).2] ∧ St prog H H' [] := by
 obtain ⟨m, rfl⟩ := gp h0
 refine .aE func133 rfl (by kernel_rfl) (m := 23) rfl fun l hn g0 g1 => ?_
 simp (disch := omega) only [↓RA, RB, simprocAttr, g0]
 refine (sR H).eNew 2 [(.int .u64 x.1), (.int .u64 x.2)] rfl rfl rfl lR fun A1 H1 hS1 => ?_
 simp only [RT] at hS1
 simp (disch := omega) only [↓RA, RZ, simprocAttr]
 refine hS1.eNew 2 [(.int .u64 0), (.int .u64 0)] rfl rfl rfl lR fun A2 H2 hS2 => ?_
 simp only [RT] at hS2
 simp (disch := omega) only [↓RA, RB, simprocAttr, hn, g1]
 refine iC (fun q1 => ?_) (fun q1 => ?_)
 ·have e1 := orN x.1 m hx.1 (by omega)
  have e2 : oF x (m : Int) = (x.1 ||| 2 ^ m, x.2) := by unfold oF; rw [if_pos q1]; rfl
  simp (disch := omega) only [↓RA, RZ, simprocAttr, hn, g1, hS2.ld 0 rfl, q1, e1]
  refine hS2.aa 0 rfl [(.int .u64 (x.1 ||| 2 ^ m : Nat))] rfl rfl a5z (by simp) fun H3 hS3 => ?_
  simp only [RT] at hS3
  simp (disch := omega) only [↓RA, RZ, simprocAttr, hn, hS3.ag 0 rfl, q1]
  refine hS3.aa 1 rfl [(.int .u64 (x.1 ||| 2 ^ m : Nat)), (.int .u64 x.2)] rfl rfl lR (by simp) fun H4 hS4 => ?_
  simp only [RT] at hS4
  simp (disch := omega) only [↓RA, RZ, simprocAttr, hn, c0R, hS4.ag 1 rfl, q1]
  rw [e2]
  exact ⟨rfl, hS4.forget⟩
 have e1 := orN x.2 (m - 64) hx.2 (by omega)
 have e3 : (m : Int) - 64 = ((m - 64 : Nat) : Int) := by omega
 have e2 : oF x (m : Int) = (x.1, x.2 ||| 2 ^ (m - 64)) := by unfold oF; rw [if_neg q1, e3]; rfl
 simp (disch := omega) only [↓RA, RZ, simprocAttr, hn, g1, hS2.ld 0 rfl, q1, e1, e3]
 refine hS2.aa 0 rfl [(.int .u64 (x.2 ||| 2 ^ (m - 64) : Nat))] rfl rfl a5z (by simp) fun H5 hS5 => ?_
 simp only [RT] at hS5
 simp (disch := omega) only [↓RA, RZ, simprocAttr, hn, hS5.ag 0 rfl, q1]
 refine hS5.aa 1 rfl [(.int .u64 x.1), (.int .u64 (x.2 ||| 2 ^ (m - 64) : Nat))] rfl rfl lR (by simp) fun H6 hS6 => ?_
 simp only [RT] at hS6
 simp (disch := omega) only [↓RA, RZ, simprocAttr, hn, c0R, hS6.ag 1 rfl, q1]
 rw [e2]
 exact ⟨rfl, hS6.forget⟩
theorem c1A (xs : List Int) (hz : ∀ z ∈ xs, isN z) (v : Value) (hv : Sl 1 (one I) H v xs) (hl : xs.length < 1000000000) :
 Fn prog 78 [v] H fun r H' => r = .agg #[.int .u64 (jE xs).1, .int .u64 (jE xs).2] ∧ St prog H H' [] := by
 refine .aV func78 rfl (by kernel_rfl) (m := 30) rfl fun l hn g0 => ?_
 simp (disch := omega) only [↓RA, RZ, simprocAttr]
 refine (sR H).eNew 2 [(.int .u64 0), (.int .u64 0)] rfl rfl rfl lR fun A1 H1 hS1 => ?_
 simp only [RT] at hS1
 simp (disch := omega) only [↓RA, RZ, simprocAttr]
 refine hS1.eNew 2 [(.int .u64 0), (.int .u64 0)] rfl rfl rfl lR fun A2 H2 hS2 => ?_
 simp only [RT] at hS2
 simp (disch := omega) only [↓RA, RB, simprocAttr]
 refine Wp.al (fun n l H' => l.length = 30 ∧ get l 0 = v ∧ get l 2 = (ptr A1 0 2) ∧ get l 3 = (ptr A2 0 2) ∧ ∃ (j : Nat), (n + j = xs.length) ∧ get l 4 = I j ∧ St prog H H' [⟨ptr A1 0 2, 0, [(.int .u64 0), (.int .u64 0)]⟩, ⟨ptr A2 0 2, 0, [.int .u64 (jE (xs.take j)).1, .int .u64 (jE (xs.take j)).2]⟩]) xs.length ?_ ?_
 ·simp (disch := omega) only [RB, RC, simprocAttr, hn, g0]
  exact ⟨0, by omega, rfl, hS2⟩
 rintro n l H3 ⟨hn, g0, g2, g3, j, hj, g4, hS3⟩
 simp (disch := omega) only [↓RA, RZ, simprocAttr, hn, g0, g4, (hS3.sl hv).len]
 refine iC (fun q1 => ?_) (fun q1 => ?_)
 ·have hx := hz _ (iG (xs := xs) (j := j) (by omega))
  have hx0 := hx.1
  have hx1 := hx.2
  have hok : Nt.Ok (jE (xs.take j)) := pL _ _ (fun z h => hz z (List.mem_of_mem_take h)) ⟨by decide, by decide⟩
  simp (disch := omega) only [↓RA, RZ, simprocAttr, hn, g0, g4, (hS3.sl hv).idx, (hS3.sl hv).ld, one, q1]
  refine kF (fun q2 => ?_) (fun q2 => ?_)
  rotate_left
  ·exfalso; first | omega | (simp at q2; omega)
  simp (disch := omega) only [↓RA, RZ, simprocAttr, hn, g0, g4, (hS3.sl hv).idx, (hS3.sl hv).ld, one, q1, q2]
  refine iC (fun q3 => ?_) (fun q3 => ?_)
  rotate_left
  ·exfalso; first | omega | (simp at q3; omega)
  simp (disch := omega) only [↓RA, RC, simprocAttr, q1, q2, q3]
  refine Wp.drw kE (by kernel_rfl) ?_
  simp (disch := omega) only [↓RA, RZ, simprocAttr, hn, g0, g3, g4, hS3.ag 1 rfl, (hS3.sl hv).idx, (hS3.sl hv).ld, one]
  refine hS3.cF (b7C (jE (xs.take j)) hok (iD xs j) hx.1 hx.2) fun H4 hS4 => ?_
  simp (disch := omega) only [↓RA, RB, simprocAttr, hn, g3]
  refine hS4.aa 1 rfl [(.int .u64 (oF (jE (xs.take j)) (iD xs j)).1), (.int .u64 (oF (jE (xs.take j)) (iD xs j)).2)] rfl rfl lR (by simp) fun H5 hS5 => ?_
  simp only [RT] at hS5
  simp (disch := omega) only [↓RA, RZ, simprocAttr, hn, g0, g2, g3, g4]
  refine ⟨n - 1, by omega, j + 1, by omega, by simp, ?_⟩
  rw [a0Q xs (by omega)]
  exact hS5.pick [0, 1] (by decide) rfl
 have hjj : j = xs.length := by omega
 simp (disch := omega) only [↓RA, RZ, simprocAttr, hn, g2, g3, hS3.ag 1 rfl, q1]
 refine hS3.aa 0 rfl [(.int .u64 (jE (xs.take j)).1), (.int .u64 (jE (xs.take j)).2)] rfl rfl lR (by simp) fun H6 hS6 => ?_
 simp only [RT] at hS6
 simp (disch := omega) only [↓RA, RZ, simprocAttr, g2, c6Y, hS6.ag 0 rfl, q1]
 rw [hjj, ew]
 exact ⟨rfl, hS6.forget⟩
def exO (w1 w2 w3 w4 w5 w6 w7 : Value) : Org := ⟨⟨#[111]⟩, w4, [⟨⟨#[114]⟩, ⟨#[116]⟩, 8, 1, 36, w3, [1, 1, 1]⟩], w6, [⟨⟨#[100]⟩, false, 36, 40, w5, [⟨⟨#[115]⟩, 8, 1, w2, [⟨36, 40, w1, [⟨0, 0⟩]⟩]⟩, ⟨⟨#[116]⟩, 8, 1, w2, [⟨36, 40, w1, [⟨0, 0⟩]⟩]⟩]⟩], w7, [⟨⟨#[99]⟩, 0, 0, 1, false⟩]⟩
theorem b0C : Fn prog 75 [] H fun r H' => ∃ w1 w2 w3 w4 w5 w6 w7, r = .agg #[.string (exO w1 w2 w3 w4 w5 w6 w7).name, w4, w6, w7] ∧ (exO w1 w2 w3 w4 w5 w6 w7).In H' ∧ St prog H H' [] := by
 refine .cR func75 rfl (by kernel_rfl) (m := 24) rfl fun l hn => ?_
 simp (disch := omega) only [↓RA, RZ, simprocAttr]
 refine (sR H).eNew 4 [(.string ⟨#[]⟩), (.slice none 0 0), (.slice none 0 0), (.slice none 0 0)] rfl rfl rfl nC fun A1 H1 hS1 => ?_
 simp only [RT] at hS1
 simp (disch := omega) only [↓RA, RB, simprocAttr, hn, yM, c2z]
 refine hS1.ai [I 0, I 0] a4A a4L rfl rfl (by simp [Value.cells]) rfl rfl (by decide) (by decide) fun w1 H2 hS2 => ?_
 simp only [RT] at hS2
 simp (disch := omega) only [↓RA, RB, simprocAttr, hn, lL (hS2.rd 1 rfl).cells]
 refine hS2.ai [I 36, I 40, w1] qG wG rfl rfl (by first | (simp []; done) | simp [Value.cells]) (by first | (simp []; done) | simp [Value.cells]) (by simp [OC, (hS2.rd 1 rfl).cells.2.1]) (by decide) (by decide) fun w2 H3 hS3 => ?_
 simp only [RT] at hS3
 simp (disch := omega) only [↓RA, RZ, simprocAttr, hn, a6t (hS3.rd 2 rfl).cells]
 refine hS3.eNew 4 [(.string ⟨#[]⟩), I 0, I 0, (.slice none 0 0)] rfl rfl rfl nD fun A2 H4 hS4 => ?_
 simp only [RT] at hS4
 simp (disch := omega) only [↓RA, RB, simprocAttr, hn]
 refine hS4.aa 3 rfl [(.string ⟨#[115]⟩), I 8, I 1, w2] rfl (by simp [OC, (hS4.rd 2 rfl).cells.2.1]) nD (by simp) fun H5 hS5 => ?_
 simp only [RT] at hS5
 simp (disch := omega) only [↓RA, RZ, simprocAttr, hn, hS5.ag 3 rfl]
 refine hS5.eNew 4 [(.string ⟨#[]⟩), I 0, I 0, (.slice none 0 0)] rfl rfl rfl nD fun A3 H6 hS6 => ?_
 simp only [RT] at hS6
 simp (disch := omega) only [↓RA, RB, simprocAttr, hn]
 refine hS6.aa 4 rfl [(.string ⟨#[115]⟩), I 8, I 1, w2] rfl (by simp [OC, (hS6.rd 2 rfl).cells.2.1]) nD (by simp) fun H7 hS7 => ?_
 simp only [RT] at hS7
 simp (disch := omega) only [↓RA, RZ, simprocAttr, hn]
 refine hS7.aa 4 rfl [(.string ⟨#[116]⟩)] rfl rfl tS9 (by simp) fun H8 hS8 => ?_
 simp only [RT] at hS8
 simp (disch := omega) only [↓RA, RB, simprocAttr, yM]
 refine hS8.ai [I 1, I 1, I 1] a1d a5A rfl rfl (by simp [Value.cells]) rfl rfl (by decide) (by decide) fun w3 H9 hS9 => ?_
 simp only [RT] at hS9
 simp (disch := omega) only [↓RA, RB, simprocAttr, hn, a2d (hS9.rd 5 rfl).cells]
 refine hS9.ai [(.string ⟨#[114]⟩), (.string ⟨#[116]⟩), I 8, I 1, I 36, w3] c1z c4v rfl rfl (by first | (simp []; done) | simp [Value.cells]) (by first | (simp []; done) | simp [Value.cells]) (by simp [OC, (hS9.rd 5 rfl).cells.2.1]) (by decide) (by decide) fun w4 H10 hS10 => ?_
 simp only [RT] at hS10
 simp (disch := omega) only [↓RA, RZ, simprocAttr, hn, a4J, hS10.ag 3 rfl, hS10.ag 4 rfl]
 refine hS10.ai [(.string ⟨#[115]⟩), I 8, I 1, w2, (.string ⟨#[116]⟩), I 8, I 1, w2] b5k c1n rfl rfl (by first | (simp []; done) | simp [Value.cells]) (by first | (simp []; done) | simp [Value.cells]) (by simp [OC, (hS10.rd 2 rfl).cells.2.1]) (by decide) (by decide) fun w5 H11 hS11 => ?_
 simp only [RT] at hS11
 simp (disch := omega) only [↓RA, RB, simprocAttr, hn, a7V (hS11.rd 7 rfl).cells]
 refine hS11.ai [(.string ⟨#[100]⟩), (.bool false), I 36, I 40, w5] c1D c3H rfl rfl (by first | (simp []; done) | simp [Value.cells]) (by first | (simp []; done) | simp [Value.cells]) (by simp [OC, (hS11.rd 7 rfl).cells.2.1]) (by decide) (by decide) fun w6 H12 hS12 => ?_
 simp only [RT] at hS12
 simp (disch := omega) only [↓RA, RB, simprocAttr, hn, b4e]
 refine hS12.ai [(.string ⟨#[99]⟩), I 0, I 0, I 1, (.bool false)] b0L b9Q rfl rfl (by simp [Value.cells]) rfl rfl (by decide) (by decide) fun w7 H13 hS13 => ?_
 simp only [RT] at hS13
 simp (disch := omega) only [↓RA, RB, simprocAttr, hn, a5b (hS13.rd 6 rfl).cells (hS13.rd 8 rfl).cells (hS13.rd 9 rfl).cells]
 refine hS13.aa 0 rfl [(.string ⟨#[111]⟩), w4, w6, w7] rfl (by simp [OC, (hS13.rd 6 rfl).cells.2.1, (hS13.rd 8 rfl).cells.2.1, (hS13.rd 9 rfl).cells.2.1]) nC (by simp) fun H14 hS14 => ?_
 simp only [RT] at hS14
 simp (disch := omega) only [↓RA, RZ, simprocAttr, hn, c7d, hS14.ag 0 rfl]
 have h1 : Sl 2 Drw.cells H14 w1 [⟨0, 0⟩] := hS14.ax 1 rfl (fun _ => rfl)
 have h2 : Sl 3 Seg.cells H14 w2 [⟨36, 40, w1, [⟨0, 0⟩]⟩] := hS14.ax 2 rfl (fun _ => rfl)
 have h3 : Sl 1 (one I) H14 w3 [1, 1, 1] := hS14.ax 5 rfl (fun _ => rfl)
 have h4 : Sl 6 Rk.cells H14 w4 (exO w1 w2 w3 w4 w5 w6 w7).ranks := hS14.ax 6 rfl (fun _ => rfl)
 have h5 : Sl 4 Stp.cells H14 w5 [⟨⟨#[115]⟩, 8, 1, w2, [⟨36, 40, w1, [⟨0, 0⟩]⟩]⟩, ⟨⟨#[116]⟩, 8, 1, w2, [⟨36, 40, w1, [⟨0, 0⟩]⟩]⟩] := hS14.ax 7 rfl (fun _ => rfl)
 have h6 : Sl 5 Dvn.cells H14 w6 (exO w1 w2 w3 w4 w5 w6 w7).dvs := hS14.ax 8 rfl (fun _ => rfl)
 have h7 : Sl 5 Cpl.cells H14 w7 (exO w1 w2 w3 w4 w5 w6 w7).cpls := hS14.ax 9 rfl (fun _ => rfl)
 refine ⟨w1, w2, w3, w4, w5, w6, w7, rfl, ⟨h4, ?_, h6, ?_, h7, by simp [exO], by simp [exO], by simp [exO]⟩, hS14.forget⟩
 ·intro r hr
  rw [dB.1 hr]
  exact ⟨h3, by simp⟩
 ·have hg : (⟨36, 40, w1, [⟨0, 0⟩]⟩ : Seg).In H14 := ⟨h1, by simp⟩
  intro d hd
  rw [dB.1 hd]
  refine ⟨h5, ?_, by simp⟩
  intro s hs
  simp only [ez, eF, or_false] at hs
  rcases hs with rfl | rfl
  ·exact ⟨h2, fun g hg' => by rw [dB.1 hg']; exact hg, by simp⟩
  ·exact ⟨h2, fun g hg' => by rw [dB.1 hg']; exact hg, by simp⟩
section
variable (w1 w2 w3 w4 w5 w6 w7 : Value)
def a9w (x : Int × Int) : List (Int × Int) → List (Int × Int)
 | [] => [x]
 | y :: l => if le2 x y then x :: y :: l else y :: a9w x l
def a8J : List (Int × Int) → List (Int × Int)
 | [] => []
 | x :: l => a9w x (a8J l)
theorem a0i (x : Int × Int) : ∀ l, (a9w x l).Perm (x :: l)
 | [] => .refl _
 | y :: l => by
   unfold a9w
   split
   ·exact .refl _
   ·exact ((a0i x l).cons y).trans (.swap ..)
theorem a4e : ∀ l, (a8J l).Perm l
 | [] => .refl _
 | x :: l => (a0i x _).trans ((a4e l).cons x)
theorem b3d (x y : Int × Int) : le2 x y = false → le2 y x = true := by
 intro h
 rw [← eP] at h
 rw [oR] at h ⊢
 omega
theorem a0L (x : Int × Int) : ∀ l : List (Int × Int), l.Pairwise (fun a b => le2 a b = true) → (a9w x l).Pairwise fun a b => le2 a b = true
 | [], _ => by simp [a9w]
 | y :: l, h => by
   have h1 := ib.1 h
   unfold a9w
   split
   ·rename_i hxy
    refine ib.2 ⟨fun z hz => ?_, h⟩
    rcases ez.1 hz with rfl | hz
    ·exact hxy
    ·have h2 := h1.1 z hz
     rw [oR] at *
     omega
   ·rename_i hxy
    refine ib.2 ⟨fun z hz => ?_, a0L x l h1.2⟩
    rcases ez.1 ((a0i x l).mem_iff.1 hz) with rfl | hz
    ·exact b3d _ _ (by simpa using hxy)
    ·exact h1.1 z hz
theorem a0X : ∀ l : List (Int × Int), (a8J l).Pairwise fun a b => le2 a b = true
 | [] => .nil
 | x :: l => a0L x _ (a0X l)
theorem c2c : vT = a8J := by
 funext l
 refine List.Perm.eq_of_pairwise (le := fun a b => le2 a b = true) (fun a b _ _ h1 h2 => ?_) (xD l) (a0X l) ((oM l).trans (a4e l).symm)
 rw [oR] at h1 h2
 exact gW (by omega) (by omega)
def c2t (s : List Ct → List Ct) (o : Org) (r : Reg) (l : List Ct) : List Ct := dd (s (l.filter (fun c => !r.off.testBit c.1.toNat) ++ bfs o r.cpl 1100 0 (mL o r.cpl l)))
def c2b (s : List Ct → List Ct) (rs : List Rk) (p : Stp) (key : Int) : List Ct := dd (s (((b0Q p key).filter fun d => yE rs d key).map fun d => oJ rs d key))
def c2y (s : List Ct → List Ct) (o : Org) (r : Reg) (c : Ct) : List Ct := (List.range (iD o.dvs c.1.toNat).stops.length).flatMap fun i => if (iD r.stops c.1.toNat).testBit i then c2b s o.ranks (iD (iD o.dvs c.1.toNat).stops i) c.2 else []
def ofG (s : List Ct → List Ct) (o : Org) (r : Reg) (c : Ct) : List Ct := if a6s o r c = 0 then dd (s ((c2t s o r [c]).flatMap (c2y s o r))) else []
theorem b5g : nR = ofG a8J := by
 rw [← c2c]
 rfl
theorem c2p : lZ (exO w1 w2 w3 w4 w5 w6 w7) ⟨[1], 0, 0⟩ = 0 := by kernel_rfl
theorem c3o : qA (exO w1 w2 w3 w4 w5 w6 w7) ⟨[1], 0, 0⟩ (mN (exO w1 w2 w3 w4 w5 w6 w7)) = [jE [39, 40]] := by
 unfold qA a3x
 rw [b5g]
 kernel_rfl
end
section
variable (w1 w2 w3 w4 w5 w6 w7 : Value)
def a2g (s : List Ct → List Ct) (o : Org) (r : Reg) : List Ctl := (pE r).filter fun c => decide ((mN o).map (ofG s o (kW r c)) = (mN o).map (ofG s o r))
theorem a8n : mO = a2g a8J := by
 funext o r
 unfold mO qC a2g
 rw [b5g]
def b0A (s : List Ct → List Ct) (o : Org) : Nat → Reg → List Ctl → Reg × List Ctl
 | 0, g, l => (g, l)
 | n + 1, g, l => if (a2g s o g).length = 0 then (g, l) else b0A s o n (kW g (iD (a2g s o g) ((a2g s o g).length - 1))) (l ++ [iD (a2g s o g) ((a2g s o g).length - 1)])
theorem a4O (o : Org) : ∀ n g l, mE o n g l = b0A a8J o n g l
 | 0, _, _ => rfl
 | n + 1, g, l => by
   rw [mE, b0A, a8n]
   split
   ·rfl
   ·exact a4O o n _ _
theorem b8K : lZ (exO w1 w2 w3 w4 w5 w6 w7) ⟨[3], 0, 0⟩ = 0 := by kernel_rfl
theorem b9h : lZ (exO w1 w2 w3 w4 w5 w6 w7) ⟨[0], 1, 0⟩ = 0 := by kernel_rfl
theorem b7R : mO (exO w1 w2 w3 w4 w5 w6 w7) ⟨[0], 1, 0⟩ = [wM 0] := by
 rw [a8n]
 kernel_rfl
theorem b7p : mE (exO w1 w2 w3 w4 w5 w6 w7) (mu ⟨[3], 0, 0⟩ + 1) ⟨[3], 0, 0⟩ [] = (⟨[1], 0, 0⟩, [a0t 0 1]) := by
 rw [a4O]
 kernel_rfl
end
theorem a7r : Fn prog 75 [] H fun r H' => ∃ o : Org, r = .agg #[.string o.name, o.rv, o.dv, o.cv] ∧ (∃ w1 w2 w3 w4 w5 w6 w7, o = exO w1 w2 w3 w4 w5 w6 w7) ∧ o.In H' ∧ St prog H H' [] := by
 obtain ⟨h1, v, H1, h2, w1, w2, w3, w4, w5, w6, w7, h3, h4, h5⟩ := b0C (H := H)
 exact ⟨h1, v, H1, h2, _, h3, ⟨w1, w2, w3, w4, w5, w6, w7, rfl⟩, h4, h5⟩
theorem b3r (o : Org) (ho : o.In H) (rg : Reg) (sv : Value) (hr : rg.In H sv) (h0 : lZ o rg = 0) (g : Reg) (gone : List Ctl) (hs : mE o (mu rg + 1) rg [] = (g, gone)) :
 Fn prog 76 [.agg #[.string o.name, o.rv, o.dv, o.cv], .agg #[sv, .int .u64 rg.cpl, .int .u64 rg.off]] H fun r H' => ∃ nv lv, r = .tuple #[.agg #[nv, .int .u64 g.cpl, .int .u64 g.off], lv, I 0] ∧ (g.Ok ∧ g.stops.length = rg.stops.length) ∧ St prog H H' [⟨nv, 1, g.stops.flatMap (one u64)⟩, ⟨lv, 3, mC gone⟩] := by
 obtain ⟨h1, v, H1, h2, nv, lv, h3⟩ := b6O o ho rg sv hr
 refine ⟨h1, v, H1, h2, ?_⟩
 rcases h3 with ⟨h, _⟩ | ⟨g', gone', _, he, h4, h5, h6, h7⟩
 ·exact absurd h0 h
 ·rw [hs] at he
  obtain ⟨rfl, rfl⟩ := Prod.mk.inj he
  exact ⟨nv, lv, h4, ⟨h5, h6⟩, h7⟩
theorem a9i : Fn prog 32 [] H fun r H' => r = .bool true ∧ St prog H H' [] := by
 refine .cR func32 rfl (by kernel_rfl) (m := 92) rfl fun l hn => ?_
 simp (disch := omega) only [↓RA, RZ, simprocAttr]
 refine iK (a7r) ?_
 rintro r H1 ⟨o, rfl, ⟨v1, v2, v3, v4, v5, v6, v7, hoe⟩, ho, hT1⟩
 have hS1 := (sR H).trans hT1
 simp only [RT] at hS1
 have f1 : lZ o ⟨[1], 0, 0⟩ = 0 := by rw [hoe]; exact c2p ..
 have f2 : qA o ⟨[1], 0, 0⟩ (mN o) = [jE [39, 40]] := by rw [hoe]; exact c3o ..
 have f3 : lZ o ⟨[3], 0, 0⟩ = 0 := by rw [hoe]; exact b8K ..
 have f4 : mE o (mu ⟨[3], 0, 0⟩ + 1) ⟨[3], 0, 0⟩ [] = (⟨[1], 0, 0⟩, [a0t 0 1]) := by rw [hoe]; exact b7p ..
 have f5 : lZ o ⟨[0], 1, 0⟩ = 0 := by rw [hoe]; exact b9h ..
 have f6 : mO o ⟨[0], 1, 0⟩ = [wM 0] := by rw [hoe]; exact b7R ..
 have hS0 := hS1
 simp (disch := omega) only [↓RA, RZ, simprocAttr]
 refine (sR H1).eNew 4 [(.string ⟨#[]⟩), (.slice none 0 0), (.slice none 0 0), (.slice none 0 0)] rfl rfl rfl nC fun A1 H2 hS2 => ?_
 simp only [RT] at hS2
 simp (disch := omega) only [↓RA, RB, simprocAttr, hn]
 refine hS2.aa 0 rfl [(.string o.name), o.rv, o.dv, o.cv] rfl (by simp [OC, (hS2.sl ho.1).cells.2.1, (hS2.sl ho.2.2.1).cells.2.1, (hS2.sl ho.2.2.2.2.1).cells.2.1]) nC (by simp) fun H3 hS3 => ?_
 simp only [RT] at hS3
 simp (disch := omega) only [↓RA, RZ, simprocAttr, hn, hS3.ag 0 rfl]
 refine hS3.ai [(.int .u64 1)] a9l b9b rfl rfl (by simp [Value.cells]) rfl rfl (by decide) (by decide) fun w1 H4 hS4 => ?_
 simp only [RT] at hS4
 simp (disch := omega) only [↓RA, RZ, simprocAttr, hn, b7z (hS4.rd 1 rfl).cells]
 refine iK (b3y o (ho.ab hS4) ⟨[1], 0, 0⟩ _ ⟨hS4.ax 1 rfl (fun _ => rfl), by decide, by decide, by decide, by decide⟩) ?_
 rintro r H5 ⟨lv, rfl, hT2⟩
 have hS5 := hS4.trans hT2
 simp only [RT] at hS5
 rw [f1]
 rw [if_pos f1, f2] at hS5
 simp (disch := omega) only [↓RA, RZ, simprocAttr, hn, hS5.ag 0 rfl]
 refine hS5.ai [(.int .u64 3)] a9l b9b rfl rfl (by simp [Value.cells]) rfl rfl (by decide) (by decide) fun w2 H6 hS6 => ?_
 simp only [RT] at hS6
 simp (disch := omega) only [↓RA, RZ, simprocAttr, hn, b7z (hS6.rd 3 rfl).cells]
 refine iK (b3r o (ho.ab hS6) ⟨[3], 0, 0⟩ _ ⟨hS6.ax 3 rfl (fun _ => rfl), by decide, by decide, by decide, by decide⟩ f3 _ _ f4) ?_
 rintro r H7 ⟨nv, gv, rfl, -, hT3⟩
 have hS7 := hS6.trans hT3
 simp only [RT] at hS7
 simp (disch := omega) only [↓RA, RZ, simprocAttr, hn]
 refine hS7.eNew 3 [(.slice none 0 0), (.int .u64 0), (.int .u64 0)] rfl rfl rfl mS fun A2 H8 hS8 => ?_
 simp only [RT] at hS8
 simp (disch := omega) only [↓RA, RB, simprocAttr, hn]
 refine hS8.aa 6 rfl [nv, (.int .u64 0), (.int .u64 0)] rfl (by simp [OC, (hS8.rd 4 rfl).cells.2.1]) mS (by simp) fun H9 hS9 => ?_
 simp only [RT] at hS9
 simp (disch := omega) only [↓RA, RZ, simprocAttr, hn, hS9.ag 0 rfl]
 refine hS9.ai [(.int .u64 0)] a9l b9b rfl rfl (by simp [Value.cells]) rfl rfl (by decide) (by decide) fun w3 H10 hS10 => ?_
 simp only [RT] at hS10
 simp (disch := omega) only [↓RA, RZ, simprocAttr, hn, b5a (hS10.rd 7 rfl).cells]
 have hS2 := hS10
 refine iK (b8E o (ho.ab hS10) ⟨[0], 1, 0⟩ _ ⟨hS10.ax 7 rfl (fun _ => rfl), by decide, by decide, by decide, by decide⟩) ?_
 rintro r H11 ⟨iv, rfl, hix, hT4⟩
 have hS11 := hS10.trans hT4
 simp only [RT] at hS11
 rw [if_pos f5, f6] at hix
 have hix2 := hix.step (hS2.aJ (H' := H11))
 obtain ⟨X, hBX, hS12⟩ := hS11.av (os := [⟨ptr A1 0 4, 0, _⟩, ⟨w1, 1, _⟩, ⟨lv, 2, _⟩, ⟨w2, 1, _⟩, ⟨nv, 1, _⟩, ⟨gv, 3, _⟩, ⟨ptr A2 0 3, 0, _⟩, ⟨w3, 1, _⟩])
 rw [f5]
 have hz : ∀ z ∈ [(39 : Int), 40], isN z := by
  intro z hz
  simp only [ez, eF, or_false] at hz
  rcases hz with rfl | rfl <;> exact ⟨by decide, by decide⟩
 have hL1 : ((([jE [39, 40]] : List Nt).length : Nat) : Int) = 1 := rfl
 have hL2 : ((([1] : List Nat).length : Nat) : Int) = 1 := rfl
 have hL3 : ((([a0t 0 1] : List Ctl).length : Nat) : Int) = 1 := rfl
 have hL4 : ((([wM 0] : List Ctl).length : Nat) : Int) = 1 := rfl
 have hN1 : iD ([jE [39, 40]] : List Nt) 0 = jE [39, 40] := rfl
 have hN2 : iD ([1] : List Nat) 0 = 1 := rfl
 have hN3 : iD ([a0t 0 1] : List Ctl) 0 = ⟨1, 0, 1⟩ := rfl
 have hN4 : iD ([wM 0] : List Ctl) 0 = ⟨2, 0, 0⟩ := rfl
 simp (disch := omega) only [↓RA, RB, simprocAttr, hn, eq_self]
 refine Wp.aO kE [(10, 12), (10, 13)] (by kernel_rfl) (by kernel_rfl) ?_
 simp (disch := omega) only [↓RA, RZ, simprocAttr, hn, (hS12.ax 2 rfl (fun _ => rfl)).len, eq_self]
 simp (disch := omega) only [↓RA, RZ, simprocAttr, hn, (hS12.ax 2 rfl (fun _ => rfl)).idx, (hS12.ax 2 rfl (fun _ => rfl)).ag, ntc, hN1, eq_self]
 refine hS12.ai [I 39, I 40] a1d a5A rfl rfl (by simp [Value.cells]) rfl rfl (by decide) (by decide) fun w4 H12 hS13 => ?_
 simp only [RT] at hS13
 simp (disch := omega) only [↓RA, RZ, simprocAttr, hn, eq_self]
 have hF1 := hS13
 refine hS13.cF (c1A [39, 40] hz _ (hS13.ax 8 rfl (fun _ => rfl)) (by decide)) fun H13 hS14 => ?_
 have hiy := hix2.step (hS14.kept hBX)
 simp (disch := omega) only [↓RA, RZ, simprocAttr, hn, eq_self, and_self]
 simp (disch := omega) only [↓RA, RZ, simprocAttr, hn, hS14.ld 6 rfl, (hS14.ax 4 rfl (fun _ => rfl)).len, eq_self]
 simp (disch := omega) only [↓RA, RZ, simprocAttr, hn, (hS14.ax 4 rfl (fun _ => rfl)).idx, (hS14.ax 4 rfl (fun _ => rfl)).ld, one, u64, hN2, eq_self]
 simp (disch := omega) only [↓RA, RZ, simprocAttr, hn, (hS14.ax 5 rfl (fun _ => rfl)).len, eq_self]
 simp (disch := omega) only [↓RA, RZ, simprocAttr, hn, (hS14.ax 5 rfl (fun _ => rfl)).idx, (hS14.ax 5 rfl (fun _ => rfl)).ag, Ctl.cells, a4d, hN3, eq_self, and_self]
 simp (disch := omega) only [↓RA, RZ, simprocAttr, hn, hiy.1.len, eq_self]
 simp (disch := omega) only [↓RA, RZ, simprocAttr, hn, hiy.1.idx, hiy.1.bp, hiy.1.ld, Ctl.cells, ntc, (hS13.ax 2 rfl (fun _ => rfl)).ag, (hS14.ax 2 rfl (fun _ => rfl)).ag, c6t, hN1, hN4, eq_self, and_self]
 exact hS0.trans (hS11.aj hBX hS14).forget
end Go.Ds
namespace Go.Ds
open Go.Proofs
set_option maxRecDepth 10000
def ltP (x y : Int × Int) : Prop := x.1 < y.1 ∨ (x.1 = y.1 ∧ x.2 < y.2)
theorem yX {x : Int × Int} : ¬ ltP x x := by unfold ltP; omega
theorem b4d {x y z : Int × Int} (h : ltP x y) (k : ltP y z) : ltP x z := by unfold ltP at *; omega
theorem a4u : ∀ (l m : List (Int × Int)), l.Pairwise ltP → m.Pairwise ltP → (∀ x, x ∈ l ↔ x ∈ m) → l = m
 | [], [], _, _, _ => rfl
 | [], b :: m, _, _, h => absurd ((h b).2 (dS ..)) eF
 | a :: l, [], _, _, h => absurd ((h a).1 (dS ..)) eF
 | a :: l, b :: m, hl, hm, h => by
   rw [ib] at hl hm
   have hab : a = b := by
    rcases ez.1 ((h a).1 (dS ..)) with e | e
    ·exact e
    ·rcases ez.1 ((h b).2 (dS ..)) with e2 | e2
     ·exact e2.symm
     ·exact absurd (b4d (hm.1 a e) (hl.1 b e2)) yX
   subst hab
   congr 1
   refine a4u l m hl.2 hm.2 fun x => ?_
   constructor
   ·intro hx
    rcases ez.1 ((h x).1 (ey _ hx)) with e | e
    ·subst e
     exact absurd (hl.1 x hx) yX
    ·exact e
   ·intro hx
    rcases ez.1 ((h x).2 (ey _ hx)) with e | e
    ·subst e
     exact absurd (hm.1 x hx) yX
    ·exact e
theorem b6a {es : List (Int × Int)} (h : es.Pairwise fun a b => le2 a b = true) {i j : Nat} (hij : i < j) (hj : j < es.length) : le2 (iD es i) (iD es j) = true := by
 rw [jN _ _ (by omega), jN _ _ hj]
 exact eh.1 h i j (by omega) hj hij
theorem a9U {es : List (Int × Int)} (h : es.Pairwise fun a b => le2 a b = true) : ∀ m, m ≤ es.length → (zF es m).Pairwise ltP ∧ ∀ x, x ∈ zF es m ↔ ∃ j, j < m ∧ iD es j = x
 | 0, _ => ⟨by simp [zF], fun x => by simp [zF]⟩
 | m + 1, hm => by
   obtain ⟨h1, h2⟩ := a9U h m (by omega)
   rw [sH]
   by_cases hc : m = 0 ∨ iD es m ≠ iD es (m - 1)
   ·rw [if_pos hc]
    refine ⟨?_, fun x => ?_⟩
    ·rw [fm]
     refine ⟨h1, by simp, fun a ha b hb => ?_⟩
     obtain ⟨j, hj, rfl⟩ := (h2 a).1 ha
     obtain rfl := dB.1 hb
     have h3 := (oR _ _).1 (b6a h hj (by omega))
     rcases hc with hc | hc
     ·omega
     ·by_cases he : j = m - 1
      ·subst he
       have hne : ¬ (iD es (m - 1) = iD es m) := fun e => hc e.symm
       rw [Prod.ext_iff] at hne
       unfold ltP
       omega
      ·have h4 := (oR _ _).1 (b6a h (show j < m - 1 by omega) (by omega))
       have h5 := (oR _ _).1 (b6a h (show m - 1 < m by omega) (by omega))
       have hne : ¬ (iD es (m - 1) = iD es m) := fun e => hc e.symm
       rw [Prod.ext_iff] at hne
       unfold ltP
       omega
    ·rw [dJ, h2, dB]
     constructor
     ·rintro (⟨j, hj, e⟩ | e)
      ·exact ⟨j, by omega, e⟩
      ·exact ⟨m, by omega, e.symm⟩
     ·rintro ⟨j, hj, e⟩
      rcases dw.1 hj with e2 | e2
      ·exact .inl ⟨j, e2, e⟩
      ·subst e2
       exact .inr e.symm
   ·rw [if_neg hc, dm]
    refine ⟨h1, fun x => ?_⟩
    rw [h2]
    constructor
    ·rintro ⟨j, hj, e⟩
     exact ⟨j, by omega, e⟩
    ·rintro ⟨j, hj, e⟩
     rcases dw.1 hj with e2 | e2
     ·exact ⟨j, e2, e⟩
     ·subst e2
      have hc' : ¬ (j = 0) ∧ iD es j = iD es (j - 1) := ⟨fun e => hc (.inl e), ga fun e => hc (.inr e)⟩
      exact ⟨j - 1, by omega, by rw [← hc'.2]; exact e⟩
theorem c2V (l : List (Int × Int)) : (dd (vT l)).Pairwise ltP := (a9U (xD l) _ (di _)).1
theorem a1s {l : List (Int × Int)} {x : Int × Int} : x ∈ dd (vT l) ↔ x ∈ l := by
 unfold dd
 rw [(a9U (xD l) _ (di _)).2 x, ← (oM l).mem_iff]
 constructor
 ·rintro ⟨j, hj, rfl⟩
  exact iG hj
 ·intro hx
  obtain ⟨j, hj, e⟩ := dL.1 hx
  exact ⟨j, hj, by rw [jN _ _ hj]; exact e⟩
def a5M (o : Org) (cp : Nat) (thr : Bool) (c x : Ct) : Prop := ∃ i, i < o.cpls.length ∧ wT cp thr c (iD o.cpls i) i = true ∧ qD o (to1 (iD o.cpls i) c) = true ∧ x = to1 (iD o.cpls i) c
theorem a3L {o : Org} {cp : Nat} {thr : Bool} {c x : Ct} {q : List Ct} : ∀ n, x ∈ stepN o cp thr c q n ↔ x ∈ q ∨ ∃ i, i < n ∧ wT cp thr c (iD o.cpls i) i = true ∧ qD o (to1 (iD o.cpls i) c) = true ∧ x = to1 (iD o.cpls i) c
 | 0 => by
   unfold stepN
   simp
 | n + 1 => by
   rw [mF]
   have ih := a3L (o := o) (cp := cp) (thr := thr) (c := c) (x := x) (q := q) n
   have hs : x ∈ step1 o cp thr c (stepN o cp thr c q n) n ↔ x ∈ stepN o cp thr c q n ∨ (wT cp thr c (iD o.cpls n) n = true ∧ qD o (to1 (iD o.cpls n) c) = true ∧ x = to1 (iD o.cpls n) c) := by
    unfold step1
    split
    ·rename_i hh
     simp only [cZ] at hh
     rw [dJ, dB]
     constructor
     ·rintro (h | h)
      ·exact .inl h
      ·exact .inr ⟨hh.1.1, hh.1.2, h⟩
     ·rintro (h | ⟨_, _, h⟩)
      ·exact .inl h
      ·exact .inr h
    ·rename_i hh
     simp only [cZ, dM, decide_eq_false_iff_not, not_and, dG] at hh
     constructor
     ·exact fun h => .inl h
     ·rintro (h | ⟨h1, h2, h3⟩)
      ·exact h
      ·rw [h3]
       exact hh ⟨h1, h2⟩
   rw [hs, ih]
   constructor
   ·rintro ((h | ⟨i, hi, h⟩) | h)
    ·exact .inl h
    ·exact .inr ⟨i, by omega, h⟩
    ·exact .inr ⟨n, by omega, h⟩
   ·rintro (h | ⟨i, hi, h⟩)
    ·exact .inl (.inl h)
    ·rcases dw.1 hi with e | e
     ·exact .inl (.inr ⟨i, e, h⟩)
     ·subst e
      exact .inr h
theorem sC {o : Org} {cp : Nat} {thr : Bool} {c x : Ct} {q : List Ct} : x ∈ stepF o cp thr c q ↔ x ∈ q ∨ a5M o cp thr c x := a3L _
inductive Star {α : Type} (R : α → α → Prop) : α → α → Prop
 | refl (a : α) : Star R a a
 | tail {a b c : α} : Star R a b → R b c → Star R a c
theorem Star.stay {α : Type} {R : α → α → Prop} {p : α → Prop} (hc : ∀ a, p a → ∀ b, R a b → p b) {a b : α} (ha : p a) (h : Star R a b) : p b := by
 induction h with
 | refl => exact ha
 | tail _ h2 ih => exact hc _ ih _ h2
theorem a2H {o : Org} {cp : Nat} {l : List Ct} {x : Ct} : x ∈ mL o cp l ↔ ∃ c, c ∈ l ∧ a5M o cp false c x := by
 unfold mL
 have h : ∀ (l : List Ct) (q : List Ct), x ∈ l.foldl (fun q c => stepF o cp false c q) q ↔ x ∈ q ∨ ∃ c, c ∈ l ∧ a5M o cp false c x := by
  intro l
  induction l with
  | nil => intro q; simp
  | cons a l ih =>
    intro q
    rw [eX, ih, sC]
    constructor
    ·rintro ((h | h) | ⟨c, hc, h⟩)
     ·exact .inl h
     ·exact .inr ⟨a, dS .., h⟩
     ·exact .inr ⟨c, ey _ hc, h⟩
    ·rintro (h | ⟨c, hc, h⟩)
     ·exact .inl (.inl h)
     ·rcases ez.1 hc with e | e
      ·subst e
       exact .inl (.inr h)
      ·exact .inr ⟨c, e, h⟩
 rw [h]
 simp
theorem a4m {o : Org} {cp : Nat} {thr : Bool} {c : Ct} {q : List Ct} : ∀ n, ∃ t, stepN o cp thr c q n = q ++ t
 | 0 => ⟨[], by simp [stepN]⟩
 | n + 1 => by
   obtain ⟨t, ht⟩ := a4m (o := o) (cp := cp) (thr := thr) (c := c) (q := q) n
   rw [mF, ht]
   unfold step1
   split
   ·exact ⟨t ++ [to1 (iD o.cpls n) c], by rw [dC]⟩
   ·exact ⟨t, rfl⟩
theorem a7s {α : Type} [Inhabited α] (q t : List α) {j : Nat} (h : j < q.length) : iD (q ++ t) j = iD q j := by
 rw [jN _ _ (by simp; omega), jN _ _ h, List.getElem_append_left h]
theorem b1l {o : Org} (hf : o.Fine) (cp : Nat) : ∀ (n i : Nat) (q : List Ct), Que o q → 1025 ≤ n + i → (∀ j, j < i → j < q.length → ∀ y, a5M o cp true (iD q j) y → y ∈ q) →
 ∀ x, x ∈ bfs o cp n i q ↔ ∃ a, a ∈ q ∧ Star (a5M o cp true) a x
 | 0, i, q, hq, hn, hc, x => by
   have hl := hq.len hf
   have hcl : ∀ a, a ∈ q → ∀ y, a5M o cp true a y → y ∈ q := fun a ha y hy => by
    obtain ⟨j, hj, e⟩ := dL.1 ha
    exact hc j (by omega) hj y (by rw [jN _ _ hj, e]; exact hy)
   unfold bfs
   exact ⟨fun h => ⟨x, h, .refl x⟩, fun ⟨a, ha, hs⟩ => hs.stay hcl ha⟩
 | n + 1, i, q, hq, hn, hc, x => by
   rw [bfs]
   split
   ·rename_i hi
    obtain ⟨t, ht⟩ := a4m (o := o) (cp := cp) (thr := true) (c := iD q i) (q := q) o.cpls.length
    have ht : stepF o cp true (iD q i) q = q ++ t := ht
    rw [b1l hf cp n (i + 1) _ (hq.stepF cp true _) (by omega) (fun j hj hjl y hy => ?_)]
    ·constructor
     ·rintro ⟨a, ha, hs⟩
      rcases sC.1 ha with h | h
      ·exact ⟨a, h, hs⟩
      ·refine ⟨iD q i, iG hi, ?_⟩
       clear ha
       induction hs with
       | refl => exact .tail (.refl _) h
       | tail _ h2 ih => exact .tail ih h2
     ·rintro ⟨a, ha, hs⟩
      exact ⟨a, sC.2 (.inl ha), hs⟩
    ·rcases dw.1 hj with e | e
     ·rw [ht, a7s _ _ (by omega)] at hy
      exact sC.2 (.inl (hc j e (by omega) y hy))
     ·subst e
      rw [ht, a7s _ _ hi] at hy
      exact sC.2 (.inr hy)
   ·rename_i hi
    have hcl : ∀ a, a ∈ q → ∀ y, a5M o cp true a y → y ∈ q := fun a ha y hy => by
     obtain ⟨j, hj, e⟩ := dL.1 ha
     exact hc j (by omega) hj y (by rw [jN _ _ hj, e]; exact hy)
    exact ⟨fun h => ⟨x, h, .refl x⟩, fun ⟨a, ha, hs⟩ => hs.stay hcl ha⟩
def Snd (o : Org) (r : Reg) (c x : Ct) : Prop := (x = c ∧ r.off.testBit c.1.toNat = false) ∨ ∃ a, a5M o r.cpl false c a ∧ Star (a5M o r.cpl true) a x
theorem b0R (o : Org) (cp : Nat) (l : List Ct) : Que o (mL o cp l) := by
 unfold mL
 have h : ∀ (l : List Ct) (q : List Ct), Que o q → Que o (l.foldl (fun q c => stepF o cp false c q) q) := by
  intro l
  induction l with
  | nil => exact fun q h => h
  | cons a l ih => exact fun q h => ih _ (h.stepF cp false a)
 exact h l [] (Que.nil o)
theorem a3h {o : Org} (hf : o.Fine) {r : Reg} {l : List Ct} {x : Ct} : x ∈ rX o r l ↔ ∃ c, c ∈ l ∧ Snd o r c x := by
 unfold rX
 rw [a1s, dJ, ee, b1l hf r.cpl 1100 0 _ (b0R o r.cpl l) (by decide) (fun j hj => absurd hj (dO _))]
 constructor
 ·rintro (⟨h1, h2⟩ | ⟨a, ha, hs⟩)
  ·exact ⟨x, h1, .inl ⟨rfl, by simpa using h2⟩⟩
  ·obtain ⟨c, hc, h⟩ := a2H.1 ha
   exact ⟨c, hc, .inr ⟨a, h, hs⟩⟩
 ·rintro ⟨c, hc, h⟩
  rcases h with ⟨rfl, h2⟩ | ⟨a, h, hs⟩
  ·exact .inl ⟨hc, by simpa using h2⟩
  ·exact .inr ⟨a, a2H.2 ⟨c, hc, h⟩, hs⟩
theorem a1O {o : Org} (hf : o.Fine) {r : Reg} {l : List Ct} {p : Ct} : p ∈ lU o r l ↔ ∃ c, c ∈ l ∧ ∃ x, Snd o r c x ∧ p ∈ nU o r x := by
 unfold lU wN
 rw [a1s, dY]
 constructor
 ·rintro ⟨x, hx, hp⟩
  obtain ⟨c, hc, h⟩ := (a3h hf).1 hx
  exact ⟨c, hc, x, h, hp⟩
 ·rintro ⟨c, hc, x, h, hp⟩
  exact ⟨x, (a3h hf).2 ⟨c, hc, h⟩, hp⟩
theorem a4E (o : Org) (r : Reg) (l : List Ct) : (lU o r l).Pairwise ltP := c2V _
theorem b0i {o : Org} (hf : o.Fine) {r : Reg} {c p : Ct} : p ∈ lU o r [c] ↔ ∃ x, Snd o r c x ∧ p ∈ nU o r x := by
 rw [a1O hf]
 constructor
 ·rintro ⟨c', hc, h⟩
  rw [dB.1 hc] at h
  exact h
 ·rintro h
  exact ⟨c, dB.2 rfl, h⟩
def IsP (o : Org) (p : Ct) : Prop := 0 ≤ p.1 ∧ p.1 < o.ranks.length ∧ 0 ≤ p.2 ∧ p.2 < (iD o.ranks p.1.toNat).wind.length
theorem a9B {rs : List Rk} {s : Stp} {key : Int} {p : Ct} (h : p ∈ qW rs s key) : 0 ≤ p.1 ∧ p.1 < rs.length ∧ 0 ≤ p.2 ∧ p.2 < (iD rs p.1.toNat).wind.length := by
 unfold qW at h
 obtain ⟨d, hd, rfl⟩ := dz.1 (a1s.1 h)
 have hh := (ee.1 hd).2
 unfold yE at hh
 rw [cZ, cZ, dM, decide_eq_true_eq, decide_eq_true_eq, decide_eq_false_iff_not] at hh
 obtain ⟨⟨h1, h2⟩, h3⟩ := hh
 have e : (oJ rs d key).1 = d.rank := by unfold oJ; rw [if_neg h1]
 rw [e]
 exact ⟨by omega, by omega, h2, h3⟩
theorem b0F {o : Org} {r : Reg} {c p : Ct} (h : p ∈ nU o r c) : IsP o p := by
 unfold nU at h
 obtain ⟨i, _, h⟩ := dY.1 h
 split at h
 ·exact a9B h
 ·exact absurd h eF
theorem a7N {o : Org} {r : Reg} {l : List Ct} {p : Ct} (h : p ∈ wN o r l) : IsP o p := by
 unfold wN at h
 obtain ⟨c, _, h⟩ := dY.1 (a1s.1 h)
 exact b0F h
theorem a9A {o : Org} {r : Reg} {l : List Ct} {p : Ct} (h : p ∈ lU o r l) : IsP o p := a7N h
theorem IsP.small {o : Org} {H : Heap} (hf : o.Fine) (ho : o.In H) {p : Ct} (h : IsP o p) : -1000000000 ≤ p.1 ∧ p.1 ≤ 1000000000 ∧ -1000000000 ≤ p.2 ∧ p.2 ≤ 1000000000 := by
 obtain ⟨h1, h2, h3, h4⟩ := h
 have hr := (ho.2.1 _ (iG (xs := o.ranks) (j := p.1.toNat) (by omega))).2
 have := hf.rlen
 exact ⟨by omega, by omega, by omega, by omega⟩
end Go.Ds
namespace Go.Ds
open Go.Proofs Go.Proofs.Tryz
variable {H : Heap}
set_option maxRecDepth 10000
set_option maxHeartbeats 1000000
def ctz (x : Nat) : Nat := ((List.range 64).find? fun i => x.testBit i).getD 64
theorem a3e {x : Nat} (h0 : x ≠ 0) (h1 : x < 18446744073709551616) : ctz x < 64 ∧ x.testBit (ctz x) = true ∧ ∀ j, j < ctz x → x.testBit j = false := by
 have hx : ∃ i, i < 64 ∧ x.testBit i = true := by
  refine ga fun hn => h0 ?_
  refine gh fun i => ?_
  rw [iB]
  by_cases hi : i < 64
  ·by_cases hb : x.testBit i = true
   ·exact absurd ⟨i, hi, hb⟩ hn
   ·simpa using hb
  ·exact Nat.testBit_lt_two_pow (dN (show x < 2 ^ 64 by simpa using h1) (fo (by decide) (by omega)))
 unfold ctz
 cases hf : (List.range 64).find? fun i => x.testBit i with
 | none =>
   obtain ⟨i, hi, hb⟩ := hx
   have := gw.1 hf i (dx.2 hi)
   exact absurd hb (by simpa using this)
 | some i =>
   obtain ⟨hb, ys, bs, he, hn⟩ := List.find?_eq_some_iff_append.1 hf
   have hi : i < 64 := dx.1 (he ▸ (by simp : i ∈ ys ++ i :: bs))
   refine ⟨hi, hb, fun j hj0 => ?_⟩
   have hj : j < i := hj0
   have hl : ys.length = i := by
    have h2 : (List.range 64)[ys.length]? = some i := by rw [he]; simp
    have h3 : ys.length < 64 := by
     have := congrArg List.length he
     simp at this
     omega
    rw [gS h3] at h2
    exact cY h2
   have hm : j ∈ ys := by
    have h2 : (List.range 64)[j]? = some j := gS (by omega)
    rw [he, eN (by simpa using (hl ▸ hj))] at h2
    exact dR h2
   simpa using hn j hm
theorem a3X {x : Nat} (h0 : x ≠ 0) (h1 : x < 18446744073709551616) : ∃ m, x = 2 ^ ctz x * (2 * m + 1) := by
 obtain ⟨c1, c2, c3⟩ := a3e h0 h1
 generalize ctz x = k at c1 c2 c3
 have hd : x % 2 ^ k = 0 := by
  refine gh fun i => ?_
  rw [Nat.testBit_mod_two_pow, iB]
  by_cases hi : i < k
  ·rw [c3 i hi, Bool.and_false]
  ·rw [decide_eq_false hi, fw]
 have h2 : x / 2 ^ k % 2 = 1 := by
  rw [← eV]
  have := c2
  rw [tb] at this
  exact of_decide_eq_true this
 refine ⟨x / 2 ^ k / 2, ?_⟩
 have h3 := Nat.div_add_mod x (2 ^ k)
 have h4 := Nat.div_add_mod (x / 2 ^ k) 2
 rw [hd, ij] at h3
 rw [← h3]
 congr 1
 rw [h3]
 omega
theorem b7V {x : Nat} (h0 : x ≠ 0) (h1 : x < 18446744073709551616) : x &&& (18446744073709551616 - x) = 2 ^ ctz x := by
 obtain ⟨m, hm⟩ := a3X h0 h1
 obtain ⟨c1, _, _⟩ := a3e h0 h1
 generalize ctz x = k at hm c1
 have e64 : (18446744073709551616 : Nat) = 2 ^ k * (2 * 2 ^ (63 - k)) := by
  have : 2 ^ k * (2 * 2 ^ (63 - k)) = 2 ^ 64 := by rw [← Nat.pow_succ', ← Nat.pow_add]; congr 1; omega
  rw [this]
 have hml : m < 2 ^ (63 - k) := by
  rw [e64, hm] at h1
  have := Nat.lt_of_mul_lt_mul_left h1
  omega
 have e2 : 18446744073709551616 - x = 2 ^ k * (2 * (2 ^ (63 - k) - (m + 1)) + 1) := by
  rw [e64, hm, ← Nat.mul_sub]
  congr 1
  omega
 rw [e2, hm]
 refine gh fun i => ?_
 rw [Nat.testBit_and, fW]
 have hs : ∀ y : Nat, (2 ^ k * y).testBit i = (decide (k ≤ i) && y.testBit (i - k)) := fun y => by rw [Nat.mul_comm, Nat.testBit_mul_two_pow]
 rw [hs, hs]
 by_cases hi : k ≤ i
 ·rw [decide_eq_true hi, gj, gj]
  by_cases he : i = k
  ·subst he
   rw [gu, Nat.testBit_zero, Nat.testBit_zero]
   simp
  ·obtain ⟨j, hj⟩ : ∃ j, i - k = j + 1 := ⟨i - k - 1, by omega⟩
   rw [hj, Nat.testBit_succ, Nat.testBit_succ, show (2 * m + 1) / 2 = m by omega, show (2 * (2 ^ (63 - k) - (m + 1)) + 1) / 2 = 2 ^ (63 - k) - (m + 1) by omega, Nat.testBit_two_pow_sub_succ hml, decide_eq_false (by omega : ¬ k = i)]
   cases m.testBit j <;> simp
 ·rw [decide_eq_false hi, fw, decide_eq_false (by omega)]
  rfl
theorem c3X : ((List.range 64).all fun k => decide (2 ^ k * 285870213051353865 % 18446744073709551616 / 288230376151711744 < 64) && decide (t64.getD (2 ^ k * 285870213051353865 % 18446744073709551616 / 288230376151711744) 99 = k)) = true := by kernel_rfl
theorem b6H {P : Program} {t : TypeId} {n : Nat} {elem : TypeId} {size : Nat} (ha : P.underlying t = some (.array n elem)) (hs : iF P elem = some size) (A i : Nat) (k : IntKind) (j : Int) (h0 : 0 ≤ j) (h1 : j < n) :
 vV (iV P t) P t (.pointer (some ⟨A, i, none⟩)) (.int k j) = some (.pointer (some ⟨A, i + j.toNat * size, none⟩)) := by
 have hn : iV P t = none := by simp [iV, iJ, ha]
 rw [hn]
 simp only [vV, a2o, ha, hs, da]
 rw [if_pos (by simp [h0, h1])]
theorem c2n (k : IntKind) (j : Int) (h0 : 0 ≤ j) (h1 : j < 64) : vV (iV prog 320) prog 320 (.pointer (some ⟨0, 0, none⟩)) (.int k j) = some (.pointer (some ⟨0, 0 + j.toNat * 1, none⟩)) :=
 b6H (n := 64) (elem := 5) (size := 1) (by kernel_rfl) (by kernel_rfl) 0 0 k j h0 h1
theorem b4g (g : Nat) (l : List Value) (K : Value → Prop) : jM (.global g) l K = K (.pointer (some ⟨g, 0, none⟩)) := by simp [jM, iT, ev]
theorem gld (hG : Glob gH H) (j : Nat) (hj : j < 64) (s : Option Nat) : oG (some false) s H (.pointer (some ⟨0, j, none⟩)) = some (.int .u8 (t64.getD j 0 : Nat)) := by
 have h0 : iO H 0 = some (.cells (t64.map fun (n : Nat) => Value.int .u8 (.ofNat n)) 5 false 0 1) := by
  rw [hG.same 0 (by decide)]
  rfl
 simp only [oG, jF, h0]
 have hl : (t64.map fun (n : Nat) => Value.int .u8 (.ofNat n)).length = 64 := by rw [dD]; rfl
 rw [if_pos (by rw [hl]; simp; omega)]
 simp only [da]
 rw [dT (by omega), dI, ij, ef, dr (show j < t64.length from hj)]
 rw [dP, de, dr (show j < t64.length from hj)]
 rfl
theorem a9Y (m : Int) : IntKind.wrap .u64 m = m % 18446744073709551616 := by
 show (if (false && decide (m % 18446744073709551616 ≥ 9223372036854775808)) = true then m % 18446744073709551616 - 18446744073709551616 else m % 18446744073709551616) = _
 simp
theorem c4W (hG : Glob gH H) (x : Nat) (h0 : x ≠ 0) (h1 : x < 18446744073709551616) : Fn prog 189 [.int .u64 x] H fun r H' => r = I (ctz x) ∧ St prog H H' [] := by
 obtain ⟨c1, _, _⟩ := a3e h0 h1
 have hd := dA.1 c3X (ctz x) (dx.2 c1)
 rw [cZ, decide_eq_true_eq, decide_eq_true_eq] at hd
 have eA : IntKind.wrap .u64 (0 - (x : Int)) = ((18446744073709551616 - x : Nat) : Int) := by
  rw [a9Y]
  omega
 have eB : IntKind.wrap .u64 ((BitVec.ofInt (IntKind.bits .u64) (x : Int) &&& BitVec.ofInt (IntKind.bits .u64) ((18446744073709551616 - x : Nat) : Int)).toNat : Int) = ((2 ^ ctz x : Nat) : Int) := by
  rw [gq, uN x h1, uN _ (by omega), b7V h0 h1]
  exact oQ _ (by omega) (by have := a6a (ctz x) c1; omega)
 have eC : IntKind.wrap .u64 (((2 ^ ctz x : Nat) : Int) * 285870213051353865) = ((2 ^ ctz x * 285870213051353865 % 18446744073709551616 : Nat) : Int) := by
  rw [a9Y]
  rfl
 have eD : ((2 ^ ctz x * 285870213051353865 % 18446744073709551616 : Nat) : Int).fdiv (2 ^ min 58 (IntKind.bits .u64)) = ((2 ^ ctz x * 285870213051353865 % 18446744073709551616 / 288230376151711744 : Nat) : Int) := by
  rw [show (2 : Int) ^ min 58 (IntKind.bits .u64) = ((288230376151711744 : Nat) : Int) from rfl]
  exact gK _ (by omega)
 have hd1 := hd.1
 have hd2 := hd.2
 generalize 2 ^ ctz x * 285870213051353865 % 18446744073709551616 / 288230376151711744 = i at eD hd1 hd2
 refine .aV func189 rfl (by kernel_rfl) (m := 14) rfl fun l hn g0 => ?_
 have iO := gld hG i hd1 (some 1)
 rw [show t64.getD i 0 = ctz x from by rw [← hd2, de, de, dr (show i < t64.length from hd1)]; rfl] at iO
 have hidx := c2n .u64 (i : Int) (by omega) (by omega)
 rw [fV, Nat.mul_one, ff] at hidx
 simp (disch := omega) only [↓RA, RB, simprocAttr, hn, g0]
 refine iC (fun q => ?_) (fun q => ?_)
 ·exfalso; omega
 simp (disch := omega) only [↓RA, RZ, simprocAttr, hn, g0, c5h, eA, eB, eC, eD, b4g, iO, hidx, q]
 first | exact (sR H) | exact ⟨rfl, (sR H)⟩
theorem a5G {x : Nat} (h0 : x ≠ 0) (h1 : x < 18446744073709551616) (j : Nat) : (x &&& (x - 1)).testBit j = (x.testBit j && !decide (j = ctz x)) := by
 obtain ⟨m, hm⟩ := a3X h0 h1
 generalize ctz x = k at hm
 have hp : 0 < 2 ^ k := Nat.two_pow_pos k
 have e1 : x = 2 ^ (k + 1) * m + 2 ^ k := by rw [hm, Nat.pow_succ, Nat.mul_add, Nat.mul_one, Nat.mul_assoc]
 have e2 : x - 1 = 2 ^ (k + 1) * m + (2 ^ k - 1) := by omega
 have hl : 2 ^ k < 2 ^ (k + 1) := Nat.pow_lt_pow_right (by decide) (by omega)
 rw [Nat.testBit_and, e2]
 rw [e1, Nat.testBit_two_pow_mul_add m hl, Nat.testBit_two_pow_mul_add m (by omega : 2 ^ k - 1 < 2 ^ (k + 1))]
 by_cases hj : j < k + 1
 ·rw [if_pos hj, if_pos hj, fW, Nat.testBit_two_pow_sub_one]
  by_cases he : j = k
  ·simp [he]
  ·simp [show ¬ k = j by omega]
 ·rw [if_neg hj, if_neg hj, show decide (j = k) = false from decide_eq_false (by omega)]
  simp
theorem b3t {x : Nat} (h0 : x ≠ 0) (h1 : x < 18446744073709551616) : lQ x = ctz x :: lQ (x &&& (x - 1)) := by
 obtain ⟨c1, c2, c3⟩ := a3e h0 h1
 have hb := a5G h0 h1
 generalize ctz x = k at c1 c2 c3 hb
 obtain ⟨t, ht⟩ := uW c1
 have hnd : (List.range 64).Nodup := List.nodup_range
 unfold lQ
 rw [ht, eu, eu, List.filter_cons_of_pos (by simpa using c2), List.filter_cons_of_neg (by rw [hb]; simp)]
 rw [ht] at hnd
 have e1 : (List.range k).filter (fun i => x.testBit i) = [] := List.filter_eq_nil_iff.2 fun i hi => by simpa using c3 i (dx.1 hi)
 have e2 : (List.range k).filter (fun i => (x &&& (x - 1)).testBit i) = [] := List.filter_eq_nil_iff.2 fun i hi => by rw [hb, c3 i (dx.1 hi)]; simp
 rw [e1, e2, fM, fM]
 congr 1
 refine List.filter_congr fun i hi => ?_
 have hne : i ≠ k := fun e => by
  subst e
  exact (List.nodup_cons.1 (List.nodup_append.1 hnd).2.1).1 hi
 rw [hb, decide_eq_false hne]
 simp
theorem a8L : lQ 0 = [] := List.filter_eq_nil_iff.2 fun i _ => by simp
def pU (x : Nt) : List Int := (lQ x.1).map (fun (i : Nat) => (i : Int)) ++ (lQ x.2).map fun (i : Nat) => 64 + (i : Int)
def a6r (x : Nt) (i : Nat) : Nat := if i = 0 then x.1 else x.2
def a6b (x : Nt) (i : Nat) : List Int := (lQ (a6r x i)).map fun (j : Nat) => 64 * (i : Int) + (j : Int)
def a5k (x : Nt) (i : Nat) : List Int := (List.range i).flatMap (a6b x)
theorem a0q (x : Nt) (i : Nat) : a5k x (i + 1) = a5k x i ++ a6b x i := by
 unfold a5k
 rw [eo, dH, dF, eQ, dm]
theorem a7a (x : Nt) : a5k x 2 = pU x := by
 rw [a0q, a0q]
 unfold pU a5k a6b a6r
 simp
theorem b9w {x : Nt} (hx : Nt.Ok x) (i : Nat) : a6r x i < 18446744073709551616 := by
 unfold a6r
 split
 ·exact hx.1
 ·exact hx.2
theorem c5T (a b : Int) : pI prog 277 (.agg #[.int .u64 a, .int .u64 b]) (I 0) = some (.int .u64 a) := by kernel_rfl
theorem c5w (a b : Int) : pI prog 277 (.agg #[.int .u64 a, .int .u64 b]) (I 1) = some (.int .u64 b) := by kernel_rfl
theorem c6l (x : Nt) (i : Nat) (h : i < 2) : a2Z (oX prog 277) prog 277 (.agg #[.int .u64 x.1, .int .u64 x.2]) (I i) = some (.int .u64 (a6r x i)) := by
 rw [← a8j]
 rcases (by omega : i = 0 ∨ i = 1) with rfl | rfl
 ·exact c5T _ _
 ·exact c5w _ _
theorem c2v (x : Nt) (hx : Nt.Ok x) (A : Nat) (f : Value) (J : List Int → Heap → Prop) (h0 : J [] H) (hg : ∀ d H1, J d H1 → Var H1 A 2 [.int .u64 x.1, .int .u64 x.2] ∧ Glob gH H1)
 (hst : ∀ d H1 H2, J d H1 → St prog H1 H2 [] → J d H2)
 (hf : ∀ d c e H1, pU x = d ++ c :: e → J d H1 → qI prog f [I c] H1 fun v H2 => v = .bool true ∧ J (d ++ [c]) H2) :
 FnS prog 188 [f, ptr A 0 2] H fun _ H' => J (pU x) H' := by
 have hV0 := (hg _ _ h0).1
 refine FnS.aW func188 rfl (by kernel_rfl) fun l hl => ?_
 have hn : l.length = 29 := by rw [hl]; rfl
 have g0 : get l 0 = f := by rw [hl]; rfl
 have g1 : get l 1 = (ptr A 0 2) := by rw [hl]; rfl
 clear hl
 simp (disch := omega) only [↓RA, RZ, simprocAttr, hn, g1, hV0.ld, b3T]
 refine Wp.al (fun n l H' => l.length = 29 ∧ get l 0 = f ∧ get l 1 = ptr A 0 2 ∧ get l 9 = .agg #[.int .u64 x.1, .int .u64 x.2] ∧ ∃ i : Nat, n + i = 2 ∧ get l 10 = I i ∧ J (a5k x i) H') 2 ?_ ?_
 ·simp (disch := omega) only [RB, RC, simprocAttr, hn, g0, g1]
  exact ⟨0, rfl, rfl, h0⟩
 rintro n l H9 ⟨hn, g0, g1, g9, i, hi, qR, hJ⟩
 simp (disch := omega) only [↓RA, RB, simprocAttr, hn, qR]
 refine iC (fun q1 => ?_) (fun q1 => ?_)
 ·have hix := c6l x i (by omega)
  have hwl := b9w hx i
  simp (disch := omega) only [↓RA, RZ, simprocAttr, hn, g9, qR, q1, hix]
  refine Wp.al (fun n2 l H' => l.length = 29 ∧ get l 0 = f ∧ get l 1 = ptr A 0 2 ∧ get l 9 = .agg #[.int .u64 x.1, .int .u64 x.2] ∧ get l 10 = I i ∧ get l 3 = I i ∧ ∃ (y : Nat) (d : List Nat), (n2 = (lQ y).length ∧ y < 18446744073709551616 ∧ lQ (a6r x i) = d ++ lQ y) ∧ get l 4 = .int .u64 y ∧ J (a5k x i ++ d.map fun (j : Nat) => 64 * (i : Int) + (j : Int)) H') (lQ (a6r x i)).length ?_ ?_
  ·simp (disch := omega) only [RB, RC, simprocAttr, hn, g0, g1, g9, qR]
   exact ⟨a6r x i, [], ⟨rfl, hwl, rfl⟩, rfl, by rw [fI, dm]; exact hJ⟩
  rintro n2 l H8 ⟨hn, g0, g1, g9, qR, g3, y, d, ⟨hn2, hy, hbd⟩, g4, hJ2⟩
  simp (disch := omega) only [↓RA, RB, simprocAttr, hn, g4]
  refine iC (fun q2 => ?_) (fun q2 => ?_)
  ·have hy0 : y ≠ 0 := by omega
   have hc := a3e hy0 hy
   have hlow := b3t hy0 hy
   have hGl := (hg _ _ hJ2).2
   have eY1 : IntKind.wrap .u64 ((y : Int) - 1) = ((y - 1 : Nat) : Int) := by
    rw [a9Y]
    omega
   have eY2 : IntKind.wrap .u64 ((BitVec.ofInt (IntKind.bits .u64) (y : Int) &&& BitVec.ofInt (IntKind.bits .u64) ((y - 1 : Nat) : Int)).toNat : Int) = ((y &&& (y - 1) : Nat) : Int) := by
    rw [gq, uN y hy, uN _ (by omega)]
    have := Nat.and_le_left (n := y) (m := y - 1)
    exact oQ _ (by omega) (by omega)
   have hyl : y &&& (y - 1) < 18446744073709551616 := Nat.lt_of_le_of_lt Nat.and_le_left hy
   have hmem : pU x = (a5k x i ++ d.map fun (j : Nat) => 64 * (i : Int) + (j : Int)) ++ (64 * (i : Int) + (ctz y : Int)) :: ((lQ (y &&& (y - 1))).map (fun (j : Nat) => 64 * (i : Int) + (j : Int)) ++ ((List.range 2).drop (i + 1)).flatMap (a6b x)) := by
    rw [← a7a]
    unfold a5k
    have e : List.range 2 = List.range i ++ i :: (List.range 2).drop (i + 1) := by
     rcases (by omega : i = 0 ∨ i = 1) with rfl | rfl <;> rfl
    rw [congrArg (List.flatMap (a6b x)) e, dH, dF]
    rw [show a6b x i = (d ++ lQ y).map (fun (j : Nat) => 64 * (i : Int) + (j : Int)) from by unfold a6b; rw [hbd]]
    rw [hlow, dy, ed]
    simp only [dC, iz]
   have hc1 := hc.1
   simp (disch := omega) only [↓RA, RZ, simprocAttr, hn, g0, g3, g4, q2]
   refine (sR H8).cF (c4W ((sR H8).gl hGl) y hy0 hy) fun H1 hS1 => ?_
   simp (disch := omega) only [↓RA, RZ, simprocAttr, hn, q2]
   refine wQ (hf _ _ _ _ hmem (hst _ _ _ hJ2 hS1)) ?_
   rintro r H10 ⟨rfl, hJ3⟩
   simp (disch := omega) only [↓RA, RZ, simprocAttr, hn, g0, g1, g9, qR, g3, g4, q2, eY1, eY2]
   refine ⟨(lQ (y &&& (y - 1))).length, by rw [hn2, hlow]; simp, y &&& (y - 1), d ++ [ctz y], ⟨rfl, hyl, by rw [hbd, hlow]; simp⟩, rfl, ?_⟩
   rw [dy, ed, fI, ← dC]
   exact hJ3
  simp (disch := omega) only [↓RA, RZ, simprocAttr, hn, g0, g1, g9, qR, q2]
  have hy0 : y = 0 := by omega
  subst hy0
  refine ⟨n - 1, by omega, i + 1, by omega, by simp, ?_⟩
  rw [a0q]
  have : a6b x i = d.map fun (j : Nat) => 64 * (i : Int) + (j : Int) := by
   unfold a6b
   rw [hbd, a8L, dm]
  rw [this]
  exact hJ2
 simp (disch := omega) only [↓RA, RZ, simprocAttr, c4C, q1]
 have e : i = 2 := by omega
 subst e
 rw [← a7a]
 exact hJ
theorem a2a (x : Nt) : (pU x).length ≤ 128 := by
 unfold pU
 rw [dg, dD, dD]
 have h1 := nM x.1 64
 have h2 := nM x.2 64
 unfold nI at h1 h2
 unfold lQ
 omega
theorem b2f (hG : Glob gH H) (x : Nt) (hx : Nt.Ok x) (A : Nat) (hA : Var H A 2 [.int .u64 x.1, .int .u64 x.2]) :
 Fn prog 187 [.slice none 0 0, .func (.func 188) #[] #[ptr A 0 2]] H fun r H' => St prog H H' [⟨r, 1, (pU x).flatMap (one I)⟩] := by
 refine .aE func187 rfl (by kernel_rfl) (m := 13) rfl fun l hn g0 g1 => ?_
 simp (disch := omega) only [↓RA, RB, simprocAttr, g0]
 refine (sR H).eNew 1 [(.slice none 0 0)] rfl rfl rfl b8e fun A1 H1 hS1 => ?_
 simp only [RT] at hS1
 simp (disch := omega) only [↓RA, RB, simprocAttr, g1]
 have hS2 := hS1.nil 0
 simp only [RT] at hS2
 refine Wp.bg fun lrg1 hlrg1 => ?_
 have hnrg1 : lrg1.length = 13 := by rw [hlrg1]; simp (disch := omega) only [RB, simprocAttr, hn]
 have g2rg1 : get lrg1 2 = (ptr A1 0 1) := by rw [hlrg1]; simp (disch := omega) only [RB, simprocAttr, hn]
 have g4rg1 : get lrg1 4 = (.slice none 0 0) := by rw [hlrg1]; simp (disch := omega) only [RB, simprocAttr, hn]
 have gfrg1 : get lrg1 6 = .func (.func 188) #[] [(ptr A 0 2)].toArray := by rw [hlrg1]; simp (disch := omega) only [RB, simprocAttr, hn]
 clear hlrg1
 refine Wp.aY gfrg1 fun rg1 hstrg1 hpdrg1 htmrg1 hpsrg1 hasrg1 hbdrg1 => ?_
 have hreqrg1 : ({ rg1 with state := .ready, pending := none } : Loop) = rg1 := by
  cases rg1
  simp only at hstrg1 hpdrg1
  subst hstrg1 hpdrg1
  rfl
 have hLprg1 := Lp.enter hS2 rg1
 generalize H1.cons (.loop rg1) = Hcrg1 at hLprg1 ⊢
 generalize H1.length = Lrg1 at hLprg1 ⊢
 refine (c2v x hx A (.func (.yield Lrg1) #[] #[]) (fun d H1 => ∃ ow, Lp prog H Lrg1 rg1 H1 [⟨ptr A1 0 1, 0, [ow]⟩, ⟨ow, 1, d.flatMap (one I)⟩]) ⟨.slice none 0 0, hLprg1⟩ ?_ ?_ ?_).mono ?_
 ·rintro d H1 ⟨ow, h⟩
  exact ⟨hA.ab h.st.ab, h.st.gl hG⟩
 ·rintro d H1 H2 ⟨ow, h⟩ hS
  exact ⟨ow, by simpa using h.ext hS⟩
 ·rintro d c e H20 hm ⟨ow, hLpj⟩
  have hml := a2a x
  have hdl : d.length < 128 := by
   rw [hm, dg, dX] at hml
   omega
  refine mD hLpj.get (by rw [hpsrg1]; rfl) hstrg1 ?_
  refine Wp.aC (l := put lrg1 (some 7) (I c)) hasrg1 (by rw [hpsrg1, htmrg1]; first | exact (kH ..).symm | rfl | simp [put, kH]) ?_
  simp (disch := omega) only [↓RA, RZ, simprocAttr, hnrg1]
  refine ⟨rg1, hLpj.get, hstrg1, ?_⟩
  have hYBs1 := hLpj.set (fun h => h) { rg1 with state := .busy }
  have hKBs1 : ∀ B, B ≠ Lrg1 → iO (hset H20 Lrg1 (.loop { rg1 with state := .busy })) B = iO H20 B := fun B h => iL _ (eH h)
  have hNBs1 : (hset H20 Lrg1 (.loop { rg1 with state := .busy })).length = H20.length := jA ..
  generalize hset H20 Lrg1 (.loop { rg1 with state := .busy }) = HBs1 at hYBs1 hKBs1 hNBs1 ⊢
  refine Wp.aC hbdrg1 rfl ?_
  have hZBs1 := hYBs1.st
  obtain ⟨Bs1, hBBs1, hS3⟩ := hZBs1.av (os := [⟨ptr A1 0 1, 0, _⟩, ⟨ow, 1, _⟩])
  simp (disch := omega) only [↓RA, RZ, simprocAttr, hnrg1, g2rg1, hS3.ld 0 rfl]
  refine hS3.ai [I c] a1d a5A rfl rfl (by simp [Value.cells]) rfl rfl (by decide) (by decide) fun w1 H2 hS4 => ?_
  simp only [RT] at hS4
  simp (disch := omega) only [↓RA, RZ, simprocAttr, hnrg1]
  refine hS4.aq 1 rfl (hS4.rd 2 rfl) a1d (by rw [zE, dD]; simp; omega) fun w2 H3 hS5 => ?_
  simp only [RT] at hS5
  simp (disch := omega) only [↓RA, RB, simprocAttr, hnrg1, g2rg1]
  refine hS5.aa 0 rfl [w2] (by rw [(hS5.rd 1 rfl).cells.1]) (by simp [(hS5.rd 1 rfl).cells.2.1]) b8e (by simp) fun H4 hS6 => ?_
  simp only [RT] at hS6
  simp (disch := omega) only [↓RA, simprocAttr]
  have hS7 := hS6.pick (os' := [⟨ptr A1 0 1, 0, _⟩, ⟨w2, 1, _⟩]) [0, 1] (by decide) rfl
  have hWBs1 := (hYBs1.body (hBBs1 ▸ hS7)).set (fun h => h) rg1
  rw [← hreqrg1] at hWBs1
  refine ⟨_, (hYBs1.body (hBBs1 ▸ hS7)).get, rfl, w2, ?_⟩
  rw [dH]
  exact hreqrg1 ▸ hWBs1
 ·rintro _ H21 ⟨ow, hLp2⟩
  refine ⟨_, hLp2.get, (by rw [hstrg1]; exact fun h => by cases h), fun _ => ?_, fun c hc => by rw [hpdrg1] at hc; cases hc⟩
  have hAAf1 := (hLp2.set (fun h => h) { rg1 with state := .exhausted }).st
  have hKAf1 : ∀ B, B ≠ Lrg1 → iO (hset H21 Lrg1 (.loop { rg1 with state := .exhausted })) B = iO H21 B := fun B h => iL _ (eH h)
  generalize hset H21 Lrg1 (.loop { rg1 with state := .exhausted }) = HAf1 at hAAf1 hKAf1 ⊢
  simp (disch := omega) only [↓RA, RZ, simprocAttr, hnrg1, g2rg1, hAAf1.ld 0 rfl, c4A]
  exact hAAf1.pick [1] (by decide) rfl
theorem a9v (hG : Glob gH H) (x : Nt) (hx : Nt.Ok x) (A : Nat) (hA : Var H A 2 [.int .u64 x.1, .int .u64 x.2]) :
 Fn prog 139 [.func (.func 188) #[] #[ptr A 0 2]] H fun r H' => St prog H H' [⟨r, 1, (pU x).flatMap (one I)⟩] := by
 refine .aV func139 rfl (by kernel_rfl) (m := 5) rfl fun l hn g0 => ?_
 simp (disch := omega) only [↓RA, RZ, simprocAttr, hn, g0]
 refine iK ((b2f ((sR H).gl hG) x hx A (hA.ab (sR H).ab)).tr) ?_
 rintro r H1 ⟨-, hT1⟩
 have hS1 := (sR H).trans hT1
 simp only [RT] at hS1
 simp (disch := omega) only [↓RA, RB, simprocAttr, hn, c4d]
 exact hS1
theorem c0j (x : Nt) : Fn prog 140 [.agg #[.int .u64 x.1, .int .u64 x.2]] H fun r H' => ∃ A, r = .func (.func 188) #[] #[ptr A 0 2] ∧ St prog H H' [⟨ptr A 0 2, 0, [.int .u64 x.1, .int .u64 x.2]⟩] := by
 refine .aV func140 rfl (by kernel_rfl) (m := 4) rfl fun l hn g0 => ?_
 simp (disch := omega) only [↓RA, RB, simprocAttr, g0]
 refine (sR H).eNew 2 [(.int .u64 x.1), (.int .u64 x.2)] rfl rfl rfl lR fun A1 H1 hS1 => ?_
 simp only [RT] at hS1
 simp (disch := omega) only [↓RA, RZ, simprocAttr, hn, c4N]
 exact ⟨A1, rfl, hS1⟩
theorem b0S (hG : Glob gH H) (x : Nt) (hx : Nt.Ok x) :
 Fn prog 101 [.agg #[.int .u64 x.1, .int .u64 x.2]] H fun r H' => St prog H H' [⟨r, 1, (pU x).flatMap (one I)⟩] := by
 refine .aV func101 rfl (by kernel_rfl) (m := 6) rfl fun l hn g0 => ?_
 simp (disch := omega) only [↓RA, RB, simprocAttr, g0]
 refine (sR H).eNew 2 [(.int .u64 x.1), (.int .u64 x.2)] rfl rfl rfl lR fun A1 H1 hS1 => ?_
 simp only [RT] at hS1
 simp (disch := omega) only [↓RA, RZ, simprocAttr, hn, hS1.ag 0 rfl]
 refine iK (c0j x) ?_
 rintro r H2 ⟨A2, rfl, hT1⟩
 have hS2 := hS1.trans hT1
 simp only [RT] at hS2
 simp (disch := omega) only [↓RA, RZ, simprocAttr, hn]
 refine iK ((a9v (hS2.gl hG) x hx A2 (hS2.var 1 rfl)).tr) ?_
 rintro r H3 ⟨-, hT2⟩
 have hS3 := hS2.trans hT2
 simp only [RT] at hS3
 simp (disch := omega) only [↓RA, RB, simprocAttr, hn, c4l]
 exact hS3.pick [2] (by decide) rfl
def a6G (a b : Nat) : Nat := (BitVec.ofNat 64 a &&& ~~~ BitVec.ofNat 64 b).toNat
theorem a5S (a b : Nat) : a6G a b < 18446744073709551616 := (BitVec.ofNat 64 a &&& ~~~ BitVec.ofNat 64 b).isLt
theorem c0H (a b : Nat) : IntKind.wrap .u64 ((BitVec.ofInt (IntKind.bits .u64) (a : Int) &&& ~~~ BitVec.ofInt (IntKind.bits .u64) (b : Int)).toNat : Int) = ((a6G a b : Nat) : Int) := by
 have e : (BitVec.ofInt (IntKind.bits .u64) (a : Int) &&& ~~~ BitVec.ofInt (IntKind.bits .u64) (b : Int)).toNat = a6G a b := by
  unfold a6G
  rw [fD, fD]
  rfl
 rw [e]
 have := a5S a b
 exact oQ _ (by omega) (by omega)
theorem a8e (a b j : Nat) (ha : a < 18446744073709551616) (hj : j < 64) : (a6G a b).testBit j = (a.testBit j && !b.testBit j) := by
 unfold a6G
 have h1 : (BitVec.ofNat 64 a &&& ~~~ BitVec.ofNat 64 b).toNat.testBit j = (BitVec.ofNat 64 a &&& ~~~ BitVec.ofNat 64 b).getLsbD j := rfl
 rw [h1, BitVec.getLsbD_and, BitVec.getLsbD_not, BitVec.getLsbD_ofNat, BitVec.getLsbD_ofNat]
 simp [hj]
def woF (x y : Nt) : Nt := (a6G x.1 y.1, a6G x.2 y.2)
theorem c3b (x y : Nt) : Nt.Ok (woF x y) := ⟨a5S _ _, a5S _ _⟩
theorem c2q (x y : Nt) : Fn prog 99 [.agg #[.int .u64 x.1, .int .u64 x.2], .agg #[.int .u64 y.1, .int .u64 y.2]] H fun r H' => r = .agg #[.int .u64 (woF x y).1, .int .u64 (woF x y).2] ∧ St prog H H' [] := by
 have e1 := c0H x.1 y.1
 have e2 := c0H x.2 y.2
 refine .aE func99 rfl (by kernel_rfl) (m := 16) rfl fun l hn g0 g1 => ?_
 simp (disch := omega) only [↓RA, RB, simprocAttr, g0]
 refine (sR H).eNew 2 [(.int .u64 x.1), (.int .u64 x.2)] rfl rfl rfl lR fun A1 H1 hS1 => ?_
 simp only [RT] at hS1
 simp (disch := omega) only [↓RA, RB, simprocAttr, g1]
 refine hS1.eNew 2 [(.int .u64 y.1), (.int .u64 y.2)] rfl rfl rfl lR fun A2 H2 hS2 => ?_
 simp only [RT] at hS2
 simp (disch := omega) only [↓RA, RZ, simprocAttr]
 refine hS2.eNew 2 [(.int .u64 0), (.int .u64 0)] rfl rfl rfl lR fun A3 H3 hS3 => ?_
 simp only [RT] at hS3
 simp (disch := omega) only [↓RA, RZ, simprocAttr, hn, hS3.ld 0 rfl, hS3.ld 1 rfl, a7B, e1, e2]
 refine hS3.aa 2 rfl [_, _] rfl rfl lR (by simp) fun H4 hS4 => ?_
 simp only [RT] at hS4
 simp (disch := omega) only [↓RA, RZ, simprocAttr, hn, c6o, hS4.ag 2 rfl]
 exact ⟨rfl, hS4.forget⟩
theorem a3d (x y : Nt) : Fn prog 50 [.agg #[.int .u64 x.1, .int .u64 x.2], .agg #[.int .u64 y.1, .int .u64 y.2]] H fun r H' => r = .bool (decide (woF x y = (0, 0))) ∧ St prog H H' [] := by
 refine .aE func50 rfl (by kernel_rfl) (m := 10) rfl fun l hn g0 g1 => ?_
 simp (disch := omega) only [↓RA, RB, simprocAttr, g0]
 refine (sR H).eNew 2 [(.int .u64 x.1), (.int .u64 x.2)] rfl rfl rfl lR fun A1 H1 hS1 => ?_
 simp only [RT] at hS1
 simp (disch := omega) only [↓RA, RB, simprocAttr, g1]
 refine hS1.eNew 2 [(.int .u64 y.1), (.int .u64 y.2)] rfl rfl rfl lR fun A2 H2 hS2 => ?_
 simp only [RT] at hS2
 simp (disch := omega) only [↓RA, RZ, simprocAttr, hn, hS2.ag 0 rfl, hS2.ag 1 rfl]
 refine hS2.cF (c2q x y) fun H3 hS3 => ?_
 simp (disch := omega) only [↓RA, RZ, simprocAttr, hn, c1a, c6J]
 refine ⟨?_, hS3.forget⟩
 congr 1
 rw [decide_eq_decide]
 constructor
 ·rintro ⟨h1, h2⟩
  exact gW (by simpa using h1) (by simpa using h2)
 ·intro h
  rw [h]
  exact ⟨rfl, rfl⟩
def a0j (lo hi : Int) : Nt := jE ((List.range (hi - lo + 1).toNat).map fun (k : Nat) => lo + (k : Int))
theorem b4h (lo hi : Int) (h0 : 0 ≤ lo) (h1 : lo ≤ hi) (h2 : hi ≤ 127) : Fn prog 49 [.agg #[I lo, I hi]] H fun r H' => r = .tuple #[.agg #[.int .u64 (a0j lo hi).1, .int .u64 (a0j lo hi).2], I 0] ∧ St prog H H' [] := by
 have hce : rB lo hi = 0 := by
  unfold rB
  rw [if_neg (by omega), if_neg (by omega)]
 refine .aV func49 rfl (by kernel_rfl) (m := 25) rfl fun l hn g0 => ?_
 simp (disch := omega) only [↓RA, RB, simprocAttr, g0]
 refine (sR H).eNew 2 [I lo, I hi] rfl rfl rfl wL fun A1 H1 hS1 => ?_
 simp only [RT] at hS1
 simp (disch := omega) only [↓RA, RZ, simprocAttr]
 refine hS1.eNew 2 [(.int .u64 0), (.int .u64 0)] rfl rfl rfl lR fun A2 H2 hS2 => ?_
 simp only [RT] at hS2
 simp (disch := omega) only [↓RA, RZ, simprocAttr]
 refine hS2.eNew 2 [(.int .u64 0), (.int .u64 0)] rfl rfl rfl lR fun A3 H3 hS3 => ?_
 simp only [RT] at hS3
 simp (disch := omega) only [↓RA, RZ, simprocAttr, hn, hS3.ag 0 rfl]
 refine hS3.cF (a1t lo hi) fun H4 hS4 => ?_
 rw [hce]
 simp (disch := omega) only [↓RA, RZ, simprocAttr, hn, hS4.ld 0 rfl]
 refine Wp.al (fun n l H' => l.length = 25 ∧ get l 1 = (ptr A1 0 2) ∧ get l 2 = (ptr A2 0 2) ∧ get l 3 = I 0 ∧ get l 4 = (ptr A3 0 2) ∧ ∃ (j : Nat), (n + j = (hi - lo + 1).toNat) ∧ get l 6 = I (lo + (j : Int)) ∧ St prog H H' [⟨ptr A1 0 2, 0, [I lo, I hi]⟩, ⟨ptr A2 0 2, 0, [(.int .u64 0), (.int .u64 0)]⟩, ⟨ptr A3 0 2, 0, [.int .u64 (jE ((List.range j).map fun (k : Nat) => lo + (k : Int))).1, .int .u64 (jE ((List.range j).map fun (k : Nat) => lo + (k : Int))).2]⟩]) (hi - lo + 1).toNat ?_ ?_
 ·simp (disch := omega) only [RB, RC, simprocAttr, hn]
  exact ⟨0, by omega, by simp, hS4⟩
 rintro n l H5 ⟨hn, g1, g2, g3, g4, j, hj, g6, hS5⟩
 simp (disch := omega) only [↓RA, RZ, simprocAttr, hn, g1, g6, hS5.ld 0 rfl]
 refine iC (fun q1 => ?_) (fun q1 => ?_)
 ·have hok : Nt.Ok (jE ((List.range j).map fun (k : Nat) => lo + (k : Int))) := pL _ _ (fun z h => by
   obtain ⟨k, hk, rfl⟩ := dz.1 h
   have := dx.1 hk
   exact ⟨by omega, by omega⟩) ⟨by decide, by decide⟩
  have hsu : jE ((List.range (j + 1)).map fun (k : Nat) => lo + (k : Int)) = oF (jE ((List.range j).map fun (k : Nat) => lo + (k : Int))) (lo + (j : Int)) := by
   unfold jE
   rw [eo, dy, gJ]
   rfl
  simp (disch := omega) only [↓RA, RZ, simprocAttr, hn, g4, g6, hS5.ag 2 rfl, q1]
  refine hS5.cF (a3g (jE ((List.range j).map fun (k : Nat) => lo + (k : Int))) hok (lo + (j : Int)) (by omega) (by omega)) fun H6 hS6 => ?_
  simp (disch := omega) only [↓RA, RZ, simprocAttr, hn, g4, q1]
  refine hS6.aa 2 rfl [(.int .u64 (oF (jE ((List.range j).map fun (k : Nat) => lo + (k : Int))) (lo + (j : Int))).1), (.int .u64 (oF (jE ((List.range j).map fun (k : Nat) => lo + (k : Int))) (lo + (j : Int))).2)] rfl rfl lR (by simp) fun H7 hS7 => ?_
  simp only [RT] at hS7
  simp (disch := omega) only [↓RA, RZ, simprocAttr, hn, g1, g2, g3, g4, g6, q1]
  refine ⟨n - 1, by omega, j + 1, by omega, by congr 1; omega, ?_⟩
  rw [hsu]
  exact hS7.pick [0, 1, 2] (by decide) rfl
 have hjj : j = (hi - lo + 1).toNat := by omega
 simp (disch := omega) only [↓RA, RZ, simprocAttr, hn, g2, g4, hS5.ag 2 rfl, q1]
 refine hS5.aa 1 rfl [(.int .u64 (jE ((List.range j).map fun (k : Nat) => lo + (k : Int))).1), (.int .u64 (jE ((List.range j).map fun (k : Nat) => lo + (k : Int))).2)] rfl rfl lR (by simp) fun H8 hS8 => ?_
 simp only [RT] at hS8
 simp (disch := omega) only [↓RA, RZ, simprocAttr, hn, g2, c6B, hS8.ag 1 rfl, q1]
 rw [hjj]
 exact ⟨rfl, hS8.forget⟩
structure Ks (H : Heap) (kv : Value) (ks : List Nt) : Prop where
 sl : Sl 2 ntc H kv ks
 len : ks.length < 1000000000
 ok : ∀ x ∈ ks, Nt.Ok x
theorem Ks.ab {P : Program} {H' : Heap} {kv : Value} {ks : List Nt} {os : List Ob} (h : Ks H kv ks) (hS : St P H H' os) : Ks H' kv ks := ⟨hS.sl h.sl, h.len, h.ok⟩
def pT (o : Org) (ks : List Nt) : Int := if organE o ≠ 0 then organE o else if ks.length ≠ o.dvs.length then 5 else if ∃ j, j < o.dvs.length ∧ woF (iD ks j) (a0j (iD o.dvs j).lo (iD o.dvs j).hi) ≠ (0, 0) then 23 else 0
theorem a6U (o : Org) (ho : o.In H) (kv : Value) (ks : List Nt) (hk : Ks H kv ks) : Fn prog 14 [.agg #[.string o.name, o.rv, o.dv, o.cv], kv] H fun r H' => r = I (pT o ks) ∧ St prog H H' [] := by
 have hkl := hk.len
 have hdl := ho.2.2.2.2.2.2.1
 refine .aE func14 rfl (by kernel_rfl) (m := 43) rfl fun l hn g0 g1 => ?_
 simp (disch := omega) only [↓RA, RB, simprocAttr, g0]
 refine (sR H).eNew 4 [(.string o.name), o.rv, o.dv, o.cv] rfl rfl (by simp [OC, ((sR H).sl ho.1).cells.2.1, ((sR H).sl ho.2.2.1).cells.2.1, ((sR H).sl ho.2.2.2.2.1).cells.2.1]) nC fun A1 H1 hS1 => ?_
 simp only [RT] at hS1
 simp (disch := omega) only [↓RA, RZ, simprocAttr, hn, hS1.ag 0 rfl]
 refine hS1.cF (xV o (ho.ab hS1)) fun H2 hS2 => ?_
 simp (disch := omega) only [↓RA, RB, simprocAttr, hn]
 refine iC (fun h1 => ?_) (fun h1 => ?_)
 ·simp (disch := omega) only [↓RA, RZ, simprocAttr, hn, b9L, h1]
  exact ⟨by unfold pT; rw [if_pos h1], hS2.forget⟩
 have hz : organE o = 0 := dG.1 h1
 have hf := Org.ba hz
 simp (disch := omega) only [↓RA, RZ, simprocAttr, hn, g1, (hS2.sl hk.sl).len, hS2.ld 0 rfl, (hS2.sl ho.2.2.1).len, h1]
 refine iC (fun h2 => ?_) (fun h2 => ?_)
 ·simp (disch := omega) only [↓RA, RZ, simprocAttr, hn, b9L, h1, h2]
  exact ⟨by unfold pT; rw [if_neg h1, if_pos (by omega)], hS2.forget⟩
 have hlen : ks.length = o.dvs.length := by omega
 simp (disch := omega) only [↓RA, RZ, simprocAttr, hn, hS2.ld 0 rfl, (hS2.sl ho.2.2.1).len, h1, h2]
 refine Wp.al (fun n l H' => l.length = 43 ∧ get l 1 = kv ∧ get l 22 = o.dv ∧ get l 23 = I o.dvs.length ∧ ∃ (j : Nat), (n + j = o.dvs.length ∧ ∀ q, q < j → woF (iD ks q) (a0j (iD o.dvs q).lo (iD o.dvs q).hi) = (0, 0)) ∧ get l 24 = I j ∧ St prog H H' [⟨ptr A1 0 4, 0, [(.string o.name), o.rv, o.dv, o.cv]⟩]) o.dvs.length ?_ ?_
 ·simp (disch := omega) only [RB, RC, simprocAttr, hn, g1]
  exact ⟨0, ⟨by omega, fun q hq => absurd hq (dO _)⟩, rfl, hS2⟩
 rintro n l H3 ⟨hn, g1, g22, g23, j, ⟨hj,hq⟩, g24, hS3⟩
 simp (disch := omega) only [↓RA, RB, simprocAttr, hn, g23, g24]
 refine iC (fun h3 => ?_) (fun h3 => ?_)
 ·have hky := hf.keys j (by omega)
  simp (disch := omega) only [↓RA, RZ, simprocAttr, hn, g22, g24, (hS3.sl ho.2.2.1).idx, (hS3.sl ho.2.2.1).ag, Dvn.cells, h3]
  refine hS3.eNew 5 [(.string ⟨#[]⟩), (.bool false), I 0, I 0, (.slice none 0 0)] rfl rfl rfl tJ fun A2 H4 hS4 => ?_
  simp only [RT] at hS4
  simp (disch := omega) only [↓RA, RZ, simprocAttr, hn, h3]
  refine hS4.aa 1 rfl [(.string (iD o.dvs j).name), (.bool (iD o.dvs j).pedal), I (iD o.dvs j).lo, I (iD o.dvs j).hi, (iD o.dvs j).sv] rfl (by simp [OC, (hS4.sl (ho.2.2.2.1 (iD o.dvs j) (iG (by omega))).1).cells.2.1]) tJ (by simp) fun H5 hS5 => ?_
  simp only [RT] at hS5
  simp (disch := omega) only [↓RA, RZ, simprocAttr, hn, hS5.ag 1 rfl, h3]
  refine hS5.cF (b4h (iD o.dvs j).lo (iD o.dvs j).hi hky.1 hky.2.1 hky.2.2) fun H6 hS6 => ?_
  simp (disch := omega) only [↓RA, RZ, simprocAttr, hn, h3]
  refine hS6.eNew 2 [(.int .u64 0), (.int .u64 0)] rfl rfl rfl lR fun A3 H7 hS7 => ?_
  simp only [RT] at hS7
  simp (disch := omega) only [↓RA, RZ, simprocAttr, hn, h3]
  refine hS7.aa 2 rfl [(.int .u64 (a0j (iD o.dvs j).lo (iD o.dvs j).hi).1), (.int .u64 (a0j (iD o.dvs j).lo (iD o.dvs j).hi).2)] rfl rfl lR (by simp) fun H8 hS8 => ?_
  simp only [RT] at hS8
  simp (disch := omega) only [↓RA, RZ, simprocAttr, hn, h3]
  refine Wp.drw kE (by kernel_rfl) ?_
  simp (disch := omega) only [↓RA, RZ, simprocAttr, hn, g1, (hS8.sl hk.sl).idx, (hS8.sl hk.sl).ag, ntc, hS8.ag 2 rfl]
  refine hS8.cF (a3d (iD ks j) (a0j (iD o.dvs j).lo (iD o.dvs j).hi)) fun H9 hS9 => ?_
  simp (disch := omega) only [↓RA, RB, simprocAttr, hn]
  refine jL (fun h4 => ?_) (fun h4 => ?_)
  ·have h5 : ¬ woF (iD ks j) (a0j (iD o.dvs j).lo (iD o.dvs j).hi) = (0, 0) := by simpa using h4
   simp (disch := omega) only [↓RA, RB, simprocAttr, hn, b9L, h4]
   exact ⟨by unfold pT; rw [if_neg h1, if_neg (by omega), if_pos ⟨j, by omega, h5⟩], hS9.forget⟩
  have h5 : woF (iD ks j) (a0j (iD o.dvs j).lo (iD o.dvs j).hi) = (0, 0) := by simpa using h4
  simp (disch := omega) only [↓RA, RZ, simprocAttr, hn, g1, g22, g23, g24, h4]
  exact ⟨n - 1, by omega, j + 1, ⟨by omega, fun q hq' => by rcases dw.1 hq' with e | e; (· exact hq q e); (· rw [e]; exact h5)⟩, by simp, hS9.pick [0] (by decide) rfl⟩
 simp (disch := omega) only [↓RA, RZ, simprocAttr, hn, b9L, h3]
 refine ⟨?_, hS3.forget⟩
 unfold pT
 rw [if_neg h1, if_neg (by omega), if_neg]
 rintro ⟨q, hq1, hq2⟩
 exact hq2 (hq q (by omega))
def plD (ks : List Nt) (i : Nat) : List Ct := (pU (iD ks i)).map fun z => ((i : Int), z)
def jW (ks : List Nt) : List Ct := (List.range ks.length).flatMap (plD ks)
theorem c1J (ks : List Nt) (i : Nat) : (plD ks i).length ≤ 128 := by
 unfold plD
 rw [dD]
 exact a2a _
theorem b7m (ks : List Nt) : ∀ i, ((List.range i).flatMap (plD ks)).length ≤ i * 128
 | 0 => by simp
 | i + 1 => by
   have := b7m ks i
   have := c1J ks i
   rw [eo, dH, dg, dF, eQ, dm]
   omega
theorem b2t (hG : Glob gH H) (kv : Value) (ks : List Nt) (hk : Ks H kv ks) (h8 : ks.length ≤ 8) : Fn prog 53 [kv] H fun r H' => St prog H H' [⟨r, 2, pr (jW ks)⟩] := by
 refine .aV func53 rfl (by kernel_rfl) (m := 31) rfl fun l hn g0 => ?_
 simp (disch := omega) only [↓RA, RZ, simprocAttr, hn, g0, ((sR H).sl hk.sl).len]
 have hS1 := (sR H).nil 1
 simp only [RT] at hS1
 refine Wp.al (fun n l H' => l.length = 31 ∧ get l 2 = (.slice none 0 0) ∧ get l 8 = kv ∧ get l 9 = I ks.length ∧ ∃ (i : Nat) (ov : Value), (n + i = ks.length) ∧ get l 10 = I i ∧ get l 3 = ov ∧ St prog H H' [⟨ov, 2, pr ((List.range i).flatMap (plD ks))⟩]) ks.length ?_ ?_
 ·simp (disch := omega) only [RB, RC, simprocAttr, hn]
  exact ⟨0, .slice none 0 0, by omega, rfl, rfl, hS1⟩
 rintro n l H1 ⟨hn, g2, g8, g9, i, ov, hi, qR, g3, hS2⟩
 simp (disch := omega) only [↓RA, RB, simprocAttr, hn, g9, qR]
 refine iC (fun q1 => ?_) (fun q1 => ?_)
 ·have hmo := hk.ok _ (iG (xs := ks) (j := i) (by omega))
  have hml := a2a (iD ks i)
  have hpl := b7m ks i
  simp (disch := omega) only [↓RA, RZ, simprocAttr, hn, g8, qR, (hS2.sl hk.sl).idx, (hS2.sl hk.sl).ag, ntc, q1]
  refine hS2.eNew 2 [(.int .u64 0), (.int .u64 0)] rfl rfl rfl lR fun A1 H2 hS3 => ?_
  simp only [RT] at hS3
  simp (disch := omega) only [↓RA, RZ, simprocAttr, hn, q1]
  refine hS3.aa 1 rfl [(.int .u64 (iD ks i).1), (.int .u64 (iD ks i).2)] rfl rfl lR (by simp) fun H3 hS4 => ?_
  simp only [RT] at hS4
  simp (disch := omega) only [↓RA, RZ, simprocAttr, hn, hS4.ag 1 rfl, q1]
  refine iK ((b0S (hS4.gl hG) (iD ks i) hmo).tr) ?_
  rintro r H4 ⟨-, hT1⟩
  have hS5 := hS4.trans hT1
  simp only [RT] at hS5
  obtain ⟨mw, rfl⟩ : ∃ w, w = r := ⟨r, rfl⟩
  simp (disch := omega) only [↓RA, RZ, simprocAttr, hn, (hS5.ax 2 rfl (fun _ => rfl)).len, q1]
  refine Wp.al (fun n l H' => l.length = 31 ∧ get l 2 = (.slice none 0 0) ∧ get l 4 = I i ∧ get l 8 = kv ∧ get l 9 = I ks.length ∧ get l 10 = I i ∧ get l 16 = mw ∧ get l 17 = I (pU (iD ks i)).length ∧ ∃ (j : Nat) (ow : Value), (n + j = (pU (iD ks i)).length) ∧ get l 18 = I j ∧ get l 3 = ow ∧ St prog H H' [⟨ow, 2, pr ((List.range i).flatMap (plD ks) ++ ((pU (iD ks i)).take j).map fun z => ((i : Int), z))⟩, ⟨ptr A1 0 2, 0, [(.int .u64 (iD ks i).1), (.int .u64 (iD ks i).2)]⟩, ⟨mw, 1, (pU (iD ks i)).flatMap (one I)⟩]) (pU (iD ks i)).length ?_ ?_
  ·simp (disch := omega) only [RB, RC, simprocAttr, hn, g2, g8, g9, qR, g3]
   refine ⟨0, ov, by omega, rfl, rfl, ?_⟩
   rw [List.take_zero, fI, dm]
   exact hS5
  rintro n l H5 ⟨hn, g2, g4, g8, g9, qR, g16, g17, j, ow, hj, g18, g3, hS6⟩
  simp (disch := omega) only [↓RA, RB, simprocAttr, hn, g17, g18]
  refine iC (fun q2 => ?_) (fun q2 => ?_)
  ·have hroom : (pr ((List.range i).flatMap (plD ks) ++ ((pU (iD ks i)).take j).map fun z => ((i : Int), z))).length ≤ 4000 := by
    rw [iI, dg, dD, eI]
    omega
   simp (disch := omega) only [↓RA, RZ, simprocAttr, hn, g4, g16, g18, g3, (hS6.ax 2 rfl (fun _ => rfl)).idx, (hS6.ax 2 rfl (fun _ => rfl)).ld, one, yD, q2]
   refine hS6.ai [I i, I (iD (pU (iD ks i)) j)] a3t b7c rfl rfl (by simp [Value.cells]) rfl rfl (by decide) (by decide) fun w1 H6 hS7 => ?_
   simp only [RT] at hS7
   simp (disch := omega) only [↓RA, RZ, simprocAttr, hn, q2]
   refine hS7.aq 0 rfl (hS7.rd 3 rfl) a3t (by have h := hroom; simp only [dX, eG]; omega) fun w2 H7 hS8 => ?_
   simp only [RT] at hS8
   simp (disch := omega) only [↓RA, RZ, simprocAttr, hn, g2, g4, g8, g9, qR, g16, g17, g18, q2]
   refine ⟨n - 1, by omega, j + 1, w2, by omega, by simp, rfl, ?_⟩
   rw [List.take_add_one, dr (by omega), Option.toList_some, dy, ← dC, jS]
   rw [show (pU (iD ks i))[j] = iD (pU (iD ks i)) j from (jN _ _ (by omega)).symm]
   exact hS8.pick [0, 1, 2] (by decide) rfl
  simp (disch := omega) only [↓RA, RZ, simprocAttr, hn, g2, g8, g9, qR, g3, q2]
  have hjj : j = (pU (iD ks i)).length := by omega
  refine ⟨ks.length - (i + 1), by omega, i + 1, ow, by omega, by simp, rfl, ?_⟩
  rw [eo, dH, dF, eQ, dm]
  rw [show plD ks i = ((pU (iD ks i)).take j).map (fun z => ((i : Int), z)) from by rw [hjj, ew]; rfl]
  exact hS6.pick [0] (by decide) rfl
 have hii : i = ks.length := by omega
 simp (disch := omega) only [↓RA, RZ, simprocAttr, hn, g3, c6R, q1]
 have hfin := hS2
 rw [hii] at hfin
 exact hfin
end Go.Ds
namespace Go.Ds
open Go.Proofs
set_option maxRecDepth 10000
def nK (x : Nt) (z : Int) : Bool := if z < 64 then x.1.testBit z.toNat else x.2.testBit (z - 64).toNat
theorem rY {x i : Nat} : i ∈ lQ x ↔ i < 64 ∧ x.testBit i = true := by
 unfold lQ
 rw [ee, dx]
theorem a1B {x : Nt} {z : Int} : z ∈ pU x ↔ isN z ∧ nK x z = true := by
 unfold pU nK isN
 rw [dJ, dz, dz]
 constructor
 ·rintro (⟨i, hi, rfl⟩ | ⟨i, hi, rfl⟩)
  ·obtain ⟨h1, h2⟩ := rY.1 hi
   exact ⟨by omega, by rw [if_pos (by omega)]; exact h2⟩
  ·obtain ⟨h1, h2⟩ := rY.1 hi
   refine ⟨by omega, ?_⟩
   rw [if_neg (by omega), show (64 + (i : Int) - 64).toNat = i by omega]
   exact h2
 ·rintro ⟨h1, h2⟩
  by_cases h : z < 64
  ·rw [if_pos h] at h2
   exact .inl ⟨z.toNat, rY.2 ⟨by omega, h2⟩, by omega⟩
  ·rw [if_neg h] at h2
   exact .inr ⟨(z - 64).toNat, rY.2 ⟨by omega, h2⟩, by omega⟩
theorem a2T (x : Nt) (n z : Int) (hn : isN n) (hz : isN z) : nK (oF x n) z = (nK x z || decide (z = n)) := by
 unfold nK oF isN at *
 by_cases h1 : n < 64
 ·rw [if_pos h1]
  by_cases h2 : z < 64
  ·rw [if_pos h2, if_pos h2, Nat.testBit_or, fW]
   congr 1
   rw [decide_eq_decide]
   omega
  ·rw [if_neg h2, if_neg h2, decide_eq_false (by omega), Bool.or_false]
 ·rw [if_neg h1]
  by_cases h2 : z < 64
  ·rw [if_pos h2, if_pos h2, decide_eq_false (by omega), Bool.or_false]
  ·rw [if_neg h2, if_neg h2, Nat.testBit_or, fW]
   congr 1
   rw [decide_eq_decide]
   omega
theorem vP (z : Int) : nK (0, 0) z = false := by
 unfold nK
 split <;> simp
theorem a3Z : ∀ (xs : List Int) (x : Nt) (z : Int), (∀ n ∈ xs, isN n) → isN z → nK (xs.foldl oF x) z = (nK x z || decide (z ∈ xs))
 | [], x, z, _, _ => by simp
 | n :: xs, x, z, h, hz => by
   rw [eX, a3Z xs _ z (fun y hy => h y (ey _ hy)) hz, a2T x n z (h n (dS ..)) hz, Bool.or_assoc]
   congr 1
   rw [eM]
   simp
theorem a2s {xs : List Int} {z : Int} (h : ∀ n ∈ xs, isN n) (hz : isN z) : nK (jE xs) z = decide (z ∈ xs) := by
 unfold jE
 rw [a3Z xs _ z h hz, vP, Bool.false_or]
theorem a1y {lo hi z : Int} (h0 : 0 ≤ lo) (h2 : hi ≤ 127) (hz : isN z) : nK (a0j lo hi) z = (decide (lo ≤ z) && decide (z ≤ hi)) := by
 unfold a0j
 rw [a2s (fun n hn => by
  obtain ⟨k, hk, rfl⟩ := dz.1 hn
  have := dx.1 hk
  exact ⟨by omega, by omega⟩) hz, eM, cZ, decide_eq_true_eq, decide_eq_true_eq, decide_eq_true_eq, dz]
 constructor
 ·rintro ⟨k, hk, rfl⟩
  have := dx.1 hk
  omega
 ·rintro ⟨h3, h4⟩
  exact ⟨(z - lo).toNat, dx.2 (by omega), by omega⟩
theorem b1A {x y : Nt} (hx : Nt.Ok x) {z : Int} (hz : isN z) : nK (woF x y) z = (nK x z && !nK y z) := by
 obtain ⟨h1, h2⟩ := hz
 unfold nK woF
 by_cases h : z < 64
 ·rw [if_pos h, if_pos h, if_pos h, a8e _ _ _ hx.1 (by omega)]
 ·rw [if_neg h, if_neg h, if_neg h, a8e _ _ _ hx.2 (by omega)]
theorem wX {x y : Nt} (hx : Nt.Ok x) (h : woF x y = (0, 0)) {z : Int} (hz : isN z) (hh : nK x z = true) : nK y z = true := by
 have := b1A (y := y) hx hz
 rw [h, vP, hh] at this
 simpa using this.symm
theorem qU {o : Org} {ks : List Nt} (h : pT o ks = 0) : organE o = 0 ∧ ks.length = o.dvs.length ∧ ∀ j, j < o.dvs.length → woF (iD ks j) (a0j (iD o.dvs j).lo (iD o.dvs j).hi) = (0, 0) := by
 unfold pT at h
 split at h
 ·rename_i hh; exact absurd h hh
 rename_i h1
 split at h
 ·omega
 rename_i h2
 split at h
 ·omega
 rename_i h3
 refine ⟨dG.1 h1, by omega, fun j hj => ?_⟩
 by_cases hh : woF (iD ks j) (a0j (iD o.dvs j).lo (iD o.dvs j).hi) = (0, 0)
 ·exact hh
 ·exact absurd ⟨j, hj, hh⟩ h3
theorem a4R {o : Org} {ks : List Nt} (hok : ∀ x ∈ ks, Nt.Ok x) (h : pT o ks = 0) : ∀ c ∈ jW ks, qD o c = true := by
 obtain ⟨h1, h2, h3⟩ := qU h
 have hf := Org.ba h1
 intro c hc
 unfold jW at hc
 obtain ⟨i, hi, hc⟩ := dY.1 hc
 have hi := dx.1 hi
 unfold plD at hc
 obtain ⟨z, hz, rfl⟩ := dz.1 hc
 obtain ⟨hz1, hz2⟩ := a1B.1 hz
 have hky := hf.keys i (by omega)
 have hw := wX (hok _ (iG hi)) (h3 i (by omega)) hz1 hz2
 rw [a1y hky.1 hky.2.2 hz1] at hw
 simp only [cZ, decide_eq_true_eq] at hw
 unfold qD
 simp only [cZ, decide_eq_true_eq, fV]
 omega
theorem a4C {o : Org} {ks : List Nt} (h : pT o ks = 0) : (jW ks).length ≤ 1024 := by
 obtain ⟨h1, h2, _⟩ := qU h
 have h8 := (Org.ba h1).dlen
 have := b7m ks ks.length
 unfold jW
 omega
structure SegsOk (m : Nat) (lo hi : Int) (gs : List Seg) : Prop where
 ord : ∀ i, i < gs.length → (iD gs i).lo ≤ (iD gs i).hi
 up : ∀ i, i < gs.length → 0 < i → (iD gs (i - 1)).hi < (iD gs i).lo
 within : ∀ i, i < gs.length → lo ≤ (iD gs i).lo ∧ (iD gs i).hi ≤ hi
 draws : ∀ i, i < gs.length → lJ m (iD gs i).draws = 0
 len : gs.length ≤ 12
theorem SegsOk.lt {m : Nat} {lo hi : Int} {gs : List Seg} (h : SegsOk m lo hi gs) {i : Nat} : ∀ k, i + 1 + k < gs.length → (iD gs i).hi < (iD gs (i + 1 + k)).lo
 | 0, hk => h.up (i + 1) hk (by omega)
 | k + 1, hk => by
   have h1 := h.lt (i := i) k (by omega)
   have h2 := h.ord (i + 1 + k) (by omega)
   have h3 := h.up (i + 1 + (k + 1)) hk (by omega)
   rw [show i + 1 + (k + 1) - 1 = i + 1 + k by omega] at h3
   omega
theorem SegsOk.one {m : Nat} {lo hi : Int} {gs : List Seg} (h : SegsOk m lo hi gs) {key : Int} {i j : Nat} (hi' : i < gs.length) (hj : j < gs.length) (h1 : (iD gs i).lo ≤ key ∧ key ≤ (iD gs i).hi) (h2 : (iD gs j).lo ≤ key ∧ key ≤ (iD gs j).hi) : i = j := by
 rcases Nat.lt_trichotomy i j with e | e | e
 ·have := h.lt (i := i) (j - i - 1) (by omega)
  rw [show i + 1 + (j - i - 1) = j by omega] at this
  omega
 ·exact e
 ·have := h.lt (i := j) (i - j - 1) (by omega)
  rw [show j + 1 + (i - j - 1) = i by omega] at this
  omega
def a9q (o : Org) (ks : List Nt) (i : Nat) : List Ct := ((List.range ((iD o.dvs i).hi - (iD o.dvs i).lo + 1).toNat).filter fun (j : Nat) => nK (iD ks i) ((iD o.dvs i).lo + (j : Int))).map fun (j : Nat) => ((i : Int), (iD o.dvs i).lo + (j : Int))
def b0N (o : Org) (ks : List Nt) : List Ct := (List.range o.dvs.length).flatMap (a9q o ks)
theorem xB {f : Nat → List Ct} (h1 : ∀ i, (f i).Pairwise ltP) (h2 : ∀ i, ∀ c ∈ f i, c.1 = (i : Int)) : ∀ n, ((List.range n).flatMap f).Pairwise ltP
 | 0 => .nil
 | n + 1 => by
   rw [eo, dH, dF, eQ, dm, fm]
   refine ⟨xB h1 h2 n, h1 n, fun a ha b hb => ?_⟩
   obtain ⟨i, hi, ha⟩ := dY.1 ha
   have hi := dx.1 hi
   unfold ltP
   rw [h2 i a ha, h2 n b hb]
   omega
theorem c0e (o : Org) (ks : List Nt) (i : Nat) : (a9q o ks i).Pairwise ltP := by
 unfold a9q
 rw [gg]
 refine List.Pairwise.imp ?_ (List.Pairwise.filter _ List.pairwise_lt_range)
 intro a b h
 unfold ltP
 omega
theorem a6N (x : Nt) : (pU x).Pairwise (· < ·) := by
 unfold pU
 rw [fm, gg, gg]
 have h : ∀ n, (lQ n).Pairwise (· < ·) := fun n => List.Pairwise.filter _ List.pairwise_lt_range
 refine ⟨(h _).imp (by intro a b h; omega), (h _).imp (by intro a b h; omega), fun a ha b hb => ?_⟩
 obtain ⟨i, hi, rfl⟩ := dz.1 ha
 obtain ⟨j, _, rfl⟩ := dz.1 hb
 have := (rY.1 hi).1
 omega
theorem c1T (ks : List Nt) (i : Nat) : (plD ks i).Pairwise ltP := by
 unfold plD
 rw [gg]
 exact (a6N _).imp fun h => .inr ⟨rfl, h⟩
theorem a4i (ks : List Nt) : (jW ks).Pairwise ltP := xB (c1T ks) (fun i c hc => by
 unfold plD at hc
 obtain ⟨z, _, rfl⟩ := dz.1 hc
 rfl) _
theorem b9t {o : Org} {ks : List Nt} (hok : ∀ x ∈ ks, Nt.Ok x) (h : pT o ks = 0) : b0N o ks = jW ks := by
 obtain ⟨h1, h2, h3⟩ := qU h
 have hf := Org.ba h1
 refine a4u _ _ (xB (c0e o ks) (fun i c hc => by
  unfold a9q at hc
  obtain ⟨z, _, rfl⟩ := dz.1 hc
  rfl) _) (a4i ks) fun x => ?_
 constructor
 ·intro hx
  obtain ⟨i, hi, hx⟩ := dY.1 hx
  have hi := dx.1 hi
  have hk := hf.keys i hi
  unfold a9q at hx
  obtain ⟨z, hz, rfl⟩ := dz.1 hx
  obtain ⟨hz1, hz2⟩ := ee.1 hz
  have hz1 := dx.1 hz1
  unfold jW
  refine dY.2 ⟨i, dx.2 (by omega), ?_⟩
  unfold plD
  exact dz.2 ⟨_, a1B.2 ⟨⟨by omega, by omega⟩, hz2⟩, rfl⟩
 ·intro hx
  unfold jW at hx
  obtain ⟨i, hi, hx⟩ := dY.1 hx
  have hi := dx.1 hi
  have hk := hf.keys i (by omega)
  unfold plD at hx
  obtain ⟨z, hz, rfl⟩ := dz.1 hx
  obtain ⟨hz1, hz2⟩ := a1B.1 hz
  have hw := wX (hok _ (iG hi)) (h3 i (by omega)) hz1 hz2
  rw [a1y hk.1 hk.2.2 hz1, cZ, decide_eq_true_eq, decide_eq_true_eq] at hw
  unfold b0N
  refine dY.2 ⟨i, dx.2 (by omega), ?_⟩
  unfold a9q
  refine dz.2 ⟨(z - (iD o.dvs i).lo).toNat, ee.2 ⟨dx.2 (by omega), ?_⟩, ?_⟩
  ·rw [show (iD o.dvs i).lo + ((z - (iD o.dvs i).lo).toNat : Int) = z by omega]
   exact hz2
  ·rw [show (iD o.dvs i).lo + ((z - (iD o.dvs i).lo).toNat : Int) = z by omega]
end Go.Ds
namespace Go.Ds
open Go.Proofs Go.Proofs.Tryz
variable {H : Heap}
set_option maxRecDepth 10000
set_option maxHeartbeats 1000000
def b5x (o : Org) (l : List (Value × Reg)) (ks : List Nt) : Int := if rQ o l ≠ 0 then rQ o l else pT o ks
theorem c2U (o : Org) (ho : o.In H) (lv : Value) (xs : List (Value × Reg)) (hl : Sl 3 rgc H lv xs) (hle : xs.length < 1000000000) (hr : ∀ p ∈ xs, p.2.In H p.1) (kv : Value) (ks : List Nt) (hk : Ks H kv ks) :
 Fn prog 51 [.agg #[.string o.name, o.rv, o.dv, o.cv], lv, kv] H fun r H' => r = I (b5x o xs ks) ∧ St prog H H' [] := by
 refine .bK func51 rfl (by kernel_rfl) (m := 17) rfl fun l hn g0 g1 g2 => ?_
 simp (disch := omega) only [↓RA, RB, simprocAttr, g0]
 refine (sR H).eNew 4 [(.string o.name), o.rv, o.dv, o.cv] rfl rfl (by simp [OC, ((sR H).sl ho.1).cells.2.1, ((sR H).sl ho.2.2.1).cells.2.1, ((sR H).sl ho.2.2.2.2.1).cells.2.1]) nC fun A1 H1 hS1 => ?_
 simp only [RT] at hS1
 simp (disch := omega) only [↓RA, RZ, simprocAttr, hn, g1, hS1.ag 0 rfl]
 refine hS1.cF (a4h o (ho.ab hS1) lv xs (hS1.sl hl) hle (fun p hp => (hr p hp).ab hS1)) fun H2 hS2 => ?_
 simp (disch := omega) only [↓RA, RB, simprocAttr, hn]
 refine iC (fun h1 => ?_) (fun h1 => ?_)
 ·simp (disch := omega) only [↓RA, RZ, simprocAttr, hn, c4i, h1]
  exact ⟨by unfold b5x; rw [if_pos h1], hS2.forget⟩
 simp (disch := omega) only [↓RA, RZ, simprocAttr, hn, g2, hS2.ag 0 rfl, h1]
 refine hS2.cF (a6U o (ho.ab hS2) kv ks (hk.ab hS2)) fun H3 hS3 => ?_
 simp (disch := omega) only [↓RA, RZ, simprocAttr, hn, c4i, h1]
 exact ⟨by unfold b5x; rw [if_neg h1], hS3.forget⟩
def rkE (o : Org) (rg : Reg) (ks : List Nt) : Int := if lZ o rg ≠ 0 then lZ o rg else pT o ks
theorem b6M (o : Org) (sv : Value) (rg : Reg) (ks : List Nt) : b5x o [(sv, rg)] ks = rkE o rg ks := by
 unfold b5x rkE
 rw [a0V]
theorem a2h {o : Org} {rg : Reg} {ks : List Nt} (h : rkE o rg ks = 0) : lZ o rg = 0 ∧ pT o ks = 0 := by
 unfold rkE at h
 split at h
 ·rename_i hh; exact absurd h hh
 ·rename_i hh; exact ⟨dG.1 hh, h⟩
def b4C (o : Org) (rg : Reg) (ks : List Nt) : List Ct := if rkE o rg ks = 0 then lU o rg (jW ks) else []
theorem a7v (hG : Glob gH H) (o : Org) (ho : o.In H) (rg : Reg) (sv : Value) (hr : rg.In H sv) (kv : Value) (ks : List Nt) (hk : Ks H kv ks) :
 Fn prog 15 [.agg #[.string o.name, o.rv, o.dv, o.cv], .agg #[sv, .int .u64 rg.cpl, .int .u64 rg.off], kv] H fun r H' => ∃ pv, r = .tuple #[pv, I (rkE o rg ks)] ∧ Slx 2 kB H' (fun B => H.length ≤ B) pv (b4C o rg ks) ∧ St prog H H' [] := by
 refine .bK func15 rfl (by kernel_rfl) (m := 22) rfl fun l hn g0 g1 g2 => ?_
 simp (disch := omega) only [↓RA, RB, simprocAttr, g0]
 refine (sR H).eNew 4 [(.string o.name), o.rv, o.dv, o.cv] rfl rfl (by simp [OC, ((sR H).sl ho.1).cells.2.1, ((sR H).sl ho.2.2.1).cells.2.1, ((sR H).sl ho.2.2.2.2.1).cells.2.1]) nC fun A1 H1 hS1 => ?_
 simp only [RT] at hS1
 simp (disch := omega) only [↓RA, RB, simprocAttr, g1]
 refine hS1.eNew 3 [sv, (.int .u64 rg.cpl), (.int .u64 rg.off)] rfl rfl (by simp [OC, (hS1.sl hr.1).cells.2.1]) mS fun A2 H2 hS2 => ?_
 simp only [RT] at hS2
 simp (disch := omega) only [↓RA, RZ, simprocAttr, hn, hS2.ag 0 rfl, hS2.ag 1 rfl]
 refine hS2.ai [sv, (.int .u64 rg.cpl), (.int .u64 rg.off)] c0Q c0x rfl rfl (by first | (simp []; done) | simp [Value.cells]) (by first | (simp []; done) | simp [Value.cells]) (by simp [OC, (hS2.sl hr.1).cells.2.1]) (by decide) (by decide) fun w1 H3 hS3 => ?_
 simp only [RT] at hS3
 simp (disch := omega) only [↓RA, RZ, simprocAttr, hn, g2]
 refine hS3.cF (c2U o (ho.ab hS3) w1 [(sv, rg)] (hS3.ax 2 rfl (fun _ => rfl)) (by simp) (by intro p hp; rw [dB.1 hp]; exact hr.ab hS3) kv ks (hk.ab hS3)) fun H4 hS4 => ?_
 have hsc := b6M o sv rg ks
 simp (disch := omega) only [↓RA, RB, simprocAttr, hn, hsc]
 refine iC (fun h1 => ?_) (fun h1 => ?_)
 ·simp (disch := omega) only [↓RA, RZ, simprocAttr, hn, c5b, hsc, h1]
  exact ⟨.slice none 0 0, rfl, ⟨⟨.inl ⟨rfl, by rw [b4C, if_neg h1]; rfl⟩, mZ, by decide⟩, fun b h => by simp [kJ] at h⟩, hS4.forget⟩
 have h0 := dG.1 h1
 obtain ⟨hz1, hk0⟩ := a2h h0
 obtain ⟨hz3, hz4⟩ := mV hz1
 have hf := Org.ba hz3
 have h8 : ks.length ≤ 8 := by
  have := hf.dlen
  have := (qU hk0).2.1
  omega
 simp (disch := omega) only [↓RA, RC, simprocAttr, hsc, h1]
 refine Wp.aO kE [(0, 4), (1, 4)] (by kernel_rfl) (by kernel_rfl) ?_
 simp (disch := omega) only [↓RA, RZ, simprocAttr, hn, g2, hS4.ag 0 rfl, hS4.ag 1 rfl]
 refine iK ((b2t (hS4.gl hG) kv ks (hk.ab hS4) h8).tr) ?_
 rintro r H5 ⟨-, hT2⟩
 have hS5 := hS4.trans hT2
 simp only [RT] at hS5
 obtain ⟨pv, rfl⟩ : ∃ w, w = r := ⟨r, rfl⟩
 simp (disch := omega) only [↓RA, RZ, simprocAttr, hn]
 have hSd := hS5
 refine iK (a6M o (ho.ab hS5) hf rg sv (hr.ab hS5) hz4 pv (jW ks) (hS5.ax 3 rfl mZ) (a4C hk0) (a4R hk.ok hk0)) ?_
 rintro r H6 ⟨hx, hT3⟩
 have hS6 := hS5.trans hT3
 simp only [RT] at hS6
 obtain ⟨qv, rfl⟩ : ∃ w, w = r := ⟨r, rfl⟩
 simp (disch := omega) only [↓RA, RZ, simprocAttr, hn, hS5.ag 0 rfl, hS5.ag 1 rfl, c5b, hx.1.bk]
 rw [h0]
 refine ⟨qv, rfl, ⟨?_, fun b h => ?_⟩, hS6.forget⟩
 ·rw [b4C, if_pos h0]
  exact hx.1
 ·have := hx.2 b h
  have : H.length ≤ _ := hSd.len
  omega
end Go.Ds
namespace Go.Ds
open Go.Proofs
variable {H : Heap}
set_option maxRecDepth 10000
set_option maxHeartbeats 1000000
end Go.Ds
namespace Go.Ds
open Go.Proofs Go.Proofs.Tryz
variable {H : Heap}
set_option maxRecDepth 10000
set_option maxHeartbeats 1000000
def a1T (lo : Int) (w m : Nat) : List Int := ((List.range m).filter fun j => w.testBit j).map fun (j : Nat) => lo + (j : Int)
def vX (lo hi : Int) : Nat := min 16 (hi - lo + 1).toNat
def zG (o : Org) (b : Nat → Nat) (i : Nat) : Nt := jE (a1T (iD o.dvs i).lo (b (i % 3)) (vX (iD o.dvs i).lo (iD o.dvs i).hi))
def pS (o : Org) (b : Nat → Nat) : List Nt := (List.range o.dvs.length).map (zG o b)
theorem c2x (a b : Nat) (h : a < 65536) : ((a : Nat) : Int).fdiv (2 ^ min b (IntKind.bits .u16)) = ((a >>> b : Nat) : Int) := by
 have e : IntKind.bits .u16 = 16 := rfl
 rw [e]
 have h1 : ((a : Nat) : Int).fdiv (2 ^ min b 16) = ((a / 2 ^ min b 16 : Nat) : Int) := by
  rw [gK _ (by exact Int.le_of_lt (Int.pow_pos (by decide)))]
  simp
 rw [h1, eV]
 by_cases hb : b ≤ 16
 ·rw [fy hb]
 ·rw [Nat.min_eq_right (by omega)]
  have h2 : a / 2 ^ 16 = 0 := gQ (by simpa using h)
  have h3 : a / 2 ^ b = 0 := gQ (dN (by simpa using h) (fo (by decide) (show 16 ≤ b by omega)))
  rw [h2, h3]
theorem b9g (n : Nat) (h : n < 65536) : IntKind.wrap .u16 ((BitVec.ofInt (IntKind.bits .u16) (n : Int) &&& BitVec.ofInt (IntKind.bits .u16) 1).toNat : Int) = ((n % 2 : Nat) : Int) := by
 have e : (BitVec.ofInt (IntKind.bits .u16) (n : Int) &&& BitVec.ofInt (IntKind.bits .u16) 1).toNat = n % 2 := by
  show (BitVec.ofInt 16 (n : Int) &&& BitVec.ofInt 16 1).toNat = n % 2
  rw [gq]
  have h1 : (BitVec.ofInt 16 (n : Int)).toNat = n := by
   rw [fD, gZ]
   exact fX (by simpa using h)
  have h2 : (BitVec.ofInt 16 1).toNat = 1 := rfl
  rw [h1, h2, Nat.and_one_is_mod]
 rw [e]
 have : n % 2 < 2 := eW _ (by decide)
 have hh : n % 2 = 0 ∨ n % 2 = 1 := by omega
 rcases hh with h | h <;> rw [h] <;> rfl
theorem b6C {a : Nat} (b : Nat) (h : a < 65536) : a >>> b < 65536 := by
 rw [eV]
 exact Nat.lt_of_le_of_lt (Nat.div_le_self _ _) h
theorem b3m (lo : Int) (w m : Nat) : a1T lo w (m + 1) = a1T lo w m ++ (if w.testBit m then [lo + (m : Int)] else []) := by
 unfold a1T
 rw [eo, eu, dy]
 congr 1
 cases h : w.testBit m <;> simp [h]
theorem b5W (lo : Int) (w m : Nat) : (a1T lo w m).length ≤ m := by
 unfold a1T
 rw [dD]
 exact dK (dV _ _) (by simp)
theorem b9J (lo hi : Int) : vX lo hi ≤ 16 := Nat.min_le_left _ _
theorem uI {o : Org} (hf : o.Fine) (w : Nat) {i : Nat} (hi : i < o.dvs.length) : ∀ z ∈ a1T (iD o.dvs i).lo w (vX (iD o.dvs i).lo (iD o.dvs i).hi), isN z ∧ (iD o.dvs i).lo ≤ z ∧ z ≤ (iD o.dvs i).hi := by
 intro z hz
 have hk := hf.keys i hi
 unfold a1T vX at hz
 obtain ⟨j, hj, rfl⟩ := dz.1 hz
 have hj := dx.1 (ee.1 hj).1
 exact ⟨⟨by omega, by omega⟩, by omega, by omega⟩
theorem a8M (o : Org) (ho : o.In H) (hf : o.Fine) (b : Nat → Nat) (hb : ∀ i, b i < 65536) :
 Fn prog 18 [.agg #[.string o.name, o.rv, o.dv, o.cv], .agg #[.int .u16 (b 0), .int .u16 (b 1), .int .u16 (b 2)]] H fun r H' =>
  St prog H H' [⟨r, 2, (pS o b).flatMap ntc⟩] := by
 have hd8 := hf.dlen
 refine .aE func18 rfl (by kernel_rfl) (m := 66) rfl fun l hn g0 g1 => ?_
 simp (disch := omega) only [↓RA, RB, simprocAttr, g0]
 refine (sR H).eNew 4 [(.string o.name), o.rv, o.dv, o.cv] rfl rfl (by simp [OC, ((sR H).sl ho.1).cells.2.1, ((sR H).sl ho.2.2.1).cells.2.1, ((sR H).sl ho.2.2.2.2.1).cells.2.1]) nC fun A1 H1 hS1 => ?_
 simp only [RT] at hS1
 simp (disch := omega) only [↓RA, RB, simprocAttr, g1]
 refine hS1.eNew 3 [(.int .u16 (b 0)), (.int .u16 (b 1)), (.int .u16 (b 2))] rfl rfl rfl c2B fun A2 H2 hS2 => ?_
 simp only [RT] at hS2
 simp (disch := omega) only [↓RA, RB, simprocAttr]
 have hS3 := hS2.nil 1
 simp only [RT] at hS3
 refine Wp.al (fun n l H' => l.length = 66 ∧ get l 2 = (ptr A1 0 4) ∧ get l 3 = (ptr A2 0 3) ∧ get l 4 = (.slice none 0 0) ∧ ∃ (i : Nat) (kv : Value), (n + i = o.dvs.length) ∧ get l 6 = I i ∧ get l 5 = kv ∧ St prog H H' [⟨ptr A1 0 4, 0, [(.string o.name), o.rv, o.dv, o.cv]⟩, ⟨ptr A2 0 3, 0, [(.int .u16 (b 0)), (.int .u16 (b 1)), (.int .u16 (b 2))]⟩, ⟨kv, 2, ((List.range i).map (zG o b)).flatMap ntc⟩]) o.dvs.length ?_ ?_
 ·simp (disch := omega) only [RB, RC, simprocAttr, hn]
  exact ⟨0, .slice none 0 0, by omega, rfl, rfl, hS3⟩
 rintro n l H3 ⟨hn, g2, g3, g4, i, kv, hi, g6, g5, hS4⟩
 simp (disch := omega) only [↓RA, RZ, simprocAttr, hn, g2, g6, hS4.ld 0 rfl, (hS4.sl ho.2.2.1).len]
 refine iC (fun q => ?_) (fun q => ?_)
 ·have hk := hf.keys i (by omega)
  simp (disch := omega) only [↓RA, RZ, simprocAttr, hn, g2, g6, hS4.ld 0 rfl, (hS4.sl ho.2.2.1).idx, (hS4.sl ho.2.2.1).bp, (hS4.sl ho.2.2.1).cK 2, Dvn.cells, q]
  refine hS4.eNew 2 [I 0, I 0] rfl rfl rfl wL fun A3 H4 hS5 => ?_
  simp only [RT] at hS5
  simp (disch := omega) only [↓RA, RZ, simprocAttr, hn, q]
  refine hS5.aa 3 rfl [I (iD o.dvs i).lo, I (iD o.dvs i).hi] rfl rfl wL (by simp) fun H5 hS6 => ?_
  simp only [RT] at hS6
  simp (disch := omega) only [↓RA, RZ, simprocAttr, hn, hS6.ld 3 rfl, q]
  have hS7 := hS6.nil 0
  simp only [RT] at hS7
  refine Wp.al (fun n l H' => l.length = 66 ∧ get l 2 = (ptr A1 0 4) ∧ get l 3 = (ptr A2 0 3) ∧ get l 4 = (.slice none 0 0) ∧ get l 5 = kv ∧ get l 6 = I i ∧ get l 8 = (ptr A3 0 2) ∧ ∃ (m : Nat) (lv : Value), (n + m = vX (iD o.dvs i).lo (iD o.dvs i).hi) ∧ get l 9 = I ((iD o.dvs i).lo + m) ∧ get l 7 = lv ∧ St prog H H' [⟨ptr A1 0 4, 0, [(.string o.name), o.rv, o.dv, o.cv]⟩, ⟨ptr A2 0 3, 0, [(.int .u16 (b 0)), (.int .u16 (b 1)), (.int .u16 (b 2))]⟩, ⟨kv, 2, ((List.range i).map (zG o b)).flatMap ntc⟩, ⟨ptr A3 0 2, 0, [I (iD o.dvs i).lo, I (iD o.dvs i).hi]⟩, ⟨lv, 1, (a1T (iD o.dvs i).lo (b (i % 3)) m).flatMap (one I)⟩]) (vX (iD o.dvs i).lo (iD o.dvs i).hi) ?_ ?_
  ·simp (disch := omega) only [RB, RC, simprocAttr, hn, g2, g3, g4, g6, g5]
   exact ⟨0, .slice none 0 0, by omega, by simp, rfl, hS7⟩
  rintro n l H6 ⟨hn, g2, g3, g4, g5, g6, g8, m, lv, hm, g9, g7, hS8⟩
  simp (disch := omega) only [↓RA, RZ, simprocAttr, hn, g8, g9, hS8.ld 3 rfl]
  have hM := b9J (iD o.dvs i).lo (iD o.dvs i).hi
  have hi3 : (i : Int).tmod 3 = ((i % 3 : Nat) : Int) := (eO i 3).symm
  have hw : ([Value.int .u16 (b 0), .int .u16 (b 1), .int .u16 (b 2)] : List Value)[i % 3]? = some (.int .u16 (b (i % 3))) := by
   have : i % 3 = 0 ∨ i % 3 = 1 ∨ i % 3 = 2 := by omega
   rcases this with e | e | e <;> rw [e] <;> rfl
  have hsub : (iD o.dvs i).lo + (m : Int) - (iD o.dvs i).lo = (m : Int) := by omega
  have e1 := c2x (b (i % 3)) m (hb _)
  have e2 := b9g (b (i % 3) >>> m) (b6C m (hb _))
  have e3 := tb (b (i % 3)) m
  have hsu := b3m (iD o.dvs i).lo (b (i % 3)) m
  have hpl := b5W (iD o.dvs i).lo (b (i % 3)) m
  refine kF (fun q1 => ?_) (fun q1 => ?_)
  ·simp (disch := omega) only [↓RA, RZ, simprocAttr, hn, g8, g9, hS8.ld 3 rfl, q1]
   refine iC (fun q2 => ?_) (fun q2 => ?_)
   ·skip
    simp (disch := omega) only [↓RA, RC, simprocAttr, q1, q2]
    refine Wp.drw kE (by kernel_rfl) ?_
    simp (disch := omega) only [↓RA, RZ, simprocAttr, hn, g3, g6, g8, g9, hS8.ld 1 rfl, hw, hS8.ld 3 rfl, hi3, hsub, e1, e2]
    refine iC (fun q3 => ?_) (fun q3 => ?_)
    ·rw [e3, decide_eq_true (by omega), if_pos rfl] at hsu
     simp (disch := omega) only [↓RA, RZ, simprocAttr, hn, g9, g7, q3]
     refine hS8.ai [I ((iD o.dvs i).lo + m)] a1d a5A rfl rfl (by simp [Value.cells]) rfl rfl (by decide) (by decide) fun w1 H7 hS9 => ?_
     simp only [RT] at hS9
     simp (disch := omega) only [↓RA, RZ, simprocAttr, hn, q3]
     refine hS9.aq 4 rfl (hS9.rd 5 rfl) a1d (by rw [iM (n := 1) (cel := one I) (fun _ => rfl)]; simp; omega) fun w2 H8 hS10 => ?_
     simp only [RT] at hS10
     simp (disch := omega) only [↓RA, RZ, simprocAttr, hn, g2, g3, g4, g5, g6, g8, g9, q3]
     refine ⟨n - 1, by unfold vX at hm; omega, m + 1, w2, by unfold vX at hm ⊢; omega, by simp; omega, rfl, ?_⟩
     rw [hsu, dH]
     exact hS10.pick [0, 1, 2, 3, 4] (by decide) rfl
    rw [e3, decide_eq_false (by omega), if_neg (by simp), dm] at hsu
    simp (disch := omega) only [↓RA, RZ, simprocAttr, hn, g2, g3, g4, g5, g6, g8, g9, g7, q3]
    refine ⟨n - 1, by unfold vX at hm; omega, m + 1, lv, by unfold vX at hm ⊢; omega, by simp; omega, rfl, ?_⟩
    rw [hsu]
    exact hS8.pick [0, 1, 2, 3, 4] (by decide) rfl
   have hmM : m = vX (iD o.dvs i).lo (iD o.dvs i).hi := by unfold vX at hm hM ⊢; omega
   have hz := uI hf (b (i % 3)) (show i < o.dvs.length by omega)
   subst hmM
   simp (disch := omega) only [↓RA, RZ, simprocAttr, hn, g7, q1, q2]
   refine hS8.cF (xK (a1T (iD o.dvs i).lo (b (i % 3)) (vX (iD o.dvs i).lo (iD o.dvs i).hi)) (fun z h => (hz z h).1) lv (hS8.ax 4 rfl (sZ _)) (by omega)) fun H9 hS11 => ?_
   simp (disch := omega) only [↓RA, RZ, simprocAttr, hn, q1, q2]
   refine hS11.eNew 2 [(.int .u64 0), (.int .u64 0)] rfl rfl rfl lR fun A4 H10 hS12 => ?_
   simp only [RT] at hS12
   simp (disch := omega) only [↓RA, RZ, simprocAttr, hn, q1, q2]
   refine hS12.aa 5 rfl [(.int .u64 (zG o b i).1), (.int .u64 (zG o b i).2)] rfl rfl lR (by simp) fun H11 hS13 => ?_
   simp only [RT] at hS13
   simp (disch := omega) only [↓RA, RZ, simprocAttr, hn, g5, hS13.ag 5 rfl, q1, q2]
   refine hS13.ai [(.int .u64 (zG o b i).1), (.int .u64 (zG o b i).2)] b8m c5A rfl rfl (by simp [Value.cells]) rfl rfl (by decide) (by decide) fun w3 H12 hS14 => ?_
   simp only [RT] at hS14
   simp (disch := omega) only [↓RA, RZ, simprocAttr, hn, q1, q2]
   refine hS14.aq 2 rfl (hS14.rd 6 rfl) b8m (by rw [iM (n := 2) (cel := ntc) (fun _ => rfl)]; simp; omega) fun w4 H13 hS15 => ?_
   simp only [RT] at hS15
   simp (disch := omega) only [↓RA, RZ, simprocAttr, hn, g2, g3, g4, g6, q1, q2]
   refine ⟨o.dvs.length - (i + 1), by omega, i + 1, w4, by omega, by simp, rfl, ?_⟩
   rw [eo, dy, dH]
   exact hS15.pick [0, 1, 2] (by decide) rfl
  have hmM : m = vX (iD o.dvs i).lo (iD o.dvs i).hi := by unfold vX at hm hM ⊢; omega
  have hz := uI hf (b (i % 3)) (show i < o.dvs.length by omega)
  subst hmM
  simp (disch := omega) only [↓RA, RZ, simprocAttr, hn, g7, q1]
  refine hS8.cF (xK (a1T (iD o.dvs i).lo (b (i % 3)) (vX (iD o.dvs i).lo (iD o.dvs i).hi)) (fun z h => (hz z h).1) lv (hS8.ax 4 rfl (sZ _)) (by omega)) fun H14 hS16 => ?_
  simp (disch := omega) only [↓RA, RZ, simprocAttr, hn, q1]
  refine hS16.eNew 2 [(.int .u64 0), (.int .u64 0)] rfl rfl rfl lR fun A5 H15 hS17 => ?_
  simp only [RT] at hS17
  simp (disch := omega) only [↓RA, RZ, simprocAttr, hn, q1]
  refine hS17.aa 5 rfl [(.int .u64 (zG o b i).1), (.int .u64 (zG o b i).2)] rfl rfl lR (by simp) fun H16 hS18 => ?_
  simp only [RT] at hS18
  simp (disch := omega) only [↓RA, RZ, simprocAttr, hn, g5, hS18.ag 5 rfl, q1]
  refine hS18.ai [(.int .u64 (zG o b i).1), (.int .u64 (zG o b i).2)] b8m c5A rfl rfl (by simp [Value.cells]) rfl rfl (by decide) (by decide) fun w5 H17 hS19 => ?_
  simp only [RT] at hS19
  simp (disch := omega) only [↓RA, RZ, simprocAttr, hn, q1]
  refine hS19.aq 2 rfl (hS19.rd 6 rfl) b8m (by rw [iM (n := 2) (cel := ntc) (fun _ => rfl)]; simp; omega) fun w6 H18 hS20 => ?_
  simp only [RT] at hS20
  simp (disch := omega) only [↓RA, RZ, simprocAttr, hn, g2, g3, g4, g6, q1]
  refine ⟨o.dvs.length - (i + 1), by omega, i + 1, w6, by omega, by simp, rfl, ?_⟩
  rw [eo, dy, dH]
  exact hS20.pick [0, 1, 2] (by decide) rfl
 simp (disch := omega) only [↓RA, RZ, simprocAttr, hn, g5, c6X, q]
 have hii : i = o.dvs.length := by omega
 subst hii
 exact hS4.pick [2] (by decide) rfl
theorem tE (o : Org) (b : Nat → Nat) : (pS o b).length = o.dvs.length := by simp [pS]
theorem a5W {o : Org} {b : Nat → Nat} {i : Nat} (hi : i < o.dvs.length) : iD (pS o b) i = zG o b i := by
 rw [jN _ i (by rw [tE]; exact hi)]
 simp [pS]
theorem b1k {o : Org} (hf : o.Fine) (b : Nat → Nat) {i : Nat} (hi : i < o.dvs.length) : Nt.Ok (zG o b i) := pL _ _ (fun z h => (uI hf (b (i % 3)) hi z h).1) ⟨by decide, by decide⟩
theorem a8k {o : Org} (hf : o.Fine) (b : Nat → Nat) : ∀ x ∈ pS o b, Nt.Ok x := by
 intro x hx
 obtain ⟨i, hi, rfl⟩ := dz.1 hx
 exact b1k hf b (dx.1 hi)
theorem a6n {x y : Nt} (hx : Nt.Ok x) (h : ∀ z, isN z → nK x z = true → nK y z = true) : woF x y = (0, 0) := by
 have k : ∀ z, isN z → nK (woF x y) z = false := fun z hz => by
  rw [b1A hx hz]
  cases e : nK x z with
  | false => rfl
  | true => rw [h z hz e]; rfl
 have big : ∀ a : Nat, a < 18446744073709551616 → ∀ j, 64 ≤ j → a.testBit j = false := fun a ha j hj =>
  Nat.testBit_lt_two_pow (dN (show a < 2 ^ 64 from ha) (fo (by decide) hj))
 obtain ⟨h1, h2⟩ := c3b x y
 apply gW
 ·apply gh
  intro j
  rw [iB]
  by_cases hj : 64 ≤ j
  ·exact big _ h1 j hj
  ·have := k (j : Int) ⟨by omega, by omega⟩
   unfold nK at this
   rw [if_pos (by omega)] at this
   exact this
 ·apply gh
  intro j
  rw [iB]
  by_cases hj : 64 ≤ j
  ·exact big _ h2 j hj
  ·have := k (64 + j : Int) ⟨by omega, by omega⟩
   unfold nK at this
   rw [if_neg (by omega), show (64 + (j : Int) - 64).toNat = j by omega] at this
   exact this
theorem a8S {o : Org} (h0 : organE o = 0) (b : Nat → Nat) : pT o (pS o b) = 0 := by
 have hf := Org.ba h0
 unfold pT
 rw [if_neg (by rw [h0]; simp), if_neg (by rw [tE]; simp), if_neg]
 rintro ⟨j, hj, hne⟩
 apply hne
 have hk := hf.keys j hj
 rw [a5W hj]
 refine a6n (b1k hf b hj) fun z hz hh => ?_
 rw [zG, a2s (fun n hn => (uI hf (b (j % 3)) hj n hn).1) hz] at hh
 have := uI hf (b (j % 3)) hj z (of_decide_eq_true hh)
 rw [a1y hk.1 hk.2.2 hz, decide_eq_true this.2.1, decide_eq_true this.2.2]
 rfl
end Go.Ds
namespace Go.Ds
open Go.Proofs
set_option maxRecDepth 10000
theorem Star.mono {α : Type} {R R' : α → α → Prop} (h : ∀ a b, R a b → R' a b) {a b : α} (hs : Star R a b) : Star R' a b := by
 induction hs with
 | refl => exact .refl _
 | tail _ h2 ih => exact .tail ih (h _ _ h2)
end Go.Ds
namespace Go.Ds
open Go.Proofs Go.Shelf Go.RowKit Go.Lib Go.Sort
def sm (x : Int × Int) : Prop := -1000000000 ≤ x.1 ∧ x.1 ≤ 1000000000 ∧ -1000000000 ≤ x.2 ∧ x.2 ≤ 1000000000
abbrev Sm := {x : Int × Int // sm x}
instance : Inhabited Sm := ⟨⟨(0, 0), by unfold sm; decide⟩⟩
section
variable {H : Heap}
end
end Go.Ds
namespace Go.Ds
open Go.Proofs
variable {H : Heap}
set_option maxRecDepth 10000
set_option maxHeartbeats 1000000
end Go.Ds
namespace Go.Ds
open Go.Proofs Go.Shelf Go.RowKit Go.Lib Go.Sort
section
variable {H : Heap}
end
end Go.Ds
namespace Go.Ds
open Go.Proofs
variable {H : Heap}
set_option maxRecDepth 10000
set_option maxHeartbeats 1000000
end Go.Ds
namespace Go.Ds
open Go.Proofs Go.Proofs.Tryz
variable {H : Heap}
set_option maxRecDepth 10000
set_option maxHeartbeats 1000000
theorem b7y (v : Value) (xs : List Ct) (hv : Sl 2 kB H v xs) (hl : xs.length < 1000000000) (k : FuncId) (caps : List Value) (p : Nat → Bool)
 (hf : ∀ j H1, j < xs.length → St prog H H1 [] → Fn prog k (.agg #[I (iD xs j).1, I (iD xs j).2] :: caps) H1 fun r H2 => r = .bool (p j) ∧ St prog H1 H2 []) :
 Fn prog 137 [v, .func (.func k) #[] caps.toArray] H fun r H' => r = I (nF p xs.length) ∧ St prog H H' [] := by
 refine .aE func137 rfl (by kernel_rfl) (m := 19) rfl fun l hn g0 g1 => ?_
 simp (disch := omega) only [↓RA, RZ, simprocAttr, hn, g0, ((sR H).sl hv).len]
 refine Wp.al (fun n l H' => l.length = 19 ∧ get l 0 = v ∧ get l 1 = .func (.func k) #[] caps.toArray ∧ get l 7 = I xs.length ∧ ∃ (j : Nat), (n + j = xs.length ∧ ∀ q, q < j → p q = false) ∧ get l 8 = I j ∧ St prog H H' []) xs.length ?_ ?_
 ·simp (disch := omega) only [RB, RC, simprocAttr, hn, g0, g1]
  exact ⟨0, ⟨by omega, fun q hq => absurd hq (dO _)⟩, rfl, (sR H)⟩
 rintro n l H1 ⟨hn, g0, g1, g7, j, ⟨hi,h0⟩, g8, hS1⟩
 simp (disch := omega) only [↓RA, RB, simprocAttr, hn, g7, g8]
 refine iC (fun h => ?_) (fun h => ?_)
 ·simp (disch := omega) only [↓RA, RZ, simprocAttr, hn, g0, g1, g8, (hS1.sl hv).idx, (hS1.sl hv).ag, kB, h]
  refine hS1.cF (hf j _ (by omega) hS1) fun H2 hS2 => ?_
  simp (disch := omega) only [↓RA, RZ, simprocAttr, hn, h]
  refine jL (fun hp => ?_) (fun hp => ?_)
  ·simp (disch := omega) only [↓RA, RZ, simprocAttr, hn, c0P, h, hp]
   exact ⟨by rw [vK p xs.length j (by omega) hp h0], hS2⟩
  simp (disch := omega) only [↓RA, RZ, simprocAttr, hn, g0, g1, g7, g8, h, hp]
  exact ⟨n - 1, by omega, j + 1, ⟨by omega, fun q hq => by rcases dw.1 hq with e | e; (· exact h0 q e); (· rw [e]; exact hp)⟩, by simp, hS2⟩
 simp (disch := omega) only [↓RA, RZ, simprocAttr, hn, c0P, h]
 exact ⟨by rw [vH p xs.length fun q hq => h0 q (by omega)], hS1⟩
theorem c3w : a3I prog 45 = some (1 + 1) := by kernel_rfl
structure Frs {α : Type} (n : Nat) (cel : α → List Value) (H : Heap) (v : Value) (xs : List α) (tl : List Value) (L : Nat) : Prop where
 rd : RdAt H v n (xs.flatMap cel ++ tl)
 hc : ∀ x, (cel x).length = n
 pos : 0 < n
 hL : L = xs.length
theorem pA (v : Value) (n lo k j f : Nat) : jQ (kT v n lo k) n j f = jQ v n (lo + j) f := by
 unfold kT
 split
 ·simp only [jQ, Value.pointer.injEq, dE, Addr.mk.injEq, true_and, and_true]
  rw [fi]
  omega
 ·rename_i h
  unfold jQ
  split
  ·exact absurd rfl (h _ _ _ _ _)
  ·rfl
theorem a0c (v : Value) (n lo k lo2 k2 : Nat) : kT (kT v n lo k) n lo2 k2 = kT v n (lo + lo2) k2 := by
 cases v with
 | slice a m c =>
   cases a with
   | none => rfl
   | some a =>
     obtain ⟨A, i, e⟩ := a
     simp only [kT, Value.slice.injEq, dE, Addr.mk.injEq, true_and, and_true]
     rw [fi]
     omega
 | _ => rfl
section
variable {P : Program} {α : Type} {n : Nat} {cel : α → List Value} {v : Value} {xs : List α} {tl : List Value} {L : Nat}
theorem Frs.sl (h : Frs n cel H v xs tl L) : Sl n cel H (kT v n 0 L) xs := by
 refine ⟨?_, h.hc, h.pos⟩
 have hl := iM h.hc xs
 rw [h.hL]
 by_cases h0 : xs.flatMap cel ++ tl = []
 ·have hx : xs.length = 0 := by
   have := congrArg List.length h0
   rw [dg, hl, eG] at this
   have h2 : xs.length * n = 0 := by omega
   rcases Nat.mul_eq_zero.1 h2 with h3 | h3
   ·exact h3
   ·have := h.pos; omega
  obtain rfl := fB.1 hx
  have hr := h.rd
  rw [h0] at hr
  obtain ⟨m, rfl⟩ : ∃ m, n = m + 1 := ⟨n - 1, by have := h.pos; omega⟩
  have e := RdAt.sub_self (n := 0) hr (by simp)
  show RdAt H (kT v (m + 1) 0 0) (m + 1) []
  rw [e]
  exact hr
 ·have h5 := RdAt.sub h.rd 0 xs.length (by rw [dg, hl]; omega) h0
  rw [Nat.zero_mul, il, ← hl, List.take_left' rfl] at h5
  exact h5
theorem Frs.len (h : Frs n cel H v xs tl L) (m : Nat) (t : TypeId) : a7I (some m) P H t (kT v n 0 L) = some (.int .i64 L) := by
 rw [h.sl.len m t, h.hL]
theorem Frs.idx (h : Frs n cel H v xs tl L) (t : TypeId) (k : IntKind) (j : Int) (h0 : 0 ≤ j) (h1 : j < xs.length) : vV (some n) P t (kT v n 0 L) (.int k j) = some (jQ v n j.toNat 0) := by
 rw [h.sl.idx t k j h0 h1, pA, ff]
theorem Frs.bp (h : Frs n cel H v xs tl L) (j : Nat) (hj : j < xs.length) (g d : Nat) : a7y (some d) (jQ v n j g) = some (jQ v n j (g + d)) := by
 have := h.sl.bp j hj g d
 rwa [pA, pA, ff] at this
theorem Frs.ld [Inhabited α] (h : Frs n cel H v xs tl L) (s : Option Nat) (j f : Nat) (hj : j < xs.length) (hf : f < n) : oG (some false) s H (jQ v n j f) = (cel (iD xs j))[f]? := by
 have := h.sl.ld s j f hj hf
 rwa [pA, ff] at this
theorem Frs.ag [Inhabited α] (h : Frs n cel H v xs tl L) (j : Nat) (hj : j < xs.length) : oG (some true) (some n) H (jQ v n j 0) = some (.agg (cel (iD xs j)).toArray) := by
 have := h.sl.ag j hj
 rwa [pA, ff] at this
theorem Frs.aL (h : Frs n cel H v xs tl L) (o : Oper) (l : List Value) (H' : Heap) (k : IntKind) (a : Int) (K : Value → Heap → Prop) (h0 : 0 < xs.length) (h1 : 0 ≤ a) (h2 : a ≤ xs.length) :
 nZ P o l H' (some n) (kT v n 0 L) (some (.int k a)) none K = oL (kT v n a.toNat (L - a).toNat) fun v => K v H' := by
 rw [h.sl.aL o l H' k a K h0 h1 h2, a0c, ff, h.hL]
theorem Frs.aM (h : Frs n cel H v xs tl L) (o : Oper) (l : List Value) (H' : Heap) (k : IntKind) (a : Int) (K : Value → Heap → Prop) (h0 : 0 < xs.length) (h1 : 0 ≤ a) (h2 : a ≤ xs.length) :
 nZ P o l H' (some n) (kT v n 0 L) none (some (.int k a)) K = oL (kT v n 0 a.toNat) fun v => K v H' := by
 rw [h.sl.aM o l H' k a K h0 h1 h2, a0c, ff]
theorem Frs.cells (h : Frs n cel H v xs tl L) : (kT v n 0 L).cells = #[kT v n 0 L] ∧ oneCell (kT v n 0 L) = true ∧ oA (kT v n 0 L) = true := h.sl.cells
theorem St.bY {B : Base} {os : List Ob} (hS : St P B H os) (i : Nat) {m : Nat} (ho : os[i]? = some ⟨v, m + 1, xs.flatMap cel ++ tl⟩) (hc : ∀ x, (cel x).length = m + 1) (hL : L = xs.length) : Frs (m + 1) cel H v xs tl L := ⟨hS.rd i ho, hc, fK _, hL⟩
end
theorem c3I {B : Base} {v : Value} {xs : List Ct} {tl : List Value} (hS : St prog B H [⟨v, 2, pr xs ++ tl⟩]) (hl : xs.length < 100000000) (k : FuncId) (caps : List Value) (p : Ct → Bool)
 (hf : ∀ c ∈ xs, ∀ {H1 : Heap} {os : List Ob}, St prog B H1 os → Fn prog k (.agg #[I c.1, I c.2] :: caps) H1 fun r H2 => r = .bool (p c) ∧ St prog H1 H2 []) :
 Fn prog 85 [kT v 2 0 xs.length, .func (.func k) #[] caps.toArray] H fun r H' => ∃ rest : List Value, r = kT v 2 0 (xs.filter fun c => !p c).length ∧ St prog B H' [⟨v, 2, pr (xs.filter fun c => !p c) ++ rest⟩] := by
 refine .aE func85 rfl (by kernel_rfl) (m := 42) rfl fun l hn g0 g1 => ?_
 simp (disch := omega) only [↓RA, RZ, simprocAttr, hn, g0, g1]
 refine hS.cF (b7y (kT v 2 0 xs.length) xs ((hS.bY (cel := kB) (xs := xs) 0 rfl (fun _ => rfl) rfl).sl) (by omega) k caps (fun j => p (iD xs j)) (fun j H1 hj hS' => hf _ (iG hj) (hS.trans hS'))) fun H1 hS1 => ?_
 simp (disch := omega) only [↓RA, RB, simprocAttr, hn]
 refine iC (fun h1 => ?_) (fun h1 => ?_)
 ·have hno : ∀ c ∈ xs, p c = false := by
   intro c hc
   obtain ⟨j, hj, rfl⟩ := dL.1 hc
   have h2 : ¬ 0 ≤ nF (fun j => p (iD xs j)) xs.length := by omega
   rw [yF] at h2
   rw [← jN xs j hj, ← eP]
   exact fun hp => h2 ⟨j, hj, hp⟩
  have hfe : (xs.filter fun c => !p c) = xs := gT.2 fun c hc => by rw [hno c hc]; rfl
  simp (disch := omega) only [↓RA, RZ, simprocAttr, hn, g0, c5f, h1]
  exact ⟨tl, by rw [hfe], by rw [hfe]; exact hS1⟩
 have hge : 0 ≤ nF (fun j => p (iD xs j)) xs.length := by
  unfold nF at h1 ⊢
  split
  ·omega
  ·rename_i hq
   rw [hq] at h1
   exact absurd rfl h1
 obtain ⟨i0, hi0⟩ : ∃ i0 : Nat, nF (fun j => p (iD xs j)) xs.length = i0 := ⟨_, (fp hge).symm⟩
 have hi0l := zC hi0
 have hi0b : (∀ j, j < i0 → p (iD xs j) = false) ∧ p (iD xs i0) = true := by
  unfold nF at hi0
  split at hi0
  ·rename_i q hq
   have hqi : q = i0 := by omega
   subst hqi
   rw [List.find?_range_eq_some] at hq
   exact ⟨fun j hj => by have := hq.2.2 j hj; simpa using this, hq.1⟩
  ·omega
 have hD0 : ((xs.take (i0 + 1)).filter fun c => !p c) = xs.take i0 := by
  rw [kK xs i0 hi0l, eu]
  have e1 : ([iD xs i0].filter fun c => !p c) = [] := by simp [hi0b.2]
  rw [e1, dm]
  refine gT.2 fun c hc => ?_
  obtain ⟨j, hj, rfl⟩ := dL.1 hc
  have hj2 : j < i0 := by rw [eI] at hj; omega
  have := hi0b.1 j hj2
  rw [jN xs j (by omega)] at this
  rw [ir, this]
  rfl
 simp (disch := omega) only [↓RA, RZ, simprocAttr, hn, hi0]
 have hrow : St prog B H1 [⟨v, 2, pr (((xs.take (i0 + 1)).filter fun c => !p c) ++ xs.drop ((xs.take (i0 + 1)).filter fun c => !p c).length) ++ tl⟩] := by
  rw [hD0, eI, fy (by omega), fY]
  exact hS1
 have hlt0 : ((xs.take (i0 + 1)).filter fun c => !p c).length < i0 + 1 := by
  rw [hD0, eI]
  omega
 refine Wp.al (fun n l H' => l.length = 42 ∧ get l 0 = kT v 2 0 xs.length ∧ get l 1 = .func (.func k) #[] caps.toArray ∧ ∃ j : Nat, (n + j = xs.length ∧ ((xs.take j).filter fun c => !p c).length < j) ∧ get l 5 = I ((xs.take j).filter fun c => !p c).length ∧ get l 6 = I j ∧ St prog B H' [⟨v, 2, pr (((xs.take j).filter fun c => !p c) ++ xs.drop ((xs.take j).filter fun c => !p c).length) ++ tl⟩]) (xs.length - (i0 + 1)) ?_ ?_
 ·simp (disch := omega) only [RB, RC, simprocAttr, hn, g0, g1]
  refine ⟨i0 + 1, ⟨by omega, hlt0⟩, ?_, by simp, hrow⟩
  rw [hD0, eI, fy (by omega)]
 clear hrow hlt0
 rintro n l H9 ⟨hn, g0, g1, j, ⟨hj, hlt⟩, g5, g6, hS9⟩
 have hsucc : j < xs.length → ((xs.take (j + 1)).filter fun c => !p c) = ((xs.take j).filter fun c => !p c) ++ (if p (iD xs j) = true then [] else [iD xs j]) := fun h => by
  rw [kK xs j h, eu]
  congr 1
  by_cases hp : p (iD xs j) = true
  ·rw [if_pos hp]; simp [hp]
  ·rw [if_neg hp]; simp [hp]
 have hall : j = xs.length → ((xs.take j).filter fun c => !p c) = xs.filter fun c => !p c := fun h => by rw [h, ew]
 generalize hD : ((xs.take j).filter fun c => !p c) = D at g5 hlt hS9 hsucc hall
 have hjl : j ≤ xs.length := by omega
 have hrl : (D ++ xs.drop D.length).length = xs.length := by rw [dg, eJ]; omega
 have hat : ∀ q, D.length ≤ q → iD (D ++ xs.drop D.length) q = iD xs q := fun q hq => by
  unfold iD
  rw [de, ec hq, dI, de]
  congr 2; omega
 have hatj := hat j (by omega)
 simp (disch := omega) only [↓RA, RZ, simprocAttr, hn, g0, g6, (hS9.bY (cel := kB) (xs := D ++ xs.drop D.length) (L := xs.length) 0 rfl (fun _ => rfl) hrl.symm).len]
 refine iC (fun h4 => ?_) (fun h4 => ?_)
 ·have hjx : j < xs.length := by omega
  have hsu := hsucc hjx
  simp (disch := omega) only [↓RA, RZ, simprocAttr, hn, g0, g6, (hS9.bY (cel := kB) (xs := D ++ xs.drop D.length) (L := xs.length) 0 rfl (fun _ => rfl) hrl.symm).idx, (hS9.bY (cel := kB) (xs := D ++ xs.drop D.length) (L := xs.length) 0 rfl (fun _ => rfl) hrl.symm).ag, kB, hatj, h4]
  refine hS9.eNew 2 [I 0, I 0] rfl rfl rfl rJ fun A1 H2 hS2 => ?_
  simp only [RT] at hS2
  simp (disch := omega) only [↓RA, RZ, simprocAttr, hn, h4]
  refine hS2.aa 1 rfl [I (iD xs j).1, I (iD xs j).2] rfl rfl rJ (by simp) fun H3 hS3 => ?_
  simp only [RT] at hS3
  simp (disch := omega) only [↓RA, RZ, simprocAttr, hn, g1, hS3.ag 1 rfl, h4]
  refine hS3.cF (hf (iD xs j) (iG hjx) hS3) fun H4 hS4 => ?_
  simp (disch := omega) only [↓RA, RZ, simprocAttr, hn, h4]
  refine jL (fun h5 => ?_) (fun h5 => ?_)
  ·have hpf : ¬ p (iD xs j) = true := by simpa using h5
   rw [if_neg hpf] at hsu
   simp (disch := omega) only [↓RA, RZ, simprocAttr, hn, g0, g5, hS4.ag 1 rfl, (hS4.bY (cel := kB) (xs := D ++ xs.drop D.length) (L := xs.length) 0 rfl (fun _ => rfl) hrl.symm).idx, h4, h5]
   refine hS4.aR 0 rfl [I (iD xs j).1, I (iD xs j).2] rfl rfl rJ (by simp) (by rw [dg, iI, hrl]; simp; omega) fun H5 hS5 => ?_
   simp only [RT] at hS5
   simp (disch := omega) only [↓RA, RZ, simprocAttr, hn, g0, g1, g5, g6, h4, h5]
   refine ⟨n - 1, by omega, j + 1, ?_⟩
   rw [hsu]
   refine ⟨⟨by omega, by simp; omega⟩, by simp, by simp, ?_⟩
   have e3 : pr (D ++ [iD xs j] ++ xs.drop (D ++ [iD xs j]).length) ++ tl = ((pr (D ++ xs.drop D.length) ++ tl).set (D.length * 2) (I (iD xs j).1)).set (D.length * 2 + 1) (I (iD xs j).2) := by
    have hx : xs.drop D.length = iD xs D.length :: xs.drop (D.length + 1) := by
     rw [jN xs _ (by omega)]
     exact eU (by omega)
    rw [hx, dg, gD, jS, jS, jS]
    have e4 : pr (iD xs D.length :: xs.drop (D.length + 1)) = I (iD xs D.length).1 :: I (iD xs D.length).2 :: pr (xs.drop (D.length + 1)) := rfl
    have e5 : pr [iD xs j] = [I (iD xs j).1, I (iD xs j).2] := rfl
    have e6 : (pr D).length = D.length * 2 := iI D
    rw [e4, e5, show pr D ++ (I (iD xs D.length).1 :: I (iD xs D.length).2 :: pr (xs.drop (D.length + 1))) ++ tl = pr D ++ (I (iD xs D.length).1 :: I (iD xs D.length).2 :: (pr (xs.drop (D.length + 1)) ++ tl)) from by simp, dZ _ _ (by omega), dZ _ _ (by omega), e6, gu, fC]
    simp
   rw [e3]
   exact hS5.pick [0] (by decide) rfl
  have hpt : p (iD xs j) = true := by simpa using h5
  rw [if_pos hpt, dm] at hsu
  simp (disch := omega) only [↓RA, RZ, simprocAttr, hn, g0, g1, g5, g6, h4, h5]
  refine ⟨n - 1, by omega, j + 1, ?_⟩
  rw [hsu]
  exact ⟨⟨by omega, by omega⟩, rfl, by simp, hS4.pick [0] (by decide) rfl⟩
 have hje : j = xs.length := by omega
 have hDe := hall hje
 have hcl : (pr (D ++ xs.drop D.length) ++ tl).length = xs.length * (1 + 1) + tl.length := by rw [dg, iI, hrl]
 have hDn : D.length ≤ xs.length := by omega
 simp (disch := omega) only [↓RA, RZ, simprocAttr, hn, g0, g5, (hS9.bY (cel := kB) (xs := D ++ xs.drop D.length) (L := xs.length) 0 rfl (fun _ => rfl) hrl.symm).aL, h4]
 rw [show ((xs.length : Int) - D.length).toNat = xs.length - D.length from by omega]
 refine hS9.bq (size := 1) 0 rfl D.length (xs.length - D.length) (by rw [hcl]; omega) (by
  intro e
  have h2 : (pr (D ++ xs.drop D.length) ++ tl).length = 0 := by rw [e]; rfl
  rw [hcl] at h2; omega) c3w fun z H3 hz hSc => ?_
 simp only [RT] at hSc
 have e3 : jB (pr (D ++ xs.drop D.length) ++ tl) (D.length * 2) z = pr D ++ (z ++ tl) := by
  rw [jS, dC, show D.length * 2 = (pr D).length from (iI D).symm, mG z (pr D) (pr (xs.drop D.length) ++ tl) (by rw [dg, iI, eJ]; omega), show z.length = (pr (xs.drop D.length)).length from by rw [hz, iI, eJ], List.drop_left, dC]
 rw [show D.length * (1 + 1) = D.length * 2 from rfl, e3] at hSc
 have hwl : (pr D ++ z).length = xs.length * (1 + 1) := by rw [dg, iI, hz]; omega
 have hw : RdAt H3 (kT v (1 + 1) 0 xs.length) (1 + 1) (pr D ++ z) := by
  have h5 := RdAt.sub (hSc.rd 0 rfl) 0 xs.length (by rw [← dC, dg, hwl]; omega) (by
   intro e
   have h2 := congrArg List.length e
   rw [← dC, dg, hwl, eG] at h2
   omega)
  rw [Nat.zero_mul, il, ← dC, ← hwl, List.take_left' rfl] at h5
  exact h5
 have hsl9 := fun o l H' k a K h0 h1 h2 => (hw.aM (P := prog) hwl o l H' k a K h0 h1 h2).trans (by rw [a0c, ff])
 simp (disch := omega) only [↓RA, RZ, simprocAttr, hn, g0, g5, hsl9, c5f, h4]
 exact ⟨z ++ tl, by rw [← hDe], by rw [← hDe]; exact hSc⟩
end Go.Ds
namespace Go.Ds
open Go
section
variable {P : Program} {H : Heap}
theorem SWr.mono : ∀ (c : Code) {l : List Value} {H : Heap} {M Q : nT}, (∀ e l H, M e l H → Q e l H) → SWr P c l H M → SWr P c l H Q := by
 intro c
 induction c with
 | skip => intro l H M Q hm h; exact hm _ _ _ h
 | label t => intro l H M Q hm h; exact hm _ _ _ h
 | exit id => intro l H M Q hm h; exact hm _ _ _ h
 | ret => intro l H M Q hm h; exact hm _ _ _ h
 | seq a b iha ihb =>
   intro l H M Q hm h
   refine iha ?_ h
   intro e l1 H1 h1
   cases e with
   | normal => exact ihb hm h1
   | exit i => exact hm _ _ _ h1
   | ret => exact hm _ _ _ h1
 | block id b ih =>
   intro l H M Q hm h
   exact ih (fun e l1 H1 h1 => hm _ _ _ h1) h
 | cond c x y ihx ihy =>
   intro l H M Q hm h
   cases c with
   | tmp t => exact a2J h (ihx hm) (ihy hm)
   | _ => exact Wp.mono h hm
 | region id ops d =>
   intro l H M Q hm h
   cases d with
   | true => exact Wp.mono h hm
   | false => exact zY (fun l H h => hm _ _ _ h) _ _ _ h
 | _ => intro l H M Q hm h; exact Wp.mono h hm
end
end Go.Ds
namespace Go.Ds
noncomputable section
variable {P : Program} {H0 : Base} {H : Heap} {os : List Ob} {κ β : Type} [DecidableEq κ] {enc : κ → Value} {f : β → Value} {z : Value} {t : TypeId}
theorem St.bb {o : Ob} (h : OwnAt P H o) : St P ⟨H, pM [o]⟩ H [o] where
 len := di _
 old := fun _ _ _ => rfl
 own := fun x hx => by rw [dB.1 hx]; exact h
 new := fun x hx B hB => .inr ⟨x, hx, hB⟩
 sep := List.pairwise_singleton _ _
theorem OwnAt.st {H0 : Heap} {o : Ob} (h : OwnAt P H0 o) (hS : St P H0 H os) : OwnAt P H o := h.ab fun B hB => hS.ab B (h.lt hB)
theorem b2l (kvs : List (κ × β)) (k k2 : κ) (b : β) (h : pW kvs k = none) : pW (kvs ++ [(k, b)]) k2 = if k2 = k then some b else pW kvs k2 := by
 unfold pW at h ⊢
 rw [List.find?_append]
 by_cases hk : k2 = k
 ·subst hk
  rw [if_pos rfl]
  cases hf : kvs.find? (fun p => decide (p.1 = k2)) with
  | none => simp
  | some p => rw [hf] at h; cases h
 ·rw [if_neg hk]
  cases hf : kvs.find? (fun p => decide (p.1 = k2)) with
  | none => simp [eH hk]
  | some p => simp
theorem St.cH (hS : St P H0 H os) (i : Nat) {A : Nat} {kvs : List (κ × β)} (ho : os[i]? = some ⟨.map (some A), 0, kcs enc f kvs⟩) (hk : MapK P t enc z) (hf : ∀ b, mK (f b) = true) {b0 : β} (hz : f b0 = z) {k : κ} {K : Value → Heap → Prop}
 (h : ∀ x (n : Nat) H1, (∀ (k2 : κ) (K : Value → Prop), a0Z P H1 t (.map (some A)) (enc k2) false K = K (((pW kvs k2).map f).getD z)) →
   (∀ (v : β) (K2 : Heap → Prop), (∀ H2, St P H0 H2 (os.set i ⟨.map (some A), 0, kcs enc f (a0e kvs k v)⟩) → K2 H2) → a4b H1 (.map (some A)) (.int .i64 n) (f v) K2) → K (.tuple #[x, .int .i64 n]) H1) : b4E P H t (.map (some A)) (enc k) K := by
 obtain ⟨kt, et, h1, h2, h3, h4, h5, h6⟩ := hk.ex
 obtain ⟨es, ck, ver, h7, h8, hst⟩ := hS.bO i ho
 obtain ⟨h9, h10⟩ := a1v es kvs h8
 have hi := h5 k es (kvs.map (·.1)) (by rw [h9]; simp [gI])
 have hlt := jG h7
 have fin : ∀ (es1 : List MapEntry) (ck1 v1 j : Nat) (e1 : MapEntry) (v : β) (K2 : Heap → Prop), Stamps es1 ck1 → es1[j]? = some e1 → mcs (es1.set j { e1 with val := f v }) = kcs enc f (a0e kvs k v) →
  (∀ H2, St P H0 H2 (os.set i ⟨.map (some A), 0, kcs enc f (a0e kvs k v)⟩) → K2 H2) → a4b (hset H A (.map es1 ck1 v1)) (.map (some A)) (.int .i64 e1.born) (f v) K2 := by
  intro es1 ck1 v1 j e1 v K2 hs1 hj hm hK
  have hg1 : iO (hset H A (.map es1 ck1 v1)) A = some (.map es1 ck1 v1) := iR _ hlt
  refine ⟨hset (hset H A (.map es1 ck1 v1)) A (.map (es1.set j { e1 with val := f v }) ck1 (v1 + 1)), ?_, hK _ (hS.put i ho ?_ ?_ ?_ ?_)⟩
  ·simp only [rE, hg1, hs1.idx hj, hj, da]
  ·unfold OwnAt
   rw [if_pos rfl]
   exact .inr ⟨A, _, ck1, _, iR _ (by rw [jA]; exact hlt), hm.symm, rfl, hs1.set hj _ rfl⟩
  ·rw [jA, jA]; exact di _
  ·intro B hB hne
   have hBA : A ≠ B := fun hh => hne (by simp [kJ, hh])
   rw [pX hBA, pX hBA]
  ·exact fun B hB => .inl hB
 have lk : ∀ (es1 : List MapEntry) (ck1 v1 : Nat) (kvs1 : List (κ × β)), Stamps es1 ck1 → kcs enc f kvs1 = mcs es1 → (∀ k2, ((pW kvs1 k2).map f).getD z = ((pW kvs k2).map f).getD z) →
  ∀ (k2 : κ) (K : Value → Prop), a0Z P (hset H A (.map es1 ck1 v1)) t (.map (some A)) (enc k2) false K = K (((pW kvs k2).map f).getD z) := by
  intro es1 ck1 v1 kvs1 hs1 hm hkg k2 K
  have ho1 : OwnAt P (hset H A (.map es1 ck1 v1)) ⟨.map (some A), 0, kcs enc f kvs1⟩ := by
   unfold OwnAt
   rw [if_pos rfl]
   exact .inr ⟨A, es1, ck1, v1, iR _ hlt, hm, rfl, hs1⟩
  have hl := (St.bb ho1).cU 0 rfl hk hf false k2
  unfold a0Z
  rw [hl, hkg]
  apply propext
  constructor
  ·rintro ⟨v, hv, hK⟩
   rw [← cY hv] at hK
   exact hK
  ·exact fun hK => ⟨_, rfl, hK⟩
 rcases a5Z kvs k with ⟨j, x, e1, e2, _⟩ | ⟨e1, e4⟩
 ·have hj : es[j]?.map (·.key) = some (enc x.1) := by
   rw [← ef, h9, ef, e2]; rfl
  have hjv : es[j]?.map (·.val) = some (f x.2) := by
   rw [← ef, h10, ef, e2]; rfl
  have hx : x.1 = k := by
   have := fZ.1 e1
   obtain ⟨hlt, hd, _⟩ := this
   have hlt' : j < kvs.length := by simpa using hlt
   have : kvs[j] = x := by
    rw [dr hlt'] at e2
    exact cY e2
   simp [this] at hd
   exact hd
  cases he : es[j]? with
  | none => rw [he] at hj; simp at hj
  | some e =>
    rw [he] at hj hjv
    simp only [dP, dE] at hj hjv
    have hjl := (du.1 he).1
    have hes : mcs (es.set j { e with key := enc k }) = mcs es := by
     have hee : ({ e with key := enc k } : MapEntry) = e := by
      rw [← hx, ← hj]
     rw [hee]
     have : es.set j e = es := by
      obtain ⟨_, hg⟩ := du.1 he
      rw [← hg]; exact gC _
     rw [this]
    refine ⟨.tuple #[e.val, .int .i64 e.born], hset H A (.map (es.set j { e with key := enc k }) ck (ver + 1)), ?_, h _ _ _ (lk _ ck (ver + 1) kvs (hst.set he _ rfl) (by rw [hes]; exact h8) fun _ => rfl) fun v K2 hK => fin (es.set j { e with key := enc k }) ck (ver + 1) j { e with key := enc k } v K2 (hst.set he _ rfl) (by rw [gG]; simp [hjl]) ?_ hK⟩
    ·have hsb : Instr.sameBits 10000 e.key (enc k) = true := by rw [hj, hx]; exact h6 k
     simp only [rG, h1, da, h7, h4, if_true, hi, e1, he, hsb, hjv, hf, Bool.and_self, goInt]
    ·symm
     rw [a1o, e1, List.set_set]
     refine zX _ _ ?_ ?_
     ·rw [fR, fR, h9]
     ·rw [fR, fR, h10]
 ·have hln : (es ++ [({ key := enc k, val := z, born := ck } : MapEntry)])[es.length]? = some { key := enc k, val := z, born := ck } := by simp
  have hkn : pW kvs k = none := by unfold pW; rw [e4]; rfl
  have hpm : kcs enc f (kvs ++ [(k, b0)]) = mcs (es ++ [{ key := enc k, val := z, born := ck }]) := by
   refine zX _ _ ?_ ?_
   ·rw [dy, dy, h9]; simp
   ·rw [dy, dy, h10]; simp [hz]
  refine ⟨.tuple #[z, .int .i64 ck], hset H A (.map (es ++ [{ key := enc k, val := z, born := ck }]) (ck + 1) (ver + 1)), ?_, h _ _ _ (lk _ (ck + 1) (ver + 1) (kvs ++ [(k, b0)]) (hst.push _ rfl) hpm fun k2 => ?_) fun v K2 hK => fin _ (ck + 1) (ver + 1) es.length { key := enc k, val := z, born := ck } v K2 (hst.push _ rfl) hln ?_ hK⟩
  ·simp only [rG, h1, da, h7, h4, if_true, hi, e1, h2, h3, goInt]
  ·rw [b2l kvs k k2 b0 hkn]
   by_cases hk2 : k2 = k
   ·subst hk2
    rw [if_pos rfl, hkn]
    simp [hz]
   ·rw [if_neg hk2]
  ·symm
   rw [a1o, e1]
   refine zX _ _ ?_ ?_
   ·rw [dZ _ _ (di _), dy, dy, h9]; simp
   ·rw [dZ _ _ (di _), dy, dy, h10]; simp
end
end Go.Ds
namespace Go.Ds
open Go.Proofs Go.Proofs.Tryz
variable {H : Heap}
set_option maxRecDepth 10000
set_option maxHeartbeats 1000000
theorem b9e (x : Nt) (hx : Nt.Ok x) (z : Int) (hz : isN z) : Fn prog 84 [.agg #[.int .u64 x.1, .int .u64 x.2], I z] H fun r H' => r = .bool (nK x z) ∧ St prog H H' [] := by
 have h0 : Nt.Ok ((0, 0) : Nt) := ⟨by decide, by decide⟩
 have ha : Nt.Ok (oF (0, 0) z) := b1P h0 hz.1 hz.2
 have hiff : decide (woF (oF (0, 0) z) x = (0, 0)) = nK x z := by
  cases h : nK x z with
  | true =>
    rw [decide_eq_true_iff]
    refine a6n ha fun y hy hh => ?_
    rw [a2T _ _ _ hz hy, vP, Bool.false_or, decide_eq_true_iff] at hh
    rw [hh]; exact h
  | false =>
    rw [decide_eq_false_iff_not]
    intro e
    have := wX ha e hz (by rw [a2T _ _ _ hz hz, vP]; simp)
    rw [h] at this
    cases this
 refine .aE func84 rfl (by kernel_rfl) (m := 13) rfl fun l hn g0 g1 => ?_
 simp (disch := omega) only [↓RA, RB, simprocAttr, g0]
 refine (sR H).eNew 2 [(.int .u64 x.1), (.int .u64 x.2)] rfl rfl rfl lR fun A1 H1 hS1 => ?_
 simp only [RT] at hS1
 simp (disch := omega) only [↓RA, RZ, simprocAttr, hn, g1]
 refine hS1.cF (a4v z hz) fun H2 hS2 => ?_
 simp (disch := omega) only [↓RA, RZ, simprocAttr, hn]
 refine Wp.aO kE [(3, 0)] (by kernel_rfl) (by kernel_rfl) ?_
 simp (disch := omega) only [↓RA, RZ, simprocAttr, hn, g1, c1a]
 refine hS2.cF (a3g (0, 0) h0 z hz.1 hz.2) fun H3 hS3 => ?_
 simp (disch := omega) only [↓RA, RZ, simprocAttr, hn, hS3.ag 0 rfl]
 refine hS3.cF (a3d (oF (0, 0) z) x) fun H4 hS4 => ?_
 rw [hiff]
 simp (disch := omega) only [↓RA, RZ, simprocAttr, hn, hS2.ag 0 rfl, c6W]
 exact hS4.forget
abbrev KN (kvs : List (Ct × Int)) : List Value := kcs (fun p : Int × Int => .agg #[I p.1, I p.2]) I kvs
abbrev pP (kvs : List (Ct × Int)) (c : Ct) : Int := (pW kvs c).getD 0
theorem b4r (c : Ct) (AT M : Nat) (kvs : List (Ct × Int)) (hV : Var H AT 1 [.map (some M)]) (hM : OwnAt prog H ⟨.map (some M), 0, KN kvs⟩) :
 Fn prog 86 [.agg #[I c.1, I c.2], ptr AT 0 1] H fun r H' => r = .bool (decide (1 < pP kvs c)) ∧ St prog H H' [] := by
 refine .aE func86 rfl (by kernel_rfl) (m := 8) rfl fun l hn g0 g1 => ?_
 simp (disch := omega) only [↓RA, RB, simprocAttr, g0]
 refine (sR H).eNew 2 [I c.1, I c.2] rfl rfl rfl rJ fun A1 H1 hS1 => ?_
 simp only [RT] at hS1
 simp (disch := omega) only [↓RA, RZ, simprocAttr, hn, g1, (hV.ab hS1.ab).ld, hS1.ag 0 rfl]
 refine (St.bb ((hM.st hS1))).bz (k := c) 0 rfl b1J (fun _ => rfl) ?_
 simp (disch := omega) only [↓RA, RZ, simprocAttr, hn, c6y]
 exact hS1.forget
structure Gn where
 c : Ct
 w : Value
 l : List Ct
 tl : List Value
 deriving Inhabited
abbrev Gn.v (g : Gn) : Value := kT g.w 2 0 g.l.length
def Gn.cells (g : Gn) : List Value := [I g.c.1, I g.c.2, g.v]
def Gn.row (g : Gn) : Ob := ⟨g.w, 2, pr g.l ++ g.tl⟩
def Gn.key (g : Gn) : Ct × List Ct := (g.c, g.l)
def plK (ks : List Nt) (d : List Ct) : List Ct := d.filter fun c => nK (iD ks c.1.toNat) c.2
def vU (o : Org) (rg : Reg) (l : List Ct) (p : Ct) : Int := ((l.filter fun c => decide (p ∈ nR o rg c)).length : Nat)
theorem b1i (ks : List Nt) (d : List Ct) (c : Ct) : plK ks (d ++ [c]) = plK ks d ++ (if nK (iD ks c.1.toNat) c.2 then [c] else []) := by
 unfold plK
 rw [eu]
 congr 1
 by_cases h : nK (iD ks c.1.toNat) c.2 = true
 ·rw [if_pos h]; simp [h]
 ·rw [if_neg h]; simp [h]
theorem b6p (o : Org) (rg : Reg) (l : List Ct) (c p : Ct) : vU o rg (l ++ [c]) p = vU o rg l p + (if p ∈ nR o rg c then 1 else 0) := by
 unfold vU
 rw [eu, dg]
 by_cases h : p ∈ nR o rg c
 ·rw [if_pos h]; simp [h]
 ·rw [if_neg h]; simp [h]
theorem b8n (o : Org) (rg : Reg) (l : List Ct) (p : Ct) : 0 ≤ vU o rg l p ∧ vU o rg l p ≤ l.length := by
 unfold vU
 have := dV (fun c => decide (p ∈ nR o rg c)) l
 omega
theorem Lp.cI {P : Program} {B : Base} {L : Nat} {r : Loop} {A G xs : List Ob} {g : Ob} (h : Lp P B L r H (A ++ (G ++ (xs ++ [g])))) : Lp P B L r H ((A ++ G) ++ xs) :=
 h.sub (by rw [dC]; exact (List.Sublist.refl A).append ((List.Sublist.refl G).append (fx _ _)))
theorem Lp.cP {P : Program} {B : Base} {L : Nat} {r : Loop} {A G xs : List Ob} {g : Ob} (h : Lp P B L r H (A ++ (G ++ (xs ++ [g])))) : Lp P B L r H ((A ++ (G ++ [g])) ++ xs) := by
 have hp : (A ++ (G ++ (xs ++ [g]))).Perm ((A ++ (G ++ [g])) ++ xs) := by
  rw [dC, dC]
  exact ((List.perm_append_comm).append_left G).append_left A
 exact ⟨h.st.perm hp, h.get, h.lo, fun o ho => h.ne o (hp.mem_iff.2 ho)⟩
theorem St.cJ {P : Program} {B : Base} {os os1 : List Ob} {H1 : Heap} {oi oj : Ob} (hS : St P B H os) (i j : Nat) (hi : os[i]? = some oi) (hj : os[j]? = some oj) (hij : i ≠ j) (h1 : St P ⟨H, pM [oj]⟩ H1 os1) : OwnAt P H1 oi := by
 have hoi := hS.own _ (dR hi)
 refine hoi.ab fun b hb => h1.old b (hoi.lt hb) ?_
 rintro ⟨x, hx, hxb⟩
 rw [dB.1 hx] at hxb
 obtain ⟨hil, hig⟩ := du.1 hi
 obtain ⟨hjl, hjg⟩ := du.1 hj
 rcases fP hij with h | h
 ·have := (eh.1 hS.sep) i j hil hjl h b
  rw [hig, hjg] at this
  exact this hb hxb
 ·have := (eh.1 hS.sep) j i hjl hil h b
  rw [hig, hjg] at this
  exact this hxb hb
def a2D (o : Org) (rg : Reg) (ks : List Nt) : List (Ct × List Ct) := if rkE o rg ks = 0 then (plK ks (mN o)).map fun c => (c, (nR o rg c).filter fun p => !decide (1 < vU o rg (plK ks (mN o)) p)) else []
end Go.Ds
namespace Go.Ds
open Go.Proofs
variable {H : Heap}
set_option maxRecDepth 10000
set_option maxHeartbeats 1000000
theorem b1n {xs : List Ct} (hs : xs.Pairwise ltP) {i j : Nat} (h : i < j) (hj : j < xs.length) : ltP (iD xs i) (iD xs j) := by
 rw [jN _ _ (by omega), jN _ _ hj]
 exact eh.1 hs i j (by omega) hj h
end Go.Ds
namespace Go.Ds
open Go.Proofs Go.Proofs.Tryz
variable {H : Heap}
set_option maxRecDepth 10000
set_option maxHeartbeats 1000000
theorem b5z (o : Org) (rg : Reg) (c : Ct) : (nR o rg c).Pairwise ltP := by
 unfold nR
 split
 ·exact a4E o rg _
 ·exact .nil
theorem a2t {l : List Ct} (hs : l.Pairwise ltP) {j : Nat} (hj : j < l.length) : iD l j ∉ l.take j := fun h => by
 obtain ⟨q, hq, e⟩ := dL.1 h
 rw [eI] at hq
 have h2 := b1n hs (i := q) (j := j) (by omega) hj
 rw [ir] at e
 rw [jN l q (by omega), e] at h2
 exact yX h2
theorem b8Y (o : Org) (ho : o.In H) (rg : Reg) (sv : Value) (hr : rg.In H sv) (kv : Value) (ks : List Nt) (hk : Ks H kv ks) :
 Fn prog 34 [.agg #[.string o.name, o.rv, o.dv, o.cv], .agg #[sv, .int .u64 rg.cpl, .int .u64 rg.off], kv] H fun r H' => ∃ (lv : Value) (gs : List Gn), r = .tuple #[lv, I (rkE o rg ks)] ∧ gs.map Gn.key = a2D o rg ks ∧
  Slx 3 Gn.cells H' (fun B => H.length ≤ B) lv gs ∧ (∀ g ∈ gs, Slx 2 kB H' (fun B => H.length ≤ B) g.v g.l) ∧ St prog H H' [] := by
 have hnil : ∀ {H' : Heap}, Slx 3 Gn.cells H' (fun B => H.length ≤ B) (.slice none 0 0) ([] : List Gn) := fun {H'} => ⟨⟨.inl ⟨rfl, rfl⟩, fun _ => rfl, by decide⟩, fun b h => by simp [kJ] at h⟩
 refine .bK func34 rfl (by kernel_rfl) (m := 81) rfl fun l hn g0 g1 g2 => ?_
 simp (disch := omega) only [↓RA, RB, simprocAttr, g0]
 refine (sR H).eNew 4 [(.string o.name), o.rv, o.dv, o.cv] rfl rfl (by simp [OC, ((sR H).sl ho.1).cells.2.1, ((sR H).sl ho.2.2.1).cells.2.1, ((sR H).sl ho.2.2.2.2.1).cells.2.1]) nC fun A1 H1 hS1 => ?_
 simp only [RT] at hS1
 simp (disch := omega) only [↓RA, RB, simprocAttr, g1]
 refine hS1.eNew 3 [sv, (.int .u64 rg.cpl), (.int .u64 rg.off)] rfl rfl (by simp [OC, (hS1.sl hr.1).cells.2.1]) mS fun A2 H2 hS2 => ?_
 simp only [RT] at hS2
 simp (disch := omega) only [↓RA, RB, simprocAttr, g2]
 refine hS2.eNew 1 [kv] (by rw [(hS2.sl hk.sl).cells.1]) rfl (by simp [(hS2.sl hk.sl).cells.2.1]) b9d fun A3 H3 hS3 => ?_
 simp only [RT] at hS3
 simp (disch := omega) only [↓RA, RZ, simprocAttr, hn, hS3.ag 0 rfl, hS3.ag 1 rfl]
 refine hS3.cF (rO o (ho.ab hS3) rg sv (hr.ab hS3)) fun H4 hS4 => ?_
 simp (disch := omega) only [↓RA, RB, simprocAttr, hn]
 refine iC (fun h1 => ?_) (fun h1 => ?_)
 ·have hE : rkE o rg ks = lZ o rg := by unfold rkE; rw [if_pos h1]
  simp (disch := omega) only [↓RA, RZ, simprocAttr, hn, c1q, h1]
  exact ⟨.slice none 0 0, [], by rw [hE], by rw [a2D, if_neg (by rw [hE]; exact h1)]; rfl, hnil, fun _ h => absurd h eF, hS4.forget⟩
 have h0 := dG.1 h1
 obtain ⟨hz3, hz4⟩ := mV h0
 have hf := Org.ba hz3
 have hE : rkE o rg ks = pT o ks := by unfold rkE; rw [if_neg h1]
 simp (disch := omega) only [↓RA, RZ, simprocAttr, hn, hS4.ag 0 rfl, hS4.ld 2 rfl, h1]
 refine hS4.cF (a6U o (ho.ab hS4) kv ks (hk.ab hS4)) fun H5 hS5 => ?_
 simp (disch := omega) only [↓RA, RZ, simprocAttr, hn, h1]
 refine iC (fun h2 => ?_) (fun h2 => ?_)
 ·simp (disch := omega) only [↓RA, RZ, simprocAttr, hn, c1q, h1, h2]
  exact ⟨.slice none 0 0, [], by rw [hE], by rw [a2D, if_neg (by rw [hE]; exact h2)]; rfl, hnil, fun _ h => absurd h eF, hS5.forget⟩
 have h3 := dG.1 h2
 have hkl := (qU h3).2.1
 rw [hE, h3, a2D, if_pos (by rw [hE]; exact h3)]
 simp (disch := omega) only [↓RA, simprocAttr]
 refine hS5.bP b1J fun M1 H6 hS6 => ?_
 simp only [RT] at hS6
 simp (disch := omega) only [↓RA, RZ, simprocAttr, a2e]
 refine hS6.eNew 1 [(.map none)] rfl rfl rfl b5J fun A4 H7 hS7 => ?_
 simp only [RT] at hS7
 simp (disch := omega) only [↓RA, RZ, simprocAttr, hn, h1]
 refine hS7.aa 4 rfl [(.map (some M1))] rfl rfl b5J (by simp) fun H8 hS8 => ?_
 simp only [RT] at hS8
 simp (disch := omega) only [↓RA, RZ, simprocAttr]
 refine hS8.eNew 1 [(.slice none 0 0)] rfl rfl rfl c3m fun A5 H9 hS9 => ?_
 simp only [RT] at hS9
 simp (disch := omega) only [↓RA, RZ, simprocAttr, hn, hS9.ag 0 rfl, hS9.ag 1 rfl, h1]
 have hS10 := hS9.nil 2
 simp only [RT] at hS10
 refine iK (a1H o (ho.ab hS10) rg sv (hr.ab hS10)) ?_
 rintro r H10 ⟨AK, AL, rfl, hT3⟩
 have hS11 := hS10.trans hT3
 simp only [RT] at hS11
 simp (disch := omega) only [↓RA, RZ, simprocAttr, h1]
 refine Wp.bg fun lrg1 hlrg1 => ?_
 have hnrg1 : lrg1.length = 81 := by rw [hlrg1]; simp (disch := omega) only [RB, simprocAttr, hn]
 have g5rg1 : get lrg1 5 = (ptr A3 0 1) := by rw [hlrg1]; simp (disch := omega) only [RB, simprocAttr, hn]
 have g6rg1 : get lrg1 6 = (.slice none 0 0) := by rw [hlrg1]; simp (disch := omega) only [RB, simprocAttr, hn]
 have g7rg1 : get lrg1 7 = I 0 := by rw [hlrg1]; simp (disch := omega) only [RB, simprocAttr, hn]
 have g10rg1 : get lrg1 10 = (ptr A4 0 1) := by rw [hlrg1]; simp (disch := omega) only [RB, simprocAttr, hn]
 have g11rg1 : get lrg1 11 = (ptr A5 0 1) := by rw [hlrg1]; simp (disch := omega) only [RB, simprocAttr, hn]
 have gfrg1 : get lrg1 33 = .func (.func 136) #[] [(ptr AK 0 4), (ptr AL 0 3)].toArray := by rw [hlrg1]; simp (disch := omega) only [RB, simprocAttr, hn]
 clear hlrg1
 refine Wp.aY gfrg1 fun rg1 hstrg1 hpdrg1 htmrg1 hpsrg1 hasrg1 hbdrg1 => ?_
 have hreqrg1 : ({ rg1 with state := .ready, pending := none } : Loop) = rg1 := by
  cases rg1
  simp only at hstrg1 hpdrg1
  subst hstrg1 hpdrg1
  rfl
 have hLprg1 := Lp.enter hS11 rg1
 generalize H10.cons (.loop rg1) = Hcrg1 at hLprg1 ⊢
 generalize H10.length = Lrg1 at hLprg1 ⊢
 refine (a7i o hf rg sv AK AL (.func (.yield Lrg1) #[] #[]) (fun d xs H1 => ∃ (ow : Value) (gs : List Gn) (kvs : List (Ct × Int)), gs.map Gn.key = (plK ks d).map (fun c => (c, nR o rg c)) ∧ (∀ p, pP kvs p = vU o rg (plK ks d) p) ∧
  Lp prog H Lrg1 rg1 H1 (([⟨ptr A1 0 4, 0, oC o⟩, ⟨ptr A2 0 3, 0, rC rg sv⟩, ⟨ptr A3 0 1, 0, [kv]⟩, ⟨.map (some M1), 0, KN kvs⟩, ⟨ptr A4 0 1, 0, [.map (some M1)]⟩, ⟨ptr A5 0 1, 0, [ow]⟩, ⟨ow, 3, gs.flatMap Gn.cells⟩, ⟨ptr AK 0 4, 0, oC o⟩, ⟨ptr AL 0 3, 0, rC rg sv⟩] ++ gs.map Gn.row) ++ xs)) ⟨.slice none 0 0, [], [], rfl, fun p => rfl, ?_⟩ ?_ ?_ ?_ ?_).mono ?_
 ·rw [dm, fI, dm]
  exact hLprg1
 ·rintro d xs H1 ⟨ow, gs, kvs, hgs, hcn, h⟩
  have hs := h.left.left.st
  exact ⟨hs.var 7 rfl, ho.ab hs, hs.var 8 rfl, hr.ab hs, fun x hx => h.st.own x (eR _ hx)⟩
 ·rintro d xs H1 H2 ys ⟨ow, gs, kvs, hgs, hcn, h⟩ hT
  have h3 := h.ext hT
  rw [dC] at h3
  exact ⟨ow, gs, kvs, hgs, hcn, h3⟩
 ·rintro d xs ys H1 ⟨ow, gs, kvs, hgs, hcn, h⟩
  rw [← dC] at h
  exact ⟨ow, gs, kvs, hgs, hcn, h.left⟩
 ·rintro d c e xs H1 H20 pv gv rest he ⟨ow, gs, kvs, hgs, hcn, hLp⟩ hT hpv
  have hLpj := hLp.ext hT
  rw [dC, dC] at hLpj
  have hx : Slx 2 kB H20 (fun B => H1.length ≤ B) pv (nR o rg c) := by rw [hpv]; exact vE hT
  have hgl : gs.length = (plK ks d).length := by
   have := congrArg List.length hgs
   rwa [dD, dD] at this
  have hpl : (plK ks d).length ≤ 1024 := by
   have h1 := uZ hf
   have h2 : (plK ks d).length ≤ d.length := dV _ _
   rw [he, dg] at h1
   omega
  obtain ⟨i, z, rfl, hi, hz⟩ := a9H hf (c := c) (by rw [he]; simp)
  have hlen := a5y hf rg ((i : Int), z)
  have hki : Nt.Ok (iD ks i) := hk.ok _ (iG (by rw [hkl]; exact hi))
  refine mD hLpj.get (by rw [hpsrg1]; rfl) hstrg1 ?_
  refine Wp.aC (l := put (put lrg1 (some 34) (.agg #[I i, I z])) (some 35) (pv)) hasrg1 (by rw [hpsrg1, htmrg1]; first | exact (kH ..).symm | rfl | simp [put, kH]) ?_
  simp (disch := omega) only [↓RA, RZ, simprocAttr]
  refine (sR H20).eNew 2 [I 0, I 0] rfl rfl rfl rH fun A6 H11 hS12 => ?_
  simp only [RT] at hS12
  simp (disch := omega) only [↓RA, RB, simprocAttr, hnrg1]
  refine hS12.aa 0 rfl [I i, I z] rfl rfl rH (by simp) fun H12 hS13 => ?_
  simp only [RT] at hS13
  simp (disch := omega) only [↓RA, RZ, simprocAttr, hnrg1]
  have hSy := hS13
  have hLl : Lrg1 < H1.length := jG hLp.get
  have hLpx := Lp.swap (hLpj.ext hS13)
  refine ⟨rg1, hLpx.get, hstrg1, ?_⟩
  have hYBs1 := hLpx.set (fun h => h) { rg1 with state := .busy }
  have hKBs1 : ∀ B, B ≠ Lrg1 → iO (hset H12 Lrg1 (.loop { rg1 with state := .busy })) B = iO H12 B := fun B h => iL _ (eH h)
  have hNBs1 : (hset H12 Lrg1 (.loop { rg1 with state := .busy })).length = H12.length := jA ..
  generalize hset H12 Lrg1 (.loop { rg1 with state := .busy }) = HBs1 at hYBs1 hKBs1 hNBs1 ⊢
  refine Wp.aC hbdrg1 rfl ?_
  have hZBs1 := hYBs1.left.st
  obtain ⟨Bs1, hBBs1, hS14⟩ := hZBs1.av (os := [⟨ptr A1 0 4, 0, _⟩, ⟨ptr A2 0 3, 0, _⟩, ⟨ptr A3 0 1, 0, _⟩, ⟨.map (some M1), 0, _⟩, ⟨ptr A4 0 1, 0, _⟩, ⟨ptr A5 0 1, 0, _⟩, ⟨ow, 3, _⟩, ⟨ptr AK 0 4, 0, _⟩, ⟨ptr AL 0 3, 0, _⟩, ⟨ptr A6 0 2, 0, _⟩])
  have hxB : Slx 2 kB HBs1 (nb [ptr A1 0 4, ptr A2 0 3, ptr A3 0 1, .map (some M1), ptr A4 0 1, ptr A5 0 1, ow, ptr AK 0 4, ptr AL 0 3, ptr A6 0 2]) pv (nR o rg ((i : Int), z)) := hx.step fun B hB hl => ⟨by rw [hKBs1 B (by omega), hSy.ab B hl], fun v hv hb => by
   rw [show [ptr A1 0 4, ptr A2 0 3, ptr A3 0 1, .map (some M1), ptr A4 0 1, ptr A5 0 1, ow, ptr AK 0 4, ptr AL 0 3, ptr A6 0 2] = [ptr A1 0 4, ptr A2 0 3, ptr A3 0 1, .map (some M1), ptr A4 0 1, ptr A5 0 1, ow, ptr AK 0 4, ptr AL 0 3] ++ [ptr A6 0 2] from rfl] at hv
   rcases dJ.1 hv with hv | hv
   ·exact (hLp.left.left.st.aJ (H' := H20) B hB hl).2 v hv hb
   ·rw [dB.1 hv] at hb
    rcases hSy.new _ (dB.2 rfl) B hb with h | h
    ·have h : H20.length ≤ B := h
     omega
    ·exact h.elim⟩
  simp (disch := omega) only [↓RA, simprocAttr]
  refine Wp.drw kE (by kernel_rfl) ?_
  simp (disch := omega) only [↓RA, RZ, simprocAttr, hnrg1, g5rg1, hS14.ld 2 rfl, hS14.ld 9 rfl, ((hZBs1.aj hBBs1 hS14).sl hk.sl).idx, ((hZBs1.aj hBBs1 hS14).sl hk.sl).ag, ntc]
  refine hS14.cF (b9e (iD ks i) hki z hz) fun H13 hS15 => ?_
  simp (disch := omega) only [↓RA, RB, simprocAttr, hnrg1]
  refine jL (fun q1 => ?_) (fun q1 => ?_)
  ·have hq1 : ¬ nK (iD ks i) z = true := by simpa using q1
   have hplK : plK ks (d ++ [((i : Int), z)]) = plK ks d := by rw [b1i, if_neg (by simpa using hq1), dm]
   simp (disch := omega) only [↓RA, RC, simprocAttr]
   have hS16 := hS15.pick (os' := [⟨ptr A1 0 4, 0, _⟩, ⟨ptr A2 0 3, 0, _⟩, ⟨ptr A3 0 1, 0, _⟩, ⟨.map (some M1), 0, _⟩, ⟨ptr A4 0 1, 0, _⟩, ⟨ptr A5 0 1, 0, _⟩, ⟨ow, 3, _⟩, ⟨ptr AK 0 4, 0, _⟩, ⟨ptr AL 0 3, 0, _⟩]) [0, 1, 2, 3, 4, 5, 6, 7, 8] (by decide) rfl
   have hWBs1 := (hYBs1.aX (hBBs1 ▸ hS16)).set (fun h => h) rg1
   rw [← hreqrg1] at hWBs1
   have hfin : ∃ (ow : Value) (gs : List Gn) (kvs : List (Ct × Int)), gs.map Gn.key = (plK ks (d ++ [((i : Int), z)])).map (fun c => (c, nR o rg c)) ∧ (∀ p, pP kvs p = vU o rg (plK ks (d ++ [((i : Int), z)])) p) ∧
  Lp prog H Lrg1 rg1 (hset H13 Lrg1 (.loop rg1)) (([⟨ptr A1 0 4, 0, oC o⟩, ⟨ptr A2 0 3, 0, rC rg sv⟩, ⟨ptr A3 0 1, 0, [kv]⟩, ⟨.map (some M1), 0, KN kvs⟩, ⟨ptr A4 0 1, 0, [.map (some M1)]⟩, ⟨ptr A5 0 1, 0, [ow]⟩, ⟨ow, 3, gs.flatMap Gn.cells⟩, ⟨ptr AK 0 4, 0, oC o⟩, ⟨ptr AL 0 3, 0, rC rg sv⟩] ++ gs.map Gn.row) ++ xs) := ⟨ow, gs, kvs, by rw [hplK]; exact hgs, by rw [hplK]; exact hcn, Lp.cI (hreqrg1 ▸ hWBs1)⟩
   rw [← hreqrg1] at hfin
   exact ⟨_, (hYBs1.aX (hBBs1 ▸ hS16)).get, rfl, hreqrg1 ▸ hfin⟩
  have hq1 : nK (iD ks i) z = true := by simpa using q1
  have hplK : plK ks (d ++ [((i : Int), z)]) = plK ks d ++ [((i : Int), z)] := by rw [b1i, if_pos (by simpa using hq1)]
  simp (disch := omega) only [↓RA, RZ, simprocAttr, hnrg1, (hxB.step (hS15.kept hBBs1)).1.len, q1]
  refine Wp.al (fun n l H' => l.length = 81 ∧ get l 6 = (.slice none 0 0) ∧ get l 7 = I 0 ∧ get l 10 = (ptr A4 0 1) ∧ get l 11 = (ptr A5 0 1) ∧ get l 12 = (ptr A6 0 2) ∧ get l 13 = pv ∧ get l 45 = pv ∧ get l 46 = I (nR o rg ((i : Int), z)).length ∧ ∃ (j : Nat) (kvs1 : List (Ct × Int)), (n + j = (nR o rg ((i : Int), z)).length ∧ ∀ p, pP kvs1 p = vU o rg (plK ks d) p + (if p ∈ (nR o rg ((i : Int), z)).take j then 1 else 0)) ∧ get l 47 = I j ∧ St prog Bs1 H' [⟨ptr A1 0 4, 0, [(.string o.name), o.rv, o.dv, o.cv]⟩, ⟨ptr A2 0 3, 0, [sv, (.int .u64 rg.cpl), (.int .u64 rg.off)]⟩, ⟨ptr A3 0 1, 0, [kv]⟩, ⟨.map (some M1), 0, KN kvs1⟩, ⟨ptr A4 0 1, 0, [(.map (some M1))]⟩, ⟨ptr A5 0 1, 0, [ow]⟩, ⟨ow, 3, gs.flatMap Gn.cells⟩, ⟨ptr AK 0 4, 0, [(.string o.name), o.rv, o.dv, o.cv]⟩, ⟨ptr AL 0 3, 0, [sv, (.int .u64 rg.cpl), (.int .u64 rg.off)]⟩, ⟨ptr A6 0 2, 0, [I i, I z]⟩]) (nR o rg ((i : Int), z)).length ?_ ?_
  ·simp (disch := omega) only [RB, RC, simprocAttr, hnrg1, g6rg1, g7rg1, g10rg1, g11rg1]
   exact ⟨0, kvs, ⟨by omega, fun p => by rw [hcn, if_neg (by simp)]; omega⟩, rfl, hS15⟩
  rintro n l H14 ⟨hn, g6, g7, qR, g11, g12, g13, g45, g46, j, kvs1, ⟨hj,hcj⟩, g47, hS17⟩
  simp (disch := omega) only [↓RA, RB, simprocAttr, hn, g46, g47]
  refine iC (fun q2 => ?_) (fun q2 => ?_)
  ·have hjl : j < (nR o rg ((i : Int), z)).length := by omega
   have hnt : iD (nR o rg ((i : Int), z)) j ∉ (nR o rg ((i : Int), z)).take j := a2t (b5z o rg _) hjl
   have hcv := hcj (iD (nR o rg ((i : Int), z)) j)
   rw [if_neg hnt] at hcv
   have hcb := b8n o rg (plK ks d) (iD (nR o rg ((i : Int), z)) j)
   have hcw : 0 ≤ (pW kvs1 (iD (nR o rg ((i : Int), z)) j)).getD 0 ∧ (pW kvs1 (iD (nR o rg ((i : Int), z)) j)).getD 0 ≤ 1024 := by
    rw [show (pW kvs1 (iD (nR o rg ((i : Int), z)) j)).getD 0 = pP kvs1 (iD (nR o rg ((i : Int), z)) j) from rfl, hcv]
    omega
   simp (disch := omega) only [↓RA, RZ, simprocAttr, hn, g45, g47, (hxB.step (hS17.kept hBBs1)).1.idx, (hxB.step (hS17.kept hBBs1)).1.ag, kB, q2]
   refine hS17.eNew 2 [I 0, I 0] rfl rfl rfl rJ fun A7 H15 hS18 => ?_
   simp only [RT] at hS18
   simp (disch := omega) only [↓RA, RZ, simprocAttr, hn, q2]
   refine hS18.aa 10 rfl [I (iD (nR o rg ((i : Int), z)) j).1, I (iD (nR o rg ((i : Int), z)) j).2] rfl rfl rJ (by simp) fun H16 hS19 => ?_
   simp only [RT] at hS19
   simp (disch := omega) only [↓RA, RZ, simprocAttr, q2]
   refine Wp.aO kE [(2, 5)] (by kernel_rfl) (by kernel_rfl) ?_
   simp (disch := omega) only [↓RA, RZ, simprocAttr, hn, qR, hS19.ld 4 rfl, hS19.ag 10 rfl]
   refine hS19.bz (k := (iD (nR o rg ((i : Int), z)) j)) 3 rfl b1J (fun _ => rfl) ?_
   simp (disch := omega) only [↓RA, RB, simprocAttr, hn]
   refine hS19.cH (k := (iD (nR o rg ((i : Int), z)) j)) 3 rfl b1J (fun _ => rfl) (b0 := 0) rfl fun _ n1 H17 hL1 hE1 => ?_
   have hL1k := hL1 ((iD (nR o rg ((i : Int), z)) j))
   simp (disch := omega) only [↓RA, RB, simprocAttr, hn]
   refine hE1 (pP kvs1 (iD (nR o rg ((i : Int), z)) j) + 1) _ fun H18 hS20 => ?_
   simp only [RT] at hS20
   simp (disch := omega) only [↓RA, RZ, simprocAttr, hn, g6, g7, qR, g11, g12, g13, g45, g46, g47, hL1k]
   exact ⟨n - 1, by omega, j + 1, a0e kvs1 (iD (nR o rg ((i : Int), z)) j) (pP kvs1 (iD (nR o rg ((i : Int), z)) j) + 1), ⟨by omega, fun p => by
    rw [pP, zN, kK _ j hjl]
    by_cases hp : p = iD (nR o rg ((i : Int), z)) j
    ·subst hp
     rw [if_pos rfl, if_pos (by simp), eZ, hcv]
     omega
    ·rw [if_neg hp]
     have := hcj p
     rw [show (pW kvs1 p).getD 0 = pP kvs1 p from rfl, this]
     congr 1
     simp [hp]⟩, by simp, hS20.pick [0, 1, 2, 3, 4, 5, 6, 7, 8, 9] (by decide) rfl⟩
  have hje : j = (nR o rg ((i : Int), z)).length := by omega
  have hcf : ∀ p, pP kvs1 p = vU o rg (plK ks (d ++ [((i : Int), z)])) p := fun p => by rw [hplK, b6p, hcj p, hje, ew]
  simp (disch := omega) only [↓RA, RZ, simprocAttr, hn, g11, g12, g13, hS17.ld 5 rfl, hS17.ag 9 rfl, b2I (hxB.step (hS17.kept hBBs1)).1.cells, q2]
  refine hS17.ai [I i, I z, pv] c4y c6P rfl rfl (by first | (simp []; done) | simp [Value.cells]) (by first | (simp []; done) | simp [Value.cells]) (by simp [OC, (hxB.step (hS17.kept hBBs1)).1.cells.2.1]) (by decide) (by decide) fun w1 H19 hS21 => ?_
  simp only [RT] at hS21
  simp (disch := omega) only [↓RA, RZ, simprocAttr, hn, q2]
  refine hS21.aq 6 rfl (hS21.rd 10 rfl) c4y (by rw [iM (n := 3) (cel := Gn.cells) (fun _ => rfl)]; simp; omega) fun w2 H20 hS22 => ?_
  simp only [RT] at hS22
  simp (disch := omega) only [↓RA, RZ, simprocAttr, hn, g11, q2]
  refine hS22.aa 5 rfl [w2] (by rw [(hS22.rd 6 rfl).cells.1]) (by simp [(hS22.rd 6 rfl).cells.2.1]) c3m (by simp) fun H21 hS23 => ?_
  simp only [RT] at hS23
  simp (disch := omega) only [↓RA, RC, simprocAttr]
  have happ : gs.flatMap Gn.cells ++ [I i, I z, pv] = (gs ++ [(⟨((i : Int), z), gv, (nR o rg ((i : Int), z)), rest⟩ : Gn)]).flatMap Gn.cells := by rw [dH, hpv]; rfl
  rw [happ] at hS23
  have hS24 := hS23.pick (os' := [⟨ptr A1 0 4, 0, _⟩, ⟨ptr A2 0 3, 0, _⟩, ⟨ptr A3 0 1, 0, _⟩, ⟨.map (some M1), 0, _⟩, ⟨ptr A4 0 1, 0, _⟩, ⟨ptr A5 0 1, 0, _⟩, ⟨w2, 3, _⟩, ⟨ptr AK 0 4, 0, _⟩, ⟨ptr AL 0 3, 0, _⟩]) [0, 1, 2, 3, 4, 5, 6, 7, 8] (by decide) rfl
  have hWBs1 := (hYBs1.aX (hBBs1 ▸ hS24)).set (fun h => h) rg1
  rw [← hreqrg1] at hWBs1
  have hfin : ∃ (ow : Value) (gs : List Gn) (kvs : List (Ct × Int)), gs.map Gn.key = (plK ks (d ++ [((i : Int), z)])).map (fun c => (c, nR o rg c)) ∧ (∀ p, pP kvs p = vU o rg (plK ks (d ++ [((i : Int), z)])) p) ∧
  Lp prog H Lrg1 rg1 (hset H21 Lrg1 (.loop rg1)) (([⟨ptr A1 0 4, 0, oC o⟩, ⟨ptr A2 0 3, 0, rC rg sv⟩, ⟨ptr A3 0 1, 0, [kv]⟩, ⟨.map (some M1), 0, KN kvs⟩, ⟨ptr A4 0 1, 0, [.map (some M1)]⟩, ⟨ptr A5 0 1, 0, [ow]⟩, ⟨ow, 3, gs.flatMap Gn.cells⟩, ⟨ptr AK 0 4, 0, oC o⟩, ⟨ptr AL 0 3, 0, rC rg sv⟩] ++ gs.map Gn.row) ++ xs) := by
   refine ⟨w2, gs ++ [(⟨((i : Int), z), gv, (nR o rg ((i : Int), z)), rest⟩ : Gn)], kvs1, by rw [dy, hgs, hplK, dy]; rfl, hcf, ?_⟩
   rw [dy]
   exact Lp.cP (hreqrg1 ▸ hWBs1)
  rw [← hreqrg1] at hfin
  exact ⟨_, (hYBs1.aX (hBBs1 ▸ hS24)).get, rfl, hreqrg1 ▸ hfin⟩
 rintro _ H21 ⟨ow, gs, kvs, hgs, hcn, hLp2⟩
 rw [dm] at hLp2
 have hgm : ∀ g ∈ gs, g.l = nR o rg g.c := fun g hg => by
  have h1 : g.key ∈ gs.map Gn.key := fc hg
  rw [hgs] at h1
  obtain ⟨c, _, h2⟩ := dz.1 h1
  have e1 : c = g.c := congrArg Prod.fst h2
  have e2 : nR o rg c = g.l := congrArg Prod.snd h2
  rw [← e2, e1]
 have hgl : gs.length ≤ 1024 := by
  have h1 := uZ hf
  have h2 : (plK ks (mN o)).length ≤ (mN o).length := dV _ _
  have h3 := congrArg List.length hgs
  rw [dD, dD] at h3
  omega
 refine ⟨_, hLp2.get, (by rw [hstrg1]; exact fun h => by cases h), fun _ => ?_, fun c hc => by rw [hpdrg1] at hc; cases hc⟩
 have hAAf1 := (hLp2.set (fun h => h) { rg1 with state := .exhausted }).st
 have hKAf1 : ∀ B, B ≠ Lrg1 → iO (hset H21 Lrg1 (.loop { rg1 with state := .exhausted })) B = iO H21 B := fun B h => iL _ (eH h)
 generalize hset H21 Lrg1 (.loop { rg1 with state := .exhausted }) = HAf1 at hAAf1 hKAf1 ⊢
 have hA9 := hAAf1
 have hF9 := hA9.sub (fx _ _)
 simp (disch := omega) only [↓RA, RZ, simprocAttr, hnrg1, g11rg1, hF9.ld 5 rfl, (hF9.ax 6 rfl (fun _ => rfl)).len]
 refine Wp.al (fun n l H' => l.length = 81 ∧ get l 10 = ptr A4 0 1 ∧ get l 11 = ptr A5 0 1 ∧ get l 64 = ow ∧ get l 65 = I gs.length ∧ ∃ (i : Nat) (pre : List Gn), (n + i = gs.length ∧ pre.length = i ∧ pre.map Gn.key = (gs.take i).map (fun g : Gn => (g.c, g.l.filter fun p => !decide (1 < pP kvs p)))) ∧ get l 66 = I i ∧
  St prog H H' ([⟨ptr A1 0 4, 0, oC o⟩, ⟨ptr A2 0 3, 0, rC rg sv⟩, ⟨ptr A3 0 1, 0, [kv]⟩, ⟨.map (some M1), 0, KN kvs⟩, ⟨ptr A4 0 1, 0, [.map (some M1)]⟩, ⟨ptr A5 0 1, 0, [ow]⟩, ⟨ow, 3, (pre ++ gs.drop i).flatMap Gn.cells⟩, ⟨ptr AK 0 4, 0, oC o⟩, ⟨ptr AL 0 3, 0, rC rg sv⟩] ++ (pre ++ gs.drop i).map Gn.row)) gs.length ?_ ?_
 ·simp (disch := omega) only [RB, RC, simprocAttr, hnrg1, g10rg1, g11rg1]
  exact ⟨0, [], ⟨by omega, rfl, rfl⟩, rfl, hA9⟩
 rintro n l H9 ⟨hn, qR, g11, g64, g65, i, pre, ⟨hi, hpl, hpk⟩, g66, hS9⟩
 have hF := hS9.sub (fx _ _)
 simp (disch := omega) only [↓RA, RB, simprocAttr, hn, g65, g66]
 refine iC (fun q4 => ?_) (fun q4 => ?_)
 ·have hil : i < gs.length := by omega
  have hdr := tY gs i hil
  have hll : (pre ++ gs.drop i).length = gs.length := by rw [dg, eJ]; omega
  have hni : iD (pre ++ gs.drop i) i = iD gs i := by
   unfold iD
   rw [de, ec (by omega), dI, de]
   congr 2; omega
  have hP : (([⟨ptr A1 0 4, 0, oC o⟩, ⟨ptr A2 0 3, 0, rC rg sv⟩, ⟨ptr A3 0 1, 0, [kv]⟩, ⟨.map (some M1), 0, KN kvs⟩, ⟨ptr A4 0 1, 0, [.map (some M1)]⟩, ⟨ptr A5 0 1, 0, [ow]⟩, ⟨ow, 3, (pre ++ gs.drop i).flatMap Gn.cells⟩, ⟨ptr AK 0 4, 0, oC o⟩, ⟨ptr AL 0 3, 0, rC rg sv⟩] : List Ob) ++ (pre ++ gs.drop i).map Gn.row).Perm (([⟨ptr A1 0 4, 0, oC o⟩, ⟨ptr A2 0 3, 0, rC rg sv⟩, ⟨ptr A3 0 1, 0, [kv]⟩, ⟨.map (some M1), 0, KN kvs⟩, ⟨ptr A4 0 1, 0, [.map (some M1)]⟩, ⟨ptr A5 0 1, 0, [ow]⟩, ⟨ow, 3, (pre ++ gs.drop i).flatMap Gn.cells⟩, ⟨ptr AK 0 4, 0, oC o⟩, ⟨ptr AL 0 3, 0, rC rg sv⟩, ⟨(iD gs i).w, 2, pr (iD gs i).l ++ (iD gs i).tl⟩] : List Ob) ++ (pre.map Gn.row ++ (gs.drop (i + 1)).map Gn.row)) := by
   rw [dy, show (gs.drop i).map Gn.row = (iD gs i).row :: (gs.drop (i + 1)).map Gn.row from by rw [hdr]; rfl]
   exact (List.perm_middle (l₁ := pre.map Gn.row)).append_left ([⟨ptr A1 0 4, 0, oC o⟩, ⟨ptr A2 0 3, 0, rC rg sv⟩, ⟨ptr A3 0 1, 0, [kv]⟩, ⟨.map (some M1), 0, KN kvs⟩, ⟨ptr A4 0 1, 0, [.map (some M1)]⟩, ⟨ptr A5 0 1, 0, [ow]⟩, ⟨ow, 3, (pre ++ gs.drop i).flatMap Gn.cells⟩, ⟨ptr AK 0 4, 0, oC o⟩, ⟨ptr AL 0 3, 0, rC rg sv⟩] : List Ob)
  have hS9p := hS9.perm hP
  have hF2 := hS9p.sub (fx _ _)
  have hgc : (iD gs i).v.cells = #[(iD gs i).v] ∧ oneCell (iD gs i).v = true ∧ oA (iD gs i).v = true := (hF2.bY (cel := kB) (xs := (iD gs i).l) 9 rfl (fun _ => rfl) rfl).cells
  have hgll : (iD gs i).l.length < 100000000 := by
   rw [hgm _ (iG hil)]
   have := a5y hf rg (iD gs i).c
   omega
  obtain ⟨X, hBX, hS25⟩ := hF2.av (os := [⟨ptr A1 0 4, 0, _⟩, ⟨ptr A2 0 3, 0, _⟩, ⟨ptr A3 0 1, 0, _⟩, ⟨.map (some M1), 0, _⟩, ⟨ptr A4 0 1, 0, _⟩, ⟨ptr A5 0 1, 0, _⟩, ⟨ow, 3, _⟩, ⟨ptr AK 0 4, 0, _⟩, ⟨ptr AL 0 3, 0, _⟩, ⟨(iD gs i).w, 2, _⟩])
  simp (disch := omega) only [↓RA, RZ, simprocAttr, hn, g64, g66, (hS25.ax 6 rfl (fun _ => rfl)).idx, (hS25.ax 6 rfl (fun _ => rfl)).ag, Gn.cells, q4, hni]
  refine hS25.eNew 3 [I 0, I 0, (.slice none 0 0)] rfl rfl rfl b5G fun A8 H22 hS26 => ?_
  simp only [RT] at hS26
  simp (disch := omega) only [↓RA, RZ, simprocAttr, hn, q4]
  refine hS26.aa 10 rfl [I (iD gs i).c.1, I (iD gs i).c.2, (iD gs i).v] rfl (by simp [OC, hgc.2.1]) b5G (by simp) fun H23 hS27 => ?_
  simp only [RT] at hS27
  simp (disch := omega) only [↓RA, RZ, simprocAttr, q4]
  refine Wp.aO kE [(0, 6)] (by kernel_rfl) (by kernel_rfl) ?_
  simp (disch := omega) only [↓RA, RZ, simprocAttr, hn, qR, g11, hS27.ld 5 rfl, hS27.ld 10 rfl]
  have hSc := hS27
  have hM1 := hS27.pick (os' := [⟨(iD gs i).w, 2, _⟩]) [9] (by decide) rfl
  have hR1 := hS27.pick (os' := [⟨(iD gs i).w, 2, _⟩, ⟨ptr A1 0 4, 0, _⟩, ⟨ptr A2 0 3, 0, _⟩, ⟨ptr A3 0 1, 0, _⟩, ⟨.map (some M1), 0, _⟩, ⟨ptr A4 0 1, 0, _⟩, ⟨ptr A5 0 1, 0, _⟩, ⟨ow, 3, _⟩, ⟨ptr AK 0 4, 0, _⟩, ⟨ptr AL 0 3, 0, _⟩, ⟨ptr A8 0 3, 0, _⟩]) [9, 0, 1, 2, 3, 4, 5, 6, 7, 8, 10] (by decide) rfl
  refine iK (c3I hM1.aH hgll 86 [ptr A4 0 1] (fun c => decide (1 < pP kvs c)) (fun c _ H1 os hS' => b4r c A4 M1 kvs (hSc.cJ 4 9 rfl rfl (by decide) hS').var (hSc.cJ 3 9 rfl rfl (by decide) hS'))) ?_
  rintro r H24 ⟨rest9, hrv, hT5⟩
  have hS28 := hR1.frame hT5
  simp only [RT] at hS28
  have hrc : r.cells = #[r] ∧ oneCell r = true ∧ oA r = true := by
   rw [hrv]
   exact (hS28.bY (cel := kB) (xs := ((iD gs i).l.filter fun c => !decide (1 < pP kvs c))) 0 rfl (fun _ => rfl) rfl).cells
  simp (disch := omega) only [↓RA, RZ, simprocAttr, hn, (hS28.ax 7 rfl (fun _ => rfl)).idx, (hS28.ax 7 rfl (fun _ => rfl)).bp]
  refine hS28.aR 7 rfl [r] (by rw [hrc.1]) (by simp [hrc.2.1]) c3L (by simp) (by rw [iM (n := 3) (cel := Gn.cells) (fun _ => rfl), hll]; simp only [dX, eG]; omega) fun H25 hS29 => ?_
  simp only [RT] at hS29
  simp (disch := omega) only [↓RA, RZ, simprocAttr, hn, qR, g11, g64, g65, g66, hS28.ld 6 rfl]
  have hset : ((pre ++ gs.drop i).flatMap Gn.cells).set (i * (2 + 1) + 2) r = ((pre ++ [(⟨(iD gs i).c, (iD gs i).w, ((iD gs i).l.filter fun c => !decide (1 < pP kvs c)), rest9⟩ : Gn)]) ++ gs.drop (i + 1)).flatMap Gn.cells := by
   have h5 := zT (n := 3) (cel := Gn.cells) (fun _ => rfl) (pre ++ gs.drop i) i 2 [r] (⟨(iD gs i).c, (iD gs i).w, ((iD gs i).l.filter fun c => !decide (1 < pP kvs c)), rest9⟩ : Gn) (by rw [hll]; exact hil) (by simp) (by rw [hni, hrv]; rfl)
   rw [lI, pZ] at h5
   rw [show i * (2 + 1) + 2 = i * 3 + 2 from rfl, h5, dZ _ _ (by omega), hdr, hpl, gu, fA, dC]
   rfl
  rw [hset] at hS29
  have hEnd := hS29.pick (os' := [⟨ptr A1 0 4, 0, oC o⟩, ⟨ptr A2 0 3, 0, rC rg sv⟩, ⟨ptr A3 0 1, 0, [kv]⟩, ⟨.map (some M1), 0, KN kvs⟩, ⟨ptr A4 0 1, 0, [.map (some M1)]⟩, ⟨ptr A5 0 1, 0, [ow]⟩, ⟨ow, 3, ((pre ++ [(⟨(iD gs i).c, (iD gs i).w, ((iD gs i).l.filter fun c => !decide (1 < pP kvs c)), rest9⟩ : Gn)]) ++ gs.drop (i + 1)).flatMap Gn.cells⟩, ⟨ptr AK 0 4, 0, oC o⟩, ⟨ptr AL 0 3, 0, rC rg sv⟩, ⟨(iD gs i).w, 2, pr ((iD gs i).l.filter fun c => !decide (1 < pP kvs c)) ++ rest9⟩]) [1, 2, 3, 4, 5, 6, 7, 8, 9, 0] (by decide) rfl
  have hfr := hS9p.frame (hBX ▸ hEnd)
  have hPe : (([⟨ptr A1 0 4, 0, oC o⟩, ⟨ptr A2 0 3, 0, rC rg sv⟩, ⟨ptr A3 0 1, 0, [kv]⟩, ⟨.map (some M1), 0, KN kvs⟩, ⟨ptr A4 0 1, 0, [.map (some M1)]⟩, ⟨ptr A5 0 1, 0, [ow]⟩, ⟨ow, 3, ((pre ++ [(⟨(iD gs i).c, (iD gs i).w, ((iD gs i).l.filter fun c => !decide (1 < pP kvs c)), rest9⟩ : Gn)]) ++ gs.drop (i + 1)).flatMap Gn.cells⟩, ⟨ptr AK 0 4, 0, oC o⟩, ⟨ptr AL 0 3, 0, rC rg sv⟩, ⟨(iD gs i).w, 2, pr ((iD gs i).l.filter fun c => !decide (1 < pP kvs c)) ++ rest9⟩] : List Ob) ++ (pre.map Gn.row ++ (gs.drop (i + 1)).map Gn.row)).Perm (([⟨ptr A1 0 4, 0, oC o⟩, ⟨ptr A2 0 3, 0, rC rg sv⟩, ⟨ptr A3 0 1, 0, [kv]⟩, ⟨.map (some M1), 0, KN kvs⟩, ⟨ptr A4 0 1, 0, [.map (some M1)]⟩, ⟨ptr A5 0 1, 0, [ow]⟩, ⟨ow, 3, ((pre ++ [(⟨(iD gs i).c, (iD gs i).w, ((iD gs i).l.filter fun c => !decide (1 < pP kvs c)), rest9⟩ : Gn)]) ++ gs.drop (i + 1)).flatMap Gn.cells⟩, ⟨ptr AK 0 4, 0, oC o⟩, ⟨ptr AL 0 3, 0, rC rg sv⟩] : List Ob) ++ ((pre ++ [(⟨(iD gs i).c, (iD gs i).w, ((iD gs i).l.filter fun c => !decide (1 < pP kvs c)), rest9⟩ : Gn)]) ++ gs.drop (i + 1)).map Gn.row) := by
   have e : ((pre ++ [(⟨(iD gs i).c, (iD gs i).w, ((iD gs i).l.filter fun c => !decide (1 < pP kvs c)), rest9⟩ : Gn)]) ++ gs.drop (i + 1)).map Gn.row = pre.map Gn.row ++ ((⟨(iD gs i).c, (iD gs i).w, ((iD gs i).l.filter fun c => !decide (1 < pP kvs c)), rest9⟩ : Gn).row :: (gs.drop (i + 1)).map Gn.row) := by
    rw [dy, dy, dC]
    rfl
   rw [e]
   exact (List.perm_middle (l₁ := pre.map Gn.row)).symm.append_left ([⟨ptr A1 0 4, 0, oC o⟩, ⟨ptr A2 0 3, 0, rC rg sv⟩, ⟨ptr A3 0 1, 0, [kv]⟩, ⟨.map (some M1), 0, KN kvs⟩, ⟨ptr A4 0 1, 0, [.map (some M1)]⟩, ⟨ptr A5 0 1, 0, [ow]⟩, ⟨ow, 3, ((pre ++ [(⟨(iD gs i).c, (iD gs i).w, ((iD gs i).l.filter fun c => !decide (1 < pP kvs c)), rest9⟩ : Gn)]) ++ gs.drop (i + 1)).flatMap Gn.cells⟩, ⟨ptr AK 0 4, 0, oC o⟩, ⟨ptr AL 0 3, 0, rC rg sv⟩] : List Ob)
  exact ⟨n - 1, by omega, i + 1, pre ++ [(⟨(iD gs i).c, (iD gs i).w, ((iD gs i).l.filter fun c => !decide (1 < pP kvs c)), rest9⟩ : Gn)], ⟨by omega, by rw [dg, hpl]; rfl, by
   rw [dy, hpk, nP gs i hil, dy]
   rfl⟩, by simp, hfr.perm hPe⟩
 have hie : i = gs.length := by omega
 have hdn : gs.drop i = [] := gx (by omega)
 rw [hdn, dm] at hS9
 have hFz := hF
 have hnt := (hF.ax (cel := Gn.cells) 6 rfl (fun _ => rfl)).bk
 simp (disch := omega) only [↓RA, RZ, simprocAttr, hn, g11, hF.ld 5 rfl, c1q, q4, hnt]
 rw [hdn, dm] at hFz
 refine ⟨ow, pre, rfl, ?_, hFz.ch 6 rfl (fun _ => rfl), fun g hg => ?_, hFz.forget⟩
 ·rw [hpk, hie, ew]
  have e1 : gs.map (fun g : Gn => (g.c, g.l.filter fun p => !decide (1 < pP kvs p))) = (gs.map Gn.key).map fun k => (k.1, k.2.filter fun p => !decide (1 < vU o rg (plK ks (mN o)) p)) := by
   rw [List.map_map]
   refine List.map_congr_left fun g _ => ?_
   show (g.c, _) = (g.c, _)
   congr 1
   refine List.filter_congr fun p _ => ?_
   rw [hcn p]
  rw [e1, hgs, List.map_map]
  rfl
 ·have hm : g.row ∈ ([⟨ptr A1 0 4, 0, oC o⟩, ⟨ptr A2 0 3, 0, rC rg sv⟩, ⟨ptr A3 0 1, 0, [kv]⟩, ⟨.map (some M1), 0, KN kvs⟩, ⟨ptr A4 0 1, 0, [.map (some M1)]⟩, ⟨ptr A5 0 1, 0, [ow]⟩, ⟨ow, 3, pre.flatMap Gn.cells⟩, ⟨ptr AK 0 4, 0, oC o⟩, ⟨ptr AL 0 3, 0, rC rg sv⟩] ++ pre.map Gn.row) := eR _ (fc hg)
  refine ⟨⟨uH ((hS9.own _ hm).rd (show g.row.size ≠ 0 from (by decide : (2 : Nat) ≠ 0))), mZ, by decide⟩, fun b hb => ?_⟩
  rcases hS9.new _ hm b (tT hb) with h | h
  ·exact h
  ·exact h.elim
end Go.Ds
namespace Go.Ds
open Go.Proofs
variable {H : Heap}
set_option maxRecDepth 10000
set_option maxHeartbeats 1000000
end Go.Ds
namespace Go.Ds
open Go.Proofs
variable {H : Heap}
set_option maxRecDepth 10000
theorem Org.cW {o : Org} (h : organE o = 0) : o.ranks.length ≤ 60 ∧ ∀ j, j < o.ranks.length → (iD o.ranks j).wind.length ≤ 128 := by
 unfold organE at h
 split at h
 ·omega
 split at h
 ·omega
 rename_i _ h2
 split at h
 ·rename_i hh; exact absurd h hh
 rename_i h3
 have h3 := dG.1 h3
 refine ⟨by omega, fun j hj => ?_⟩
 have e := vG h3 j hj
 unfold oB at e
 split at e
 ·rename_i hh; exact absurd e hh
 rename_i hr
 have hr := dG.1 hr
 unfold rankE at hr
 split at hr
 ·omega
 split at hr
 ·rename_i hh; exact absurd hr hh
 split at hr
 ·omega
 split at hr
 ·omega
 split at hr
 ·omega
 ·omega
theorem b4c {o : Org} (h : organE o = 0) (rg : Reg) (l : List Ct) : (∀ p ∈ lU o rg l, 0 ≤ p.1 ∧ p.1 < o.ranks.length ∧ 0 ≤ p.2 ∧ p.2 < 1000) ∧ (lU o rg l).length < 30000 := by
 obtain ⟨h1, h2⟩ := Org.cW h
 have hp : ∀ p ∈ lU o rg l, 0 ≤ p.1 ∧ p.1 < o.ranks.length ∧ 0 ≤ p.2 ∧ p.2 < 128 := fun p hp => by
  obtain ⟨a, b, c, d⟩ := a9A hp
  have := h2 p.1.toNat (by omega)
  exact ⟨a, b, c, by omega⟩
 refine ⟨fun p hx => by have := hp p hx; exact ⟨this.1, this.2.1, this.2.2.1, by omega⟩, ?_⟩
 have h3 := a2k 7680 ((lU o rg l).map fun c => c.1.toNat * 128 + c.2.toNat) ?_ ?_
 ·rw [dD] at h3; omega
 ·unfold List.Nodup
  rw [gg]
  refine List.Pairwise.imp_of_mem (fun {a b} ha hb hne e => ?_) (a4E o rg l)
  have h1 := hp a ha
  have h2 := hp b hb
  unfold ltP at hne
  omega
 ·intro i hi
  obtain ⟨c, hc, rfl⟩ := dz.1 hi
  have := hp c hc
  omega
end Go.Ds
namespace Go.Ds
open Go.Proofs Go.Proofs.Tryz
variable {H : Heap}
set_option maxRecDepth 10000
set_option maxHeartbeats 1000000
theorem b1u (v : Value) (xs : List Ct) (hv : Sl 2 kB H v xs) (hl : xs.length < 1000000000000000) (p : Ct) : Fn prog 38 [v, .agg #[I p.1, I p.2]] H fun r H' => r = .bool (decide (p ∈ xs)) ∧ St prog H H' [] := by
 refine .aE func38 rfl (by kernel_rfl) (m := 18) rfl fun l hn g0 g1 => ?_
 simp (disch := omega) only [↓RA, RB, simprocAttr, g1]
 refine (sR H).eNew 2 [I p.1, I p.2] rfl rfl rfl rJ fun A1 H1 hS1 => ?_
 simp only [RT] at hS1
 simp (disch := omega) only [↓RA, RB, simprocAttr]
 refine Wp.al (fun n l H' => l.length = 18 ∧ get l 0 = v ∧ get l 3 = (ptr A1 0 2) ∧ ∃ (j : Nat), (n + j = xs.length ∧ ∀ q, q < j → iD xs q ≠ p) ∧ get l 5 = I j ∧ St prog H H' [⟨ptr A1 0 2, 0, [I p.1, I p.2]⟩]) xs.length ?_ ?_
 ·simp (disch := omega) only [RB, RC, simprocAttr, hn, g0]
  exact ⟨0, ⟨by omega, fun q hq => absurd hq (dO _)⟩, rfl, hS1⟩
 rintro n l H2 ⟨hn, g0, g3, j, ⟨hj,hz⟩, g5, hS2⟩
 simp (disch := omega) only [↓RA, RZ, simprocAttr, hn, g0, g5, (hS2.sl hv).len]
 refine iC (fun q1 => ?_) (fun q1 => ?_)
 ·simp (disch := omega) only [↓RA, RC, simprocAttr, q1]
  refine Wp.drw kE (by kernel_rfl) ?_
  simp (disch := omega) only [↓RA, RZ, simprocAttr, hn, g0, g3, g5, (hS2.sl hv).idx, (hS2.sl hv).ag, kB, hS2.ag 0 rfl]
  refine iC (fun q2 => ?_) (fun q2 => ?_)
  ·have hm : p ∈ xs := by
    have e : iD xs j = p := gW q2.1 q2.2
    rw [← e]
    exact iG (by omega)
   simp (disch := omega) only [↓RA, RZ, simprocAttr, hn, c3x, q2]
   exact ⟨by rw [decide_eq_true hm], hS2.forget⟩
  simp (disch := omega) only [↓RA, RZ, simprocAttr, hn, g0, g3, g5, q2]
  exact ⟨n - 1, by omega, j + 1, ⟨by omega, fun q hq => by
   rcases dw.1 hq with e | e
   ·exact hz q e
   ·rw [e]
    intro e2
    exact q2 ⟨congrArg Prod.fst e2, congrArg Prod.snd e2⟩⟩, by simp, hS2⟩
 have hm : p ∉ xs := fun hp => by
  obtain ⟨q, hq, e⟩ := dL.1 hp
  exact hz q (by omega) (by rw [jN xs q hq, e])
 simp (disch := omega) only [↓RA, RZ, simprocAttr, hn, c3x, q1]
 exact ⟨by rw [decide_eq_false hm], hS2.forget⟩
theorem a9K {o : Org} {ks : List Nt} (hok : ∀ x ∈ ks, Nt.Ok x) (h : pT o ks = 0) : plK ks (mN o) = jW ks := by
 rw [← b9t hok h]
 unfold plK mN b0N
 rw [List.filter_flatMap]
 congr 1
 funext i
 unfold uY a9q
 rw [List.filter_map]
 rfl
theorem c3a {α : Type} {l : List α} {x y : α} (hx : x ∈ l) (hy : y ∈ l) (h : x ≠ y) : 2 ≤ l.length := by
 cases l with
 | nil => exact absurd hx eF
 | cons a l =>
   cases l with
   | nil =>
     rw [dB.1 hx, dB.1 hy] at h
     exact absurd rfl h
   | cons b l => simp
theorem b1w {o : Org} {rg : Reg} {ks : List Nt} {gs : List Gn} (hr : rkE o rg ks = 0) (hok : ∀ x ∈ ks, Nt.Ok x) (hg : gs.map Gn.key = a2D o rg ks) :
 gs.length = (jW ks).length ∧ ∀ i, i < gs.length → (iD gs i).c = iD (jW ks) i ∧ (iD gs i).l = (nR o rg (iD (jW ks) i)).filter fun p => !decide (1 < vU o rg (jW ks) p) := by
 unfold a2D at hg
 rw [if_pos hr, a9K hok (a2h hr).2] at hg
 have hl := congrArg List.length hg
 rw [dD, dD] at hl
 refine ⟨hl, fun i hi => ?_⟩
 have h2 := congrArg (fun l => l[i]?) hg
 simp only [ef] at h2
 rw [dr hi, dr (by omega : i < (jW ks).length), ← jN gs i hi, ← jN (jW ks) i (by omega)] at h2
 simp only [dP, dE] at h2
 exact ⟨congrArg Prod.fst h2, congrArg Prod.snd h2⟩
theorem a9a {o : Org} {rg : Reg} {ks : List Nt} {gs : List Gn} (hr : rkE o rg ks = 0) (hok : ∀ x ∈ ks, Nt.Ok x) (hg : gs.map Gn.key = a2D o rg ks) {i j : Nat} (hi : i < gs.length) (hj : j < (iD gs i).l.length) :
 iD (iD gs i).l j ∉ (gs.take i).flatMap Gn.l ++ (iD gs i).l.take j ∧ iD (iD gs i).l j ∈ lU o rg (jW ks) := by
 obtain ⟨hl, hat⟩ := b1w hr hok hg
 have hf := Org.ba (mV (a2h hr).1).1
 obtain ⟨hc, hli⟩ := hat i hi
 have hm : iD (iD gs i).l j ∈ (iD gs i).l := iG hj
 have hof : ∀ q, q < gs.length → ∀ p, p ∈ (iD gs q).l → p ∈ nR o rg (iD (jW ks) q) ∧ ¬ 1 < vU o rg (jW ks) p := fun q hq p hp => by
  rw [(hat q hq).2] at hp
  have := ee.1 hp
  exact ⟨this.1, by simpa using this.2⟩
 refine ⟨fun hn => ?_, ?_⟩
 ·rcases dJ.1 hn with hn | hn
  ·obtain ⟨g, hgm, hp⟩ := dY.1 hn
   obtain ⟨q, hq, e⟩ := dL.1 hgm
   rw [eI] at hq
   rw [ir, ← jN gs q (by omega)] at e
   rw [← e] at hp
   have h1 := (hof q (by omega) _ hp).1
   obtain ⟨h2, h3⟩ := hof i hi _ hm
   have hss := b1n (a4i ks) (i := q) (j := i) (by omega) (by omega)
   have hne : iD (jW ks) q ≠ iD (jW ks) i := fun e => by
    rw [e] at hss
    exact yX hss
   have := c3a (l := (jW ks).filter fun c => decide (iD (iD gs i).l j ∈ nR o rg c)) (ee.2 ⟨iG (by omega), decide_eq_true h1⟩) (ee.2 ⟨iG (by omega), decide_eq_true h2⟩) hne
   unfold vU at h3
   omega
  ·refine a2t ?_ hj hn
   rw [hli]
   exact (b5z o rg _).sublist List.filter_sublist
 ·have h2 := (hof i hi _ hm).1
  have hcm : iD (jW ks) i ∈ jW ks := iG (by omega)
  unfold nR at h2
  split at h2
  ·obtain ⟨x, hx, hp⟩ := (b0i hf).1 h2
   exact (a1O hf).2 ⟨_, hcm, x, hx, hp⟩
  ·exact absurd h2 eF
theorem a7m (hG : Glob gH H) (hkn : b9U) (p : Pln) (hp : p.In H) (hk : p.Ok) (b : Nat → Nat) (hb : ∀ i, b i < 256) (c : Nat → Nat) (hc : ∀ i, c i < 65536) :
 Fn prog 8 [.agg #[p.rv, p.dv, p.cv], .agg #[.int .u8 (b 0), .int .u8 (b 1), .int .u8 (b 2), .int .u8 (b 3), .int .u8 (b 4)], .agg #[.int .u16 (c 0), .int .u16 (c 1), .int .u16 (c 2)]] H fun r H' => r = .bool true ∧ St prog H H' [] := by
 refine .bK func8 rfl (by kernel_rfl) (m := 84) rfl fun l hn g0 g1 g2 => ?_
 simp (disch := omega) only [↓RA, RB, simprocAttr, g0]
 refine (sR H).eNew 3 [p.rv, p.dv, p.cv] rfl rfl (by simp [((sR H).sl hp.1).cells.2.1, ((sR H).sl hp.2.1).cells.2.1, ((sR H).sl hp.2.2.2.1).cells.2.1]) b7X fun A1 H1 hS1 => ?_
 simp only [RT] at hS1
 simp (disch := omega) only [↓RA, RB, simprocAttr, g1]
 refine hS1.eNew 5 [(.int .u8 (b 0)), (.int .u8 (b 1)), (.int .u8 (b 2)), (.int .u8 (b 3)), (.int .u8 (b 4))] rfl rfl rfl c3h fun A2 H2 hS2 => ?_
 simp only [RT] at hS2
 simp (disch := omega) only [↓RA, RB, simprocAttr, g2]
 refine hS2.eNew 3 [(.int .u16 (c 0)), (.int .u16 (c 1)), (.int .u16 (c 2))] rfl rfl rfl c2B fun A3 H3 hS3 => ?_
 simp only [RT] at hS3
 simp (disch := omega) only [↓RA, RZ, simprocAttr]
 refine hS3.cF (hkn _) fun H4 hS4 => ?_
 simp (disch := omega) only [↓RA, RZ, simprocAttr, hn, hS4.ag 0 rfl]
 refine hS4.cF (b7Y p (hp.ab hS4)) fun H5 hS5 => ?_
 simp (disch := omega) only [↓RA, RZ, simprocAttr, hn]
 refine jL (fun h1 => ?_) (fun h1 => ?_)
 ·simp (disch := omega) only [↓RA, RZ, simprocAttr]
  refine hS5.cF (hkn _) fun H6 hS6 => ?_
  simp (disch := omega) only [↓RA, RZ, simprocAttr, hn, tR8, h1]
  exact hS6.forget
 have hf : wF p = true := by simpa using h1
 simp (disch := omega) only [↓RA, RZ, simprocAttr, hn, hS5.ag 0 rfl, h1]
 refine iK (b3L (hS5.gl hG) p (hp.ab hS5) hk hf) ?_
 rintro r H7 ⟨o, rfl, ho, hm, hT4⟩
 have hS7 := hS5.trans hT4
 simp only [RT] at hS7
 have hS0 := hS7
 have hG2 := hS0.gl hG
 have hoe := hm.ok.organE
 have hrg := b2y b hoe
 have hf0 := Org.ba hoe
 obtain ⟨k1, k2, k3⟩ := hm.small hf
 have hok := b2h (o := o) hb k2
 have hkl := tE o c
 have hkO := a8k hf0 c
 have hkE := a8S hoe c
 simp (disch := omega) only [↓RA, RZ, simprocAttr]
 refine (sR H7).eNew 4 [(.string ⟨#[]⟩), (.slice none 0 0), (.slice none 0 0), (.slice none 0 0)] rfl rfl rfl nC fun A4 H8 hS8 => ?_
 simp only [RT] at hS8
 simp (disch := omega) only [↓RA, RB, simprocAttr, hn, h1]
 refine hS8.aa 0 rfl [(.string o.name), o.rv, o.dv, o.cv] rfl (by simp [OC, (hS8.sl ho.1).cells.2.1, (hS8.sl ho.2.2.1).cells.2.1, (hS8.sl ho.2.2.2.2.1).cells.2.1]) nC (by simp) fun H9 hS9 => ?_
 simp only [RT] at hS9
 simp (disch := omega) only [↓RA, RB, simprocAttr, h1]
 refine Wp.aO kE [(3, 0), (4, 0)] (by kernel_rfl) (by kernel_rfl) ?_
 simp (disch := omega) only [↓RA, RZ, simprocAttr, hn, hS9.ag 0 rfl, ((hS0.var 1 rfl).ab hS9.ab).ag]
 have hD := b0J o (ho.ab hS9) k1 k2 k3 b hb
 generalize hrgE : tR o b = rg at hrg hok hD
 refine iK (hD) ?_
 rintro r H10 ⟨sv, rfl, hT5⟩
 have hS10 := hS9.trans hT5
 simp only [RT] at hS10
 simp (disch := omega) only [↓RA, RZ, simprocAttr, hn, hS10.ag 0 rfl, ((hS0.var 2 rfl).ab hS10.ab).ag]
 have hP := a8M o (ho.ab hS10) hf0 c hc
 generalize hksE : pS o c = ks at hkl hkO hkE hP
 refine iK (hP.tr) ?_
 rintro r H11 ⟨-, hT6⟩
 have hS11 := hS10.trans hT6
 simp only [RT] at hS11
 obtain ⟨kv, rfl⟩ : ∃ w, w = r := ⟨r, rfl⟩
 simp (disch := omega) only [↓RA, RZ, simprocAttr]
 refine hS11.eNew 3 [(.slice none 0 0), (.int .u64 0), (.int .u64 0)] rfl rfl rfl mS fun A5 H12 hS12 => ?_
 simp only [RT] at hS12
 simp (disch := omega) only [↓RA, RB, simprocAttr, hn]
 refine hS12.aa 3 rfl [sv, (.int .u64 rg.cpl), (.int .u64 rg.off)] rfl (by simp [OC, (hS12.rd 1 rfl).cells.2.1]) mS (by simp) fun H13 hS13 => ?_
 simp only [RT] at hS13
 simp (disch := omega) only [↓RA, RZ, simprocAttr, hn, hS9.ag 0 rfl, hS13.ag 0 rfl, ((hS0.var 2 rfl).ab hS9.ab).ag, hS13.ag 3 rfl]
 have hrk : rkE o rg ks = 0 := by unfold rkE; rw [if_neg (by rw [hrg]; simp)]; exact hkE
 have hrl : rg.stops.length = o.dvs.length := (mV hrg).2
 have hplc := a4R hkO hkE
 have hpll := a4C hkE
 have hsp : b4C o rg ks = lU o rg (jW ks) := by unfold b4C; rw [if_pos hrk]
 have hS1 := hS13
 refine iK (b8Y o (ho.ab hS13) rg sv ⟨hS13.ax 1 rfl (fun _ => rfl), hok⟩ kv ks ⟨hS13.ax 2 rfl (fun _ => rfl), by omega, hkO⟩) ?_
 rintro r H14 ⟨lv, gs, rfl, hgk, hlx, hgx, hT7⟩
 have hS14 := hS13.trans hT7
 simp only [RT] at hS14
 rw [hrk]
 have hlx2 := hlx.step (hS1.aJ (H' := H14))
 have hgx2 := fun g hg => (hgx g hg).step (hS1.aJ (H' := H14))
 obtain ⟨hgl, hat⟩ := b1w hrk hkO hgk
 have hap := fun i j hi hj => a9a (i := i) (j := j) hrk hkO hgk hi hj
 have hgle : ∀ i, i < gs.length → (iD gs i).l.length ≤ 1000000 := fun i hi => by
  rw [(hat i hi).2]
  exact dK (dV _ _) (a5y hf0 rg _)
 obtain ⟨X, hBX, hS15⟩ := hS14.av (os := [⟨ptr A4 0 4, 0, _⟩, ⟨sv, 1, _⟩, ⟨kv, 2, _⟩, ⟨ptr A5 0 3, 0, _⟩])
 simp (disch := omega) only [↓RA, RZ, simprocAttr, hn, hS15.ag 0 rfl, hS15.ag 3 rfl]
 have hS2 := hS15
 refine iK (a7v ((hS14.aj hBX hS15).gl hG2) o (ho.ab (hS14.aj hBX hS15)) rg sv ⟨hS15.ax 1 rfl (fun _ => rfl), hok⟩ kv ks ⟨hS15.ax 2 rfl (fun _ => rfl), by omega, hkO⟩) ?_
 rintro r H15 ⟨pv, rfl, hpx, hT8⟩
 have hS16 := hS15.trans hT8
 simp only [RT] at hS16
 rw [hrk]
 rw [hsp] at hpx
 have hlx3 := hlx2.step (hS16.kept hBX)
 have hgx3 := fun g hg => (hgx2 g hg).step (hS16.kept hBX)
 have hpx2 := hpx.step (hS2.aJ (H' := H15))
 obtain ⟨Y, hBY, hS17⟩ := hS16.av (os := [⟨ptr A4 0 4, 0, _⟩, ⟨sv, 1, _⟩, ⟨kv, 2, _⟩, ⟨ptr A5 0 3, 0, _⟩])
 simp (disch := omega) only [↓RA, RZ, simprocAttr, hn]
 have hS18 := hS17.nil 1
 simp only [RT] at hS18
 refine Wp.al (fun n l H' => l.length = 84 ∧ get l 10 = lv ∧ get l 12 = pv ∧ ∃ (i : Nat) (ov : Value), (n + i = gs.length) ∧ get l 15 = I i ∧ get l 14 = ov ∧ St prog Y H' [⟨ptr A4 0 4, 0, [(.string o.name), o.rv, o.dv, o.cv]⟩, ⟨sv, 1, rg.stops.flatMap (one u64)⟩, ⟨kv, 2, ks.flatMap ntc⟩, ⟨ptr A5 0 3, 0, [sv, (.int .u64 rg.cpl), (.int .u64 rg.off)]⟩, ⟨ov, 2, pr ((gs.take i).flatMap Gn.l)⟩]) gs.length ?_ ?_
 ·simp (disch := omega) only [RB, RC, simprocAttr, hn]
  exact ⟨0, .slice none 0 0, by omega, rfl, rfl, hS18⟩
 rintro n l H16 ⟨hn, qR, g12, i, ov, hi, g15, g14, hS19⟩
 simp (disch := omega) only [↓RA, RZ, simprocAttr, hn, qR, g15, (hlx3.step (hS19.kept hBY)).1.len]
 refine iC (fun q1 => ?_) (fun q1 => ?_)
 ·have hil : i < gs.length := by omega
  have hli := hgle i hil
  have htk := nP gs i hil
  have hsl : ((gs.take i).flatMap Gn.l).length ≤ i * 1000000 := by
   have key : ∀ k, k ≤ gs.length → ((gs.take k).flatMap Gn.l).length ≤ k * 1000000 := by
    intro k
    induction k with
    | zero => intro _; simp
    | succ k ih =>
      intro hk9
      have h1 := ih (by omega)
      have h2 := hgle k (by omega)
      rw [nP gs k (by omega), dH, dg, dF, eQ, dm]
      omega
   exact key i (by omega)
  simp (disch := omega) only [↓RA, RZ, simprocAttr, hn, qR, g15, (hlx3.step (hS19.kept hBY)).1.idx, (hlx3.step (hS19.kept hBY)).1.bp, (hlx3.step (hS19.kept hBY)).1.ld, Gn.cells, q1]
  simp (disch := omega) only [↓RA, RZ, simprocAttr, ((hgx3 _ (iG hil)).step (hS19.kept hBY)).1.len, q1]
  refine Wp.al (fun n l H' => l.length = 84 ∧ get l 10 = lv ∧ get l 12 = pv ∧ get l 15 = I i ∧ get l 64 = (iD gs i).v ∧ get l 65 = I (iD gs i).l.length ∧ ∃ (j : Nat) (ov1 : Value), (n + j = (iD gs i).l.length) ∧ get l 66 = I j ∧ get l 14 = ov1 ∧ St prog Y H' [⟨ptr A4 0 4, 0, [(.string o.name), o.rv, o.dv, o.cv]⟩, ⟨sv, 1, rg.stops.flatMap (one u64)⟩, ⟨kv, 2, ks.flatMap ntc⟩, ⟨ptr A5 0 3, 0, [sv, (.int .u64 rg.cpl), (.int .u64 rg.off)]⟩, ⟨ov1, 2, pr ((gs.take i).flatMap Gn.l ++ (iD gs i).l.take j)⟩]) (iD gs i).l.length ?_ ?_
  ·simp (disch := omega) only [RB, RC, simprocAttr, hn, qR, g12, g15, g14]
   exact ⟨0, ov, by omega, rfl, rfl, by rw [List.take_zero, dm]; exact hS19⟩
  rintro n l H17 ⟨hn, qR, g12, g15, g64, g65, j, ov1, hj, g66, g14, hS20⟩
  simp (disch := omega) only [↓RA, RB, simprocAttr, hn, g65, g66]
  refine iC (fun q2 => ?_) (fun q2 => ?_)
  ·have hjl : j < (iD gs i).l.length := by omega
   obtain ⟨ha1, ha2⟩ := hap i j hil hjl
   have hlx9 : ((gs.take i).flatMap Gn.l ++ (iD gs i).l.take j).length < 2000000000 := by rw [dg, eI]; omega
   have hsp6 := (b4c hoe rg (jW ks)).2
   simp (disch := omega) only [↓RA, RZ, simprocAttr, hn, g64, g66, ((hgx3 _ (iG hil)).step (hS20.kept hBY)).1.idx, ((hgx3 _ (iG hil)).step (hS20.kept hBY)).1.ag, kB, q2]
   refine hS20.eNew 2 [I 0, I 0] rfl rfl rfl rJ fun A6 H18 hS21 => ?_
   simp only [RT] at hS21
   simp (disch := omega) only [↓RA, RZ, simprocAttr, hn, q2]
   refine hS21.aa 5 rfl [I (iD (iD gs i).l j).1, I (iD (iD gs i).l j).2] rfl rfl rJ (by simp) fun H19 hS22 => ?_
   simp only [RT] at hS22
   simp (disch := omega) only [↓RA, RZ, simprocAttr, hn, g14, hS22.ag 5 rfl, q2]
   refine hS22.cF (b1u ov1 ((gs.take i).flatMap Gn.l ++ (iD gs i).l.take j) (hS22.ax 4 rfl mZ) (by omega) (iD (iD gs i).l j)) fun H20 hS23 => ?_
   rw [decide_eq_false ha1]
   simp (disch := omega) only [↓RA, RZ, simprocAttr, hn, g12, hS23.ag 5 rfl, q2]
   refine hS23.cF (b1u pv (lU o rg (jW ks)) (hpx2.step (hS23.kept hBY)).1 (by omega) (iD (iD gs i).l j)) fun H21 hS24 => ?_
   rw [decide_eq_true ha2]
   simp (disch := omega) only [↓RA, RZ, simprocAttr, hn, g14, hS24.ag 5 rfl, q2]
   refine hS24.ai [I (iD (iD gs i).l j).1, I (iD (iD gs i).l j).2] b6c c5k rfl rfl (by simp [Value.cells]) rfl rfl (by decide) (by decide) fun w1 H22 hS25 => ?_
   simp only [RT] at hS25
   simp (disch := omega) only [↓RA, RZ, simprocAttr, hn, q2]
   refine hS25.aq 4 rfl (hS25.rd 6 rfl) b6c (by rw [iI]; simp only [dX, eG]; omega) fun w2 H23 hS26 => ?_
   simp only [RT] at hS26
   simp (disch := omega) only [↓RA, RZ, simprocAttr, hn, qR, g12, g15, g64, g65, g66, q2]
   have happ : pr ((gs.take i).flatMap Gn.l ++ (iD gs i).l.take j) ++ [I (iD (iD gs i).l j).1, I (iD (iD gs i).l j).2] = pr ((gs.take i).flatMap Gn.l ++ (iD gs i).l.take (j + 1)) := by
    rw [nP (iD gs i).l j hjl, ← dC, jS _ [iD (iD gs i).l j]]
    rfl
   rw [happ] at hS26
   exact ⟨n - 1, by omega, j + 1, w2, by omega, by simp, rfl, hS26.pick [0, 1, 2, 3, 4] (by decide) rfl⟩
  have hje : j = (iD gs i).l.length := by omega
  simp (disch := omega) only [↓RA, RZ, simprocAttr, hn, qR, g12, g15, g14, q2]
  refine ⟨gs.length - (i + 1), by omega, i + 1, ov1, by omega, by simp, rfl, ?_⟩
  rw [htk, dH, dF, eQ, dm]
  rw [hje, ew] at hS20
  exact hS20
 simp (disch := omega) only [↓RA, RZ, simprocAttr, hn, tR8, q1]
 exact hS0.forget.trans (hS14.aj hBX (hS16.aj hBY hS19)).forget
end Go.Ds
