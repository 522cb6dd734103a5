/-
  A part of the proof of DemandKeys.
-/
import Derived.Test.YtfjdhdefmcfepaaGreatDoorVL
import Derived.Test.YtfjdhdefmcfepaaGreatDoorVE
import Derived.Test.YtfjdhdefmcfepaaGreatDoorVJ
set_option linter.unusedVariables false
set_option linter.unusedSimpArgs false
set_option linter.defProp false
set_option linter.unusedSectionVars false
namespace Go.Ds
open Go.Proofs Go.Proofs.Tryz
variable {H : Heap}
set_option maxRecDepth 10000
set_option maxHeartbeats 1000000
def a0v (c1 c2 : Int) (w1 w2 : Value) : List Rk := [⟨⟨#[114]⟩, ⟨#[102, 108, 117, 116, 101]⟩, 8, 1, 36, w1, List.replicate 25 c1⟩, ⟨⟨#[115]⟩, ⟨#[102, 108, 117, 116, 101]⟩, 8, 1, 36, w2, List.replicate 25 c2⟩]
def b5F (d1 g1 s1 d2 g2 s2 : Value) : List Dvn := [⟨⟨#[111, 110, 101]⟩, false, 36, 48, s1, [⟨⟨#[97]⟩, 8, 1, g1, [⟨36, 48, d1, [⟨0, 0⟩]⟩]⟩]⟩, ⟨⟨#[116, 119, 111]⟩, false, 36, 48, s2, [⟨⟨#[97]⟩, 4, 1, g2, [⟨36, 48, d2, [⟨1, 12⟩]⟩]⟩]⟩]
def c0y : List Cpl := [⟨⟨#[99]⟩, 0, 1, 0, false⟩]
def exW (c1 c2 : Int) (w1 w2 d1 g1 s1 d2 g2 s2 w3 w4 w5 : Value) : Org := ⟨⟨#[101]⟩, w3, a0v c1 c2 w1 w2, w4, b5F d1 g1 s1 d2 g2 s2, w5, c0y⟩
theorem a8A (hG : Glob gH H) : Fn prog 37 [] H fun r H' => ∃ w1 w2 d1 g1 s1 d2 g2 s2 w3 w4 w5, r = .agg #[.string ⟨#[101]⟩, w3, w4, w5] ∧ St prog H H' [⟨w1, 1, (List.replicate 25 (1 : Int)).flatMap (one I)⟩, ⟨w2, 1, (List.replicate 25 (1 : Int)).flatMap (one I)⟩,
 ⟨d1, 2, [(⟨0, 0⟩ : Drw)].flatMap Drw.cells⟩, ⟨g1, 3, [(⟨36, 48, d1, [⟨0, 0⟩]⟩ : Seg)].flatMap Seg.cells⟩, ⟨s1, 4, [(⟨⟨#[97]⟩, 8, 1, g1, [⟨36, 48, d1, [⟨0, 0⟩]⟩]⟩ : Stp)].flatMap Stp.cells⟩,
 ⟨d2, 2, [(⟨1, 12⟩ : Drw)].flatMap Drw.cells⟩, ⟨g2, 3, [(⟨36, 48, d2, [⟨1, 12⟩]⟩ : Seg)].flatMap Seg.cells⟩, ⟨s2, 4, [(⟨⟨#[97]⟩, 4, 1, g2, [⟨36, 48, d2, [⟨1, 12⟩]⟩]⟩ : Stp)].flatMap Stp.cells⟩,
 ⟨w3, 6, (a0v 1 1 w1 w2).flatMap Rk.cells⟩, ⟨w4, 5, (b5F d1 g1 s1 d2 g2 s2).flatMap Dvn.cells⟩, ⟨w5, 5, c0y.flatMap Cpl.cells⟩] := by
 refine .cO func37 rfl (by kernel_rfl) (m := 19) rfl fun l hn => ?_
 simp (disch := omega) only [↓RA, RZ, simprocAttr]
 refine (sR H).eNew 4 [(.string ⟨#[]⟩), (.slice none 0 0), (.slice none 0 0), (.slice none 0 0)] rfl rfl rfl lU fun A1 H1 hS1 => ?_
 simp only [RT] at hS1
 simp (disch := omega) only [↓RA, RZ, simprocAttr, a8J]
 refine hS1.eNew 2 [I 0, I 0] rfl rfl rfl zC fun A2 H2 hS2 => ?_
 simp only [RT] at hS2
 simp (disch := omega) only [↓RA, RB, simprocAttr, hn]
 refine hS2.aa 1 rfl [I 36, I 48] rfl rfl zC (by simp) fun H3 hS3 => ?_
 simp only [RT] at hS3
 simp (disch := omega) only [↓RA, RB, simprocAttr]
 refine Wp.cg jY [0, 1, 4, 5, 8, 9, 2, 3, 6, 7, 10, 11, 12, 13, 14, 15] [0, 1, 6, 7, 2, 3, 8, 9, 4, 5, 10, 11, 12, 13, 14, 15] ⟨true, [36], []⟩ [(7, 0), (7, 1), (7, 2), (7, 4), (7, 6), (9, 0), (9, 1), (9, 2), (9, 4), (9, 6)] (by kernel_rfl) (by kernel_rfl) (by kernel_rfl) ?_
 simp (disch := omega) only [↓RA, RZ, simprocAttr]
 refine iG (a4N (hS3.gl hG) _) ?_
 rintro r H4 ⟨wv1, rfl, hT1⟩
 have hS4 := hS3.trans hT1
 simp only [RT] at hS4
 simp (disch := omega) only [↓RA, RZ, simprocAttr]
 refine iG (a4N (hS4.gl hG) _) ?_
 rintro r H5 ⟨wv2, rfl, hT2⟩
 have hS5 := hS4.trans hT2
 simp only [RT] at hS5
 simp (disch := omega) only [↓RA, RZ, simprocAttr, hn]
 refine iG (a3Z 0 8 0) ?_
 rintro r H6 ⟨d1, g1, hT3⟩
 have hS6 := hS5.trans hT3
 simp only [RT] at hS6
 obtain ⟨s1, rfl⟩ : ∃ w, w = r := ⟨r, rfl⟩
 simp (disch := omega) only [↓RA, RZ, simprocAttr, hn]
 refine iG (a3Z 1 4 12) ?_
 rintro r H7 ⟨d2, g2, hT4⟩
 have hS7 := hS6.trans hT4
 simp only [RT] at hS7
 obtain ⟨s2, rfl⟩ : ∃ w, w = r := ⟨r, rfl⟩
 simp (disch := omega) only [↓RA, RB, simprocAttr, hn]
 refine hS7.ai [(.string ⟨#[114]⟩), (.string ⟨#[102, 108, 117, 116, 101]⟩), I 8, I 1, I 36, wv1, (.string ⟨#[115]⟩), (.string ⟨#[102, 108, 117, 116, 101]⟩), I 8, I 1, I 36, wv2] c2j c4Y rfl rfl (by first | (simp []; done) | simp [Value.cells]) (by first | (simp []; done) | simp [Value.cells]) (by simp [OC, (hS7.rd 2 rfl).cells.2.1, (hS7.rd 3 rfl).cells.2.1]) (by decide) (by decide) fun w1 H8 hS8 => ?_
 simp only [RT] at hS8
 simp (disch := omega) only [↓RA, RZ, simprocAttr, hn, hS8.ae 1 rfl, a2A (hS8.rd 6 rfl).cells, a2A (hS8.rd 9 rfl).cells]
 refine hS8.ai [(.string ⟨#[111, 110, 101]⟩), (.bool false), I 36, I 48, s1, (.string ⟨#[116, 119, 111]⟩), (.bool false), I 36, I 48, s2] c3p c5u rfl rfl (by first | (simp []; done) | simp [Value.cells]) (by first | (simp []; done) | simp [Value.cells]) (by simp [OC, (hS8.rd 6 rfl).cells.2.1, (hS8.rd 9 rfl).cells.2.1]) (by decide) (by decide) fun w2 H9 hS9 => ?_
 simp only [RT] at hS9
 simp (disch := omega) only [↓RA, RB, simprocAttr, hn, a8k]
 refine hS9.ai [(.string ⟨#[99]⟩), I 0, I 1, I 0, (.bool false)] a9Z c0Z rfl rfl (by simp [Value.cells]) rfl rfl (by decide) (by decide) fun w3 H10 hS10 => ?_
 simp only [RT] at hS10
 simp (disch := omega) only [↓RA, RB, simprocAttr, hn, a6m (hS10.rd 10 rfl).cells (hS10.rd 11 rfl).cells (hS10.rd 12 rfl).cells]
 refine hS10.aa 0 rfl [(.string ⟨#[101]⟩), w1, w2, w3] rfl (by simp [OC, (hS10.rd 10 rfl).cells.2.1, (hS10.rd 11 rfl).cells.2.1, (hS10.rd 12 rfl).cells.2.1]) lU (by simp) fun H11 hS11 => ?_
 simp only [RT] at hS11
 simp (disch := omega) only [↓RA, RZ, simprocAttr, hn, hS3.ae 1 rfl, hS4.ae 1 rfl, hS5.ae 1 rfl, hS6.ae 1 rfl, hS7.ae 1 rfl, c6Z, hS11.ae 0 rfl]
 exact ⟨wv1, wv2, d1, g1, s1, d2, g2, s2, w1, w2, w3, rfl, hS11.pick [2, 3, 4, 5, 6, 7, 8, 9, 10, 11, 12] (by decide) rfl⟩
section
variable (w1 w2 d1 g1 s1 d2 g2 s2 w3 w4 w5 : Value)
theorem a5n : nF (exW 7 2 w1 w2 d1 g1 s1 d2 g2 s2 w3 w4 w5) ⟨[1, 1], 1, 0⟩ = 0 := by kernel_rfl
theorem b7v : lR (exW 7 2 w1 w2 d1 g1 s1 d2 g2 s2 w3 w4 w5) [iY [40, 41], (0, 0)] = 0 := by kernel_rfl
theorem a9S : rkE (exW 7 2 w1 w2 d1 g1 s1 d2 g2 s2 w3 w4 w5) ⟨[1, 1], 1, 0⟩ [iY [40, 41], (0, 0)] = 0 := by
 unfold rkE
 rw [a5n, if_neg (by decide), b7v]
end
def rkS (o : Org) (acc : List Int) (p : Ct) : List Int := acc.set p.1.toNat (mL (iB acc p.1.toNat + uG o p))
def rkF (o : Org) (ps : List Ct) : List Int := ps.foldl (rkS o) (List.replicate o.ranks.length 0)
theorem b2r (o : Org) : ∀ (ps : List Ct) (acc : List Int), (ps.foldl (rkS o) acc).length = acc.length
 | [], _ => rfl
 | p :: ps, acc => by
   rw [eO, b2r o ps]
   unfold rkS
   rw [gP]
theorem c0o (o : Org) (ps : List Ct) : (rkF o ps).length = o.ranks.length := by unfold rkF; rw [b2r, eL]
theorem b5M (o : Org) (ps : List Ct) (i : Nat) (h : i < ps.length) : rkF o (ps.take (i + 1)) = rkS o (rkF o (ps.take i)) (iB ps i) := by
 unfold rkF
 rw [kG ps i h, fz]
 rfl
theorem b5R (acc : List Int) (e : Nat) (x : Int) : ((acc.flatMap (one I)).set e (I x)) = (acc.set e x).flatMap (one I) := by
 rw [pV, pV, ia]
def byF (o : Org) (rg : Reg) (ks : List Nt) : List Int := if rkE o rg ks = 0 then rkF o (oN o rg ks) else []
theorem b4t (hG : Glob gH H) (o : Org) (ho : o.In H) (rg : Reg) (sv : Value) (hr : rg.In H sv) (kv : Value) (ks : List Nt) (hk : Ks H kv ks) :
 Fn prog 16 [.agg #[.string o.name, o.rv, o.dv, o.cv], .agg #[sv, .int .u64 rg.cpl, .int .u64 rg.off], kv] H fun r H' => ∃ v, r = .tuple #[v, I (rkE o rg ks)] ∧ St prog H H' [⟨v, 1, (byF o rg ks).flatMap (one I)⟩] := by
 have hle := b7R (o := o) (rg := rg) hk.ok
 refine .bd func16 rfl (by kernel_rfl) (m := 53) rfl fun l hn g0 g1 g2 => ?_
 simp (disch := omega) only [↓RA, RB, simprocAttr, g0]
 refine (sR H).eNew 4 [(.string o.name), o.rv, o.dv, o.cv] rfl rfl (by simp [OC, ((sR H).sl ho.1).cells.2.1, ((sR H).sl ho.2.2.1).cells.2.1, ((sR H).sl ho.2.2.2.2.1).cells.2.1]) lU fun A1 H1 hS1 => ?_
 simp only [RT] at hS1
 simp (disch := omega) only [↓RA, RB, simprocAttr, g1]
 refine hS1.eNew 3 [sv, (.int .u64 rg.cpl), (.int .u64 rg.off)] rfl rfl (by simp [OC, (hS1.sl hr.1).cells.2.1]) nW fun A2 H2 hS2 => ?_
 simp only [RT] at hS2
 simp (disch := omega) only [↓RA, RZ, simprocAttr, hn, g2, hS2.ae 0 rfl, hS2.ae 1 rfl]
 have hS1 := hS2
 refine iG (a1p (hS2.gl hG) o (ho.ab hS2) rg sv (hr.ab hS2) kv ks (hk.ab hS2)) ?_
 rintro r H3 ⟨pv, rfl, hx, hT1⟩
 have hS3 := hS2.trans hT1
 simp only [RT] at hS3
 simp (disch := omega) only [↓RA, RB, simprocAttr, hn]
 refine iA (fun h1 => ?_) (fun h1 => ?_)
 ·have hb : byF o rg ks = [] := by unfold byF; rw [if_neg h1]
  have hS4 := hS3.nil 0
  simp only [RT] at hS4
  simp (disch := omega) only [↓RA, RZ, simprocAttr, hn, c5p, h1]
  rw [hb]
  exact ⟨.slice none 0 0, rfl, hS4.pick [2] (by decide) rfl⟩
 have h0 := dy.1 h1
 obtain ⟨hz1, hz2⟩ := vN h0
 have hf := Org.aI (mG hz1).1
 have hrl := hf.rlen
 have hb : byF o rg ks = rkF o (oN o rg ks) := by unfold byF; rw [if_pos h0]
 have hx2 := hx.step (hS1.ba (H' := H3))
 obtain ⟨X, hBX, hS5⟩ := hS3.aC (os := [⟨ptr A1 0 4, 0, _⟩, ⟨ptr A2 0 3, 0, _⟩])
 have hx3 := hx2.step (hS5.kept hBX)
 simp (disch := omega) only [↓RA, RZ, simprocAttr, hn, hS5.ld 0 rfl, ((hS3.aj hBX hS5).sl ho.1).len, h1]
 refine hS5.bL o.ranks.length c4V (by omega) fun w1 H4 hS6 => ?_
 simp only [RT] at hS6
 rw [show List.replicate o.ranks.length (Value.int .i64 0) = (List.replicate o.ranks.length (0 : Int)).flatMap (one I) from by rw [pV, List.map_replicate]] at hS6
 simp (disch := omega) only [↓RA, RZ, simprocAttr, hn, (hx2.step (hS6.kept hBX)).1.len, h1]
 refine Wp.ak (fun n l H' => l.length = 53 ∧ get l 3 = (ptr A1 0 4) ∧ get l 6 = (.slice none 0 0) ∧ get l 7 = I 0 ∧ get l 27 = pv ∧ get l 28 = I (oN o rg ks).length ∧ ∃ (i : Nat), (n + i = (oN o rg ks).length) ∧ get l 29 = I i ∧ get l 10 = w1 ∧ St prog X H' [⟨ptr A1 0 4, 0, [(.string o.name), o.rv, o.dv, o.cv]⟩, ⟨ptr A2 0 3, 0, [sv, (.int .u64 rg.cpl), (.int .u64 rg.off)]⟩, ⟨w1, 1, (rkF o ((oN o rg ks).take i)).flatMap (one I)⟩]) (oN o rg ks).length ?_ ?_
 ·simp (disch := omega) only [RB, RC, simprocAttr, hn]
  exact ⟨0, by omega, rfl, hS6⟩
 rintro n l H5 ⟨hn, g3, g6, g7, g27, g28, i, hi, g29, oY, hS7⟩
 simp (disch := omega) only [↓RA, RB, simprocAttr, hn, g28, g29]
 refine iA (fun q1 => ?_) (fun q1 => ?_)
 ·have hpi := b2g (o := o) (rg := rg) (ks := ks) _ (iD (xs := oN o rg ks) (j := i) (by omega))
  obtain ⟨e, he⟩ : ∃ e : Nat, (iB (oN o rg ks) i).1 = e := ⟨(iB (oN o rg ks) i).1.toNat, by have := hpi.1; omega⟩
  obtain ⟨f, hff⟩ : ∃ f : Nat, (iB (oN o rg ks) i).2 = f := ⟨(iB (oN o rg ks) i).2.toNat, by have := hpi.2.2.1; omega⟩
  have hel : e < o.ranks.length := by have := hpi.2.1; omega
  have hfl : f < (iB o.ranks e).wind.length := by
   have := hpi.2.2.2
   rw [he, dF] at this
   omega
  have hlr := c0o o ((oN o rg ks).take i)
  have hsu := b5M o (oN o rg ks) i (by omega)
  have hwt : uG o (iB (oN o rg ks) i) = iB (iB o.ranks e).wind f := by unfold uG; rw [he, hff, dF, dF]
  unfold rkS at hsu
  rw [hwt, he, dF] at hsu
  simp (disch := omega) only [↓RA, RZ, simprocAttr, hn, g27, g29, (hx2.step (hS7.kept hBX)).1.idx, (hx2.step (hS7.kept hBX)).1.ae, jP, q1]
  refine hS7.eNew 2 [I 0, I 0] rfl rfl rfl qL fun A3 H6 hS8 => ?_
  simp only [RT] at hS8
  simp (disch := omega) only [↓RA, RZ, simprocAttr, hn, q1]
  refine hS8.aa 3 rfl [I (iB (oN o rg ks) i).1, I (iB (oN o rg ks) i).2] rfl rfl qL (by simp) fun H7 hS9 => ?_
  simp only [RT] at hS9
  simp (disch := omega) only [↓RA, RZ, simprocAttr, q1]
  refine Wp.drw jY (by kernel_rfl) ?_
  simp (disch := omega) only [↓RA, RZ, simprocAttr, hn, oY]
  simp (disch := omega) only [↓RA, RZ, simprocAttr, hn, g3, hS9.ld 3 rfl, (hS9.aw 2 rfl (fun _ => rfl)).idx, (hS9.aw 2 rfl (fun _ => rfl)).ld, one, hS9.ld 0 rfl, ((hS3.aj hBX hS9).sl ho.1).idx, ((hS3.aj hBX hS9).sl ho.1).aY, ((hS3.aj hBX hS9).sl ho.1).ld, Rk.cells, ((hS3.aj hBX hS9).sl (ho.2.1 (iB o.ranks e) (iD (by omega))).1).idx, ((hS3.aj hBX hS9).sl (ho.2.1 (iB o.ranks e) (iD (by omega))).1).ld, he, hff]
  refine hS9.aP 2 rfl [_] rfl rfl tS3 (by simp) (by rw [pV, ek, hlr]; simp; omega) fun H8 hS10 => ?_
  simp only [RT] at hS10
  simp (disch := omega) only [↓RA, RZ, simprocAttr, hn, g3, g6, g7, g27, g28, g29, oY, he, hff]
  refine ⟨n - 1, by omega, i + 1, by omega, by simp, ?_⟩
  rw [hsu, ← b5R]
  exact hS10.pick [0, 1, 2] (by decide) rfl
 have hnt := (hS7.aw (cel := one I) 2 rfl (fun _ => rfl)).br
 simp (disch := omega) only [↓RA, RZ, simprocAttr, hn, oY, c5p, q1, hnt]
 have hii : i = (oN o rg ks).length := by omega
 rw [hb, h0]
 refine ⟨_, rfl, ?_⟩
 have h9 := (hS3.aj hBX hS7).pick (os' := [⟨w1, 1, _⟩]) [2] (by decide) rfl
 rw [hii, dU] at h9
 exact h9
end Go.Ds
namespace Go.Ds
open Go.Proofs
variable {H : Heap}
set_option maxRecDepth 10000
set_option maxHeartbeats 1000000
theorem a4h (o : Org) (r : Reg) (l : List Ct) : kH o r l = dd (a3B ((b4Q a3B o r l).flatMap (b5o a3B o r))) := by
 rw [← c3Y]
 rfl
section
variable (w1 w2 d1 g1 s1 d2 g2 s2 w3 w4 w5 : Value)
end
end Go.Ds
namespace Go.Ds
open Go.Proofs Go.Proofs.Tryz
variable {H : Heap}
set_option maxRecDepth 10000
set_option maxHeartbeats 1000000
theorem b4q (v w : Value) (xs ys : List Int) (hv : Sl 1 (one I) H v xs) (hw : Sl 1 (one I) H w ys) (hl : xs.length < 1000000000) (hl2 : ys.length < 1000000000) :
 Fn prog 19 [v, w] H fun r H' => r = .bool (decide (xs = ys)) ∧ St prog H H' [] := by
 refine .aF func19 rfl (by kernel_rfl) (m := 26) rfl fun l hn g0 g1 => ?_
 simp (disch := omega) only [↓RA, RZ, simprocAttr, hn, g0, g1, ((sR H).sl hv).len, ((sR H).sl hw).len]
 refine iA (fun h1 => ?_) (fun h1 => ?_)
 ·simp (disch := omega) only [↓RA, RZ, simprocAttr, hn, c2B, h1]
  exact ⟨by rw [decide_eq_false]; intro e; rw [e] at h1; exact h1 rfl, (sR H)⟩
 simp (disch := omega) only [↓RA, RZ, simprocAttr, hn, g0, ((sR H).sl hv).len, h1]
 refine Wp.ak (fun n l H' => l.length = 26 ∧ get l 0 = v ∧ get l 1 = w ∧ get l 12 = I xs.length ∧ ∃ (j : Nat), (n + j = xs.length ∧ ∀ q, q < j → iB xs q = iB ys q) ∧ get l 13 = I j ∧ St prog H H' []) xs.length ?_ ?_
 ·simp (disch := omega) only [RB, RC, simprocAttr, hn, g0, g1]
  exact ⟨0, ⟨by omega, fun q hq => absurd hq (dN _)⟩, rfl, (sR H)⟩
 rintro n l H1 ⟨hn, g0, g1, g12, j, ⟨hj,hz⟩, g13, hS1⟩
 simp (disch := omega) only [↓RA, RB, simprocAttr, hn, g12, g13]
 refine iA (fun q1 => ?_) (fun q1 => ?_)
 ·simp (disch := omega) only [↓RA, RZ, simprocAttr, hn, g13, q1]
  refine Wp.drw jY (by kernel_rfl) ?_
  simp (disch := omega) only [↓RA, RZ, simprocAttr, hn, g0, g1, (hS1.sl hv).idx, (hS1.sl hv).ld, one, (hS1.sl hw).idx, (hS1.sl hw).ld]
  refine iA (fun q2 => ?_) (fun q2 => ?_)
  ·simp (disch := omega) only [↓RA, RZ, simprocAttr, hn, c2B, q2]
   refine ⟨?_, hS1⟩
   rw [decide_eq_false]
   intro e
   rw [e] at q2
   exact q2 rfl
  have q3 := dy.1 q2
  simp (disch := omega) only [↓RA, RZ, simprocAttr, hn, g0, g1, g12, g13, q2]
  exact ⟨n - 1, by omega, j + 1, ⟨by omega, fun q hq => by rcases dr.1 hq with e | e; (· exact hz q e); (· rw [e]; exact q3)⟩, by simp, hS1⟩
 simp (disch := omega) only [↓RA, RZ, simprocAttr, hn, c2B, q1]
 exact ⟨by rw [decide_eq_true]; exact b1s (by omega) fun q hq => hz q (by omega), hS1⟩
def rgX : Reg := ⟨[1, 1], 1, 0⟩
def ksX : List Nt := [iY [40, 41], (0, 0)]
section
variable (w1 w2 d1 g1 s1 d2 g2 s2 w3 w4 w5 : Value)
theorem b1B : oN (exW 7 2 w1 w2 d1 g1 s1 d2 g2 s2 w3 w4 w5) rgX ksX = [(0, 4), (0, 5), (1, 16), (1, 17)] := by
 unfold oN
 rw [show rkE (exW 7 2 w1 w2 d1 g1 s1 d2 g2 s2 w3 w4 w5) rgX ksX = 0 from a9S .., if_pos rfl, a4h]
 kernel_rfl
theorem b8J : b2B (exW 7 2 w1 w2 d1 g1 s1 d2 g2 s2 w3 w4 w5) rgX ksX = 18 := by
 unfold b2B
 rw [b1B]
 kernel_rfl
theorem c2n : byF (exW 7 2 w1 w2 d1 g1 s1 d2 g2 s2 w3 w4 w5) rgX ksX = [14, 4] := by
 unfold byF
 rw [show rkE (exW 7 2 w1 w2 d1 g1 s1 d2 g2 s2 w3 w4 w5) rgX ksX = 0 from a9S .., if_pos rfl, b1B]
 kernel_rfl
theorem c0J (o : Org) (rg : Reg) : rM o rg = fun c => oO o (if a1E o rg c = 0 then dd (a3B ((b4Q a3B o rg [c]).flatMap (b5o a3B o rg))) else []) := by
 funext c
 unfold rM ofF
 rw [a4h]
theorem c3o : grR (exW 7 2 w1 w2 d1 g1 s1 d2 g2 s2 w3 w4 w5) rgX = ((0, 36), 9) := by
 unfold grR
 rw [show nF (exW 7 2 w1 w2 d1 g1 s1 d2 g2 s2 w3 w4 w5) rgX = 0 from a5n .., if_pos rfl, c0J]
 kernel_rfl
end
theorem a9C : rgX.Ok := ⟨by decide, by decide, by decide, by decide⟩
theorem b6m : ∀ x ∈ ksX, Nt.Ok x := by
 intro x hx
 simp only [ksX, dV, ec, or_false] at hx
 rcases hx with rfl | rfl <;> exact ⟨by decide, by decide⟩
theorem a3j (hG : Glob gH H) : Fn prog 10 [] H fun r H' => r = .bool true ∧ St prog H H' [] := by
 refine .cO func10 rfl (by kernel_rfl) (m := 89) rfl fun l hn => ?_
 simp (disch := omega) only [↓RA, RZ, simprocAttr]
 refine iG (a8A ((sR H).gl hG)) ?_
 rintro r H1 ⟨xa, xb, da, ga, sa, db, gb, sb, xr, xd, xc, rfl, hT1⟩
 have hS1 := (sR H).trans hT1
 simp only [RT] at hS1
 simp (disch := omega) only [↓RA, RZ, simprocAttr]
 refine hS1.eNew 4 [(.string ⟨#[]⟩), (.slice none 0 0), (.slice none 0 0), (.slice none 0 0)] rfl rfl rfl lU fun A1 H2 hS2 => ?_
 simp only [RT] at hS2
 simp (disch := omega) only [↓RA, RB, simprocAttr, hn]
 refine hS2.aa 11 rfl [(.string ⟨#[101]⟩), xr, xd, xc] rfl (by simp [OC, (hS2.rd 8 rfl).cells.2.1, (hS2.rd 9 rfl).cells.2.1, (hS2.rd 10 rfl).cells.2.1]) lU (by simp) fun H3 hS3 => ?_
 simp only [RT] at hS3
 simp (disch := omega) only [↓RA, RB, simprocAttr]
 refine Wp.aL jY [(1, 3), (1, 4)] (by kernel_rfl) (by kernel_rfl) ?_
 simp (disch := omega) only [↓RA, RZ, simprocAttr, hn, hS3.ld 11 rfl]
 refine hS3.ai [I 7] xC a1B rfl rfl (by simp [Value.cells]) rfl rfl (by decide) (by decide) fun w1 H4 hS4 => ?_
 simp only [RT] at hS4
 simp (disch := omega) only [↓RA, RZ, simprocAttr, hn]
 refine iG ((a2z (c := 7) (hS4.gl hG) w1 (hS4.aw 12 rfl (fun _ => rfl))).tr) ?_
 rintro r H5 ⟨-, hT2⟩
 have hS5 := hS4.trans hT2
 simp only [RT] at hS5
 obtain ⟨ya, rfl⟩ : ∃ w, w = r := ⟨r, rfl⟩
 have hl1 : (a0v 1 1 xa xb).length = 2 := rfl
 simp (disch := omega) only [↓RA, RZ, simprocAttr, hn, (hS5.aw 8 rfl (fun _ => rfl)).idx, (hS5.aw 8 rfl (fun _ => rfl)).aY]
 refine hS5.aP 8 rfl [ya] (by rw [(hS5.rd 13 rfl).cells.1]) (by simp [(hS5.rd 13 rfl).cells.2.1]) b3o (by simp) (by simp [a0v, Rk.cells]) fun H6 hS6 => ?_
 simp only [RT] at hS6
 simp (disch := omega) only [↓RA, RZ, simprocAttr, hn, hS4.ld 11 rfl, hS5.ld 11 rfl]
 refine Wp.aL jY [(1, 3), (1, 4)] (by kernel_rfl) (by kernel_rfl) ?_
 simp (disch := omega) only [↓RA, RZ, simprocAttr, hn, hS6.ld 11 rfl]
 refine hS6.ai [I 2] xC a1B rfl rfl (by simp [Value.cells]) rfl rfl (by decide) (by decide) fun w2 H7 hS7 => ?_
 simp only [RT] at hS7
 simp (disch := omega) only [↓RA, RZ, simprocAttr, hn]
 have hset1 : ((a0v 1 1 xa xb).flatMap Rk.cells).set 5 ya = (a0v 7 1 ya xb).flatMap Rk.cells := rfl
 simp only [Nat.zero_mul, fJ, hset1] at hS7
 refine iG ((a2z (c := 2) (hS7.gl hG) w2 (hS7.aw 14 rfl (fun _ => rfl))).tr) ?_
 rintro r H8 ⟨-, hT3⟩
 have hS8 := hS7.trans hT3
 simp only [RT] at hS8
 obtain ⟨yb, rfl⟩ : ∃ w, w = r := ⟨r, rfl⟩
 have hl2 : (a0v 7 1 ya xb).length = 2 := rfl
 simp (disch := omega) only [↓RA, RZ, simprocAttr, hn, (hS8.aw 8 rfl (fun _ => rfl)).idx, (hS8.aw 8 rfl (fun _ => rfl)).aY]
 refine hS8.aP 8 rfl [yb] (by rw [(hS8.rd 15 rfl).cells.1]) (by simp [(hS8.rd 15 rfl).cells.2.1]) b3o (by simp) (by simp [a0v, Rk.cells]) fun H9 hS9 => ?_
 simp only [RT] at hS9
 simp (disch := omega) only [↓RA, RZ, simprocAttr, hn, hS7.ld 11 rfl, hS8.ld 11 rfl]
 have hset2 : ((a0v 7 1 ya xb).flatMap Rk.cells).set 11 yb = (a0v 7 2 ya yb).flatMap Rk.cells := rfl
 simp only [Nat.one_mul, Nat.reduceAdd, hset2] at hS9
 have h1 : Sl 1 (one I) H9 ya (List.replicate 25 7) := hS9.aw 13 rfl (fun _ => rfl)
 have h2 : Sl 1 (one I) H9 yb (List.replicate 25 2) := hS9.aw 15 rfl (fun _ => rfl)
 have h3 : Sl 2 Drw.cells H9 da [⟨0, 0⟩] := hS9.aw 2 rfl (fun _ => rfl)
 have h4 : Sl 3 Seg.cells H9 ga [⟨36, 48, da, [⟨0, 0⟩]⟩] := hS9.aw 3 rfl (fun _ => rfl)
 have h5 : Sl 4 Stp.cells H9 sa [⟨⟨#[97]⟩, 8, 1, ga, [⟨36, 48, da, [⟨0, 0⟩]⟩]⟩] := hS9.aw 4 rfl (fun _ => rfl)
 have h6 : Sl 2 Drw.cells H9 db [⟨1, 12⟩] := hS9.aw 5 rfl (fun _ => rfl)
 have h7 : Sl 3 Seg.cells H9 gb [⟨36, 48, db, [⟨1, 12⟩]⟩] := hS9.aw 6 rfl (fun _ => rfl)
 have h8 : Sl 4 Stp.cells H9 sb [⟨⟨#[97]⟩, 4, 1, gb, [⟨36, 48, db, [⟨1, 12⟩]⟩]⟩] := hS9.aw 7 rfl (fun _ => rfl)
 have h9 : Sl 6 Rk.cells H9 xr (a0v 7 2 ya yb) := hS9.aw 8 rfl (fun _ => rfl)
 have h10 : Sl 5 Dvn.cells H9 xd (b5F da ga sa db gb sb) := hS9.aw 9 rfl (fun _ => rfl)
 have h11 : Sl 5 Cpl.cells H9 xc c0y := hS9.aw 10 rfl (fun _ => rfl)
 have hS0 := hS9
 have hG2 := hS0.gl hG
 have hvA : Var H9 A1 4 [.string ⟨#[101]⟩, xr, xd, xc] := hS0.var 11 rfl
 obtain ⟨o, hoe⟩ : ∃ o, o = exW 7 2 ya yb da ga sa db gb sb xr xd xc := ⟨_, rfl⟩
 have ho : o.In H9 := by
  subst hoe
  refine ⟨h9, ?_, h10, ?_, h11, by simp [exW, a0v], by simp [exW, b5F], by simp [exW, c0y]⟩
  ·intro r hr
   simp only [exW, a0v, dV, ec, or_false] at hr
   rcases hr with rfl | rfl
   ·exact ⟨h1, by simp⟩
   ·exact ⟨h2, by simp⟩
  ·intro d hd
   simp only [exW, b5F, dV, ec, or_false] at hd
   rcases hd with rfl | rfl
   ·exact ⟨h5, fun s hs => by rw [dx.1 hs]; exact ⟨h4, fun g hg => by rw [dx.1 hg]; exact ⟨h3, by simp⟩, by simp⟩, by simp⟩
   ·exact ⟨h8, fun s hs => by rw [dx.1 hs]; exact ⟨h7, fun g hg => by rw [dx.1 hg]; exact ⟨h6, by simp⟩, by simp⟩, by simp⟩
 have hv0 : Var H9 A1 4 [.string o.name, o.rv, o.dv, o.cv] := by rw [hoe]; exact hvA
 have q1 : rkE o rgX ksX = 0 := by subst hoe; exact a9S ..
 have q2 : b2B o rgX ksX = 18 := by subst hoe; exact b8J ..
 have q3 : byF o rgX ksX = [14, 4] := by subst hoe; exact c2n ..
 have q4 : grR o rgX = ((0, 36), 9) := by subst hoe; exact c3o ..
 have q5 : nF o rgX = 0 := by subst hoe; exact a5n ..
 have hG1 : ∀ z ∈ [(40 : Int), 41], isN z := fun z hz => by
  simp only [dV, ec, or_false] at hz
  rcases hz with rfl | rfl <;> exact ⟨by decide, by decide⟩
 clear hoe h1 h2 h3 h4 h5 h6 h7 h8 h9 h10 h11 hvA
 refine (sR H9).ai [(.int .u64 1), (.int .u64 1)] c3h c5H rfl rfl (by simp [Value.cells]) rfl rfl (by decide) (by decide) fun w3 H10 hS10 => ?_
 simp only [RT] at hS10
 simp (disch := omega) only [↓RA, RZ, simprocAttr, hn, b7T (hS10.rd 0 rfl).cells]
 refine hS10.eNew 3 [(.slice none 0 0), (.int .u64 0), (.int .u64 0)] rfl rfl rfl nW fun A2 H11 hS11 => ?_
 simp only [RT] at hS11
 simp (disch := omega) only [↓RA, RB, simprocAttr, hn]
 refine hS11.aa 1 rfl [w3, (.int .u64 1), (.int .u64 0)] rfl (by simp [OC, (hS11.rd 0 rfl).cells.2.1]) nW (by simp) fun H12 hS12 => ?_
 simp only [RT] at hS12
 simp (disch := omega) only [↓RA, RB, simprocAttr]
 refine hS12.ai [I 40, I 41] xC a1B rfl rfl (by simp [Value.cells]) rfl rfl (by decide) (by decide) fun w4 H13 hS13 => ?_
 simp only [RT] at hS13
 simp (disch := omega) only [↓RA, RZ, simprocAttr, hn]
 refine hS13.cF (tZ [40, 41] hG1 w4 (hS13.aw 2 rfl (fun _ => rfl)) (by simp)) fun H14 hS14 => ?_
 simp (disch := omega) only [↓RA, RZ, simprocAttr, hn]
 refine hS14.eNew 2 [(.int .u64 0), (.int .u64 0)] rfl rfl rfl kK fun A3 H15 hS15 => ?_
 simp only [RT] at hS15
 simp (disch := omega) only [↓RA, RB, simprocAttr, hn]
 refine hS15.aa 3 rfl [(.int .u64 (iY [40, 41]).1), (.int .u64 (iY [40, 41]).2)] rfl rfl kK (by simp) fun H16 hS16 => ?_
 simp only [RT] at hS16
 simp (disch := omega) only [↓RA, RZ, simprocAttr, hn, (hv0.ab hS16.ab).ae, hS16.ae 1 rfl, hS16.ae 3 rfl, b0j]
 refine hS16.ai [(.int .u64 (iY [40, 41]).1), (.int .u64 (iY [40, 41]).2), (.int .u64 0), (.int .u64 0)] a6q c0k rfl rfl (by simp [Value.cells]) rfl rfl (by decide) (by decide) fun w5 H17 hS17 => ?_
 simp only [RT] at hS17
 simp (disch := omega) only [↓RA, RZ, simprocAttr, hn]
 refine hS17.cF (c2k (hS17.gl hG2) o (ho.ab hS17) rgX w3 ⟨hS17.aw 0 rfl (fun _ => rfl), a9C⟩ w5 ksX ⟨hS17.aw 4 rfl (fun _ => rfl), by decide, b6m⟩) fun H18 hS18 => ?_
 rw [q1, q2]
 simp (disch := omega) only [↓RA, RZ, simprocAttr, hn, (hv0.ab hS18.ab).ae, hS18.ae 1 rfl, hS18.ae 3 rfl, b0j]
 refine hS18.ai [(.int .u64 (iY [40, 41]).1), (.int .u64 (iY [40, 41]).2), (.int .u64 0), (.int .u64 0)] a6q c0k rfl rfl (by simp [Value.cells]) rfl rfl (by decide) (by decide) fun w6 H19 hS19 => ?_
 simp only [RT] at hS19
 simp (disch := omega) only [↓RA, RZ, simprocAttr, hn]
 refine iG (b4t (hS19.gl hG2) o (ho.ab hS19) rgX w3 ⟨hS19.aw 0 rfl (fun _ => rfl), a9C⟩ w6 ksX ⟨hS19.aw 5 rfl (fun _ => rfl), by decide, b6m⟩) ?_
 rintro r H20 ⟨bv, rfl, hT6⟩
 have hS20 := hS19.trans hT6
 simp only [RT] at hS20
 rw [q1]
 rw [q3] at hS20
 simp (disch := omega) only [↓RA, RZ, simprocAttr, hn, (hv0.ab hS20.ab).ae, hS20.ae 1 rfl]
 refine hS20.cF (a7I o (ho.ab hS20) rgX w3 ⟨hS20.aw 0 rfl (fun _ => rfl), a9C⟩) fun H21 hS21 => ?_
 rw [q4, q5]
 dsimp only
 simp (disch := omega) only [↓RA, RZ, simprocAttr, hn]
 refine hS21.eNew 2 [I 0, I 0] rfl rfl rfl lN fun A4 H22 hS22 => ?_
 simp only [RT] at hS22
 simp (disch := omega) only [↓RA, RB, simprocAttr, hn]
 refine hS22.aa 7 rfl [I 0, I 36] rfl rfl lN (by simp) fun H23 hS23 => ?_
 simp only [RT] at hS23
 simp (disch := omega) only [↓RA, RZ, simprocAttr, hn]
 refine hS23.ai [I 14, I 4] xC a1B rfl rfl (by simp [Value.cells]) rfl rfl (by decide) (by decide) fun w7 H24 hS24 => ?_
 simp only [RT] at hS24
 simp (disch := omega) only [↓RA, RZ, simprocAttr, hn]
 refine hS24.cF (b4q bv w7 [14, 4] [14, 4] (hS24.aw 6 rfl (fun _ => rfl)) (hS24.aw 8 rfl (fun _ => rfl)) (by simp) (by simp)) fun H25 hS25 => ?_
 rw [decide_eq_true rfl]
 simp (disch := omega) only [↓RA, RZ, simprocAttr, hn, hS25.ae 7 rfl, c2t]
 simp (disch := omega) only [RB, RC, simprocAttr, hn, c7b]
 exact hS0.forget.trans hS25.forget
def cDk (b : Nat → Nat) : Nat → Nat
 | 0 => b 0 * 37
 | 1 => b 1 * 11
 | _ => b 2
theorem a8O (hG : Glob gH H) (p : Pln) (hp : p.In H) (hk : p.Ok) (b : Nat → Nat) (hb : ∀ i, b i < 256) (c : Ct) :
 Fn prog 6 [.agg #[p.rv, p.dv, p.cv], .agg #[.int .u8 (b 0), .int .u8 (b 1), .int .u8 (b 2), .int .u8 (b 3), .int .u8 (b 4)], .agg #[I c.1, I c.2]] H fun r H' => r = .bool true ∧ St prog H H' [] := by
 refine .bd func6 rfl (by kernel_rfl) (m := 120) rfl fun l hn g0 g1 g2 => ?_
 simp (disch := omega) only [↓RA, RB, simprocAttr, g0]
 refine (sR H).eNew 3 [p.rv, p.dv, p.cv] rfl rfl (by simp [((sR H).sl hp.1).cells.2.1, ((sR H).sl hp.2.1).cells.2.1, ((sR H).sl hp.2.2.2.1).cells.2.1]) b9b fun A1 H1 hS1 => ?_
 simp only [RT] at hS1
 simp (disch := omega) only [↓RA, RB, simprocAttr, g1]
 refine hS1.eNew 5 [(.int .u8 (b 0)), (.int .u8 (b 1)), (.int .u8 (b 2)), (.int .u8 (b 3)), (.int .u8 (b 4))] rfl rfl rfl c2Y fun A2 H2 hS2 => ?_
 simp only [RT] at hS2
 simp (disch := omega) only [↓RA, RB, simprocAttr, g2]
 refine hS2.eNew 2 [I c.1, I c.2] rfl rfl rfl lN fun A3 H3 hS3 => ?_
 simp only [RT] at hS3
 simp (disch := omega) only [↓RA, RZ, simprocAttr]
 refine hS3.cF (a3j (hS3.gl hG)) fun H4 hS4 => ?_
 simp (disch := omega) only [↓RA, RZ, simprocAttr, hn, hS4.ae 0 rfl]
 refine hS4.cF (c0c p (hp.ab hS4)) fun H5 hS5 => ?_
 simp (disch := omega) only [↓RA, RZ, simprocAttr, hn]
 refine jL (fun h1 => ?_) (fun h1 => ?_)
 ·simp (disch := omega) only [↓RA, RZ, simprocAttr]
  refine hS5.cF (a3j (hS5.gl hG)) fun H6 hS6 => ?_
  simp (disch := omega) only [↓RA, RZ, simprocAttr, hn, tR6, h1]
  exact hS6.forget
 have hf : wY p = true := by simpa using h1
 simp (disch := omega) only [↓RA, RZ, simprocAttr, hn, hS5.ae 0 rfl, h1]
 refine iG (b3L (hS5.gl hG) p (hp.ab hS5) hk hf) ?_
 rintro r H7 ⟨o, rfl, ho, hm, hT4⟩
 have hS7 := hS5.trans hT4
 simp only [RT] at hS7
 have hS0 := hS7
 have hG2 := hS0.gl hG
 have hoe := hm.ok.organE
 have hrg := b3Z b hoe
 have hf0 := Org.aI hoe
 obtain ⟨k1, k2, k3⟩ := hm.small hf
 have hok := b4x (o := o) hb k2
 have h2 := hb 2
 have h0b := hb 0
 have h1b := hb 1
 have hc : ∀ i, cDk b i < 65536 := fun i => by
  unfold cDk
  split <;> omega
 have hkl := tV o (cDk b)
 have hkO := a8q hf0 (cDk b)
 have hkE := b0o hoe (cDk b)
 simp (disch := omega) only [↓RA, RZ, simprocAttr]
 refine (sR H7).eNew 4 [(.string ⟨#[]⟩), (.slice none 0 0), (.slice none 0 0), (.slice none 0 0)] rfl rfl rfl lU fun A4 H8 hS8 => ?_
 simp only [RT] at hS8
 simp (disch := omega) only [↓RA, RB, simprocAttr, hn, h1]
 refine hS8.aa 0 rfl [(.string o.name), o.rv, o.dv, o.cv] rfl (by simp [OC, (hS8.sl ho.1).cells.2.1, (hS8.sl ho.2.2.1).cells.2.1, (hS8.sl ho.2.2.2.2.1).cells.2.1]) lU (by simp) fun H9 hS9 => ?_
 simp only [RT] at hS9
 simp (disch := omega) only [↓RA, RB, simprocAttr, h1]
 refine Wp.aL jY [(3, 0), (5, 0), (6, 0), (9, 0), (10, 0), (13, 0), (14, 0)] (by kernel_rfl) (by kernel_rfl) ?_
 simp (disch := omega) only [↓RA, RZ, simprocAttr, hn, hS9.ae 0 rfl, ((hS0.var 1 rfl).ab hS9.ab).ae]
 have hD := b1e o (ho.ab hS9) k1 k2 k3 b hb
 generalize vI o b = rg at hrg hok hD
 refine iG (hD) ?_
 rintro r H10 ⟨sv, rfl, hT5⟩
 have hS10 := hS9.trans hT5
 simp only [RT] at hS10
 have w1 := sJ (b 2) (by omega) (by omega)
 have w3 := sJ (b 0) (by omega) (by omega)
 have w4 := sJ (b 1) (by omega) (by omega)
 have w5 : IntKind.wrap .u16 ((b 0 : Int) * 37) = ((b 0 * 37 : Nat) : Int) := sJ ((b 0 * 37 : Nat) : Int) (by omega) (by omega)
 have w6 : IntKind.wrap .u16 ((b 1 : Int) * 11) = ((b 1 * 11 : Nat) : Int) := sJ ((b 1 * 11 : Nat) : Int) (by omega) (by omega)
 simp (disch := omega) only [↓RA, RZ, simprocAttr, hn, hS10.ae 0 rfl, ((hS0.var 1 rfl).ab hS10.ab).ld, b0t, w1, w3, w4, w5, w6]
 have hP := a9f o (ho.ab hS10) hf0 (cDk b) hc
 have e0 : ((cDk b 0 : Nat) : Int) = ((b 0 * 37 : Nat) : Int) := rfl
 have e1 : ((cDk b 1 : Nat) : Int) = ((b 1 * 11 : Nat) : Int) := rfl
 have e2 : ((cDk b 2 : Nat) : Int) = (b 2 : Int) := rfl
 rw [e0, e1, e2] at hP
 generalize pU o (cDk b) = ks at hkl hkO hkE hP
 refine iG (hP.tr) ?_
 rintro r H11 ⟨-, hT6⟩
 have hS11 := hS10.trans hT6
 simp only [RT] at hS11
 obtain ⟨kv, rfl⟩ : ∃ w, w = r := ⟨r, rfl⟩
 simp (disch := omega) only [↓RA, RZ, simprocAttr]
 refine hS11.eNew 3 [(.slice none 0 0), (.int .u64 0), (.int .u64 0)] rfl rfl rfl nW fun A5 H12 hS12 => ?_
 simp only [RT] at hS12
 simp (disch := omega) only [↓RA, RB, simprocAttr, hn]
 refine hS12.aa 3 rfl [sv, (.int .u64 rg.cpl), (.int .u64 rg.off)] rfl (by simp [OC, (hS12.rd 1 rfl).cells.2.1]) nW (by simp) fun H13 hS13 => ?_
 simp only [RT] at hS13
 simp (disch := omega) only [↓RA, RZ, simprocAttr, hn, hS9.ae 0 rfl, hS13.ae 0 rfl, ((hS0.var 1 rfl).ab hS9.ab).ld, hS13.ae 3 rfl, ((hS0.var 2 rfl).ab hS13.ab).ae, w1, w3, w4]
 have hrk : rkE o rg ks = 0 := by unfold rkE; rw [if_neg (by rw [hrg]; simp)]; exact hkE
 have hrl : rg.stops.length = o.dvs.length := (mG hrg).2
 have hplc := nH hkO hkE
 have hpll := pN hkE
 have hone : a1E o rg c = oJ o c := by unfold a1E; rw [if_neg (by rw [hrg]; simp)]
 have hadd : a3f o rg ks c = oJ o c := by unfold a3f; rw [if_neg (by rw [hrk]; simp)]
 refine hS13.cF (b2q o (ho.ab hS13) rg sv ⟨hS13.aw 1 rfl (fun _ => rfl), hok⟩ c) fun H14 hS14 => ?_
 rw [hone]
 simp (disch := omega) only [↓RA, RZ, simprocAttr, hn, hS14.ae 0 rfl, hS14.ae 3 rfl, ((hS0.var 2 rfl).ab hS14.ab).ae]
 refine hS14.cF (a8o (hS14.gl hG2) o (ho.ab hS14) (by omega) rg sv ⟨hS14.aw 1 rfl (fun _ => rfl), hok⟩ kv ks ⟨hS14.aw 2 rfl (fun _ => rfl), by omega, hkO⟩ c) fun H15 hS15 => ?_
 rw [hadd]
 simp (disch := omega) only [↓RA, RZ, simprocAttr, hn, hS15.ae 0 rfl, ((hS0.var 2 rfl).ab hS15.ab).ae]
 refine hS15.cF (a5B o (ho.ab hS15) c) fun H16 hS16 => ?_
 simp (disch := omega) only [↓RA, RB, simprocAttr, hn]
 refine iA (fun hE => ?_) (fun hE => ?_)
 ·have hkF : rM o rg c = 0 := by unfold rM ofF; rw [if_neg (by rw [hone]; exact hE)]; rfl
  have hmF : a8W o rg ks c = 0 := by unfold a8W adF; rw [if_neg (by rw [hadd]; exact hE)]; rfl
  rw [hkF, hmF]
  simp (disch := omega) only [↓RA, RZ, simprocAttr, hn, hE]
  simp (disch := omega) only [RB, RC, simprocAttr, hn, tR6]
  exact hS0.forget.trans hS16.forget
 have h3 := dy.1 hE
 have hcc := (nR o c).1 h3
 have hkF : rM o rg c = oO o (kH o rg [c]) := by unfold rM ofF; rw [if_pos (by rw [hone]; exact h3)]
 have hwO := a7y hf0 hkl hkO hcc
 have hwE := c1Z hoe hkO hkE hcc
 have hws := a9m hf0 hkl hcc rg
 have hwl := a0x ks c
 have hsub : ∀ x ∈ kH o rg (iF ks), x ∈ kH o rg (iF ks ++ [c]) := b2P hf0 fun x hx => List.mem_append_left _ hx
 have hmF : a8W o rg ks c = mL (oO o (kH o rg (iF ks ++ [c])) - oO o (kH o rg (iF ks))) := by
  unfold a8W adF
  rw [if_pos (by rw [hadd]; exact h3)]
  exact b0d (sG _ _ _) (sG _ _ _) hsub
 have hl1 := qR hf0 rg (l := [c]) (by simp) (mH fun x hx => by rw [dx.1 hx]; exact hcc)
 rw [hkF, hmF]
 simp (disch := omega) only [↓RA, RZ, simprocAttr, hn, hS16.ae 0 rfl, ((hS0.var 2 rfl).ab hS16.ab).ae, hE]
 refine iG (b8p o (ho.ab hS16) hf0 kv ks ⟨hS16.aw 2 rfl (fun _ => rfl), by omega, hkO⟩ hkE c hcc) ?_
 rintro r H17 ⟨mv, rfl, hT10⟩
 have hS17 := hS16.trans hT10
 simp only [RT] at hS17
 simp (disch := omega) only [↓RA, RZ, simprocAttr, hn, h3]
 refine Wp.aL jY [(12, 17), (26, 18), (27, 18)] (by kernel_rfl) (by kernel_rfl) ?_
 simp (disch := omega) only [↓RA, RZ, simprocAttr, hn]
 simp (disch := omega) only [↓RA, RZ, simprocAttr, hn, hS17.ae 0 rfl, hS17.ae 3 rfl, ((hS0.var 2 rfl).ab hS17.ab).ae]
 refine iG (c0g o (ho.ab hS17) hoe rg sv ⟨hS17.aw 1 rfl (fun _ => rfl), hok⟩ hrl c hcc) ?_
 rintro r H18 ⟨hu, hT11⟩
 have hS18 := hS17.trans hT11
 simp only [RT] at hS18
 obtain ⟨uv, rfl⟩ : ∃ w, w = r := ⟨r, rfl⟩
 simp (disch := omega) only [↓RA, RZ, simprocAttr, hn]
 refine hS18.cF (a8y o (ho.ab hS18) uv (kH o rg [c]) hu.1 (by omega) (fun p hp => rJ hp)) fun H19 hS19 => ?_
 simp (disch := omega) only [↓RA, RZ, simprocAttr, hn]
 simp (disch := omega) only [↓RA, RZ, simprocAttr, hn, hS19.ae 0 rfl, hS19.ae 3 rfl]
 refine hS19.cF (b5G o (ho.ab hS19) hoe rg sv ⟨hS19.aw 1 rfl (fun _ => rfl), hok⟩ hrl mv (sO ks c) ⟨hS19.aw 4 rfl (fun _ => rfl), by omega, hwO⟩ hwE) fun H20 hS20 => ?_
 rw [hws]
 simp (disch := omega) only [↓RA, RZ, simprocAttr, hn, hS20.ae 0 rfl, hS20.ae 3 rfl]
 refine hS20.cF (b5G o (ho.ab hS20) hoe rg sv ⟨hS20.aw 1 rfl (fun _ => rfl), hok⟩ hrl kv ks ⟨hS20.aw 2 rfl (fun _ => rfl), by omega, hkO⟩ hkE) fun H21 hS21 => ?_
 simp (disch := omega) only [↓RA, RZ, simprocAttr, hn, hS18.ae 0 rfl, hS19.ae 0 rfl, hS19.ae 3 rfl, tR6]
 exact hS0.forget.trans hS21.forget
end Go.Ds
