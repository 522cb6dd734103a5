/-
  A part of the proof of DemandGreatest.
-/
import Derived.Test.YtfjdhdefmcfepaaGreatDoorVL
import Derived.Test.YtfjdhdefmcfepaaGreatDoorVE
import Derived.Test.YtfjdhdefmcfepaaGreatDoorVJ
set_option linter.unusedVariables false
set_option linter.unusedSimpArgs false
set_option linter.defProp false
set_option linter.unusedSectionVars false
namespace Go.Ds
open Go.Proofs Go.Proofs.Tryz
variable {H : Heap}
set_option maxRecDepth 10000
set_option maxHeartbeats 1000000
def rkS (o : Org) (acc : List Int) (p : Ct) : List Int := acc.set p.1.toNat (nC (iB acc p.1.toNat + rZ o p))
def rkF (o : Org) (ps : List Ct) : List Int := ps.foldl (rkS o) (List.replicate o.ranks.length 0)
theorem b2e (o : Org) : ∀ (ps : List Ct) (acc : List Int), (ps.foldl (rkS o) acc).length = acc.length
 | [], _ => rfl
 | p :: ps, acc => by
   rw [eF, b2e o ps]
   unfold rkS
   rw [gQ]
theorem c0E (o : Org) (ps : List Ct) : (rkF o ps).length = o.ranks.length := by unfold rkF; rw [b2e, eM]
theorem b5E (o : Org) (ps : List Ct) (i : Nat) (h : i < ps.length) : rkF o (ps.take (i + 1)) = rkS o (rkF o (ps.take i)) (iB ps i) := by
 unfold rkF
 rw [kG ps i h, fz]
 rfl
theorem b5X (acc : List Int) (e : Nat) (x : Int) : ((acc.flatMap (one I)).set e (I x)) = (acc.set e x).flatMap (one I) := by
 rw [pX, pX, hK]
def byF (o : Org) (rg : Reg) (ks : List Nt) : List Int := if rkE o rg ks = 0 then rkF o (oL o rg ks) else []
theorem b4l (hG : Glob gH H) (o : Org) (ho : o.In H) (rg : Reg) (sv : Value) (hr : rg.In H sv) (kv : Value) (ks : List Nt) (hk : Ks H kv ks) :
 Fn prog 16 [.agg #[.string o.name, o.rv, o.dv, o.cv], .agg #[sv, .int .u64 rg.cpl, .int .u64 rg.off], kv] H fun r H' => ∃ v, r = .tuple #[v, I (rkE o rg ks)] ∧ St prog H H' [⟨v, 1, (byF o rg ks).flatMap (one I)⟩] := by
 have hle := b4Q (o := o) (rg := rg) hk.ok
 refine .bd func16 rfl (by kernel_rfl) (m := 53) rfl fun l hn g0 g1 g2 => ?_
 simp (disch := omega) only [↓RA, RB, simprocAttr, g0]
 refine (sR H).eNew 4 [(.string o.name), o.rv, o.dv, o.cv] rfl rfl (by simp [OC, ((sR H).sl ho.1).cells.2.1, ((sR H).sl ho.2.2.1).cells.2.1, ((sR H).sl ho.2.2.2.2.1).cells.2.1]) lP fun A1 H1 hS1 => ?_
 simp only [RT] at hS1
 simp (disch := omega) only [↓RA, RB, simprocAttr, g1]
 refine hS1.eNew 3 [sv, (.int .u64 rg.cpl), (.int .u64 rg.off)] rfl rfl (by simp [OC, (hS1.sl hr.1).cells.2.1]) nQ fun A2 H2 hS2 => ?_
 simp only [RT] at hS2
 simp (disch := omega) only [↓RA, RZ, simprocAttr, hn, g2, hS2.ae 0 rfl, hS2.ae 1 rfl]
 have hS1 := hS2
 refine iG (a1g (hS2.gl hG) o (ho.ab hS2) rg sv (hr.ab hS2) kv ks (hk.ab hS2)) ?_
 rintro r H3 ⟨pv, rfl, hx, hT1⟩
 have hS3 := hS2.trans hT1
 simp only [RT] at hS3
 simp (disch := omega) only [↓RA, RB, simprocAttr, hn]
 refine iA (fun h1 => ?_) (fun h1 => ?_)
 ·have hb : byF o rg ks = [] := by unfold byF; rw [if_neg h1]
  have hS4 := hS3.nil 0
  simp only [RT] at hS4
  simp (disch := omega) only [↓RA, RZ, simprocAttr, hn, c5N, h1]
  rw [hb]
  exact ⟨.slice none 0 0, rfl, hS4.pick [2] (by decide) rfl⟩
 have h0 := du.1 h1
 obtain ⟨hz1, hz2⟩ := uU h0
 have hf := Org.aH (lZ hz1).1
 have hrl := hf.rlen
 have hb : byF o rg ks = rkF o (oL o rg ks) := by unfold byF; rw [if_pos h0]
 have hx2 := hx.step (hS1.ba (H' := H3))
 obtain ⟨X, hBX, hS5⟩ := hS3.aC (os := [⟨ptr A1 0 4, 0, _⟩, ⟨ptr A2 0 3, 0, _⟩])
 have hx3 := hx2.step (hS5.kept hBX)
 simp (disch := omega) only [↓RA, RZ, simprocAttr, hn, hS5.ld 0 rfl, ((hS3.aj hBX hS5).sl ho.1).len, h1]
 refine hS5.bL o.ranks.length c4Z (by omega) fun w1 H4 hS6 => ?_
 simp only [RT] at hS6
 rw [show List.replicate o.ranks.length (Value.int .i64 0) = (List.replicate o.ranks.length (0 : Int)).flatMap (one I) from by rw [pX, List.map_replicate]] at hS6
 simp (disch := omega) only [↓RA, RZ, simprocAttr, hn, (hx2.step (hS6.kept hBX)).1.len, h1]
 refine Wp.ak (fun n l H' => l.length = 53 ∧ get l 3 = (ptr A1 0 4) ∧ get l 6 = (.slice none 0 0) ∧ get l 7 = I 0 ∧ get l 27 = pv ∧ get l 28 = I (oL o rg ks).length ∧ ∃ (i : Nat), (n + i = (oL o rg ks).length) ∧ get l 29 = I i ∧ get l 10 = w1 ∧ St prog X H' [⟨ptr A1 0 4, 0, [(.string o.name), o.rv, o.dv, o.cv]⟩, ⟨ptr A2 0 3, 0, [sv, (.int .u64 rg.cpl), (.int .u64 rg.off)]⟩, ⟨w1, 1, (rkF o ((oL o rg ks).take i)).flatMap (one I)⟩]) (oL o rg ks).length ?_ ?_
 ·simp (disch := omega) only [RB, RC, simprocAttr, hn]
  exact ⟨0, by omega, rfl, hS6⟩
 rintro n l H5 ⟨hn, g3, g6, g7, g27, g28, i, hi, g29, nV, hS7⟩
 simp (disch := omega) only [↓RA, RB, simprocAttr, hn, g28, g29]
 refine iA (fun q1 => ?_) (fun q1 => ?_)
 ·have hpi := b1Q (o := o) (rg := rg) (ks := ks) _ (iD (xs := oL o rg ks) (j := i) (by omega))
  obtain ⟨e, he⟩ : ∃ e : Nat, (iB (oL o rg ks) i).1 = e := ⟨(iB (oL o rg ks) i).1.toNat, by have := hpi.1; omega⟩
  obtain ⟨f, hff⟩ : ∃ f : Nat, (iB (oL o rg ks) i).2 = f := ⟨(iB (oL o rg ks) i).2.toNat, by have := hpi.2.2.1; omega⟩
  have hel : e < o.ranks.length := by have := hpi.2.1; omega
  have hfl : f < (iB o.ranks e).wind.length := by
   have := hpi.2.2.2
   rw [he, dJ] at this
   omega
  have hlr := c0E o ((oL o rg ks).take i)
  have hsu := b5E o (oL o rg ks) i (by omega)
  have hwt : rZ o (iB (oL o rg ks) i) = iB (iB o.ranks e).wind f := by unfold rZ; rw [he, hff, dJ, dJ]
  unfold rkS at hsu
  rw [hwt, he, dJ] at hsu
  simp (disch := omega) only [↓RA, RZ, simprocAttr, hn, g27, g29, (hx2.step (hS7.kept hBX)).1.idx, (hx2.step (hS7.kept hBX)).1.ae, jP, q1]
  refine hS7.eNew 2 [I 0, I 0] rfl rfl rfl qJ fun A3 H6 hS8 => ?_
  simp only [RT] at hS8
  simp (disch := omega) only [↓RA, RZ, simprocAttr, hn, q1]
  refine hS8.aa 3 rfl [I (iB (oL o rg ks) i).1, I (iB (oL o rg ks) i).2] rfl rfl qJ (by simp) fun H7 hS9 => ?_
  simp only [RT] at hS9
  simp (disch := omega) only [↓RA, RZ, simprocAttr, q1]
  refine Wp.drw jZ (by kernel_rfl) ?_
  simp (disch := omega) only [↓RA, RZ, simprocAttr, hn, nV]
  simp (disch := omega) only [↓RA, RZ, simprocAttr, hn, g3, hS9.ld 3 rfl, (hS9.aw 2 rfl (fun _ => rfl)).idx, (hS9.aw 2 rfl (fun _ => rfl)).ld, one, hS9.ld 0 rfl, ((hS3.aj hBX hS9).sl ho.1).idx, ((hS3.aj hBX hS9).sl ho.1).aY, ((hS3.aj hBX hS9).sl ho.1).ld, Rk.cells, ((hS3.aj hBX hS9).sl (ho.2.1 (iB o.ranks e) (iD (by omega))).1).idx, ((hS3.aj hBX hS9).sl (ho.2.1 (iB o.ranks e) (iD (by omega))).1).ld, he, hff]
  refine hS9.aT 2 rfl [_] rfl rfl tS3 (by simp) (by rw [pX, ef, hlr]; simp; omega) fun H8 hS10 => ?_
  simp only [RT] at hS10
  simp (disch := omega) only [↓RA, RZ, simprocAttr, hn, g3, g6, g7, g27, g28, g29, nV, he, hff]
  refine ⟨n - 1, by omega, i + 1, by omega, by simp, ?_⟩
  rw [hsu, ← b5X]
  exact hS10.pick [0, 1, 2] (by decide) rfl
 have hnt := (hS7.aw (cel := one I) 2 rfl (fun _ => rfl)).bD
 simp (disch := omega) only [↓RA, RZ, simprocAttr, hn, nV, c5N, q1, hnt]
 have hii : i = (oL o rg ks).length := by omega
 rw [hb, h0]
 refine ⟨_, rfl, ?_⟩
 have h9 := (hS3.aj hBX hS7).pick (os' := [⟨w1, 1, _⟩]) [2] (by decide) rfl
 rw [hii, dS] at h9
 exact h9
end Go.Ds
namespace Go.Ds
open Go.Proofs
variable {H : Heap}
set_option maxRecDepth 10000
set_option maxHeartbeats 1000000
theorem a4s (o : Org) (r : Reg) (l : List Ct) : kJ o r l = dd (a3S ((b7m a3S o r l).flatMap (b6O a3S o r))) := by
 rw [← c2M]
 rfl
section
variable (w1 w2 d1 g1 s1 d2 g2 s2 w3 w4 w5 : Value)
end
end Go.Ds
namespace Go.Ds
open Go.Proofs Go.Proofs.Tryz
variable {H : Heap}
set_option maxRecDepth 10000
set_option maxHeartbeats 1000000
theorem b3I (v w : Value) (xs ys : List Int) (hv : Sl 1 (one I) H v xs) (hw : Sl 1 (one I) H w ys) (hl : xs.length < 1000000000) (hl2 : ys.length < 1000000000) :
 Fn prog 19 [v, w] H fun r H' => r = .bool (decide (xs = ys)) ∧ St prog H H' [] := by
 refine .aF func19 rfl (by kernel_rfl) (m := 26) rfl fun l hn g0 g1 => ?_
 simp (disch := omega) only [↓RA, RZ, simprocAttr, hn, g0, g1, ((sR H).sl hv).len, ((sR H).sl hw).len]
 refine iA (fun h1 => ?_) (fun h1 => ?_)
 ·simp (disch := omega) only [↓RA, RZ, simprocAttr, hn, c3F, h1]
  exact ⟨by rw [decide_eq_false]; intro e; rw [e] at h1; exact h1 rfl, (sR H)⟩
 simp (disch := omega) only [↓RA, RZ, simprocAttr, hn, g0, ((sR H).sl hv).len, h1]
 refine Wp.ak (fun n l H' => l.length = 26 ∧ get l 0 = v ∧ get l 1 = w ∧ get l 12 = I xs.length ∧ ∃ (j : Nat), (n + j = xs.length ∧ ∀ q, q < j → iB xs q = iB ys q) ∧ get l 13 = I j ∧ St prog H H' []) xs.length ?_ ?_
 ·simp (disch := omega) only [RB, RC, simprocAttr, hn, g0, g1]
  exact ⟨0, ⟨by omega, fun q hq => absurd hq (dN _)⟩, rfl, (sR H)⟩
 rintro n l H1 ⟨hn, g0, g1, g12, j, ⟨hj,hz⟩, g13, hS1⟩
 simp (disch := omega) only [↓RA, RB, simprocAttr, hn, g12, g13]
 refine iA (fun q1 => ?_) (fun q1 => ?_)
 ·simp (disch := omega) only [↓RA, RZ, simprocAttr, hn, g13, q1]
  refine Wp.drw jZ (by kernel_rfl) ?_
  simp (disch := omega) only [↓RA, RZ, simprocAttr, hn, g0, g1, (hS1.sl hv).idx, (hS1.sl hv).ld, one, (hS1.sl hw).idx, (hS1.sl hw).ld]
  refine iA (fun q2 => ?_) (fun q2 => ?_)
  ·simp (disch := omega) only [↓RA, RZ, simprocAttr, hn, c3F, q2]
   refine ⟨?_, hS1⟩
   rw [decide_eq_false]
   intro e
   rw [e] at q2
   exact q2 rfl
  have q3 := du.1 q2
  simp (disch := omega) only [↓RA, RZ, simprocAttr, hn, g0, g1, g12, g13, q2]
  exact ⟨n - 1, by omega, j + 1, ⟨by omega, fun q hq => by rcases dr.1 hq with e | e; (· exact hz q e); (· rw [e]; exact q3)⟩, by simp, hS1⟩
 simp (disch := omega) only [↓RA, RZ, simprocAttr, hn, c3F, q1]
 exact ⟨by rw [decide_eq_true]; exact b0B (by omega) fun q hq => hz q (by omega), hS1⟩
def rgX : Reg := ⟨[1, 1], 1, 0⟩
def ksX : List Nt := [jF [40, 41], (0, 0)]
section
variable (w1 w2 d1 g1 s1 d2 g2 s2 w3 w4 w5 : Value)
theorem b1z : oL (exW 7 2 w1 w2 d1 g1 s1 d2 g2 s2 w3 w4 w5) rgX ksX = [(0, 4), (0, 5), (1, 16), (1, 17)] := by
 unfold oL
 rw [show rkE (exW 7 2 w1 w2 d1 g1 s1 d2 g2 s2 w3 w4 w5) rgX ksX = 0 from a9I .., if_pos rfl, a4s]
 kernel_rfl
theorem b8K : a7T (exW 7 2 w1 w2 d1 g1 s1 d2 g2 s2 w3 w4 w5) rgX ksX = 18 := by
 unfold a7T
 rw [b1z]
 kernel_rfl
theorem c2T : byF (exW 7 2 w1 w2 d1 g1 s1 d2 g2 s2 w3 w4 w5) rgX ksX = [14, 4] := by
 unfold byF
 rw [show rkE (exW 7 2 w1 w2 d1 g1 s1 d2 g2 s2 w3 w4 w5) rgX ksX = 0 from a9I .., if_pos rfl, b1z]
 kernel_rfl
theorem b9e (o : Org) (rg : Reg) : mJ o rg = fun c => oO o (if a1I o rg c = 0 then dd (a3S ((b7m a3S o rg [c]).flatMap (b6O a3S o rg))) else []) := by
 funext c
 unfold mJ ofF
 rw [a4s]
theorem c3h : grR (exW 7 2 w1 w2 d1 g1 s1 d2 g2 s2 w3 w4 w5) rgX = ((0, 36), 9) := by
 unfold grR
 rw [show mQ (exW 7 2 w1 w2 d1 g1 s1 d2 g2 s2 w3 w4 w5) rgX = 0 from a6f .., if_pos rfl, b9e]
 kernel_rfl
end
theorem b0u : rgX.Ok := ⟨by decide, by decide, by decide, by decide⟩
theorem b4Z : ∀ x ∈ ksX, Nt.Ok x := by
 intro x hx
 simp only [ksX, dV, ec, or_false] at hx
 rcases hx with rfl | rfl <;> exact ⟨by decide, by decide⟩
theorem a2g (hG : Glob gH H) : Fn prog 10 [] H fun r H' => r = .bool true ∧ St prog H H' [] := by
 refine .cO func10 rfl (by kernel_rfl) (m := 89) rfl fun l hn => ?_
 simp (disch := omega) only [↓RA, RZ, simprocAttr]
 refine iG (a7H ((sR H).gl hG)) ?_
 rintro r H1 ⟨xa, xb, da, ga, sa, db, gb, sb, xr, xd, xc, rfl, hT1⟩
 have hS1 := (sR H).trans hT1
 simp only [RT] at hS1
 simp (disch := omega) only [↓RA, RZ, simprocAttr]
 refine hS1.eNew 4 [(.string ⟨#[]⟩), (.slice none 0 0), (.slice none 0 0), (.slice none 0 0)] rfl rfl rfl lP fun A1 H2 hS2 => ?_
 simp only [RT] at hS2
 simp (disch := omega) only [↓RA, RB, simprocAttr, hn]
 refine hS2.aa 11 rfl [(.string ⟨#[101]⟩), xr, xd, xc] rfl (by simp [OC, (hS2.rd 8 rfl).cells.2.1, (hS2.rd 9 rfl).cells.2.1, (hS2.rd 10 rfl).cells.2.1]) lP (by simp) fun H3 hS3 => ?_
 simp only [RT] at hS3
 simp (disch := omega) only [↓RA, RB, simprocAttr]
 refine Wp.aM jZ [(1, 3), (1, 4)] (by kernel_rfl) (by kernel_rfl) ?_
 simp (disch := omega) only [↓RA, RZ, simprocAttr, hn, hS3.ld 11 rfl]
 refine hS3.ai [I 7] zQ a2c rfl rfl (by simp [Value.cells]) rfl rfl (by decide) (by decide) fun w1 H4 hS4 => ?_
 simp only [RT] at hS4
 simp (disch := omega) only [↓RA, RZ, simprocAttr, hn]
 refine iG ((a3g (c := 7) (hS4.gl hG) w1 (hS4.aw 12 rfl (fun _ => rfl))).tr) ?_
 rintro r H5 ⟨-, hT2⟩
 have hS5 := hS4.trans hT2
 simp only [RT] at hS5
 obtain ⟨ya, rfl⟩ : ∃ w, w = r := ⟨r, rfl⟩
 have hl1 : (a0w 1 1 xa xb).length = 2 := rfl
 simp (disch := omega) only [↓RA, RZ, simprocAttr, hn, (hS5.aw 8 rfl (fun _ => rfl)).idx, (hS5.aw 8 rfl (fun _ => rfl)).aY]
 refine hS5.aT 8 rfl [ya] (by rw [(hS5.rd 13 rfl).cells.1]) (by simp [(hS5.rd 13 rfl).cells.2.1]) b4A (by simp) (by simp [a0w, Rk.cells]) fun H6 hS6 => ?_
 simp only [RT] at hS6
 simp (disch := omega) only [↓RA, RZ, simprocAttr, hn, hS4.ld 11 rfl, hS5.ld 11 rfl]
 refine Wp.aM jZ [(1, 3), (1, 4)] (by kernel_rfl) (by kernel_rfl) ?_
 simp (disch := omega) only [↓RA, RZ, simprocAttr, hn, hS6.ld 11 rfl]
 refine hS6.ai [I 2] zQ a2c rfl rfl (by simp [Value.cells]) rfl rfl (by decide) (by decide) fun w2 H7 hS7 => ?_
 simp only [RT] at hS7
 simp (disch := omega) only [↓RA, RZ, simprocAttr, hn]
 have hset1 : ((a0w 1 1 xa xb).flatMap Rk.cells).set 5 ya = (a0w 7 1 ya xb).flatMap Rk.cells := rfl
 simp only [Nat.zero_mul, fJ, hset1] at hS7
 refine iG ((a3g (c := 2) (hS7.gl hG) w2 (hS7.aw 14 rfl (fun _ => rfl))).tr) ?_
 rintro r H8 ⟨-, hT3⟩
 have hS8 := hS7.trans hT3
 simp only [RT] at hS8
 obtain ⟨yb, rfl⟩ : ∃ w, w = r := ⟨r, rfl⟩
 have hl2 : (a0w 7 1 ya xb).length = 2 := rfl
 simp (disch := omega) only [↓RA, RZ, simprocAttr, hn, (hS8.aw 8 rfl (fun _ => rfl)).idx, (hS8.aw 8 rfl (fun _ => rfl)).aY]
 refine hS8.aT 8 rfl [yb] (by rw [(hS8.rd 15 rfl).cells.1]) (by simp [(hS8.rd 15 rfl).cells.2.1]) b4A (by simp) (by simp [a0w, Rk.cells]) fun H9 hS9 => ?_
 simp only [RT] at hS9
 simp (disch := omega) only [↓RA, RZ, simprocAttr, hn, hS7.ld 11 rfl, hS8.ld 11 rfl]
 have hset2 : ((a0w 7 1 ya xb).flatMap Rk.cells).set 11 yb = (a0w 7 2 ya yb).flatMap Rk.cells := rfl
 simp only [Nat.one_mul, Nat.reduceAdd, hset2] at hS9
 have h1 : Sl 1 (one I) H9 ya (List.replicate 25 7) := hS9.aw 13 rfl (fun _ => rfl)
 have h2 : Sl 1 (one I) H9 yb (List.replicate 25 2) := hS9.aw 15 rfl (fun _ => rfl)
 have h3 : Sl 2 Drw.cells H9 da [⟨0, 0⟩] := hS9.aw 2 rfl (fun _ => rfl)
 have h4 : Sl 3 Seg.cells H9 ga [⟨36, 48, da, [⟨0, 0⟩]⟩] := hS9.aw 3 rfl (fun _ => rfl)
 have h5 : Sl 4 Stp.cells H9 sa [⟨⟨#[97]⟩, 8, 1, ga, [⟨36, 48, da, [⟨0, 0⟩]⟩]⟩] := hS9.aw 4 rfl (fun _ => rfl)
 have h6 : Sl 2 Drw.cells H9 db [⟨1, 12⟩] := hS9.aw 5 rfl (fun _ => rfl)
 have h7 : Sl 3 Seg.cells H9 gb [⟨36, 48, db, [⟨1, 12⟩]⟩] := hS9.aw 6 rfl (fun _ => rfl)
 have h8 : Sl 4 Stp.cells H9 sb [⟨⟨#[97]⟩, 4, 1, gb, [⟨36, 48, db, [⟨1, 12⟩]⟩]⟩] := hS9.aw 7 rfl (fun _ => rfl)
 have h9 : Sl 6 Rk.cells H9 xr (a0w 7 2 ya yb) := hS9.aw 8 rfl (fun _ => rfl)
 have h10 : Sl 5 Dvn.cells H9 xd (b6l da ga sa db gb sb) := hS9.aw 9 rfl (fun _ => rfl)
 have h11 : Sl 5 Cpl.cells H9 xc b8w := hS9.aw 10 rfl (fun _ => rfl)
 have hS0 := hS9
 have hG2 := hS0.gl hG
 have hvA : Var H9 A1 4 [.string ⟨#[101]⟩, xr, xd, xc] := hS0.var 11 rfl
 obtain ⟨o, hoe⟩ : ∃ o, o = exW 7 2 ya yb da ga sa db gb sb xr xd xc := ⟨_, rfl⟩
 have ho : o.In H9 := by
  subst hoe
  refine ⟨h9, ?_, h10, ?_, h11, by simp [exW, a0w], by simp [exW, b6l], by simp [exW, b8w]⟩
  ·intro r hr
   simp only [exW, a0w, dV, ec, or_false] at hr
   rcases hr with rfl | rfl
   ·exact ⟨h1, by simp⟩
   ·exact ⟨h2, by simp⟩
  ·intro d hd
   simp only [exW, b6l, dV, ec, or_false] at hd
   rcases hd with rfl | rfl
   ·exact ⟨h5, fun s hs => by rw [dB.1 hs]; exact ⟨h4, fun g hg => by rw [dB.1 hg]; exact ⟨h3, by simp⟩, by simp⟩, by simp⟩
   ·exact ⟨h8, fun s hs => by rw [dB.1 hs]; exact ⟨h7, fun g hg => by rw [dB.1 hg]; exact ⟨h6, by simp⟩, by simp⟩, by simp⟩
 have hv0 : Var H9 A1 4 [.string o.name, o.rv, o.dv, o.cv] := by rw [hoe]; exact hvA
 have q1 : rkE o rgX ksX = 0 := by subst hoe; exact a9I ..
 have q2 : a7T o rgX ksX = 18 := by subst hoe; exact b8K ..
 have q3 : byF o rgX ksX = [14, 4] := by subst hoe; exact c2T ..
 have q4 : grR o rgX = ((0, 36), 9) := by subst hoe; exact c3h ..
 have q5 : mQ o rgX = 0 := by subst hoe; exact a6f ..
 have hG1 : ∀ z ∈ [(40 : Int), 41], isN z := fun z hz => by
  simp only [dV, ec, or_false] at hz
  rcases hz with rfl | rfl <;> exact ⟨by decide, by decide⟩
 clear hoe h1 h2 h3 h4 h5 h6 h7 h8 h9 h10 h11 hvA
 refine (sR H9).ai [(.int .u64 1), (.int .u64 1)] c2n c5H rfl rfl (by simp [Value.cells]) rfl rfl (by decide) (by decide) fun w3 H10 hS10 => ?_
 simp only [RT] at hS10
 simp (disch := omega) only [↓RA, RZ, simprocAttr, hn, b5Q (hS10.rd 0 rfl).cells]
 refine hS10.eNew 3 [(.slice none 0 0), (.int .u64 0), (.int .u64 0)] rfl rfl rfl nQ fun A2 H11 hS11 => ?_
 simp only [RT] at hS11
 simp (disch := omega) only [↓RA, RB, simprocAttr, hn]
 refine hS11.aa 1 rfl [w3, (.int .u64 1), (.int .u64 0)] rfl (by simp [OC, (hS11.rd 0 rfl).cells.2.1]) nQ (by simp) fun H12 hS12 => ?_
 simp only [RT] at hS12
 simp (disch := omega) only [↓RA, RB, simprocAttr]
 refine hS12.ai [I 40, I 41] zQ a2c rfl rfl (by simp [Value.cells]) rfl rfl (by decide) (by decide) fun w4 H13 hS13 => ?_
 simp only [RT] at hS13
 simp (disch := omega) only [↓RA, RZ, simprocAttr, hn]
 refine hS13.cF (yE [40, 41] hG1 w4 (hS13.aw 2 rfl (fun _ => rfl)) (by simp)) fun H14 hS14 => ?_
 simp (disch := omega) only [↓RA, RZ, simprocAttr, hn]
 refine hS14.eNew 2 [(.int .u64 0), (.int .u64 0)] rfl rfl rfl kX fun A3 H15 hS15 => ?_
 simp only [RT] at hS15
 simp (disch := omega) only [↓RA, RB, simprocAttr, hn]
 refine hS15.aa 3 rfl [(.int .u64 (jF [40, 41]).1), (.int .u64 (jF [40, 41]).2)] rfl rfl kX (by simp) fun H16 hS16 => ?_
 simp only [RT] at hS16
 simp (disch := omega) only [↓RA, RZ, simprocAttr, hn, (hv0.ab hS16.ab).ae, hS16.ae 1 rfl, hS16.ae 3 rfl, a9Q]
 refine hS16.ai [(.int .u64 (jF [40, 41]).1), (.int .u64 (jF [40, 41]).2), (.int .u64 0), (.int .u64 0)] a3C b6J rfl rfl (by simp [Value.cells]) rfl rfl (by decide) (by decide) fun w5 H17 hS17 => ?_
 simp only [RT] at hS17
 simp (disch := omega) only [↓RA, RZ, simprocAttr, hn]
 refine hS17.cF (b6p (hS17.gl hG2) o (ho.ab hS17) rgX w3 ⟨hS17.aw 0 rfl (fun _ => rfl), b0u⟩ w5 ksX ⟨hS17.aw 4 rfl (fun _ => rfl), by decide, b4Z⟩) fun H18 hS18 => ?_
 rw [q1, q2]
 simp (disch := omega) only [↓RA, RZ, simprocAttr, hn, (hv0.ab hS18.ab).ae, hS18.ae 1 rfl, hS18.ae 3 rfl, a9Q]
 refine hS18.ai [(.int .u64 (jF [40, 41]).1), (.int .u64 (jF [40, 41]).2), (.int .u64 0), (.int .u64 0)] a3C b6J rfl rfl (by simp [Value.cells]) rfl rfl (by decide) (by decide) fun w6 H19 hS19 => ?_
 simp only [RT] at hS19
 simp (disch := omega) only [↓RA, RZ, simprocAttr, hn]
 refine iG (b4l (hS19.gl hG2) o (ho.ab hS19) rgX w3 ⟨hS19.aw 0 rfl (fun _ => rfl), b0u⟩ w6 ksX ⟨hS19.aw 5 rfl (fun _ => rfl), by decide, b4Z⟩) ?_
 rintro r H20 ⟨bv, rfl, hT6⟩
 have hS20 := hS19.trans hT6
 simp only [RT] at hS20
 rw [q1]
 rw [q3] at hS20
 simp (disch := omega) only [↓RA, RZ, simprocAttr, hn, (hv0.ab hS20.ab).ae, hS20.ae 1 rfl]
 refine hS20.cF (a1f o (ho.ab hS20) rgX w3 ⟨hS20.aw 0 rfl (fun _ => rfl), b0u⟩) fun H21 hS21 => ?_
 rw [q4, q5]
 dsimp only
 simp (disch := omega) only [↓RA, RZ, simprocAttr, hn]
 refine hS21.eNew 2 [I 0, I 0] rfl rfl rfl lA fun A4 H22 hS22 => ?_
 simp only [RT] at hS22
 simp (disch := omega) only [↓RA, RB, simprocAttr, hn]
 refine hS22.aa 7 rfl [I 0, I 36] rfl rfl lA (by simp) fun H23 hS23 => ?_
 simp only [RT] at hS23
 simp (disch := omega) only [↓RA, RZ, simprocAttr, hn]
 refine hS23.ai [I 14, I 4] zQ a2c rfl rfl (by simp [Value.cells]) rfl rfl (by decide) (by decide) fun w7 H24 hS24 => ?_
 simp only [RT] at hS24
 simp (disch := omega) only [↓RA, RZ, simprocAttr, hn]
 refine hS24.cF (b3I bv w7 [14, 4] [14, 4] (hS24.aw 6 rfl (fun _ => rfl)) (hS24.aw 8 rfl (fun _ => rfl)) (by simp) (by simp)) fun H25 hS25 => ?_
 rw [decide_eq_true rfl]
 simp (disch := omega) only [↓RA, RZ, simprocAttr, hn, hS25.ae 7 rfl, c3Q]
 simp (disch := omega) only [RB, RC, simprocAttr, hn, c7H]
 exact hS0.forget.trans hS25.forget
theorem b7z (o : Org) (ho : o.In H) (hf : o.Fine) : Fn prog 24 [.agg #[.string o.name, o.rv, o.dv, o.cv]] H fun r H' => St prog H H' [⟨r, 2, (lX o oA).flatMap yI⟩] := by
 refine .aP func24 rfl (by kernel_rfl) (m := 6) rfl fun l hn g0 => ?_
 simp (disch := omega) only [↓RA, RB, simprocAttr, g0]
 refine (sR H).eNew 4 [(.string o.name), o.rv, o.dv, o.cv] rfl rfl (by simp [OC, ((sR H).sl ho.1).cells.2.1, ((sR H).sl ho.2.2.1).cells.2.1, ((sR H).sl ho.2.2.2.2.1).cells.2.1]) lP fun A1 H1 hS1 => ?_
 simp only [RT] at hS1
 simp (disch := omega) only [↓RA, RZ, simprocAttr, hn, hS1.ae 0 rfl, b0p]
 have hP := b0q o (ho.ab hS1) hf oA (fun _ => by unfold oA; decide)
 have e0 : ∀ i, ((oA i : Nat) : Int) = 65535 := fun _ => rfl
 rw [e0, e0, e0] at hP
 refine iG (hP.tr) ?_
 rintro r H2 ⟨-, hT1⟩
 have hS2 := hS1.trans hT1
 simp only [RT] at hS2
 obtain ⟨kv, rfl⟩ : ∃ w, w = r := ⟨r, rfl⟩
 simp (disch := omega) only [↓RA, RB, simprocAttr, hn, c8t]
 exact hS2.pick [1] (by decide) rfl
theorem Made.wide {p : Pln} {o : Org} (h : Made p o) : ∀ j, j < o.dvs.length → (iB o.dvs j).hi ≤ (iB o.dvs j).lo + 8 := fun j hj => (h.ok.dvs j hj).wide
theorem a3m (hG : Glob gH H) (p : Pln) (hp : p.In H) (hk : p.Ok) (b : Nat → Nat) (hb : ∀ i, b i < 256) :
 Fn prog 4 [.agg #[p.rv, p.dv, p.cv], .agg #[.int .u8 (b 0), .int .u8 (b 1), .int .u8 (b 2), .int .u8 (b 3), .int .u8 (b 4)]] H fun r H' => r = .bool true ∧ St prog H H' [] := by
 refine .aF func4 rfl (by kernel_rfl) (m := 104) rfl fun l hn g0 g1 => ?_
 simp (disch := omega) only [↓RA, RB, simprocAttr, g0]
 refine (sR H).eNew 3 [p.rv, p.dv, p.cv] rfl rfl (by simp [((sR H).sl hp.1).cells.2.1, ((sR H).sl hp.2.1).cells.2.1, ((sR H).sl hp.2.2.2.1).cells.2.1]) c1f fun A1 H1 hS1 => ?_
 simp only [RT] at hS1
 simp (disch := omega) only [↓RA, RB, simprocAttr, g1]
 refine hS1.eNew 5 [(.int .u8 (b 0)), (.int .u8 (b 1)), (.int .u8 (b 2)), (.int .u8 (b 3)), (.int .u8 (b 4))] rfl rfl rfl c3M fun A2 H2 hS2 => ?_
 simp only [RT] at hS2
 simp (disch := omega) only [↓RA, RZ, simprocAttr]
 refine hS2.cF (a2g (hS2.gl hG)) fun H3 hS3 => ?_
 simp (disch := omega) only [↓RA, RZ, simprocAttr, hn, hS3.ae 0 rfl]
 refine hS3.cF (b9U p (hp.ab hS3)) fun H4 hS4 => ?_
 simp (disch := omega) only [↓RA, RZ, simprocAttr, hn]
 refine jM (fun h1 => ?_) (fun h1 => ?_)
 ·simp (disch := omega) only [↓RA, RZ, simprocAttr]
  refine hS4.cF (a2g (hS4.gl hG)) fun H5 hS5 => ?_
  simp (disch := omega) only [↓RA, RZ, simprocAttr, hn, tR4, h1]
  exact hS5.forget
 have hf : xF p = true := by simpa using h1
 simp (disch := omega) only [↓RA, RZ, simprocAttr, hn, hS4.ae 0 rfl, h1]
 refine iG (b4m (hS4.gl hG) p (hp.ab hS4) hk hf) ?_
 rintro r H6 ⟨o, rfl, ho, hm, hT4⟩
 have hS6 := hS4.trans hT4
 simp only [RT] at hS6
 have hS0 := hS6
 have hG2 := hS0.gl hG
 have hoe := hm.ok.organE
 have hrg := b3p b hoe
 have hf0 := Org.aH hoe
 obtain ⟨k1, k2, k3⟩ := hm.small hf
 have hok := b3m (o := o) hb k2
 simp (disch := omega) only [↓RA, RZ, simprocAttr]
 refine (sR H6).eNew 4 [(.string ⟨#[]⟩), (.slice none 0 0), (.slice none 0 0), (.slice none 0 0)] rfl rfl rfl lP fun A3 H7 hS7 => ?_
 simp only [RT] at hS7
 simp (disch := omega) only [↓RA, RB, simprocAttr, hn, h1]
 refine hS7.aa 0 rfl [(.string o.name), o.rv, o.dv, o.cv] rfl (by simp [OC, (hS7.sl ho.1).cells.2.1, (hS7.sl ho.2.2.1).cells.2.1, (hS7.sl ho.2.2.2.2.1).cells.2.1]) lP (by simp) fun H8 hS8 => ?_
 simp only [RT] at hS8
 simp (disch := omega) only [↓RA, RZ, simprocAttr, hn, hS8.ae 0 rfl, ((hS0.var 1 rfl).ab hS8.ab).ae, h1]
 have hD := b0D o (ho.ab hS8) k1 k2 k3 b hb
 generalize hrgE : vK o b = rg at hrg hok hD
 refine iG (hD) ?_
 rintro r H9 ⟨sv, rfl, hT5⟩
 have hS9 := hS8.trans hT5
 simp only [RT] at hS9
 simp (disch := omega) only [↓RA, RZ, simprocAttr]
 refine hS9.eNew 3 [(.slice none 0 0), (.int .u64 0), (.int .u64 0)] rfl rfl rfl nQ fun A4 H10 hS10 => ?_
 simp only [RT] at hS10
 simp (disch := omega) only [↓RA, RB, simprocAttr, hn, h1]
 refine hS10.aa 2 rfl [sv, (.int .u64 rg.cpl), (.int .u64 rg.off)] rfl (by simp [OC, (hS10.rd 1 rfl).cells.2.1]) nQ (by simp) fun H11 hS11 => ?_
 simp only [RT] at hS11
 simp (disch := omega) only [↓RA, RZ, simprocAttr, hn, hS11.ae 0 rfl, hS11.ae 2 rfl, h1]
 have hrl : rg.stops.length = o.dvs.length := (lZ hrg).2
 have hone : ∀ c, kY o c = true → a1I o rg c = 0 := fun c hc => by unfold a1I; rw [if_neg (by rw [hrg]; simp)]; exact (nM o c).2 hc
 have hkF : ∀ c, kY o c = true → mJ o rg c = oO o (kJ o rg [c]) := fun c hc => by unfold mJ ofF; rw [if_pos (hone c hc)]
 have hl1 : ∀ c, kY o c = true → (kJ o rg [c]).length ≤ 1000000 := fun c hc => qY hf0 rg (l := [c]) (by simp) (mI fun x hx => by rw [dB.1 hx]; exact hc)
 obtain ⟨tl, htl⟩ := a9D hf0
 have hd0 := hf0.dpos
 have hd8 := hf0.dlen
 have hky0 := hf0.keys 0 hd0
 have hc0 : kY o ((0 : Int), (iB o.dvs 0).lo) = true := (kM o _).2 ⟨by simp, by simpa using hd0, by simp, by simpa using hky0.2.1⟩
 have hge : grR o rg = uV (mJ o rg) (rS o) ((0, 0), -1) := by
  unfold grR
  rw [if_pos hrg, htl]
  refine b4h _ _ _ _ ?_
  rw [hkF _ hc0, c1e hoe (fun p hp => oD hp) (hl1 _ hc0)]
  exact (a2i hoe fun p hp => oD hp).1
 have hfu : a2f o rg = oO o (kJ o rg (iF (lX o oA))) := by unfold a2f; rw [if_pos hrg, b0K hf0 hm.wide]
 refine hS11.cF (a1f o (ho.ab hS11) rg sv ⟨hS11.aw 1 rfl (fun _ => rfl), hok⟩) fun H12 hS12 => ?_
 rw [hge, hrg]
 simp (disch := omega) only [↓RA, RZ, simprocAttr, hn, h1]
 refine hS12.eNew 2 [I 0, I 0] rfl rfl rfl lA fun A5 H13 hS13 => ?_
 simp only [RT] at hS13
 simp (disch := omega) only [↓RA, RB, simprocAttr, hn, h1]
 refine hS13.aa 3 rfl [I (uV (mJ o rg) (rS o) ((0, 0), -1)).1.1, I (uV (mJ o rg) (rS o) ((0, 0), -1)).1.2] rfl rfl lA (by simp) fun H14 hS14 => ?_
 simp only [RT] at hS14
 simp (disch := omega) only [↓RA, RZ, simprocAttr, hn, hS14.ae 0 rfl, hS14.ae 2 rfl, h1]
 refine hS14.cF (b9v (hS14.gl hG2) o (ho.ab hS14) rg sv ⟨hS14.aw 1 rfl (fun _ => rfl), hok⟩) fun H15 hS15 => ?_
 rw [hfu, hrg]
 simp (disch := omega) only [↓RA, RZ, simprocAttr, hn, c1Y, h1]
 refine hS15.eNew 2 [I 0, I 0] rfl rfl rfl lA fun A6 H16 hS16 => ?_
 simp only [RT] at hS16
 simp (disch := omega) only [↓RA, RB, simprocAttr, hn, h1]
 refine hS16.aa 4 rfl [I 0, I 0] rfl rfl lA (by simp) fun H17 hS17 => ?_
 simp only [RT] at hS17
 simp (disch := omega) only [↓RA, RZ, simprocAttr, hn, hS17.ld 0 rfl, (hS17.sl ho.2.2.1).len, h1]
 refine Wp.ak (fun n l H' => l.length = 104 ∧ get l 4 = (.bool false) ∧ get l 5 = (ptr A3 0 4) ∧ get l 6 = (ptr A4 0 3) ∧ get l 7 = (ptr A5 0 2) ∧ get l 8 = I (uV (mJ o rg) (rS o) ((0, 0), -1)).2 ∧ get l 9 = I 0 ∧ get l 10 = I (oO o (kJ o rg (iF (lX o oA)))) ∧ get l 11 = I 0 ∧ get l 12 = (ptr A6 0 2) ∧ get l 47 = o.dv ∧ get l 48 = I o.dvs.length ∧ ∃ (i : Nat), (n + i = o.dvs.length) ∧ get l 49 = I i ∧ get l 13 = I (uV (mJ o rg) ((List.range i).flatMap (rD o)) ((0, 0), -1)).2 ∧ St prog H6 H' [⟨ptr A3 0 4, 0, [(.string o.name), o.rv, o.dv, o.cv]⟩, ⟨sv, 1, rg.stops.flatMap (one u64)⟩, ⟨ptr A4 0 3, 0, [sv, (.int .u64 rg.cpl), (.int .u64 rg.off)]⟩, ⟨ptr A5 0 2, 0, [I (uV (mJ o rg) (rS o) ((0, 0), -1)).1.1, I (uV (mJ o rg) (rS o) ((0, 0), -1)).1.2]⟩, ⟨ptr A6 0 2, 0, [I (uV (mJ o rg) ((List.range i).flatMap (rD o)) ((0, 0), -1)).1.1, I (uV (mJ o rg) ((List.range i).flatMap (rD o)) ((0, 0), -1)).1.2]⟩]) o.dvs.length ?_ ?_
 ·simp (disch := omega) only [RB, RC, simprocAttr, hn]
  exact ⟨0, by omega, rfl, rfl, hS17⟩
 rintro n l H18 ⟨hn, g4, g5, g6, g7, g8, g9, nV, g11, g12, g47, g48, i, hi, g49, g13, hS18⟩
 simp (disch := omega) only [↓RA, RB, simprocAttr, hn, g48, g49]
 refine iA (fun q1 => ?_) (fun q1 => ?_)
 ·have hki := hf0.keys i (by omega)
  have hcn : (a2k o i : Int) = (iB o.dvs i).hi - (iB o.dvs i).lo + 1 := by unfold a2k; omega
  have hpre : tK o i 0 = (List.range i).flatMap (rD o) := by unfold tK; simp
  simp (disch := omega) only [↓RA, RZ, simprocAttr, hn, g47, g49, (hS18.sl ho.2.2.1).idx, (hS18.sl ho.2.2.1).ae, Dvn.cells, q1]
  refine hS18.eNew 5 [(.string ⟨#[]⟩), (.bool false), I 0, I 0, (.slice none 0 0)] rfl rfl rfl uR fun A7 H19 hS19 => ?_
  simp only [RT] at hS19
  simp (disch := omega) only [↓RA, RZ, simprocAttr, hn, q1]
  refine hS19.aa 5 rfl [(.string (iB o.dvs i).name), (.bool (iB o.dvs i).pedal), I (iB o.dvs i).lo, I (iB o.dvs i).hi, (iB o.dvs i).sv] rfl (by simp [OC, (hS19.sl (ho.2.2.2.1 (iB o.dvs i) (iD (by omega))).1).cells.2.1]) uR (by simp) fun H20 hS20 => ?_
  simp only [RT] at hS20
  simp (disch := omega) only [↓RA, RZ, simprocAttr, hn, hS20.ld 5 rfl, q1]
  refine Wp.ak (fun n l H' => l.length = 104 ∧ get l 4 = (.bool false) ∧ get l 5 = (ptr A3 0 4) ∧ get l 6 = (ptr A4 0 3) ∧ get l 7 = (ptr A5 0 2) ∧ get l 8 = I (uV (mJ o rg) (rS o) ((0, 0), -1)).2 ∧ get l 9 = I 0 ∧ get l 10 = I (oO o (kJ o rg (iF (lX o oA)))) ∧ get l 11 = I 0 ∧ get l 12 = (ptr A6 0 2) ∧ get l 14 = I i ∧ get l 15 = (ptr A7 0 5) ∧ get l 47 = o.dv ∧ get l 48 = I o.dvs.length ∧ get l 49 = I i ∧ ∃ (k : Nat), (n + k = a2k o i) ∧ get l 16 = I ((iB o.dvs i).lo + k) ∧ get l 13 = I (uV (mJ o rg) (tK o i k) ((0, 0), -1)).2 ∧ St prog H6 H' [⟨ptr A3 0 4, 0, [(.string o.name), o.rv, o.dv, o.cv]⟩, ⟨sv, 1, rg.stops.flatMap (one u64)⟩, ⟨ptr A4 0 3, 0, [sv, (.int .u64 rg.cpl), (.int .u64 rg.off)]⟩, ⟨ptr A5 0 2, 0, [I (uV (mJ o rg) (rS o) ((0, 0), -1)).1.1, I (uV (mJ o rg) (rS o) ((0, 0), -1)).1.2]⟩, ⟨ptr A6 0 2, 0, [I (uV (mJ o rg) (tK o i k) ((0, 0), -1)).1.1, I (uV (mJ o rg) (tK o i k) ((0, 0), -1)).1.2]⟩, ⟨ptr A7 0 5, 0, [(.string (iB o.dvs i).name), (.bool (iB o.dvs i).pedal), I (iB o.dvs i).lo, I (iB o.dvs i).hi, (iB o.dvs i).sv]⟩]) (a2k o i) ?_ ?_
  ·simp (disch := omega) only [RB, RC, simprocAttr, hn, g4, g5, g6, g7, g8, g9, nV, g11, g12, g47, g48, g49, g13]
   refine ⟨0, by omega, by simp, ?_⟩
   rw [hpre]
   exact ⟨rfl, hS20⟩
  rintro n l H21 ⟨hn, g4, g5, g6, g7, g8, g9, nV, g11, g12, g14, g15, g47, g48, g49, k, hk, g16, g13, hS21⟩
  simp (disch := omega) only [↓RA, RZ, simprocAttr, hn, g15, g16, hS21.ld 5 rfl]
  refine iA (fun q2 => ?_) (fun q2 => ?_)
  ·have hsu : uV (mJ o rg) (tK o i (k + 1)) ((0, 0), -1) = grS (mJ o rg) (uV (mJ o rg) (tK o i k) ((0, 0), -1)) (kAt o i k) := by rw [a4w, b1x]
   unfold grS at hsu
   have hck : kY o (kAt o i k) = true := (kM o _).2 ⟨by unfold kAt; simp, by unfold kAt; simp; omega, by unfold kAt; simp; omega, by unfold kAt; simp; omega⟩
   have hkk := hkF _ hck
   have hlk := hl1 _ hck
   simp (disch := omega) only [↓RA, RZ, simprocAttr, hn, g14, g16, qA, q2]
   refine hS21.eNew 2 [I 0, I 0] rfl rfl rfl lA fun A8 H22 hS22 => ?_
   simp only [RT] at hS22
   simp (disch := omega) only [↓RA, RZ, simprocAttr, hn, q2]
   refine hS22.aa 6 rfl [I i, I ((iB o.dvs i).lo + k)] rfl rfl lA (by simp) fun H23 hS23 => ?_
   simp only [RT] at hS23
   simp (disch := omega) only [↓RA, RZ, simprocAttr, q2]
   refine Wp.aM jZ [(0, 5)] (by kernel_rfl) (by kernel_rfl) ?_
   simp (disch := omega) only [↓RA, RZ, simprocAttr, hn, g5, g6, hS23.ae 0 rfl, hS23.ae 2 rfl, hS23.ae 6 rfl]
   refine iG (b9M o (ho.ab hS23) hoe rg sv ⟨hS23.aw 1 rfl (fun _ => rfl), hok⟩ hrl (kAt o i k) hck) ?_
   rintro r H24 ⟨hu, hT8⟩
   have hS24 := hS23.trans hT8
   simp only [RT] at hS24
   obtain ⟨uv, rfl⟩ : ∃ w, w = r := ⟨r, rfl⟩
   simp (disch := omega) only [↓RA, RZ, simprocAttr, hn]
   refine hS24.cF (a8h o (ho.ab hS24) uv (kJ o rg [kAt o i k]) hu.1 (by omega) (fun p hp => oD hp)) fun H25 hS25 => ?_
   rw [hkk] at hsu
   simp (disch := omega) only [↓RA, RZ, simprocAttr, hn, g5, g13, hS24.ae 0 rfl]
   refine iA (fun q3 => ?_) (fun q3 => ?_)
   ·simp (disch := omega) only [↓RA, RZ, simprocAttr, hn, g12, hS25.ae 6 rfl, q3]
    refine hS25.aa 4 rfl [I i, I ((iB o.dvs i).lo + k)] rfl rfl lA (by simp) fun H26 hS26 => ?_
    simp only [RT] at hS26
    simp (disch := omega) only [↓RA, RZ, simprocAttr, hn, g4, g5, g6, g7, g8, g9, nV, g11, g12, g14, g15, g47, g48, g49, g16, q3]
    rw [if_pos q3] at hsu
    refine ⟨n - 1, by omega, k + 1, by omega, by congr 1; omega, by rw [hsu], ?_⟩
    rw [hsu]
    exact hS26.pick [0, 1, 2, 3, 4, 5] (by decide) rfl
   simp (disch := omega) only [↓RA, RZ, simprocAttr, hn, g4, g5, g6, g7, g8, g9, nV, g11, g12, g14, g15, g47, g48, g49, g16, g13, q3]
   rw [if_neg q3] at hsu
   refine ⟨n - 1, by omega, k + 1, by omega, by congr 1; omega, by rw [hsu], ?_⟩
   rw [hsu]
   exact hS25.pick [0, 1, 2, 3, 4, 5] (by decide) rfl
  simp (disch := omega) only [↓RA, RZ, simprocAttr, hn, g4, g5, g6, g7, g8, g9, nV, g11, g12, g47, g48, g49, g13, q2]
  have hkk : k = a2k o i := by omega
  rw [hkk, wM] at hS21
  refine ⟨o.dvs.length - (i + 1), by omega, i + 1, by omega, by simp, ?_, ?_⟩
  ·rw [hkk, wM]
  ·exact hS21.pick [0, 1, 2, 3, 4] (by decide) rfl
 have hii : i = o.dvs.length := by omega
 have hkL : (List.range i).flatMap (rD o) = rS o := by rw [hii]; rfl
 rw [hkL] at hS18
 rw [hkL] at g13
 simp (disch := omega) only [↓RA, RC, simprocAttr, q1]
 refine Wp.aM jZ [(18, 22), (19, 22)] (by kernel_rfl) (by kernel_rfl) ?_
 simp (disch := omega) only [↓RA, RZ, simprocAttr, hn, g5, g7, g8, g9, nV, g11, g12, g13, hS18.ae 3 rfl, hS18.ae 4 rfl]
 simp (disch := omega) only [↓RA, RZ, simprocAttr, hn, g5, g6, hS18.ae 0 rfl, hS18.ae 2 rfl]
 have hkl := qO o oA
 refine iG ((b7z o (ho.ab hS18) hf0).tr) ?_
 rintro r H27 ⟨-, hT10⟩
 have hS27 := hS18.trans hT10
 simp only [RT] at hS27
 obtain ⟨kv, rfl⟩ : ∃ w, w = r := ⟨r, rfl⟩
 simp (disch := omega) only [↓RA, RZ, simprocAttr, hn]
 refine hS27.cF (c3P o (ho.ab hS27) hoe rg sv ⟨hS27.aw 1 rfl (fun _ => rfl), hok⟩ hrl kv (lX o oA) ⟨hS27.aw 5 rfl (fun _ => rfl), by omega, a6E hf0 oA⟩ (a9B hoe oA)) fun H28 hS28 => ?_
 simp (disch := omega) only [↓RA, RZ, simprocAttr, hn, g5, g6, hS27.ae 0 rfl, hS27.ae 2 rfl, tR4]
 exact hS0.forget.trans hS28.forget
end Go.Ds
