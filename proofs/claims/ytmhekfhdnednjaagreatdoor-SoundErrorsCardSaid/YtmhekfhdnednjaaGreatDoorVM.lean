/-
  A part of the proof of SoundErrors.
-/
import Derived.Test.YtmhekfhdnednjaaGreatDoorVL
import Derived.Test.YtmhekfhdnednjaaGreatDoorVJ
set_option linter.unusedVariables false
set_option linter.unusedSimpArgs false
set_option linter.defProp false
set_option linter.unusedSectionVars false
namespace Go.Ds
open Go.Proofs Go.Proofs.Tryz
variable {H : Heap}
set_option maxRecDepth 10000
set_option maxHeartbeats 1000000
def cE (b : Nat → Nat) : Nat → Nat
 | 0 => b 0
 | 1 => b 1
 | _ => b 2
theorem Sl.cS {α : Type} {n : Nat} {cel : α → List Value} {P : Program} {H H' : Heap} {v : Value} {xs : List α} (h : Sl n cel H v xs) (m : Nat) (t : TypeId) : rQ (some m) P H' t v = some (.int .i64 xs.length) := by
 have e : rQ (some m) P H' t v = rQ (some m) P H t v := by
  rcases h.rd with ⟨rfl, _⟩ | ⟨A, i, e, row, ty, rw, lo, ver, k, _, _, _, _, _, _, rfl⟩ <;> rfl
 rw [e]
 exact h.len m t
theorem Made.pos {p : Pln} {o : Org} (h : Made p o) (hf : tB p = true) : 0 < o.ranks.length ∧ o.ranks.length ≤ 3 ∧ 0 < o.dvs.length := by
 unfold tB at hf
 simp only [de, decide_eq_true_eq, dy] at hf
 obtain ⟨⟨⟨⟨⟨f1, f2⟩, f3⟩, f4⟩, f5⟩, f6⟩ := hf
 exact ⟨by rw [h.rlen]; omega, by rw [h.rlen]; omega, by rw [h.dlen]; omega⟩
theorem a1G {P : Program} {H : Heap} (m : Nat) (t : TypeId) : rQ (some m) P H t (.slice none 0 0) = some (I 0) := rfl
theorem Slx.bu {α : Type} {n : Nat} {cel : α → List Value} {P : Program} {H H' : Heap} {X : Nat → Prop} {v : Value} (h : Slx n cel H X v ([] : List α)) (m : Nat) (t : TypeId) : rQ (some m) P H' t v = some (I 0) := h.1.cS m t
theorem OrgN.cT {H0 H : Heap} {o o' : Org} (h : OrgN H0 H o o') (hk : OrgOk o) : c4O o' := fun r hr => by
 obtain ⟨q, hq, e1, e2, e3⟩ := h.rp r hr
 obtain ⟨j, hj, rfl⟩ := dW.1 hq
 have hk := hk.ranks j hj
 rw [kF _ _ hj] at hk
 rw [e1, e2, e3]
 have := hk.first
 exact ⟨hk.feet, by omega, by omega⟩
theorem a4U (hG : Glob gH H) (p : Pln) (hp : p.In H) (hk : p.Ok) (sa sb : Nat) (hsa : sa < 256) (hsb : sb < 256) (b : Nat → Nat) (hb : ∀ i, b i < 256) :
 Fn prog 4 [.agg #[p.rv, p.dv, p.cv], .agg #[.int .u8 sa, .int .u8 sb], .agg #[.int .u8 (b 0), .int .u8 (b 1), .int .u8 (b 2), .int .u8 (b 3), .int .u8 (b 4)]] H fun r H' => r = .bool true ∧ St prog H H' [] := by
 refine .bl func4 rfl (by kernel_rfl) (m := 199) rfl fun l hn g0 g1 g2 => ?_
 simp (disch := omega) only [↓RA, RB, simprocAttr, g0]
 refine (sR H).eNew 3 [p.rv, p.dv, p.cv] rfl rfl (by simp [((sR H).sl hp.1).cells.2.1, ((sR H).sl hp.2.1).cells.2.1, ((sR H).sl hp.2.2.2.1).cells.2.1]) b7X fun A1 H1 hS1 => ?_
 simp only [RT] at hS1
 simp (disch := omega) only [↓RA, RB, simprocAttr, g1]
 refine hS1.eNew 2 [(.int .u8 sa), (.int .u8 sb)] rfl rfl rfl c1n fun A2 H2 hS2 => ?_
 simp only [RT] at hS2
 simp (disch := omega) only [↓RA, RB, simprocAttr, g2]
 refine hS2.eNew 5 [(.int .u8 (b 0)), (.int .u8 (b 1)), (.int .u8 (b 2)), (.int .u8 (b 3)), (.int .u8 (b 4))] rfl rfl rfl c2c fun A3 H3 hS3 => ?_
 simp only [RT] at hS3
 simp (disch := omega) only [↓RA, RZ, simprocAttr]
 refine hS3.cF (a1H (hS3.gl hG)) fun H4 hS4 => ?_
 simp (disch := omega) only [↓RA, RZ, simprocAttr, hn, hS4.ai 0 rfl]
 refine hS4.cF (b9V p (hp.ae hS4)) fun H5 hS5 => ?_
 simp (disch := omega) only [↓RA, RZ, simprocAttr, hn]
 refine jM (fun h1 => ?_) (fun h1 => ?_)
 ·simp (disch := omega) only [↓RA, RZ, simprocAttr]
  refine hS5.cF (a1H (hS5.gl hG)) fun H6 hS6 => ?_
  simp (disch := omega) only [↓RA, RZ, simprocAttr, hn, tR4, h1]
  exact hS6.forget
 have hf : tB p = true := by simpa using h1
 simp (disch := omega) only [↓RA, RZ, simprocAttr, hn, hS5.ai 0 rfl, h1]
 refine iF (b4a (hS5.gl hG) p (hp.ae hS5) hk hf) ?_
 rintro r H7 ⟨o, rfl, ho, hm, hT4⟩
 have hS7 := hS5.trans hT4
 simp only [RT] at hS7
 have hS0 := hS7
 have hG2 := hS0.gl hG
 have hoe := hm.ok.organE
 have hf0 := Org.bm hoe
 obtain ⟨k1, k2, k3⟩ := hm.small hf
 obtain ⟨k4, k5, k6⟩ := hm.pos hf
 have hok := b1T (o := o) hb k2
 have h0b := hb 0
 have h1b := hb 1
 have h2b := hb 2
 have hcc : ∀ i, cE b i < 65536 := fun i => by unfold cE; have := hb i; split <;> omega
 have hal : (rL o (cE b)).length < 1000000000 := by rw [a4S]; omega
 have haO := a6m hf0 (cE b)
 have w1 := yZ (b 0) (by omega) (by omega)
 have w2 := yZ (b 1) (by omega) (by omega)
 have w3 := yZ (b 2) (by omega) (by omega)
 simp (disch := omega) only [↓RA, RZ, simprocAttr]
 refine (sR H7).eNew 4 [(.string ⟨#[]⟩), (.slice none 0 0), (.slice none 0 0), (.slice none 0 0)] rfl rfl rfl mD fun A4 H8 hS8 => ?_
 simp only [RT] at hS8
 simp (disch := omega) only [↓RA, RB, simprocAttr, hn, h1]
 refine hS8.ab 0 rfl [(.string o.name), o.rv, o.dv, o.cv] rfl (by simp [OC, (hS8.sl ho.1).cells.2.1, (hS8.sl ho.2.2.1).cells.2.1, (hS8.sl ho.2.2.2.2.1).cells.2.1]) mD (by simp) fun H9 hS9 => ?_
 simp only [RT] at hS9
 simp (disch := omega) only [↓RA, RB, simprocAttr, h1]
 refine Wp.aQ jV [(3, 0), (5, 0), (6, 0), (8, 0), (9, 0), (11, 0), (12, 0)] (by kernel_rfl) (by kernel_rfl) ?_
 simp (disch := omega) only [↓RA, RZ, simprocAttr, hn, hS9.ai 0 rfl, ((hS0.var 2 rfl).ae hS9.ae).ai]
 have hD := a9o o (ho.ae hS9) k1 k2 k3 b hb
 generalize a0g o b = rg at hok hD
 refine iF (hD) ?_
 rintro r H10 ⟨sv, rfl, hT5⟩
 have hS10 := hS9.trans hT5
 simp only [RT] at hS10
 simp (disch := omega) only [↓RA, RZ, simprocAttr, hn, hS10.ai 0 rfl, ((hS0.var 2 rfl).ae hS10.ae).ld, a9r, w1, w2, w3]
 have hP := a8X o (ho.ae hS10) hf0 (cE b) hcc
 generalize rL o (cE b) = ks at hal haO hP
 refine iF (hP.tr) ?_
 rintro r H11 ⟨-, hT6⟩
 have hS11 := hS10.trans hT6
 simp only [RT] at hS11
 obtain ⟨kv, rfl⟩ : ∃ w, w = r := ⟨r, rfl⟩
 simp (disch := omega) only [↓RA, RZ, simprocAttr]
 refine hS11.eNew 3 [(.slice none 0 0), (.int .u64 0), (.int .u64 0)] rfl rfl rfl pG fun A5 H12 hS12 => ?_
 simp only [RT] at hS12
 simp (disch := omega) only [↓RA, RB, simprocAttr, hn]
 refine hS12.ab 3 rfl [sv, (.int .u64 rg.cpl), (.int .u64 rg.off)] rfl (by simp [OC, (hS12.rd 1 rfl).cells.2.1]) pG (by simp) fun H13 hS13 => ?_
 simp only [RT] at hS13
 simp (disch := omega) only [↓RA, RZ, simprocAttr, hn, hS9.ai 0 rfl, hS13.ai 0 rfl, ((hS0.var 2 rfl).ae hS9.ae).ld, ((hS0.var 1 rfl).ae hS13.ae).ai, w1, w2, w3]
 have hp1 := hS13
 refine iF (a8E o (ho.ae hS13) k4 (by omega) k6 (by omega) (fun j hj => by have := k3 j hj; omega) (by omega) sa sb hsa hsb) ?_
 rintro r H14 ⟨o2, rfl, hN, hT7⟩
 have hS14 := hS13.trans hT7
 simp only [RT] at hS14
 have hp2 := hS14
 obtain ⟨X, hBX, hS15⟩ := hS14.aB (os := [⟨ptr A4 0 4, 0, _⟩, ⟨sv, 1, _⟩, ⟨kv, 2, _⟩, ⟨ptr A5 0 3, 0, _⟩])
 simp (disch := omega) only [↓RA, RB, simprocAttr, hn]
 refine hS15.ab 0 rfl [(.string o2.name), o2.rv, o2.dv, o2.cv] rfl (by simp [OC, (hN.rs.1.cells).2.1, (hN.ds.1.cells).2.1, (hN.cs.1.cells).2.1]) mD (by simp) fun H15 hS16 => ?_
 simp only [RT] at hS16
 simp (disch := omega) only [↓RA, RZ, simprocAttr, hn]
 have ho2 : o2.In H15 := hN.cY ho hp1 hp2 hBX hS16
 have hS1 := hp2.aj hBX hS16
 have hG3 := hS1.gl hG2
 have hrI : rg.In H15 sv := ⟨hS1.aw 1 rfl (fun _ => rfl), hok⟩
 have hkI : Ks H15 kv ks := ⟨hS1.aw 2 rfl (fun _ => rfl), hal, haO⟩
 have hvO := hS1.var 0 rfl
 have hvR := hS1.var 3 rfl
 simp (disch := omega) only [↓RA, RZ, simprocAttr, hn, (hvO.ae (sR H15).ae).ai]
 refine (sR H15).cF (yL o2 (ho2.ae (sR H15))) fun H16 hS17 => ?_
 simp (disch := omega) only [↓RA, RB, simprocAttr, hn]
 refine sS (fun l H' => l.length = 199 ∧ get l 6 = (.bool false) ∧ get l 7 = (ptr A4 0 4) ∧ get l 8 = (ptr A5 0 3) ∧ get l 9 = kv ∧ get l 10 = I (mZ o2 rg) ∧ St prog H15 H' []) ?_ ?_
 ·rintro l H17 ⟨hn, g6, g7, g8, g9, mB, hS18⟩
  simp (disch := omega) only [↓RA, RB, simprocAttr, hn, mB]
  refine sS (fun l H' => l.length = 199 ∧ get l 6 = (.bool false) ∧ get l 7 = (ptr A4 0 4) ∧ get l 8 = (ptr A5 0 3) ∧ get l 9 = kv ∧ get l 11 = I (mZ o2 rg) ∧ get l 10 = I (rkE o2 rg ks) ∧ St prog H15 H' []) ?_ ?_
  ·rintro l H18 ⟨hn, g6, g7, g8, g9, g11, mB, hS19⟩
   by_cases hw : rkE o2 rg ks = 0
   ·have hz3 := (nJ (a1S hw).1).1
    have hrk := hN.cT hm.ok
    obtain ⟨hb1, hb2⟩ := b3G hz3 rg (kI ks)
    have hse : wT o2 rg ks = kU o2 rg (kI ks) := by unfold wT; rw [if_pos hw]
    have hal := a6r o2 sv rg ks
    rw [hw] at mB
    simp (disch := omega) only [↓RA, RZ, simprocAttr, hn, g7, g8, g9, (hvO.ae hS19.ae).ai, (hvR.ae hS19.ae).ai]
    refine iF (sJ (hS19.gl hG3) o2 (ho2.ae hS19) rg sv (hrI.ae hS19) kv ks (hkI.ae hS19)) ?_
    rintro r H19 ⟨va, rfl, ha, hT9⟩
    have hS20 := hS19.trans hT9
    simp only [RT] at hS20
    rw [hw]
    simp (disch := omega) only [↓RA, RZ, simprocAttr, hn, g7, g8, g9, (hvO.ae hS20.ae).ai, (hvR.ae hS20.ae).ai]
    refine iF (nT (hS20.gl hG3) o2 (ho2.ae hS20) rg sv (hrI.ae hS20) kv ks (hkI.ae hS20)) ?_
    rintro r H20 ⟨vb, rfl, hb5, hT10⟩
    have hS21 := hS20.trans hT10
    simp only [RT] at hS21
    rw [hw]
    simp (disch := omega) only [↓RA, RZ, simprocAttr, hn, g7, g8, g9, (hvO.ae hS21.ae).ai, (hvR.ae hS21.ae).ai]
    refine iF (b3e (hS21.gl hG3) o2 (ho2.ae hS21) hrk rg sv (hrI.ae hS21) kv ks (hkI.ae hS21) hw (kU o2 rg (kI ks)) hse hb2 hb1) ?_
    rintro r H21 ⟨hv, rfl, hT11⟩
    have hS22 := hS21.trans hT11
    simp only [RT] at hS22
    simp (disch := omega) only [↓RA, RZ, simprocAttr, hn, g7, g8, g9, (hvO.ae hS22.ae).ai, (hvR.ae hS22.ae).ai]
    refine iF (b1h (hS22.gl hG3) o2 (ho2.ae hS22) rg sv (hrI.ae hS22) rg sv (hrI.ae hS22) kv ks (hkI.ae hS22)) ?_
    rintro r H22 ⟨vc, vd, rfl, hc, hd, hT12⟩
    have hS23 := hS22.trans hT12
    simp only [RT] at hS23
    rw [hal, hw]
    simp (disch := omega) only [↓RA, RZ, simprocAttr, hn, mB, tR4]
    exact (hS0.forget.trans hS1.forget).forget.trans hS23.forget
   have hal := a6r o2 sv rg ks
   simp (disch := omega) only [↓RA, RZ, simprocAttr, hn, g7, g8, g9, (hvO.ae hS19.ae).ai, (hvR.ae hS19.ae).ai]
   refine iF (sJ (hS19.gl hG3) o2 (ho2.ae hS19) rg sv (hrI.ae hS19) kv ks (hkI.ae hS19)) ?_
   rintro r H23 ⟨va, rfl, ha, hT13⟩
   have hS24 := hS19.trans hT13
   simp only [RT] at hS24
   simp (disch := omega) only [↓RA, RZ, simprocAttr, hn, g7, g8, g9, (hvO.ae hS24.ae).ai, (hvR.ae hS24.ae).ai]
   refine iF (nT (hS24.gl hG3) o2 (ho2.ae hS24) rg sv (hrI.ae hS24) kv ks (hkI.ae hS24)) ?_
   rintro r H24 ⟨vb, rfl, hb5, hT14⟩
   have hS25 := hS24.trans hT14
   simp only [RT] at hS25
   simp (disch := omega) only [↓RA, RZ, simprocAttr, hn, g7, g8, g9, (hvO.ae hS25.ae).ai, (hvR.ae hS25.ae).ai]
   refine hS25.cF (a9S (hS25.gl hG3) o2 (ho2.ae hS25) rg sv (hrI.ae hS25) kv ks (hkI.ae hS25) hw) fun H25 hS26 => ?_
   simp (disch := omega) only [↓RA, RZ, simprocAttr, hn, g7, g8, g9, (hvO.ae hS26.ae).ai, (hvR.ae hS26.ae).ai]
   refine iF (b1h (hS26.gl hG3) o2 (ho2.ae hS26) rg sv (hrI.ae hS26) rg sv (hrI.ae hS26) kv ks (hkI.ae hS26)) ?_
   rintro r H26 ⟨vc, vd, rfl, hc, hd, hT16⟩
   have hS27 := hS26.trans hT16
   simp only [RT] at hS27
   rw [hal] at hc hd ⊢
   have eA : a6P o2 rg ks = [] := by unfold a6P; rw [if_neg hw]
   have eB : wT o2 rg ks = [] := by unfold wT; rw [if_neg hw]
   have eC : a7f o2 (rkE o2 rg ks) rg rg ks = [] := by unfold a7f; rw [if_neg hw]
   rw [eA] at ha
   rw [eB] at hb5
   rw [eC] at hc hd
   have h01 : ∀ m t, rQ (some m) prog H26 t va = some (I 0) := fun m t => ha.bu m t
   have h02 : ∀ m t, rQ (some m) prog H26 t vb = some (I 0) := fun m t => hb5.bu m t
   have h03 : ∀ m t, rQ (some m) prog H26 t vc = some (I 0) := fun m t => hc.bu m t
   have h04 : ∀ m t, rQ (some m) prog H26 t vd = some (I 0) := fun m t => hd.bu m t
   simp (disch := omega) only [↓RA, RZ, simprocAttr, hn, mB, hw, h01, h02, h03, h04, a1G]
   have hco : vP o2 ((-1 : Int), (0 : Int)) = 10 := by unfold vP; rw [if_pos (Or.inl (by decide))]
   simp (disch := omega) only [↓RA, RZ, simprocAttr, c2I]
   refine hS27.eNew 2 [I 0, I 0] rfl rfl rfl rC fun A6 H27 hS28 => ?_
   simp only [RT] at hS28
   simp (disch := omega) only [↓RA, RB, simprocAttr, hn]
   refine hS28.ab 0 rfl [I (-1), I 0] rfl rfl rC (by simp) fun H28 hS29 => ?_
   simp only [RT] at hS29
   simp (disch := omega) only [↓RA, RZ, simprocAttr, hn, g7, g8, (hvO.ae hS29.ae).ai, (hvR.ae hS29.ae).ai, hS29.ai 0 rfl]
   refine iF (c4w o2 (ho2.ae hS29) rg sv (hrI.ae hS29) ((-1 : Int), (0 : Int))) ?_
   rintro r H29 ⟨vl, rfl, hl, hT17⟩
   have hS30 := hS29.trans hT17
   simp only [RT] at hS30
   simp (disch := omega) only [↓RA, RZ, simprocAttr, hn, g7, g8, (hvO.ae hS30.ae).ai, (hvR.ae hS30.ae).ai, hS30.ai 0 rfl]
   refine iF (b3P o2 (ho2.ae hS30) rg sv (hrI.ae hS30) ((-1 : Int), (0 : Int))) ?_
   rintro r H30 ⟨vm, rfl, hm9, hT18⟩
   have hS31 := hS30.trans hT18
   simp only [RT] at hS31
   simp (disch := omega) only [↓RA, RZ, simprocAttr, hn, g7, g8, g9, (hvO.ae hS31.ae).ai, (hvR.ae hS31.ae).ai, hS31.ai 0 rfl]
   refine hS31.cF (b3Z o2 (ho2.ae hS31) rg sv (hrI.ae hS31) kv ks (hkI.ae hS31) ((-1 : Int), (0 : Int)) hw) fun H31 hS32 => ?_
   simp (disch := omega) only [↓RA, RB, simprocAttr, hn, g11]
   refine iA (fun h7 => ?_) (fun h7 => ?_)
   ·have e1 : xA o2 rg ((-1 : Int), (0 : Int)) = 10 := by unfold xA; rw [if_neg (by rw [h7]; simp), hco]
    have eL : ofF o2 rg ((-1 : Int), (0 : Int)) = [] := by unfold ofF; rw [if_neg (by rw [e1]; decide)]
    have eM : a9j o2 rg ((-1 : Int), (0 : Int)) = [] := by unfold a9j; rw [if_neg (by rw [e1]; decide)]
    rw [eL] at hl
    rw [eM] at hm9
    have h05 : ∀ m t, rQ (some m) prog H31 t vl = some (I 0) := fun m t => hl.bu m t
    have h06 : ∀ m t, rQ (some m) prog H31 t vm = some (I 0) := fun m t => hm9.bu m t
    simp (disch := omega) only [↓RA, RZ, simprocAttr, hn, mB, a1G, h7, e1, h05, h06]
    simp (disch := omega) only [RB, RC, simprocAttr, hn, tR4]
    exact (hS0.forget.trans hS1.forget).forget.trans hS32.forget
   have e1 : xA o2 rg ((-1 : Int), (0 : Int)) = mZ o2 rg := by unfold xA; rw [if_pos h7]
   have eL : ofF o2 rg ((-1 : Int), (0 : Int)) = [] := by unfold ofF; rw [if_neg (by rw [e1]; exact h7)]
   have eM : a9j o2 rg ((-1 : Int), (0 : Int)) = [] := by unfold a9j; rw [if_neg (by rw [e1]; exact h7)]
   rw [eL] at hl
   rw [eM] at hm9
   have h05 : ∀ m t, rQ (some m) prog H31 t vl = some (I 0) := fun m t => hl.bu m t
   have h06 : ∀ m t, rQ (some m) prog H31 t vm = some (I 0) := fun m t => hm9.bu m t
   simp (disch := omega) only [↓RA, RZ, simprocAttr, hn, g11, mB, a1G, h7, e1, h05, h06]
   simp (disch := omega) only [RB, RC, simprocAttr, hn, tR4]
   exact (hS0.forget.trans hS1.forget).forget.trans hS32.forget
  refine iA (fun h6 => ?_) (fun h6 => ?_)
  ·have e6 : rkE o2 rg ks = qQ o2 ks := by unfold rkE; rw [if_neg (by rw [h6]; simp)]
   simp (disch := omega) only [↓RA, RZ, simprocAttr, hn, g7, g9, (hvO.ae hS18.ae).ai, iT, h6]
   refine hS18.cF (a6H o2 (ho2.ae hS18) kv ks (hkI.ae hS18)) fun H32 hS33 => ?_
   simp (disch := omega) only [↓RA, RZ, simprocAttr, hn, g6, g7, g8, g9, h6]
   exact ⟨by rw [e6], hS33⟩
  have e6 : rkE o2 rg ks = mZ o2 rg := by unfold rkE; rw [if_pos h6]
  simp (disch := omega) only [↓RA, RZ, simprocAttr, hn, g6, g7, g8, g9, mB, iT, h6]
  exact ⟨by rw [e6], hS18⟩
 refine iA (fun h5 => ?_) (fun h5 => ?_)
 ·simp (disch := omega) only [↓RA, RZ, simprocAttr, hn, (hvO.ae hS17.ae).ai, (hvR.ae hS17.ae).ai, iT, h5]
  refine hS17.cF (b6l o2 (ho2.ae hS17) rg sv (hrI.ae hS17)) fun H33 hS34 => ?_
  simp (disch := omega) only [↓RA, RZ, simprocAttr, hn, h5]
  exact hS34
 have e5 : mZ o2 rg = organE o2 := by unfold mZ; rw [if_pos h5]
 simp (disch := omega) only [↓RA, RZ, simprocAttr, hn, iT, h5]
 exact ⟨by rw [e5], hS17⟩
end Go.Ds
