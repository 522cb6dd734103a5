/-
  A part of the proof of SoundKeys.
-/
import Derived.Test.YtnokpoinacbjiaaGreatDoorVL
import Derived.Test.YtnokpoinacbjiaaGreatDoorVE
import Derived.Test.YtnokpoinacbjiaaGreatDoorVJ
set_option linter.unusedVariables false
set_option linter.unusedSimpArgs false
set_option linter.defProp false
set_option linter.unusedSectionVars false
namespace Go.Ds
open Go.Proofs Go.Proofs.Tryz
variable {H : Heap}
set_option maxRecDepth 10000
set_option maxHeartbeats 1000000
theorem b0O (v w : Value) (xs ys : List Ct) (hv : Sl 2 jF H v xs) (hw : Sl 2 jF H w ys) (hl : xs.length < 1000000000) (hl2 : ys.length < 1000000000) :
 Fn prog 16 [v, w] H fun r H' => r = .bool (decide (xs = ys)) ∧ St prog H H' [] := by
 refine .aE func16 rfl (by kernel_rfl) (m := 26) rfl fun l hn g0 g1 => ?_
 simp (disch := omega) only [↓RA, RZ, simprocAttr, hn, g0, g1, ((sR H).sl hv).len, ((sR H).sl hw).len]
 refine iA (fun h1 => ?_) (fun h1 => ?_)
 ·simp (disch := omega) only [↓RA, RZ, simprocAttr, hn, c1y, h1]
  exact ⟨by rw [decide_eq_false]; intro e; rw [e] at h1; exact h1 rfl, (sR H)⟩
 simp (disch := omega) only [↓RA, RZ, simprocAttr, hn, g0, ((sR H).sl hv).len, h1]
 refine Wp.ak (fun n l H' => l.length = 26 ∧ get l 0 = v ∧ get l 1 = w ∧ get l 12 = I xs.length ∧ ∃ (j : Nat), (n + j = xs.length ∧ ∀ q, q < j → iB xs q = iB ys q) ∧ get l 13 = I j ∧ St prog H H' []) xs.length ?_ ?_
 ·simp (disch := omega) only [RB, RC, simprocAttr, hn, g0, g1]
  exact ⟨0, ⟨by omega, fun q hq => absurd hq (dJ _)⟩, rfl, (sR H)⟩
 rintro n l H1 ⟨hn, g0, g1, g12, j, ⟨hj,hz⟩, g13, hS1⟩
 simp (disch := omega) only [↓RA, RB, simprocAttr, hn, g12, g13]
 refine iA (fun q1 => ?_) (fun q1 => ?_)
 ·simp (disch := omega) only [↓RA, RZ, simprocAttr, hn, g13, q1]
  refine Wp.drw jZ (by kernel_rfl) ?_
  simp (disch := omega) only [↓RA, RZ, simprocAttr, hn, g0, g1, (hS1.sl hv).idx, (hS1.sl hv).ag, jF, (hS1.sl hw).idx, (hS1.sl hw).ag]
  refine iA (fun q2 => ?_) (fun q2 => ?_)
  ·simp (disch := omega) only [↓RA, RZ, simprocAttr, hn, c1y, q2]
   refine ⟨?_, hS1⟩
   rw [decide_eq_false]
   intro e
   rw [e] at q2
   exact q2 ⟨rfl, rfl⟩
  have q3 := dA.1 q2
  simp (disch := omega) only [↓RA, RZ, simprocAttr, hn, g0, g1, g12, g13, q2]
  exact ⟨n - 1, by omega, j + 1, ⟨by omega, fun q hq => by rcases dp.1 hq with e | e; (· exact hz q e); (· rw [e]; exact fI q3.1 q3.2)⟩, by simp, hS1⟩
 simp (disch := omega) only [↓RA, RZ, simprocAttr, hn, c1y, q1]
 exact ⟨by rw [decide_eq_true]; exact xN (by omega) fun q hq => hz q (by omega), hS1⟩
theorem b6l (a b c : Int) : iL prog (part 70 #[I a, I b, I c] 0) = some (.agg #[I a, I b]) := by kernel_rfl
theorem c0E (a b c : Int) : iL prog (part 3 #[I a, I b, I c] 2) = some (I c) := by kernel_rfl
theorem c3J (x y : Ct × Int) : iL prog (Op.equalIn (9999 + 1) 94 (.agg [I x.1.1, I x.1.2, I x.2].toArray) (.agg [I y.1.1, I y.1.2, I y.2].toArray)) = some (decide (x = y)) := by
 have h52 : iL prog (Op.equalIn (9997 + 2) 70 (.agg [I x.1.1, I x.1.2].toArray) (.agg [I y.1.1, I y.1.2].toArray)) = some ((List.range [I x.1.1, I x.1.2].length).all fun j => eqC ([I x.1.1, I x.1.2].getD j undef) ([I y.1.1, I y.1.2].getD j undef)) :=
  zP 9997 (by kernel_rfl) (by kernel_rfl) (by kernel_rfl) rfl (by kernel_rfl)
 rw [a7L (fs := uL prog 94) (by kernel_rfl) (by kernel_rfl) (fun f => if f.offset = 0 then decide (x.1 = y.1) else decide (x.2 = y.2))]
 ·congr 1
  have hfl : (uL prog 94).map (·.offset) = [0, 2] := by kernel_rfl
  have e : (uL prog 94).all (fun f => if f.offset = 0 then decide (x.1 = y.1) else decide (x.2 = y.2)) = ((uL prog 94).map (·.offset)).all fun n => if n = 0 then decide (x.1 = y.1) else decide (x.2 = y.2) := by
   rw [List.all_map]
   rfl
  rw [e, hfl, dY]
  simp [Prod.ext_iff]
 ·intro f hf
  have hfs : (uL prog 94).map (fun f => (f.name != "_", f.type, f.offset)) = [(true, 70, 0), (true, 3, 2)] := by kernel_rfl
  have hm : (f.name != "_", f.type, f.offset) ∈ [(true, 70, 0), (true, 3, 2)] := by
   rw [← hfs]
   exact fN hf
  simp only [dR, ek, or_false, ga] at hm
  rcases hm with ⟨h1, h2, h3⟩ | ⟨h1, h2, h3⟩
  ·refine ⟨by simpa using h1, ?_⟩
   rw [h2, h3, if_pos rfl, iK, b6l, cX, iK, b6l, cX]
   refine h52.trans ?_
   congr 1
   show ((x.1.1 == y.1.1) && ((x.1.2 == y.1.2) && true)) = _
   rw [dY]
   first | done | simp [Prod.ext_iff]
  ·refine ⟨by simpa using h1, ?_⟩
   rw [h2, h3, if_neg (by decide), iK, c0E, cX, iK, c0E, cX]
   exact eq1 (P := prog) (t := 3) 9998 (by kernel_rfl)
theorem c4z (x y : Ct × Int) (t2 : TypeId) (cx cy : Bool) : kK prog .neq 94 t2 cx cy (.agg #[I x.1.1, I x.1.2, I x.2]) (.agg #[I y.1.1, I y.1.2, I y.2]) = some (.bool (decide (¬ x = y))) := by
 have h := a7a (t2 := t2) (cx := cx) (cy := cy) (decide (x = y)) (by kernel_rfl) (by rfl) (by rfl) (c3J x y)
 rw [h]
 simp
theorem b0X (v w : Value) (xs ys : List (Ct × Int)) (hv : Sl 3 a7g H v xs) (hw : Sl 3 a7g H w ys) (hl : xs.length < 1000000000) (hl2 : ys.length < 1000000000) :
 Fn prog 40 [v, w] H fun r H' => r = .bool (decide (xs = ys)) ∧ St prog H H' [] := by
 refine .aE func40 rfl (by kernel_rfl) (m := 26) rfl fun l hn g0 g1 => ?_
 simp (disch := omega) only [↓RA, RZ, simprocAttr, hn, g0, g1, ((sR H).sl hv).len, ((sR H).sl hw).len]
 refine iA (fun h1 => ?_) (fun h1 => ?_)
 ·simp (disch := omega) only [↓RA, RZ, simprocAttr, hn, c2A, h1]
  exact ⟨by rw [decide_eq_false]; intro e; rw [e] at h1; exact h1 rfl, (sR H)⟩
 simp (disch := omega) only [↓RA, RZ, simprocAttr, hn, g0, ((sR H).sl hv).len, h1]
 refine Wp.ak (fun n l H' => l.length = 26 ∧ get l 0 = v ∧ get l 1 = w ∧ get l 12 = I xs.length ∧ ∃ (j : Nat), (n + j = xs.length ∧ ∀ q, q < j → iB xs q = iB ys q) ∧ get l 13 = I j ∧ St prog H H' []) xs.length ?_ ?_
 ·simp (disch := omega) only [RB, RC, simprocAttr, hn, g0, g1]
  exact ⟨0, ⟨by omega, fun q hq => absurd hq (dJ _)⟩, rfl, (sR H)⟩
 rintro n l H1 ⟨hn, g0, g1, g12, j, ⟨hj,hz⟩, g13, hS1⟩
 simp (disch := omega) only [↓RA, RB, simprocAttr, hn, g12, g13]
 refine iA (fun q1 => ?_) (fun q1 => ?_)
 ·have hne := fun t2 cx cy => c4z (iB xs j) (iB ys j) t2 cx cy
  simp (disch := omega) only [↓RA, RZ, simprocAttr, hn, g13, q1]
  refine Wp.drw jZ (by kernel_rfl) ?_
  simp (disch := omega) only [↓RA, RZ, simprocAttr, hn, g0, g1, (hS1.sl hv).idx, (hS1.sl hv).ag, a7g, (hS1.sl hw).idx, (hS1.sl hw).ag, hne]
  refine iA (fun q2 => ?_) (fun q2 => ?_)
  ·simp (disch := omega) only [↓RA, RZ, simprocAttr, hn, c2A, q2]
   refine ⟨?_, hS1⟩
   rw [decide_eq_false]
   intro e
   rw [e] at q2
   exact q2 rfl
  have q3 := dA.1 q2
  simp (disch := omega) only [↓RA, RZ, simprocAttr, hn, g0, g1, g12, g13, q2]
  exact ⟨n - 1, by omega, j + 1, ⟨by omega, fun q hq => by rcases dp.1 hq with e | e; (· exact hz q e); (· rw [e]; exact q3)⟩, by simp, hS1⟩
 simp (disch := omega) only [↓RA, RZ, simprocAttr, hn, c2A, q1]
 exact ⟨by rw [decide_eq_true]; exact xN (by omega) fun q hq => hz q (by omega), hS1⟩
theorem a3Y (o : Org) (r : Reg) (l : List Ct) : kG o r l = dd (b0V ((c2P b0V o r l).flatMap (c1t b0V o r))) := by
 rw [← b6J]
 rfl
section
variable (w1 w2 d1 g1 s1 d2 g2 s2 w3 w4 w5 : Value)
theorem a3m (off : Nat) (h : off < 2) : rkE (exE w1 w2 d1 g1 s1 d2 g2 s2 w3 w4 w5) ⟨[1, 1], 1, off⟩ [iP [40], (0, 0)] = 0 := by
 unfold rkE
 rw [b8S _ _ _ _ _ _ _ _ _ _ _ off h, if_neg (by decide), b4N]
theorem b4L : b2D (exE w1 w2 d1 g1 s1 d2 g2 s2 w3 w4 w5) ⟨[1, 1], 1, 0⟩ [iP [40], (0, 0)] = [(0, 40), (1, 40)] := by
 unfold b2D
 rw [a3m _ _ _ _ _ _ _ _ _ _ _ 0 (by decide), if_pos rfl, c0x]
theorem b6D : a3I (exE w1 w2 d1 g1 s1 d2 g2 s2 w3 w4 w5) ⟨[1, 1], 1, 0⟩ [iP [40], (0, 0)] = [(0, 4), (1, 16)] := by
 unfold a3I
 rw [a3m _ _ _ _ _ _ _ _ _ _ _ 0 (by decide), if_pos rfl, a3Y]
 kernel_rfl
theorem b4V : a3I (exE w1 w2 d1 g1 s1 d2 g2 s2 w3 w4 w5) ⟨[1, 1], 1, 1⟩ [iP [40], (0, 0)] = [(1, 16)] := by
 unfold a3I
 rw [a3m _ _ _ _ _ _ _ _ _ _ _ 1 (by decide), if_pos rfl, a3Y]
 kernel_rfl
end
theorem a5i (hG : Glob gH H) : Fn prog 41 [] H fun r H' => ∃ o : Org, r = .agg #[.string o.name, o.rv, o.dv, o.cv] ∧ (∃ w1 w2 d1 g1 s1 d2 g2 s2 w3 w4 w5, o = exE w1 w2 d1 g1 s1 d2 g2 s2 w3 w4 w5) ∧ o.In H' ∧ St prog H H' [] := by
 obtain ⟨h1, v, H1, h2, w1, w2, d1, g1, s1, d2, g2, s2, w3, w4, w5, h3, h4, h5⟩ := a8v hG
 exact ⟨h1, v, H1, h2, _, h3, ⟨w1, w2, d1, g1, s1, d2, g2, s2, w3, w4, w5, rfl⟩, h4, h5⟩
theorem a2T (hG : Glob gH H) : Fn prog 10 [] H fun r H' => r = .bool true ∧ St prog H H' [] := by
 refine .cQ func10 rfl (by kernel_rfl) (m := 80) rfl fun l hn => ?_
 simp (disch := omega) only [↓RA, RZ, simprocAttr]
 refine iG (a5i ((sR H).gl hG)) ?_
 rintro r H1 ⟨o, rfl, ⟨v1, v2, v3, v4, v5, v6, v7, v8, v9, v10, v11, hoe⟩, ho, hT1⟩
 have hS1 := (sR H).trans hT1
 simp only [RT] at hS1
 have q1 : rkE o ⟨[1, 1], 1, 0⟩ [iP [40], (0, 0)] = 0 := by subst hoe; exact a3m _ _ _ _ _ _ _ _ _ _ _ 0 (by decide)
 have q2 : rkE o ⟨[1, 1], 1, 1⟩ [iP [40], (0, 0)] = 0 := by subst hoe; exact a3m _ _ _ _ _ _ _ _ _ _ _ 1 (by decide)
 have q3 : b2D o ⟨[1, 1], 1, 0⟩ [iP [40], (0, 0)] = [(0, 40), (1, 40)] := by subst hoe; exact b4L _ _ _ _ _ _ _ _ _ _ _
 have q4 : a3I o ⟨[1, 1], 1, 0⟩ [iP [40], (0, 0)] = [(0, 4), (1, 16)] := by subst hoe; exact b6D _ _ _ _ _ _ _ _ _ _ _
 have q5 : a3I o ⟨[1, 1], 1, 1⟩ [iP [40], (0, 0)] = [(1, 16)] := by subst hoe; exact b4V _ _ _ _ _ _ _ _ _ _ _
 have q6 : o.ranks.length = 2 ∧ (iB o.ranks 1).num = 8 ∧ (iB o.ranks 1).den = 1 ∧ (iB o.ranks 1).first = 36 := by subst hoe; exact ⟨rfl, rfl, rfl, rfl⟩
 clear hoe
 have hG1 : ∀ z ∈ [(40 : Int)], isN z := fun z hz => by rw [dw.1 hz]; exact ⟨by decide, by decide⟩
 have hS0 := hS1
 have hG2 := hS0.gl hG
 simp (disch := omega) only [↓RA, RZ, simprocAttr]
 refine (sR H1).eNew 4 [(.string ⟨#[]⟩), (.slice none 0 0), (.slice none 0 0), (.slice none 0 0)] rfl rfl rfl mB fun A1 H2 hS2 => ?_
 simp only [RT] at hS2
 simp (disch := omega) only [↓RA, RB, simprocAttr, hn]
 refine hS2.ab 0 rfl [(.string o.name), o.rv, o.dv, o.cv] rfl (by simp [OC, (hS2.sl ho.1).cells.2.1, (hS2.sl ho.2.2.1).cells.2.1, (hS2.sl ho.2.2.2.2.1).cells.2.1]) mB (by simp) fun H3 hS3 => ?_
 simp only [RT] at hS3
 simp (disch := omega) only [↓RA, RB, simprocAttr]
 refine hS3.ai [I 40] a3c a7i rfl rfl (by simp [Value.cells]) rfl rfl (by decide) (by decide) fun w1 H4 hS4 => ?_
 simp only [RT] at hS4
 simp (disch := omega) only [↓RA, RZ, simprocAttr, hn]
 refine hS4.cF (xP [40] hG1 w1 (hS4.aw 1 rfl (fun _ => rfl)) (by simp)) fun H5 hS5 => ?_
 have hKo : ∀ x ∈ ([iP [40], (0, 0)] : List Nt), Nt.Ok x := by
  intro x hx
  simp only [dR, ek, or_false] at hx
  rcases hx with rfl | rfl <;> exact ⟨by decide, by decide⟩
 have hRo : (⟨[1, 1], 1, 0⟩ : Reg).Ok := ⟨by decide, by decide, by decide, by decide⟩
 have hRo1 : (⟨[1, 1], 1, 1⟩ : Reg).Ok := ⟨by decide, by decide, by decide, by decide⟩
 simp (disch := omega) only [↓RA, RZ, simprocAttr, hn]
 refine hS5.eNew 2 [(.int .u64 0), (.int .u64 0)] rfl rfl rfl kW fun A2 H6 hS6 => ?_
 simp only [RT] at hS6
 simp (disch := omega) only [↓RA, RB, simprocAttr, hn]
 refine hS6.ab 2 rfl [(.int .u64 (iP [40]).1), (.int .u64 (iP [40]).2)] rfl rfl kW (by simp) fun H7 hS7 => ?_
 simp only [RT] at hS7
 simp (disch := omega) only [↓RA, RZ, simprocAttr, hn, hS7.ag 2 rfl, b5g]
 refine hS7.ai [(.int .u64 (iP [40]).1), (.int .u64 (iP [40]).2), (.int .u64 0), (.int .u64 0)] b0L c3l rfl rfl (by simp [Value.cells]) rfl rfl (by decide) (by decide) fun w2 H8 hS8 => ?_
 simp only [RT] at hS8
 simp (disch := omega) only [↓RA, RB, simprocAttr, hn]
 refine hS8.ai [(.int .u64 1), (.int .u64 1)] c2T c4h rfl rfl (by simp [Value.cells]) rfl rfl (by decide) (by decide) fun w3 H9 hS9 => ?_
 simp only [RT] at hS9
 simp (disch := omega) only [↓RA, RZ, simprocAttr, hn, b5u (hS9.rd 4 rfl).cells]
 refine hS9.eNew 3 [(.slice none 0 0), (.int .u64 0), (.int .u64 0)] rfl rfl rfl pN fun A3 H10 hS10 => ?_
 simp only [RT] at hS10
 simp (disch := omega) only [↓RA, RB, simprocAttr, hn]
 refine hS10.ab 5 rfl [w3, (.int .u64 1), (.int .u64 0)] rfl (by simp [OC, (hS10.rd 4 rfl).cells.2.1]) pN (by simp) fun H11 hS11 => ?_
 simp only [RT] at hS11
 simp (disch := omega) only [↓RA, RZ, simprocAttr, hn, hS11.ag 0 rfl, hS11.ag 5 rfl]
 have hS2 := hS11
 refine iG (a5r (hS11.gl hG2) o (ho.ae hS11) ⟨[1, 1], 1, 0⟩ w3 ⟨hS11.aw 4 rfl (fun _ => rfl), hRo⟩ w2 [iP [40], (0, 0)] ⟨hS11.aw 3 rfl (fun _ => rfl), by simp, hKo⟩) ?_
 rintro r H12 ⟨cv, rfl, hcx, hT3⟩
 have hS12 := hS11.trans hT3
 simp only [RT] at hS12
 rw [q3] at hcx
 rw [q1]
 have hcx2 := hcx.step (hS2.aG (H' := H12))
 obtain ⟨X, hBX, hS13⟩ := hS12.az (os := [⟨ptr A1 0 4, 0, _⟩, ⟨w1, 1, _⟩, ⟨ptr A2 0 2, 0, _⟩, ⟨w2, 2, _⟩, ⟨w3, 1, _⟩, ⟨ptr A3 0 3, 0, _⟩])
 simp (disch := omega) only [↓RA, RZ, simprocAttr, hn, hS13.ag 0 rfl, hS13.ag 5 rfl]
 have hS3 := hS13
 refine iG (a1a ((hS12.aa hBX hS13).gl hG2) o (ho.ae (hS12.aa hBX hS13)) ⟨[1, 1], 1, 0⟩ w3 ⟨hS13.aw 4 rfl (fun _ => rfl), hRo⟩ w2 [iP [40], (0, 0)] ⟨hS13.aw 3 rfl (fun _ => rfl), by simp, hKo⟩) ?_
 rintro r H13 ⟨pv, rfl, hpx, hT4⟩
 have hS14 := hS13.trans hT4
 simp only [RT] at hS14
 rw [q4] at hpx
 rw [q1]
 have hcx3 := hcx2.step (hS14.kept hBX)
 have hpx2 := hpx.step (hS3.aG (H' := H13))
 obtain ⟨Y, hBY, hS15⟩ := hS14.az (os := [⟨ptr A1 0 4, 0, _⟩, ⟨w1, 1, _⟩, ⟨ptr A2 0 2, 0, _⟩, ⟨w2, 2, _⟩, ⟨w3, 1, _⟩, ⟨ptr A3 0 3, 0, _⟩])
 simp (disch := omega) only [↓RA, RZ, simprocAttr, hn]
 refine hS15.ab 5 rfl [(.int .u64 1)] rfl rfl b4g (by simp) fun H14 hS16 => ?_
 simp only [RT] at hS16
 simp (disch := omega) only [↓RA, RZ, simprocAttr, hn, hS16.ag 0 rfl, hS16.ag 5 rfl]
 refine iG (b0R ((hS12.aa hBX (hS14.aa hBY hS16)).gl hG2) o (ho.ae (hS12.aa hBX (hS14.aa hBY hS16))) ⟨[1, 1], 1, 1⟩ w3 ⟨hS16.aw 4 rfl (fun _ => rfl), hRo1⟩ w2 [iP [40], (0, 0)] ⟨hS16.aw 3 rfl (fun _ => rfl), by simp, hKo⟩ q2 1 16 q5 (by rw [q6.1]; decide) (by decide) ⟨q6.2.1, q6.2.2.1, by rw [q6.2.2.2]; decide, by rw [q6.2.2.2]; decide⟩) ?_
 rintro r H15 ⟨dv, rfl, hT5⟩
 have hS17 := hS16.trans hT5
 simp only [RT] at hS17
 have hcx4 := hcx3.step (hS17.kept hBY)
 have hpx4 := hpx2.step (hS17.kept hBY)
 simp (disch := omega) only [↓RA, RZ, simprocAttr, hn, qY]
 refine hS17.ai [I 0, I 40, I 1, I 40] pV a0x rfl rfl (by simp [Value.cells]) rfl rfl (by decide) (by decide) fun w4 H16 hS18 => ?_
 simp only [RT] at hS18
 simp (disch := omega) only [↓RA, RZ, simprocAttr, hn]
 refine hS18.cF (b0O cv w4 [(0, 40), (1, 40)] [(0, 40), (1, 40)] (hcx3.step (hS18.kept hBY)).1 (hS18.aw 7 rfl jG) (by simp) (by simp)) fun H17 hS19 => ?_
 rw [decide_eq_true rfl]
 simp (disch := omega) only [↓RA, RZ, simprocAttr, hn, zT]
 refine hS19.ai [I 0, I 4, I 1, I 16] a3l b9u rfl rfl (by simp [Value.cells]) rfl rfl (by decide) (by decide) fun w5 H18 hS20 => ?_
 simp only [RT] at hS20
 simp (disch := omega) only [↓RA, RZ, simprocAttr, hn]
 refine hS20.cF (yG pv w5 [(0, 4), (1, 16)] [(0, 4), (1, 16)] (hpx2.step (hS20.kept hBY)).1 (hS20.aw 8 rfl jG) (by simp) (by simp)) fun H19 hS21 => ?_
 rw [decide_eq_true rfl]
 simp (disch := omega) only [↓RA, RZ, simprocAttr, hn, zT, a7e]
 refine hS21.ai [I 1, I 16, I 52] c1N c5M rfl rfl (by simp [Value.cells]) rfl rfl (by decide) (by decide) fun w6 H20 hS22 => ?_
 simp only [RT] at hS22
 simp (disch := omega) only [↓RA, RZ, simprocAttr, hn]
 have hhe : [a6q o (1, 16)] = [((1, 16), (52 : Int))] := by
  unfold a6q
  rw [show ((1, 16) : Ct).1.toNat = 1 from rfl, q6.2.2.2]
  rfl
 refine hS22.cF (b0X dv w6 [a6q o (1, 16)] [((1, 16), 52)] (hS22.aw 6 rfl (fun _ => rfl)) (hS22.aw 9 rfl (fun _ => rfl)) (by simp) (by simp)) fun H21 hS23 => ?_
 rw [decide_eq_true hhe]
 simp (disch := omega) only [↓RA, RZ, simprocAttr, hn, c6G]
 exact hS0.forget.trans (hS12.aa hBX (hS14.aa hBY hS23)).forget
def a3x (b : Nat → Nat) : Nat → Nat
 | 0 => b 2 ||| b 4 * 256
 | 1 => b 0
 | _ => b 1
theorem c5c (a b : Nat) (ha : a < 65536) (hb : b < 65536) : IntKind.wrap .u16 ((BitVec.ofInt (IntKind.bits .u16) (a : Int) ||| BitVec.ofInt (IntKind.bits .u16) (b : Int)).toNat : Int) = ((a ||| b : Nat) : Int) := by
 have h1 : ∀ n : Nat, n < 65536 → (BitVec.ofInt 16 (n : Int)).toNat = n := fun n h => by
  rw [fJ, gQ]
  exact fP (by simpa using h)
 have e : (BitVec.ofInt (IntKind.bits .u16) (a : Int) ||| BitVec.ofInt (IntKind.bits .u16) (b : Int)).toNat = a ||| b := by
  show (BitVec.ofInt 16 (a : Int) ||| BitVec.ofInt 16 (b : Int)).toNat = a ||| b
  rw [BitVec.toNat_or, h1 a ha, h1 b hb]
 rw [e]
 have : a ||| b < 65536 := Nat.or_lt_two_pow (n := 16) ha hb
 exact qS _ (by omega) (by omega)
theorem b0h (hG : Glob gH H) (p : Pln) (hp : p.In H) (hk : p.Ok) (b : Nat → Nat) (hb : ∀ i, b i < 256) (c : Ct) :
 Fn prog 7 [.agg #[p.rv, p.dv, p.cv], .agg #[.int .u8 (b 0), .int .u8 (b 1), .int .u8 (b 2), .int .u8 (b 3), .int .u8 (b 4)], .agg #[I c.1, I c.2]] H fun r H' => r = .bool true ∧ St prog H H' [] := by
 refine .bd func7 rfl (by kernel_rfl) (m := 139) rfl fun l hn g0 g1 g2 => ?_
 simp (disch := omega) only [↓RA, RB, simprocAttr, g0]
 refine (sR H).eNew 3 [p.rv, p.dv, p.cv] rfl rfl (by simp [((sR H).sl hp.1).cells.2.1, ((sR H).sl hp.2.1).cells.2.1, ((sR H).sl hp.2.2.2.1).cells.2.1]) b8P fun A1 H1 hS1 => ?_
 simp only [RT] at hS1
 simp (disch := omega) only [↓RA, RB, simprocAttr, g1]
 refine hS1.eNew 5 [(.int .u8 (b 0)), (.int .u8 (b 1)), (.int .u8 (b 2)), (.int .u8 (b 3)), (.int .u8 (b 4))] rfl rfl rfl c1V fun A2 H2 hS2 => ?_
 simp only [RT] at hS2
 simp (disch := omega) only [↓RA, RB, simprocAttr, g2]
 refine hS2.eNew 2 [I c.1, I c.2] rfl rfl rfl mC fun A3 H3 hS3 => ?_
 simp only [RT] at hS3
 simp (disch := omega) only [↓RA, RZ, simprocAttr]
 refine hS3.cF (a2T (hS3.gl hG)) fun H4 hS4 => ?_
 simp (disch := omega) only [↓RA, RZ, simprocAttr, hn, hS4.ag 0 rfl]
 refine hS4.cF (c0s p (hp.ae hS4)) fun H5 hS5 => ?_
 simp (disch := omega) only [↓RA, RZ, simprocAttr, hn]
 refine jI (fun h1 => ?_) (fun h1 => ?_)
 ·simp (disch := omega) only [↓RA, RZ, simprocAttr]
  refine hS5.cF (a2T (hS5.gl hG)) fun H6 hS6 => ?_
  simp (disch := omega) only [↓RA, RZ, simprocAttr, hn, tR7, h1]
  exact hS6.forget
 have hf : wK p = true := by simpa using h1
 simp (disch := omega) only [↓RA, RZ, simprocAttr, hn, hS5.ag 0 rfl, h1]
 refine iG (b2T (hS5.gl hG) p (hp.ae hS5) hk hf) ?_
 rintro r H7 ⟨o, rfl, ho, hm, hT4⟩
 have hS7 := hS5.trans hT4
 simp only [RT] at hS7
 have hS0 := hS7
 have hG2 := hS0.gl hG
 have hoe := hm.ok.organE
 have hrg := b2G b hoe
 have hf0 := Org.aO hoe
 obtain ⟨k1, k2, k3⟩ := hm.small hf
 have hok := b3z (o := o) hb k2
 have h2 := hb 2
 have h4 := hb 4
 have h0b := hb 0
 have h1b := hb 1
 have hor : b 2 ||| b 4 * 256 < 65536 := Nat.or_lt_two_pow (n := 16) (by omega) (by omega)
 have hc : ∀ i, a3x b i < 65536 := fun i => by
  unfold a3x
  split
  ·exact hor
  ·omega
  ·omega
 have hkl := tS o (a3x b)
 have hkO := a8e hf0 (a3x b)
 have hkE := b0x hoe (a3x b)
 simp (disch := omega) only [↓RA, RZ, simprocAttr]
 refine (sR H7).eNew 4 [(.string ⟨#[]⟩), (.slice none 0 0), (.slice none 0 0), (.slice none 0 0)] rfl rfl rfl mB fun A4 H8 hS8 => ?_
 simp only [RT] at hS8
 simp (disch := omega) only [↓RA, RB, simprocAttr, hn, h1]
 refine hS8.ab 0 rfl [(.string o.name), o.rv, o.dv, o.cv] rfl (by simp [OC, (hS8.sl ho.1).cells.2.1, (hS8.sl ho.2.2.1).cells.2.1, (hS8.sl ho.2.2.2.2.1).cells.2.1]) mB (by simp) fun H9 hS9 => ?_
 simp only [RT] at hS9
 simp (disch := omega) only [↓RA, RB, simprocAttr, h1]
 refine Wp.aP jZ [(3, 0), (5, 0), (6, 0), (8, 0), (9, 0), (13, 0), (14, 0), (16, 0), (17, 0)] (by kernel_rfl) (by kernel_rfl) ?_
 simp (disch := omega) only [↓RA, RZ, simprocAttr, hn, hS9.ag 0 rfl, ((hS0.var 1 rfl).ae hS9.ae).ag]
 have hD := a9Y o (ho.ae hS9) k1 k2 k3 b hb
 generalize vD o b = rg at hrg hok hD
 refine iG (hD) ?_
 rintro r H10 ⟨sv, rfl, hT5⟩
 have hS10 := hS9.trans hT5
 simp only [RT] at hS10
 have w1 := qS (b 2) (by omega) (by omega)
 have w2 := qS (b 4) (by omega) (by omega)
 have w3 := qS (b 0) (by omega) (by omega)
 have w4 := qS (b 1) (by omega) (by omega)
 have w5 : IntKind.wrap .u16 ((b 4 : Int) * 2 ^ min 8 (IntKind.bits .u16)) = ((b 4 * 256 : Nat) : Int) := qS ((b 4 * 256 : Nat) : Int) (by omega) (by omega)
 have w6 := c5c (b 2) (b 4 * 256) (by omega) (by omega)
 simp (disch := omega) only [↓RA, RZ, simprocAttr, hn, hS10.ag 0 rfl, ((hS0.var 1 rfl).ae hS10.ae).ld, b0G, w1, w2, w3, w4, w5, w6]
 have hP := b0c o (ho.ae hS10) hf0 (a3x b) hc
 have e0 : ((a3x b 0 : Nat) : Int) = ((b 2 ||| b 4 * 256 : Nat) : Int) := rfl
 have e1 : ((a3x b 1 : Nat) : Int) = (b 0 : Int) := rfl
 have e2 : ((a3x b 2 : Nat) : Int) = (b 1 : Int) := rfl
 rw [e0, e1, e2] at hP
 generalize pQ o (a3x b) = ks at hkl hkO hkE hP
 refine iG (hP.tr) ?_
 rintro r H11 ⟨-, hT6⟩
 have hS11 := hS10.trans hT6
 simp only [RT] at hS11
 obtain ⟨kv, rfl⟩ : ∃ w, w = r := ⟨r, rfl⟩
 simp (disch := omega) only [↓RA, RZ, simprocAttr]
 refine hS11.eNew 3 [(.slice none 0 0), (.int .u64 0), (.int .u64 0)] rfl rfl rfl pN fun A5 H12 hS12 => ?_
 simp only [RT] at hS12
 simp (disch := omega) only [↓RA, RB, simprocAttr, hn]
 refine hS12.ab 3 rfl [sv, (.int .u64 rg.cpl), (.int .u64 rg.off)] rfl (by simp [OC, (hS12.rd 1 rfl).cells.2.1]) pN (by simp) fun H13 hS13 => ?_
 simp only [RT] at hS13
 simp (disch := omega) only [↓RA, RZ, simprocAttr, hn, hS9.ag 0 rfl, hS13.ag 0 rfl, ((hS0.var 1 rfl).ae hS9.ae).ld, hS13.ag 3 rfl, ((hS0.var 2 rfl).ae hS13.ae).ag, w1, w2, w3, w4]
 have hrk : rkE o rg ks = 0 := by unfold rkE; rw [if_neg (by rw [hrg]; simp)]; exact hkE
 have hrl : rg.stops.length = o.dvs.length := (pJ hrg).2
 have hplc := oB hkO hkE
 have hpll := pK hkE
 have hone : a2D o rg c = oY o c := by unfold a2D; rw [if_neg (by rw [hrg]; simp)]
 have hadd : a6K o rg ks c = oY o c := by unfold a6K; rw [if_neg (by rw [hrk]; simp)]
 have hSa := hS13
 refine iG (c5k o (ho.ae hS13) rg sv ⟨hS13.aw 1 rfl (fun _ => rfl), hok⟩ c) ?_
 rintro r H14 ⟨av, rfl, ha0, hT7⟩
 have hS14 := hS13.trans hT7
 simp only [RT] at hS14
 rw [hone]
 have ha1 := ha0.step (hSa.aG (H' := H14))
 obtain ⟨X1, hBX1, hS15⟩ := hS14.az (os := [⟨ptr A4 0 4, 0, _⟩, ⟨sv, 1, _⟩, ⟨kv, 2, _⟩, ⟨ptr A5 0 3, 0, _⟩])
 simp (disch := omega) only [↓RA, RZ, simprocAttr, hn, hS15.ag 0 rfl, hS15.ag 3 rfl, ((hS0.var 2 rfl).ae (hS14.aa hBX1 hS15).ae).ag]
 have hSd := hS15
 refine iG (b3u o (ho.ae (hS14.aa hBX1 hS15)) rg sv ⟨hS15.aw 1 rfl (fun _ => rfl), hok⟩ c) ?_
 rintro r H15 ⟨dv, rfl, hd0, hT8⟩
 have hS16 := hS15.trans hT8
 simp only [RT] at hS16
 rw [hone]
 have ha2 := ha1.step (hS16.kept hBX1)
 have hd1 := hd0.step (hSd.aG (H' := H15))
 obtain ⟨X2, hBX2, hS17⟩ := hS16.az (os := [⟨ptr A4 0 4, 0, _⟩, ⟨sv, 1, _⟩, ⟨kv, 2, _⟩, ⟨ptr A5 0 3, 0, _⟩])
 simp (disch := omega) only [↓RA, RZ, simprocAttr, hn, hS17.ag 0 rfl, hS17.ag 3 rfl, ((hS0.var 2 rfl).ae (hS14.aa hBX1 (hS16.aa hBX2 hS17)).ae).ag]
 have hSg := hS17
 refine iG (b6G ((hS14.aa hBX1 (hS16.aa hBX2 hS17)).gl hG2) o (ho.ae (hS14.aa hBX1 (hS16.aa hBX2 hS17))) (by omega) rg sv ⟨hS17.aw 1 rfl (fun _ => rfl), hok⟩ kv ks ⟨hS17.aw 2 rfl (fun _ => rfl), by omega, hkO⟩ c) ?_
 rintro r H16 ⟨gv, rfl, hg0, hT9⟩
 have hS18 := hS17.trans hT9
 simp only [RT] at hS18
 rw [hadd]
 have ha3 := ha2.step (hS18.kept hBX2)
 have hd2 := hd1.step (hS18.kept hBX2)
 have hg1 := hg0.step (hSg.aG (H' := H16))
 obtain ⟨X3, hBX3, hS19⟩ := hS18.az (os := [⟨ptr A4 0 4, 0, _⟩, ⟨sv, 1, _⟩, ⟨kv, 2, _⟩, ⟨ptr A5 0 3, 0, _⟩])
 simp (disch := omega) only [↓RA, RZ, simprocAttr, hn, hS19.ag 0 rfl, ((hS0.var 2 rfl).ae (hS14.aa hBX1 (hS16.aa hBX2 (hS18.aa hBX3 hS19))).ae).ag]
 refine hS19.cF (a5F o (ho.ae (hS14.aa hBX1 (hS16.aa hBX2 (hS18.aa hBX3 hS19)))) c) fun H17 hS20 => ?_
 have ha4 := ha3.step (hS20.kept hBX3)
 have hd3 := hd2.step (hS20.kept hBX3)
 have hg2 := hg1.step (hS20.kept hBX3)
 simp (disch := omega) only [↓RA, RB, simprocAttr, hn]
 refine iA (fun hE => ?_) (fun hE => ?_)
 ·have hoF : ofF o rg c = [] := by unfold ofF; rw [if_neg (by rw [hone]; exact hE)]
  have hdF : a9I o rg c = [] := by unfold a9I; rw [if_neg (by rw [hone]; exact hE)]
  have hgF : adF o rg ks c = [] := by unfold adF; rw [if_neg (by rw [hadd]; exact hE)]
  rw [hoF] at ha4
  rw [hdF] at hd3
  rw [hgF] at hg2
  simp (disch := omega) only [↓RA, RZ, simprocAttr, hn, hE]
  simp (disch := omega) only [↓RA, RZ, simprocAttr, hn, ha4.1.len, hd3.1.len, hg2.1.len, tR7, hE]
  exact hS0.forget.trans (hS14.aa hBX1 (hS16.aa hBX2 (hS18.aa hBX3 hS20))).forget
 have h3 := dA.1 hE
 have hcc := (oE o c).1 h3
 have hoF : ofF o rg c = kG o rg [c] := by unfold ofF; rw [if_pos (by rw [hone]; exact h3)]
 have hdF : a9I o rg c = qU o rg [c] := by unfold a9I; rw [if_pos (by rw [hone]; exact h3)]
 have hgF : adF o rg ks c = wL (kG o rg (iF ks ++ [c])) (kG o rg (iF ks)) := by unfold adF; rw [if_pos (by rw [hadd]; exact h3)]
 rw [hoF] at ha3
 rw [hdF] at hd2
 rw [hgF] at hg1
 have hdd : dd (pA (pB o rg c)) = qU o rg [c] := by rw [b1w hoe hcc]; unfold qU; rw [dz, eF, dj]
 have hcl : ∀ x ∈ [c], lA o x = true := fun x hx => by rw [dw.1 hx]; exact hcc
 have hl1 := sG hf0 rg (l := [c]) (by simp) (nS hcl)
 have hl2 := a9v hoe rg hcc
 rw [hdd] at hl2
 have hwO := a7M hf0 hkl hkO hcc
 have hwE := c3C hoe hkO hkE hcc
 have hws := a9Q hf0 hkl hcc rg
 have hwl := a0y ks c
 have hplw := oB hwO hwE
 have hplwl := pK hwE
 have hl3 := sG hf0 rg hplwl (nS hplw)
 rw [hws] at hl3
 have hl4 := sG hf0 rg hpll (nS hplc)
 have hl5 := a8l (kG o rg (iF ks ++ [c])) (kG o rg (iF ks))
 simp (disch := omega) only [↓RA, RZ, simprocAttr, h3]
 refine Wp.aP jZ [(28, 33), (29, 33), (34, 25), (34, 33), (35, 25), (35, 33)] (by kernel_rfl) (by kernel_rfl) ?_
 simp (disch := omega) only [↓RA, RZ, simprocAttr, hn]
 simp (disch := omega) only [↓RA, RZ, simprocAttr, hn, hS20.ag 0 rfl, hS20.ag 3 rfl, ((hS0.var 2 rfl).ae (hS14.aa hBX1 (hS16.aa hBX2 (hS18.aa hBX3 hS20))).ae).ag]
 refine iG (b9P o (ho.ae (hS14.aa hBX1 (hS16.aa hBX2 (hS18.aa hBX3 hS20)))) hoe rg sv ⟨hS20.aw 1 rfl (fun _ => rfl), hok⟩ hrl c hcc) ?_
 rintro r H18 ⟨hu, hT11⟩
 have hS21 := hS20.trans hT11
 simp only [RT] at hS21
 obtain ⟨uv, rfl⟩ : ∃ w, w = r := ⟨r, rfl⟩
 simp (disch := omega) only [↓RA, RZ, simprocAttr, hn]
 refine hS21.cF (yG av uv (kG o rg [c]) (kG o rg [c]) (ha3.step (hS21.kept hBX3)).1 hu.1 (by omega) (by omega)) fun H19 hS22 => ?_
 rw [decide_eq_true rfl]
 simp (disch := omega) only [↓RA, RZ, simprocAttr, hn, hS22.ag 0 rfl, hS22.ag 3 rfl, ((hS0.var 2 rfl).ae (hS14.aa hBX1 (hS16.aa hBX2 (hS18.aa hBX3 hS22))).ae).ag]
 refine iG (a2a o (ho.ae (hS14.aa hBX1 (hS16.aa hBX2 (hS18.aa hBX3 hS22)))) hoe rg sv ⟨hS22.aw 1 rfl (fun _ => rfl), hok⟩ hrl c hcc) ?_
 rintro r H20 ⟨hw, hT13⟩
 have hS23 := hS22.trans hT13
 simp only [RT] at hS23
 obtain ⟨wv, rfl⟩ : ∃ w, w = r := ⟨r, rfl⟩
 rw [hdd] at hw
 simp (disch := omega) only [↓RA, RZ, simprocAttr, hn]
 refine hS23.cF (yG dv wv (qU o rg [c]) (qU o rg [c]) (hd2.step (hS23.kept hBX3)).1 hw.1 (by omega) (by omega)) fun H21 hS24 => ?_
 rw [decide_eq_true rfl]
 simp (disch := omega) only [↓RA, RZ, simprocAttr, hn, hS24.ag 0 rfl, hS24.ag 3 rfl, ((hS0.var 2 rfl).ae (hS14.aa hBX1 (hS16.aa hBX2 (hS18.aa hBX3 hS24))).ae).ag]
 refine iG ((b3S o hf0 kv ks ⟨hS24.aw 2 rfl (fun _ => rfl), by omega, hkO⟩ hkl c hcc).tr) ?_
 rintro r H22 ⟨-, hT15⟩
 have hS25 := hS24.trans hT15
 simp only [RT] at hS25
 obtain ⟨kw, rfl⟩ : ∃ w, w = r := ⟨r, rfl⟩
 simp (disch := omega) only [↓RA, RZ, simprocAttr, hn]
 have hSp := hS25
 refine iG (rY o (ho.ae (hS14.aa hBX1 (hS16.aa hBX2 (hS18.aa hBX3 hS25)))) hoe rg sv ⟨hS25.aw 1 rfl (fun _ => rfl), hok⟩ hrl kw (uG ks c) ⟨hS25.aw 4 rfl (fun _ => rfl), by omega, hwO⟩ hwE) ?_
 rintro r H23 ⟨hp0, hT16⟩
 have hS26 := hS25.trans hT16
 simp only [RT] at hS26
 obtain ⟨pv, rfl⟩ : ∃ w, w = r := ⟨r, rfl⟩
 rw [hws] at hp0
 have hg2b := hg1.step (hS26.kept hBX3)
 have hp1 := hp0.step (hSp.aG (H' := H23))
 obtain ⟨X4, hBX4, hS27⟩ := hS26.az (os := [⟨ptr A4 0 4, 0, _⟩, ⟨sv, 1, _⟩, ⟨kv, 2, _⟩, ⟨ptr A5 0 3, 0, _⟩, ⟨kw, 2, _⟩])
 simp (disch := omega) only [↓RA, RZ, simprocAttr, hn, hS27.ag 0 rfl, hS27.ag 3 rfl]
 have hSq := hS27
 refine iG (rY o (ho.ae (hS14.aa hBX1 (hS16.aa hBX2 (hS18.aa hBX3 (hS26.aa hBX4 hS27))))) hoe rg sv ⟨hS27.aw 1 rfl (fun _ => rfl), hok⟩ hrl kv ks ⟨hS27.aw 2 rfl (fun _ => rfl), by omega, hkO⟩ hkE) ?_
 rintro r H24 ⟨hq0, hT17⟩
 have hS28 := hS27.trans hT17
 simp only [RT] at hS28
 obtain ⟨qv, rfl⟩ : ∃ w, w = r := ⟨r, rfl⟩
 have hg3 := hg2b.step (hS28.kept hBX4)
 have hp2 := hp1.step (hS28.kept hBX4)
 have hq1 := hq0.step (hSq.aG (H' := H24))
 obtain ⟨X5, hBX5, hS29⟩ := hS28.az (os := [⟨ptr A4 0 4, 0, _⟩, ⟨sv, 1, _⟩, ⟨kv, 2, _⟩, ⟨ptr A5 0 3, 0, _⟩, ⟨kw, 2, _⟩])
 simp (disch := omega) only [↓RA, RZ, simprocAttr, hn]
 refine iG (a5n pv qv (kG o rg (iF ks ++ [c])) (kG o rg (iF ks)) (hp2.step (hS29.kept hBX5)).1 (hq1.step (hS29.kept hBX5)).1 (by omega) (by omega)) ?_
 rintro r H25 ⟨hz, hT18⟩
 have hS30 := hS29.trans hT18
 simp only [RT] at hS30
 obtain ⟨zv, rfl⟩ : ∃ w, w = r := ⟨r, rfl⟩
 simp (disch := omega) only [↓RA, RZ, simprocAttr, hn]
 refine hS30.cF (yG gv zv (wL (kG o rg (iF ks ++ [c])) (kG o rg (iF ks))) (wL (kG o rg (iF ks ++ [c])) (kG o rg (iF ks))) (hg3.step (hS30.kept hBX5)).1 hz.1 (by omega) (by omega)) fun H26 hS31 => ?_
 rw [decide_eq_true rfl]
 simp (disch := omega) only [↓RA, RZ, simprocAttr, hn, hS25.ag 0 rfl, hS25.ag 3 rfl, hS24.ag 0 rfl, hS24.ag 3 rfl, tR7]
 exact hS0.forget.trans (hS14.aa hBX1 (hS16.aa hBX2 (hS18.aa hBX3 (hS26.aa hBX4 (hS28.aa hBX5 hS31))))).forget
end Go.Ds
