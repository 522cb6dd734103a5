/-
  A part of the proof of SilenceErrors.
-/
import Derived.Test.YtmhekfhdnednjaaGreatDoorVD
import Derived.Test.YtmhekfhdnednjaaGreatDoorVB
set_option linter.unusedVariables false
set_option linter.unusedSimpArgs false
set_option linter.defProp false
set_option linter.unusedSectionVars false
namespace Go.Ds
open Go.Proofs Go.Proofs.Tryz
variable {H : Heap}
set_option maxRecDepth 10000
set_option maxHeartbeats 1000000
theorem a5o (o : Org) (cp : Nat) (l : List Ct) (i : Nat) (h : i < l.length) : nY o cp (l.take (i + 1)) = stepF o cp false (iA l i) (nY o cp (l.take i)) := by
 unfold nY
 rw [kF l i h, gr]
 rfl
theorem qF (o : Org) (cp : Nat) (l : List Ct) : Que o (nY o cp l) := by
 unfold nY
 have : ∀ (l : List Ct) (q : List Ct), Que o q → Que o (l.foldl (fun q c => stepF o cp false c q) q) := by
  intro l
  induction l with
  | nil => intro q h; exact h
  | cons c l ih => intro q h; exact ih _ (h.stepF cp false c)
 exact this l [] (Que.nil o)
theorem a1T : jA (.map none) = true := rfl
theorem a5w (o : Org) (ho : o.In H) (hf : o.Fine) (r : Reg) (sv : Value) (hr : r.In H sv) (fv : Value) (first : List Ct) (hfi : Sl 2 kB H fv first) (hfl : first.length ≤ 1024) (hfo : ∀ c ∈ first, sC o c = true) :
 Fn prog 60 [.agg #[.string o.name, o.rv, o.dv, o.cv], .agg #[sv, .int .u64 r.cpl, .int .u64 r.off], fv] H fun rr H' => Slx 2 kB H' (fun B => H.length ≤ B) rr (tC o r first) ∧ St prog H H' [] := by
 refine .bN func60 rfl (by kernel_rfl) (m := 56) rfl fun l hn g0 g1 g2 => ?_
 simp (disch := omega) only [↓RA, RB, simprocAttr, g0]
 refine (sR H).eNew 4 [(.string o.name), o.rv, o.dv, o.cv] rfl rfl (by simp [OC, ((sR H).sl ho.1).cells.2.1, ((sR H).sl ho.2.2.1).cells.2.1, ((sR H).sl ho.2.2.2.2.1).cells.2.1]) lV fun A1 H1 hS1 => ?_
 simp only [RT] at hS1
 simp (disch := omega) only [↓RA, RB, simprocAttr, g1]
 refine hS1.eNew 3 [sv, (.int .u64 r.cpl), (.int .u64 r.off)] rfl rfl (by simp [OC, (hS1.sl hr.1).cells.2.1]) lN fun A2 H2 hS2 => ?_
 simp only [RT] at hS2
 simp (disch := omega) only [↓RA, RB, simprocAttr]
 refine hS2.bP a6i fun M1 H3 hS3 => ?_
 simp only [RT] at hS3
 simp (disch := omega) only [↓RA, RZ, simprocAttr, a1T]
 refine hS3.eNew 1 [(.map none)] rfl rfl rfl b6d fun A3 H4 hS4 => ?_
 simp only [RT] at hS4
 simp (disch := omega) only [↓RA, RB, simprocAttr, hn]
 refine hS4.aa 3 rfl [(.map (some M1))] rfl rfl b6d (by simp) fun H5 hS5 => ?_
 simp only [RT] at hS5
 simp (disch := omega) only [↓RA, RZ, simprocAttr]
 refine hS5.eNew 1 [(.slice none 0 0)] rfl rfl rfl b7r fun A4 H6 hS6 => ?_
 simp only [RT] at hS6
 simp (disch := omega) only [↓RA, RZ, simprocAttr, hn, g2, (hS6.sl hfi).len]
 have hS7 := hS6.nil 1
 simp only [RT] at hS7
 have hS8 := hS7.nil 1
 simp only [RT] at hS8
 refine Wp.al (fun n l H' => l.length = 56 ∧ get l 4 = (ptr A2 0 3) ∧ get l 6 = (.slice none 0 0) ∧ get l 8 = (ptr A4 0 1) ∧ get l 10 = (.func (.func 111) #[] #[(ptr A1 0 4), (ptr A2 0 3), (ptr A3 0 1), (ptr A4 0 1)]) ∧ get l 16 = fv ∧ get l 17 = I first.length ∧ ∃ (i : Nat) (kvs : List (Ct × Bool)) (qv ov : Value), (n + i = first.length ∧ ∀ t, vW kvs t = true ↔ t ∈ nY o r.cpl (first.take i)) ∧ get l 18 = I i ∧ get l 9 = ov ∧ St prog H H' [⟨ptr A1 0 4, 0, [(.string o.name), o.rv, o.dv, o.cv]⟩, ⟨ptr A2 0 3, 0, [sv, (.int .u64 r.cpl), (.int .u64 r.off)]⟩, ⟨.map (some M1), 0, KC kvs⟩, ⟨ptr A3 0 1, 0, [(.map (some M1))]⟩, ⟨ptr A4 0 1, 0, [qv]⟩, ⟨qv, 2, pr (nY o r.cpl (first.take i))⟩, ⟨ov, 2, pr ((first.take i).filter fun c => !r.off.testBit c.1.toNat)⟩]) first.length ?_ ?_
 ·simp (disch := omega) only [RB, RC, simprocAttr, hn]
  refine ⟨0, [], .slice none 0 0, .slice none 0 0, ⟨by omega, fun t => ?_⟩, rfl, rfl, hS8⟩
  simp [vW, pJ, nY]
 rintro n l H7 ⟨hn, g4, g6, g8, yR, g16, g17, i, kvs, qv, ov, ⟨hi,hk⟩, g18, g9, hS9⟩
 simp (disch := omega) only [↓RA, RB, simprocAttr, hn, g17, g18]
 refine gZ (fun q1 => ?_) (fun q1 => ?_)
 ·have hci := (tA o _).1 (hfo _ (iD (xs := first) (j := i) (by omega)))
  have hqu := qF o r.cpl (first.take i)
  have hqs := a5o o r.cpl first i (by omega)
  have hql := (qF o r.cpl (first.take (i + 1))).len hf
  simp (disch := omega) only [↓RA, RZ, simprocAttr, hn, g16, g18, (hS9.sl hfi).idx, (hS9.sl hfi).ae, kB, q1]
  refine hS9.eNew 2 [I 0, I 0] rfl rfl rfl qQ fun A5 H8 hS10 => ?_
  simp only [RT] at hS10
  simp (disch := omega) only [↓RA, RZ, simprocAttr, hn, q1]
  refine hS10.aa 7 rfl [I (iA first i).1, I (iA first i).2] rfl rfl qQ (by simp) fun H9 hS11 => ?_
  simp only [RT] at hS11
  simp (disch := omega) only [↓RA, RZ, simprocAttr, hn, yR, hS11.ae 7 rfl, q1]
  have hM1 := hS11.pick (os' := [⟨.map (some M1), 0, _⟩, ⟨ptr A4 0 1, 0, _⟩, ⟨qv, 2, _⟩]) [2, 4, 5] (by decide) rfl
  have hR1 := hS11.pick (os' := [⟨.map (some M1), 0, _⟩, ⟨ptr A4 0 1, 0, _⟩, ⟨qv, 2, _⟩, ⟨ptr A1 0 4, 0, _⟩, ⟨ptr A2 0 3, 0, _⟩, ⟨ptr A3 0 1, 0, _⟩, ⟨ov, 2, _⟩, ⟨ptr A5 0 2, 0, _⟩]) [2, 4, 5, 0, 1, 3, 6, 7] (by decide) rfl
  refine iJ (b2y o r sv (iA first i) A1 A2 A3 A4 M1 qv (nY o r.cpl (first.take i)) kvs hM1.aH (fun h => ⟨(hR1.frame h.forget).var 0 rfl, ho.ab (hR1.frame h.forget), (hR1.frame h.forget).var 1 rfl, (hR1.frame h.forget).var 2 rfl⟩) hk hqu hf hr.2) ?_
  rintro r H10 ⟨kvs', qv', rfl, hk', hT1⟩
  have hS12 := hR1.frame hT1
  simp only [RT] at hS12
  have e1 := a7r r.off (iA first i).1.toNat hr.2.2.2.2
  have e2 := a7v (r.off >>> (iA first i).1.toNat) (a1w _ hr.2.2.2.2)
  have e3 := tb r.off (iA first i).1.toNat
  have htk := kF first i (by omega)
  have hfl : (pr ((first.take i).filter fun c => !r.off.testBit c.1.toNat)).length ≤ i * 2 := by
   rw [iE]
   refine dL 2 ?_
   refine dE (dX _ _) ?_
   simp
   omega
  rw [← hqs] at hk'
  simp (disch := omega) only [↓RA, RZ, simprocAttr, hn, g4, hS12.ld 4 rfl, hS12.ld 7 rfl, q1, e1, e2]
  refine gZ (fun q2 => ?_) (fun q2 => ?_)
  ·have hx : ([iA first i].filter fun c => !r.off.testBit c.1.toNat) = [iA first i] := by simp [e3, decide_eq_false (show ¬ r.off >>> (iA first i).1.toNat % 2 = 1 by omega)]
   simp (disch := omega) only [↓RA, RZ, simprocAttr, hn, g9, hS12.ae 7 rfl, q1, q2]
   refine hS12.ai [I (iA first i).1, I (iA first i).2] a7s b7J rfl rfl (by simp [Value.cells]) rfl rfl (by decide) (by decide) fun w1 H11 hS13 => ?_
   simp only [RT] at hS13
   simp (disch := omega) only [↓RA, RZ, simprocAttr, hn, q1, q2]
   refine hS13.aq 6 rfl (hS13.rd 8 rfl) a7s (by first | (simp; done) | (simp; omega)) fun w2 H12 hS14 => ?_
   simp only [RT] at hS14
   simp (disch := omega) only [↓RA, RZ, simprocAttr, hn, g4, g6, g8, yR, g16, g17, g18, q1, q2]
   refine ⟨n - 1, by omega, i + 1, kvs', qv', w2, ⟨by omega, hk'⟩, by simp, rfl, ?_⟩
   rw [hqs, htk, eB, hx, jT]
   exact hS14.pick [3, 4, 0, 5, 1, 2, 6] (by decide) rfl
  have hx : ([iA first i].filter fun c => !r.off.testBit c.1.toNat) = [] := by simp [e3, decide_eq_true (show r.off >>> (iA first i).1.toNat % 2 = 1 by omega)]
  simp (disch := omega) only [↓RA, RZ, simprocAttr, hn, g4, g6, g8, yR, g16, g17, g18, g9, q1, q2]
  refine ⟨n - 1, by omega, i + 1, kvs', qv', ov, ⟨by omega, hk'⟩, by simp, rfl, ?_⟩
  rw [hqs, htk, eB, hx, dp]
  exact hS12.pick [3, 4, 0, 5, 1, 2, 6] (by decide) rfl
 simp (disch := omega) only [↓RA, RZ, simprocAttr, q1]
 have hii : i = first.length := by omega
 subst hii
 rw [ef] at hk
 rw [ef] at hS9
 have hqu := qF o r.cpl first
 have hoL : (pr (first.filter fun c => !r.off.testBit c.1.toNat)).length ≤ 2048 := by
  rw [iE]
  exact dL 2 (dE (dX _ _) hfl)
 refine Wp.al (fun n l H' => l.length = 56 ∧ get l 6 = (.slice none 0 0) ∧ get l 8 = (ptr A4 0 1) ∧ get l 9 = ov ∧ get l 10 = (.func (.func 111) #[] #[(ptr A1 0 4), (ptr A2 0 3), (ptr A3 0 1), (ptr A4 0 1)]) ∧ ∃ (j : Nat) (kvs : List (Ct × Bool)) (qv : Value) (q : List Ct), (n + j = 1100 ∧ bfs o r.cpl n j q = bfs o r.cpl 1100 0 (nY o r.cpl first) ∧ Que o q ∧ ∀ t, vW kvs t = true ↔ t ∈ q) ∧ get l 13 = I j ∧ St prog H H' [⟨ptr A1 0 4, 0, [(.string o.name), o.rv, o.dv, o.cv]⟩, ⟨ptr A2 0 3, 0, [sv, (.int .u64 r.cpl), (.int .u64 r.off)]⟩, ⟨.map (some M1), 0, KC kvs⟩, ⟨ptr A3 0 1, 0, [(.map (some M1))]⟩, ⟨ptr A4 0 1, 0, [qv]⟩, ⟨qv, 2, pr q⟩, ⟨ov, 2, pr (first.filter fun c => !r.off.testBit c.1.toNat)⟩]) 1100 ?_ ?_
 ·simp (disch := omega) only [RB, RC, simprocAttr, hn, g6, g8, yR, g9]
  exact ⟨0, kvs, qv, _, ⟨rfl, rfl, hqu, hk⟩, rfl, hS9⟩
 rintro n l H13 ⟨hn, g6, g8, g9, yR, j, kvs, qv, q, ⟨hj,hbf,hqq,hkk⟩, g13, hS15⟩
 have hql := hqq.len hf
 simp (disch := omega) only [↓RA, RZ, simprocAttr, hn, g8, g13, hS15.ld 4 rfl, (hS15.ax 5 rfl (fun _ => rfl)).len]
 refine gZ (fun q3 => ?_) (fun q3 => ?_)
 ·have hjl : j < q.length := by omega
  simp (disch := omega) only [↓RA, RZ, simprocAttr, hn, g8, yR, g13, hS15.ld 4 rfl, (hS15.ax 5 rfl (fun _ => rfl)).idx, (hS15.ax 5 rfl (fun _ => rfl)).ae, kB, q3]
  have hM2 := hS15.pick (os' := [⟨.map (some M1), 0, _⟩, ⟨ptr A4 0 1, 0, _⟩, ⟨qv, 2, _⟩]) [2, 4, 5] (by decide) rfl
  have hR2 := hS15.pick (os' := [⟨.map (some M1), 0, _⟩, ⟨ptr A4 0 1, 0, _⟩, ⟨qv, 2, _⟩, ⟨ptr A1 0 4, 0, _⟩, ⟨ptr A2 0 3, 0, _⟩, ⟨ptr A3 0 1, 0, _⟩, ⟨ov, 2, _⟩]) [2, 4, 5, 0, 1, 3, 6] (by decide) rfl
  refine iJ (b0R o r sv (iA q j) A1 A2 A3 A4 M1 qv q kvs hM2.aH (fun h => ⟨(hR2.frame h.forget).var 0 rfl, ho.ab (hR2.frame h.forget), (hR2.frame h.forget).var 1 rfl, (hR2.frame h.forget).var 2 rfl⟩) hkk hqq hf hr.2) ?_
  rintro r H14 ⟨kvs', qv', rfl, hk', hT2⟩
  have hS16 := hR2.frame hT2
  simp only [RT] at hS16
  simp (disch := omega) only [↓RA, RZ, simprocAttr, hn, g6, g8, g9, yR, g13, q3]
  obtain ⟨n', rfl⟩ : ∃ n', n = n' + 1 := ⟨n - 1, by omega⟩
  rw [bfs, if_pos hjl] at hbf
  exact ⟨n', by omega, j + 1, kvs', qv', _, ⟨by omega, hbf, hqq.stepF _ _ _, hk'⟩, by simp, hS16.pick [3, 4, 0, 5, 1, 2, 6] (by decide) rfl⟩
 have hbq : bfs o r.cpl 1100 0 (nY o r.cpl first) = q := by
  rw [← hbf]
  cases n with
  | zero => rfl
  | succ n => rw [bfs, if_neg (by omega)]
 have hqp : (pr q).length ≤ 2048 := by rw [iE]; omega
 simp (disch := omega) only [↓RA, RZ, simprocAttr, hn, g8, g9, hS15.ld 4 rfl, q3]
 refine hS15.aq 6 rfl (hS15.rd 5 rfl) a7s (by first | (simp; done) | (simp; omega)) fun w3 H15 hS17 => ?_
 simp only [RT] at hS17
 simp (disch := omega) only [↓RA, RZ, simprocAttr, hn, q3]
 rw [← jT, ← hbq] at hS17
 have hLL : ((first.filter fun c => !r.off.testBit c.1.toNat) ++ bfs o r.cpl 1100 0 (nY o r.cpl first)).length < 1000000 := by
  have h1 := dX (fun c : Ct => !r.off.testBit c.1.toNat) first
  rw [dg, hbq]
  omega
 refine c3O hS17 6 rfl (gU hLL (by decide)) fun HS hSS => ?_
 simp only [gM, fi] at hSS
 simp (disch := omega) only [↓RA, RZ, simprocAttr, hn, q3]
 have hM3 := hSS.pick (os' := [⟨w3, 2, _⟩]) [6] (by decide) rfl
 have hR3 := hSS.pick (os' := [⟨w3, 2, _⟩, ⟨ptr A1 0 4, 0, _⟩, ⟨ptr A2 0 3, 0, _⟩, ⟨.map (some M1), 0, _⟩, ⟨ptr A3 0 1, 0, _⟩, ⟨ptr A4 0 1, 0, _⟩, ⟨qv, 2, _⟩]) [6, 0, 1, 2, 3, 4, 5] (by decide) rfl
 refine iJ (a5A hM3.aH (by rw [oX]; exact gU hLL (by decide))) ?_
 rintro r H16 ⟨rest, hb, hrd, hT3⟩
 have hS18 := hR3.frame hT3
 simp only [RT] at hS18
 have hrr := hrd _ (hS18.rd 0 rfl)
 have hrc := hrr.cells
 simp (disch := omega) only [↓RA, RZ, simprocAttr, hn, c5u, q3]
 refine ⟨⟨⟨hrr, pK, by decide⟩, fun b h => ?_⟩, hS18.forget⟩
 rcases hS18.new _ (ew ..) b (hb b h) with h | h
 ·exact h
 ·exact h.elim
theorem b5S {α : Type} [Inhabited α] [DecidableEq α] (l : List α) : (dd l).length ≤ l.length := b9W l l.length
theorem a3I (rs : List Rk) (s : Stp) (key : Int) (h : ∀ g ∈ s.segs, g.draws.length ≤ 8) : (sB rs s key).length ≤ 8 := by
 unfold sB
 refine dE (b5S _) ?_
 rw [oX, dH]
 refine dE (dX _ _) ?_
 unfold a8f
 split
 ·simp
 ·exact h _ (iD (xF (p := a9s s key) (n := s.segs.length) (by omega)))
def oF (o : Org) (rg : Reg) (c : Ct) (k : Nat) : List Ct := (List.range k).flatMap fun i => if (iA rg.stops c.1.toNat).testBit i then sB o.ranks (iA (iA o.dvs c.1.toNat).stops i) c.2 else []
theorem a0w (o : Org) (rg : Reg) (c : Ct) (k : Nat) : oF o rg c (k + 1) = oF o rg c k ++ (if (iA rg.stops c.1.toNat).testBit k then sB o.ranks (iA (iA o.dvs c.1.toNat).stops k) c.2 else []) := by
 unfold oF
 rw [eW, ee, dJ, fL, dp]
theorem zT {o : Org} (hf : o.Fine) (rg : Reg) {c : Ct} (hc : sC o c = true) : ∀ k, k ≤ (iA o.dvs c.1.toNat).stops.length → (oF o rg c k).length ≤ k * 8
 | 0, _ => by simp [oF]
 | k + 1, hk => by
   have h := zT hf rg hc k (by omega)
   have hc := (tA o c).1 hc
   rw [a0w, dg]
   split
   ·have := a3I o.ranks (iA (iA o.dvs c.1.toNat).stops k) c.2 (hf.draws c.1.toNat (by omega) _ (iD (by omega)))
    omega
   ·simp
    omega
theorem b1W {o : Org} (hf : o.Fine) (rg : Reg) {c : Ct} (hc : sC o c = true) : (qT o rg c).length ≤ 480 := by
 have h := zT hf rg hc _ (di _)
 have h1 := (tA o c).1 hc
 have := hf.stops c.1.toNat (by omega)
 have e : qT o rg c = oF o rg c (iA o.dvs c.1.toNat).stops.length := rfl
 rw [e]
 omega
theorem uL {o : Org} (hf : o.Fine) (rg : Reg) : ∀ (l : List Ct), (∀ c ∈ l, sC o c = true) → (l.flatMap (qT o rg)).length ≤ l.length * 480
 | [], _ => by simp
 | c :: l, h => by
   rw [dJ, dg, ed]
   have h1 := uL hf rg l fun x hx => h x (by simp [hx])
   have h2 := b1W hf rg (h c (by simp))
   omega
theorem b1b (o : Org) (ho : o.In H) (hf : o.Fine) (rg : Reg) (sv : Value) (hr : rg.In H sv) (hrl : rg.stops.length = o.dvs.length) (fv : Value) (cs : List Ct) (hfi : Sl 2 kB H fv cs) (hfl : cs.length ≤ 2048) (hfo : ∀ c ∈ cs, sC o c = true) :
 Fn prog 65 [.agg #[.string o.name, o.rv, o.dv, o.cv], .agg #[sv, .int .u64 rg.cpl, .int .u64 rg.off], fv] H fun rr H' => ∃ (gv : Value) (rest : List Value), rr = kS gv 2 0 (a5d o rg cs).length ∧ St prog H H' [⟨gv, 2, pr (a5d o rg cs) ++ rest⟩] := by
 refine .bN func65 rfl (by kernel_rfl) (m := 55) rfl fun l hn g0 g1 g2 => ?_
 simp (disch := omega) only [↓RA, RB, simprocAttr, g0]
 refine (sR H).eNew 4 [(.string o.name), o.rv, o.dv, o.cv] rfl rfl (by simp [OC, ((sR H).sl ho.1).cells.2.1, ((sR H).sl ho.2.2.1).cells.2.1, ((sR H).sl ho.2.2.2.2.1).cells.2.1]) lV fun A1 H1 hS1 => ?_
 simp only [RT] at hS1
 simp (disch := omega) only [↓RA, RB, simprocAttr, g1]
 refine hS1.eNew 3 [sv, (.int .u64 rg.cpl), (.int .u64 rg.off)] rfl rfl (by simp [OC, (hS1.sl hr.1).cells.2.1]) lN fun A2 H2 hS2 => ?_
 simp only [RT] at hS2
 simp (disch := omega) only [↓RA, RZ, simprocAttr, hn, g2, (hS2.sl hfi).len]
 have hS3 := hS2.nil 1
 simp only [RT] at hS3
 refine Wp.al (fun n l H' => l.length = 55 ∧ get l 3 = (ptr A1 0 4) ∧ get l 4 = (ptr A2 0 3) ∧ get l 6 = (.slice none 0 0) ∧ get l 12 = fv ∧ get l 13 = I cs.length ∧ ∃ (i : Nat) (ov : Value), (n + i = cs.length) ∧ get l 14 = I i ∧ get l 7 = ov ∧ St prog H H' [⟨ptr A1 0 4, 0, [(.string o.name), o.rv, o.dv, o.cv]⟩, ⟨ptr A2 0 3, 0, [sv, (.int .u64 rg.cpl), (.int .u64 rg.off)]⟩, ⟨ov, 2, pr ((cs.take i).flatMap (qT o rg))⟩]) cs.length ?_ ?_
 ·simp (disch := omega) only [RB, RC, simprocAttr, hn]
  exact ⟨0, .slice none 0 0, by omega, rfl, rfl, hS3⟩
 rintro n l H3 ⟨hn, g3, g4, g6, g12, g13, i, ov, hi, g14, g7, hS4⟩
 simp (disch := omega) only [↓RA, RB, simprocAttr, hn, g13, g14]
 refine gZ (fun q1 => ?_) (fun q1 => ?_)
 ·have hci := (tA o _).1 (hfo _ (iD (xs := cs) (j := i) (by omega)))
  obtain ⟨a, ha⟩ : ∃ a : Nat, (iA cs i).1 = a := ⟨(iA cs i).1.toNat, by omega⟩
  have ha1 : a < o.dvs.length := by omega
  have hst := (ho.2.2.2.1 _ (iD ha1)).2.2
  have hs60 := hf.stops a ha1
  simp (disch := omega) only [↓RA, RZ, simprocAttr, hn, g12, g14, (hS4.sl hfi).idx, (hS4.sl hfi).ae, kB, q1]
  refine hS4.eNew 2 [I 0, I 0] rfl rfl rfl qQ fun A3 H4 hS5 => ?_
  simp only [RT] at hS5
  simp (disch := omega) only [↓RA, RZ, simprocAttr, hn, q1]
  refine hS5.aa 3 rfl [I (iA cs i).1, I (iA cs i).2] rfl rfl qQ (by simp) fun H5 hS6 => ?_
  simp only [RT] at hS6
  simp (disch := omega) only [↓RA, RZ, simprocAttr, hn, g3, q1]
  simp only [ha] at hS6
  simp (disch := omega) only [↓RA, RZ, simprocAttr, hn, hS6.ld 0 rfl, hS6.ld 3 rfl, (hS6.sl ho.2.2.1).idx, (hS6.sl ho.2.2.1).bz, (hS6.sl ho.2.2.1).ld, Dvn.cells, (hS6.sl (ho.2.2.2.1 (iA o.dvs a) (iD (by omega))).1).len, q1, ha]
  have hta : (iA cs i).1.toNat = a := by omega
  have htk := kF cs i (by omega)
  have hsx := hr.2.2.1 _ (iD (xs := rg.stops) (j := a) (by omega))
  have hacc : (pr ((cs.take i).flatMap (qT o rg))).length ≤ 2048 * 960 := by
   rw [iE]
   have := uL hf rg (cs.take i) fun c hc => hfo c (List.mem_of_mem_take hc)
   rw [eI] at this
   omega
  refine Wp.al (fun n l H' => l.length = 55 ∧ get l 3 = (ptr A1 0 4) ∧ get l 4 = (ptr A2 0 3) ∧ get l 6 = (.slice none 0 0) ∧ get l 9 = (ptr A3 0 2) ∧ get l 12 = fv ∧ get l 13 = I cs.length ∧ get l 14 = I i ∧ get l 24 = (iA o.dvs a).sv ∧ get l 25 = I (iA o.dvs a).stops.length ∧ ∃ (k : Nat) (ow : Value), (n + k = (iA o.dvs a).stops.length) ∧ get l 26 = I k ∧ get l 7 = ow ∧ St prog H H' [⟨ptr A1 0 4, 0, [(.string o.name), o.rv, o.dv, o.cv]⟩, ⟨ptr A2 0 3, 0, [sv, (.int .u64 rg.cpl), (.int .u64 rg.off)]⟩, ⟨ow, 2, pr ((cs.take i).flatMap (qT o rg) ++ oF o rg (iA cs i) k)⟩, ⟨ptr A3 0 2, 0, [I a, I (iA cs i).2]⟩]) (iA o.dvs a).stops.length ?_ ?_
  ·simp (disch := omega) only [RB, RC, simprocAttr, hn, g3, g4, g6, g12, g13, g14, g7]
   refine ⟨0, ov, by omega, rfl, rfl, ?_⟩
   rw [show oF o rg (iA cs i) 0 = [] from rfl, dp]
   exact hS6
  rintro n l H6 ⟨hn, g3, g4, g6, g9, g12, g13, g14, g24, g25, k, ow, hj, g26, g7, hS7⟩
  simp (disch := omega) only [↓RA, RB, simprocAttr, hn, g25, g26]
  refine gZ (fun q2 => ?_) (fun q2 => ?_)
  ·have e1 := a7r (iA rg.stops a) k hsx
   have e2 := a7v (iA rg.stops a >>> k) (a1w k hsx)
   have e3 := tb (iA rg.stops a) k
   have hsu := a0w o rg (iA cs i) k
   rw [hta] at hsu
   have hKl := zT hf rg (hfo _ (iD (xs := cs) (j := i) (by omega))) k (by rw [hta]; omega)
   have hKp : (pr (oF o rg (iA cs i) k)).length ≤ 2000 := by rw [iE]; omega
   simp (disch := omega) only [↓RA, RZ, simprocAttr, hn, g24, g26, (hS7.sl (ho.2.2.2.1 (iA o.dvs a) (iD (by omega))).1).idx, (hS7.sl (ho.2.2.2.1 (iA o.dvs a) (iD (by omega))).1).ae, Stp.cells, q2]
   refine hS7.eNew 4 [(.string ⟨#[]⟩), I 0, I 0, (.slice none 0 0)] rfl rfl rfl mV fun A4 H7 hS8 => ?_
   simp only [RT] at hS8
   simp (disch := omega) only [↓RA, RZ, simprocAttr, hn, q2]
   refine hS8.aa 4 rfl [(.string (iA (iA o.dvs a).stops k).name), I (iA (iA o.dvs a).stops k).num, I (iA (iA o.dvs a).stops k).den, (iA (iA o.dvs a).stops k).gv] rfl (by simp [OC, (hS8.sl ((ho.2.2.2.1 (iA o.dvs a) (iD (by omega))).2.1 (iA (iA o.dvs a).stops k) (iD (by omega))).1).cells.2.1]) mV (by simp) fun H8 hS9 => ?_
   simp only [RT] at hS9
   simp (disch := omega) only [↓RA, RZ, simprocAttr, hn, g4, g9, hS9.ld 1 rfl, hS9.ld 3 rfl, (hS9.sl hr.1).idx, (hS9.sl hr.1).ld, one, u64, q2, e1, e2]
   refine gZ (fun q3 => ?_) (fun q3 => ?_)
   ·have hsu : oF o rg (iA cs i) (k + 1) = oF o rg (iA cs i) k ++ sB o.ranks (iA (iA o.dvs a).stops k) (iA cs i).2 := by rw [hsu, e3, if_pos (decide_eq_true (by omega))]
    have hpp : (pr (sB o.ranks (iA (iA o.dvs a).stops k) (iA cs i).2)).length ≤ 16 := by
     rw [iE]
     exact dL 2 (a3I _ _ _ (hf.draws a ha1 _ (iD (by omega))))
    simp (disch := omega) only [↓RA, RZ, simprocAttr, hn, g3, g9, g7, hS9.ld 0 rfl, hS9.ae 4 rfl, hS9.ld 3 rfl, q2, q3]
    refine iJ (b4v o.rv o.ranks (hS9.sl ho.1) (fun q hq => (ho.2.1 q hq).ab hS9) ho.2.2.2.2.2.1 (iA (iA o.dvs a).stops k) (((ho.2.2.2.1 _ (iD ha1)).2.1 _ (iD (by omega))).ab hS9) (hf.draws a ha1 _ (iD (by omega))) (iA cs i).2) ?_
    rintro r H9 ⟨hx, hT1⟩
    have hS10 := hS9.trans hT1
    simp only [RT] at hS10
    simp (disch := omega) only [↓RA, RZ, simprocAttr, hn, q2, q3]
    refine hS10.aq 2 rfl hx.1.rd c0Y (by have h := hpp; unfold pr at h; rw [jT, dg]; omega) fun w1 H10 hS11 => ?_
    simp only [RT] at hS11
    simp (disch := omega) only [↓RA, RZ, simprocAttr, hn, g3, g4, g6, g9, g12, g13, g14, g24, g25, g26, q2, q3]
    refine ⟨n - 1, by omega, k + 1, w1, by omega, by simp, rfl, ?_⟩
    rw [hsu, ← dy, jT]
    exact hS11.pick [0, 1, 2, 3] (by decide) rfl
   have hsu : oF o rg (iA cs i) (k + 1) = oF o rg (iA cs i) k := by rw [hsu, e3, if_neg (by rw [decide_eq_true_iff]; omega), dp]
   simp (disch := omega) only [↓RA, RZ, simprocAttr, hn, g3, g4, g6, g9, g12, g13, g14, g24, g25, g26, g7, q2, q3]
   refine ⟨n - 1, by omega, k + 1, ow, by omega, by simp, rfl, ?_⟩
   rw [hsu]
   exact hS9.pick [0, 1, 2, 3] (by decide) rfl
  simp (disch := omega) only [↓RA, RZ, simprocAttr, hn, g3, g4, g6, g12, g13, g14, g7, q2]
  refine ⟨cs.length - (i + 1), by omega, i + 1, ow, by omega, by simp, rfl, ?_⟩
  have hkk : k = (iA o.dvs a).stops.length := by omega
  rw [htk, ee, dJ, fL, dp]
  have e : qT o rg (iA cs i) = oF o rg (iA cs i) k := by rw [hkk, ← hta]; rfl
  rw [e]
  exact hS7.pick [0, 1, 2] (by decide) rfl
 simp (disch := omega) only [↓RA, RZ, simprocAttr, hn, g7, q1]
 have hii : i = cs.length := by omega
 subst hii
 rw [ef] at hS4
 have hLL : (cs.flatMap (qT o rg)).length < 1000000 := by
  have := uL hf rg cs hfo
  omega
 refine c3d hS4 2 rfl (gU hLL (by decide)) fun HS hSS => ?_
 simp only [gM, fi] at hSS
 simp (disch := omega) only [↓RA, RZ, simprocAttr, hn, g7, q1]
 have hM1 := hSS.pick (os' := [⟨ov, 2, _⟩]) [2] (by decide) rfl
 have hR1 := hSS.pick (os' := [⟨ov, 2, _⟩, ⟨ptr A1 0 4, 0, _⟩, ⟨ptr A2 0 3, 0, _⟩]) [2, 0, 1] (by decide) rfl
 refine iJ (wO hM1.aH (by rw [oX]; exact gU hLL (by decide))) ?_
 rintro r H11 ⟨rest, rfl, hT2⟩
 have hS12 := hR1.frame hT2
 simp only [RT] at hS12
 obtain ⟨rc, hrcE⟩ : ∃ w, w = kS ov 2 0 (dd (vL (cs.flatMap (qT o rg)))).length := ⟨_, rfl⟩
 have hrr : RdAt H11 rc 2 (pr (dd (vL (cs.flatMap (qT o rg))))) := hrcE ▸ tH (hS12.rd 0 rfl)
 have hrc := hrr.cells
 rw [← hrcE]
 simp (disch := omega) only [↓RA, RZ, simprocAttr, hn, c4m, q1]
 exact ⟨ov, rest, hrcE, hS12.pick [0] (by decide) rfl⟩
end Go.Ds
namespace Go.Ds
open Go.Proofs Go.Proofs.Tryz
variable {H : Heap}
set_option maxRecDepth 10000
theorem Sl.bu {α : Type} {n : Nat} {cel : α → List Value} {v : Value} {xs : List α} (h : Sl n cel H v xs) : jG v = true := by
 rcases h.rd with ⟨rfl, _⟩ | ⟨A, i, e, row, ty, rw, lo, ver, n, _, _, _, _, _, _, rfl⟩ <;> rfl
theorem b9D {α : Type} [Inhabited α] [DecidableEq α] {l : List α} {x : α} (h : x ∈ dd l) : x ∈ l := by
 unfold dd yF at h
 obtain ⟨i, hi, rfl⟩ := dF.1 h
 exact iD (dI.1 (eV.1 hi).1)
theorem b6C {l : List (Int × Int)} {x : Int × Int} : x ∈ vL l ↔ x ∈ l := (pG l).mem_iff
theorem Que.bfs {o : Org} (cp : Nat) : ∀ (n i : Nat) {q : List Ct}, Que o q → Que o (bfs o cp n i q)
 | 0, _, _, h => h
 | n + 1, i, q, h => by
   rw [Go.Ds.bfs]
   split
   ·exact Que.bfs cp n (i + 1) (h.stepF cp true _)
   ·exact h
theorem a2t {o : Org} {rg : Reg} {l : List Ct} (hl : ∀ c ∈ l, sC o c = true) : ∀ c ∈ tC o rg l, sC o c = true := by
 intro c hc
 unfold tC at hc
 have hc := b6C.1 (b9D hc)
 rcases dD.1 hc with h | h
 ·exact hl c (eV.1 h).1
 ·exact ((qF o rg.cpl l).bfs rg.cpl 1100 0).2 c h
theorem a2f {o : Org} (hf : o.Fine) {rg : Reg} {l : List Ct} (hl : l.length ≤ 1024) : (tC o rg l).length ≤ 2048 := by
 unfold tC
 refine dE (b5S _) ?_
 rw [oX, dg]
 have h1 := dX (fun c : Ct => !rg.off.testBit c.1.toNat) l
 have h2 := ((qF o rg.cpl l).bfs rg.cpl 1100 0).len hf
 omega
theorem a5c (o : Org) (ho : o.In H) (hf : o.Fine) (rg : Reg) (sv : Value) (hr : rg.In H sv) (hrl : rg.stops.length = o.dvs.length) (fv : Value) (cs : List Ct) (hfi : Sl 2 kB H fv cs) (hfl : cs.length ≤ 1024) (hfo : ∀ c ∈ cs, sC o c = true) :
 Fn prog 52 [.agg #[.string o.name, o.rv, o.dv, o.cv], .agg #[sv, .int .u64 rg.cpl, .int .u64 rg.off], fv] H fun rr H' => ∃ (gv : Value) (rest : List Value), rr = kS gv 2 0 (uA o rg cs).length ∧ St prog H H' [⟨gv, 2, pr (uA o rg cs) ++ rest⟩] := by
 refine .bN func52 rfl (by kernel_rfl) (m := 14) rfl fun l hn g0 g1 g2 => ?_
 simp (disch := omega) only [↓RA, RB, simprocAttr, g0]
 refine (sR H).eNew 4 [(.string o.name), o.rv, o.dv, o.cv] rfl rfl (by simp [OC, ((sR H).sl ho.1).cells.2.1, ((sR H).sl ho.2.2.1).cells.2.1, ((sR H).sl ho.2.2.2.2.1).cells.2.1]) lV fun A1 H1 hS1 => ?_
 simp only [RT] at hS1
 simp (disch := omega) only [↓RA, RB, simprocAttr, g1]
 refine hS1.eNew 3 [sv, (.int .u64 rg.cpl), (.int .u64 rg.off)] rfl rfl (by simp [OC, (hS1.sl hr.1).cells.2.1]) lN fun A2 H2 hS2 => ?_
 simp only [RT] at hS2
 simp (disch := omega) only [↓RA, RB, simprocAttr]
 refine Wp.aQ kC [(0, 6), (1, 6)] (by kernel_rfl) (by kernel_rfl) ?_
 simp (disch := omega) only [↓RA, RZ, simprocAttr, hn, g2, hS2.ae 0 rfl, hS2.ae 1 rfl]
 refine iJ (a5w o (ho.ab hS2) hf rg sv (hr.ab hS2) fv cs (hS2.sl hfi) hfl hfo) ?_
 rintro r H3 ⟨hx, hT1⟩
 have hS3 := hS2.trans hT1
 simp only [RT] at hS3
 simp (disch := omega) only [↓RA, RZ, simprocAttr, hn]
 refine iJ (b1b o (ho.ab hS3) hf rg sv (hr.ab hS3) hrl r (tC o rg cs) hx.1 (a2f hf hfl) (a2t hfo)) ?_
 rintro r H4 ⟨gv, rest, he2, hT2⟩
 have hS4 := hS3.trans hT2
 simp only [RT] at hS4
 have hx2 : Slx 2 kB H4 (fun B => H.length ≤ B) r (uA o rg cs) := he2 ▸ yE (hS4.pick [2] (by decide) rfl)
 simp (disch := omega) only [↓RA, RZ, simprocAttr, hn, hS3.ae 0 rfl, hS3.ae 1 rfl, c5y]
 exact ⟨gv, rest, he2, hS4.pick [2] (by decide) rfl⟩
def rgc (p : Value × Reg) : List Value := [p.1, .int .u64 p.2.cpl, .int .u64 p.2.off]
def uX (o : Org) (l : List (Value × Reg)) : Int := if organE o ≠ 0 then organE o else lM (fun j => kO o (iA l j).2) l.length
theorem b2a (o : Org) (ho : o.In H) (lv : Value) (xs : List (Value × Reg)) (hl : Sl 3 rgc H lv xs) (hle : xs.length < 1000000000) (hr : ∀ p ∈ xs, p.2.In H p.1) :
 Fn prog 100 [.agg #[.string o.name, o.rv, o.dv, o.cv], lv] H fun r H' => r = I (uX o xs) ∧ St prog H H' [] := by
 refine .aC func100 rfl (by kernel_rfl) (m := 27) rfl fun l hn g0 g1 => ?_
 simp (disch := omega) only [↓RA, RB, simprocAttr, g0]
 refine (sR H).eNew 4 [(.string o.name), o.rv, o.dv, o.cv] rfl rfl (by simp [OC, ((sR H).sl ho.1).cells.2.1, ((sR H).sl ho.2.2.1).cells.2.1, ((sR H).sl ho.2.2.2.2.1).cells.2.1]) lV fun A1 H1 hS1 => ?_
 simp only [RT] at hS1
 simp (disch := omega) only [↓RA, RZ, simprocAttr, hn, hS1.ae 0 rfl]
 refine hS1.cF (xZ o (ho.ab hS1)) fun H2 hS2 => ?_
 simp (disch := omega) only [↓RA, RB, simprocAttr, hn]
 refine gZ (fun h1 => ?_) (fun h1 => ?_)
 ·simp (disch := omega) only [↓RA, RZ, simprocAttr, hn, b4M, h1]
  exact ⟨by rw [uX, if_pos h1], hS2.forget⟩
 have hE : uX o xs = lM (fun j => kO o (iA xs j).2) xs.length := by rw [uX, if_neg h1]
 simp (disch := omega) only [↓RA, RZ, simprocAttr, hn, g1, (hS2.sl hl).len, h1]
 refine Wp.al (fun n l H' => l.length = 27 ∧ get l 2 = (ptr A1 0 4) ∧ get l 14 = lv ∧ get l 15 = I xs.length ∧ ∃ (j : Nat), (n + j = xs.length ∧ ∀ q, q < j → kO o (iA xs q).2 = 0) ∧ get l 16 = I j ∧ St prog H H' [⟨ptr A1 0 4, 0, [(.string o.name), o.rv, o.dv, o.cv]⟩]) xs.length ?_ ?_
 ·simp (disch := omega) only [RB, RC, simprocAttr, hn]
  exact ⟨0, ⟨by omega, fun q hq => absurd hq (dK _)⟩, rfl, hS2⟩
 rintro n l H3 ⟨hn, g2, g14, g15, j, ⟨hj,hz⟩, g16, hS3⟩
 simp (disch := omega) only [↓RA, RB, simprocAttr, hn, g15, g16]
 refine gZ (fun q1 => ?_) (fun q1 => ?_)
 ·simp (disch := omega) only [↓RA, RZ, simprocAttr, hn, g14, g16, (hS3.sl hl).idx, (hS3.sl hl).ae, rgc, q1]
  refine hS3.eNew 3 [(.slice none 0 0), (.int .u64 0), (.int .u64 0)] rfl rfl rfl lN fun A2 H4 hS4 => ?_
  simp only [RT] at hS4
  simp (disch := omega) only [↓RA, RZ, simprocAttr, hn, q1]
  refine hS4.aa 1 rfl [(iA xs j).1, (.int .u64 (iA xs j).2.cpl), (.int .u64 (iA xs j).2.off)] rfl (by simp [OC, (hS4.sl (hr (iA xs j) (iD (by omega))).1).cells.2.1]) lN (by simp) fun H5 hS5 => ?_
  simp only [RT] at hS5
  simp (disch := omega) only [↓RA, RZ, simprocAttr, hn, g2, hS5.ae 0 rfl, hS5.ae 1 rfl, q1]
  refine hS5.cF (a8C o (ho.ab hS5) (iA xs j).2 (iA xs j).1 ((hr _ (iD (by omega))).ab hS5)) fun H6 hS6 => ?_
  simp (disch := omega) only [↓RA, RZ, simprocAttr, hn, q1]
  refine gZ (fun q2 => ?_) (fun q2 => ?_)
  ·simp (disch := omega) only [↓RA, RZ, simprocAttr, hn, b4M, q1, q2]
   exact ⟨by rw [hE, nS (fun j => kO o (iA xs j).2) xs.length j (by omega) q2 hz], hS6.forget⟩
  simp (disch := omega) only [↓RA, RZ, simprocAttr, hn, g2, g14, g15, g16, q1, q2]
  exact ⟨n - 1, by omega, j + 1, ⟨by omega, fun q hq => by rcases dr.1 hq with e | e; (· exact hz q e); (· rw [e]; exact dC.1 q2)⟩, by simp, hS6.pick [0] (by decide) rfl⟩
 simp (disch := omega) only [↓RA, RZ, simprocAttr, hn, b4M, q1]
 exact ⟨by rw [hE, kT (fun j => kO o (iA xs j).2) xs.length fun q hq => hz q (by omega)], hS3.forget⟩
def a6Y (o : Org) (rg : Reg) (c : Ct) : Int := if kO o rg ≠ 0 then kO o rg else a0t o c
theorem a7q (o : Org) (sv : Value) (rg : Reg) : uX o [(sv, rg)] = kO o rg := by
 unfold uX
 split
 ·rename_i h
  unfold kO
  rw [if_pos h]
 ·by_cases h : kO o rg = 0
  ·rw [h]
   exact kT _ _ fun j hj => by
    have : j = 0 := by simpa using hj
    rw [this]
    exact h
  ·exact nS (fun j => kO o (iA [(sv, rg)] j).2) 1 0 (by decide) h fun j hj => absurd hj (dK _)
theorem c1A (o : Org) (ho : o.In H) (rg : Reg) (sv : Value) (hr : rg.In H sv) (c : Ct) :
 Fn prog 64 [.agg #[.string o.name, o.rv, o.dv, o.cv], .agg #[sv, .int .u64 rg.cpl, .int .u64 rg.off], .agg #[I c.1, I c.2]] H fun r H' => r = I (a6Y o rg c) ∧ St prog H H' [] := by
 refine .bN func64 rfl (by kernel_rfl) (m := 18) rfl fun l hn g0 g1 g2 => ?_
 simp (disch := omega) only [↓RA, RB, simprocAttr, g0]
 refine (sR H).eNew 4 [(.string o.name), o.rv, o.dv, o.cv] rfl rfl (by simp [OC, ((sR H).sl ho.1).cells.2.1, ((sR H).sl ho.2.2.1).cells.2.1, ((sR H).sl ho.2.2.2.2.1).cells.2.1]) lV fun A1 H1 hS1 => ?_
 simp only [RT] at hS1
 simp (disch := omega) only [↓RA, RB, simprocAttr, g1]
 refine hS1.eNew 3 [sv, (.int .u64 rg.cpl), (.int .u64 rg.off)] rfl rfl (by simp [OC, (hS1.sl hr.1).cells.2.1]) lN fun A2 H2 hS2 => ?_
 simp only [RT] at hS2
 simp (disch := omega) only [↓RA, RB, simprocAttr, g2]
 refine hS2.eNew 2 [I c.1, I c.2] rfl rfl rfl qQ fun A3 H3 hS3 => ?_
 simp only [RT] at hS3
 simp (disch := omega) only [↓RA, RZ, simprocAttr, hn, hS3.ae 0 rfl, hS3.ae 1 rfl]
 refine hS3.ai [sv, (.int .u64 rg.cpl), (.int .u64 rg.off)] c1V c2M rfl rfl (by first | (simp []; done) | simp [Value.cells]) (by first | (simp []; done) | simp [Value.cells]) (by simp [OC, (hS3.sl hr.1).cells.2.1]) (by decide) (by decide) fun w1 H4 hS4 => ?_
 simp only [RT] at hS4
 simp (disch := omega) only [↓RA, RZ, simprocAttr, hn]
 refine hS4.cF (b2a o (ho.ab hS4) w1 [(sv, rg)] (hS4.ax 3 rfl (fun _ => rfl)) (by simp) (by intro p hp; rw [dz.1 hp]; exact hr.ab hS4)) fun H5 hS5 => ?_
 have hsc := a7q o sv rg
 simp (disch := omega) only [↓RA, RB, simprocAttr, hn, hsc]
 refine gZ (fun h1 => ?_) (fun h1 => ?_)
 ·simp (disch := omega) only [↓RA, RZ, simprocAttr, hn, c1T, hsc, h1]
  exact ⟨by rw [a6Y, if_pos h1], hS5.forget⟩
 simp (disch := omega) only [↓RA, RZ, simprocAttr, hn, hS5.ae 0 rfl, hS5.ae 2 rfl, hsc, h1]
 refine hS5.cF (wK o (ho.ab hS5) c) fun H6 hS6 => ?_
 simp (disch := omega) only [↓RA, RZ, simprocAttr, hn, c1T, hsc, h1]
 exact ⟨by rw [a6Y, if_neg h1], hS6.forget⟩
def nR (o : Org) (rg : Reg) (c : Ct) : List Ct := if a6Y o rg c = 0 then uA o rg [c] else []
theorem qO {o : Org} {rg : Reg} (h : kO o rg = 0) : organE o = 0 ∧ rg.stops.length = o.dvs.length := by
 unfold kO at h
 split at h
 ·rename_i hh; exact absurd h hh
 rename_i h1
 split at h
 ·omega
 exact ⟨dC.1 h1, by omega⟩
theorem a3k {o : Org} {rg : Reg} {c : Ct} (h : a6Y o rg c = 0) : kO o rg = 0 ∧ sC o c = true := by
 unfold a6Y at h
 split at h
 ·rename_i hh; exact absurd h hh
 ·rename_i hh
  exact ⟨dC.1 hh, (tS o c).1 h⟩
theorem c1v (o : Org) (ho : o.In H) (rg : Reg) (sv : Value) (hr : rg.In H sv) (c : Ct) :
 Fn prog 23 [.agg #[.string o.name, o.rv, o.dv, o.cv], .agg #[sv, .int .u64 rg.cpl, .int .u64 rg.off], .agg #[I c.1, I c.2]] H fun r H' => ∃ pv, r = .tuple #[pv, I (a6Y o rg c)] ∧ ∃ (gv : Value) (rest : List Value), pv = kS gv 2 0 (nR o rg c).length ∧ St prog H H' [⟨gv, 2, pr (nR o rg c) ++ rest⟩] := by
 refine .bN func23 rfl (by kernel_rfl) (m := 21) rfl fun l hn g0 g1 g2 => ?_
 simp (disch := omega) only [↓RA, RB, simprocAttr, g0]
 refine (sR H).eNew 4 [(.string o.name), o.rv, o.dv, o.cv] rfl rfl (by simp [OC, ((sR H).sl ho.1).cells.2.1, ((sR H).sl ho.2.2.1).cells.2.1, ((sR H).sl ho.2.2.2.2.1).cells.2.1]) lV fun A1 H1 hS1 => ?_
 simp only [RT] at hS1
 simp (disch := omega) only [↓RA, RB, simprocAttr, g1]
 refine hS1.eNew 3 [sv, (.int .u64 rg.cpl), (.int .u64 rg.off)] rfl rfl (by simp [OC, (hS1.sl hr.1).cells.2.1]) lN fun A2 H2 hS2 => ?_
 simp only [RT] at hS2
 simp (disch := omega) only [↓RA, RB, simprocAttr, g2]
 refine hS2.eNew 2 [I c.1, I c.2] rfl rfl rfl qQ fun A3 H3 hS3 => ?_
 simp only [RT] at hS3
 simp (disch := omega) only [↓RA, RZ, simprocAttr, hn, hS3.ae 0 rfl, hS3.ae 1 rfl, hS3.ae 2 rfl]
 refine hS3.cF (c1A o (ho.ab hS3) rg sv (hr.ab hS3) c) fun H4 hS4 => ?_
 simp (disch := omega) only [↓RA, RB, simprocAttr, hn]
 refine gZ (fun h1 => ?_) (fun h1 => ?_)
 ·simp (disch := omega) only [↓RA, RZ, simprocAttr, hn, c2i, h1]
  rw [show nR o rg c = [] from if_neg h1]
  exact ⟨.slice none 0 0, rfl, .slice none 0 0, [], rfl, hS4.forget.nil 1⟩
 have h0 := dC.1 h1
 obtain ⟨hz1, hz2⟩ := a3k h0
 obtain ⟨hz3, hz4⟩ := qO hz1
 simp (disch := omega) only [↓RA, RZ, simprocAttr, hn, hS4.ae 0 rfl, hS4.ae 1 rfl, hS4.ae 2 rfl, h1]
 refine hS4.ai [I c.1, I c.2] a7s b7J rfl rfl (by simp [Value.cells]) rfl rfl (by decide) (by decide) fun w1 H5 hS5 => ?_
 simp only [RT] at hS5
 simp (disch := omega) only [↓RA, RZ, simprocAttr, hn, h1]
 refine iJ (a5c o (ho.ab hS5) (Org.bD hz3) rg sv (hr.ab hS5) hz4 w1 [c] (hS5.ax 3 rfl pK) (by simp) (by intro x hx; rw [dz.1 hx]; exact hz2)) ?_
 rintro r H6 ⟨gv, rest, he2, hT2⟩
 have hS6 := hS5.trans hT2
 simp only [RT] at hS6
 have hx2 : Slx 2 kB H6 (fun B => H.length ≤ B) r (uA o rg [c]) := he2 ▸ yE (hS6.pick [4] (by decide) rfl)
 simp (disch := omega) only [↓RA, RZ, simprocAttr, hn, c2i, h1, hx2.1.bu]
 rw [show nR o rg c = uA o rg [c] from if_pos h0]
 exact ⟨r, by rw [h0], gv, rest, he2, hS6.pick [4] (by decide) rfl⟩
end Go.Ds
namespace Go.Ds
open Go.Proofs
structure Ctl where
 kind : Int
 dv : Int
 ix : Int
 deriving Inhabited, DecidableEq
def Ctl.cells (c : Ctl) : List Value := [I c.kind, I c.dv, I c.ix]
def sM (n : Nat) : List Nat := (List.range 64).filter fun i => n.testBit i
def zR (d : Nat) (i : Nat) : Ctl := ⟨1, (d : Int), (i : Int)⟩
def vP (i : Nat) : Ctl := ⟨2, 0, (i : Int)⟩
def a4I (i : Nat) : Ctl := ⟨3, (i : Int), 0⟩
def oS (r : Reg) : List Ctl := ((List.range r.stops.length).flatMap fun d => (sM (iA r.stops d)).map (zR d)) ++ (sM r.cpl).map vP ++ (sM r.off).map a4I
def sZ (n : Nat) (i : Int) : Nat := (BitVec.ofNat 64 n &&& ~~~ BitVec.ofNat 64 (2 ^ i.toNat)).toNat
def kW (r : Reg) (c : Ctl) : Reg := if c.kind = 1 then { r with stops := r.stops.set c.dv.toNat (sZ (iA r.stops c.dv.toNat) c.ix) } else if c.kind = 2 then { r with cpl := sZ r.cpl c.ix } else { r with off := sZ r.off c.dv }
def uZ (o : Org) (i : Nat) : List Ct := (List.range ((iA o.dvs i).hi - (iA o.dvs i).lo + 1).toNat).map fun (k : Nat) => ((i : Int), (iA o.dvs i).lo + (k : Int))
def mT (o : Org) : List Ct := (List.range o.dvs.length).flatMap (uZ o)
def pR (o : Org) (r : Reg) : List (List Ct) := (mT o).map (nR o r)
def mI (o : Org) (r : Reg) : List Ctl := (oS r).filter fun c => decide (pR o (kW r c) = pR o r)
end Go.Ds
namespace Go.Ds
open Go.Proofs Go.Proofs.Tryz
variable {H : Heap}
set_option maxRecDepth 10000
set_option maxHeartbeats 1000000
theorem Wp.aE {P : Program} {c c' : Code} {l l' : List Value} {Q : mU} (hc : c' = c) (hl : l' = l) (h : SW P c l H Q) : Wp P c' l' H Q := by
 subst hc hl; exact h.wp
theorem Wp.bg {P : Program} {c : Code} {l : List Value} {Q : mU} (h : ∀ l', l' = l → Wp P c l' H Q) : Wp P c l H Q := h l rfl
theorem Wp.aZ {P : Program} {t : Tmp} {ps : Array Tmp} {assign body : Code} {l : List Value} {Q : mU} {k : FuncId} {captured : List Value} (hg : get l t = .func (.func k) #[] captured.toArray)
 (h : ∀ r : Loop, r.state = .ready → r.pending = none → r.tmps = l.toArray → r.params = ps → r.assign = assign → r.body = body →
   FnS P k ([.func (.yield H.length) #[] #[]] ++ captured) (H.cons (.loop r)) (b5u P l H.length Q)) : Wp P (.rangeFunc (.tmp t) ps assign body) l H Q :=
 Wp.range (first := []) rfl hg (h (a9L l ps assign body) rfl rfl rfl rfl rfl rfl)
theorem Lp.aU {P : Program} {B : Base} {L : Nat} {r : Loop} {H2 : Heap} {ls rest ls' : List Ob} (h : Lp P B L r H (ls ++ rest)) (h2 : St P ⟨H, oP ls⟩ H2 ls') : Lp P B L r H2 (ls' ++ rest) where
 st := h.st.frame h2
 get := by rw [h2.other (jC h.get) fun o ho => h.ne o (List.mem_append_left _ ho)]; exact h.get
 lo := h.lo
 ne o ho hb := by
  rcases dD.1 ho with ho | ho
  ·have hl := jC h.get
   rcases h2.new o ho L hb with h3 | ⟨o', ho', hb'⟩
   ·have h3 : H.length ≤ L := h3
    omega
   ·exact h.ne o' (List.mem_append_left _ ho') hb'
  ·exact h.ne o (eF _ ho) hb
theorem Lp.left {P : Program} {B : Base} {L : Nat} {r : Loop} {ls rest : List Ob} (h : Lp P B L r H (ls ++ rest)) : Lp P B L r H ls := h.sub (ff _ _)
theorem OwnAt.var {P : Program} {A n : Nat} {cs : List Value} (h : OwnAt P H ⟨ptr A 0 n, 0, cs⟩) : Var H A n cs := by
 unfold OwnAt at h
 rw [if_pos rfl] at h
 rcases h with ⟨A', ty, lo, ver, h1, h2, h3⟩ | ⟨A', es, ck, ver, _, _, h3, _⟩
 ·simp only [ptr, Value.pointer.injEq, dA, Addr.mk.injEq] at h3
  obtain ⟨rfl, _, hn⟩ := h3
  exact ⟨hn, ty, true, lo, ver, h1, h2⟩
 ·cases h3
theorem a5e (x : Nat) (hx : x < 18446744073709551616) (A : Nat) (f : Value) (J : Nat → Heap → Prop) (h0 : J 0 H) (hg : ∀ j H1, J j H1 → Var H1 A 1 [.int .u64 x])
 (hs : ∀ j H1, j < 64 → x.testBit j = false → J j H1 → J (j + 1) H1)
 (hf : ∀ j H1, j < 64 → x.testBit j = true → J j H1 → qN prog f [I j] H1 fun v H2 => v = .bool true ∧ J (j + 1) H2) :
 FnS prog 228 [f, ptr A 0 1] H fun _ H' => J 64 H' := by
 refine FnS.aW func228 rfl (by kernel_rfl) fun l hl => ?_
 have hn : l.length = 19 := by rw [hl]; rfl
 have g0 : get l 0 = f := by rw [hl]; rfl
 have g1 : get l 1 = (ptr A 0 1) := by rw [hl]; rfl
 clear hl
 simp (disch := omega) only [↓RA, RB, simprocAttr]
 refine Wp.al (fun n l H' => l.length = 19 ∧ get l 0 = f ∧ get l 1 = ptr A 0 1 ∧ ∃ j : Nat, n + j = 64 ∧ get l 4 = I j ∧ J j H') 64 ?_ ?_
 ·simp (disch := omega) only [RB, RC, simprocAttr, hn, g0, g1]
  exact ⟨0, rfl, rfl, h0⟩
 rintro n l H9 ⟨hn, g0, g1, j, hj, g4, hJ⟩
 have hV := hg j H9 hJ
 simp (disch := omega) only [↓RA, RB, simprocAttr, hn, g4]
 refine gZ (fun q1 => ?_) (fun q1 => ?_)
 ·have e1 := a7r x j hx
  have e2 := a7v (x >>> j) (a1w j hx)
  have e3 := tb x j
  simp (disch := omega) only [↓RA, RZ, simprocAttr, hn, g1, g4, hV.ld, q1, e1, e2]
  refine jV (fun q2 => ?_) (fun q2 => ?_)
  ·simp (disch := omega) only [↓RA, RZ, simprocAttr, hn, g0, q1, q2]
   refine a1l (hf j H9 (by omega) (by rw [e3]; exact decide_eq_true (by omega)) hJ) ?_
   rintro r H10 ⟨rfl, hJ2⟩
   simp (disch := omega) only [↓RA, RZ, simprocAttr, hn, g0, g1, g4, q1, q2]
   exact ⟨n - 1, by omega, j + 1, by omega, by simp, hJ2⟩
  simp (disch := omega) only [↓RA, RZ, simprocAttr, hn, g0, g1, g4, q1, q2]
  exact ⟨n - 1, by omega, j + 1, by omega, by simp, hs j _ (by omega) (by rw [e3]; exact decide_eq_false (by omega)) hJ⟩
 simp (disch := omega) only [↓RA, RZ, simprocAttr, c3r, q1]
 have e : j = 64 := by omega
 exact e ▸ hJ
theorem a0v {n i : Nat} (h : i < n) : ∃ t, List.range n = List.range i ++ i :: t := by
 refine ⟨(List.range n).drop (i + 1), ?_⟩
 have h1 : (List.range n).take i = List.range i := by rw [List.take_range, fz (by omega)]
 have h2 := eL (l := List.range n) (i := i) (by simpa using h)
 rw [List.getElem_range] at h2
 rw [← h1, ← h2, fM]
def a0C (o : Org) (i : Nat) : Nat := ((iA o.dvs i).hi - (iA o.dvs i).lo + 1).toNat
def kAt (o : Org) (i k : Nat) : Ct := ((i : Int), (iA o.dvs i).lo + (k : Int))
def a2S (o : Org) (i k : Nat) : List Ct := (List.range i).flatMap (uZ o) ++ (List.range k).map (kAt o i)
theorem b0Z (o : Org) (i k : Nat) : a2S o i (k + 1) = a2S o i k ++ [kAt o i k] := by
 unfold a2S
 rw [eW, dx, dy]
 rfl
theorem b1H (o : Org) (i : Nat) : a2S o i (a0C o i) = (List.range (i + 1)).flatMap (uZ o) := by
 unfold a2S
 rw [eW, ee, dJ, fL, dp]
 rfl
theorem a8v (o : Org) {i k : Nat} (hi : i < o.dvs.length) (hk : k < a0C o i) : ∃ e, mT o = a2S o i k ++ kAt o i k :: e := by
 obtain ⟨t1, e1⟩ := a0v hi
 obtain ⟨t2, e2⟩ := a0v hk
 refine ⟨t2.map (kAt o i) ++ t1.flatMap (uZ o), ?_⟩
 unfold mT a2S
 rw [e1, ee, dJ]
 have : uZ o i = (List.range (a0C o i)).map (kAt o i) := rfl
 rw [this, e2, dx, dY]
 simp
theorem a5F (o : Org) (hf : o.Fine) (rg : Reg) (sv : Value) (AO AR : Nat) (f : Value) (J : List Ct → List Ob → Heap → Prop) (h0 : J [] [] H)
 (hg : ∀ d xs H1, J d xs H1 → Var H1 AO 4 [.string o.name, o.rv, o.dv, o.cv] ∧ o.In H1 ∧ Var H1 AR 3 [sv, .int .u64 rg.cpl, .int .u64 rg.off] ∧ rg.In H1 sv ∧ ∀ x ∈ xs, OwnAt prog H1 x)
 (hst : ∀ d xs H1 H2 ys, J d xs H1 → St prog H1 H2 ys → J d (xs ++ ys) H2)
 (hdr : ∀ d xs ys H1, J d (xs ++ ys) H1 → J d xs H1)
 (hy : ∀ d c e xs H1 H2 pv gv rest, mT o = d ++ c :: e → J d xs H1 → St prog H1 H2 [⟨gv, 2, pr (nR o rg c) ++ rest⟩] → pv = kS gv 2 0 (nR o rg c).length → qN prog f [.agg #[I c.1, I c.2], pv] H2 fun v H3 => v = .bool true ∧ J (d ++ [c]) xs H3) :
 FnS prog 136 [f, ptr AO 0 4, ptr AR 0 3] H fun _ H' => J (mT o) [] H' := by
 have hG0 := hg _ _ _ h0
 refine FnS.aW func136 rfl (by kernel_rfl) fun l hl => ?_
 have hn : l.length = 44 := by rw [hl]; rfl
 have g0 : get l 0 = f := by rw [hl]; rfl
 have g1 : get l 1 = (ptr AO 0 4) := by rw [hl]; rfl
 have g2 : get l 2 = (ptr AR 0 3) := by rw [hl]; rfl
 clear hl
 simp (disch := omega) only [↓RA, RZ, simprocAttr, hn, g1, ((hG0.1.ab (sR H).ab)).ld, ((sR H).sl hG0.2.1.2.2.1).len]
 refine Wp.al (fun n l H' => l.length = 44 ∧ get l 0 = f ∧ get l 1 = ptr AO 0 4 ∧ get l 2 = ptr AR 0 3 ∧ get l 11 = o.dv ∧ get l 12 = I o.dvs.length ∧ ∃ i : Nat, n + i = o.dvs.length ∧ get l 13 = I i ∧ J ((List.range i).flatMap (uZ o)) [] H') o.dvs.length ?_ ?_
 ·simp (disch := omega) only [RB, RC, simprocAttr, hn, g0, g1, g2]
  exact ⟨0, by omega, rfl, h0⟩
 rintro n l H9 ⟨hn, g0, g1, g2, g11, g12, i, hi, g13, hJ⟩
 obtain ⟨hV1, hO1, hV2, hR1, _⟩ := hg _ _ _ hJ
 have hdl := hO1.2.2.2.2.2.2.1
 simp (disch := omega) only [↓RA, RB, simprocAttr, hn, g12, g13]
 refine gZ (fun q1 => ?_) (fun q1 => ?_)
 ·have hki := hf.keys i (by omega)
  simp (disch := omega) only [↓RA, RZ, simprocAttr, hn, g11, g13, ((sR H9).sl hO1.2.2.1).idx, ((sR H9).sl hO1.2.2.1).ae, Dvn.cells, q1]
  refine (sR H9).eNew 5 [(.string ⟨#[]⟩), (.bool false), I 0, I 0, (.slice none 0 0)] rfl rfl rfl sW fun A1 H1 hS1 => ?_
  simp only [RT] at hS1
  simp (disch := omega) only [↓RA, RZ, simprocAttr, hn, q1]
  refine hS1.aa 0 rfl [(.string (iA o.dvs i).name), (.bool (iA o.dvs i).pedal), I (iA o.dvs i).lo, I (iA o.dvs i).hi, (iA o.dvs i).sv] rfl (by simp [OC, (hS1.sl (hO1.2.2.2.1 (iA o.dvs i) (iD (by omega))).1).cells.2.1]) sW (by simp) fun H2 hS2 => ?_
  simp only [RT] at hS2
  simp (disch := omega) only [↓RA, RZ, simprocAttr, hn, hS2.ld 0 rfl, q1]
  have hJ1 := hst _ _ _ _ _ hJ hS2
  have hcn : (a0C o i : Int) = (iA o.dvs i).hi - (iA o.dvs i).lo + 1 := by unfold a0C; omega
  refine Wp.al (fun n l H' => l.length = 44 ∧ get l 0 = f ∧ get l 1 = ptr AO 0 4 ∧ get l 2 = ptr AR 0 3 ∧ get l 4 = I i ∧ get l 5 = ptr A1 0 5 ∧ get l 11 = o.dv ∧ get l 12 = I o.dvs.length ∧ get l 13 = I i ∧ ∃ k : Nat, n + k = a0C o i ∧ get l 6 = I ((iA o.dvs i).lo + k) ∧ J (a2S o i k) [⟨ptr A1 0 5, 0, [.string (iA o.dvs i).name, .bool (iA o.dvs i).pedal, I (iA o.dvs i).lo, I (iA o.dvs i).hi, (iA o.dvs i).sv]⟩] H') (a0C o i) ?_ ?_
  ·simp (disch := omega) only [RB, RC, simprocAttr, hn, g0, g1, g2, g11, g12, g13]
   refine ⟨0, by omega, by simp, ?_⟩
   have e : a2S o i 0 = (List.range i).flatMap (uZ o) := by unfold a2S; simp
   rw [e]
   exact hJ1
  rintro n l H10 ⟨hn, g0, g1, g2, g4, g5, g11, g12, g13, k, hk, g6, hJ2⟩
  obtain ⟨hV3, hO3, hV4, hR3, hX3⟩ := hg _ _ _ hJ2
  have hV5 := (hX3 _ (dz.2 rfl)).var
  simp (disch := omega) only [↓RA, RZ, simprocAttr, hn, g5, g6, (hV5.ab (sR H10).ab).ld]
  refine gZ (fun q2 => ?_) (fun q2 => ?_)
  ·simp (disch := omega) only [↓RA, RZ, simprocAttr, hn, g4, g6, a1i, q2]
   refine (sR H10).eNew 2 [I 0, I 0] rfl rfl rfl qQ fun A2 H3 hS3 => ?_
   simp only [RT] at hS3
   simp (disch := omega) only [↓RA, RZ, simprocAttr, hn, q2]
   refine hS3.aa 0 rfl [I i, I ((iA o.dvs i).lo + k)] rfl rfl qQ (by simp) fun H4 hS4 => ?_
   simp only [RT] at hS4
   simp (disch := omega) only [↓RA, RZ, simprocAttr, hn, g1, g2, (hV3.ab hS4.ab).ae, (hV4.ab hS4.ab).ae, hS4.ae 0 rfl, q2]
   have hJ3 := hdr _ _ _ _ (hst _ _ _ _ _ hJ2 hS4)
   refine iJ (c1v o (hO3.ab hS4) rg sv (hR3.ab hS4) (kAt o i k)) ?_
   rintro r H5 ⟨pv, rfl, gv, rest, he9, hT1⟩
   have hS5 := hS4.trans hT1
   simp only [RT] at hS5
   have hx : Sl 2 kB H5 pv (nR o rg (kAt o i k)) := by rw [he9]; exact (yE hT1).1
   simp (disch := omega) only [↓RA, RZ, simprocAttr, hn, g0, hS5.ae 0 rfl, q2]
   obtain ⟨e, he⟩ := a8v o (i := i) (k := k) (by omega) (by omega)
   refine a1l (hy _ (kAt o i k) e _ _ _ pv gv rest he hJ3 hT1 he9) ?_
   rintro r H13 ⟨rfl, hJ4⟩
   rw [← b0Z] at hJ4
   simp (disch := omega) only [↓RA, RZ, simprocAttr, hn, g0, g1, g2, g4, g5, g6, g11, g12, g13, q2]
   exact ⟨n - 1, by omega, k + 1, by omega, by congr 1; omega, hJ4⟩
  simp (disch := omega) only [↓RA, RZ, simprocAttr, hn, g0, g1, g2, g11, g12, g13, q2]
  have e : k = a0C o i := by omega
  rw [e, b1H] at hJ2
  exact ⟨o.dvs.length - (i + 1), by omega, i + 1, by omega, by simp, hdr _ [] _ _ hJ2⟩
 simp (disch := omega) only [↓RA, RZ, simprocAttr, c2R, q1]
 have e : i = o.dvs.length := by omega
 subst e
 exact hJ
theorem a9U (o : Org) (hf : o.Fine) (rg : Reg) (sv : Value) (AO AR : Nat) (f : Value) (J : List Ct → List Ob → Heap → Prop) (h0 : J [] [] H)
 (hg : ∀ d xs H1, J d xs H1 → Var H1 AO 4 [.string o.name, o.rv, o.dv, o.cv] ∧ o.In H1 ∧ Var H1 AR 3 [sv, .int .u64 rg.cpl, .int .u64 rg.off] ∧ rg.In H1 sv ∧ ∀ x ∈ xs, OwnAt prog H1 x)
 (hst : ∀ d xs H1 H2 ys, J d xs H1 → St prog H1 H2 ys → J d (xs ++ ys) H2)
 (hdr : ∀ d xs ys H1, J d (xs ++ ys) H1 → J d xs H1)
 (hy : ∀ d c e xs H1 H2 pv, mT o = d ++ c :: e → J d xs H1 → St prog H1 H2 [] → Slx 2 kB H2 (fun B => H1.length ≤ B) pv (nR o rg c) → qN prog f [.agg #[I c.1, I c.2], pv] H2 fun v H3 => v = .bool true ∧ J (d ++ [c]) xs H3) :
 FnS prog 136 [f, ptr AO 0 4, ptr AR 0 3] H fun _ H' => J (mT o) [] H' :=
 a5F o hf rg sv AO AR f J h0 hg hst hdr fun d c e xs H1 H2 pv _ _ he hJ hS hp => hy d c e xs H1 H2 pv he hJ hS.forget (by rw [hp]; exact yE hS)
def nO (x n : Nat) : List Nat := (List.range n).filter fun i => x.testBit i
theorem oU (x n : Nat) : nO x (n + 1) = nO x n ++ (if x.testBit n then [n] else []) := by
 unfold nO
 rw [eW, eB, List.filter_cons, List.filter_nil]
theorem pM (x n : Nat) : (nO x n).length ≤ n := by
 unfold nO
 refine dE (dX _ _) ?_
 simp
theorem a4M (x : Nat) : Fn prog 184 [.int .u64 x] H fun r H' => ∃ A, r = .func (.func 228) #[] #[ptr A 0 1] ∧ St prog H H' [⟨ptr A 0 1, 0, [.int .u64 x]⟩] := by
 refine .aY func184 rfl (by kernel_rfl) (m := 4) rfl fun l hn g0 => ?_
 simp (disch := omega) only [↓RA, RB, simprocAttr, g0]
 refine (sR H).eNew 1 [(.int .u64 x)] rfl rfl rfl a4Y fun A1 H1 hS1 => ?_
 simp only [RT] at hS1
 simp (disch := omega) only [↓RA, RZ, simprocAttr, hn, c3t]
 exact ⟨A1, rfl, hS1⟩
abbrev lY (l : List Ctl) : List Value := l.flatMap Ctl.cells
theorem mC (l : List Ctl) : (lY l).length = l.length * 3 := iM (n := 3) (fun _ => rfl) l
theorem wW (l : List Ctl) (x : Ctl) : lY (l ++ [x]) = lY l ++ [I x.kind, I x.dv, I x.ix] := by
 unfold lY
 rw [ee]
 rfl
def yI (rg : Reg) (d : Nat) : List Ctl := (List.range d).flatMap fun d => (sM (iA rg.stops d)).map (zR d)
theorem a3n (rg : Reg) (d : Nat) : yI rg (d + 1) = yI rg d ++ (nO (iA rg.stops d) 64).map (zR d) := by
 unfold yI
 rw [eW, ee, dJ, fL, dp]
 rfl
theorem a0K (rg : Reg) : ∀ d, (yI rg d).length ≤ d * 64
 | 0 => by simp [yI]
 | d + 1 => by
   have := a0K rg d
   have h2 := pM (iA rg.stops d) 64
   rw [a3n, dg, dH]
   omega
theorem b1v (rg : Reg) (sv : Value) (hr : rg.In H sv) (hl : rg.stops.length ≤ 60) : Fn prog 134 [.agg #[sv, .int .u64 rg.cpl, .int .u64 rg.off]] H fun r H' => St prog H H' [⟨r, 3, lY (oS rg)⟩] := by
 refine .aY func134 rfl (by kernel_rfl) (m := 46) rfl fun l hn g0 => ?_
 simp (disch := omega) only [↓RA, RB, simprocAttr, g0]
 refine (sR H).eNew 3 [sv, (.int .u64 rg.cpl), (.int .u64 rg.off)] rfl rfl (by simp [OC, ((sR H).sl hr.1).cells.2.1]) lN fun A1 H1 hS1 => ?_
 simp only [RT] at hS1
 simp (disch := omega) only [↓RA, RZ, simprocAttr]
 refine hS1.eNew 1 [(.slice none 0 0)] rfl rfl rfl a6C fun A2 H2 hS2 => ?_
 simp only [RT] at hS2
 simp (disch := omega) only [↓RA, RZ, simprocAttr, hn, hS2.ld 0 rfl, (hS2.sl hr.1).len]
 have hS3 := hS2.nil 2
 simp only [RT] at hS3
 refine Wp.al (fun n l H' => l.length = 46 ∧ get l 1 = (ptr A1 0 3) ∧ get l 2 = (.slice none 0 0) ∧ get l 3 = (ptr A2 0 1) ∧ get l 10 = sv ∧ get l 11 = I rg.stops.length ∧ ∃ (d : Nat) (ov : Value), (n + d = rg.stops.length) ∧ get l 12 = I d ∧ St prog H H' [⟨ptr A1 0 3, 0, [sv, (.int .u64 rg.cpl), (.int .u64 rg.off)]⟩, ⟨ptr A2 0 1, 0, [ov]⟩, ⟨ov, 3, lY (yI rg d)⟩]) rg.stops.length ?_ ?_
 ·simp (disch := omega) only [RB, RC, simprocAttr, hn]
  exact ⟨0, .slice none 0 0, by omega, rfl, hS3⟩
 rintro n l H3 ⟨hn, g1, g2, g3, yR, g11, d, ov, hd, g12, hS4⟩
 simp (disch := omega) only [↓RA, RB, simprocAttr, hn, g11, g12]
 refine gZ (fun q1 => ?_) (fun q1 => ?_)
 ·have hsx := hr.2.2.1 _ (iD (xs := rg.stops) (j := d) (by omega))
  have hal := a0K rg d
  simp (disch := omega) only [↓RA, RZ, simprocAttr, hn, yR, g12, (hS4.sl hr.1).idx, (hS4.sl hr.1).ld, one, u64, q1]
  refine hS4.eNew 1 [I 0] rfl rfl rfl tS3 fun A3 H4 hS5 => ?_
  simp only [RT] at hS5
  simp (disch := omega) only [↓RA, RZ, simprocAttr, hn, q1]
  refine hS5.aa 3 rfl [I d] rfl rfl tS3 (by simp) fun H5 hS6 => ?_
  simp only [RT] at hS6
  simp (disch := omega) only [↓RA, RZ, simprocAttr, hn, q1]
  refine iJ (a4M (iA rg.stops d)) ?_
  rintro r H6 ⟨A4, rfl, hT1⟩
  have hS7 := hS6.trans hT1
  simp only [RT] at hS7
  simp (disch := omega) only [↓RA, RZ, simprocAttr, q1]
  refine Wp.bg fun lrg1 hlrg1 => ?_
  have hnrg1 : lrg1.length = 46 := by rw [hlrg1]; simp (disch := omega) only [RB, simprocAttr, hn]
  have g1rg1 : get lrg1 1 = (ptr A1 0 3) := by rw [hlrg1]; simp (disch := omega) only [RB, simprocAttr, g1]
  have g2rg1 : get lrg1 2 = (.slice none 0 0) := by rw [hlrg1]; simp (disch := omega) only [RB, simprocAttr, g2]
  have g3rg1 : get lrg1 3 = (ptr A2 0 1) := by rw [hlrg1]; simp (disch := omega) only [RB, simprocAttr, g3]
  have g4rg1 : get lrg1 4 = (ptr A3 0 1) := by rw [hlrg1]; simp (disch := omega) only [RB, simprocAttr, hn]
  have g10rg1 : get lrg1 10 = sv := by rw [hlrg1]; simp (disch := omega) only [RB, simprocAttr, yR]
  have g11rg1 : get lrg1 11 = I rg.stops.length := by rw [hlrg1]; simp (disch := omega) only [RB, simprocAttr, g11]
  have g12rg1 : get lrg1 12 = I d := by rw [hlrg1]; simp (disch := omega) only [RB, simprocAttr, g12]
  have gfrg1 : get lrg1 18 = .func (.func 228) #[] [(ptr A4 0 1)].toArray := by rw [hlrg1]; simp (disch := omega) only [RB, simprocAttr, hn]
  clear hlrg1
  refine Wp.aZ gfrg1 fun rg1 hstrg1 hpdrg1 htmrg1 hpsrg1 hasrg1 hbdrg1 => ?_
  have hreqrg1 : ({ rg1 with state := .ready, pending := none } : Loop) = rg1 := by
   cases rg1
   simp only at hstrg1 hpdrg1
   subst hstrg1 hpdrg1
   rfl
  have hLprg1 := Lp.enter hS7 rg1
  generalize H6.cons (.loop rg1) = Hcrg1 at hLprg1 ⊢
  generalize H6.length = Lrg1 at hLprg1 ⊢
  refine (a5e (iA rg.stops d) hsx A4 (.func (.yield Lrg1) #[] #[]) (fun j H1 => ∃ ow, Lp prog H Lrg1 rg1 H1 [⟨ptr A1 0 3, 0, [sv, .int .u64 rg.cpl, .int .u64 rg.off]⟩, ⟨ptr A2 0 1, 0, [ow]⟩, ⟨ow, 3, lY (yI rg d ++ (nO (iA rg.stops d) j).map (zR d))⟩, ⟨ptr A3 0 1, 0, [I d]⟩, ⟨ptr A4 0 1, 0, [.int .u64 ((iA rg.stops d : Nat) : Int)]⟩]) ⟨ov, ?_⟩ ?_ ?_ ?_).mono ?_
  ·rw [show (nO (iA rg.stops d) 0).map (zR d) = [] from rfl, dp]
   exact hLprg1
  ·rintro j H1 ⟨ow, h⟩
   exact h.st.var 4 rfl
  ·rintro j H1 hj hb ⟨ow, h⟩
   refine ⟨ow, ?_⟩
   rw [oU (iA rg.stops d) j, hb, if_neg (by simp), dp]
   exact h
  ·rintro j H20 hj hb ⟨ow, hLpj⟩
   have hbl := pM (iA rg.stops d) j
   have hroom : (lY (yI rg d ++ (nO (iA rg.stops d) j).map (zR d))).length ≤ 20000 := by
    rw [mC, dg, dH]
    omega
   refine mO hLpj.get (by rw [hpsrg1]; rfl) hstrg1 ?_
   refine Wp.aE (l := put lrg1 (some 19) (I j)) hasrg1 (by rw [hpsrg1, htmrg1]; first | exact (kI ..).symm | rfl | simp [put, kI]) ?_
   simp (disch := omega) only [↓RA, RZ, simprocAttr, hnrg1]
   refine ⟨rg1, hLpj.get, hstrg1, ?_⟩
   have hYBs1 := hLpj.set (fun h => h) { rg1 with state := .busy }
   have hKBs1 : ∀ B, B ≠ Lrg1 → iL (hset H20 Lrg1 (.loop { rg1 with state := .busy })) B = iL H20 B := fun B h => iI _ (ey h)
   have hNBs1 : (hset H20 Lrg1 (.loop { rg1 with state := .busy })).length = H20.length := iY ..
   generalize hset H20 Lrg1 (.loop { rg1 with state := .busy }) = HBs1 at hYBs1 hKBs1 hNBs1 ⊢
   refine Wp.aE hbdrg1 rfl ?_
   have hZBs1 := hYBs1.st
   obtain ⟨Bs1, hBBs1, hS8⟩ := hZBs1.ay (os := [⟨ptr A1 0 3, 0, _⟩, ⟨ptr A2 0 1, 0, _⟩, ⟨ow, 3, _⟩, ⟨ptr A3 0 1, 0, _⟩, ⟨ptr A4 0 1, 0, _⟩])
   simp (disch := omega) only [↓RA, RZ, simprocAttr, hnrg1, g3rg1, g4rg1, hS8.ld 1 rfl, hS8.ld 3 rfl, a6J]
   refine hS8.ai [I 1, I d, I j] a0l b0a rfl rfl (by simp [Value.cells]) rfl rfl (by decide) (by decide) fun w1 H7 hS9 => ?_
   simp only [RT] at hS9
   simp (disch := omega) only [↓RA, RZ, simprocAttr, hnrg1]
   refine hS9.aq 2 rfl (hS9.rd 5 rfl) a0l (by have h := hroom; simp only [ed, eA]; omega) fun w2 H8 hS10 => ?_
   simp only [RT] at hS10
   simp (disch := omega) only [↓RA, RB, simprocAttr, hnrg1, g3rg1]
   refine hS10.aa 1 rfl [w2] (by rw [(hS10.rd 2 rfl).cells.1]) (by simp [(hS10.rd 2 rfl).cells.2.1]) a6C (by simp) fun H9 hS11 => ?_
   simp only [RT] at hS11
   simp (disch := omega) only [↓RA, simprocAttr]
   have hS12 := hS11.pick (os' := [⟨ptr A1 0 3, 0, _⟩, ⟨ptr A2 0 1, 0, _⟩, ⟨w2, 3, _⟩, ⟨ptr A3 0 1, 0, _⟩, ⟨ptr A4 0 1, 0, _⟩]) [0, 1, 2, 3, 4] (by decide) rfl
   have hWBs1 := (hYBs1.body (hBBs1 ▸ hS12)).set (fun h => h) rg1
   rw [← hreqrg1] at hWBs1
   refine ⟨_, (hYBs1.body (hBBs1 ▸ hS12)).get, rfl, w2, ?_⟩
   rw [oU (iA rg.stops d) j, hb, if_pos rfl, dx, ← dy, dY, fR, wW]
   exact hreqrg1 ▸ hWBs1
  ·rintro _ H21 ⟨ow, hLp2⟩
   rw [← a3n] at hLp2
   refine ⟨_, hLp2.get, (by rw [hstrg1]; exact fun h => by cases h), fun _ => ?_, fun c hc => by rw [hpdrg1] at hc; cases hc⟩
   have hAAf1 := (hLp2.set (fun h => h) { rg1 with state := .exhausted }).st
   have hKAf1 : ∀ B, B ≠ Lrg1 → iL (hset H21 Lrg1 (.loop { rg1 with state := .exhausted })) B = iL H21 B := fun B h => iI _ (ey h)
   generalize hset H21 Lrg1 (.loop { rg1 with state := .exhausted }) = HAf1 at hAAf1 hKAf1 ⊢
   simp (disch := omega) only [↓RA, RZ, simprocAttr, hnrg1, g1rg1, g2rg1, g3rg1, g10rg1, g11rg1, g12rg1]
   exact ⟨rg.stops.length - (d + 1), by omega, d + 1, ow, by omega, by simp, hAAf1.pick [0, 1, 2] (by decide) rfl⟩
 have hdd : d = rg.stops.length := by omega
 subst hdd
 have hal := a0K rg rg.stops.length
 simp (disch := omega) only [↓RA, RZ, simprocAttr, hn, g1, hS4.ld 0 rfl, q1]
 refine iJ (a4M rg.cpl) ?_
 rintro r H10 ⟨A5, rfl, hT2⟩
 have hS13 := hS4.trans hT2
 simp only [RT] at hS13
 simp (disch := omega) only [↓RA, RC, simprocAttr, q1]
 refine Wp.bg fun lrg2 hlrg2 => ?_
 have hnrg2 : lrg2.length = 46 := by rw [hlrg2]; simp (disch := omega) only [RB, simprocAttr, hn]
 have g1rg2 : get lrg2 1 = (ptr A1 0 3) := by rw [hlrg2]; simp (disch := omega) only [RB, simprocAttr, g1]
 have g2rg2 : get lrg2 2 = (.slice none 0 0) := by rw [hlrg2]; simp (disch := omega) only [RB, simprocAttr, g2]
 have g3rg2 : get lrg2 3 = (ptr A2 0 1) := by rw [hlrg2]; simp (disch := omega) only [RB, simprocAttr, g3]
 have gfrg2 : get lrg2 29 = .func (.func 228) #[] [(ptr A5 0 1)].toArray := by rw [hlrg2]; simp (disch := omega) only [RB, simprocAttr, hn]
 clear hlrg2
 refine Wp.aZ gfrg2 fun rg2 hstrg2 hpdrg2 htmrg2 hpsrg2 hasrg2 hbdrg2 => ?_
 have hreqrg2 : ({ rg2 with state := .ready, pending := none } : Loop) = rg2 := by
  cases rg2
  simp only at hstrg2 hpdrg2
  subst hstrg2 hpdrg2
  rfl
 have hLprg2 := Lp.enter hS13 rg2
 generalize H10.cons (.loop rg2) = Hcrg2 at hLprg2 ⊢
 generalize H10.length = Lrg2 at hLprg2 ⊢
 refine (a5e rg.cpl hr.2.2.2.1 A5 (.func (.yield Lrg2) #[] #[]) (fun j H1 => ∃ ow, Lp prog H Lrg2 rg2 H1 [⟨ptr A1 0 3, 0, [sv, .int .u64 rg.cpl, .int .u64 rg.off]⟩, ⟨ptr A2 0 1, 0, [ow]⟩, ⟨ow, 3, lY (yI rg rg.stops.length ++ (nO rg.cpl j).map vP)⟩, ⟨ptr A5 0 1, 0, [.int .u64 (rg.cpl : Int)]⟩]) ⟨ov, ?_⟩ ?_ ?_ ?_).mono ?_
 ·rw [show (nO rg.cpl 0).map vP = [] from rfl, dp]
  exact hLprg2
 ·rintro j H1 ⟨ow, h⟩
  exact h.st.var 3 rfl
 ·rintro j H1 hj hb ⟨ow, h⟩
  refine ⟨ow, ?_⟩
  rw [oU rg.cpl j, hb, if_neg (by simp), dp]
  exact h
 ·rintro j H20 hj hb ⟨ow, hLpj⟩
  have hbl := pM rg.cpl j
  have hroom : (lY (yI rg rg.stops.length ++ (nO rg.cpl j).map vP)).length ≤ 20000 := by
   rw [mC, dg, dH]
   omega
  refine mO hLpj.get (by rw [hpsrg2]; rfl) hstrg2 ?_
  refine Wp.aE (l := put lrg2 (some 30) (I j)) hasrg2 (by rw [hpsrg2, htmrg2]; first | exact (kI ..).symm | rfl | simp [put, kI]) ?_
  simp (disch := omega) only [↓RA, RZ, simprocAttr, hnrg2]
  refine ⟨rg2, hLpj.get, hstrg2, ?_⟩
  have hYBs2 := hLpj.set (fun h => h) { rg2 with state := .busy }
  have hKBs2 : ∀ B, B ≠ Lrg2 → iL (hset H20 Lrg2 (.loop { rg2 with state := .busy })) B = iL H20 B := fun B h => iI _ (ey h)
  have hNBs2 : (hset H20 Lrg2 (.loop { rg2 with state := .busy })).length = H20.length := iY ..
  generalize hset H20 Lrg2 (.loop { rg2 with state := .busy }) = HBs2 at hYBs2 hKBs2 hNBs2 ⊢
  refine Wp.aE hbdrg2 rfl ?_
  have hZBs2 := hYBs2.st
  obtain ⟨Bs2, hBBs2, hS14⟩ := hZBs2.ay (os := [⟨ptr A1 0 3, 0, _⟩, ⟨ptr A2 0 1, 0, _⟩, ⟨ow, 3, _⟩, ⟨ptr A5 0 1, 0, _⟩])
  simp (disch := omega) only [↓RA, RZ, simprocAttr, hnrg2, g3rg2, hS14.ld 1 rfl, a2W]
  refine hS14.ai [I 2, I 0, I j] a0l b0a rfl rfl (by simp [Value.cells]) rfl rfl (by decide) (by decide) fun w3 H11 hS15 => ?_
  simp only [RT] at hS15
  simp (disch := omega) only [↓RA, RZ, simprocAttr, hnrg2]
  refine hS15.aq 2 rfl (hS15.rd 4 rfl) a0l (by have h := hroom; simp only [ed, eA]; omega) fun w4 H12 hS16 => ?_
  simp only [RT] at hS16
  simp (disch := omega) only [↓RA, RB, simprocAttr, hnrg2, g3rg2]
  refine hS16.aa 1 rfl [w4] (by rw [(hS16.rd 2 rfl).cells.1]) (by simp [(hS16.rd 2 rfl).cells.2.1]) a6C (by simp) fun H13 hS17 => ?_
  simp only [RT] at hS17
  simp (disch := omega) only [↓RA, simprocAttr]
  have hS18 := hS17.pick (os' := [⟨ptr A1 0 3, 0, _⟩, ⟨ptr A2 0 1, 0, _⟩, ⟨w4, 3, _⟩, ⟨ptr A5 0 1, 0, _⟩]) [0, 1, 2, 3] (by decide) rfl
  have hWBs2 := (hYBs2.body (hBBs2 ▸ hS18)).set (fun h => h) rg2
  rw [← hreqrg2] at hWBs2
  refine ⟨_, (hYBs2.body (hBBs2 ▸ hS18)).get, rfl, w4, ?_⟩
  rw [oU rg.cpl j, hb, if_pos rfl, dx, ← dy, dY, fR, wW]
  exact hreqrg2 ▸ hWBs2
 rintro _ H22 ⟨ow, hLp2⟩
 have hb2 := pM rg.cpl 64
 refine ⟨_, hLp2.get, (by rw [hstrg2]; exact fun h => by cases h), fun _ => ?_, fun c hc => by rw [hpdrg2] at hc; cases hc⟩
 have hAAf2 := (hLp2.set (fun h => h) { rg2 with state := .exhausted }).st
 have hKAf2 : ∀ B, B ≠ Lrg2 → iL (hset H22 Lrg2 (.loop { rg2 with state := .exhausted })) B = iL H22 B := fun B h => iI _ (ey h)
 generalize hset H22 Lrg2 (.loop { rg2 with state := .exhausted }) = HAf2 at hAAf2 hKAf2 ⊢
 simp (disch := omega) only [↓RA, RZ, simprocAttr, hnrg2, g1rg2, hAAf2.ld 0 rfl]
 refine iJ (a4M rg.off) ?_
 rintro r H14 ⟨A6, rfl, hT3⟩
 have hS19 := hAAf2.trans hT3
 simp only [RT] at hS19
 simp (disch := omega) only [↓RA, simprocAttr]
 have hal2 : (yI rg rg.stops.length ++ (nO rg.cpl 64).map vP).length ≤ 3904 := by
  rw [dg, dH]
  omega
 refine Wp.bg fun lrg3 hlrg3 => ?_
 have hnrg3 : lrg3.length = 46 := by rw [hlrg3]; simp (disch := omega) only [RB, simprocAttr, hnrg2]
 have g2rg3 : get lrg3 2 = (.slice none 0 0) := by rw [hlrg3]; simp (disch := omega) only [RB, simprocAttr, g2rg2]
 have g3rg3 : get lrg3 3 = (ptr A2 0 1) := by rw [hlrg3]; simp (disch := omega) only [RB, simprocAttr, g3rg2]
 have gfrg3 : get lrg3 38 = .func (.func 228) #[] [(ptr A6 0 1)].toArray := by rw [hlrg3]; simp (disch := omega) only [RB, simprocAttr, hnrg2]
 clear hlrg3
 refine Wp.aZ gfrg3 fun rg3 hstrg3 hpdrg3 htmrg3 hpsrg3 hasrg3 hbdrg3 => ?_
 have hreqrg3 : ({ rg3 with state := .ready, pending := none } : Loop) = rg3 := by
  cases rg3
  simp only at hstrg3 hpdrg3
  subst hstrg3 hpdrg3
  rfl
 have hLprg3 := Lp.enter hS19 rg3
 generalize H14.cons (.loop rg3) = Hcrg3 at hLprg3 ⊢
 generalize H14.length = Lrg3 at hLprg3 ⊢
 refine (a5e rg.off hr.2.2.2.2 A6 (.func (.yield Lrg3) #[] #[]) (fun j H1 => ∃ ow, Lp prog H Lrg3 rg3 H1 [⟨ptr A1 0 3, 0, [sv, .int .u64 rg.cpl, .int .u64 rg.off]⟩, ⟨ptr A2 0 1, 0, [ow]⟩, ⟨ow, 3, lY ((yI rg rg.stops.length ++ (nO rg.cpl 64).map vP) ++ (nO rg.off j).map a4I)⟩, ⟨ptr A5 0 1, 0, [.int .u64 (rg.cpl : Int)]⟩, ⟨ptr A6 0 1, 0, [.int .u64 (rg.off : Int)]⟩]) ⟨ow, ?_⟩ ?_ ?_ ?_).mono ?_
 ·rw [show (nO rg.off 0).map a4I = [] from rfl, dp]
  exact hLprg3
 ·rintro j H1 ⟨ow, h⟩
  exact h.st.var 4 rfl
 ·rintro j H1 hj hb ⟨ow, h⟩
  refine ⟨ow, ?_⟩
  rw [oU rg.off j, hb, if_neg (by simp), dp]
  exact h
 ·rintro j H20 hj hb ⟨ow, hLpj⟩
  have hbl := pM rg.off j
  have hroom : (lY ((yI rg rg.stops.length ++ (nO rg.cpl 64).map vP) ++ (nO rg.off j).map a4I)).length ≤ 20000 := by
   rw [mC, dg, dH]
   omega
  refine mO hLpj.get (by rw [hpsrg3]; rfl) hstrg3 ?_
  refine Wp.aE (l := put lrg3 (some 39) (I j)) hasrg3 (by rw [hpsrg3, htmrg3]; first | exact (kI ..).symm | rfl | simp [put, kI]) ?_
  simp (disch := omega) only [↓RA, RZ, simprocAttr, hnrg3]
  refine ⟨rg3, hLpj.get, hstrg3, ?_⟩
  have hYBs3 := hLpj.set (fun h => h) { rg3 with state := .busy }
  have hKBs3 : ∀ B, B ≠ Lrg3 → iL (hset H20 Lrg3 (.loop { rg3 with state := .busy })) B = iL H20 B := fun B h => iI _ (ey h)
  have hNBs3 : (hset H20 Lrg3 (.loop { rg3 with state := .busy })).length = H20.length := iY ..
  generalize hset H20 Lrg3 (.loop { rg3 with state := .busy }) = HBs3 at hYBs3 hKBs3 hNBs3 ⊢
  refine Wp.aE hbdrg3 rfl ?_
  have hZBs3 := hYBs3.st
  obtain ⟨Bs3, hBBs3, hS20⟩ := hZBs3.ay (os := [⟨ptr A1 0 3, 0, _⟩, ⟨ptr A2 0 1, 0, _⟩, ⟨ow, 3, _⟩, ⟨ptr A5 0 1, 0, _⟩, ⟨ptr A6 0 1, 0, _⟩])
  simp (disch := omega) only [↓RA, RZ, simprocAttr, hnrg3, g3rg3, hS20.ld 1 rfl, b2e]
  refine hS20.ai [I 3, I j, I 0] a0l b0a rfl rfl (by simp [Value.cells]) rfl rfl (by decide) (by decide) fun w5 H15 hS21 => ?_
  simp only [RT] at hS21
  simp (disch := omega) only [↓RA, RZ, simprocAttr, hnrg3]
  refine hS21.aq 2 rfl (hS21.rd 5 rfl) a0l (by have h := hroom; simp only [ed, eA]; omega) fun w6 H16 hS22 => ?_
  simp only [RT] at hS22
  simp (disch := omega) only [↓RA, RB, simprocAttr, hnrg3, g3rg3]
  refine hS22.aa 1 rfl [w6] (by rw [(hS22.rd 2 rfl).cells.1]) (by simp [(hS22.rd 2 rfl).cells.2.1]) a6C (by simp) fun H17 hS23 => ?_
  simp only [RT] at hS23
  simp (disch := omega) only [↓RA, simprocAttr]
  have hS24 := hS23.pick (os' := [⟨ptr A1 0 3, 0, _⟩, ⟨ptr A2 0 1, 0, _⟩, ⟨w6, 3, _⟩, ⟨ptr A5 0 1, 0, _⟩, ⟨ptr A6 0 1, 0, _⟩]) [0, 1, 2, 3, 4] (by decide) rfl
  have hWBs3 := (hYBs3.body (hBBs3 ▸ hS24)).set (fun h => h) rg3
  rw [← hreqrg3] at hWBs3
  refine ⟨_, (hYBs3.body (hBBs3 ▸ hS24)).get, rfl, w6, ?_⟩
  rw [oU rg.off j, hb, if_pos rfl, dx, ← dy, dY, fR, wW]
  exact hreqrg3 ▸ hWBs3
 rintro _ H23 ⟨oz, hLp3⟩
 refine ⟨_, hLp3.get, (by rw [hstrg3]; exact fun h => by cases h), fun _ => ?_, fun c hc => by rw [hpdrg3] at hc; cases hc⟩
 have hAAf3 := (hLp3.set (fun h => h) { rg3 with state := .exhausted }).st
 have hKAf3 : ∀ B, B ≠ Lrg3 → iL (hset H23 Lrg3 (.loop { rg3 with state := .exhausted })) B = iL H23 B := fun B h => iI _ (ey h)
 generalize hset H23 Lrg3 (.loop { rg3 with state := .exhausted }) = HAf3 at hAAf3 hKAf3 ⊢
 simp (disch := omega) only [↓RA, RZ, simprocAttr, hnrg3, g3rg3, hAAf3.ld 1 rfl, c2p]
 exact hAAf3.pick [2] (by decide) rfl
structure Pv where
 v : Value
 l : List Ct
 deriving Inhabited
def Pv.cells (p : Pv) : List Value := [p.v]
def Pv.Ix (H : Heap) (X : Nat → Prop) (p : Pv) : Prop := Slx 2 kB H X p.v p.l
theorem Pv.Ix.step {H' : Heap} {X Y : Nat → Prop} {p : Pv} (h : p.Ix H X) (hk : Kept H X H' Y) : p.Ix H' Y := Slx.step h hk
theorem Kept.and {H' : Heap} {X Y : Nat → Prop} (Q : Nat → Prop) (h : Kept H X H' Y) : Kept H (fun B => Q B ∧ X B) H' (fun B => Q B ∧ Y B) :=
 fun B hX hB => ⟨(h B hX.2 hB).1, hX.1, (h B hX.2 hB).2⟩
abbrev oC (o : Org) : List Value := [.string o.name, o.rv, o.dv, o.cv]
abbrev rC (rg : Reg) (sv : Value) : List Value := [sv, .int .u64 rg.cpl, .int .u64 rg.off]
theorem a2k (o : Org) (ho : o.In H) (rg : Reg) (sv : Value) (hr : rg.In H sv) : Fn prog 83 [.agg #[.string o.name, o.rv, o.dv, o.cv], .agg #[sv, .int .u64 rg.cpl, .int .u64 rg.off]] H fun r H' =>
 ∃ AO AR, r = .func (.func 136) #[] #[ptr AO 0 4, ptr AR 0 3] ∧ St prog H H' [⟨ptr AO 0 4, 0, [.string o.name, o.rv, o.dv, o.cv]⟩, ⟨ptr AR 0 3, 0, [sv, .int .u64 rg.cpl, .int .u64 rg.off]⟩] := by
 refine .aC func83 rfl (by kernel_rfl) (m := 6) rfl fun l hn g0 g1 => ?_
 simp (disch := omega) only [↓RA, RB, simprocAttr, g0]
 refine (sR H).eNew 4 [(.string o.name), o.rv, o.dv, o.cv] rfl rfl (by simp [OC, ((sR H).sl ho.1).cells.2.1, ((sR H).sl ho.2.2.1).cells.2.1, ((sR H).sl ho.2.2.2.2.1).cells.2.1]) lV fun A1 H1 hS1 => ?_
 simp only [RT] at hS1
 simp (disch := omega) only [↓RA, RB, simprocAttr, g1]
 refine hS1.eNew 3 [sv, (.int .u64 rg.cpl), (.int .u64 rg.off)] rfl rfl (by simp [OC, (hS1.sl hr.1).cells.2.1]) lN fun A2 H2 hS2 => ?_
 simp only [RT] at hS2
 simp (disch := omega) only [↓RA, RZ, simprocAttr, hn, c4F]
 exact ⟨A1, A2, rfl, hS2⟩
theorem tG {o : Org} (hf : o.Fine) : (mT o).length ≤ 1024 := by
 have key : ∀ n, n ≤ o.dvs.length → ((List.range n).flatMap (uZ o)).length ≤ n * 128 := by
  intro n
  induction n with
  | zero => intro _; simp
  | succ n ih =>
    intro hn
    have h1 := ih (by omega)
    have h2 := hf.keys n (by omega)
    have h3 : (uZ o n).length = a0C o n := by simp [uZ, a0C]
    have h4 : a0C o n ≤ 128 := by unfold a0C; omega
    rw [eW, ee, dJ, fL, dp, dg]
    omega
 have := key o.dvs.length (di _)
 have := hf.dlen
 unfold mT
 omega
theorem a3c (o : Org) (ho : o.In H) (hf : o.Fine) (rg : Reg) (sv : Value) (hr : rg.In H sv) : Fn prog 179 [.agg #[.string o.name, o.rv, o.dv, o.cv], .agg #[sv, .int .u64 rg.cpl, .int .u64 rg.off]] H fun r H' =>
 ∃ ps : List Pv, ps.map (·.l) = pR o rg ∧ Slx 1 Pv.cells H' (fun B => H.length ≤ B) r ps ∧ (∀ p ∈ ps, p.Ix H' (fun B => H.length ≤ B)) ∧ St prog H H' [] := by
 refine .aC func179 rfl (by kernel_rfl) (m := 18) rfl fun l hn g0 g1 => ?_
 simp (disch := omega) only [↓RA, RB, simprocAttr, g0]
 refine (sR H).eNew 4 [(.string o.name), o.rv, o.dv, o.cv] rfl rfl (by simp [OC, ((sR H).sl ho.1).cells.2.1, ((sR H).sl ho.2.2.1).cells.2.1, ((sR H).sl ho.2.2.2.2.1).cells.2.1]) lV fun A1 H1 hS1 => ?_
 simp only [RT] at hS1
 simp (disch := omega) only [↓RA, RB, simprocAttr, g1]
 refine hS1.eNew 3 [sv, (.int .u64 rg.cpl), (.int .u64 rg.off)] rfl rfl (by simp [OC, (hS1.sl hr.1).cells.2.1]) lN fun A2 H2 hS2 => ?_
 simp only [RT] at hS2
 simp (disch := omega) only [↓RA, RZ, simprocAttr]
 refine hS2.eNew 1 [(.slice none 0 0)] rfl rfl rfl a6e fun A3 H3 hS3 => ?_
 simp only [RT] at hS3
 simp (disch := omega) only [↓RA, RZ, simprocAttr, hn, hS3.ae 0 rfl, hS3.ae 1 rfl]
 have hS4 := hS3.nil 0
 simp only [RT] at hS4
 refine iJ (a2k o (ho.ab hS4) rg sv (hr.ab hS4)) ?_
 rintro r H4 ⟨A4, A5, rfl, hT1⟩
 have hS5 := hS4.trans hT1
 simp only [RT] at hS5
 simp (disch := omega) only [↓RA, simprocAttr]
 refine Wp.bg fun lrg1 hlrg1 => ?_
 have hnrg1 : lrg1.length = 18 := by rw [hlrg1]; simp (disch := omega) only [RB, simprocAttr, hn]
 have g4rg1 : get lrg1 4 = (.slice none 0 0) := by rw [hlrg1]; simp (disch := omega) only [RB, simprocAttr, hn]
 have g5rg1 : get lrg1 5 = (ptr A3 0 1) := by rw [hlrg1]; simp (disch := omega) only [RB, simprocAttr, hn]
 have gfrg1 : get lrg1 10 = .func (.func 136) #[] [(ptr A4 0 4), (ptr A5 0 3)].toArray := by rw [hlrg1]; simp (disch := omega) only [RB, simprocAttr, hn]
 clear hlrg1
 refine Wp.aZ gfrg1 fun rg1 hstrg1 hpdrg1 htmrg1 hpsrg1 hasrg1 hbdrg1 => ?_
 have hreqrg1 : ({ rg1 with state := .ready, pending := none } : Loop) = rg1 := by
  cases rg1
  simp only at hstrg1 hpdrg1
  subst hstrg1 hpdrg1
  rfl
 have hLprg1 := Lp.enter hS5 rg1
 generalize H4.cons (.loop rg1) = Hcrg1 at hLprg1 ⊢
 generalize H4.length = Lrg1 at hLprg1 ⊢
 refine (a9U o hf rg sv A4 A5 (.func (.yield Lrg1) #[] #[]) (fun d xs H1 => ∃ (ow : Value) (ps : List Pv), ps.map (·.l) = d.map (nR o rg) ∧ (∀ p ∈ ps, p.Ix H1 (fun B => (H.length ≤ B ∧ B ≠ Lrg1) ∧ nb [ptr A1 0 4, ptr A2 0 3, ptr A3 0 1, ow, ptr A4 0 4, ptr A5 0 3] B)) ∧
  Lp prog H Lrg1 rg1 H1 ([⟨ptr A1 0 4, 0, oC o⟩, ⟨ptr A2 0 3, 0, rC rg sv⟩, ⟨ptr A3 0 1, 0, [ow]⟩, ⟨ow, 1, ps.flatMap Pv.cells⟩, ⟨ptr A4 0 4, 0, oC o⟩, ⟨ptr A5 0 3, 0, rC rg sv⟩] ++ xs)) ⟨.slice none 0 0, [], rfl, by simp, ?_⟩ ?_ ?_ ?_ ?_).mono ?_
 ·rw [dp]
  exact hLprg1
 ·rintro d xs H1 ⟨ow, ps, he, hpx, h⟩
  have hs := h.left.st
  exact ⟨hs.var 4 rfl, ho.ab hs, hs.var 5 rfl, hr.ab hs, fun x hx => h.st.own x (eF _ hx)⟩
 ·rintro d xs H1 H2 ys ⟨ow, ps, he, hpx, h⟩ hT
  refine ⟨ow, ps, he, fun p hp => (hpx p hp).step (fun B hB hl => ⟨hT.ab B hl, hB⟩), ?_⟩
  have h3 := h.ext hT
  rwa [dy] at h3
 ·rintro d xs ys H1 ⟨ow, ps, he, hpx, h⟩
  rw [← dy] at h
  exact ⟨ow, ps, he, hpx, h.left⟩
 ·rintro d c e xs H1 H20 pv he ⟨ow, ps, hpl, hpx, hLp⟩ hT hx
  have hLpj := hLp.ext hT
  rw [dp] at hLpj
  have hpx2 : ∀ p ∈ ps, p.Ix H20 (fun B => (H.length ≤ B ∧ B ≠ Lrg1) ∧ nb [ptr A1 0 4, ptr A2 0 3, ptr A3 0 1, ow, ptr A4 0 4, ptr A5 0 3] B) := fun p hp => (hpx p hp).step (fun B hB hl => ⟨hT.ab B hl, hB⟩)
  have hLl : Lrg1 < H1.length := jC hLp.get
  have hHl : H.length ≤ H1.length := hLp.st.len
  have hpv : (⟨pv, nR o rg c⟩ : Pv).Ix H20 (fun B => (H.length ≤ B ∧ B ≠ Lrg1) ∧ nb [ptr A1 0 4, ptr A2 0 3, ptr A3 0 1, ow, ptr A4 0 4, ptr A5 0 3] B) :=
   Slx.step hx fun B hB hl => ⟨rfl, ⟨by omega, by omega⟩, (hLp.left.st.aX (H' := H20) B hB hl).2⟩
  refine mO hLpj.get (by rw [hpsrg1]; rfl) hstrg1 ?_
  refine Wp.aE (l := put (put lrg1 (some 11) (.agg #[I c.1, I c.2])) (some 12) (pv)) hasrg1 (by rw [hpsrg1, htmrg1]; first | exact (kI ..).symm | rfl | simp [put, kI]) ?_
  simp (disch := omega) only [↓RA, RZ, simprocAttr, hnrg1]
  refine ⟨rg1, hLpj.get, hstrg1, ?_⟩
  have hYBs1 := hLpj.set (fun h => h) { rg1 with state := .busy }
  have hKBs1 : ∀ B, B ≠ Lrg1 → iL (hset H20 Lrg1 (.loop { rg1 with state := .busy })) B = iL H20 B := fun B h => iI _ (ey h)
  have hNBs1 : (hset H20 Lrg1 (.loop { rg1 with state := .busy })).length = H20.length := iY ..
  generalize hset H20 Lrg1 (.loop { rg1 with state := .busy }) = HBs1 at hYBs1 hKBs1 hNBs1 ⊢
  refine Wp.aE hbdrg1 rfl ?_
  have hZBs1 := hYBs1.left.st
  obtain ⟨Bs1, hBBs1, hS6⟩ := hZBs1.ay (os := [⟨ptr A1 0 4, 0, _⟩, ⟨ptr A2 0 3, 0, _⟩, ⟨ptr A3 0 1, 0, _⟩, ⟨ow, 1, _⟩, ⟨ptr A4 0 4, 0, _⟩, ⟨ptr A5 0 3, 0, _⟩])
  have hpn : ps.length ≤ 1024 := by
   have h1 := tG hf
   rw [he, dg] at h1
   have h2 := congrArg List.length hpl
   rw [dH, dH] at h2
   omega
  simp (disch := omega) only [↓RA, RZ, simprocAttr, hnrg1, g5rg1, hS6.ld 2 rfl]
  refine hS6.ai [pv] b9t c3n rfl rfl (by first | (simp [hx.1.cells.1]; done) | simp [Value.cells, hx.1.cells.1]) (by first | (simp [hx.1.cells.1]; done) | simp [Value.cells, hx.1.cells.1]) (by simp [hx.1.cells.2.1]) (by decide) (by decide) fun w1 H5 hS7 => ?_
  simp only [RT] at hS7
  simp (disch := omega) only [↓RA, RZ, simprocAttr, hnrg1]
  refine hS7.aq 3 rfl (hS7.rd 6 rfl) b9t (by rw [iM (n := 1) (cel := Pv.cells) (fun _ => rfl)]; simp; omega) fun w2 H6 hS8 => ?_
  simp only [RT] at hS8
  simp (disch := omega) only [↓RA, RB, simprocAttr, hnrg1, g5rg1]
  refine hS8.aa 2 rfl [w2] (by rw [(hS8.rd 3 rfl).cells.1]) (by simp [(hS8.rd 3 rfl).cells.2.1]) a6e (by simp) fun H7 hS9 => ?_
  simp only [RT] at hS9
  simp (disch := omega) only [↓RA, RC, simprocAttr]
  have hS10 := hS9.pick (os' := [⟨ptr A1 0 4, 0, _⟩, ⟨ptr A2 0 3, 0, _⟩, ⟨ptr A3 0 1, 0, _⟩, ⟨w2, 1, _⟩, ⟨ptr A4 0 4, 0, _⟩, ⟨ptr A5 0 3, 0, _⟩]) [0, 1, 2, 3, 4, 5] (by decide) rfl
  have hWBs1 := (hYBs1.aU (hBBs1 ▸ hS10)).set (fun h => h) rg1
  rw [← hreqrg1] at hWBs1
  have hk1 : Kept H20 (fun B => (H.length ≤ B ∧ B ≠ Lrg1) ∧ nb [ptr A1 0 4, ptr A2 0 3, ptr A3 0 1, ow, ptr A4 0 4, ptr A5 0 3] B) (hset H7 Lrg1 (.loop rg1)) (fun B => (H.length ≤ B ∧ B ≠ Lrg1) ∧ nb [ptr A1 0 4, ptr A2 0 3, ptr A3 0 1, w2, ptr A4 0 4, ptr A5 0 3] B) := by
   intro B hB hl
   have h2 := hS10.kept hBBs1 B hB.2 (by rw [hNBs1]; exact hl)
   refine ⟨?_, hB.1, h2.2⟩
   rw [iI _ (ey hB.1.2), h2.1, hKBs1 B hB.1.2]
  have hfin : ∃ (ow : Value) (ps : List Pv), ps.map (·.l) = (d ++ [c]).map (nR o rg) ∧ (∀ p ∈ ps, p.Ix (hset H7 Lrg1 (.loop rg1)) (fun B => (H.length ≤ B ∧ B ≠ Lrg1) ∧ nb [ptr A1 0 4, ptr A2 0 3, ptr A3 0 1, ow, ptr A4 0 4, ptr A5 0 3] B)) ∧
   Lp prog H Lrg1 rg1 (hset H7 Lrg1 (.loop rg1)) ([⟨ptr A1 0 4, 0, oC o⟩, ⟨ptr A2 0 3, 0, rC rg sv⟩, ⟨ptr A3 0 1, 0, [ow]⟩, ⟨ow, 1, ps.flatMap Pv.cells⟩, ⟨ptr A4 0 4, 0, oC o⟩, ⟨ptr A5 0 3, 0, rC rg sv⟩] ++ xs) := by
   refine ⟨w2, ps ++ [⟨pv, nR o rg c⟩], by rw [dx, dx, hpl]; rfl, ?_, ?_⟩
   ·intro p hp
    rcases dD.1 hp with hp | hp
    ·exact (hpx2 p hp).step hk1
    ·rw [dz.1 hp]
     exact hpv.step hk1
   ·rw [show (ps ++ [(⟨pv, nR o rg c⟩ : Pv)]).flatMap Pv.cells = ps.flatMap Pv.cells ++ [pv] from by rw [ee]; rfl]
    exact hreqrg1 ▸ hWBs1
  rw [← hreqrg1] at hfin
  exact ⟨_, (hYBs1.aU (hBBs1 ▸ hS10)).get, rfl, hreqrg1 ▸ hfin⟩
 rintro _ H21 ⟨ow, ps, hpl, hpx, hLp2⟩
 rw [dp] at hLp2
 refine ⟨_, hLp2.get, (by rw [hstrg1]; exact fun h => by cases h), fun _ => ?_, fun c hc => by rw [hpdrg1] at hc; cases hc⟩
 have hAAf1 := (hLp2.set (fun h => h) { rg1 with state := .exhausted }).st
 have hKAf1 : ∀ B, B ≠ Lrg1 → iL (hset H21 Lrg1 (.loop { rg1 with state := .exhausted })) B = iL H21 B := fun B h => iI _ (ey h)
 generalize hset H21 Lrg1 (.loop { rg1 with state := .exhausted }) = HAf1 at hAAf1 hKAf1 ⊢
 simp (disch := omega) only [↓RA, RZ, simprocAttr, hnrg1, g5rg1, hAAf1.ld 2 rfl, c1L]
 exact ⟨ps, hpl, hAAf1.ch 3 rfl (fun _ => rfl), fun p hp => (hpx p hp).step (fun B hB hl => ⟨hKAf1 B hB.1.2, hB.1.1⟩), hAAf1.forget⟩
theorem Fn.tr {P : Program} {k : FuncId} {args : List Value} {R : Value → Heap → Prop} (h : Fn P k args H R) : Fn P k args H fun v H' => True ∧ R v H' := by
 simpa using h
theorem St.bU {P : Program} {H0 : Base} {os : List Ob} (hS : St P H0 H os) {t : TypeId} {size bytes : Nat} {K : Value → Heap → Prop} (ha : mD P t = some (size + 1, bytes)) (h : ∀ v H1, St P H0 H1 (os ++ [⟨v, size + 1, []⟩]) → K v H1) : rJ P H t 0 [] K := by
 unfold mD at ha
 cases he : iF P t with
 | none => rw [he] at ha; cases ha
 | some elem =>
 rw [he] at ha
 simp only [cY] at ha
 cases hsz2 : iC P elem with
 | none => rw [hsz2] at ha; cases ha
 | some sz =>
 rw [hsz2] at ha
 simp only [cY] at ha
 cases hby : nI P elem with
 | none => rw [hby] at ha; cases ha
 | some by' =>
 rw [hby] at ha
 simp only [cY] at ha
 cases hz2 : iU P elem with
 | none => rw [hz2] at ha; cases ha
 | some z =>
 rw [hz2] at ha
 simp only [cY] at ha
 split at ha
 case isFalse => cases ha
 simp only [dA, gI] at ha
 obtain ⟨rfl, rfl⟩ := ha
 refine ⟨.slice (some ⟨H.length, 0, some 0⟩) 0 (size + 1), rF H elem [], ?_, h _ _ (hS.add ?_ ?_ ?_ ?_)⟩
 ·unfold yJ
  simp only [he, hsz2, hz2, cY]
  rw [if_pos (by simp)]
 ·rw [lH]
  unfold OwnAt
  rw [if_neg (eG _)]
  exact .inr ⟨_, 0, elem, _, 0, [], 0, iN H _, by simp, rfl, by simp, by simp, hsz2⟩
 ·rw [lH]; simp [pA]
 ·rw [lH]; exact fun B hB => jN _ hB
 ·intro B hB
  simp [kE] at hB
  omega
theorem b7K (a : Addr) (m c : Nat) : kU prog .eql 27 27 false true (.slice (some a) m c) (.slice none 0 0) = some (.bool false) := by kernel_rfl
theorem a4X {v : Value} {a : Addr} {m c : Nat} (h : v = .slice (some a) m c) (K : Value → Prop) : lB prog .eql 27 27 false true v (.slice none 0 0) K = oA (.bool false) K := by
 subst h
 show jQ (kU prog .eql 27 27 false true (.slice (some a) m c) (.slice none 0 0)) K = _
 rw [b7K]
 rfl
theorem Sl.cj {α : Type} {n : Nat} {cel : α → List Value} {v : Value} {xs : List α} (h : Sl n cel H v xs) (h0 : 0 < xs.length) : ∃ a m c, v = .slice (some a) m c := by
 rcases h.rd with ⟨_, h2⟩ | ⟨A, i, e, row, ty, rw, lo, ver, m, _, _, _, _, _, _, h7⟩
 ·have := congrArg List.length h2
  rw [iM h.hc, eA] at this
  have := h.pos
  have : 0 < xs.length * n := gO h0 h.pos
  omega
 ·exact ⟨_, _, _, h7⟩
theorem a6M (v : Value) (xs : List Nat) (hv : Sl 1 (one u64) H v xs) (hl : xs.length < 100000) (h0 : 0 < xs.length) : Fn prog 130 [v] H fun r H' => St prog H H' [⟨r, 1, xs.flatMap (one u64)⟩] := by
 refine .aY func130 rfl (by kernel_rfl) (m := 8) rfl fun l hn g0 => ?_
 obtain ⟨a, m, c, hvv⟩ := hv.cj h0
 simp (disch := omega) only [↓RA, RB, simprocAttr, hn, g0, a4X hvv]
 have hlen : (xs.flatMap (one u64)).length = xs.length := by rw [iM (n := 1) (fun _ => rfl)]; omega
 refine (sR H).bU b5p fun w1 H1 hS1 => ?_
 simp only [RT] at hS1
 simp (disch := omega) only [↓RA, RZ, simprocAttr, hn, g0]
 refine hS1.aq 0 rfl (hS1.sl hv).rd b5p (by rw [hlen]; simp; omega) fun w2 H2 hS2 => ?_
 simp only [RT] at hS2
 simp (disch := omega) only [↓RA, RB, simprocAttr, hn, c2T]
 exact hS2
theorem b8X (i : Nat) (hi : i < 64) : IntKind.wrap .u64 (1 * 2 ^ min i (IntKind.bits .u64)) = ((2 ^ i : Nat) : Int) := by
 have e : IntKind.bits .u64 = 64 := rfl
 rw [e, fz (by omega), Int.one_mul]
 have h1 : ((2 ^ i : Nat) : Int) = 2 ^ i := by simp
 rw [← h1]
 have h2 : 2 ^ i ≤ 2 ^ 63 := fS (by decide) (by omega)
 have h5 : ((2 ^ i : Nat) : Int) ≤ ((2 ^ 63 : Nat) : Int) := Int.ofNat_le.2 h2
 exact rP _ (Int.natCast_nonneg _) (Int.lt_of_le_of_lt h5 (by decide))
theorem c0a (n i : Nat) (hi : i < 64) : IntKind.wrap .u64 ((BitVec.ofInt (IntKind.bits .u64) (n : Int) &&& ~~~ BitVec.ofInt (IntKind.bits .u64) (IntKind.wrap .u64 (1 * 2 ^ min i (IntKind.bits .u64)))).toNat : Int) = ((sZ n i : Nat) : Int) := by
 rw [b8X i hi]
 have e : (BitVec.ofInt (IntKind.bits .u64) (n : Int) &&& ~~~ BitVec.ofInt (IntKind.bits .u64) ((2 ^ i : Nat) : Int)).toNat = sZ n i := by
  show (BitVec.ofInt 64 (n : Int) &&& ~~~ BitVec.ofInt 64 ((2 ^ i : Nat) : Int)).toNat = sZ n i
  rw [fJ, fJ]
  rfl
 rw [e]
 have : sZ n i < 2 ^ 64 := BitVec.isLt _
 have h3 : 2 ^ 64 = 18446744073709551616 := rfl
 exact rP _ (by omega) (by omega)
theorem a4S (n : Nat) (i : Int) : sZ n i < 18446744073709551616 := BitVec.isLt _
def Ctl.cP (c : Ctl) (rg : Reg) : Prop := (c.kind = 1 → 0 ≤ c.dv ∧ c.dv < rg.stops.length ∧ 0 ≤ c.ix ∧ c.ix < 64) ∧ (c.kind = 2 → 0 ≤ c.ix ∧ c.ix < 64) ∧ (c.kind ≠ 1 → c.kind ≠ 2 → 0 ≤ c.dv ∧ c.dv < 64)
theorem b0d (rg : Reg) (sv : Value) (hr : rg.In H sv) (h0 : 0 < rg.stops.length) (h1 : rg.stops.length < 100000) (c : Ctl) (hc : c.cP rg) :
 Fn prog 132 [.agg #[sv, .int .u64 rg.cpl, .int .u64 rg.off], .agg #[I c.kind, I c.dv, I c.ix]] H fun r H' => ∃ nv, r = .agg #[nv, .int .u64 (kW rg c).cpl, .int .u64 (kW rg c).off] ∧ St prog H H' [⟨nv, 1, (kW rg c).stops.flatMap (one u64)⟩] := by
 refine .aC func132 rfl (by kernel_rfl) (m := 41) rfl fun l hn g0 g1 => ?_
 simp (disch := omega) only [↓RA, RB, simprocAttr, g0]
 refine (sR H).eNew 3 [sv, (.int .u64 rg.cpl), (.int .u64 rg.off)] rfl rfl (by simp [OC, ((sR H).sl hr.1).cells.2.1]) lN fun A1 H1 hS1 => ?_
 simp only [RT] at hS1
 simp (disch := omega) only [↓RA, RB, simprocAttr, g1]
 refine hS1.eNew 3 [I c.kind, I c.dv, I c.ix] rfl rfl rfl wS fun A2 H2 hS2 => ?_
 simp only [RT] at hS2
 simp (disch := omega) only [↓RA, RZ, simprocAttr]
 refine hS2.eNew 3 [(.slice none 0 0), (.int .u64 0), (.int .u64 0)] rfl rfl rfl lN fun A3 H3 hS3 => ?_
 simp only [RT] at hS3
 simp (disch := omega) only [↓RA, RZ, simprocAttr, hn, hS3.ld 0 rfl]
 refine iJ ((a6M sv rg.stops (hS3.sl hr.1) h1 h0).tr) ?_
 rintro r H4 ⟨-, hT1⟩
 have hS4 := hS3.trans hT1
 simp only [RT] at hS4
 simp (disch := omega) only [↓RA, RZ, simprocAttr, hn]
 refine hS4.aa 0 rfl [r] (by rw [(hS4.rd 3 rfl).cells.1]) (by simp [(hS4.rd 3 rfl).cells.2.1]) c0i (by simp) fun H5 hS5 => ?_
 simp only [RT] at hS5
 simp (disch := omega) only [↓RA, RZ, simprocAttr, hn, hS5.ld 1 rfl]
 refine gZ (fun k1 => ?_) (fun k1 => ?_)
 ·obtain ⟨hd0, hd1, hi0, hi1⟩ := hc.1 k1
  obtain ⟨d, hd⟩ : ∃ d : Nat, c.dv = d := ⟨c.dv.toNat, by omega⟩
  obtain ⟨i, hi⟩ : ∃ i : Nat, c.ix = i := ⟨c.ix.toNat, by omega⟩
  have e1 := c0a (iA rg.stops d) i (by omega)
  simp only [hd, hi] at hS5
  simp (disch := omega) only [↓RA, RZ, simprocAttr, k1]
  refine Wp.drw kC (by kernel_rfl) ?_
  simp (disch := omega) only [↓RA, RZ, simprocAttr, hn, hS5.ld 0 rfl, hS5.ld 1 rfl, (hS5.ax 3 rfl (fun _ => rfl)).idx, (hS5.ax 3 rfl (fun _ => rfl)).ld, one, u64, k1, e1, one, u64]
  refine hS5.aP 3 rfl [(.int .u64 (sZ (iA rg.stops d) i : Nat))] rfl rfl a4Y (by simp) (by have h : (rg.stops.flatMap (one u64)).length = rg.stops.length := (iM (n := 1) (fun _ => rfl) _).trans (by omega); rw [h]; simp; omega) fun H6 hS6 => ?_
  simp only [RT] at hS6
  simp (disch := omega) only [↓RA, RZ, simprocAttr, hn, hS6.ae 0 rfl]
  refine hS6.aa 2 rfl [r, (.int .u64 rg.cpl), (.int .u64 rg.off)] rfl (by simp [OC, (hS6.rd 3 rfl).cells.2.1]) lN (by simp) fun H7 hS7 => ?_
  simp only [RT] at hS7
  simp (disch := omega) only [↓RA, RZ, simprocAttr, hn, b3G, hS7.ae 2 rfl]
  refine ⟨r, by rw [kW, if_pos k1], ?_⟩
  have e2 : (kW rg c).stops.flatMap (one u64) = (rg.stops.flatMap (one u64)).set d (.int .u64 (sZ (iA rg.stops d) i : Nat)) := by
   rw [kW, if_pos k1, a2e, a2e, hd, hi]
   show (rg.stops.set d _).map u64 = _
   rw [fE]
   rfl
  rw [e2]
  exact hS7.pick [3] (by decide) rfl
 simp (disch := omega) only [↓RA, RZ, simprocAttr, hn, k1]
 refine gZ (fun k2 => ?_) (fun k2 => ?_)
 ·obtain ⟨hi0, hi1⟩ := hc.2.1 k2
  obtain ⟨i, hi⟩ : ∃ i : Nat, c.ix = i := ⟨c.ix.toNat, by omega⟩
  have e1 := c0a rg.cpl i (by omega)
  simp only [hi] at hS5
  simp (disch := omega) only [↓RA, RZ, simprocAttr, k2]
  refine Wp.drw kC (by kernel_rfl) ?_
  simp (disch := omega) only [↓RA, RZ, simprocAttr, hn, hS5.ld 0 rfl, hS5.ld 1 rfl, k2, e1]
  refine hS5.aa 0 rfl [_] rfl rfl a4Y (by simp) fun H8 hS8 => ?_
  simp only [RT] at hS8
  simp (disch := omega) only [↓RA, RZ, simprocAttr, hn, hS8.ae 0 rfl]
  refine hS8.aa 2 rfl [r, _, (.int .u64 rg.off)] rfl (by simp [OC, (hS8.rd 3 rfl).cells.2.1]) lN (by simp) fun H9 hS9 => ?_
  simp only [RT] at hS9
  simp (disch := omega) only [↓RA, RZ, simprocAttr, hn, b3G, hS9.ae 2 rfl]
  refine ⟨r, by rw [kW, if_neg k1, if_pos k2, hi], ?_⟩
  have e2 : (kW rg c).stops = rg.stops := by rw [kW, if_neg k1, if_pos k2]
  rw [e2]
  exact hS9.pick [3] (by decide) rfl
 obtain ⟨hi0, hi1⟩ := hc.2.2 k1 k2
 obtain ⟨i, hi⟩ : ∃ i : Nat, c.dv = i := ⟨c.dv.toNat, by omega⟩
 have e1 := c0a rg.off i (by omega)
 simp only [hi] at hS5
 simp (disch := omega) only [↓RA, RZ, simprocAttr, k1, k2]
 refine Wp.drw kC (by kernel_rfl) ?_
 simp (disch := omega) only [↓RA, RZ, simprocAttr, hn, hS5.ld 0 rfl, hS5.ld 1 rfl, e1]
 refine hS5.aa 0 rfl [_] rfl rfl a4Y (by simp) fun H10 hS10 => ?_
 simp only [RT] at hS10
 simp (disch := omega) only [↓RA, RZ, simprocAttr, hn, hS10.ae 0 rfl]
 refine hS10.aa 2 rfl [r, (.int .u64 rg.cpl), _] rfl (by simp [OC, (hS10.rd 3 rfl).cells.2.1]) lN (by simp) fun H11 hS11 => ?_
 simp only [RT] at hS11
 simp (disch := omega) only [↓RA, RZ, simprocAttr, hn, b3G, hS11.ae 2 rfl]
 refine ⟨r, by rw [kW, if_neg k1, if_neg k2, hi], ?_⟩
 have e2 : (kW rg c).stops = rg.stops := by rw [kW, if_neg k1, if_neg k2]
 rw [e2]
 exact hS11.pick [3] (by decide) rfl
theorem a2s {α : Type} [Inhabited α] {xs ys : List α} (hl : xs.length = ys.length) (h : ∀ j, j < xs.length → iA xs j = iA ys j) : xs = ys := by
 apply List.ext_getElem hl
 intro j h1 h2
 have := h j h1
 rwa [jZ xs j h1, jZ ys j h2] at this
theorem b3o (v w : Value) (xs ys : List Ct) (hv : Sl 2 kB H v xs) (hw : Sl 2 kB H w ys) (hl : xs.length < 1000000000) (hl2 : ys.length < 1000000000) :
 Fn prog 27 [v, w] H fun r H' => r = .bool (decide (xs = ys)) ∧ St prog H H' [] := by
 refine .aC func27 rfl (by kernel_rfl) (m := 26) rfl fun l hn g0 g1 => ?_
 simp (disch := omega) only [↓RA, RZ, simprocAttr, hn, g0, g1, ((sR H).sl hv).len, ((sR H).sl hw).len]
 refine gZ (fun h1 => ?_) (fun h1 => ?_)
 ·simp (disch := omega) only [↓RA, RZ, simprocAttr, hn, b9U, h1]
  exact ⟨by rw [decide_eq_false]; intro e; rw [e] at h1; exact h1 rfl, (sR H)⟩
 simp (disch := omega) only [↓RA, RZ, simprocAttr, hn, g0, ((sR H).sl hv).len, h1]
 refine Wp.al (fun n l H' => l.length = 26 ∧ get l 0 = v ∧ get l 1 = w ∧ get l 12 = I xs.length ∧ ∃ (j : Nat), (n + j = xs.length ∧ ∀ q, q < j → iA xs q = iA ys q) ∧ get l 13 = I j ∧ St prog H H' []) xs.length ?_ ?_
 ·simp (disch := omega) only [RB, RC, simprocAttr, hn, g0, g1]
  exact ⟨0, ⟨by omega, fun q hq => absurd hq (dK _)⟩, rfl, (sR H)⟩
 rintro n l H1 ⟨hn, g0, g1, g12, j, ⟨hj,hz⟩, g13, hS1⟩
 simp (disch := omega) only [↓RA, RB, simprocAttr, hn, g12, g13]
 refine gZ (fun q1 => ?_) (fun q1 => ?_)
 ·simp (disch := omega) only [↓RA, RZ, simprocAttr, hn, g13, q1]
  refine Wp.drw kC (by kernel_rfl) ?_
  simp (disch := omega) only [↓RA, RZ, simprocAttr, hn, g0, g1, (hS1.sl hv).idx, (hS1.sl hv).ae, kB, (hS1.sl hw).idx, (hS1.sl hw).ae]
  refine gZ (fun q2 => ?_) (fun q2 => ?_)
  ·simp (disch := omega) only [↓RA, RZ, simprocAttr, hn, b9U, q2]
   refine ⟨?_, hS1⟩
   rw [decide_eq_false]
   intro e
   rw [e] at q2
   exact q2 ⟨rfl, rfl⟩
  have q3 := dC.1 q2
  simp (disch := omega) only [↓RA, RZ, simprocAttr, hn, g0, g1, g12, g13, q2]
  exact ⟨n - 1, by omega, j + 1, ⟨by omega, fun q hq => by rcases dr.1 hq with e | e; (· exact hz q e); (· rw [e]; exact gT q3.1 q3.2)⟩, by simp, hS1⟩
 simp (disch := omega) only [↓RA, RZ, simprocAttr, hn, b9U, q1]
 exact ⟨by rw [decide_eq_true]; exact a2s (by omega) fun q hq => hz q (by omega), hS1⟩
theorem b1y (v w : Value) (xs ys : List Ct) (hv : Sl 2 kB H v xs) (hw : Sl 2 kB H w ys) (hl : xs.length < 1000000000) (hl2 : ys.length < 1000000000) :
 Fn prog 183 [v, w] H fun r H' => r = .bool (decide (xs = ys)) ∧ St prog H H' [] := by
 refine .aC func183 rfl (by kernel_rfl) (m := 8) rfl fun l hn g0 g1 => ?_
 simp (disch := omega) only [↓RA, RZ, simprocAttr, hn, g0, g1]
 refine (sR H).cF (b3o v w xs ys ((sR H).sl hv) ((sR H).sl hw) hl hl2) fun H1 hS1 => ?_
 simp (disch := omega) only [↓RA, RZ, simprocAttr, hn, c2n]
 exact hS1
def Pv.In (H : Heap) (p : Pv) : Prop := Sl 2 kB H p.v p.l
theorem b8x (v w : Value) (ps qs : List Pv) (hv : Sl 1 Pv.cells H v ps) (hw : Sl 1 Pv.cells H w qs) (hp : ∀ p ∈ ps, p.In H) (hq : ∀ p ∈ qs, p.In H) (hl : ps.length < 1000000000) (hl2 : qs.length < 1000000000) (hb : ∀ p ∈ ps, p.l.length < 1000000000) (hb2 : ∀ p ∈ qs, p.l.length < 1000000000) :
 Fn prog 182 [v, w, .func (.func 183) #[] #[]] H fun r H' => r = .bool (decide (ps.map (·.l) = qs.map (·.l))) ∧ St prog H H' [] := by
 have hne : ∀ j, j < ps.length → j < qs.length → (iA ps j).l ≠ (iA qs j).l → ps.map (·.l) ≠ qs.map (·.l) := fun j h1 h2 hne e => by
  apply hne
  have := congrArg (fun l => iA l j) e
  simp only at this
  rwa [uP _ h1, uP _ h2] at this
 refine .bN func182 rfl (by kernel_rfl) (m := 32) rfl fun l hn g0 g1 g2 => ?_
 simp (disch := omega) only [↓RA, RZ, simprocAttr, hn, g0, g1, ((sR H).sl hv).len, ((sR H).sl hw).len]
 refine gZ (fun h1 => ?_) (fun h1 => ?_)
 ·simp (disch := omega) only [↓RA, RZ, simprocAttr, hn, b4j, h1]
  refine ⟨?_, (sR H)⟩
  rw [decide_eq_false]
  intro e
  have := congrArg List.length e
  rw [dH, dH] at this
  omega
 simp (disch := omega) only [↓RA, RZ, simprocAttr, hn, g0, ((sR H).sl hv).len, h1]
 refine Wp.al (fun n l H' => l.length = 32 ∧ get l 1 = w ∧ get l 2 = (.func (.func 183) #[] #[]) ∧ get l 15 = v ∧ get l 16 = I ps.length ∧ ∃ (j : Nat), (n + j = ps.length ∧ ∀ q, q < j → (iA ps q).l = (iA qs q).l) ∧ get l 17 = I j ∧ St prog H H' []) ps.length ?_ ?_
 ·simp (disch := omega) only [RB, RC, simprocAttr, hn, g1, g2]
  exact ⟨0, ⟨by omega, fun q hq => absurd hq (dK _)⟩, rfl, (sR H)⟩
 rintro n l H1 ⟨hn, g1, g2, g15, g16, j, ⟨hj,hz⟩, g17, hS1⟩
 simp (disch := omega) only [↓RA, RB, simprocAttr, hn, g16, g17]
 refine gZ (fun q1 => ?_) (fun q1 => ?_)
 ·simp (disch := omega) only [↓RA, RZ, simprocAttr, hn, g1, g2, g15, g17, (hS1.sl hv).idx, (hS1.sl hv).ld, Pv.cells, (hS1.sl hw).idx, (hS1.sl hw).ld, q1]
  refine hS1.cF (b1y (iA ps j).v (iA qs j).v (iA ps j).l (iA qs j).l (hS1.sl (hp _ (iD (by omega)))) (hS1.sl (hq _ (iD (by omega)))) (hb _ (iD (by omega))) (hb2 _ (iD (by omega)))) fun H2 hS2 => ?_
  simp (disch := omega) only [↓RA, RZ, simprocAttr, hn, q1]
  refine jK (fun q2 => ?_) (fun q2 => ?_)
  ·simp (disch := omega) only [↓RA, RZ, simprocAttr, hn, b4j, q1, q2]
   exact ⟨by rw [decide_eq_false (hne j (by omega) (by omega) (by simpa using q2))], hS2⟩
  simp (disch := omega) only [↓RA, RZ, simprocAttr, hn, g1, g2, g15, g16, g17, q1, q2]
  exact ⟨n - 1, by omega, j + 1, ⟨by omega, fun q hq => by rcases dr.1 hq with e | e; (· exact hz q e); (· rw [e]; simpa using q2)⟩, by simp, hS2⟩
 simp (disch := omega) only [↓RA, RZ, simprocAttr, hn, b4j, q1]
 refine ⟨?_, hS1⟩
 rw [decide_eq_true]
 refine a2s (by simp; omega) fun q hq => ?_
 rw [dH] at hq
 rw [uP _ hq, uP _ (by omega)]
 exact hz q (by omega)
theorem b6D (v : Value) (xs : List Ctl) (hv : Sl 3 Ctl.cells H v xs) (hl : xs.length < 1000000000) (k : FuncId) (caps : List Value) (p : Nat → Bool)
 (hf : ∀ j H1, j < xs.length → St prog H H1 [] → Fn prog k (.agg #[I (iA xs j).kind, I (iA xs j).dv, I (iA xs j).ix] :: caps) H1 fun r H2 => r = .bool (p j) ∧ St prog H1 H2 []) :
 Fn prog 227 [v, .func (.func k) #[] caps.toArray] H fun r H' => r = I (mW p xs.length) ∧ St prog H H' [] := by
 refine .aC func227 rfl (by kernel_rfl) (m := 19) rfl fun l hn g0 g1 => ?_
 simp (disch := omega) only [↓RA, RZ, simprocAttr, hn, g0, ((sR H).sl hv).len]
 refine Wp.al (fun n l H' => l.length = 19 ∧ get l 0 = v ∧ get l 1 = .func (.func k) #[] caps.toArray ∧ get l 7 = I xs.length ∧ ∃ (j : Nat), (n + j = xs.length ∧ ∀ q, q < j → p q = false) ∧ get l 8 = I j ∧ St prog H H' []) xs.length ?_ ?_
 ·simp (disch := omega) only [RB, RC, simprocAttr, hn, g0, g1]
  exact ⟨0, ⟨by omega, fun q hq => absurd hq (dK _)⟩, rfl, (sR H)⟩
 rintro n l H1 ⟨hn, g0, g1, g7, j, ⟨hi,h0⟩, g8, hS1⟩
 simp (disch := omega) only [↓RA, RB, simprocAttr, hn, g7, g8]
 refine gZ (fun h => ?_) (fun h => ?_)
 ·simp (disch := omega) only [↓RA, RZ, simprocAttr, hn, g0, g1, g8, (hS1.sl hv).idx, (hS1.sl hv).ae, Ctl.cells, h]
  refine hS1.cF (hf j _ (by omega) hS1) fun H2 hS2 => ?_
  simp (disch := omega) only [↓RA, RZ, simprocAttr, hn, h]
  refine jK (fun hp => ?_) (fun hp => ?_)
  ·simp (disch := omega) only [↓RA, RZ, simprocAttr, hn, b9i, h, hp]
   exact ⟨by rw [uR p xs.length j (by omega) hp h0], hS2⟩
  simp (disch := omega) only [↓RA, RZ, simprocAttr, hn, g0, g1, g7, g8, h, hp]
  exact ⟨n - 1, by omega, j + 1, ⟨by omega, fun q hq => by rcases dr.1 hq with e | e; (· exact h0 q e); (· rw [e]; exact hp)⟩, by simp, hS2⟩
 simp (disch := omega) only [↓RA, RZ, simprocAttr, hn, b9i, h]
 exact ⟨by rw [uM p xs.length fun q hq => h0 q (by omega)], hS1⟩
theorem c3j : a3K prog 164 = some (2 + 1) := by kernel_rfl
theorem qV (a b : List Ctl) : lY (a ++ b) = lY a ++ lY b := ee
theorem b6Y {B : Base} {v : Value} {xs : List Ctl} (hS : St prog B H [⟨v, 3, lY xs⟩]) (hl : xs.length < 100000) (k : FuncId) (caps : List Value) (p : Ctl → Bool)
 (hf : ∀ c ∈ xs, ∀ {H1 : Heap} {os : List Ob}, St prog B H1 os → Fn prog k (.agg #[I c.kind, I c.dv, I c.ix] :: caps) H1 fun r H2 => r = .bool (p c) ∧ St prog H1 H2 []) :
 Fn prog 180 [v, .func (.func k) #[] caps.toArray] H fun r H' => ∃ rest : List Value, (∀ b, kE r = some b → kE v = some b) ∧ (∀ H2, RdAt H2 v 3 (lY (xs.filter fun c => !p c) ++ rest) → RdAt H2 r 3 (lY (xs.filter fun c => !p c))) ∧
  St prog B H' [⟨v, 3, lY (xs.filter fun c => !p c) ++ rest⟩] := by
 refine .aC func180 rfl (by kernel_rfl) (m := 42) rfl fun l hn g0 g1 => ?_
 simp (disch := omega) only [↓RA, RZ, simprocAttr, hn, g0, g1]
 refine hS.cF (b6D v xs (hS.ax 0 rfl (fun _ => rfl)) (by omega) k caps (fun j => p (iA xs j)) (fun j H1 hj hS' => hf _ (iD hj) (hS.trans hS'))) fun H1 hS1 => ?_
 simp (disch := omega) only [↓RA, RB, simprocAttr, hn]
 refine gZ (fun h1 => ?_) (fun h1 => ?_)
 ·have hno : ∀ c ∈ xs, p c = false := by
   intro c hc
   obtain ⟨j, hj, rfl⟩ := dP.1 hc
   have h2 : ¬ 0 ≤ mW (fun j => p (iA xs j)) xs.length := by omega
   rw [xK] at h2
   rw [← jZ xs j hj, ← eE]
   exact fun hp => h2 ⟨j, hj, hp⟩
  have hfe : (xs.filter fun c => !p c) = xs := gG.2 fun c hc => by rw [hno c hc]; rfl
  simp (disch := omega) only [↓RA, RZ, simprocAttr, hn, g0, b9z, h1]
  exact ⟨[], fun _ h => h, by rw [hfe, dp]; exact fun _ h => h, by rw [hfe, dp]; exact hS1⟩
 have hge : 0 ≤ mW (fun j => p (iA xs j)) xs.length := by
  unfold mW at h1 ⊢
  split
  ·omega
  ·rename_i hq
   rw [hq] at h1
   exact absurd rfl h1
 obtain ⟨i0, hi0⟩ : ∃ i0 : Nat, mW (fun j => p (iA xs j)) xs.length = i0 := ⟨_, (eY hge).symm⟩
 have hi0l := xF hi0
 have hi0b : (∀ j, j < i0 → p (iA xs j) = false) ∧ p (iA xs i0) = true := by
  unfold mW at hi0
  split at hi0
  ·rename_i q hq
   have hqi : q = i0 := by omega
   subst hqi
   rw [List.find?_range_eq_some] at hq
   exact ⟨fun j hj => by have := hq.2.2 j hj; simpa using this, hq.1⟩
  ·omega
 have hD0 : ((xs.take (i0 + 1)).filter fun c => !p c) = xs.take i0 := by
  rw [kF xs i0 hi0l, eB]
  have e1 : ([iA xs i0].filter fun c => !p c) = [] := by simp [hi0b.2]
  rw [e1, dp]
  refine gG.2 fun c hc => ?_
  obtain ⟨j, hj, rfl⟩ := dP.1 hc
  have hj2 : j < i0 := by rw [eI] at hj; omega
  have := hi0b.1 j hj2
  rw [jZ xs j (by omega)] at this
  rw [List.getElem_take, this]
  rfl
 simp (disch := omega) only [↓RA, RZ, simprocAttr, hn, hi0]
 have hrow : St prog B H1 [⟨v, 3, lY (((xs.take (i0 + 1)).filter fun c => !p c) ++ xs.drop ((xs.take (i0 + 1)).filter fun c => !p c).length)⟩] := by
  rw [hD0, eI, fz (by omega), fM]
  exact hS1
 have hlt0 : ((xs.take (i0 + 1)).filter fun c => !p c).length < i0 + 1 := by
  rw [hD0, eI]
  omega
 refine Wp.al (fun n l H' => l.length = 42 ∧ get l 0 = v ∧ get l 1 = .func (.func k) #[] caps.toArray ∧ ∃ j : Nat, (n + j = xs.length ∧ ((xs.take j).filter fun c => !p c).length < j) ∧ get l 5 = I ((xs.take j).filter fun c => !p c).length ∧ get l 6 = I j ∧ St prog B H' [⟨v, 3, lY (((xs.take j).filter fun c => !p c) ++ xs.drop ((xs.take j).filter fun c => !p c).length)⟩]) (xs.length - (i0 + 1)) ?_ ?_
 ·simp (disch := omega) only [RB, RC, simprocAttr, hn, g0, g1]
  refine ⟨i0 + 1, ⟨by omega, hlt0⟩, ?_, by simp, hrow⟩
  rw [hD0, eI, fz (by omega)]
 clear hrow hlt0
 rintro n l H9 ⟨hn, g0, g1, j, ⟨hj, hlt⟩, g5, g6, hS9⟩
 have hsucc : j < xs.length → ((xs.take (j + 1)).filter fun c => !p c) = ((xs.take j).filter fun c => !p c) ++ (if p (iA xs j) = true then [] else [iA xs j]) := fun h => by
  rw [kF xs j h, eB]
  congr 1
  by_cases hp : p (iA xs j) = true
  ·rw [if_pos hp]; simp [hp]
  ·rw [if_neg hp]; simp [hp]
 have hall : j = xs.length → ((xs.take j).filter fun c => !p c) = xs.filter fun c => !p c := fun h => by rw [h, ef]
 generalize hD : ((xs.take j).filter fun c => !p c) = D at g5 hlt hS9 hsucc hall
 have hjl : j ≤ xs.length := by omega
 have hrl : (D ++ xs.drop D.length).length = xs.length := by rw [dg, eh]; omega
 have hat : ∀ q, D.length ≤ q → iA (D ++ xs.drop D.length) q = iA xs q := fun q hq => by
  unfold iA
  rw [dc, dU hq, dB, dc]
  congr 2; omega
 have hatj := hat j (by omega)
 simp (disch := omega) only [↓RA, RZ, simprocAttr, hn, g0, g6, (hS9.ax 0 rfl (fun _ => rfl)).len, hrl]
 refine gZ (fun h4 => ?_) (fun h4 => ?_)
 ·have hjx : j < xs.length := by omega
  have hsu := hsucc hjx
  simp (disch := omega) only [↓RA, RZ, simprocAttr, hn, g0, g6, (hS9.ax 0 rfl (fun _ => rfl)).idx, (hS9.ax 0 rfl (fun _ => rfl)).ae, Ctl.cells, hatj, h4]
  refine hS9.eNew 3 [I 0, I 0, I 0] rfl rfl rfl wS fun A1 H2 hS2 => ?_
  simp only [RT] at hS2
  simp (disch := omega) only [↓RA, RZ, simprocAttr, hn, h4]
  refine hS2.aa 1 rfl [I (iA xs j).kind, I (iA xs j).dv, I (iA xs j).ix] rfl rfl wS (by simp) fun H3 hS3 => ?_
  simp only [RT] at hS3
  simp (disch := omega) only [↓RA, RZ, simprocAttr, hn, g1, hS3.ae 1 rfl, h4]
  refine hS3.cF (hf (iA xs j) (iD hjx) hS3) fun H4 hS4 => ?_
  simp (disch := omega) only [↓RA, RZ, simprocAttr, hn, h4]
  refine jK (fun h5 => ?_) (fun h5 => ?_)
  ·have hpf : ¬ p (iA xs j) = true := by simpa using h5
   rw [if_neg hpf] at hsu
   simp (disch := omega) only [↓RA, RZ, simprocAttr, hn, g0, g5, hS4.ae 1 rfl, (hS4.ax 0 rfl (fun _ => rfl)).idx, h4, h5]
   refine hS4.aP 0 rfl [I (iA xs j).kind, I (iA xs j).dv, I (iA xs j).ix] rfl rfl wS (by simp) (by rw [mC, hrl]; simp; omega) fun H5 hS5 => ?_
   simp only [RT] at hS5
   simp (disch := omega) only [↓RA, RZ, simprocAttr, hn, g0, g1, g5, g6, h4, h5]
   refine ⟨n - 1, by omega, j + 1, ?_⟩
   rw [hsu]
   refine ⟨⟨by omega, by simp; omega⟩, by simp, by simp, ?_⟩
   have e3 : lY (D ++ [iA xs j] ++ xs.drop (D ++ [iA xs j]).length) = (((lY (D ++ xs.drop D.length)).set (D.length * 3) (I (iA xs j).kind)).set (D.length * 3 + 1) (I (iA xs j).dv)).set (D.length * 3 + 1 + 1) (I (iA xs j).ix) := by
    have hx : xs.drop D.length = iA xs D.length :: xs.drop (D.length + 1) := by
     rw [jZ xs _ (by omega)]
     exact eL (by omega)
    rw [hx, dg, gj, qV, qV, qV]
    have e4 : lY (iA xs D.length :: xs.drop (D.length + 1)) = I (iA xs D.length).kind :: I (iA xs D.length).dv :: I (iA xs D.length).ix :: lY (xs.drop (D.length + 1)) := rfl
    have e5 : lY [iA xs j] = [I (iA xs j).kind, I (iA xs j).dv, I (iA xs j).ix] := rfl
    have e6 : (lY D).length = D.length * 3 := mC D
    rw [e4, e5, dS _ _ (by omega), dS _ _ (by omega), dS _ _ (by omega), e6, gA, fo, show D.length * 3 + 1 + 1 - D.length * 3 = 2 from by omega]
    simp
   rw [e3]
   exact hS5.pick [0] (by decide) rfl
  have hpt : p (iA xs j) = true := by simpa using h5
  rw [if_pos hpt, dp] at hsu
  simp (disch := omega) only [↓RA, RZ, simprocAttr, hn, g0, g1, g5, g6, h4, h5]
  refine ⟨n - 1, by omega, j + 1, ?_⟩
  rw [hsu]
  exact ⟨⟨by omega, by omega⟩, rfl, by simp, hS4.pick [0] (by decide) rfl⟩
 have hje : j = xs.length := by omega
 have hDe := hall hje
 have hcl : (lY (D ++ xs.drop D.length)).length = xs.length * (2 + 1) := by rw [mC, hrl]
 have hDn : D.length ≤ xs.length := by omega
 simp (disch := omega) only [↓RA, RZ, simprocAttr, hn, g0, g5, (hS9.ax 0 rfl (fun _ => rfl)).aK, hrl, h4]
 rw [show ((xs.length : Int) - D.length).toNat = xs.length - D.length from by omega]
 refine hS9.bm (size := 2) 0 rfl D.length (xs.length - D.length) (by rw [hcl]; omega) (by
  intro e
  have h2 : (lY (D ++ xs.drop D.length)).length = 0 := by rw [e]; rfl
  rw [hcl] at h2; omega) c3j fun z H3 hz hSc => ?_
 simp only [RT] at hSc
 have e3 : iX (lY (D ++ xs.drop D.length)) (D.length * 3) z = lY D ++ z := by
  rw [qV, show D.length * 3 = (lY D).length from (mC D).symm, lZ z (lY D) (lY (xs.drop D.length)) (by rw [mC, eh]; omega)]
  rw [ga (by rw [mC, eh]; omega), dp]
 rw [show D.length * (2 + 1) = D.length * 3 from rfl, e3] at hSc
 have hw : RdAt H3 v (2 + 1) (lY D ++ z) := hSc.rd 0 rfl
 have hwl : (lY D ++ z).length = xs.length * (2 + 1) := by rw [dg, mC, hz]; omega
 simp (disch := omega) only [↓RA, RZ, simprocAttr, hn, g0, g5, hw.aL hwl, b9z, h4]
 refine ⟨z, fun b h => tP h, fun H2 h2 => ?_, by rw [← hDe]; exact hSc⟩
 rw [← hDe] at h2 ⊢
 have h5 := RdAt.sub h2 0 D.length (by rw [hwl]; omega) (by
  intro e
  rw [e] at hwl
  simp at hwl; omega)
 rw [Nat.zero_mul, gR, show D.length * 3 = (lY D).length from (mC D).symm, List.take_left' rfl] at h5
 exact h5
theorem a3p (rg : Reg) (c : Ctl) : (kW rg c).stops.length = rg.stops.length := by
 unfold kW
 split
 ·simp
 ·split <;> rfl
theorem wT {rg : Reg} (h : rg.Ok) (c : Ctl) : (kW rg c).Ok := by
 obtain ⟨h1, h2, h3, h4⟩ := h
 unfold kW
 split
 ·refine ⟨by simpa using h1, ?_, h3, h4⟩
  intro x hx
  rcases List.mem_or_eq_of_mem_set hx with h | h
  ·exact h2 x h
  ·rw [h]; exact a4S _ _
 ·split
  ·exact ⟨h1, h2, a4S _ _, h4⟩
  ·exact ⟨h1, h2, h3, a4S _ _⟩
theorem a7G {o : Org} (hf : o.Fine) (rg : Reg) (c : Ct) : (nR o rg c).length ≤ 1000000 := by
 unfold nR
 split
 ·rename_i h
  have hc := (a3k h).2
  unfold uA a5d
  refine dE (b5S _) ?_
  rw [oX]
  have hm : ∀ x ∈ [c], sC o x = true := by intro x hx; rw [dz.1 hx]; exact hc
  have h1 := uL hf rg (tC o rg [c]) (a2t hm)
  have h2 := a2f hf (rg := rg) (l := [c]) (by simp)
  omega
 ·simp
theorem a3P {o : Org} (hf : o.Fine) (rg : Reg) : ∀ l ∈ pR o rg, l.length ≤ 1000000 := by
 intro l hl
 obtain ⟨c, _, rfl⟩ := dF.1 hl
 exact a7G hf rg c
theorem a2i {rg : Reg} (h64 : rg.stops.length ≤ 64) : ∀ c ∈ oS rg, c.cP rg := by
 intro c hc
 unfold oS at hc
 have hb : ∀ (x i : Nat), i ∈ sM x → i < 64 := fun x i hi => by
  unfold sM at hi
  exact dI.1 (eV.1 hi).1
 rcases dD.1 hc with hc | hc
 ·rcases dD.1 hc with hc | hc
  ·obtain ⟨d, hd, hc⟩ := fm.1 hc
   obtain ⟨i, hi, rfl⟩ := dF.1 hc
   have hd := dI.1 hd
   have hi := hb _ _ hi
   refine ⟨fun _ => ?_, fun h => ?_, fun h => ?_⟩
   ·simp only [zR]; omega
   ·simp only [zR] at h; omega
   ·exact absurd rfl h
  ·obtain ⟨i, hi, rfl⟩ := dF.1 hc
   have hi := hb _ _ hi
   refine ⟨fun h => ?_, fun _ => ?_, fun _ h => ?_⟩
   ·simp only [vP] at h; omega
   ·simp only [vP]; omega
   ·exact absurd rfl h
 ·obtain ⟨i, hi, rfl⟩ := dF.1 hc
  have hi := hb _ _ hi
  refine ⟨fun h => ?_, fun h => ?_, fun _ _ => ?_⟩
  ·simp only [a4I] at h; omega
  ·simp only [a4I] at h; omega
  ·simp only [a4I]; omega
theorem b3P (o : Org) (ho : o.In H) (hf : o.Fine) (rg : Reg) (sv : Value) (hr : rg.In H sv) (h0 : 0 < rg.stops.length) (h1 : rg.stops.length < 100000) (c : Ctl) (hc : c.cP rg) (AO AR AW : Nat)
 (hAO : Var H AO 4 [.string o.name, o.rv, o.dv, o.cv]) (hAR : Var H AR 3 [sv, .int .u64 rg.cpl, .int .u64 rg.off]) (wv : Value) (own : List Pv) (hAW : Var H AW 1 [wv]) (hw : Sl 1 Pv.cells H wv own) (hwi : ∀ p ∈ own, p.In H) (hwl : own.length < 1000000000) (hwb : ∀ p ∈ own, p.l.length < 1000000000) :
 Fn prog 181 [.agg #[I c.kind, I c.dv, I c.ix], ptr AO 0 4, ptr AR 0 3, ptr AW 0 1] H fun r H' => r = .bool (!(decide (pR o (kW rg c) = own.map (·.l)))) ∧ St prog H H' [] := by
 refine .cK func181 rfl (by kernel_rfl) (m := 14) rfl fun l hn g0 g1 g2 g3 => ?_
 simp (disch := omega) only [↓RA, RB, simprocAttr, g0]
 refine (sR H).eNew 3 [I c.kind, I c.dv, I c.ix] rfl rfl rfl wS fun A1 H1 hS1 => ?_
 simp only [RT] at hS1
 simp (disch := omega) only [↓RA, RB, simprocAttr]
 refine Wp.aQ kC [(0, 4), (5, 0), (5, 4)] (by kernel_rfl) (by kernel_rfl) ?_
 simp (disch := omega) only [↓RA, RZ, simprocAttr, hn, g1, g2, (hS1.va hAO).ae, (hS1.va hAR).ae, hS1.ae 0 rfl]
 refine iJ (b0d rg sv (hr.ab hS1) h0 h1 c hc) ?_
 rintro r H2 ⟨nv, rfl, hT1⟩
 have hS2 := hS1.trans hT1
 simp only [RT] at hS2
 simp (disch := omega) only [↓RA, RZ, simprocAttr, hn]
 have hln := a3p rg c
 refine iJ (a3c o (ho.ab hS2) hf (kW rg c) nv ⟨hS2.ax 1 rfl (fun _ => rfl), wT hr.2 c⟩) ?_
 rintro r H3 ⟨ps, hps, hpx, hpi, hT2⟩
 have hS3 := hS2.trans hT2
 simp only [RT] at hS3
 have hpl : ps.length < 1000000000 := by
  have h2 := congrArg List.length hps
  rw [dH] at h2
  have h3 := tG hf
  unfold pR at h2
  rw [dH] at h2
  omega
 have hpb : ∀ p ∈ ps, p.l.length < 1000000000 := fun p hp => by
  have := a3P hf (kW rg c) p.l (by rw [← hps]; exact eP hp)
  omega
 simp (disch := omega) only [↓RA, RZ, simprocAttr, hn, g3, (hS3.va hAW).ld]
 refine hS3.cF (b8x r wv ps own hpx.1 (hS3.sl hw) (fun p hp => (hpi p hp).1) (fun p hp => hS3.sl (hwi p hp)) hpl hwl hpb hwb) fun H4 hS4 => ?_
 simp (disch := omega) only [↓RA, RZ, simprocAttr, hn, g1, g3, (hS2.va hAO).ae, (hS1.va hAW).ld, (hS2.va hAW).ld, c4a]
 exact ⟨by rw [hps], hS4.forget⟩
theorem a2g {rg : Reg} (h60 : rg.stops.length ≤ 60) : (oS rg).length < 100000 := by
 have e : oS rg = yI rg rg.stops.length ++ (nO rg.cpl 64).map vP ++ (nO rg.off 64).map a4I := rfl
 rw [e, dg, dg, dH, dH]
 have h1 := a0K rg rg.stops.length
 have h2 := pM rg.cpl 64
 have h3 := pM rg.off 64
 omega
theorem a6q (o : Org) (rg : Reg) : ((oS rg).filter fun c => !(!(decide (pR o (kW rg c) = pR o rg)))) = mI o rg := by
 unfold mI
 congr 1
 funext c
 rw [Bool.not_not]
theorem b0p (o : Org) (ho : o.In H) (hf : o.Fine) (rg : Reg) (sv : Value) (hr : rg.In H sv) (h0 : 0 < rg.stops.length) (h60 : rg.stops.length ≤ 60) :
 Fn prog 131 [.agg #[.string o.name, o.rv, o.dv, o.cv], .agg #[sv, .int .u64 rg.cpl, .int .u64 rg.off]] H fun r H' => Slx 3 Ctl.cells H' (fun B => H.length ≤ B) r (mI o rg) ∧ St prog H H' [] := by
 refine .aC func131 rfl (by kernel_rfl) (m := 13) rfl fun l hn g0 g1 => ?_
 simp (disch := omega) only [↓RA, RB, simprocAttr, g0]
 refine (sR H).eNew 4 [(.string o.name), o.rv, o.dv, o.cv] rfl rfl (by simp [OC, ((sR H).sl ho.1).cells.2.1, ((sR H).sl ho.2.2.1).cells.2.1, ((sR H).sl ho.2.2.2.2.1).cells.2.1]) lV fun A1 H1 hS1 => ?_
 simp only [RT] at hS1
 simp (disch := omega) only [↓RA, RB, simprocAttr, g1]
 refine hS1.eNew 3 [sv, (.int .u64 rg.cpl), (.int .u64 rg.off)] rfl rfl (by simp [OC, (hS1.sl hr.1).cells.2.1]) lN fun A2 H2 hS2 => ?_
 simp only [RT] at hS2
 simp (disch := omega) only [↓RA, RZ, simprocAttr, hn, hS2.ae 0 rfl, hS2.ae 1 rfl]
 have hS0 := hS2
 refine iJ (a3c o (ho.ab hS2) hf rg sv (hr.ab hS2)) ?_
 rintro r H3 ⟨ps, hps, hpx, hpi, hT1⟩
 have hS3 := hS2.trans hT1
 simp only [RT] at hS3
 obtain ⟨wv, rfl⟩ : ∃ w, w = r := ⟨r, rfl⟩
 have hpl : ps.length < 1000000000 := by
  have h2 := congrArg List.length hps
  rw [dH] at h2
  have h3 := tG hf
  unfold pR at h2
  rw [dH] at h2
  omega
 have hpb : ∀ p ∈ ps, p.l.length < 1000000000 := fun p hp => by
  have := a3P hf rg p.l (by rw [← hps]; exact eP hp)
  omega
 have hkn := hS0.aX (H' := H3)
 have hpx2 := hpx.step hkn
 have hpi2 := fun p hp => (hpi p hp).step hkn
 have hS1 := hS3
 obtain ⟨X, hBX, hS4⟩ := hS3.ay (os := [⟨ptr A1 0 4, 0, _⟩, ⟨ptr A2 0 3, 0, _⟩])
 simp (disch := omega) only [↓RA, RZ, simprocAttr]
 refine hS4.eNew 1 [(.slice none 0 0)] rfl rfl rfl a6e fun A3 H4 hS5 => ?_
 simp only [RT] at hS5
 simp (disch := omega) only [↓RA, RB, simprocAttr, hn]
 refine hS5.aa 2 rfl [wv] (by rw [hpx.1.cells.1]) (by simp [hpx.1.cells.2.1]) a6e (by simp) fun H5 hS6 => ?_
 simp only [RT] at hS6
 simp (disch := omega) only [↓RA, RZ, simprocAttr, hn, hS6.ae 1 rfl]
 refine iJ ((b1v rg sv (hr.ab (hS3.aj hBX hS6)) h60).tr) ?_
 rintro r H6 ⟨-, hT2⟩
 have hS7 := hS6.trans hT2
 simp only [RT] at hS7
 obtain ⟨cw, rfl⟩ : ∃ w, w = r := ⟨r, rfl⟩
 simp (disch := omega) only [↓RA, RZ, simprocAttr, hn]
 have hM1 := hS7.pick (os' := [⟨cw, 3, _⟩]) [3] (by decide) rfl
 have hR1 := hS7.pick (os' := [⟨cw, 3, _⟩, ⟨ptr A1 0 4, 0, _⟩, ⟨ptr A2 0 3, 0, _⟩, ⟨ptr A3 0 1, 0, _⟩]) [3, 0, 1, 2] (by decide) rfl
 refine iJ (b6Y (xs := oS rg) hM1.aH (a2g h60) 181 [ptr A1 0 4, ptr A2 0 3, ptr A3 0 1] (fun c => !(decide (pR o (kW rg c) = pR o rg))) (fun c hc {H9 os} h => by
  have q1 := hR1.frame h.forget
  have q2 := hS1.aj hBX q1
  have q3 := q1.kept hBX
  have q4 := b3P o (ho.ab q2) hf rg sv (hr.ab q2) h0 (by omega) c (a2i (by omega) c hc) A1 A2 A3 (q1.var 0 rfl) (q1.var 1 rfl) wv ps (q1.var 2 rfl) (hpx2.step q3).1 (fun p hp => ((hpi2 p hp).step q3).1) hpl hpb
  rw [hps] at q4
  exact q4)) ?_
 rintro r H7 ⟨rest, hb, hrd, hT3⟩
 have hS8 := hR1.frame hT3
 simp only [RT] at hS8
 rw [a6q] at hrd
 have hrr := hrd _ (by rw [← a6q]; exact hS8.rd 0 rfl)
 have hrc := hrr.cells
 simp (disch := omega) only [↓RA, RB, simprocAttr, hn, c3h]
 refine ⟨⟨⟨hrr, fun _ => rfl, by decide⟩, fun b h => ?_⟩, (hS3.aj hBX hS8).forget⟩
 rcases (hS3.aj hBX hS8).new _ (ew ..) b (hb b h) with h | h
 ·exact h
 ·exact h.elim
theorem lI (o : Org) (ho : o.In H) (rg : Reg) (sv : Value) (hr : rg.In H sv) :
 Fn prog 82 [.agg #[.string o.name, o.rv, o.dv, o.cv], .agg #[sv, .int .u64 rg.cpl, .int .u64 rg.off]] H fun r H' => r = I (kO o rg) ∧ St prog H H' [] := by
 refine .aC func82 rfl (by kernel_rfl) (m := 14) rfl fun l hn g0 g1 => ?_
 simp (disch := omega) only [↓RA, RB, simprocAttr, g0]
 refine (sR H).eNew 4 [(.string o.name), o.rv, o.dv, o.cv] rfl rfl (by simp [OC, ((sR H).sl ho.1).cells.2.1, ((sR H).sl ho.2.2.1).cells.2.1, ((sR H).sl ho.2.2.2.2.1).cells.2.1]) lV fun A1 H1 hS1 => ?_
 simp only [RT] at hS1
 simp (disch := omega) only [↓RA, RB, simprocAttr, g1]
 refine hS1.eNew 3 [sv, (.int .u64 rg.cpl), (.int .u64 rg.off)] rfl rfl (by simp [OC, (hS1.sl hr.1).cells.2.1]) lN fun A2 H2 hS2 => ?_
 simp only [RT] at hS2
 simp (disch := omega) only [↓RA, RZ, simprocAttr, hn, hS2.ae 0 rfl]
 refine hS2.cF (xZ o (ho.ab hS2)) fun H3 hS3 => ?_
 simp (disch := omega) only [↓RA, RB, simprocAttr, hn]
 refine gZ (fun h1 => ?_) (fun h1 => ?_)
 ·simp (disch := omega) only [↓RA, RZ, simprocAttr, hn, c2B, h1]
  exact ⟨by rw [kO, if_pos h1], hS3.forget⟩
 simp (disch := omega) only [↓RA, RZ, simprocAttr, hn, hS3.ae 0 rfl, hS3.ae 1 rfl, h1]
 refine hS3.cF (a8C o (ho.ab hS3) rg sv (hr.ab hS3)) fun H4 hS4 => ?_
 simp (disch := omega) only [↓RA, RZ, simprocAttr, hn, c2B, h1]
 exact hS4.forget
theorem b8C (o : Org) (ho : o.In H) (rg : Reg) (sv : Value) (hr : rg.In H sv) :
 Fn prog 77 [.agg #[.string o.name, o.rv, o.dv, o.cv], .agg #[sv, .int .u64 rg.cpl, .int .u64 rg.off]] H fun r H' => ∃ lv, r = .tuple #[lv, I (kO o rg)] ∧ Slx 3 Ctl.cells H' (fun B => H.length ≤ B) lv (if kO o rg = 0 then mI o rg else []) ∧ St prog H H' [] := by
 refine .aC func77 rfl (by kernel_rfl) (m := 16) rfl fun l hn g0 g1 => ?_
 simp (disch := omega) only [↓RA, RB, simprocAttr, g0]
 refine (sR H).eNew 4 [(.string o.name), o.rv, o.dv, o.cv] rfl rfl (by simp [OC, ((sR H).sl ho.1).cells.2.1, ((sR H).sl ho.2.2.1).cells.2.1, ((sR H).sl ho.2.2.2.2.1).cells.2.1]) lV fun A1 H1 hS1 => ?_
 simp only [RT] at hS1
 simp (disch := omega) only [↓RA, RB, simprocAttr, g1]
 refine hS1.eNew 3 [sv, (.int .u64 rg.cpl), (.int .u64 rg.off)] rfl rfl (by simp [OC, (hS1.sl hr.1).cells.2.1]) lN fun A2 H2 hS2 => ?_
 simp only [RT] at hS2
 simp (disch := omega) only [↓RA, RZ, simprocAttr, hn, hS2.ae 0 rfl, hS2.ae 1 rfl]
 refine hS2.cF (lI o (ho.ab hS2) rg sv (hr.ab hS2)) fun H3 hS3 => ?_
 simp (disch := omega) only [↓RA, RB, simprocAttr, hn]
 refine gZ (fun h1 => ?_) (fun h1 => ?_)
 ·simp (disch := omega) only [↓RA, RZ, simprocAttr, hn, b9H, h1]
  exact ⟨.slice none 0 0, rfl, ⟨⟨.inl ⟨rfl, rfl⟩, fun _ => rfl, by decide⟩, fun b h => by simp [kE] at h⟩, hS3.forget⟩
 have h0 := dC.1 h1
 obtain ⟨hz3, hz4⟩ := qO h0
 have hf := Org.bD hz3
 have hd1 := hf.dpos
 have hd2 := hf.dlen
 simp (disch := omega) only [↓RA, RZ, simprocAttr, hn, hS3.ae 0 rfl, hS3.ae 1 rfl, h1]
 have hSd := hS3
 refine iJ (b0p o (ho.ab hS3) hf rg sv (hr.ab hS3) (by omega) (by omega)) ?_
 rintro r H4 ⟨hx, hT2⟩
 have hS4 := hS3.trans hT2
 simp only [RT] at hS4
 have hnt := hx.1.bu
 simp (disch := omega) only [↓RA, RZ, simprocAttr, hn, b9H, h1, hnt]
 refine ⟨r, by rw [h0], ⟨by rw [if_pos h0]; exact hx.1, fun b h => ?_⟩, hS4.forget⟩
 have := hx.2 b h
 have : H.length ≤ _ := hSd.len
 omega
theorem b3L (x i j : Nat) (hx : x < 18446744073709551616) (hi : i < 64) : (sZ x i).testBit j = (x.testBit j && !decide (j = i)) := by
 have hx' : x < 2 ^ 64 := by simpa using hx
 unfold sZ
 rw [gm, BitVec.toNat_and, Nat.testBit_and, BitVec.toNat_ofNat, fX hx']
 by_cases hj : j < 64
 ·have e : (~~~ BitVec.ofNat 64 (2 ^ i)).toNat.testBit j = !decide (j = i) := by
   have h1 : (~~~ BitVec.ofNat 64 (2 ^ i)).toNat.testBit j = (~~~ BitVec.ofNat 64 (2 ^ i)).getLsbD j := rfl
   rw [h1, BitVec.getLsbD_not, decide_eq_true hj, gK, BitVec.getLsbD_ofNat, decide_eq_true hj, gK, gF]
   congr 1
   exact decide_eq_decide.2 ⟨fun h => h.symm, fun h => h.symm⟩
  rw [e]
 ·have h1 : x.testBit j = false := Nat.testBit_lt_two_pow (dM hx' (fS (by decide) (by omega)))
  rw [h1, fI, fI]
def pc (x : Nat) : Nat := (sM x).length
theorem b3C (x : Nat) : pc x ≤ 64 := pM x 64
theorem a4K (x i : Nat) (hx : x < 18446744073709551616) (hi : i < 64) (hb : x.testBit i = true) : pc (sZ x i) < pc x := by
 have e : sM (sZ x i) = (sM x).filter fun j => !decide (j = i) := by
  unfold sM
  rw [List.filter_filter]
  refine List.filter_congr fun j _ => ?_
  rw [b3L x i j hx hi, Bool.and_comm]
 unfold pc
 rw [e, List.length_filter_lt_length_iff_exists]
 exact ⟨i, eV.2 ⟨dI.2 hi, hb⟩, by simp⟩
def mu (g : Reg) : Nat := (g.stops.map pc).sum + pc g.cpl + pc g.off
theorem c3S (g : Reg) : mu g ≤ 64 * g.stops.length + 128 := by
 have h : ∀ l : List Nat, (l.map pc).sum ≤ 64 * l.length := by
  intro l
  induction l with
  | nil => simp
  | cons a l ih =>
    have := b3C a
    simp only [dY, List.sum_cons, ed]
    omega
 have := h g.stops
 have := b3C g.cpl
 have := b3C g.off
 unfold mu
 omega
theorem a1B : ∀ (l : List Nat) (d y : Nat), d < l.length → y < iA l d → (l.set d y).sum < l.sum
 | [], d, y, h, _ => by simp at h
 | a :: l, 0, y, _, hy => by
   have : iA (a :: l) 0 = a := rfl
   rw [this] at hy
   simp only [fi, List.sum_cons]
   omega
 | a :: l, d + 1, y, h, hy => by
   have h1 : iA (a :: l) (d + 1) = iA l d := rfl
   rw [h1] at hy
   have := a1B l d y (by simpa using h) hy
   simp only [gM, List.sum_cons]
   omega
theorem b0x {g : Reg} (hg : g.Ok) {c : Ctl} (hc : c ∈ oS g) : mu (kW g c) < mu g := by
 obtain ⟨_, hg2, hg3, hg4⟩ := hg
 unfold oS at hc
 have hb : ∀ (x i : Nat), i ∈ sM x → i < 64 ∧ x.testBit i = true := fun x i hi => by
  unfold sM at hi
  exact ⟨dI.1 (eV.1 hi).1, (eV.1 hi).2⟩
 rcases dD.1 hc with hc | hc
 ·rcases dD.1 hc with hc | hc
  ·obtain ⟨d, hd, hc⟩ := fm.1 hc
   obtain ⟨i, hi, rfl⟩ := dF.1 hc
   have hd := dI.1 hd
   obtain ⟨hi, hbit⟩ := hb _ _ hi
   have e : kW g (zR d i) = { g with stops := g.stops.set d (sZ (iA g.stops d) i) } := rfl
   rw [e]
   have hp := a4K _ i (hg2 _ (iD hd)) hi hbit
   have := a1B (g.stops.map pc) d (pc (sZ (iA g.stops d) i)) (by simpa using hd) (by rw [uP _ hd]; exact hp)
   unfold mu
   simp only [fE]
   omega
  ·obtain ⟨i, hi, rfl⟩ := dF.1 hc
   obtain ⟨hi, hbit⟩ := hb _ _ hi
   have e : kW g (vP i) = { g with cpl := sZ g.cpl i } := rfl
   rw [e]
   have := a4K _ i hg3 hi hbit
   unfold mu
   simp only
   omega
 ·obtain ⟨i, hi, rfl⟩ := dF.1 hc
  obtain ⟨hi, hbit⟩ := hb _ _ hi
  have e : kW g (a4I i) = { g with off := sZ g.off i } := rfl
  rw [e]
  have := a4K _ i hg4 hi hbit
  unfold mu
  simp only
  omega
def mA (o : Org) : Nat → Reg → List Ctl → Reg × List Ctl
 | 0, g, l => (g, l)
 | n + 1, g, l => if (mI o g).length = 0 then (g, l) else mA o n (kW g (iA (mI o g) ((mI o g).length - 1))) (l ++ [iA (mI o g) ((mI o g).length - 1)])
theorem a3r {o : Org} {g : Reg} {c : Ctl} (h : c ∈ mI o g) : c ∈ oS g := (eV.1 h).1
theorem b3O (o : Org) (g : Reg) : (mI o g).length ≤ (oS g).length := dX _ _
theorem a0p (o : Org) : ∀ (n m : Nat) (g : Reg) (l : List Ctl), g.Ok → mu g < n → mu g < m → mA o n g l = mA o m g l
 | 0, _, _, _, _, h, _ => absurd h (dK _)
 | _, 0, _, _, _, _, h => absurd h (dK _)
 | n + 1, m + 1, g, l, hg, hn, hm => by
   rw [mA, mA]
   split
   ·rfl
   ·rename_i h
    have hc := a3r (iD (xs := mI o g) (j := (mI o g).length - 1) (by omega))
    have hlt := b0x hg hc
    exact a0p o n m _ _ (wT hg _) (by omega) (by omega)
theorem c1j (l : List Value) (H : Heap) : iB prog Tryz.f76 l H = (oJ (jL prog 30) (iC prog 30) H (get l 4)).bind fun v => if (jG v && (jG (get l 5) && (jG (get l 6) && true))) = true then some (.tuple #[v, get l 5, get l 6]) else none := by
 show (Option.bind (Option.bind (lE prog H 30 (get l 4)) fun v => some [v, get l 5, get l 6]) fun vs => _) = _
 rw [kM]
 cases oJ _ _ H (get l 4) <;> rfl
theorem b4b (o : Org) (ho : o.In H) (rg : Reg) (sv : Value) (hr : rg.In H sv) :
 Fn prog 76 [.agg #[.string o.name, o.rv, o.dv, o.cv], .agg #[sv, .int .u64 rg.cpl, .int .u64 rg.off]] H fun r H' => ∃ nv lv, (kO o rg ≠ 0 ∧ r = .tuple #[.agg #[.slice none 0 0, .int .u64 0, .int .u64 0], .slice none 0 0, I (kO o rg)] ∧ St prog H H' []) ∨
  ∃ g gone, kO o rg = 0 ∧ (g, gone) = mA o (mu rg + 1) rg [] ∧ r = .tuple #[.agg #[nv, .int .u64 g.cpl, .int .u64 g.off], lv, I 0] ∧ g.Ok ∧ g.stops.length = rg.stops.length ∧ St prog H H' [⟨nv, 1, g.stops.flatMap (one u64)⟩, ⟨lv, 3, lY gone⟩] := by
 refine .aC func76 rfl (by kernel_rfl) (m := 43) rfl fun l hn g0 g1 => ?_
 simp (disch := omega) only [↓RA, RB, simprocAttr, g0]
 refine (sR H).eNew 4 [(.string o.name), o.rv, o.dv, o.cv] rfl rfl (by simp [OC, ((sR H).sl ho.1).cells.2.1, ((sR H).sl ho.2.2.1).cells.2.1, ((sR H).sl ho.2.2.2.2.1).cells.2.1]) lV fun A1 H1 hS1 => ?_
 simp only [RT] at hS1
 simp (disch := omega) only [↓RA, RB, simprocAttr, g1]
 refine hS1.eNew 3 [sv, (.int .u64 rg.cpl), (.int .u64 rg.off)] rfl rfl (by simp [OC, (hS1.sl hr.1).cells.2.1]) lN fun A2 H2 hS2 => ?_
 simp only [RT] at hS2
 simp (disch := omega) only [↓RA, RZ, simprocAttr]
 refine hS2.eNew 3 [(.slice none 0 0), (.int .u64 0), (.int .u64 0)] rfl rfl rfl lN fun A3 H3 hS3 => ?_
 simp only [RT] at hS3
 simp (disch := omega) only [↓RA, RZ, simprocAttr, hn, hS3.ae 0 rfl, hS3.ae 1 rfl]
 refine hS3.cF (lI o (ho.ab hS3) rg sv (hr.ab hS3)) fun H4 hS4 => ?_
 simp (disch := omega) only [↓RA, RB, simprocAttr, hn]
 refine gZ (fun h1 => ?_) (fun h1 => ?_)
 ·simp (disch := omega) only [↓RA, RZ, simprocAttr, hn, a9S, h1]
  refine hS4.aa 2 rfl [(.slice none 0 0), (.int .u64 0), (.int .u64 0)] rfl rfl lN (by simp) fun H5 hS5 => ?_
  simp only [RT] at hS5
  simp (disch := omega) only [↓RA, RZ, simprocAttr, hn, c1j, hS5.ae 2 rfl, h1]
  exact ⟨.slice none 0 0, .slice none 0 0, .inl ⟨h1, hS5.forget⟩⟩
 have h0 := dC.1 h1
 obtain ⟨hz3, hz4⟩ := qO h0
 have hf := Org.bD hz3
 have hd1 := hf.dpos
 have hd2 := hf.dlen
 simp (disch := omega) only [↓RA, RZ, simprocAttr, hn, hS4.ld 1 rfl, h1]
 refine iJ ((a6M sv rg.stops (hS4.sl hr.1) (by omega) (by omega)).tr) ?_
 rintro r H6 ⟨-, hT2⟩
 have hS6 := hS4.trans hT2
 simp only [RT] at hS6
 simp (disch := omega) only [↓RA, RZ, simprocAttr, hn, h1]
 refine hS6.aa 1 rfl [r] (by rw [(hS6.rd 3 rfl).cells.1]) (by simp [(hS6.rd 3 rfl).cells.2.1]) c0i (by simp) fun H7 hS7 => ?_
 simp only [RT] at hS7
 simp (disch := omega) only [↓RA, RZ, simprocAttr, h1]
 have hS8 := hS7.nil 2
 simp only [RT] at hS8
 refine Wp.al (fun n l H' => l.length = 43 ∧ get l 2 = (ptr A1 0 4) ∧ get l 3 = (ptr A2 0 3) ∧ get l 4 = (ptr A3 0 3) ∧ ∃ (g : Reg) (gone : List Ctl) (nv ov : Value), (g.Ok ∧ mu g ≤ n ∧ g.stops.length = rg.stops.length ∧ gone.length + mu g ≤ mu rg ∧ mA o (mu g + 1) g gone = mA o (mu rg + 1) rg []) ∧ get l 8 = ov ∧ St prog H H' [⟨ptr A1 0 4, 0, [(.string o.name), o.rv, o.dv, o.cv]⟩, ⟨ptr A2 0 3, 0, [nv, .int .u64 g.cpl, .int .u64 g.off]⟩, ⟨ptr A3 0 3, 0, [(.slice none 0 0), (.int .u64 0), (.int .u64 0)]⟩, ⟨nv, 1, g.stops.flatMap (one u64)⟩, ⟨ov, 3, lY gone⟩]) (mu rg) ?_ ?_
 ·simp (disch := omega) only [RB, RC, simprocAttr, hn]
  exact ⟨rg, [], r, .slice none 0 0, ⟨hr.2, di _, rfl, by simp, rfl⟩, rfl, hS8⟩
 rintro n l H8 ⟨hn, g2, g3, g4, g, gone, nv, ov, ⟨hgo,hgn,hgl,hgm,hgs⟩, g8, hS9⟩
 simp (disch := omega) only [↓RA, RZ, simprocAttr, hn, g2, g3, hS9.ae 0 rfl, hS9.ae 1 rfl]
 have hSi := hS9
 refine iJ (b0p o (ho.ab hS9) hf g nv ⟨hS9.ax 3 rfl (fun _ => rfl), hgo⟩ (by omega) (by omega)) ?_
 rintro r H9 ⟨hx, hT3⟩
 have hS10 := hS9.trans hT3
 simp only [RT] at hS10
 have hil := b3O o g
 have hil2 := a2g (rg := g) (by omega)
 simp (disch := omega) only [↓RA, RZ, simprocAttr, hn, hx.1.len]
 refine gZ (fun q1 => ?_) (fun q1 => ?_)
 ·have hi0 : (mI o g).length = 0 := by omega
  rw [mA, if_pos hi0] at hgs
  have hnt : jG ov = true := (hS10.ax (cel := Ctl.cells) 4 rfl (fun _ => rfl)).bu
  simp (disch := omega) only [↓RA, RZ, simprocAttr, hn, g3, g4, g8, hS10.ae 1 rfl, q1]
  refine hS10.aa 2 rfl [nv, (.int .u64 g.cpl), (.int .u64 g.off)] rfl (by simp [OC, (hS10.rd 3 rfl).cells.2.1]) lN (by simp) fun H10 hS11 => ?_
  simp only [RT] at hS11
  simp (disch := omega) only [↓RA, RZ, simprocAttr, hn, g4, c1j, hS11.ae 2 rfl, q1, hnt]
  exact ⟨nv, ov, .inr ⟨g, gone, h0, hgs, rfl, hgo, hgl, hS11.pick [3, 4] (by decide) rfl⟩⟩
 have hpre : ((mI o g).length : Int) - 1 = (((mI o g).length - 1 : Nat) : Int) := by omega
 have hcm := a3r (iD (xs := mI o g) (j := (mI o g).length - 1) (by omega))
 have hmu := b0x hgo hcm
 have hcf := a2i (rg := g) (by omega) _ hcm
 simp (disch := omega) only [↓RA, RZ, simprocAttr, hn, hx.1.len, q1, hpre]
 generalize hcc : iA (mI o g) ((mI o g).length - 1) = c at hcm hmu hcf
 have hgs2 : mA o (mu (kW g c) + 1) (kW g c) (gone ++ [c]) = mA o (mu rg + 1) rg [] := by
  have hstep : mA o (mu g + 1) g gone = mA o (mu g) (kW g c) (gone ++ [c]) := by rw [mA, if_neg (by omega), hcc]
  rw [← hgs, hstep]
  exact a0p o _ _ _ _ (wT hgo c) (by omega) (by omega)
 have hgl2 := a3p g c
 simp (disch := omega) only [↓RA, RZ, simprocAttr, hn, hx.1.idx, hx.1.ae, Ctl.cells, q1, hcc]
 refine hS10.eNew 3 [I 0, I 0, I 0] rfl rfl rfl wS fun A4 H11 hS12 => ?_
 simp only [RT] at hS12
 simp (disch := omega) only [↓RA, RZ, simprocAttr, hn, q1]
 refine hS12.aa 5 rfl [I c.kind, I c.dv, I c.ix] rfl rfl wS (by simp) fun H12 hS13 => ?_
 simp only [RT] at hS13
 simp (disch := omega) only [↓RA, RZ, simprocAttr, q1]
 refine Wp.aQ kC [(4, 0)] (by kernel_rfl) (by kernel_rfl) ?_
 simp (disch := omega) only [↓RA, RZ, simprocAttr, hn, g3, hS13.ae 1 rfl, hS13.ae 5 rfl]
 refine iJ (b0d g nv ⟨hS13.ax 3 rfl (fun _ => rfl), hgo⟩ (by omega) (by omega) c hcf) ?_
 rintro r H13 ⟨nw, rfl, hT4⟩
 have hS14 := hS13.trans hT4
 simp only [RT] at hS14
 have hmr := c3S rg
 simp (disch := omega) only [↓RA, RZ, simprocAttr, hn, g8, hS14.ae 5 rfl]
 refine hS14.ai [I c.kind, I c.dv, I c.ix] a0l b0a rfl rfl (by simp [Value.cells]) rfl rfl (by decide) (by decide) fun w1 H14 hS15 => ?_
 simp only [RT] at hS15
 simp (disch := omega) only [↓RA, RZ, simprocAttr, hn]
 refine hS15.aq 4 rfl (hS15.rd 7 rfl) a0l (by rw [mC]; simp only [ed, eA]; omega) fun w2 H15 hS16 => ?_
 simp only [RT] at hS16
 simp (disch := omega) only [↓RA, RB, simprocAttr, hn, g3]
 refine hS16.aa 1 rfl [nw, (.int .u64 (kW g c).cpl), (.int .u64 (kW g c).off)] rfl (by simp [OC, (hS16.rd 6 rfl).cells.2.1]) lN (by simp) fun H16 hS17 => ?_
 simp only [RT] at hS17
 simp (disch := omega) only [↓RA, RZ, simprocAttr, hn, g2, g3, g4, hS13.ae 5 rfl]
 refine ⟨mu (kW g c), by omega, kW g c, gone ++ [c], nw, w2, ⟨wT hgo c, di _, by omega, by simp; omega, hgs2⟩, rfl, ?_⟩
 rw [wW]
 exact hS17.pick [0, 1, 2, 6, 4] (by decide) rfl
end Go.Ds
namespace Go.Ds
open Go.Proofs
variable {H : Heap}
set_option maxRecDepth 10000
set_option maxHeartbeats 1000000
end Go.Ds
namespace Go.Ds
open Go.Proofs Go.Proofs.Tryz
variable {H : Heap}
set_option maxRecDepth 10000
set_option maxHeartbeats 1000000
theorem a2X (g : Reg) (v w : Value) (hr : g.In H v) (hs : g.In H w) (hl : g.stops.length < 1000000000) :
 Fn prog 81 [.agg #[v, .int .u64 g.cpl, .int .u64 g.off], .agg #[w, .int .u64 g.cpl, .int .u64 g.off]] H fun r H' => r = .bool true ∧ St prog H H' [] := by
 refine .aC func81 rfl (by kernel_rfl) (m := 45) rfl fun l hn g0 g1 => ?_
 simp (disch := omega) only [↓RA, RB, simprocAttr, g0]
 refine (sR H).eNew 3 [v, (.int .u64 g.cpl), (.int .u64 g.off)] rfl rfl (by simp [OC, ((sR H).sl hr.1).cells.2.1]) lN fun A1 H1 hS1 => ?_
 simp only [RT] at hS1
 simp (disch := omega) only [↓RA, RB, simprocAttr, g1]
 refine hS1.eNew 3 [w, (.int .u64 g.cpl), (.int .u64 g.off)] rfl rfl (by simp [OC, (hS1.sl hs.1).cells.2.1]) lN fun A2 H2 hS2 => ?_
 simp only [RT] at hS2
 simp (disch := omega) only [↓RA, RZ, simprocAttr, hn, hS2.ld 0 rfl, (hS2.sl hr.1).len, hS2.ld 1 rfl, (hS2.sl hs.1).len]
 refine Wp.al (fun n l H' => l.length = 45 ∧ get l 2 = (ptr A1 0 3) ∧ get l 3 = (ptr A2 0 3) ∧ ∃ (j : Nat), (n + j = g.stops.length) ∧ get l 5 = I j ∧ St prog H H' [⟨ptr A1 0 3, 0, [v, (.int .u64 g.cpl), (.int .u64 g.off)]⟩, ⟨ptr A2 0 3, 0, [w, (.int .u64 g.cpl), (.int .u64 g.off)]⟩]) g.stops.length ?_ ?_
 ·simp (disch := omega) only [RB, RC, simprocAttr, hn]
  exact ⟨0, by omega, rfl, hS2⟩
 rintro n l H3 ⟨hn, g2, g3, j, hj, g5, hS3⟩
 simp (disch := omega) only [↓RA, RZ, simprocAttr, hn, g2, g5, hS3.ld 0 rfl, (hS3.sl hr.1).len]
 refine gZ (fun q1 => ?_) (fun q1 => ?_)
 ·simp (disch := omega) only [↓RA, RC, simprocAttr, q1]
  refine Wp.drw kC (by kernel_rfl) ?_
  simp (disch := omega) only [↓RA, RZ, simprocAttr, hn, g2, g3, g5, hS3.ld 0 rfl, (hS3.sl hr.1).idx, (hS3.sl hr.1).ld, one, u64, hS3.ld 1 rfl, (hS3.sl hs.1).idx, (hS3.sl hs.1).ld]
  exact ⟨n - 1, by omega, j + 1, by omega, by simp, hS3.pick [0, 1] (by decide) rfl⟩
 simp (disch := omega) only [↓RA, RZ, simprocAttr, hn, c4V, q1]
 exact hS3.forget
end Go.Ds
