/-
  A part of the proof of SilenceAdds.
-/
import Derived.Test.YtmhekfhdnednjaaGreatDoorVD
import Derived.Test.YtmhekfhdnednjaaGreatDoorVB
set_option linter.unusedVariables false
set_option linter.unusedSimpArgs false
set_option linter.defProp false
set_option linter.unusedSectionVars false
namespace Go.Ds
open Go.Proofs Go.Proofs.Tryz
variable {H : Heap}
set_option maxRecDepth 10000
set_option maxHeartbeats 1000000
abbrev KC (kvs : List (Ct × Bool)) : List Value := kcs (fun p : Int × Int => .agg #[I p.1, I p.2]) Value.bool kvs
def wY (kvs : List (Ct × Bool)) (c : Ct) : Bool := (pM kvs c).getD false
theorem b1G {B : Base} (o : Org) (r : Reg) (sv : Value) (c : Ct) (AO AR AS AQ M : Nat) (qv : Value) (q : List Ct) (kvs : List (Ct × Bool))
 (hS : St prog B H [⟨.map (some M), 0, KC kvs⟩, ⟨ptr AQ 0 1, 0, [qv]⟩, ⟨qv, 2, pr q⟩])
 (hO : ∀ {H1 : Heap} {os : List Ob}, St prog B H1 os → Var H1 AO 4 [.string o.name, o.rv, o.dv, o.cv] ∧ o.In H1 ∧ Var H1 AR 3 [sv, .int .u64 r.cpl, .int .u64 r.off] ∧ Var H1 AS 1 [.map (some M)])
 (hk : ∀ t, wY kvs t = true ↔ t ∈ q) (hq : Que o q) (ho : o.Fine) (hr : r.Ok) :
 Fn prog 111 [.agg #[I c.1, I c.2], .bool true, ptr AO 0 4, ptr AR 0 3, ptr AS 0 1, ptr AQ 0 1] H fun rr H' => ∃ kvs' qv', rr = .tuple #[] ∧ (∀ t, wY kvs' t = true ↔ t ∈ stepF o r.cpl true c q) ∧
  St prog B H' [⟨.map (some M), 0, KC kvs'⟩, ⟨ptr AQ 0 1, 0, [qv']⟩, ⟨qv', 2, pr (stepF o r.cpl true c q)⟩] := by
 have hcl := ho.clen
 refine .cU func111 rfl (by kernel_rfl) (m := 65) rfl fun l hn g0 g1 g2 g3 g4 g5 => ?_
 simp (disch := omega) only [↓RA, RB, simprocAttr, g0]
 refine hS.eNew 2 [I c.1, I c.2] rfl rfl rfl pK fun A1 H1 hS1 => ?_
 simp only [RT] at hS1
 simp (disch := omega) only [↓RA, RZ, simprocAttr, hn, g2, ((hO hS1).1).ld, ((hO hS1).2.1.2.2.2.2.1).len]
 refine Wp.al (fun n l H' => l.length = 65 ∧ get l 1 = (.bool true) ∧ get l 2 = (ptr AO 0 4) ∧ get l 3 = (ptr AR 0 3) ∧ get l 4 = (ptr AS 0 1) ∧ get l 5 = (ptr AQ 0 1) ∧ get l 6 = (ptr A1 0 2) ∧ get l 12 = o.cv ∧ get l 13 = I o.cpls.length ∧ ∃ (i : Nat) (kvs' : List (Ct × Bool)) (qv' : Value), (n + i = o.cpls.length ∧ ∀ t, wY kvs' t = true ↔ t ∈ stepN o r.cpl true c q i) ∧ get l 14 = I i ∧ St prog B H' [⟨.map (some M), 0, KC kvs'⟩, ⟨ptr AQ 0 1, 0, [qv']⟩, ⟨qv', 2, pr (stepN o r.cpl true c q i)⟩, ⟨ptr A1 0 2, 0, [I c.1, I c.2]⟩]) o.cpls.length ?_ ?_
 ·simp (disch := omega) only [RB, RC, simprocAttr, hn, g1, g2, g3, g4, g5]
  exact ⟨0, kvs, qv, ⟨by omega, hk⟩, rfl, hS1⟩
 rintro n l H2 ⟨hn, g1, g2, g3, g4, g5, g6, g12, g13, i, kvs', qv', ⟨hi,hk'⟩, g14, hS2⟩
 simp (disch := omega) only [↓RA, RB, simprocAttr, hn, g13, g14]
 refine iA (fun q1 => ?_) (fun q1 => ?_)
 ·have hql : (stepN o r.cpl true c q i).length ≤ 1024 := (hq.stepN r.cpl true c i).len ho
  have e1 := a3r r.cpl i hr.2.2.1
  have e2 := a2K (r.cpl >>> i) (xA i hr.2.2.1)
  have e3 := tb r.cpl i
  have hskip : a1d r.cpl true c (iB o.cpls i) i = false → stepN o r.cpl true c q (i + 1) = stepN o r.cpl true c q i := fun h => by
   rw [nR, step1, if_neg (by rw [h]; simp)]
  have hkeep : rO o ((iB o.cpls i).dst, vR (c.2 + (iB o.cpls i).shift)) = false ∨ ((iB o.cpls i).dst, vR (c.2 + (iB o.cpls i).shift)) ∈ stepN o r.cpl true c q i → stepN o r.cpl true c q (i + 1) = stepN o r.cpl true c q i := fun h => by
   rw [nR, step1, if_neg]
   simp only [to1, dc, dM]
   rintro ⟨⟨_, h2⟩, h3⟩
   rcases h with h | h
   ·rw [h] at h2; cases h2
   ·exact absurd h (of_decide_eq_false h3)
  simp (disch := omega) only [↓RA, RZ, simprocAttr, hn, g12, g14, ((hO hS2).2.1.2.2.2.2.1).idx, ((hO hS2).2.1.2.2.2.2.1).ag, Cpl.cells, q1]
  refine hS2.eNew 5 [(.string ⟨#[]⟩), I 0, I 0, I 0, (.bool false)] rfl rfl rfl wA fun A2 H3 hS3 => ?_
  simp only [RT] at hS3
  simp (disch := omega) only [↓RA, RZ, simprocAttr, hn, q1]
  refine hS3.aa 4 rfl [(.string (iB o.cpls i).name), I (iB o.cpls i).src, I (iB o.cpls i).dst, I (iB o.cpls i).shift, (.bool (iB o.cpls i).thr)] rfl rfl wA (by simp) fun H4 hS4 => ?_
  simp only [RT] at hS4
  simp (disch := omega) only [↓RA, RZ, simprocAttr, hn, g3, ((hO hS4).2.2.1).ld, q1, e1, e2]
  refine iO (fun b1 => ?_) (fun b1 => ?_)
  ·have hs := hskip (by unfold a1d; rw [e3, decide_eq_false (by omega)]; rfl)
   simp (disch := omega) only [↓RA, RZ, simprocAttr, hn, g1, g2, g3, g4, g5, g6, g12, g13, g14, q1, b1]
   exact ⟨n - 1, by omega, i + 1, kvs', qv', ⟨by omega, by rw [hs]; exact hk'⟩, by simp, by rw [hs]; exact hS4.pick [0, 1, 2, 3] (by decide) rfl⟩
  have hb : r.cpl.testBit i = true := by rw [e3]; exact decide_eq_true (by omega)
  simp (disch := omega) only [↓RA, RZ, simprocAttr, hn, g6, hS4.ld 4 rfl, hS4.ld 3 rfl, q1, b1]
  refine iO (fun b2 => ?_) (fun b2 => ?_)
  ·have hs := hskip (by unfold a1d; rw [decide_eq_false b2]; simp)
   simp (disch := omega) only [↓RA, RZ, simprocAttr, hn, g1, g2, g3, g4, g5, g6, g12, g13, g14, q1, b1, b2]
   exact ⟨n - 1, by omega, i + 1, kvs', qv', ⟨by omega, by rw [hs]; exact hk'⟩, by simp, by rw [hs]; exact hS4.pick [0, 1, 2, 3] (by decide) rfl⟩
  have hsrc := dG.1 b2
  simp (disch := omega) only [↓RA, RZ, simprocAttr, hn, g1, hS4.ld 4 rfl, q1, b1, b2]
  refine jE (fun b4 => ?_) (fun b4 => ?_)
  ·have hs := hskip (by unfold a1d; simp only [Bool.not_true, Bool.false_or, fK]; exact .inr (by simpa using b4))
   simp (disch := omega) only [↓RA, RZ, simprocAttr, hn, g1, g2, g3, g4, g5, g6, g12, g13, g14, q1, b1, b2, b4]
   exact ⟨n - 1, by omega, i + 1, kvs', qv', ⟨by omega, by rw [hs]; exact hk'⟩, by simp, by rw [hs]; exact hS4.pick [0, 1, 2, 3] (by decide) rfl⟩
  have hgo : a1d r.cpl true c (iB o.cpls i) i = true := by
   unfold a1d
   rw [hb, decide_eq_true hsrc]
   simpa using b4
  simp (disch := omega) only [↓RA, RZ, simprocAttr, hn, g6, hS4.ld 4 rfl, hS4.ld 3 rfl, q1, b1, b2, b4]
  simp (disch := omega) only [↓RA, RZ, simprocAttr, xP]
  refine hS4.eNew 2 [I 0, I 0] rfl rfl rfl pK fun A3 H5 hS5 => ?_
  simp only [RT] at hS5
  simp (disch := omega) only [↓RA, RZ, simprocAttr, hn, q1, b1, b2, b4]
  refine hS5.aa 5 rfl [I (iB o.cpls i).dst, I (vR (c.2 + (iB o.cpls i).shift))] rfl rfl pK (by simp) fun H6 hS6 => ?_
  simp only [RT] at hS6
  simp (disch := omega) only [↓RA, RZ, simprocAttr, hn, g2, ((hO hS6).1).ag, hS6.ag 5 rfl, q1, b1, b2, b4]
  refine hS6.cF (wZ o (hO hS6).2.1 ((iB o.cpls i).dst, vR (c.2 + (iB o.cpls i).shift))) fun H7 hS7 => ?_
  simp (disch := omega) only [↓RA, RZ, simprocAttr, hn, q1, b1, b2, b4]
  refine kA (fun b5 => ?_) (fun b5 => ?_)
  ·have hok := (uA o _).1 b5
   simp (disch := omega) only [↓RA, RZ, simprocAttr, hn, g4, ((hO hS7).2.2.2).ld, hS7.ag 5 rfl, q1, b1, b2, b4, b5]
   refine hS7.bz (k := ((iB o.cpls i).dst, vR (c.2 + (iB o.cpls i).shift))) 0 rfl a7N (fun _ => rfl) ?_
   simp (disch := omega) only [↓RA, RZ, simprocAttr, hn, q1, b1, b2, b4, b5]
   refine jE (fun b6 => ?_) (fun b6 => ?_)
   ·have hnot : ((iB o.cpls i).dst, vR (c.2 + (iB o.cpls i).shift)) ∉ stepN o r.cpl true c q i := fun h => by
     have h := (hk' _).2 h
     unfold wY at h
     first | (rw [dM] at b6; exact Bool.false_ne_true (b6.symm.trans h)) | exact b6 h
    have hs : stepN o r.cpl true c q (i + 1) = stepN o r.cpl true c q i ++ [((iB o.cpls i).dst, vR (c.2 + (iB o.cpls i).shift))] := by
     rw [nR]
     unfold step1
     rw [if_pos (by simp only [to1, hgo, hok]; simp [hnot])]
     rfl
    simp (disch := omega) only [↓RA, RZ, simprocAttr, hn, g4, ((hO hS7).2.2.2).ld, hS7.ag 5 rfl, q1, b1, b2, b4, b5, b6]
    refine hS7.ch (k := ((iB o.cpls i).dst, vR (c.2 + (iB o.cpls i).shift))) 0 rfl a7N fun H8 hS8 => ?_
    simp only [RT] at hS8
    simp (disch := omega) only [↓RA, RZ, simprocAttr, hn, g5, hS8.ld 1 rfl, hS8.ag 5 rfl, q1, b1, b2, b4, b5, b6]
    refine hS8.ai [I (iB o.cpls i).dst, I (vR (c.2 + (iB o.cpls i).shift))] a1e b1A rfl rfl (by simp [Value.cells]) rfl rfl (by decide) (by decide) fun w1 H9 hS9 => ?_
    simp only [RT] at hS9
    simp (disch := omega) only [↓RA, RZ, simprocAttr, hn, q1, b1, b2, b4, b5, b6]
    refine hS9.aq 2 rfl (hS9.rd 6 rfl) a1e (by rw [iF]; simp; omega) fun w2 H10 hS10 => ?_
    simp only [RT] at hS10
    simp (disch := omega) only [↓RA, RZ, simprocAttr, hn, g5, q1, b1, b2, b4, b5, b6]
    refine hS10.aa 1 rfl [w2] (by rw [(hS10.rd 2 rfl).cells.1]) (by simp [(hS10.rd 2 rfl).cells.2.1]) b7l (by simp) fun H11 hS11 => ?_
    simp only [RT] at hS11
    simp (disch := omega) only [↓RA, RZ, simprocAttr, hn, g1, g2, g3, g4, g5, g6, g12, g13, g14, q1, b1, b2, b4, b5, b6]
    refine ⟨n - 1, by omega, i + 1, zL kvs' ((iB o.cpls i).dst, vR (c.2 + (iB o.cpls i).shift)) true, w2, ⟨by omega, fun t => ?_⟩, by simp, ?_⟩
    ·rw [hs, dJ, dC, ← hk' t]
     unfold wY
     rw [yW]
     by_cases e : t = ((iB o.cpls i).dst, vR (c.2 + (iB o.cpls i).shift))
     ·simp [e]
     ·simp [e]
    ·rw [hs, jN]
     exact hS11.pick [0, 1, 2, 3] (by decide) rfl
   have hin : ((iB o.cpls i).dst, vR (c.2 + (iB o.cpls i).shift)) ∈ stepN o r.cpl true c q i := (hk' _).1 (by
    unfold wY
    simpa using b6)
   have hs := hkeep (.inr hin)
   simp (disch := omega) only [↓RA, RZ, simprocAttr, hn, g1, g2, g3, g4, g5, g6, g12, g13, g14, q1, b1, b2, b4, b5, b6]
   exact ⟨n - 1, by omega, i + 1, kvs', qv', ⟨by omega, by rw [hs]; exact hk'⟩, by simp, by rw [hs]; exact hS7.pick [0, 1, 2, 3] (by decide) rfl⟩
  have hs := hkeep (.inl (by rw [← eM]; exact fun h => b5 ((uA o _).2 h)))
  simp (disch := omega) only [↓RA, RZ, simprocAttr, hn, g1, g2, g3, g4, g5, g6, g12, g13, g14, q1, b1, b2, b4, b5]
  exact ⟨n - 1, by omega, i + 1, kvs', qv', ⟨by omega, by rw [hs]; exact hk'⟩, by simp, by rw [hs]; exact hS7.pick [0, 1, 2, 3] (by decide) rfl⟩
 simp (disch := omega) only [↓RA, RZ, simprocAttr, c0j, q1]
 have hii : i = o.cpls.length := by omega
 subst hii
 exact ⟨kvs', qv', hk', hS2.pick [0, 1, 2] (by decide) rfl⟩
theorem b2p {B : Base} (o : Org) (r : Reg) (sv : Value) (c : Ct) (AO AR AS AQ M : Nat) (qv : Value) (q : List Ct) (kvs : List (Ct × Bool))
 (hS : St prog B H [⟨.map (some M), 0, KC kvs⟩, ⟨ptr AQ 0 1, 0, [qv]⟩, ⟨qv, 2, pr q⟩])
 (hO : ∀ {H1 : Heap} {os : List Ob}, St prog B H1 os → Var H1 AO 4 [.string o.name, o.rv, o.dv, o.cv] ∧ o.In H1 ∧ Var H1 AR 3 [sv, .int .u64 r.cpl, .int .u64 r.off] ∧ Var H1 AS 1 [.map (some M)])
 (hk : ∀ t, wY kvs t = true ↔ t ∈ q) (hq : Que o q) (ho : o.Fine) (hr : r.Ok) :
 Fn prog 111 [.agg #[I c.1, I c.2], .bool false, ptr AO 0 4, ptr AR 0 3, ptr AS 0 1, ptr AQ 0 1] H fun rr H' => ∃ kvs' qv', rr = .tuple #[] ∧ (∀ t, wY kvs' t = true ↔ t ∈ stepF o r.cpl false c q) ∧
  St prog B H' [⟨.map (some M), 0, KC kvs'⟩, ⟨ptr AQ 0 1, 0, [qv']⟩, ⟨qv', 2, pr (stepF o r.cpl false c q)⟩] := by
 have hcl := ho.clen
 refine .cU func111 rfl (by kernel_rfl) (m := 65) rfl fun l hn g0 g1 g2 g3 g4 g5 => ?_
 simp (disch := omega) only [↓RA, RB, simprocAttr, g0]
 refine hS.eNew 2 [I c.1, I c.2] rfl rfl rfl pK fun A1 H1 hS1 => ?_
 simp only [RT] at hS1
 simp (disch := omega) only [↓RA, RZ, simprocAttr, hn, g2, ((hO hS1).1).ld, ((hO hS1).2.1.2.2.2.2.1).len]
 refine Wp.al (fun n l H' => l.length = 65 ∧ get l 1 = (.bool false) ∧ get l 2 = (ptr AO 0 4) ∧ get l 3 = (ptr AR 0 3) ∧ get l 4 = (ptr AS 0 1) ∧ get l 5 = (ptr AQ 0 1) ∧ get l 6 = (ptr A1 0 2) ∧ get l 12 = o.cv ∧ get l 13 = I o.cpls.length ∧ ∃ (i : Nat) (kvs' : List (Ct × Bool)) (qv' : Value), (n + i = o.cpls.length ∧ ∀ t, wY kvs' t = true ↔ t ∈ stepN o r.cpl false c q i) ∧ get l 14 = I i ∧ St prog B H' [⟨.map (some M), 0, KC kvs'⟩, ⟨ptr AQ 0 1, 0, [qv']⟩, ⟨qv', 2, pr (stepN o r.cpl false c q i)⟩, ⟨ptr A1 0 2, 0, [I c.1, I c.2]⟩]) o.cpls.length ?_ ?_
 ·simp (disch := omega) only [RB, RC, simprocAttr, hn, g1, g2, g3, g4, g5]
  exact ⟨0, kvs, qv, ⟨by omega, hk⟩, rfl, hS1⟩
 rintro n l H2 ⟨hn, g1, g2, g3, g4, g5, g6, g12, g13, i, kvs', qv', ⟨hi,hk'⟩, g14, hS2⟩
 simp (disch := omega) only [↓RA, RB, simprocAttr, hn, g13, g14]
 refine iA (fun q1 => ?_) (fun q1 => ?_)
 ·have hql : (stepN o r.cpl false c q i).length ≤ 1024 := (hq.stepN r.cpl false c i).len ho
  have e1 := a3r r.cpl i hr.2.2.1
  have e2 := a2K (r.cpl >>> i) (xA i hr.2.2.1)
  have e3 := tb r.cpl i
  have hskip : a1d r.cpl false c (iB o.cpls i) i = false → stepN o r.cpl false c q (i + 1) = stepN o r.cpl false c q i := fun h => by
   rw [nR, step1, if_neg (by rw [h]; simp)]
  have hkeep : rO o ((iB o.cpls i).dst, vR (c.2 + (iB o.cpls i).shift)) = false ∨ ((iB o.cpls i).dst, vR (c.2 + (iB o.cpls i).shift)) ∈ stepN o r.cpl false c q i → stepN o r.cpl false c q (i + 1) = stepN o r.cpl false c q i := fun h => by
   rw [nR, step1, if_neg]
   simp only [to1, dc, dM]
   rintro ⟨⟨_, h2⟩, h3⟩
   rcases h with h | h
   ·rw [h] at h2; cases h2
   ·exact absurd h (of_decide_eq_false h3)
  simp (disch := omega) only [↓RA, RZ, simprocAttr, hn, g12, g14, ((hO hS2).2.1.2.2.2.2.1).idx, ((hO hS2).2.1.2.2.2.2.1).ag, Cpl.cells, q1]
  refine hS2.eNew 5 [(.string ⟨#[]⟩), I 0, I 0, I 0, (.bool false)] rfl rfl rfl wA fun A2 H3 hS3 => ?_
  simp only [RT] at hS3
  simp (disch := omega) only [↓RA, RZ, simprocAttr, hn, q1]
  refine hS3.aa 4 rfl [(.string (iB o.cpls i).name), I (iB o.cpls i).src, I (iB o.cpls i).dst, I (iB o.cpls i).shift, (.bool (iB o.cpls i).thr)] rfl rfl wA (by simp) fun H4 hS4 => ?_
  simp only [RT] at hS4
  simp (disch := omega) only [↓RA, RZ, simprocAttr, hn, g3, ((hO hS4).2.2.1).ld, q1, e1, e2]
  refine iO (fun b1 => ?_) (fun b1 => ?_)
  ·have hs := hskip (by unfold a1d; rw [e3, decide_eq_false (by omega)]; rfl)
   simp (disch := omega) only [↓RA, RZ, simprocAttr, hn, g1, g2, g3, g4, g5, g6, g12, g13, g14, q1, b1]
   exact ⟨n - 1, by omega, i + 1, kvs', qv', ⟨by omega, by rw [hs]; exact hk'⟩, by simp, by rw [hs]; exact hS4.pick [0, 1, 2, 3] (by decide) rfl⟩
  have hb : r.cpl.testBit i = true := by rw [e3]; exact decide_eq_true (by omega)
  simp (disch := omega) only [↓RA, RZ, simprocAttr, hn, g6, hS4.ld 4 rfl, hS4.ld 3 rfl, q1, b1]
  refine iO (fun b2 => ?_) (fun b2 => ?_)
  ·have hs := hskip (by unfold a1d; rw [decide_eq_false b2]; simp)
   simp (disch := omega) only [↓RA, RZ, simprocAttr, hn, g1, g2, g3, g4, g5, g6, g12, g13, g14, q1, b1, b2]
   exact ⟨n - 1, by omega, i + 1, kvs', qv', ⟨by omega, by rw [hs]; exact hk'⟩, by simp, by rw [hs]; exact hS4.pick [0, 1, 2, 3] (by decide) rfl⟩
  have hsrc := dG.1 b2
  have hgo : a1d r.cpl false c (iB o.cpls i) i = true := by
   unfold a1d
   rw [hb, decide_eq_true hsrc]
   rfl
  simp (disch := omega) only [↓RA, RZ, simprocAttr, hn, g1, g6, hS4.ld 4 rfl, hS4.ld 3 rfl, q1, b1, b2]
  simp (disch := omega) only [↓RA, RZ, simprocAttr, xP]
  refine hS4.eNew 2 [I 0, I 0] rfl rfl rfl pK fun A3 H5 hS5 => ?_
  simp only [RT] at hS5
  simp (disch := omega) only [↓RA, RZ, simprocAttr, hn, q1, b1, b2]
  refine hS5.aa 5 rfl [I (iB o.cpls i).dst, I (vR (c.2 + (iB o.cpls i).shift))] rfl rfl pK (by simp) fun H6 hS6 => ?_
  simp only [RT] at hS6
  simp (disch := omega) only [↓RA, RZ, simprocAttr, hn, g2, ((hO hS6).1).ag, hS6.ag 5 rfl, q1, b1, b2]
  refine hS6.cF (wZ o (hO hS6).2.1 ((iB o.cpls i).dst, vR (c.2 + (iB o.cpls i).shift))) fun H7 hS7 => ?_
  simp (disch := omega) only [↓RA, RZ, simprocAttr, hn, q1, b1, b2]
  refine kA (fun b5 => ?_) (fun b5 => ?_)
  ·have hok := (uA o _).1 b5
   simp (disch := omega) only [↓RA, RZ, simprocAttr, hn, g4, ((hO hS7).2.2.2).ld, hS7.ag 5 rfl, q1, b1, b2, b5]
   refine hS7.bz (k := ((iB o.cpls i).dst, vR (c.2 + (iB o.cpls i).shift))) 0 rfl a7N (fun _ => rfl) ?_
   simp (disch := omega) only [↓RA, RZ, simprocAttr, hn, q1, b1, b2, b5]
   refine jE (fun b6 => ?_) (fun b6 => ?_)
   ·have hnot : ((iB o.cpls i).dst, vR (c.2 + (iB o.cpls i).shift)) ∉ stepN o r.cpl false c q i := fun h => by
     have h := (hk' _).2 h
     unfold wY at h
     first | (rw [dM] at b6; exact Bool.false_ne_true (b6.symm.trans h)) | exact b6 h
    have hs : stepN o r.cpl false c q (i + 1) = stepN o r.cpl false c q i ++ [((iB o.cpls i).dst, vR (c.2 + (iB o.cpls i).shift))] := by
     rw [nR]
     unfold step1
     rw [if_pos (by simp only [to1, hgo, hok]; simp [hnot])]
     rfl
    simp (disch := omega) only [↓RA, RZ, simprocAttr, hn, g4, ((hO hS7).2.2.2).ld, hS7.ag 5 rfl, q1, b1, b2, b5, b6]
    refine hS7.ch (k := ((iB o.cpls i).dst, vR (c.2 + (iB o.cpls i).shift))) 0 rfl a7N fun H8 hS8 => ?_
    simp only [RT] at hS8
    simp (disch := omega) only [↓RA, RZ, simprocAttr, hn, g5, hS8.ld 1 rfl, hS8.ag 5 rfl, q1, b1, b2, b5, b6]
    refine hS8.ai [I (iB o.cpls i).dst, I (vR (c.2 + (iB o.cpls i).shift))] a1e b1A rfl rfl (by simp [Value.cells]) rfl rfl (by decide) (by decide) fun w1 H9 hS9 => ?_
    simp only [RT] at hS9
    simp (disch := omega) only [↓RA, RZ, simprocAttr, hn, q1, b1, b2, b5, b6]
    refine hS9.aq 2 rfl (hS9.rd 6 rfl) a1e (by rw [iF]; simp; omega) fun w2 H10 hS10 => ?_
    simp only [RT] at hS10
    simp (disch := omega) only [↓RA, RZ, simprocAttr, hn, g5, q1, b1, b2, b5, b6]
    refine hS10.aa 1 rfl [w2] (by rw [(hS10.rd 2 rfl).cells.1]) (by simp [(hS10.rd 2 rfl).cells.2.1]) b7l (by simp) fun H11 hS11 => ?_
    simp only [RT] at hS11
    simp (disch := omega) only [↓RA, RZ, simprocAttr, hn, g1, g2, g3, g4, g5, g6, g12, g13, g14, q1, b1, b2, b5, b6]
    refine ⟨n - 1, by omega, i + 1, zL kvs' ((iB o.cpls i).dst, vR (c.2 + (iB o.cpls i).shift)) true, w2, ⟨by omega, fun t => ?_⟩, by simp, ?_⟩
    ·rw [hs, dJ, dC, ← hk' t]
     unfold wY
     rw [yW]
     by_cases e : t = ((iB o.cpls i).dst, vR (c.2 + (iB o.cpls i).shift))
     ·simp [e]
     ·simp [e]
    ·rw [hs, jN]
     exact hS11.pick [0, 1, 2, 3] (by decide) rfl
   have hin : ((iB o.cpls i).dst, vR (c.2 + (iB o.cpls i).shift)) ∈ stepN o r.cpl false c q i := (hk' _).1 (by
    unfold wY
    simpa using b6)
   have hs := hkeep (.inr hin)
   simp (disch := omega) only [↓RA, RZ, simprocAttr, hn, g1, g2, g3, g4, g5, g6, g12, g13, g14, q1, b1, b2, b5, b6]
   exact ⟨n - 1, by omega, i + 1, kvs', qv', ⟨by omega, by rw [hs]; exact hk'⟩, by simp, by rw [hs]; exact hS7.pick [0, 1, 2, 3] (by decide) rfl⟩
  have hs := hkeep (.inl (by rw [← eM]; exact fun h => b5 ((uA o _).2 h)))
  simp (disch := omega) only [↓RA, RZ, simprocAttr, hn, g1, g2, g3, g4, g5, g6, g12, g13, g14, q1, b1, b2, b5]
  exact ⟨n - 1, by omega, i + 1, kvs', qv', ⟨by omega, by rw [hs]; exact hk'⟩, by simp, by rw [hs]; exact hS7.pick [0, 1, 2, 3] (by decide) rfl⟩
 simp (disch := omega) only [↓RA, RZ, simprocAttr, c0j, q1]
 have hii : i = o.cpls.length := by omega
 subst hii
 exact ⟨kvs', qv', hk', hS2.pick [0, 1, 2] (by decide) rfl⟩
theorem a7P (o : Org) (cp : Nat) (l : List Ct) (i : Nat) (h : i < l.length) : oF o cp (l.take (i + 1)) = stepF o cp false (iB l i) (oF o cp (l.take i)) := by
 unfold oF
 rw [kI l i h, gx]
 rfl
theorem qW (o : Org) (cp : Nat) (l : List Ct) : Que o (oF o cp l) := by
 unfold oF
 have : ∀ (l : List Ct) (q : List Ct), Que o q → Que o (l.foldl (fun q c => stepF o cp false c q) q) := by
  intro l
  induction l with
  | nil => intro q h; exact h
  | cons c l ih => intro q h; exact ih _ (h.stepF cp false c)
 exact this l [] (Que.nil o)
theorem a1y : jC (.map none) = true := rfl
theorem a7k (o : Org) (ho : o.In H) (hf : o.Fine) (r : Reg) (sv : Value) (hr : r.In H sv) (fv : Value) (first : List Ct) (hfi : Sl 2 jT H fv first) (hfl : first.length ≤ 1024) (hfo : ∀ c ∈ first, rO o c = true) :
 Fn prog 60 [.agg #[.string o.name, o.rv, o.dv, o.cv], .agg #[sv, .int .u64 r.cpl, .int .u64 r.off], fv] H fun rr H' => Slx 2 jT H' (fun B => H.length ≤ B) rr (tY o r first) ∧ St prog H H' [] := by
 refine .bO func60 rfl (by kernel_rfl) (m := 56) rfl fun l hn g0 g1 g2 => ?_
 simp (disch := omega) only [↓RA, RB, simprocAttr, g0]
 refine (sR H).eNew 4 [(.string o.name), o.rv, o.dv, o.cv] rfl rfl (by simp [OC, ((sR H).sl ho.1).cells.2.1, ((sR H).sl ho.2.2.1).cells.2.1, ((sR H).sl ho.2.2.2.2.1).cells.2.1]) mW fun A1 H1 hS1 => ?_
 simp only [RT] at hS1
 simp (disch := omega) only [↓RA, RB, simprocAttr, g1]
 refine hS1.eNew 3 [sv, (.int .u64 r.cpl), (.int .u64 r.off)] rfl rfl (by simp [OC, (hS1.sl hr.1).cells.2.1]) mP fun A2 H2 hS2 => ?_
 simp only [RT] at hS2
 simp (disch := omega) only [↓RA, RB, simprocAttr]
 refine hS2.bQ a7N fun M1 H3 hS3 => ?_
 simp only [RT] at hS3
 simp (disch := omega) only [↓RA, RZ, simprocAttr, a1y]
 refine hS3.eNew 1 [(.map none)] rfl rfl rfl b3P fun A3 H4 hS4 => ?_
 simp only [RT] at hS4
 simp (disch := omega) only [↓RA, RB, simprocAttr, hn]
 refine hS4.aa 3 rfl [(.map (some M1))] rfl rfl b3P (by simp) fun H5 hS5 => ?_
 simp only [RT] at hS5
 simp (disch := omega) only [↓RA, RZ, simprocAttr]
 refine hS5.eNew 1 [(.slice none 0 0)] rfl rfl rfl b7l fun A4 H6 hS6 => ?_
 simp only [RT] at hS6
 simp (disch := omega) only [↓RA, RZ, simprocAttr, hn, g2, (hS6.sl hfi).len]
 have hS7 := hS6.nil 1
 simp only [RT] at hS7
 have hS8 := hS7.nil 1
 simp only [RT] at hS8
 refine Wp.al (fun n l H' => l.length = 56 ∧ get l 4 = (ptr A2 0 3) ∧ get l 6 = (.slice none 0 0) ∧ get l 8 = (ptr A4 0 1) ∧ get l 10 = (.func (.func 111) #[] #[(ptr A1 0 4), (ptr A2 0 3), (ptr A3 0 1), (ptr A4 0 1)]) ∧ get l 16 = fv ∧ get l 17 = I first.length ∧ ∃ (i : Nat) (kvs : List (Ct × Bool)) (qv ov : Value), (n + i = first.length ∧ ∀ t, wY kvs t = true ↔ t ∈ oF o r.cpl (first.take i)) ∧ get l 18 = I i ∧ get l 9 = ov ∧ St prog H H' [⟨ptr A1 0 4, 0, [(.string o.name), o.rv, o.dv, o.cv]⟩, ⟨ptr A2 0 3, 0, [sv, (.int .u64 r.cpl), (.int .u64 r.off)]⟩, ⟨.map (some M1), 0, KC kvs⟩, ⟨ptr A3 0 1, 0, [(.map (some M1))]⟩, ⟨ptr A4 0 1, 0, [qv]⟩, ⟨qv, 2, pr (oF o r.cpl (first.take i))⟩, ⟨ov, 2, pr ((first.take i).filter fun c => !r.off.testBit c.1.toNat)⟩]) first.length ?_ ?_
 ·simp (disch := omega) only [RB, RC, simprocAttr, hn]
  refine ⟨0, [], .slice none 0 0, .slice none 0 0, ⟨by omega, fun t => ?_⟩, rfl, rfl, hS8⟩
  simp [wY, pM, oF]
 rintro n l H7 ⟨hn, g4, g6, g8, rE, g16, g17, i, kvs, qv, ov, ⟨hi,hk⟩, g18, g9, hS9⟩
 simp (disch := omega) only [↓RA, RB, simprocAttr, hn, g17, g18]
 refine iA (fun q1 => ?_) (fun q1 => ?_)
 ·have hci := (uL o _).1 (hfo _ (iE (xs := first) (j := i) (by omega)))
  have hqu := qW o r.cpl (first.take i)
  have hqs := a7P o r.cpl first i (by omega)
  have hql := (qW o r.cpl (first.take (i + 1))).len hf
  simp (disch := omega) only [↓RA, RZ, simprocAttr, hn, g16, g18, (hS9.sl hfi).idx, (hS9.sl hfi).ag, jT, q1]
  refine hS9.eNew 2 [I 0, I 0] rfl rfl rfl pK fun A5 H8 hS10 => ?_
  simp only [RT] at hS10
  simp (disch := omega) only [↓RA, RZ, simprocAttr, hn, q1]
  refine hS10.aa 7 rfl [I (iB first i).1, I (iB first i).2] rfl rfl pK (by simp) fun H9 hS11 => ?_
  simp only [RT] at hS11
  simp (disch := omega) only [↓RA, RZ, simprocAttr, hn, rE, hS11.ag 7 rfl, q1]
  have hM1 := hS11.pick (os' := [⟨.map (some M1), 0, _⟩, ⟨ptr A4 0 1, 0, _⟩, ⟨qv, 2, _⟩]) [2, 4, 5] (by decide) rfl
  have hR1 := hS11.pick (os' := [⟨.map (some M1), 0, _⟩, ⟨ptr A4 0 1, 0, _⟩, ⟨qv, 2, _⟩, ⟨ptr A1 0 4, 0, _⟩, ⟨ptr A2 0 3, 0, _⟩, ⟨ptr A3 0 1, 0, _⟩, ⟨ov, 2, _⟩, ⟨ptr A5 0 2, 0, _⟩]) [2, 4, 5, 0, 1, 3, 6, 7] (by decide) rfl
  refine iJ (b2p o r sv (iB first i) A1 A2 A3 A4 M1 qv (oF o r.cpl (first.take i)) kvs hM1.aH (fun h => ⟨(hR1.frame h.forget).var 0 rfl, ho.ab (hR1.frame h.forget), (hR1.frame h.forget).var 1 rfl, (hR1.frame h.forget).var 2 rfl⟩) hk hqu hf hr.2) ?_
  rintro r H10 ⟨kvs', qv', rfl, hk', hT1⟩
  have hS12 := hR1.frame hT1
  simp only [RT] at hS12
  have e1 := a3r r.off (iB first i).1.toNat hr.2.2.2.2
  have e2 := a2K (r.off >>> (iB first i).1.toNat) (xA _ hr.2.2.2.2)
  have e3 := tb r.off (iB first i).1.toNat
  have htk := kI first i (by omega)
  have hfl : (pr ((first.take i).filter fun c => !r.off.testBit c.1.toNat)).length ≤ i * 2 := by
   rw [iF]
   refine dQ 2 ?_
   refine dI (dS _ _) ?_
   simp
   omega
  rw [← hqs] at hk'
  simp (disch := omega) only [↓RA, RZ, simprocAttr, hn, g4, hS12.ld 4 rfl, hS12.ld 7 rfl, q1, e1, e2]
  refine iA (fun q2 => ?_) (fun q2 => ?_)
  ·have hx : ([iB first i].filter fun c => !r.off.testBit c.1.toNat) = [iB first i] := by simp [e3, decide_eq_false (show ¬ r.off >>> (iB first i).1.toNat % 2 = 1 by omega)]
   simp (disch := omega) only [↓RA, RZ, simprocAttr, hn, g9, hS12.ag 7 rfl, q1, q2]
   refine hS12.ai [I (iB first i).1, I (iB first i).2] a1e b1A rfl rfl (by simp [Value.cells]) rfl rfl (by decide) (by decide) fun w1 H11 hS13 => ?_
   simp only [RT] at hS13
   simp (disch := omega) only [↓RA, RZ, simprocAttr, hn, q1, q2]
   refine hS13.aq 6 rfl (hS13.rd 8 rfl) a1e (by first | (simp; done) | (simp; omega)) fun w2 H12 hS14 => ?_
   simp only [RT] at hS14
   simp (disch := omega) only [↓RA, RZ, simprocAttr, hn, g4, g6, g8, rE, g16, g17, g18, q1, q2]
   refine ⟨n - 1, by omega, i + 1, kvs', qv', w2, ⟨by omega, hk'⟩, by simp, rfl, ?_⟩
   rw [hqs, htk, ew, hx, jN]
   exact hS14.pick [3, 4, 0, 5, 1, 2, 6] (by decide) rfl
  have hx : ([iB first i].filter fun c => !r.off.testBit c.1.toNat) = [] := by simp [e3, decide_eq_true (show r.off >>> (iB first i).1.toNat % 2 = 1 by omega)]
  simp (disch := omega) only [↓RA, RZ, simprocAttr, hn, g4, g6, g8, rE, g16, g17, g18, g9, q1, q2]
  refine ⟨n - 1, by omega, i + 1, kvs', qv', ov, ⟨by omega, hk'⟩, by simp, rfl, ?_⟩
  rw [hqs, htk, ew, hx, dr]
  exact hS12.pick [3, 4, 0, 5, 1, 2, 6] (by decide) rfl
 simp (disch := omega) only [↓RA, RZ, simprocAttr, q1]
 have hii : i = first.length := by omega
 subst hii
 rw [ek] at hk
 rw [ek] at hS9
 have hqu := qW o r.cpl first
 have hoL : (pr (first.filter fun c => !r.off.testBit c.1.toNat)).length ≤ 2048 := by
  rw [iF]
  exact dQ 2 (dI (dS _ _) hfl)
 refine Wp.al (fun n l H' => l.length = 56 ∧ get l 6 = (.slice none 0 0) ∧ get l 8 = (ptr A4 0 1) ∧ get l 9 = ov ∧ get l 10 = (.func (.func 111) #[] #[(ptr A1 0 4), (ptr A2 0 3), (ptr A3 0 1), (ptr A4 0 1)]) ∧ ∃ (j : Nat) (kvs : List (Ct × Bool)) (qv : Value) (q : List Ct), (n + j = 1100 ∧ bfs o r.cpl n j q = bfs o r.cpl 1100 0 (oF o r.cpl first) ∧ Que o q ∧ ∀ t, wY kvs t = true ↔ t ∈ q) ∧ get l 13 = I j ∧ St prog H H' [⟨ptr A1 0 4, 0, [(.string o.name), o.rv, o.dv, o.cv]⟩, ⟨ptr A2 0 3, 0, [sv, (.int .u64 r.cpl), (.int .u64 r.off)]⟩, ⟨.map (some M1), 0, KC kvs⟩, ⟨ptr A3 0 1, 0, [(.map (some M1))]⟩, ⟨ptr A4 0 1, 0, [qv]⟩, ⟨qv, 2, pr q⟩, ⟨ov, 2, pr (first.filter fun c => !r.off.testBit c.1.toNat)⟩]) 1100 ?_ ?_
 ·simp (disch := omega) only [RB, RC, simprocAttr, hn, g6, g8, rE, g9]
  exact ⟨0, kvs, qv, _, ⟨rfl, rfl, hqu, hk⟩, rfl, hS9⟩
 rintro n l H13 ⟨hn, g6, g8, g9, rE, j, kvs, qv, q, ⟨hj,hbf,hqq,hkk⟩, g13, hS15⟩
 have hql := hqq.len hf
 simp (disch := omega) only [↓RA, RZ, simprocAttr, hn, g8, g13, hS15.ld 4 rfl, (hS15.av 5 rfl (fun _ => rfl)).len]
 refine iA (fun q3 => ?_) (fun q3 => ?_)
 ·have hjl : j < q.length := by omega
  simp (disch := omega) only [↓RA, RZ, simprocAttr, hn, g8, rE, g13, hS15.ld 4 rfl, (hS15.av 5 rfl (fun _ => rfl)).idx, (hS15.av 5 rfl (fun _ => rfl)).ag, jT, q3]
  have hM2 := hS15.pick (os' := [⟨.map (some M1), 0, _⟩, ⟨ptr A4 0 1, 0, _⟩, ⟨qv, 2, _⟩]) [2, 4, 5] (by decide) rfl
  have hR2 := hS15.pick (os' := [⟨.map (some M1), 0, _⟩, ⟨ptr A4 0 1, 0, _⟩, ⟨qv, 2, _⟩, ⟨ptr A1 0 4, 0, _⟩, ⟨ptr A2 0 3, 0, _⟩, ⟨ptr A3 0 1, 0, _⟩, ⟨ov, 2, _⟩]) [2, 4, 5, 0, 1, 3, 6] (by decide) rfl
  refine iJ (b1G o r sv (iB q j) A1 A2 A3 A4 M1 qv q kvs hM2.aH (fun h => ⟨(hR2.frame h.forget).var 0 rfl, ho.ab (hR2.frame h.forget), (hR2.frame h.forget).var 1 rfl, (hR2.frame h.forget).var 2 rfl⟩) hkk hqq hf hr.2) ?_
  rintro r H14 ⟨kvs', qv', rfl, hk', hT2⟩
  have hS16 := hR2.frame hT2
  simp only [RT] at hS16
  simp (disch := omega) only [↓RA, RZ, simprocAttr, hn, g6, g8, g9, rE, g13, q3]
  obtain ⟨n', rfl⟩ : ∃ n', n = n' + 1 := ⟨n - 1, by omega⟩
  rw [bfs, if_pos hjl] at hbf
  exact ⟨n', by omega, j + 1, kvs', qv', _, ⟨by omega, hbf, hqq.stepF _ _ _, hk'⟩, by simp, hS16.pick [3, 4, 0, 5, 1, 2, 6] (by decide) rfl⟩
 have hbq : bfs o r.cpl 1100 0 (oF o r.cpl first) = q := by
  rw [← hbf]
  cases n with
  | zero => rfl
  | succ n => rw [bfs, if_neg (by omega)]
 have hqp : (pr q).length ≤ 2048 := by rw [iF]; omega
 simp (disch := omega) only [↓RA, RZ, simprocAttr, hn, g8, g9, hS15.ld 4 rfl, q3]
 refine hS15.aq 6 rfl (hS15.rd 5 rfl) a1e (by first | (simp; done) | (simp; omega)) fun w3 H15 hS17 => ?_
 simp only [RT] at hS17
 simp (disch := omega) only [↓RA, RZ, simprocAttr, hn, q3]
 rw [← jN, ← hbq] at hS17
 have hLL : ((first.filter fun c => !r.off.testBit c.1.toNat) ++ bfs o r.cpl 1100 0 (oF o r.cpl first)).length < 1000000 := by
  have h1 := dS (fun c : Ct => !r.off.testBit c.1.toNat) first
  rw [dh, hbq]
  omega
 refine c4u hS17 6 rfl (ia hLL (by decide)) fun HS hSS => ?_
 simp only [gQ, fw] at hSS
 simp (disch := omega) only [↓RA, RZ, simprocAttr, hn, q3]
 have hM3 := hSS.pick (os' := [⟨w3, 2, _⟩]) [6] (by decide) rfl
 have hR3 := hSS.pick (os' := [⟨w3, 2, _⟩, ⟨ptr A1 0 4, 0, _⟩, ⟨ptr A2 0 3, 0, _⟩, ⟨.map (some M1), 0, _⟩, ⟨ptr A3 0 1, 0, _⟩, ⟨ptr A4 0 1, 0, _⟩, ⟨qv, 2, _⟩]) [6, 0, 1, 2, 3, 4, 5] (by decide) rfl
 refine iJ (a5X hM3.aH (by rw [oU]; exact ia hLL (by decide))) ?_
 rintro r H16 ⟨rest, hb, hrd, hT3⟩
 have hS18 := hR3.frame hT3
 simp only [RT] at hS18
 have hrr := hrd _ (hS18.rd 0 rfl)
 have hrc := hrr.cells
 simp (disch := omega) only [↓RA, RZ, simprocAttr, hn, c6i, q3]
 refine ⟨⟨⟨hrr, kE, by decide⟩, fun b h => ?_⟩, hS18.forget⟩
 rcases hS18.new _ (dU ..) b (hb b h) with h | h
 ·exact h
 ·exact h.elim
theorem b4X {α : Type} [Inhabited α] [DecidableEq α] (l : List α) : (dd l).length ≤ l.length := c2y l l.length
theorem a3T (rs : List Rk) (s : Stp) (key : Int) (h : ∀ g ∈ s.segs, g.draws.length ≤ 8) : (sS rs s key).length ≤ 8 := by
 unfold sS
 refine dI (b4X _) ?_
 rw [oU, dF]
 refine dI (dS _ _) ?_
 unfold a8C
 split
 ·simp
 ·exact h _ (iE (xX (p := a8y s key) (n := s.segs.length) (by omega)))
def oN (o : Org) (rg : Reg) (c : Ct) (k : Nat) : List Ct := (List.range k).flatMap fun i => if (iB rg.stops c.1.toNat).testBit i then sS o.ranks (iB (iB o.dvs c.1.toNat).stops i) c.2 else []
theorem a0T (o : Org) (rg : Reg) (c : Ct) (k : Nat) : oN o rg c (k + 1) = oN o rg c k ++ (if (iB rg.stops c.1.toNat).testBit k then sS o.ranks (iB (iB o.dvs c.1.toNat).stops k) c.2 else []) := by
 unfold oN
 rw [ez, dN, dK, fB, dr]
theorem a0r {o : Org} (hf : o.Fine) (rg : Reg) {c : Ct} (hc : rO o c = true) : ∀ k, k ≤ (iB o.dvs c.1.toNat).stops.length → (oN o rg c k).length ≤ k * 8
 | 0, _ => by simp [oN]
 | k + 1, hk => by
   have h := a0r hf rg hc k (by omega)
   have hc := (uL o c).1 hc
   rw [a0T, dh]
   split
   ·have := a3T o.ranks (iB (iB o.dvs c.1.toNat).stops k) c.2 (hf.draws c.1.toNat (by omega) _ (iE (by omega)))
    omega
   ·simp
    omega
theorem b1B {o : Org} (hf : o.Fine) (rg : Reg) {c : Ct} (hc : rO o c = true) : (qM o rg c).length ≤ 480 := by
 have h := a0r hf rg hc _ (dm _)
 have h1 := (uL o c).1 hc
 have := hf.stops c.1.toNat (by omega)
 have e : qM o rg c = oN o rg c (iB o.dvs c.1.toNat).stops.length := rfl
 rw [e]
 omega
theorem uW {o : Org} (hf : o.Fine) (rg : Reg) : ∀ (l : List Ct), (∀ c ∈ l, rO o c = true) → (l.flatMap (qM o rg)).length ≤ l.length * 480
 | [], _ => by simp
 | c :: l, h => by
   rw [dK, dh, ed]
   have h1 := uW hf rg l fun x hx => h x (by simp [hx])
   have h2 := b1B hf rg (h c (by simp))
   omega
theorem b1y (o : Org) (ho : o.In H) (hf : o.Fine) (rg : Reg) (sv : Value) (hr : rg.In H sv) (hrl : rg.stops.length = o.dvs.length) (fv : Value) (cs : List Ct) (hfi : Sl 2 jT H fv cs) (hfl : cs.length ≤ 2048) (hfo : ∀ c ∈ cs, rO o c = true) :
 Fn prog 65 [.agg #[.string o.name, o.rv, o.dv, o.cv], .agg #[sv, .int .u64 rg.cpl, .int .u64 rg.off], fv] H fun rr H' => ∃ (gv : Value) (rest : List Value), rr = kT gv 2 0 (a5v o rg cs).length ∧ St prog H H' [⟨gv, 2, pr (a5v o rg cs) ++ rest⟩] := by
 refine .bO func65 rfl (by kernel_rfl) (m := 55) rfl fun l hn g0 g1 g2 => ?_
 simp (disch := omega) only [↓RA, RB, simprocAttr, g0]
 refine (sR H).eNew 4 [(.string o.name), o.rv, o.dv, o.cv] rfl rfl (by simp [OC, ((sR H).sl ho.1).cells.2.1, ((sR H).sl ho.2.2.1).cells.2.1, ((sR H).sl ho.2.2.2.2.1).cells.2.1]) mW fun A1 H1 hS1 => ?_
 simp only [RT] at hS1
 simp (disch := omega) only [↓RA, RB, simprocAttr, g1]
 refine hS1.eNew 3 [sv, (.int .u64 rg.cpl), (.int .u64 rg.off)] rfl rfl (by simp [OC, (hS1.sl hr.1).cells.2.1]) mP fun A2 H2 hS2 => ?_
 simp only [RT] at hS2
 simp (disch := omega) only [↓RA, RZ, simprocAttr, hn, g2, (hS2.sl hfi).len]
 have hS3 := hS2.nil 1
 simp only [RT] at hS3
 refine Wp.al (fun n l H' => l.length = 55 ∧ get l 3 = (ptr A1 0 4) ∧ get l 4 = (ptr A2 0 3) ∧ get l 6 = (.slice none 0 0) ∧ get l 12 = fv ∧ get l 13 = I cs.length ∧ ∃ (i : Nat) (ov : Value), (n + i = cs.length) ∧ get l 14 = I i ∧ get l 7 = ov ∧ St prog H H' [⟨ptr A1 0 4, 0, [(.string o.name), o.rv, o.dv, o.cv]⟩, ⟨ptr A2 0 3, 0, [sv, (.int .u64 rg.cpl), (.int .u64 rg.off)]⟩, ⟨ov, 2, pr ((cs.take i).flatMap (qM o rg))⟩]) cs.length ?_ ?_
 ·simp (disch := omega) only [RB, RC, simprocAttr, hn]
  exact ⟨0, .slice none 0 0, by omega, rfl, rfl, hS3⟩
 rintro n l H3 ⟨hn, g3, g4, g6, g12, g13, i, ov, hi, g14, g7, hS4⟩
 simp (disch := omega) only [↓RA, RB, simprocAttr, hn, g13, g14]
 refine iA (fun q1 => ?_) (fun q1 => ?_)
 ·have hci := (uL o _).1 (hfo _ (iE (xs := cs) (j := i) (by omega)))
  obtain ⟨a, ha⟩ : ∃ a : Nat, (iB cs i).1 = a := ⟨(iB cs i).1.toNat, by omega⟩
  have ha1 : a < o.dvs.length := by omega
  have hst := (ho.2.2.2.1 _ (iE ha1)).2.2
  have hs60 := hf.stops a ha1
  simp (disch := omega) only [↓RA, RZ, simprocAttr, hn, g12, g14, (hS4.sl hfi).idx, (hS4.sl hfi).ag, jT, q1]
  refine hS4.eNew 2 [I 0, I 0] rfl rfl rfl pK fun A3 H4 hS5 => ?_
  simp only [RT] at hS5
  simp (disch := omega) only [↓RA, RZ, simprocAttr, hn, q1]
  refine hS5.aa 3 rfl [I (iB cs i).1, I (iB cs i).2] rfl rfl pK (by simp) fun H5 hS6 => ?_
  simp only [RT] at hS6
  simp (disch := omega) only [↓RA, RZ, simprocAttr, hn, g3, q1]
  simp only [ha] at hS6
  simp (disch := omega) only [↓RA, RZ, simprocAttr, hn, hS6.ld 0 rfl, hS6.ld 3 rfl, (hS6.sl ho.2.2.1).idx, (hS6.sl ho.2.2.1).bh, (hS6.sl ho.2.2.1).ld, Dvn.cells, (hS6.sl (ho.2.2.2.1 (iB o.dvs a) (iE (by omega))).1).len, q1, ha]
  have hta : (iB cs i).1.toNat = a := by omega
  have htk := kI cs i (by omega)
  have hsx := hr.2.2.1 _ (iE (xs := rg.stops) (j := a) (by omega))
  have hacc : (pr ((cs.take i).flatMap (qM o rg))).length ≤ 2048 * 960 := by
   rw [iF]
   have := uW hf rg (cs.take i) fun c hc => hfo c (List.mem_of_mem_take hc)
   rw [eI] at this
   omega
  refine Wp.al (fun n l H' => l.length = 55 ∧ get l 3 = (ptr A1 0 4) ∧ get l 4 = (ptr A2 0 3) ∧ get l 6 = (.slice none 0 0) ∧ get l 9 = (ptr A3 0 2) ∧ get l 12 = fv ∧ get l 13 = I cs.length ∧ get l 14 = I i ∧ get l 24 = (iB o.dvs a).sv ∧ get l 25 = I (iB o.dvs a).stops.length ∧ ∃ (k : Nat) (ow : Value), (n + k = (iB o.dvs a).stops.length) ∧ get l 26 = I k ∧ get l 7 = ow ∧ St prog H H' [⟨ptr A1 0 4, 0, [(.string o.name), o.rv, o.dv, o.cv]⟩, ⟨ptr A2 0 3, 0, [sv, (.int .u64 rg.cpl), (.int .u64 rg.off)]⟩, ⟨ow, 2, pr ((cs.take i).flatMap (qM o rg) ++ oN o rg (iB cs i) k)⟩, ⟨ptr A3 0 2, 0, [I a, I (iB cs i).2]⟩]) (iB o.dvs a).stops.length ?_ ?_
  ·simp (disch := omega) only [RB, RC, simprocAttr, hn, g3, g4, g6, g12, g13, g14, g7]
   refine ⟨0, ov, by omega, rfl, rfl, ?_⟩
   rw [show oN o rg (iB cs i) 0 = [] from rfl, dr]
   exact hS6
  rintro n l H6 ⟨hn, g3, g4, g6, g9, g12, g13, g14, g24, g25, k, ow, hj, g26, g7, hS7⟩
  simp (disch := omega) only [↓RA, RB, simprocAttr, hn, g25, g26]
  refine iA (fun q2 => ?_) (fun q2 => ?_)
  ·have e1 := a3r (iB rg.stops a) k hsx
   have e2 := a2K (iB rg.stops a >>> k) (xA k hsx)
   have e3 := tb (iB rg.stops a) k
   have hsu := a0T o rg (iB cs i) k
   rw [hta] at hsu
   have hKl := a0r hf rg (hfo _ (iE (xs := cs) (j := i) (by omega))) k (by rw [hta]; omega)
   have hKp : (pr (oN o rg (iB cs i) k)).length ≤ 2000 := by rw [iF]; omega
   simp (disch := omega) only [↓RA, RZ, simprocAttr, hn, g24, g26, (hS7.sl (ho.2.2.2.1 (iB o.dvs a) (iE (by omega))).1).idx, (hS7.sl (ho.2.2.2.1 (iB o.dvs a) (iE (by omega))).1).ag, Stp.cells, q2]
   refine hS7.eNew 4 [(.string ⟨#[]⟩), I 0, I 0, (.slice none 0 0)] rfl rfl rfl mY fun A4 H7 hS8 => ?_
   simp only [RT] at hS8
   simp (disch := omega) only [↓RA, RZ, simprocAttr, hn, q2]
   refine hS8.aa 4 rfl [(.string (iB (iB o.dvs a).stops k).name), I (iB (iB o.dvs a).stops k).num, I (iB (iB o.dvs a).stops k).den, (iB (iB o.dvs a).stops k).gv] rfl (by simp [OC, (hS8.sl ((ho.2.2.2.1 (iB o.dvs a) (iE (by omega))).2.1 (iB (iB o.dvs a).stops k) (iE (by omega))).1).cells.2.1]) mY (by simp) fun H8 hS9 => ?_
   simp only [RT] at hS9
   simp (disch := omega) only [↓RA, RZ, simprocAttr, hn, g4, g9, hS9.ld 1 rfl, hS9.ld 3 rfl, (hS9.sl hr.1).idx, (hS9.sl hr.1).ld, one, u64, q2, e1, e2]
   refine iA (fun q3 => ?_) (fun q3 => ?_)
   ·have hsu : oN o rg (iB cs i) (k + 1) = oN o rg (iB cs i) k ++ sS o.ranks (iB (iB o.dvs a).stops k) (iB cs i).2 := by rw [hsu, e3, if_pos (decide_eq_true (by omega))]
    have hpp : (pr (sS o.ranks (iB (iB o.dvs a).stops k) (iB cs i).2)).length ≤ 16 := by
     rw [iF]
     exact dQ 2 (a3T _ _ _ (hf.draws a ha1 _ (iE (by omega))))
    simp (disch := omega) only [↓RA, RZ, simprocAttr, hn, g3, g9, g7, hS9.ld 0 rfl, hS9.ag 4 rfl, hS9.ld 3 rfl, q2, q3]
    refine iJ (b6R o.rv o.ranks (hS9.sl ho.1) (fun q hq => (ho.2.1 q hq).ab hS9) ho.2.2.2.2.2.1 (iB (iB o.dvs a).stops k) (((ho.2.2.2.1 _ (iE ha1)).2.1 _ (iE (by omega))).ab hS9) (hf.draws a ha1 _ (iE (by omega))) (iB cs i).2) ?_
    rintro r H9 ⟨hx, hT1⟩
    have hS10 := hS9.trans hT1
    simp only [RT] at hS10
    simp (disch := omega) only [↓RA, RZ, simprocAttr, hn, q2, q3]
    refine hS10.aq 2 rfl hx.1.rd b5E (by have h := hpp; unfold pr at h; rw [jN, dh]; omega) fun w1 H10 hS11 => ?_
    simp only [RT] at hS11
    simp (disch := omega) only [↓RA, RZ, simprocAttr, hn, g3, g4, g6, g9, g12, g13, g14, g24, g25, g26, q2, q3]
    refine ⟨n - 1, by omega, k + 1, w1, by omega, by simp, rfl, ?_⟩
    rw [hsu, ← dD, jN]
    exact hS11.pick [0, 1, 2, 3] (by decide) rfl
   have hsu : oN o rg (iB cs i) (k + 1) = oN o rg (iB cs i) k := by rw [hsu, e3, if_neg (by rw [decide_eq_true_iff]; omega), dr]
   simp (disch := omega) only [↓RA, RZ, simprocAttr, hn, g3, g4, g6, g9, g12, g13, g14, g24, g25, g26, g7, q2, q3]
   refine ⟨n - 1, by omega, k + 1, ow, by omega, by simp, rfl, ?_⟩
   rw [hsu]
   exact hS9.pick [0, 1, 2, 3] (by decide) rfl
  simp (disch := omega) only [↓RA, RZ, simprocAttr, hn, g3, g4, g6, g12, g13, g14, g7, q2]
  refine ⟨cs.length - (i + 1), by omega, i + 1, ow, by omega, by simp, rfl, ?_⟩
  have hkk : k = (iB o.dvs a).stops.length := by omega
  rw [htk, dN, dK, fB, dr]
  have e : qM o rg (iB cs i) = oN o rg (iB cs i) k := by rw [hkk, ← hta]; rfl
  rw [e]
  exact hS7.pick [0, 1, 2] (by decide) rfl
 simp (disch := omega) only [↓RA, RZ, simprocAttr, hn, g7, q1]
 have hii : i = cs.length := by omega
 subst hii
 rw [ek] at hS4
 have hLL : (cs.flatMap (qM o rg)).length < 1000000 := by
  have := uW hf rg cs hfo
  omega
 refine c4r hS4 2 rfl (ia hLL (by decide)) fun HS hSS => ?_
 simp only [gQ, fw] at hSS
 simp (disch := omega) only [↓RA, RZ, simprocAttr, hn, g7, q1]
 have hM1 := hSS.pick (os' := [⟨ov, 2, _⟩]) [2] (by decide) rfl
 have hR1 := hSS.pick (os' := [⟨ov, 2, _⟩, ⟨ptr A1 0 4, 0, _⟩, ⟨ptr A2 0 3, 0, _⟩]) [2, 0, 1] (by decide) rfl
 refine iJ (yV hM1.aH (by rw [oU]; exact ia hLL (by decide))) ?_
 rintro r H11 ⟨rest, rfl, hT2⟩
 have hS12 := hR1.frame hT2
 simp only [RT] at hS12
 obtain ⟨rc, hrcE⟩ : ∃ w, w = kT ov 2 0 (dd (wB (cs.flatMap (qM o rg)))).length := ⟨_, rfl⟩
 have hrr : RdAt H11 rc 2 (pr (dd (wB (cs.flatMap (qM o rg))))) := hrcE ▸ uK (hS12.rd 0 rfl)
 have hrc := hrr.cells
 rw [← hrcE]
 simp (disch := omega) only [↓RA, RZ, simprocAttr, hn, c5C, q1]
 exact ⟨ov, rest, hrcE, hS12.pick [0] (by decide) rfl⟩
end Go.Ds
namespace Go.Ds
open Go.Proofs Go.Proofs.Tryz
variable {H : Heap}
set_option maxRecDepth 10000
theorem Sl.bB {α : Type} {n : Nat} {cel : α → List Value} {v : Value} {xs : List α} (h : Sl n cel H v xs) : jQ v = true := by
 rcases h.rd with ⟨rfl, _⟩ | ⟨A, i, e, row, ty, rw, lo, ver, n, _, _, _, _, _, _, rfl⟩ <;> rfl
theorem c2b {α : Type} [Inhabited α] [DecidableEq α] {l : List α} {x : α} (h : x ∈ dd l) : x ∈ l := by
 unfold dd yL at h
 obtain ⟨i, hi, rfl⟩ := dy.1 h
 exact iE (dB.1 (eo.1 hi).1)
theorem b8K {l : List (Int × Int)} {x : Int × Int} : x ∈ wB l ↔ x ∈ l := (pS l).mem_iff
theorem Que.bfs {o : Org} (cp : Nat) : ∀ (n i : Nat) {q : List Ct}, Que o q → Que o (bfs o cp n i q)
 | 0, _, _, h => h
 | n + 1, i, q, h => by
   rw [Go.Ds.bfs]
   split
   ·exact Que.bfs cp n (i + 1) (h.stepF cp true _)
   ·exact h
theorem a2P {o : Org} {rg : Reg} {l : List Ct} (hl : ∀ c ∈ l, rO o c = true) : ∀ c ∈ tY o rg l, rO o c = true := by
 intro c hc
 unfold tY at hc
 have hc := b8K.1 (c2b hc)
 rcases dJ.1 hc with h | h
 ·exact hl c (eo.1 h).1
 ·exact ((qW o rg.cpl l).bfs rg.cpl 1100 0).2 c h
theorem a2D {o : Org} (hf : o.Fine) {rg : Reg} {l : List Ct} (hl : l.length ≤ 1024) : (tY o rg l).length ≤ 2048 := by
 unfold tY
 refine dI (b4X _) ?_
 rw [oU, dh]
 have h1 := dS (fun c : Ct => !rg.off.testBit c.1.toNat) l
 have h2 := ((qW o rg.cpl l).bfs rg.cpl 1100 0).len hf
 omega
theorem a5n (o : Org) (ho : o.In H) (hf : o.Fine) (rg : Reg) (sv : Value) (hr : rg.In H sv) (hrl : rg.stops.length = o.dvs.length) (fv : Value) (cs : List Ct) (hfi : Sl 2 jT H fv cs) (hfl : cs.length ≤ 1024) (hfo : ∀ c ∈ cs, rO o c = true) :
 Fn prog 52 [.agg #[.string o.name, o.rv, o.dv, o.cv], .agg #[sv, .int .u64 rg.cpl, .int .u64 rg.off], fv] H fun rr H' => ∃ (gv : Value) (rest : List Value), rr = kT gv 2 0 (uH o rg cs).length ∧ St prog H H' [⟨gv, 2, pr (uH o rg cs) ++ rest⟩] := by
 refine .bO func52 rfl (by kernel_rfl) (m := 14) rfl fun l hn g0 g1 g2 => ?_
 simp (disch := omega) only [↓RA, RB, simprocAttr, g0]
 refine (sR H).eNew 4 [(.string o.name), o.rv, o.dv, o.cv] rfl rfl (by simp [OC, ((sR H).sl ho.1).cells.2.1, ((sR H).sl ho.2.2.1).cells.2.1, ((sR H).sl ho.2.2.2.2.1).cells.2.1]) mW fun A1 H1 hS1 => ?_
 simp only [RT] at hS1
 simp (disch := omega) only [↓RA, RB, simprocAttr, g1]
 refine hS1.eNew 3 [sv, (.int .u64 rg.cpl), (.int .u64 rg.off)] rfl rfl (by simp [OC, (hS1.sl hr.1).cells.2.1]) mP fun A2 H2 hS2 => ?_
 simp only [RT] at hS2
 simp (disch := omega) only [↓RA, RB, simprocAttr]
 refine Wp.aO jZ [(0, 6), (1, 6)] (by kernel_rfl) (by kernel_rfl) ?_
 simp (disch := omega) only [↓RA, RZ, simprocAttr, hn, g2, hS2.ag 0 rfl, hS2.ag 1 rfl]
 refine iJ (a7k o (ho.ab hS2) hf rg sv (hr.ab hS2) fv cs (hS2.sl hfi) hfl hfo) ?_
 rintro r H3 ⟨hx, hT1⟩
 have hS3 := hS2.trans hT1
 simp only [RT] at hS3
 simp (disch := omega) only [↓RA, RZ, simprocAttr, hn]
 refine iJ (b1y o (ho.ab hS3) hf rg sv (hr.ab hS3) hrl r (tY o rg cs) hx.1 (a2D hf hfl) (a2P hfo)) ?_
 rintro r H4 ⟨gv, rest, he2, hT2⟩
 have hS4 := hS3.trans hT2
 simp only [RT] at hS4
 have hx2 : Slx 2 jT H4 (fun B => H.length ≤ B) r (uH o rg cs) := he2 ▸ vH (hS4.pick [2] (by decide) rfl)
 simp (disch := omega) only [↓RA, RZ, simprocAttr, hn, hS3.ag 0 rfl, hS3.ag 1 rfl, c5E]
 exact ⟨gv, rest, he2, hS4.pick [2] (by decide) rfl⟩
def rgc (p : Value × Reg) : List Value := [p.1, .int .u64 p.2.cpl, .int .u64 p.2.off]
def uZ (o : Org) (l : List (Value × Reg)) : Int := if organE o ≠ 0 then organE o else lO (fun j => lY o (iB l j).2) l.length
theorem b1u (o : Org) (ho : o.In H) (lv : Value) (xs : List (Value × Reg)) (hl : Sl 3 rgc H lv xs) (hle : xs.length < 1000000000) (hr : ∀ p ∈ xs, p.2.In H p.1) :
 Fn prog 100 [.agg #[.string o.name, o.rv, o.dv, o.cv], lv] H fun r H' => r = I (uZ o xs) ∧ St prog H H' [] := by
 refine .aD func100 rfl (by kernel_rfl) (m := 27) rfl fun l hn g0 g1 => ?_
 simp (disch := omega) only [↓RA, RB, simprocAttr, g0]
 refine (sR H).eNew 4 [(.string o.name), o.rv, o.dv, o.cv] rfl rfl (by simp [OC, ((sR H).sl ho.1).cells.2.1, ((sR H).sl ho.2.2.1).cells.2.1, ((sR H).sl ho.2.2.2.2.1).cells.2.1]) mW fun A1 H1 hS1 => ?_
 simp only [RT] at hS1
 simp (disch := omega) only [↓RA, RZ, simprocAttr, hn, hS1.ag 0 rfl]
 refine hS1.cF (yU o (ho.ab hS1)) fun H2 hS2 => ?_
 simp (disch := omega) only [↓RA, RB, simprocAttr, hn]
 refine iA (fun h1 => ?_) (fun h1 => ?_)
 ·simp (disch := omega) only [↓RA, RZ, simprocAttr, hn, b5s, h1]
  exact ⟨by rw [uZ, if_pos h1], hS2.forget⟩
 have hE : uZ o xs = lO (fun j => lY o (iB xs j).2) xs.length := by rw [uZ, if_neg h1]
 simp (disch := omega) only [↓RA, RZ, simprocAttr, hn, g1, (hS2.sl hl).len, h1]
 refine Wp.al (fun n l H' => l.length = 27 ∧ get l 2 = (ptr A1 0 4) ∧ get l 14 = lv ∧ get l 15 = I xs.length ∧ ∃ (j : Nat), (n + j = xs.length ∧ ∀ q, q < j → lY o (iB xs q).2 = 0) ∧ get l 16 = I j ∧ St prog H H' [⟨ptr A1 0 4, 0, [(.string o.name), o.rv, o.dv, o.cv]⟩]) xs.length ?_ ?_
 ·simp (disch := omega) only [RB, RC, simprocAttr, hn]
  exact ⟨0, ⟨by omega, fun q hq => absurd hq (dL _)⟩, rfl, hS2⟩
 rintro n l H3 ⟨hn, g2, g14, g15, j, ⟨hj,hz⟩, g16, hS3⟩
 simp (disch := omega) only [↓RA, RB, simprocAttr, hn, g15, g16]
 refine iA (fun q1 => ?_) (fun q1 => ?_)
 ·simp (disch := omega) only [↓RA, RZ, simprocAttr, hn, g14, g16, (hS3.sl hl).idx, (hS3.sl hl).ag, rgc, q1]
  refine hS3.eNew 3 [(.slice none 0 0), (.int .u64 0), (.int .u64 0)] rfl rfl rfl mP fun A2 H4 hS4 => ?_
  simp only [RT] at hS4
  simp (disch := omega) only [↓RA, RZ, simprocAttr, hn, q1]
  refine hS4.aa 1 rfl [(iB xs j).1, (.int .u64 (iB xs j).2.cpl), (.int .u64 (iB xs j).2.off)] rfl (by simp [OC, (hS4.sl (hr (iB xs j) (iE (by omega))).1).cells.2.1]) mP (by simp) fun H5 hS5 => ?_
  simp only [RT] at hS5
  simp (disch := omega) only [↓RA, RZ, simprocAttr, hn, g2, hS5.ag 0 rfl, hS5.ag 1 rfl, q1]
  refine hS5.cF (b4W o (ho.ab hS5) (iB xs j).2 (iB xs j).1 ((hr _ (iE (by omega))).ab hS5)) fun H6 hS6 => ?_
  simp (disch := omega) only [↓RA, RZ, simprocAttr, hn, q1]
  refine iA (fun q2 => ?_) (fun q2 => ?_)
  ·simp (disch := omega) only [↓RA, RZ, simprocAttr, hn, b5s, q1, q2]
   exact ⟨by rw [hE, oA (fun j => lY o (iB xs j).2) xs.length j (by omega) q2 hz], hS6.forget⟩
  simp (disch := omega) only [↓RA, RZ, simprocAttr, hn, g2, g14, g15, g16, q1, q2]
  exact ⟨n - 1, by omega, j + 1, ⟨by omega, fun q hq => by rcases du.1 hq with e | e; (· exact hz q e); (· rw [e]; exact dG.1 q2)⟩, by simp, hS6.pick [0] (by decide) rfl⟩
 simp (disch := omega) only [↓RA, RZ, simprocAttr, hn, b5s, q1]
 exact ⟨by rw [hE, kU (fun j => lY o (iB xs j).2) xs.length fun q hq => hz q (by omega)], hS3.forget⟩
def a5k (o : Org) (rg : Reg) (c : Ct) : Int := if lY o rg ≠ 0 then lY o rg else a0K o c
theorem a8d (o : Org) (sv : Value) (rg : Reg) : uZ o [(sv, rg)] = lY o rg := by
 unfold uZ
 split
 ·rename_i h
  unfold lY
  rw [if_pos h]
 ·by_cases h : lY o rg = 0
  ·rw [h]
   exact kU _ _ fun j hj => by
    have : j = 0 := by simpa using hj
    rw [this]
    exact h
  ·exact oA (fun j => lY o (iB [(sv, rg)] j).2) 1 0 (by decide) h fun j hj => absurd hj (dL _)
theorem c0I (o : Org) (ho : o.In H) (rg : Reg) (sv : Value) (hr : rg.In H sv) (c : Ct) :
 Fn prog 64 [.agg #[.string o.name, o.rv, o.dv, o.cv], .agg #[sv, .int .u64 rg.cpl, .int .u64 rg.off], .agg #[I c.1, I c.2]] H fun r H' => r = I (a5k o rg c) ∧ St prog H H' [] := by
 refine .bO func64 rfl (by kernel_rfl) (m := 18) rfl fun l hn g0 g1 g2 => ?_
 simp (disch := omega) only [↓RA, RB, simprocAttr, g0]
 refine (sR H).eNew 4 [(.string o.name), o.rv, o.dv, o.cv] rfl rfl (by simp [OC, ((sR H).sl ho.1).cells.2.1, ((sR H).sl ho.2.2.1).cells.2.1, ((sR H).sl ho.2.2.2.2.1).cells.2.1]) mW fun A1 H1 hS1 => ?_
 simp only [RT] at hS1
 simp (disch := omega) only [↓RA, RB, simprocAttr, g1]
 refine hS1.eNew 3 [sv, (.int .u64 rg.cpl), (.int .u64 rg.off)] rfl rfl (by simp [OC, (hS1.sl hr.1).cells.2.1]) mP fun A2 H2 hS2 => ?_
 simp only [RT] at hS2
 simp (disch := omega) only [↓RA, RB, simprocAttr, g2]
 refine hS2.eNew 2 [I c.1, I c.2] rfl rfl rfl pK fun A3 H3 hS3 => ?_
 simp only [RT] at hS3
 simp (disch := omega) only [↓RA, RZ, simprocAttr, hn, hS3.ag 0 rfl, hS3.ag 1 rfl]
 refine hS3.ai [sv, (.int .u64 rg.cpl), (.int .u64 rg.off)] c4W c2Z rfl rfl (by first | (simp []; done) | simp [Value.cells]) (by first | (simp []; done) | simp [Value.cells]) (by simp [OC, (hS3.sl hr.1).cells.2.1]) (by decide) (by decide) fun w1 H4 hS4 => ?_
 simp only [RT] at hS4
 simp (disch := omega) only [↓RA, RZ, simprocAttr, hn]
 refine hS4.cF (b1u o (ho.ab hS4) w1 [(sv, rg)] (hS4.av 3 rfl (fun _ => rfl)) (by simp) (by intro p hp; rw [dC.1 hp]; exact hr.ab hS4)) fun H5 hS5 => ?_
 have hsc := a8d o sv rg
 simp (disch := omega) only [↓RA, RB, simprocAttr, hn, hsc]
 refine iA (fun h1 => ?_) (fun h1 => ?_)
 ·simp (disch := omega) only [↓RA, RZ, simprocAttr, hn, c4c, hsc, h1]
  exact ⟨by rw [a5k, if_pos h1], hS5.forget⟩
 simp (disch := omega) only [↓RA, RZ, simprocAttr, hn, hS5.ag 0 rfl, hS5.ag 2 rfl, hsc, h1]
 refine hS5.cF (wZ o (ho.ab hS5) c) fun H6 hS6 => ?_
 simp (disch := omega) only [↓RA, RZ, simprocAttr, hn, c4c, hsc, h1]
 exact ⟨by rw [a5k, if_neg h1], hS6.forget⟩
def lI (o : Org) (rg : Reg) (c : Ct) : List Ct := if a5k o rg c = 0 then uH o rg [c] else []
theorem oX {o : Org} {rg : Reg} (h : lY o rg = 0) : organE o = 0 ∧ rg.stops.length = o.dvs.length := by
 unfold lY at h
 split at h
 ·rename_i hh; exact absurd h hh
 rename_i h1
 split at h
 ·omega
 exact ⟨dG.1 h1, by omega⟩
theorem a3I {o : Org} {rg : Reg} {c : Ct} (h : a5k o rg c = 0) : lY o rg = 0 ∧ rO o c = true := by
 unfold a5k at h
 split at h
 ·rename_i hh; exact absurd h hh
 ·rename_i hh
  exact ⟨dG.1 hh, (uA o c).1 h⟩
theorem b3U (o : Org) (ho : o.In H) (rg : Reg) (sv : Value) (hr : rg.In H sv) (c : Ct) :
 Fn prog 23 [.agg #[.string o.name, o.rv, o.dv, o.cv], .agg #[sv, .int .u64 rg.cpl, .int .u64 rg.off], .agg #[I c.1, I c.2]] H fun r H' => ∃ pv, r = .tuple #[pv, I (a5k o rg c)] ∧ ∃ (gv : Value) (rest : List Value), pv = kT gv 2 0 (lI o rg c).length ∧ St prog H H' [⟨gv, 2, pr (lI o rg c) ++ rest⟩] := by
 refine .bO func23 rfl (by kernel_rfl) (m := 21) rfl fun l hn g0 g1 g2 => ?_
 simp (disch := omega) only [↓RA, RB, simprocAttr, g0]
 refine (sR H).eNew 4 [(.string o.name), o.rv, o.dv, o.cv] rfl rfl (by simp [OC, ((sR H).sl ho.1).cells.2.1, ((sR H).sl ho.2.2.1).cells.2.1, ((sR H).sl ho.2.2.2.2.1).cells.2.1]) mW fun A1 H1 hS1 => ?_
 simp only [RT] at hS1
 simp (disch := omega) only [↓RA, RB, simprocAttr, g1]
 refine hS1.eNew 3 [sv, (.int .u64 rg.cpl), (.int .u64 rg.off)] rfl rfl (by simp [OC, (hS1.sl hr.1).cells.2.1]) mP fun A2 H2 hS2 => ?_
 simp only [RT] at hS2
 simp (disch := omega) only [↓RA, RB, simprocAttr, g2]
 refine hS2.eNew 2 [I c.1, I c.2] rfl rfl rfl pK fun A3 H3 hS3 => ?_
 simp only [RT] at hS3
 simp (disch := omega) only [↓RA, RZ, simprocAttr, hn, hS3.ag 0 rfl, hS3.ag 1 rfl, hS3.ag 2 rfl]
 refine hS3.cF (c0I o (ho.ab hS3) rg sv (hr.ab hS3) c) fun H4 hS4 => ?_
 simp (disch := omega) only [↓RA, RB, simprocAttr, hn]
 refine iA (fun h1 => ?_) (fun h1 => ?_)
 ·simp (disch := omega) only [↓RA, RZ, simprocAttr, hn, c3O, h1]
  rw [show lI o rg c = [] from if_neg h1]
  exact ⟨.slice none 0 0, rfl, .slice none 0 0, [], rfl, hS4.forget.nil 1⟩
 have h0 := dG.1 h1
 obtain ⟨hz1, hz2⟩ := a3I h0
 obtain ⟨hz3, hz4⟩ := oX hz1
 simp (disch := omega) only [↓RA, RZ, simprocAttr, hn, hS4.ag 0 rfl, hS4.ag 1 rfl, hS4.ag 2 rfl, h1]
 refine hS4.ai [I c.1, I c.2] a1e b1A rfl rfl (by simp [Value.cells]) rfl rfl (by decide) (by decide) fun w1 H5 hS5 => ?_
 simp only [RT] at hS5
 simp (disch := omega) only [↓RA, RZ, simprocAttr, hn, h1]
 refine iJ (a5n o (ho.ab hS5) (Org.bg hz3) rg sv (hr.ab hS5) hz4 w1 [c] (hS5.av 3 rfl kE) (by simp) (by intro x hx; rw [dC.1 hx]; exact hz2)) ?_
 rintro r H6 ⟨gv, rest, he2, hT2⟩
 have hS6 := hS5.trans hT2
 simp only [RT] at hS6
 have hx2 : Slx 2 jT H6 (fun B => H.length ≤ B) r (uH o rg [c]) := he2 ▸ vH (hS6.pick [4] (by decide) rfl)
 simp (disch := omega) only [↓RA, RZ, simprocAttr, hn, c3O, h1, hx2.1.bB]
 rw [show lI o rg c = uH o rg [c] from if_pos h0]
 exact ⟨r, by rw [h0], gv, rest, he2, hS6.pick [4] (by decide) rfl⟩
theorem c3z (o : Org) (ho : o.In H) (rg : Reg) (sv : Value) (hr : rg.In H sv) (c : Ct) :
 Fn prog 23 [.agg #[.string o.name, o.rv, o.dv, o.cv], .agg #[sv, .int .u64 rg.cpl, .int .u64 rg.off], .agg #[I c.1, I c.2]] H fun r H' => ∃ pv, r = .tuple #[pv, I (a5k o rg c)] ∧ Slx 2 jT H' (fun B => H.length ≤ B) pv (lI o rg c) ∧ St prog H H' [] :=
 (b3U o ho rg sv hr c).mono fun _ _ ⟨pv, e, _, _, e2, h⟩ => ⟨pv, e, e2 ▸ vH h, h.forget⟩
end Go.Ds
namespace Go.Ds
open Go.Proofs
structure Ctl where
 kind : Int
 dv : Int
 ix : Int
 deriving Inhabited, DecidableEq
def Ctl.cells (c : Ctl) : List Value := [I c.kind, I c.dv, I c.ix]
def oS (n : Nat) : List Nat := (List.range 64).filter fun i => n.testBit i
def zQ (d : Nat) (i : Nat) : Ctl := ⟨1, (d : Int), (i : Int)⟩
def xB (i : Nat) : Ctl := ⟨2, 0, (i : Int)⟩
def a4P (i : Nat) : Ctl := ⟨3, (i : Int), 0⟩
def pG (r : Reg) : List Ctl := ((List.range r.stops.length).flatMap fun d => (oS (iB r.stops d)).map (zQ d)) ++ (oS r.cpl).map xB ++ (oS r.off).map a4P
def tN (n : Nat) (i : Int) : Nat := (BitVec.ofNat 64 n &&& ~~~ BitVec.ofNat 64 (2 ^ i.toNat)).toNat
def kW (r : Reg) (c : Ctl) : Reg := if c.kind = 1 then { r with stops := r.stops.set c.dv.toNat (tN (iB r.stops c.dv.toNat) c.ix) } else if c.kind = 2 then { r with cpl := tN r.cpl c.ix } else { r with off := tN r.off c.dv }
def rV (o : Org) (i : Nat) : List Ct := (List.range ((iB o.dvs i).hi - (iB o.dvs i).lo + 1).toNat).map fun (k : Nat) => ((i : Int), (iB o.dvs i).lo + (k : Int))
def kG (o : Org) : List Ct := (List.range o.dvs.length).flatMap (rV o)
def pX (o : Org) (r : Reg) : List (List Ct) := (kG o).map (lI o r)
def mM (o : Org) (r : Reg) : List Ctl := (pG r).filter fun c => decide (pX o (kW r c) = pX o r)
end Go.Ds
namespace Go.Ds
open Go.Proofs Go.Proofs.Tryz
variable {H : Heap}
set_option maxRecDepth 10000
set_option maxHeartbeats 1000000
theorem Wp.aE {P : Program} {c c' : Code} {l l' : List Value} {Q : nJ} (hc : c' = c) (hl : l' = l) (h : SW P c l H Q) : Wp P c' l' H Q := by
 subst hc hl; exact h.wp
theorem Wp.bl {P : Program} {c : Code} {l : List Value} {Q : nJ} (h : ∀ l', l' = l → Wp P c l' H Q) : Wp P c l H Q := h l rfl
theorem Wp.aZ {P : Program} {t : Tmp} {ps : Array Tmp} {assign body : Code} {l : List Value} {Q : nJ} {k : FuncId} {captured : List Value} (hg : get l t = .func (.func k) #[] captured.toArray)
 (h : ∀ r : Loop, r.state = .ready → r.pending = none → r.tmps = l.toArray → r.params = ps → r.assign = assign → r.body = body →
   FnS P k ([.func (.yield H.length) #[] #[]] ++ captured) (H.cons (.loop r)) (b3B P l H.length Q)) : Wp P (.rangeFunc (.tmp t) ps assign body) l H Q :=
 Wp.range (first := []) rfl hg (h (b0U l ps assign body) rfl rfl rfl rfl rfl rfl)
theorem Lp.aV {P : Program} {B : Base} {L : Nat} {r : Loop} {H2 : Heap} {ls rest ls' : List Ob} (h : Lp P B L r H (ls ++ rest)) (h2 : St P ⟨H, pC ls⟩ H2 ls') : Lp P B L r H2 (ls' ++ rest) where
 st := h.st.frame h2
 get := by rw [h2.other (jG h.get) fun o ho => h.ne o (List.mem_append_left _ ho)]; exact h.get
 lo := h.lo
 ne o ho hb := by
  rcases dJ.1 ho with ho | ho
  ·have hl := jG h.get
   rcases h2.new o ho L hb with h3 | ⟨o', ho', hb'⟩
   ·have h3 : H.length ≤ L := h3
    omega
   ·exact h.ne o' (List.mem_append_left _ ho') hb'
  ·exact h.ne o (eN _ ho) hb
theorem Lp.left {P : Program} {B : Base} {L : Nat} {r : Loop} {ls rest : List Ob} (h : Lp P B L r H (ls ++ rest)) : Lp P B L r H ls := h.sub (fq _ _)
theorem OwnAt.var {P : Program} {A n : Nat} {cs : List Value} (h : OwnAt P H ⟨ptr A 0 n, 0, cs⟩) : Var H A n cs := by
 unfold OwnAt at h
 rw [if_pos rfl] at h
 rcases h with ⟨A', ty, lo, ver, h1, h2, h3⟩ | ⟨A', es, ck, ver, _, _, h3, _⟩
 ·simp only [ptr, Value.pointer.injEq, dE, Addr.mk.injEq] at h3
  obtain ⟨rfl, _, hn⟩ := h3
  exact ⟨hn, ty, true, lo, ver, h1, h2⟩
 ·cases h3
theorem a5m (x : Nat) (hx : x < 18446744073709551616) (A : Nat) (f : Value) (J : Nat → Heap → Prop) (h0 : J 0 H) (hg : ∀ j H1, J j H1 → Var H1 A 1 [.int .u64 x])
 (hs : ∀ j H1, j < 64 → x.testBit j = false → J j H1 → J (j + 1) H1)
 (hf : ∀ j H1, j < 64 → x.testBit j = true → J j H1 → qP prog f [I j] H1 fun v H2 => v = .bool true ∧ J (j + 1) H2) :
 FnS prog 228 [f, ptr A 0 1] H fun _ H' => J 64 H' := by
 refine FnS.aX func228 rfl (by kernel_rfl) fun l hl => ?_
 have hn : l.length = 19 := by rw [hl]; rfl
 have g0 : get l 0 = f := by rw [hl]; rfl
 have g1 : get l 1 = (ptr A 0 1) := by rw [hl]; rfl
 clear hl
 simp (disch := omega) only [↓RA, RB, simprocAttr]
 refine Wp.al (fun n l H' => l.length = 19 ∧ get l 0 = f ∧ get l 1 = ptr A 0 1 ∧ ∃ j : Nat, n + j = 64 ∧ get l 4 = I j ∧ J j H') 64 ?_ ?_
 ·simp (disch := omega) only [RB, RC, simprocAttr, hn, g0, g1]
  exact ⟨0, rfl, rfl, h0⟩
 rintro n l H9 ⟨hn, g0, g1, j, hj, g4, hJ⟩
 have hV := hg j H9 hJ
 simp (disch := omega) only [↓RA, RB, simprocAttr, hn, g4]
 refine iA (fun q1 => ?_) (fun q1 => ?_)
 ·have e1 := a3r x j hx
  have e2 := a2K (x >>> j) (xA j hx)
  have e3 := tb x j
  simp (disch := omega) only [↓RA, RZ, simprocAttr, hn, g1, g4, hV.ld, q1, e1, e2]
  refine kA (fun q2 => ?_) (fun q2 => ?_)
  ·simp (disch := omega) only [↓RA, RZ, simprocAttr, hn, g0, q1, q2]
   refine a1Z (hf j H9 (by omega) (by rw [e3]; exact decide_eq_true (by omega)) hJ) ?_
   rintro r H10 ⟨rfl, hJ2⟩
   simp (disch := omega) only [↓RA, RZ, simprocAttr, hn, g0, g1, g4, q1, q2]
   exact ⟨n - 1, by omega, j + 1, by omega, by simp, hJ2⟩
  simp (disch := omega) only [↓RA, RZ, simprocAttr, hn, g0, g1, g4, q1, q2]
  exact ⟨n - 1, by omega, j + 1, by omega, by simp, hs j _ (by omega) (by rw [e3]; exact decide_eq_false (by omega)) hJ⟩
 simp (disch := omega) only [↓RA, RZ, simprocAttr, c3w, q1]
 have e : j = 64 := by omega
 exact e ▸ hJ
theorem a0M {n i : Nat} (h : i < n) : ∃ t, List.range n = List.range i ++ i :: t := by
 refine ⟨(List.range n).drop (i + 1), ?_⟩
 have h1 : (List.range n).take i = List.range i := by rw [List.take_range, ff (by omega)]
 have h2 := eQ (l := List.range n) (i := i) (by simpa using h)
 rw [gT] at h2
 rw [← h1, ← h2, fL]
def sC (o : Org) (i : Nat) : Nat := ((iB o.dvs i).hi - (iB o.dvs i).lo + 1).toNat
def kAt (o : Org) (i k : Nat) : Ct := ((i : Int), (iB o.dvs i).lo + (k : Int))
def yQ (o : Org) (i k : Nat) : List Ct := (List.range i).flatMap (rV o) ++ (List.range k).map (kAt o i)
theorem a3w (o : Org) (i k : Nat) : yQ o i (k + 1) = yQ o i k ++ [kAt o i k] := by
 unfold yQ
 rw [ez, dA, dD]
 rfl
theorem zU (o : Org) (i : Nat) : yQ o i (sC o i) = (List.range (i + 1)).flatMap (rV o) := by
 unfold yQ
 rw [ez, dN, dK, fB, dr]
 rfl
theorem a1G (o : Org) {i k : Nat} (hi : i < o.dvs.length) (hk : k < sC o i) : ∃ e, kG o = yQ o i k ++ kAt o i k :: e := by
 obtain ⟨t1, e1⟩ := a0M hi
 obtain ⟨t2, e2⟩ := a0M hk
 refine ⟨t2.map (kAt o i) ++ t1.flatMap (rV o), ?_⟩
 unfold kG yQ
 rw [e1, dN, dK]
 have : rV o i = (List.range (sC o i)).map (kAt o i) := rfl
 rw [this, e2, dA, ef]
 simp
theorem a7S (o : Org) (hf : o.Fine) (rg : Reg) (sv : Value) (AO AR : Nat) (f : Value) (J : List Ct → List Ob → Heap → Prop) (h0 : J [] [] H)
 (hg : ∀ d xs H1, J d xs H1 → Var H1 AO 4 [.string o.name, o.rv, o.dv, o.cv] ∧ o.In H1 ∧ Var H1 AR 3 [sv, .int .u64 rg.cpl, .int .u64 rg.off] ∧ rg.In H1 sv ∧ ∀ x ∈ xs, OwnAt prog H1 x)
 (hst : ∀ d xs H1 H2 ys, J d xs H1 → St prog H1 H2 ys → J d (xs ++ ys) H2)
 (hdr : ∀ d xs ys H1, J d (xs ++ ys) H1 → J d xs H1)
 (hy : ∀ d c e xs H1 H2 pv gv rest, kG o = d ++ c :: e → J d xs H1 → St prog H1 H2 [⟨gv, 2, pr (lI o rg c) ++ rest⟩] → pv = kT gv 2 0 (lI o rg c).length → qP prog f [.agg #[I c.1, I c.2], pv] H2 fun v H3 => v = .bool true ∧ J (d ++ [c]) xs H3) :
 FnS prog 136 [f, ptr AO 0 4, ptr AR 0 3] H fun _ H' => J (kG o) [] H' := by
 have hG0 := hg _ _ _ h0
 refine FnS.aX func136 rfl (by kernel_rfl) fun l hl => ?_
 have hn : l.length = 44 := by rw [hl]; rfl
 have g0 : get l 0 = f := by rw [hl]; rfl
 have g1 : get l 1 = (ptr AO 0 4) := by rw [hl]; rfl
 have g2 : get l 2 = (ptr AR 0 3) := by rw [hl]; rfl
 clear hl
 simp (disch := omega) only [↓RA, RZ, simprocAttr, hn, g1, ((hG0.1.ab (sR H).ab)).ld, ((sR H).sl hG0.2.1.2.2.1).len]
 refine Wp.al (fun n l H' => l.length = 44 ∧ get l 0 = f ∧ get l 1 = ptr AO 0 4 ∧ get l 2 = ptr AR 0 3 ∧ get l 11 = o.dv ∧ get l 12 = I o.dvs.length ∧ ∃ i : Nat, n + i = o.dvs.length ∧ get l 13 = I i ∧ J ((List.range i).flatMap (rV o)) [] H') o.dvs.length ?_ ?_
 ·simp (disch := omega) only [RB, RC, simprocAttr, hn, g0, g1, g2]
  exact ⟨0, by omega, rfl, h0⟩
 rintro n l H9 ⟨hn, g0, g1, g2, g11, g12, i, hi, g13, hJ⟩
 obtain ⟨hV1, hO1, hV2, hR1, _⟩ := hg _ _ _ hJ
 have hdl := hO1.2.2.2.2.2.2.1
 simp (disch := omega) only [↓RA, RB, simprocAttr, hn, g12, g13]
 refine iA (fun q1 => ?_) (fun q1 => ?_)
 ·have hki := hf.keys i (by omega)
  simp (disch := omega) only [↓RA, RZ, simprocAttr, hn, g11, g13, ((sR H9).sl hO1.2.2.1).idx, ((sR H9).sl hO1.2.2.1).ag, Dvn.cells, q1]
  refine (sR H9).eNew 5 [(.string ⟨#[]⟩), (.bool false), I 0, I 0, (.slice none 0 0)] rfl rfl rfl tI fun A1 H1 hS1 => ?_
  simp only [RT] at hS1
  simp (disch := omega) only [↓RA, RZ, simprocAttr, hn, q1]
  refine hS1.aa 0 rfl [(.string (iB o.dvs i).name), (.bool (iB o.dvs i).pedal), I (iB o.dvs i).lo, I (iB o.dvs i).hi, (iB o.dvs i).sv] rfl (by simp [OC, (hS1.sl (hO1.2.2.2.1 (iB o.dvs i) (iE (by omega))).1).cells.2.1]) tI (by simp) fun H2 hS2 => ?_
  simp only [RT] at hS2
  simp (disch := omega) only [↓RA, RZ, simprocAttr, hn, hS2.ld 0 rfl, q1]
  have hJ1 := hst _ _ _ _ _ hJ hS2
  have hcn : (sC o i : Int) = (iB o.dvs i).hi - (iB o.dvs i).lo + 1 := by unfold sC; omega
  refine Wp.al (fun n l H' => l.length = 44 ∧ get l 0 = f ∧ get l 1 = ptr AO 0 4 ∧ get l 2 = ptr AR 0 3 ∧ get l 4 = I i ∧ get l 5 = ptr A1 0 5 ∧ get l 11 = o.dv ∧ get l 12 = I o.dvs.length ∧ get l 13 = I i ∧ ∃ k : Nat, n + k = sC o i ∧ get l 6 = I ((iB o.dvs i).lo + k) ∧ J (yQ o i k) [⟨ptr A1 0 5, 0, [.string (iB o.dvs i).name, .bool (iB o.dvs i).pedal, I (iB o.dvs i).lo, I (iB o.dvs i).hi, (iB o.dvs i).sv]⟩] H') (sC o i) ?_ ?_
  ·simp (disch := omega) only [RB, RC, simprocAttr, hn, g0, g1, g2, g11, g12, g13]
   refine ⟨0, by omega, by simp, ?_⟩
   have e : yQ o i 0 = (List.range i).flatMap (rV o) := by unfold yQ; simp
   rw [e]
   exact hJ1
  rintro n l H10 ⟨hn, g0, g1, g2, g4, g5, g11, g12, g13, k, hk, g6, hJ2⟩
  obtain ⟨hV3, hO3, hV4, hR3, hX3⟩ := hg _ _ _ hJ2
  have hV5 := (hX3 _ (dC.2 rfl)).var
  simp (disch := omega) only [↓RA, RZ, simprocAttr, hn, g5, g6, (hV5.ab (sR H10).ab).ld]
  refine iA (fun q2 => ?_) (fun q2 => ?_)
  ·simp (disch := omega) only [↓RA, RZ, simprocAttr, hn, g4, g6, xP, q2]
   refine (sR H10).eNew 2 [I 0, I 0] rfl rfl rfl pK fun A2 H3 hS3 => ?_
   simp only [RT] at hS3
   simp (disch := omega) only [↓RA, RZ, simprocAttr, hn, q2]
   refine hS3.aa 0 rfl [I i, I ((iB o.dvs i).lo + k)] rfl rfl pK (by simp) fun H4 hS4 => ?_
   simp only [RT] at hS4
   simp (disch := omega) only [↓RA, RZ, simprocAttr, hn, g1, g2, (hV3.ab hS4.ab).ag, (hV4.ab hS4.ab).ag, hS4.ag 0 rfl, q2]
   have hJ3 := hdr _ _ _ _ (hst _ _ _ _ _ hJ2 hS4)
   refine iJ (b3U o (hO3.ab hS4) rg sv (hR3.ab hS4) (kAt o i k)) ?_
   rintro r H5 ⟨pv, rfl, gv, rest, he9, hT1⟩
   have hS5 := hS4.trans hT1
   simp only [RT] at hS5
   have hx : Sl 2 jT H5 pv (lI o rg (kAt o i k)) := by rw [he9]; exact (vH hT1).1
   simp (disch := omega) only [↓RA, RZ, simprocAttr, hn, g0, hS5.ag 0 rfl, q2]
   obtain ⟨e, he⟩ := a1G o (i := i) (k := k) (by omega) (by omega)
   refine a1Z (hy _ (kAt o i k) e _ _ _ pv gv rest he hJ3 hT1 he9) ?_
   rintro r H13 ⟨rfl, hJ4⟩
   rw [← a3w] at hJ4
   simp (disch := omega) only [↓RA, RZ, simprocAttr, hn, g0, g1, g2, g4, g5, g6, g11, g12, g13, q2]
   exact ⟨n - 1, by omega, k + 1, by omega, by congr 1; omega, hJ4⟩
  simp (disch := omega) only [↓RA, RZ, simprocAttr, hn, g0, g1, g2, g11, g12, g13, q2]
  have e : k = sC o i := by omega
  rw [e, zU] at hJ2
  exact ⟨o.dvs.length - (i + 1), by omega, i + 1, by omega, by simp, hdr _ [] _ _ hJ2⟩
 simp (disch := omega) only [↓RA, RZ, simprocAttr, c3c, q1]
 have e : i = o.dvs.length := by omega
 subst e
 exact hJ
theorem b0F (o : Org) (hf : o.Fine) (rg : Reg) (sv : Value) (AO AR : Nat) (f : Value) (J : List Ct → List Ob → Heap → Prop) (h0 : J [] [] H)
 (hg : ∀ d xs H1, J d xs H1 → Var H1 AO 4 [.string o.name, o.rv, o.dv, o.cv] ∧ o.In H1 ∧ Var H1 AR 3 [sv, .int .u64 rg.cpl, .int .u64 rg.off] ∧ rg.In H1 sv ∧ ∀ x ∈ xs, OwnAt prog H1 x)
 (hst : ∀ d xs H1 H2 ys, J d xs H1 → St prog H1 H2 ys → J d (xs ++ ys) H2)
 (hdr : ∀ d xs ys H1, J d (xs ++ ys) H1 → J d xs H1)
 (hy : ∀ d c e xs H1 H2 pv, kG o = d ++ c :: e → J d xs H1 → St prog H1 H2 [] → Slx 2 jT H2 (fun B => H1.length ≤ B) pv (lI o rg c) → qP prog f [.agg #[I c.1, I c.2], pv] H2 fun v H3 => v = .bool true ∧ J (d ++ [c]) xs H3) :
 FnS prog 136 [f, ptr AO 0 4, ptr AR 0 3] H fun _ H' => J (kG o) [] H' :=
 a7S o hf rg sv AO AR f J h0 hg hst hdr fun d c e xs H1 H2 pv _ _ he hJ hS hp => hy d c e xs H1 H2 pv he hJ hS.forget (by rw [hp]; exact vH hS)
def nB (x n : Nat) : List Nat := (List.range n).filter fun i => x.testBit i
theorem pF (x n : Nat) : nB x (n + 1) = nB x n ++ (if x.testBit n then [n] else []) := by
 unfold nB
 rw [ez, ew, List.filter_cons, List.filter_nil]
theorem nC (x n : Nat) : (nB x n).length ≤ n := by
 unfold nB
 refine dI (dS _ _) ?_
 simp
theorem a5f (x : Nat) : Fn prog 184 [.int .u64 x] H fun r H' => ∃ A, r = .func (.func 228) #[] #[ptr A 0 1] ∧ St prog H H' [⟨ptr A 0 1, 0, [.int .u64 x]⟩] := by
 refine .aY func184 rfl (by kernel_rfl) (m := 4) rfl fun l hn g0 => ?_
 simp (disch := omega) only [↓RA, RB, simprocAttr, g0]
 refine (sR H).eNew 1 [(.int .u64 x)] rfl rfl rfl a5A fun A1 H1 hS1 => ?_
 simp only [RT] at hS1
 simp (disch := omega) only [↓RA, RZ, simprocAttr, hn, c4P]
 exact ⟨A1, rfl, hS1⟩
abbrev mB (l : List Ctl) : List Value := l.flatMap Ctl.cells
theorem mE (l : List Ctl) : (mB l).length = l.length * 3 := iK (n := 3) (fun _ => rfl) l
theorem yT (l : List Ctl) (x : Ctl) : mB (l ++ [x]) = mB l ++ [I x.kind, I x.dv, I x.ix] := by
 unfold mB
 rw [dN]
 rfl
def yR (rg : Reg) (d : Nat) : List Ctl := (List.range d).flatMap fun d => (oS (iB rg.stops d)).map (zQ d)
theorem a4d (rg : Reg) (d : Nat) : yR rg (d + 1) = yR rg d ++ (nB (iB rg.stops d) 64).map (zQ d) := by
 unfold yR
 rw [ez, dN, dK, fB, dr]
 rfl
theorem a1f (rg : Reg) : ∀ d, (yR rg d).length ≤ d * 64
 | 0 => by simp [yR]
 | d + 1 => by
   have := a1f rg d
   have h2 := nC (iB rg.stops d) 64
   rw [a4d, dh, dF]
   omega
theorem b2V (rg : Reg) (sv : Value) (hr : rg.In H sv) (hl : rg.stops.length ≤ 60) : Fn prog 134 [.agg #[sv, .int .u64 rg.cpl, .int .u64 rg.off]] H fun r H' => St prog H H' [⟨r, 3, mB (pG rg)⟩] := by
 refine .aY func134 rfl (by kernel_rfl) (m := 46) rfl fun l hn g0 => ?_
 simp (disch := omega) only [↓RA, RB, simprocAttr, g0]
 refine (sR H).eNew 3 [sv, (.int .u64 rg.cpl), (.int .u64 rg.off)] rfl rfl (by simp [OC, ((sR H).sl hr.1).cells.2.1]) mP fun A1 H1 hS1 => ?_
 simp only [RT] at hS1
 simp (disch := omega) only [↓RA, RZ, simprocAttr]
 refine hS1.eNew 1 [(.slice none 0 0)] rfl rfl rfl a6h fun A2 H2 hS2 => ?_
 simp only [RT] at hS2
 simp (disch := omega) only [↓RA, RZ, simprocAttr, hn, hS2.ld 0 rfl, (hS2.sl hr.1).len]
 have hS3 := hS2.nil 2
 simp only [RT] at hS3
 refine Wp.al (fun n l H' => l.length = 46 ∧ get l 1 = (ptr A1 0 3) ∧ get l 2 = (.slice none 0 0) ∧ get l 3 = (ptr A2 0 1) ∧ get l 10 = sv ∧ get l 11 = I rg.stops.length ∧ ∃ (d : Nat) (ov : Value), (n + d = rg.stops.length) ∧ get l 12 = I d ∧ St prog H H' [⟨ptr A1 0 3, 0, [sv, (.int .u64 rg.cpl), (.int .u64 rg.off)]⟩, ⟨ptr A2 0 1, 0, [ov]⟩, ⟨ov, 3, mB (yR rg d)⟩]) rg.stops.length ?_ ?_
 ·simp (disch := omega) only [RB, RC, simprocAttr, hn]
  exact ⟨0, .slice none 0 0, by omega, rfl, hS3⟩
 rintro n l H3 ⟨hn, g1, g2, g3, rE, g11, d, ov, hd, g12, hS4⟩
 simp (disch := omega) only [↓RA, RB, simprocAttr, hn, g11, g12]
 refine iA (fun q1 => ?_) (fun q1 => ?_)
 ·have hsx := hr.2.2.1 _ (iE (xs := rg.stops) (j := d) (by omega))
  have hal := a1f rg d
  simp (disch := omega) only [↓RA, RZ, simprocAttr, hn, rE, g12, (hS4.sl hr.1).idx, (hS4.sl hr.1).ld, one, u64, q1]
  refine hS4.eNew 1 [I 0] rfl rfl rfl tS3 fun A3 H4 hS5 => ?_
  simp only [RT] at hS5
  simp (disch := omega) only [↓RA, RZ, simprocAttr, hn, q1]
  refine hS5.aa 3 rfl [I d] rfl rfl tS3 (by simp) fun H5 hS6 => ?_
  simp only [RT] at hS6
  simp (disch := omega) only [↓RA, RZ, simprocAttr, hn, q1]
  refine iJ (a5f (iB rg.stops d)) ?_
  rintro r H6 ⟨A4, rfl, hT1⟩
  have hS7 := hS6.trans hT1
  simp only [RT] at hS7
  simp (disch := omega) only [↓RA, RZ, simprocAttr, q1]
  refine Wp.bl fun lrg1 hlrg1 => ?_
  have hnrg1 : lrg1.length = 46 := by rw [hlrg1]; simp (disch := omega) only [RB, simprocAttr, hn]
  have g1rg1 : get lrg1 1 = (ptr A1 0 3) := by rw [hlrg1]; simp (disch := omega) only [RB, simprocAttr, g1]
  have g2rg1 : get lrg1 2 = (.slice none 0 0) := by rw [hlrg1]; simp (disch := omega) only [RB, simprocAttr, g2]
  have g3rg1 : get lrg1 3 = (ptr A2 0 1) := by rw [hlrg1]; simp (disch := omega) only [RB, simprocAttr, g3]
  have g4rg1 : get lrg1 4 = (ptr A3 0 1) := by rw [hlrg1]; simp (disch := omega) only [RB, simprocAttr, hn]
  have g10rg1 : get lrg1 10 = sv := by rw [hlrg1]; simp (disch := omega) only [RB, simprocAttr, rE]
  have g11rg1 : get lrg1 11 = I rg.stops.length := by rw [hlrg1]; simp (disch := omega) only [RB, simprocAttr, g11]
  have g12rg1 : get lrg1 12 = I d := by rw [hlrg1]; simp (disch := omega) only [RB, simprocAttr, g12]
  have gfrg1 : get lrg1 18 = .func (.func 228) #[] [(ptr A4 0 1)].toArray := by rw [hlrg1]; simp (disch := omega) only [RB, simprocAttr, hn]
  clear hlrg1
  refine Wp.aZ gfrg1 fun rg1 hstrg1 hpdrg1 htmrg1 hpsrg1 hasrg1 hbdrg1 => ?_
  have hreqrg1 : ({ rg1 with state := .ready, pending := none } : Loop) = rg1 := by
   cases rg1
   simp only at hstrg1 hpdrg1
   subst hstrg1 hpdrg1
   rfl
  have hLprg1 := Lp.enter hS7 rg1
  generalize H6.cons (.loop rg1) = Hcrg1 at hLprg1 ⊢
  generalize H6.length = Lrg1 at hLprg1 ⊢
  refine (a5m (iB rg.stops d) hsx A4 (.func (.yield Lrg1) #[] #[]) (fun j H1 => ∃ ow, Lp prog H Lrg1 rg1 H1 [⟨ptr A1 0 3, 0, [sv, .int .u64 rg.cpl, .int .u64 rg.off]⟩, ⟨ptr A2 0 1, 0, [ow]⟩, ⟨ow, 3, mB (yR rg d ++ (nB (iB rg.stops d) j).map (zQ d))⟩, ⟨ptr A3 0 1, 0, [I d]⟩, ⟨ptr A4 0 1, 0, [.int .u64 ((iB rg.stops d : Nat) : Int)]⟩]) ⟨ov, ?_⟩ ?_ ?_ ?_).mono ?_
  ·rw [show (nB (iB rg.stops d) 0).map (zQ d) = [] from rfl, dr]
   exact hLprg1
  ·rintro j H1 ⟨ow, h⟩
   exact h.st.var 4 rfl
  ·rintro j H1 hj hb ⟨ow, h⟩
   refine ⟨ow, ?_⟩
   rw [pF (iB rg.stops d) j, hb, if_neg (by simp), dr]
   exact h
  ·rintro j H20 hj hb ⟨ow, hLpj⟩
   have hbl := nC (iB rg.stops d) j
   have hroom : (mB (yR rg d ++ (nB (iB rg.stops d) j).map (zQ d))).length ≤ 20000 := by
    rw [mE, dh, dF]
    omega
   refine mS hLpj.get (by rw [hpsrg1]; rfl) hstrg1 ?_
   refine Wp.aE (l := put lrg1 (some 19) (I j)) hasrg1 (by rw [hpsrg1, htmrg1]; first | exact (kN ..).symm | rfl | simp [put, kN]) ?_
   simp (disch := omega) only [↓RA, RZ, simprocAttr, hnrg1]
   refine ⟨rg1, hLpj.get, hstrg1, ?_⟩
   have hYBs1 := hLpj.set (fun h => h) { rg1 with state := .busy }
   have hKBs1 : ∀ B, B ≠ Lrg1 → iP (hset H20 Lrg1 (.loop { rg1 with state := .busy })) B = iP H20 B := fun B h => iM _ (eH h)
   have hNBs1 : (hset H20 Lrg1 (.loop { rg1 with state := .busy })).length = H20.length := jA ..
   generalize hset H20 Lrg1 (.loop { rg1 with state := .busy }) = HBs1 at hYBs1 hKBs1 hNBs1 ⊢
   refine Wp.aE hbdrg1 rfl ?_
   have hZBs1 := hYBs1.st
   obtain ⟨Bs1, hBBs1, hS8⟩ := hZBs1.ax (os := [⟨ptr A1 0 3, 0, _⟩, ⟨ptr A2 0 1, 0, _⟩, ⟨ow, 3, _⟩, ⟨ptr A3 0 1, 0, _⟩, ⟨ptr A4 0 1, 0, _⟩])
   simp (disch := omega) only [↓RA, RZ, simprocAttr, hnrg1, g3rg1, g4rg1, hS8.ld 1 rfl, hS8.ld 3 rfl, a7f]
   refine hS8.ai [I 1, I d, I j] a0F b0R rfl rfl (by simp [Value.cells]) rfl rfl (by decide) (by decide) fun w1 H7 hS9 => ?_
   simp only [RT] at hS9
   simp (disch := omega) only [↓RA, RZ, simprocAttr, hnrg1]
   refine hS9.aq 2 rfl (hS9.rd 5 rfl) a0F (by have h := hroom; simp only [ed, ey]; omega) fun w2 H8 hS10 => ?_
   simp only [RT] at hS10
   simp (disch := omega) only [↓RA, RB, simprocAttr, hnrg1, g3rg1]
   refine hS10.aa 1 rfl [w2] (by rw [(hS10.rd 2 rfl).cells.1]) (by simp [(hS10.rd 2 rfl).cells.2.1]) a6h (by simp) fun H9 hS11 => ?_
   simp only [RT] at hS11
   simp (disch := omega) only [↓RA, simprocAttr]
   have hS12 := hS11.pick (os' := [⟨ptr A1 0 3, 0, _⟩, ⟨ptr A2 0 1, 0, _⟩, ⟨w2, 3, _⟩, ⟨ptr A3 0 1, 0, _⟩, ⟨ptr A4 0 1, 0, _⟩]) [0, 1, 2, 3, 4] (by decide) rfl
   have hWBs1 := (hYBs1.body (hBBs1 ▸ hS12)).set (fun h => h) rg1
   rw [← hreqrg1] at hWBs1
   refine ⟨_, (hYBs1.body (hBBs1 ▸ hS12)).get, rfl, w2, ?_⟩
   rw [pF (iB rg.stops d) j, hb, if_pos rfl, dA, ← dD, ef, fY, yT]
   exact hreqrg1 ▸ hWBs1
  ·rintro _ H21 ⟨ow, hLp2⟩
   rw [← a4d] at hLp2
   refine ⟨_, hLp2.get, (by rw [hstrg1]; exact fun h => by cases h), fun _ => ?_, fun c hc => by rw [hpdrg1] at hc; cases hc⟩
   have hAAf1 := (hLp2.set (fun h => h) { rg1 with state := .exhausted }).st
   have hKAf1 : ∀ B, B ≠ Lrg1 → iP (hset H21 Lrg1 (.loop { rg1 with state := .exhausted })) B = iP H21 B := fun B h => iM _ (eH h)
   generalize hset H21 Lrg1 (.loop { rg1 with state := .exhausted }) = HAf1 at hAAf1 hKAf1 ⊢
   simp (disch := omega) only [↓RA, RZ, simprocAttr, hnrg1, g1rg1, g2rg1, g3rg1, g10rg1, g11rg1, g12rg1]
   exact ⟨rg.stops.length - (d + 1), by omega, d + 1, ow, by omega, by simp, hAAf1.pick [0, 1, 2] (by decide) rfl⟩
 have hdd : d = rg.stops.length := by omega
 subst hdd
 have hal := a1f rg rg.stops.length
 simp (disch := omega) only [↓RA, RZ, simprocAttr, hn, g1, hS4.ld 0 rfl, q1]
 refine iJ (a5f rg.cpl) ?_
 rintro r H10 ⟨A5, rfl, hT2⟩
 have hS13 := hS4.trans hT2
 simp only [RT] at hS13
 simp (disch := omega) only [↓RA, RC, simprocAttr, q1]
 refine Wp.bl fun lrg2 hlrg2 => ?_
 have hnrg2 : lrg2.length = 46 := by rw [hlrg2]; simp (disch := omega) only [RB, simprocAttr, hn]
 have g1rg2 : get lrg2 1 = (ptr A1 0 3) := by rw [hlrg2]; simp (disch := omega) only [RB, simprocAttr, g1]
 have g2rg2 : get lrg2 2 = (.slice none 0 0) := by rw [hlrg2]; simp (disch := omega) only [RB, simprocAttr, g2]
 have g3rg2 : get lrg2 3 = (ptr A2 0 1) := by rw [hlrg2]; simp (disch := omega) only [RB, simprocAttr, g3]
 have gfrg2 : get lrg2 29 = .func (.func 228) #[] [(ptr A5 0 1)].toArray := by rw [hlrg2]; simp (disch := omega) only [RB, simprocAttr, hn]
 clear hlrg2
 refine Wp.aZ gfrg2 fun rg2 hstrg2 hpdrg2 htmrg2 hpsrg2 hasrg2 hbdrg2 => ?_
 have hreqrg2 : ({ rg2 with state := .ready, pending := none } : Loop) = rg2 := by
  cases rg2
  simp only at hstrg2 hpdrg2
  subst hstrg2 hpdrg2
  rfl
 have hLprg2 := Lp.enter hS13 rg2
 generalize H10.cons (.loop rg2) = Hcrg2 at hLprg2 ⊢
 generalize H10.length = Lrg2 at hLprg2 ⊢
 refine (a5m rg.cpl hr.2.2.2.1 A5 (.func (.yield Lrg2) #[] #[]) (fun j H1 => ∃ ow, Lp prog H Lrg2 rg2 H1 [⟨ptr A1 0 3, 0, [sv, .int .u64 rg.cpl, .int .u64 rg.off]⟩, ⟨ptr A2 0 1, 0, [ow]⟩, ⟨ow, 3, mB (yR rg rg.stops.length ++ (nB rg.cpl j).map xB)⟩, ⟨ptr A5 0 1, 0, [.int .u64 (rg.cpl : Int)]⟩]) ⟨ov, ?_⟩ ?_ ?_ ?_).mono ?_
 ·rw [show (nB rg.cpl 0).map xB = [] from rfl, dr]
  exact hLprg2
 ·rintro j H1 ⟨ow, h⟩
  exact h.st.var 3 rfl
 ·rintro j H1 hj hb ⟨ow, h⟩
  refine ⟨ow, ?_⟩
  rw [pF rg.cpl j, hb, if_neg (by simp), dr]
  exact h
 ·rintro j H20 hj hb ⟨ow, hLpj⟩
  have hbl := nC rg.cpl j
  have hroom : (mB (yR rg rg.stops.length ++ (nB rg.cpl j).map xB)).length ≤ 20000 := by
   rw [mE, dh, dF]
   omega
  refine mS hLpj.get (by rw [hpsrg2]; rfl) hstrg2 ?_
  refine Wp.aE (l := put lrg2 (some 30) (I j)) hasrg2 (by rw [hpsrg2, htmrg2]; first | exact (kN ..).symm | rfl | simp [put, kN]) ?_
  simp (disch := omega) only [↓RA, RZ, simprocAttr, hnrg2]
  refine ⟨rg2, hLpj.get, hstrg2, ?_⟩
  have hYBs2 := hLpj.set (fun h => h) { rg2 with state := .busy }
  have hKBs2 : ∀ B, B ≠ Lrg2 → iP (hset H20 Lrg2 (.loop { rg2 with state := .busy })) B = iP H20 B := fun B h => iM _ (eH h)
  have hNBs2 : (hset H20 Lrg2 (.loop { rg2 with state := .busy })).length = H20.length := jA ..
  generalize hset H20 Lrg2 (.loop { rg2 with state := .busy }) = HBs2 at hYBs2 hKBs2 hNBs2 ⊢
  refine Wp.aE hbdrg2 rfl ?_
  have hZBs2 := hYBs2.st
  obtain ⟨Bs2, hBBs2, hS14⟩ := hZBs2.ax (os := [⟨ptr A1 0 3, 0, _⟩, ⟨ptr A2 0 1, 0, _⟩, ⟨ow, 3, _⟩, ⟨ptr A5 0 1, 0, _⟩])
  simp (disch := omega) only [↓RA, RZ, simprocAttr, hnrg2, g3rg2, hS14.ld 1 rfl, a3U]
  refine hS14.ai [I 2, I 0, I j] a0F b0R rfl rfl (by simp [Value.cells]) rfl rfl (by decide) (by decide) fun w3 H11 hS15 => ?_
  simp only [RT] at hS15
  simp (disch := omega) only [↓RA, RZ, simprocAttr, hnrg2]
  refine hS15.aq 2 rfl (hS15.rd 4 rfl) a0F (by have h := hroom; simp only [ed, ey]; omega) fun w4 H12 hS16 => ?_
  simp only [RT] at hS16
  simp (disch := omega) only [↓RA, RB, simprocAttr, hnrg2, g3rg2]
  refine hS16.aa 1 rfl [w4] (by rw [(hS16.rd 2 rfl).cells.1]) (by simp [(hS16.rd 2 rfl).cells.2.1]) a6h (by simp) fun H13 hS17 => ?_
  simp only [RT] at hS17
  simp (disch := omega) only [↓RA, simprocAttr]
  have hS18 := hS17.pick (os' := [⟨ptr A1 0 3, 0, _⟩, ⟨ptr A2 0 1, 0, _⟩, ⟨w4, 3, _⟩, ⟨ptr A5 0 1, 0, _⟩]) [0, 1, 2, 3] (by decide) rfl
  have hWBs2 := (hYBs2.body (hBBs2 ▸ hS18)).set (fun h => h) rg2
  rw [← hreqrg2] at hWBs2
  refine ⟨_, (hYBs2.body (hBBs2 ▸ hS18)).get, rfl, w4, ?_⟩
  rw [pF rg.cpl j, hb, if_pos rfl, dA, ← dD, ef, fY, yT]
  exact hreqrg2 ▸ hWBs2
 rintro _ H22 ⟨ow, hLp2⟩
 have hb2 := nC rg.cpl 64
 refine ⟨_, hLp2.get, (by rw [hstrg2]; exact fun h => by cases h), fun _ => ?_, fun c hc => by rw [hpdrg2] at hc; cases hc⟩
 have hAAf2 := (hLp2.set (fun h => h) { rg2 with state := .exhausted }).st
 have hKAf2 : ∀ B, B ≠ Lrg2 → iP (hset H22 Lrg2 (.loop { rg2 with state := .exhausted })) B = iP H22 B := fun B h => iM _ (eH h)
 generalize hset H22 Lrg2 (.loop { rg2 with state := .exhausted }) = HAf2 at hAAf2 hKAf2 ⊢
 simp (disch := omega) only [↓RA, RZ, simprocAttr, hnrg2, g1rg2, hAAf2.ld 0 rfl]
 refine iJ (a5f rg.off) ?_
 rintro r H14 ⟨A6, rfl, hT3⟩
 have hS19 := hAAf2.trans hT3
 simp only [RT] at hS19
 simp (disch := omega) only [↓RA, simprocAttr]
 have hal2 : (yR rg rg.stops.length ++ (nB rg.cpl 64).map xB).length ≤ 3904 := by
  rw [dh, dF]
  omega
 refine Wp.bl fun lrg3 hlrg3 => ?_
 have hnrg3 : lrg3.length = 46 := by rw [hlrg3]; simp (disch := omega) only [RB, simprocAttr, hnrg2]
 have g2rg3 : get lrg3 2 = (.slice none 0 0) := by rw [hlrg3]; simp (disch := omega) only [RB, simprocAttr, g2rg2]
 have g3rg3 : get lrg3 3 = (ptr A2 0 1) := by rw [hlrg3]; simp (disch := omega) only [RB, simprocAttr, g3rg2]
 have gfrg3 : get lrg3 38 = .func (.func 228) #[] [(ptr A6 0 1)].toArray := by rw [hlrg3]; simp (disch := omega) only [RB, simprocAttr, hnrg2]
 clear hlrg3
 refine Wp.aZ gfrg3 fun rg3 hstrg3 hpdrg3 htmrg3 hpsrg3 hasrg3 hbdrg3 => ?_
 have hreqrg3 : ({ rg3 with state := .ready, pending := none } : Loop) = rg3 := by
  cases rg3
  simp only at hstrg3 hpdrg3
  subst hstrg3 hpdrg3
  rfl
 have hLprg3 := Lp.enter hS19 rg3
 generalize H14.cons (.loop rg3) = Hcrg3 at hLprg3 ⊢
 generalize H14.length = Lrg3 at hLprg3 ⊢
 refine (a5m rg.off hr.2.2.2.2 A6 (.func (.yield Lrg3) #[] #[]) (fun j H1 => ∃ ow, Lp prog H Lrg3 rg3 H1 [⟨ptr A1 0 3, 0, [sv, .int .u64 rg.cpl, .int .u64 rg.off]⟩, ⟨ptr A2 0 1, 0, [ow]⟩, ⟨ow, 3, mB ((yR rg rg.stops.length ++ (nB rg.cpl 64).map xB) ++ (nB rg.off j).map a4P)⟩, ⟨ptr A5 0 1, 0, [.int .u64 (rg.cpl : Int)]⟩, ⟨ptr A6 0 1, 0, [.int .u64 (rg.off : Int)]⟩]) ⟨ow, ?_⟩ ?_ ?_ ?_).mono ?_
 ·rw [show (nB rg.off 0).map a4P = [] from rfl, dr]
  exact hLprg3
 ·rintro j H1 ⟨ow, h⟩
  exact h.st.var 4 rfl
 ·rintro j H1 hj hb ⟨ow, h⟩
  refine ⟨ow, ?_⟩
  rw [pF rg.off j, hb, if_neg (by simp), dr]
  exact h
 ·rintro j H20 hj hb ⟨ow, hLpj⟩
  have hbl := nC rg.off j
  have hroom : (mB ((yR rg rg.stops.length ++ (nB rg.cpl 64).map xB) ++ (nB rg.off j).map a4P)).length ≤ 20000 := by
   rw [mE, dh, dF]
   omega
  refine mS hLpj.get (by rw [hpsrg3]; rfl) hstrg3 ?_
  refine Wp.aE (l := put lrg3 (some 39) (I j)) hasrg3 (by rw [hpsrg3, htmrg3]; first | exact (kN ..).symm | rfl | simp [put, kN]) ?_
  simp (disch := omega) only [↓RA, RZ, simprocAttr, hnrg3]
  refine ⟨rg3, hLpj.get, hstrg3, ?_⟩
  have hYBs3 := hLpj.set (fun h => h) { rg3 with state := .busy }
  have hKBs3 : ∀ B, B ≠ Lrg3 → iP (hset H20 Lrg3 (.loop { rg3 with state := .busy })) B = iP H20 B := fun B h => iM _ (eH h)
  have hNBs3 : (hset H20 Lrg3 (.loop { rg3 with state := .busy })).length = H20.length := jA ..
  generalize hset H20 Lrg3 (.loop { rg3 with state := .busy }) = HBs3 at hYBs3 hKBs3 hNBs3 ⊢
  refine Wp.aE hbdrg3 rfl ?_
  have hZBs3 := hYBs3.st
  obtain ⟨Bs3, hBBs3, hS20⟩ := hZBs3.ax (os := [⟨ptr A1 0 3, 0, _⟩, ⟨ptr A2 0 1, 0, _⟩, ⟨ow, 3, _⟩, ⟨ptr A5 0 1, 0, _⟩, ⟨ptr A6 0 1, 0, _⟩])
  simp (disch := omega) only [↓RA, RZ, simprocAttr, hnrg3, g3rg3, hS20.ld 1 rfl, b1n]
  refine hS20.ai [I 3, I j, I 0] a0F b0R rfl rfl (by simp [Value.cells]) rfl rfl (by decide) (by decide) fun w5 H15 hS21 => ?_
  simp only [RT] at hS21
  simp (disch := omega) only [↓RA, RZ, simprocAttr, hnrg3]
  refine hS21.aq 2 rfl (hS21.rd 5 rfl) a0F (by have h := hroom; simp only [ed, ey]; omega) fun w6 H16 hS22 => ?_
  simp only [RT] at hS22
  simp (disch := omega) only [↓RA, RB, simprocAttr, hnrg3, g3rg3]
  refine hS22.aa 1 rfl [w6] (by rw [(hS22.rd 2 rfl).cells.1]) (by simp [(hS22.rd 2 rfl).cells.2.1]) a6h (by simp) fun H17 hS23 => ?_
  simp only [RT] at hS23
  simp (disch := omega) only [↓RA, simprocAttr]
  have hS24 := hS23.pick (os' := [⟨ptr A1 0 3, 0, _⟩, ⟨ptr A2 0 1, 0, _⟩, ⟨w6, 3, _⟩, ⟨ptr A5 0 1, 0, _⟩, ⟨ptr A6 0 1, 0, _⟩]) [0, 1, 2, 3, 4] (by decide) rfl
  have hWBs3 := (hYBs3.body (hBBs3 ▸ hS24)).set (fun h => h) rg3
  rw [← hreqrg3] at hWBs3
  refine ⟨_, (hYBs3.body (hBBs3 ▸ hS24)).get, rfl, w6, ?_⟩
  rw [pF rg.off j, hb, if_pos rfl, dA, ← dD, ef, fY, yT]
  exact hreqrg3 ▸ hWBs3
 rintro _ H23 ⟨oz, hLp3⟩
 refine ⟨_, hLp3.get, (by rw [hstrg3]; exact fun h => by cases h), fun _ => ?_, fun c hc => by rw [hpdrg3] at hc; cases hc⟩
 have hAAf3 := (hLp3.set (fun h => h) { rg3 with state := .exhausted }).st
 have hKAf3 : ∀ B, B ≠ Lrg3 → iP (hset H23 Lrg3 (.loop { rg3 with state := .exhausted })) B = iP H23 B := fun B h => iM _ (eH h)
 generalize hset H23 Lrg3 (.loop { rg3 with state := .exhausted }) = HAf3 at hAAf3 hKAf3 ⊢
 simp (disch := omega) only [↓RA, RZ, simprocAttr, hnrg3, g3rg3, hAAf3.ld 1 rfl, c2U]
 exact hAAf3.pick [2] (by decide) rfl
structure Pv where
 v : Value
 l : List Ct
 deriving Inhabited
def Pv.cells (p : Pv) : List Value := [p.v]
def Pv.Ix (H : Heap) (X : Nat → Prop) (p : Pv) : Prop := Slx 2 jT H X p.v p.l
theorem Pv.Ix.step {H' : Heap} {X Y : Nat → Prop} {p : Pv} (h : p.Ix H X) (hk : Kept H X H' Y) : p.Ix H' Y := Slx.step h hk
theorem Kept.and {H' : Heap} {X Y : Nat → Prop} (Q : Nat → Prop) (h : Kept H X H' Y) : Kept H (fun B => Q B ∧ X B) H' (fun B => Q B ∧ Y B) :=
 fun B hX hB => ⟨(h B hX.2 hB).1, hX.1, (h B hX.2 hB).2⟩
abbrev oC (o : Org) : List Value := [.string o.name, o.rv, o.dv, o.cv]
abbrev rC (rg : Reg) (sv : Value) : List Value := [sv, .int .u64 rg.cpl, .int .u64 rg.off]
theorem a2n (o : Org) (ho : o.In H) (rg : Reg) (sv : Value) (hr : rg.In H sv) : Fn prog 83 [.agg #[.string o.name, o.rv, o.dv, o.cv], .agg #[sv, .int .u64 rg.cpl, .int .u64 rg.off]] H fun r H' =>
 ∃ AO AR, r = .func (.func 136) #[] #[ptr AO 0 4, ptr AR 0 3] ∧ St prog H H' [⟨ptr AO 0 4, 0, [.string o.name, o.rv, o.dv, o.cv]⟩, ⟨ptr AR 0 3, 0, [sv, .int .u64 rg.cpl, .int .u64 rg.off]⟩] := by
 refine .aD func83 rfl (by kernel_rfl) (m := 6) rfl fun l hn g0 g1 => ?_
 simp (disch := omega) only [↓RA, RB, simprocAttr, g0]
 refine (sR H).eNew 4 [(.string o.name), o.rv, o.dv, o.cv] rfl rfl (by simp [OC, ((sR H).sl ho.1).cells.2.1, ((sR H).sl ho.2.2.1).cells.2.1, ((sR H).sl ho.2.2.2.2.1).cells.2.1]) mW fun A1 H1 hS1 => ?_
 simp only [RT] at hS1
 simp (disch := omega) only [↓RA, RB, simprocAttr, g1]
 refine hS1.eNew 3 [sv, (.int .u64 rg.cpl), (.int .u64 rg.off)] rfl rfl (by simp [OC, (hS1.sl hr.1).cells.2.1]) mP fun A2 H2 hS2 => ?_
 simp only [RT] at hS2
 simp (disch := omega) only [↓RA, RZ, simprocAttr, hn, c5G]
 exact ⟨A1, A2, rfl, hS2⟩
theorem qL {o : Org} (hf : o.Fine) : (kG o).length ≤ 1024 := by
 have key : ∀ n, n ≤ o.dvs.length → ((List.range n).flatMap (rV o)).length ≤ n * 128 := by
  intro n
  induction n with
  | zero => intro _; simp
  | succ n ih =>
    intro hn
    have h1 := ih (by omega)
    have h2 := hf.keys n (by omega)
    have h3 : (rV o n).length = sC o n := by simp [rV, sC]
    have h4 : sC o n ≤ 128 := by unfold sC; omega
    rw [ez, dN, dK, fB, dr, dh]
    omega
 have := key o.dvs.length (dm _)
 have := hf.dlen
 unfold kG
 omega
theorem a3X (o : Org) (ho : o.In H) (hf : o.Fine) (rg : Reg) (sv : Value) (hr : rg.In H sv) : Fn prog 179 [.agg #[.string o.name, o.rv, o.dv, o.cv], .agg #[sv, .int .u64 rg.cpl, .int .u64 rg.off]] H fun r H' =>
 ∃ ps : List Pv, ps.map (·.l) = pX o rg ∧ Slx 1 Pv.cells H' (fun B => H.length ≤ B) r ps ∧ (∀ p ∈ ps, p.Ix H' (fun B => H.length ≤ B)) ∧ St prog H H' [] := by
 refine .aD func179 rfl (by kernel_rfl) (m := 18) rfl fun l hn g0 g1 => ?_
 simp (disch := omega) only [↓RA, RB, simprocAttr, g0]
 refine (sR H).eNew 4 [(.string o.name), o.rv, o.dv, o.cv] rfl rfl (by simp [OC, ((sR H).sl ho.1).cells.2.1, ((sR H).sl ho.2.2.1).cells.2.1, ((sR H).sl ho.2.2.2.2.1).cells.2.1]) mW fun A1 H1 hS1 => ?_
 simp only [RT] at hS1
 simp (disch := omega) only [↓RA, RB, simprocAttr, g1]
 refine hS1.eNew 3 [sv, (.int .u64 rg.cpl), (.int .u64 rg.off)] rfl rfl (by simp [OC, (hS1.sl hr.1).cells.2.1]) mP fun A2 H2 hS2 => ?_
 simp only [RT] at hS2
 simp (disch := omega) only [↓RA, RZ, simprocAttr]
 refine hS2.eNew 1 [(.slice none 0 0)] rfl rfl rfl a7d fun A3 H3 hS3 => ?_
 simp only [RT] at hS3
 simp (disch := omega) only [↓RA, RZ, simprocAttr, hn, hS3.ag 0 rfl, hS3.ag 1 rfl]
 have hS4 := hS3.nil 0
 simp only [RT] at hS4
 refine iJ (a2n o (ho.ab hS4) rg sv (hr.ab hS4)) ?_
 rintro r H4 ⟨A4, A5, rfl, hT1⟩
 have hS5 := hS4.trans hT1
 simp only [RT] at hS5
 simp (disch := omega) only [↓RA, simprocAttr]
 refine Wp.bl fun lrg1 hlrg1 => ?_
 have hnrg1 : lrg1.length = 18 := by rw [hlrg1]; simp (disch := omega) only [RB, simprocAttr, hn]
 have g4rg1 : get lrg1 4 = (.slice none 0 0) := by rw [hlrg1]; simp (disch := omega) only [RB, simprocAttr, hn]
 have g5rg1 : get lrg1 5 = (ptr A3 0 1) := by rw [hlrg1]; simp (disch := omega) only [RB, simprocAttr, hn]
 have gfrg1 : get lrg1 10 = .func (.func 136) #[] [(ptr A4 0 4), (ptr A5 0 3)].toArray := by rw [hlrg1]; simp (disch := omega) only [RB, simprocAttr, hn]
 clear hlrg1
 refine Wp.aZ gfrg1 fun rg1 hstrg1 hpdrg1 htmrg1 hpsrg1 hasrg1 hbdrg1 => ?_
 have hreqrg1 : ({ rg1 with state := .ready, pending := none } : Loop) = rg1 := by
  cases rg1
  simp only at hstrg1 hpdrg1
  subst hstrg1 hpdrg1
  rfl
 have hLprg1 := Lp.enter hS5 rg1
 generalize H4.cons (.loop rg1) = Hcrg1 at hLprg1 ⊢
 generalize H4.length = Lrg1 at hLprg1 ⊢
 refine (b0F o hf rg sv A4 A5 (.func (.yield Lrg1) #[] #[]) (fun d xs H1 => ∃ (ow : Value) (ps : List Pv), ps.map (·.l) = d.map (lI o rg) ∧ (∀ p ∈ ps, p.Ix H1 (fun B => (H.length ≤ B ∧ B ≠ Lrg1) ∧ nb [ptr A1 0 4, ptr A2 0 3, ptr A3 0 1, ow, ptr A4 0 4, ptr A5 0 3] B)) ∧
  Lp prog H Lrg1 rg1 H1 ([⟨ptr A1 0 4, 0, oC o⟩, ⟨ptr A2 0 3, 0, rC rg sv⟩, ⟨ptr A3 0 1, 0, [ow]⟩, ⟨ow, 1, ps.flatMap Pv.cells⟩, ⟨ptr A4 0 4, 0, oC o⟩, ⟨ptr A5 0 3, 0, rC rg sv⟩] ++ xs)) ⟨.slice none 0 0, [], rfl, by simp, ?_⟩ ?_ ?_ ?_ ?_).mono ?_
 ·rw [dr]
  exact hLprg1
 ·rintro d xs H1 ⟨ow, ps, he, hpx, h⟩
  have hs := h.left.st
  exact ⟨hs.var 4 rfl, ho.ab hs, hs.var 5 rfl, hr.ab hs, fun x hx => h.st.own x (eN _ hx)⟩
 ·rintro d xs H1 H2 ys ⟨ow, ps, he, hpx, h⟩ hT
  refine ⟨ow, ps, he, fun p hp => (hpx p hp).step (fun B hB hl => ⟨hT.ab B hl, hB⟩), ?_⟩
  have h3 := h.ext hT
  rwa [dD] at h3
 ·rintro d xs ys H1 ⟨ow, ps, he, hpx, h⟩
  rw [← dD] at h
  exact ⟨ow, ps, he, hpx, h.left⟩
 ·rintro d c e xs H1 H20 pv he ⟨ow, ps, hpl, hpx, hLp⟩ hT hx
  have hLpj := hLp.ext hT
  rw [dr] at hLpj
  have hpx2 : ∀ p ∈ ps, p.Ix H20 (fun B => (H.length ≤ B ∧ B ≠ Lrg1) ∧ nb [ptr A1 0 4, ptr A2 0 3, ptr A3 0 1, ow, ptr A4 0 4, ptr A5 0 3] B) := fun p hp => (hpx p hp).step (fun B hB hl => ⟨hT.ab B hl, hB⟩)
  have hLl : Lrg1 < H1.length := jG hLp.get
  have hHl : H.length ≤ H1.length := hLp.st.len
  have hpv : (⟨pv, lI o rg c⟩ : Pv).Ix H20 (fun B => (H.length ≤ B ∧ B ≠ Lrg1) ∧ nb [ptr A1 0 4, ptr A2 0 3, ptr A3 0 1, ow, ptr A4 0 4, ptr A5 0 3] B) :=
   Slx.step hx fun B hB hl => ⟨rfl, ⟨by omega, by omega⟩, (hLp.left.st.aJ (H' := H20) B hB hl).2⟩
  refine mS hLpj.get (by rw [hpsrg1]; rfl) hstrg1 ?_
  refine Wp.aE (l := put (put lrg1 (some 11) (.agg #[I c.1, I c.2])) (some 12) (pv)) hasrg1 (by rw [hpsrg1, htmrg1]; first | exact (kN ..).symm | rfl | simp [put, kN]) ?_
  simp (disch := omega) only [↓RA, RZ, simprocAttr, hnrg1]
  refine ⟨rg1, hLpj.get, hstrg1, ?_⟩
  have hYBs1 := hLpj.set (fun h => h) { rg1 with state := .busy }
  have hKBs1 : ∀ B, B ≠ Lrg1 → iP (hset H20 Lrg1 (.loop { rg1 with state := .busy })) B = iP H20 B := fun B h => iM _ (eH h)
  have hNBs1 : (hset H20 Lrg1 (.loop { rg1 with state := .busy })).length = H20.length := jA ..
  generalize hset H20 Lrg1 (.loop { rg1 with state := .busy }) = HBs1 at hYBs1 hKBs1 hNBs1 ⊢
  refine Wp.aE hbdrg1 rfl ?_
  have hZBs1 := hYBs1.left.st
  obtain ⟨Bs1, hBBs1, hS6⟩ := hZBs1.ax (os := [⟨ptr A1 0 4, 0, _⟩, ⟨ptr A2 0 3, 0, _⟩, ⟨ptr A3 0 1, 0, _⟩, ⟨ow, 1, _⟩, ⟨ptr A4 0 4, 0, _⟩, ⟨ptr A5 0 3, 0, _⟩])
  have hpn : ps.length ≤ 1024 := by
   have h1 := qL hf
   rw [he, dh] at h1
   have h2 := congrArg List.length hpl
   rw [dF, dF] at h2
   omega
  simp (disch := omega) only [↓RA, RZ, simprocAttr, hnrg1, g5rg1, hS6.ld 2 rfl]
  refine hS6.ai [pv] b9M c3I rfl rfl (by first | (simp [hx.1.cells.1]; done) | simp [Value.cells, hx.1.cells.1]) (by first | (simp [hx.1.cells.1]; done) | simp [Value.cells, hx.1.cells.1]) (by simp [hx.1.cells.2.1]) (by decide) (by decide) fun w1 H5 hS7 => ?_
  simp only [RT] at hS7
  simp (disch := omega) only [↓RA, RZ, simprocAttr, hnrg1]
  refine hS7.aq 3 rfl (hS7.rd 6 rfl) b9M (by rw [iK (n := 1) (cel := Pv.cells) (fun _ => rfl)]; simp; omega) fun w2 H6 hS8 => ?_
  simp only [RT] at hS8
  simp (disch := omega) only [↓RA, RB, simprocAttr, hnrg1, g5rg1]
  refine hS8.aa 2 rfl [w2] (by rw [(hS8.rd 3 rfl).cells.1]) (by simp [(hS8.rd 3 rfl).cells.2.1]) a7d (by simp) fun H7 hS9 => ?_
  simp only [RT] at hS9
  simp (disch := omega) only [↓RA, RC, simprocAttr]
  have hS10 := hS9.pick (os' := [⟨ptr A1 0 4, 0, _⟩, ⟨ptr A2 0 3, 0, _⟩, ⟨ptr A3 0 1, 0, _⟩, ⟨w2, 1, _⟩, ⟨ptr A4 0 4, 0, _⟩, ⟨ptr A5 0 3, 0, _⟩]) [0, 1, 2, 3, 4, 5] (by decide) rfl
  have hWBs1 := (hYBs1.aV (hBBs1 ▸ hS10)).set (fun h => h) rg1
  rw [← hreqrg1] at hWBs1
  have hk1 : Kept H20 (fun B => (H.length ≤ B ∧ B ≠ Lrg1) ∧ nb [ptr A1 0 4, ptr A2 0 3, ptr A3 0 1, ow, ptr A4 0 4, ptr A5 0 3] B) (hset H7 Lrg1 (.loop rg1)) (fun B => (H.length ≤ B ∧ B ≠ Lrg1) ∧ nb [ptr A1 0 4, ptr A2 0 3, ptr A3 0 1, w2, ptr A4 0 4, ptr A5 0 3] B) := by
   intro B hB hl
   have h2 := hS10.kept hBBs1 B hB.2 (by rw [hNBs1]; exact hl)
   refine ⟨?_, hB.1, h2.2⟩
   rw [iM _ (eH hB.1.2), h2.1, hKBs1 B hB.1.2]
  have hfin : ∃ (ow : Value) (ps : List Pv), ps.map (·.l) = (d ++ [c]).map (lI o rg) ∧ (∀ p ∈ ps, p.Ix (hset H7 Lrg1 (.loop rg1)) (fun B => (H.length ≤ B ∧ B ≠ Lrg1) ∧ nb [ptr A1 0 4, ptr A2 0 3, ptr A3 0 1, ow, ptr A4 0 4, ptr A5 0 3] B)) ∧
   Lp prog H Lrg1 rg1 (hset H7 Lrg1 (.loop rg1)) ([⟨ptr A1 0 4, 0, oC o⟩, ⟨ptr A2 0 3, 0, rC rg sv⟩, ⟨ptr A3 0 1, 0, [ow]⟩, ⟨ow, 1, ps.flatMap Pv.cells⟩, ⟨ptr A4 0 4, 0, oC o⟩, ⟨ptr A5 0 3, 0, rC rg sv⟩] ++ xs) := by
   refine ⟨w2, ps ++ [⟨pv, lI o rg c⟩], by rw [dA, dA, hpl]; rfl, ?_, ?_⟩
   ·intro p hp
    rcases dJ.1 hp with hp | hp
    ·exact (hpx2 p hp).step hk1
    ·rw [dC.1 hp]
     exact hpv.step hk1
   ·rw [show (ps ++ [(⟨pv, lI o rg c⟩ : Pv)]).flatMap Pv.cells = ps.flatMap Pv.cells ++ [pv] from by rw [dN]; rfl]
    exact hreqrg1 ▸ hWBs1
  rw [← hreqrg1] at hfin
  exact ⟨_, (hYBs1.aV (hBBs1 ▸ hS10)).get, rfl, hreqrg1 ▸ hfin⟩
 rintro _ H21 ⟨ow, ps, hpl, hpx, hLp2⟩
 rw [dr] at hLp2
 refine ⟨_, hLp2.get, (by rw [hstrg1]; exact fun h => by cases h), fun _ => ?_, fun c hc => by rw [hpdrg1] at hc; cases hc⟩
 have hAAf1 := (hLp2.set (fun h => h) { rg1 with state := .exhausted }).st
 have hKAf1 : ∀ B, B ≠ Lrg1 → iP (hset H21 Lrg1 (.loop { rg1 with state := .exhausted })) B = iP H21 B := fun B h => iM _ (eH h)
 generalize hset H21 Lrg1 (.loop { rg1 with state := .exhausted }) = HAf1 at hAAf1 hKAf1 ⊢
 simp (disch := omega) only [↓RA, RZ, simprocAttr, hnrg1, g5rg1, hAAf1.ld 2 rfl, c3i]
 exact ⟨ps, hpl, hAAf1.cj 3 rfl (fun _ => rfl), fun p hp => (hpx p hp).step (fun B hB hl => ⟨hKAf1 B hB.1.2, hB.1.1⟩), hAAf1.forget⟩
theorem Fn.tr {P : Program} {k : FuncId} {args : List Value} {R : Value → Heap → Prop} (h : Fn P k args H R) : Fn P k args H fun v H' => True ∧ R v H' := by
 simpa using h
theorem St.bV {P : Program} {H0 : Base} {os : List Ob} (hS : St P H0 H os) {t : TypeId} {size bytes : Nat} {K : Value → Heap → Prop} (ha : mH P t = some (size + 1, bytes)) (h : ∀ v H1, St P H0 H1 (os ++ [⟨v, size + 1, []⟩]) → K v H1) : rU P H t 0 [] K := by
 unfold mH at ha
 cases he : iI P t with
 | none => rw [he] at ha; cases ha
 | some elem =>
 rw [he] at ha
 simp only [da] at ha
 cases hsz2 : iD P elem with
 | none => rw [hsz2] at ha; cases ha
 | some sz =>
 rw [hsz2] at ha
 simp only [da] at ha
 cases hby : nT P elem with
 | none => rw [hby] at ha; cases ha
 | some by' =>
 rw [hby] at ha
 simp only [da] at ha
 cases hz2 : iX P elem with
 | none => rw [hz2] at ha; cases ha
 | some z =>
 rw [hz2] at ha
 simp only [da] at ha
 split at ha
 case isFalse => cases ha
 simp only [dE, gM] at ha
 obtain ⟨rfl, rfl⟩ := ha
 refine ⟨.slice (some ⟨H.length, 0, some 0⟩) 0 (size + 1), rM H elem [], ?_, h _ _ (hS.add ?_ ?_ ?_ ?_)⟩
 ·unfold zE
  simp only [he, hsz2, hz2, da]
  rw [if_pos (by simp)]
 ·rw [lJ]
  unfold OwnAt
  rw [if_neg (eO _)]
  exact .inr ⟨_, 0, elem, _, 0, [], 0, iQ H _, by simp, rfl, by simp, by simp, hsz2⟩
 ·rw [lJ]; simp [pI]
 ·rw [lJ]; exact fun B hB => jP _ hB
 ·intro B hB
  simp [kJ] at hB
  omega
theorem b7B (a : Addr) (m c : Nat) : kV prog .eql 27 27 false true (.slice (some a) m c) (.slice none 0 0) = some (.bool false) := by kernel_rfl
theorem a5J {v : Value} {a : Addr} {m c : Nat} (h : v = .slice (some a) m c) (K : Value → Prop) : lC prog .eql 27 27 false true v (.slice none 0 0) K = oL (.bool false) K := by
 subst h
 show jV (kV prog .eql 27 27 false true (.slice (some a) m c) (.slice none 0 0)) K = _
 rw [b7B]
 rfl
theorem Sl.cm {α : Type} {n : Nat} {cel : α → List Value} {v : Value} {xs : List α} (h : Sl n cel H v xs) (h0 : 0 < xs.length) : ∃ a m c, v = .slice (some a) m c := by
 rcases h.rd with ⟨_, h2⟩ | ⟨A, i, e, row, ty, rw, lo, ver, m, _, _, _, _, _, _, h7⟩
 ·have := congrArg List.length h2
  rw [iK h.hc, ey] at this
  have := h.pos
  have : 0 < xs.length * n := gV h0 h.pos
  omega
 ·exact ⟨_, _, _, h7⟩
theorem a7W (v : Value) (xs : List Nat) (hv : Sl 1 (one u64) H v xs) (hl : xs.length < 100000) (h0 : 0 < xs.length) : Fn prog 130 [v] H fun r H' => St prog H H' [⟨r, 1, xs.flatMap (one u64)⟩] := by
 refine .aY func130 rfl (by kernel_rfl) (m := 8) rfl fun l hn g0 => ?_
 obtain ⟨a, m, c, hvv⟩ := hv.cm h0
 simp (disch := omega) only [↓RA, RB, simprocAttr, hn, g0, a5J hvv]
 have hlen : (xs.flatMap (one u64)).length = xs.length := by rw [iK (n := 1) (fun _ => rfl)]; omega
 refine (sR H).bV a8h fun w1 H1 hS1 => ?_
 simp only [RT] at hS1
 simp (disch := omega) only [↓RA, RZ, simprocAttr, hn, g0]
 refine hS1.aq 0 rfl (hS1.sl hv).rd a8h (by rw [hlen]; simp; omega) fun w2 H2 hS2 => ?_
 simp only [RT] at hS2
 simp (disch := omega) only [↓RA, RB, simprocAttr, hn, c3b]
 exact hS2
theorem b9X (i : Nat) (hi : i < 64) : IntKind.wrap .u64 (1 * 2 ^ min i (IntKind.bits .u64)) = ((2 ^ i : Nat) : Int) := by
 have e : IntKind.bits .u64 = 64 := rfl
 rw [e, ff (by omega), Int.one_mul]
 have h1 : ((2 ^ i : Nat) : Int) = 2 ^ i := by simp
 rw [← h1]
 have h2 : 2 ^ i ≤ 2 ^ 63 := fz (by decide) (by omega)
 have h5 : ((2 ^ i : Nat) : Int) ≤ ((2 ^ 63 : Nat) : Int) := Int.ofNat_le.2 h2
 exact qR _ (Int.natCast_nonneg _) (Int.lt_of_le_of_lt h5 (by decide))
theorem c2g (n i : Nat) (hi : i < 64) : IntKind.wrap .u64 ((BitVec.ofInt (IntKind.bits .u64) (n : Int) &&& ~~~ BitVec.ofInt (IntKind.bits .u64) (IntKind.wrap .u64 (1 * 2 ^ min i (IntKind.bits .u64)))).toNat : Int) = ((tN n i : Nat) : Int) := by
 rw [b9X i hi]
 have e : (BitVec.ofInt (IntKind.bits .u64) (n : Int) &&& ~~~ BitVec.ofInt (IntKind.bits .u64) ((2 ^ i : Nat) : Int)).toNat = tN n i := by
  show (BitVec.ofInt 64 (n : Int) &&& ~~~ BitVec.ofInt 64 ((2 ^ i : Nat) : Int)).toNat = tN n i
  rw [fA, fA]
  rfl
 rw [e]
 have : tN n i < 2 ^ 64 := BitVec.isLt _
 have h3 : 2 ^ 64 = 18446744073709551616 := rfl
 exact qR _ (by omega) (by omega)
theorem a4X (n : Nat) (i : Int) : tN n i < 18446744073709551616 := BitVec.isLt _
def Ctl.cP (c : Ctl) (rg : Reg) : Prop := (c.kind = 1 → 0 ≤ c.dv ∧ c.dv < rg.stops.length ∧ 0 ≤ c.ix ∧ c.ix < 64) ∧ (c.kind = 2 → 0 ≤ c.ix ∧ c.ix < 64) ∧ (c.kind ≠ 1 → c.kind ≠ 2 → 0 ≤ c.dv ∧ c.dv < 64)
theorem b0N (rg : Reg) (sv : Value) (hr : rg.In H sv) (h0 : 0 < rg.stops.length) (h1 : rg.stops.length < 100000) (c : Ctl) (hc : c.cP rg) :
 Fn prog 132 [.agg #[sv, .int .u64 rg.cpl, .int .u64 rg.off], .agg #[I c.kind, I c.dv, I c.ix]] H fun r H' => ∃ nv, r = .agg #[nv, .int .u64 (kW rg c).cpl, .int .u64 (kW rg c).off] ∧ St prog H H' [⟨nv, 1, (kW rg c).stops.flatMap (one u64)⟩] := by
 refine .aD func132 rfl (by kernel_rfl) (m := 41) rfl fun l hn g0 g1 => ?_
 simp (disch := omega) only [↓RA, RB, simprocAttr, g0]
 refine (sR H).eNew 3 [sv, (.int .u64 rg.cpl), (.int .u64 rg.off)] rfl rfl (by simp [OC, ((sR H).sl hr.1).cells.2.1]) mP fun A1 H1 hS1 => ?_
 simp only [RT] at hS1
 simp (disch := omega) only [↓RA, RB, simprocAttr, g1]
 refine hS1.eNew 3 [I c.kind, I c.dv, I c.ix] rfl rfl rfl a0L fun A2 H2 hS2 => ?_
 simp only [RT] at hS2
 simp (disch := omega) only [↓RA, RZ, simprocAttr]
 refine hS2.eNew 3 [(.slice none 0 0), (.int .u64 0), (.int .u64 0)] rfl rfl rfl mP fun A3 H3 hS3 => ?_
 simp only [RT] at hS3
 simp (disch := omega) only [↓RA, RZ, simprocAttr, hn, hS3.ld 0 rfl]
 refine iJ ((a7W sv rg.stops (hS3.sl hr.1) h1 h0).tr) ?_
 rintro r H4 ⟨-, hT1⟩
 have hS4 := hS3.trans hT1
 simp only [RT] at hS4
 simp (disch := omega) only [↓RA, RZ, simprocAttr, hn]
 refine hS4.aa 0 rfl [r] (by rw [(hS4.rd 3 rfl).cells.1]) (by simp [(hS4.rd 3 rfl).cells.2.1]) b7b (by simp) fun H5 hS5 => ?_
 simp only [RT] at hS5
 simp (disch := omega) only [↓RA, RZ, simprocAttr, hn, hS5.ld 1 rfl]
 refine iA (fun k1 => ?_) (fun k1 => ?_)
 ·obtain ⟨hd0, hd1, hi0, hi1⟩ := hc.1 k1
  obtain ⟨d, hd⟩ : ∃ d : Nat, c.dv = d := ⟨c.dv.toNat, by omega⟩
  obtain ⟨i, hi⟩ : ∃ i : Nat, c.ix = i := ⟨c.ix.toNat, by omega⟩
  have e1 := c2g (iB rg.stops d) i (by omega)
  simp only [hd, hi] at hS5
  simp (disch := omega) only [↓RA, RZ, simprocAttr, k1]
  refine Wp.drw jZ (by kernel_rfl) ?_
  simp (disch := omega) only [↓RA, RZ, simprocAttr, hn, hS5.ld 0 rfl, hS5.ld 1 rfl, (hS5.av 3 rfl (fun _ => rfl)).idx, (hS5.av 3 rfl (fun _ => rfl)).ld, one, u64, k1, e1, one, u64]
  refine hS5.aR 3 rfl [(.int .u64 (tN (iB rg.stops d) i : Nat))] rfl rfl a5A (by simp) (by have h : (rg.stops.flatMap (one u64)).length = rg.stops.length := (iK (n := 1) (fun _ => rfl) _).trans (by omega); rw [h]; simp; omega) fun H6 hS6 => ?_
  simp only [RT] at hS6
  simp (disch := omega) only [↓RA, RZ, simprocAttr, hn, hS6.ag 0 rfl]
  refine hS6.aa 2 rfl [r, (.int .u64 rg.cpl), (.int .u64 rg.off)] rfl (by simp [OC, (hS6.rd 3 rfl).cells.2.1]) mP (by simp) fun H7 hS7 => ?_
  simp only [RT] at hS7
  simp (disch := omega) only [↓RA, RZ, simprocAttr, hn, b5y, hS7.ag 2 rfl]
  refine ⟨r, by rw [kW, if_pos k1], ?_⟩
  have e2 : (kW rg c).stops.flatMap (one u64) = (rg.stops.flatMap (one u64)).set d (.int .u64 (tN (iB rg.stops d) i : Nat)) := by
   rw [kW, if_pos k1, a1L, a1L, hd, hi]
   show (rg.stops.set d _).map u64 = _
   rw [fN]
   rfl
  rw [e2]
  exact hS7.pick [3] (by decide) rfl
 simp (disch := omega) only [↓RA, RZ, simprocAttr, hn, k1]
 refine iA (fun k2 => ?_) (fun k2 => ?_)
 ·obtain ⟨hi0, hi1⟩ := hc.2.1 k2
  obtain ⟨i, hi⟩ : ∃ i : Nat, c.ix = i := ⟨c.ix.toNat, by omega⟩
  have e1 := c2g rg.cpl i (by omega)
  simp only [hi] at hS5
  simp (disch := omega) only [↓RA, RZ, simprocAttr, k2]
  refine Wp.drw jZ (by kernel_rfl) ?_
  simp (disch := omega) only [↓RA, RZ, simprocAttr, hn, hS5.ld 0 rfl, hS5.ld 1 rfl, k2, e1]
  refine hS5.aa 0 rfl [_] rfl rfl a5A (by simp) fun H8 hS8 => ?_
  simp only [RT] at hS8
  simp (disch := omega) only [↓RA, RZ, simprocAttr, hn, hS8.ag 0 rfl]
  refine hS8.aa 2 rfl [r, _, (.int .u64 rg.off)] rfl (by simp [OC, (hS8.rd 3 rfl).cells.2.1]) mP (by simp) fun H9 hS9 => ?_
  simp only [RT] at hS9
  simp (disch := omega) only [↓RA, RZ, simprocAttr, hn, b5y, hS9.ag 2 rfl]
  refine ⟨r, by rw [kW, if_neg k1, if_pos k2, hi], ?_⟩
  have e2 : (kW rg c).stops = rg.stops := by rw [kW, if_neg k1, if_pos k2]
  rw [e2]
  exact hS9.pick [3] (by decide) rfl
 obtain ⟨hi0, hi1⟩ := hc.2.2 k1 k2
 obtain ⟨i, hi⟩ : ∃ i : Nat, c.dv = i := ⟨c.dv.toNat, by omega⟩
 have e1 := c2g rg.off i (by omega)
 simp only [hi] at hS5
 simp (disch := omega) only [↓RA, RZ, simprocAttr, k1, k2]
 refine Wp.drw jZ (by kernel_rfl) ?_
 simp (disch := omega) only [↓RA, RZ, simprocAttr, hn, hS5.ld 0 rfl, hS5.ld 1 rfl, e1]
 refine hS5.aa 0 rfl [_] rfl rfl a5A (by simp) fun H10 hS10 => ?_
 simp only [RT] at hS10
 simp (disch := omega) only [↓RA, RZ, simprocAttr, hn, hS10.ag 0 rfl]
 refine hS10.aa 2 rfl [r, (.int .u64 rg.cpl), _] rfl (by simp [OC, (hS10.rd 3 rfl).cells.2.1]) mP (by simp) fun H11 hS11 => ?_
 simp only [RT] at hS11
 simp (disch := omega) only [↓RA, RZ, simprocAttr, hn, b5y, hS11.ag 2 rfl]
 refine ⟨r, by rw [kW, if_neg k1, if_neg k2, hi], ?_⟩
 have e2 : (kW rg c).stops = rg.stops := by rw [kW, if_neg k1, if_neg k2]
 rw [e2]
 exact hS11.pick [3] (by decide) rfl
theorem wU {α : Type} [Inhabited α] {xs ys : List α} (hl : xs.length = ys.length) (h : ∀ j, j < xs.length → iB xs j = iB ys j) : xs = ys := by
 apply List.ext_getElem hl
 intro j h1 h2
 have := h j h1
 rwa [jR xs j h1, jR ys j h2] at this
theorem b3V (v w : Value) (xs ys : List Ct) (hv : Sl 2 jT H v xs) (hw : Sl 2 jT H w ys) (hl : xs.length < 1000000000) (hl2 : ys.length < 1000000000) :
 Fn prog 27 [v, w] H fun r H' => r = .bool (decide (xs = ys)) ∧ St prog H H' [] := by
 refine .aD func27 rfl (by kernel_rfl) (m := 26) rfl fun l hn g0 g1 => ?_
 simp (disch := omega) only [↓RA, RZ, simprocAttr, hn, g0, g1, ((sR H).sl hv).len, ((sR H).sl hw).len]
 refine iA (fun h1 => ?_) (fun h1 => ?_)
 ·simp (disch := omega) only [↓RA, RZ, simprocAttr, hn, c2s, h1]
  exact ⟨by rw [decide_eq_false]; intro e; rw [e] at h1; exact h1 rfl, (sR H)⟩
 simp (disch := omega) only [↓RA, RZ, simprocAttr, hn, g0, ((sR H).sl hv).len, h1]
 refine Wp.al (fun n l H' => l.length = 26 ∧ get l 0 = v ∧ get l 1 = w ∧ get l 12 = I xs.length ∧ ∃ (j : Nat), (n + j = xs.length ∧ ∀ q, q < j → iB xs q = iB ys q) ∧ get l 13 = I j ∧ St prog H H' []) xs.length ?_ ?_
 ·simp (disch := omega) only [RB, RC, simprocAttr, hn, g0, g1]
  exact ⟨0, ⟨by omega, fun q hq => absurd hq (dL _)⟩, rfl, (sR H)⟩
 rintro n l H1 ⟨hn, g0, g1, g12, j, ⟨hj,hz⟩, g13, hS1⟩
 simp (disch := omega) only [↓RA, RB, simprocAttr, hn, g12, g13]
 refine iA (fun q1 => ?_) (fun q1 => ?_)
 ·simp (disch := omega) only [↓RA, RZ, simprocAttr, hn, g13, q1]
  refine Wp.drw jZ (by kernel_rfl) ?_
  simp (disch := omega) only [↓RA, RZ, simprocAttr, hn, g0, g1, (hS1.sl hv).idx, (hS1.sl hv).ag, jT, (hS1.sl hw).idx, (hS1.sl hw).ag]
  refine iA (fun q2 => ?_) (fun q2 => ?_)
  ·simp (disch := omega) only [↓RA, RZ, simprocAttr, hn, c2s, q2]
   refine ⟨?_, hS1⟩
   rw [decide_eq_false]
   intro e
   rw [e] at q2
   exact q2 ⟨rfl, rfl⟩
  have q3 := dG.1 q2
  simp (disch := omega) only [↓RA, RZ, simprocAttr, hn, g0, g1, g12, g13, q2]
  exact ⟨n - 1, by omega, j + 1, ⟨by omega, fun q hq => by rcases du.1 hq with e | e; (· exact hz q e); (· rw [e]; exact gz q3.1 q3.2)⟩, by simp, hS1⟩
 simp (disch := omega) only [↓RA, RZ, simprocAttr, hn, c2s, q1]
 exact ⟨by rw [decide_eq_true]; exact wU (by omega) fun q hq => hz q (by omega), hS1⟩
theorem b2j (v w : Value) (xs ys : List Ct) (hv : Sl 2 jT H v xs) (hw : Sl 2 jT H w ys) (hl : xs.length < 1000000000) (hl2 : ys.length < 1000000000) :
 Fn prog 183 [v, w] H fun r H' => r = .bool (decide (xs = ys)) ∧ St prog H H' [] := by
 refine .aD func183 rfl (by kernel_rfl) (m := 8) rfl fun l hn g0 g1 => ?_
 simp (disch := omega) only [↓RA, RZ, simprocAttr, hn, g0, g1]
 refine (sR H).cF (b3V v w xs ys ((sR H).sl hv) ((sR H).sl hw) hl hl2) fun H1 hS1 => ?_
 simp (disch := omega) only [↓RA, RZ, simprocAttr, hn, c2Q]
 exact hS1
def Pv.In (H : Heap) (p : Pv) : Prop := Sl 2 jT H p.v p.l
theorem b9q (v w : Value) (ps qs : List Pv) (hv : Sl 1 Pv.cells H v ps) (hw : Sl 1 Pv.cells H w qs) (hp : ∀ p ∈ ps, p.In H) (hq : ∀ p ∈ qs, p.In H) (hl : ps.length < 1000000000) (hl2 : qs.length < 1000000000) (hb : ∀ p ∈ ps, p.l.length < 1000000000) (hb2 : ∀ p ∈ qs, p.l.length < 1000000000) :
 Fn prog 182 [v, w, .func (.func 183) #[] #[]] H fun r H' => r = .bool (decide (ps.map (·.l) = qs.map (·.l))) ∧ St prog H H' [] := by
 have hne : ∀ j, j < ps.length → j < qs.length → (iB ps j).l ≠ (iB qs j).l → ps.map (·.l) ≠ qs.map (·.l) := fun j h1 h2 hne e => by
  apply hne
  have := congrArg (fun l => iB l j) e
  simp only at this
  rwa [vD _ h1, vD _ h2] at this
 refine .bO func182 rfl (by kernel_rfl) (m := 32) rfl fun l hn g0 g1 g2 => ?_
 simp (disch := omega) only [↓RA, RZ, simprocAttr, hn, g0, g1, ((sR H).sl hv).len, ((sR H).sl hw).len]
 refine iA (fun h1 => ?_) (fun h1 => ?_)
 ·simp (disch := omega) only [↓RA, RZ, simprocAttr, hn, b4w, h1]
  refine ⟨?_, (sR H)⟩
  rw [decide_eq_false]
  intro e
  have := congrArg List.length e
  rw [dF, dF] at this
  omega
 simp (disch := omega) only [↓RA, RZ, simprocAttr, hn, g0, ((sR H).sl hv).len, h1]
 refine Wp.al (fun n l H' => l.length = 32 ∧ get l 1 = w ∧ get l 2 = (.func (.func 183) #[] #[]) ∧ get l 15 = v ∧ get l 16 = I ps.length ∧ ∃ (j : Nat), (n + j = ps.length ∧ ∀ q, q < j → (iB ps q).l = (iB qs q).l) ∧ get l 17 = I j ∧ St prog H H' []) ps.length ?_ ?_
 ·simp (disch := omega) only [RB, RC, simprocAttr, hn, g1, g2]
  exact ⟨0, ⟨by omega, fun q hq => absurd hq (dL _)⟩, rfl, (sR H)⟩
 rintro n l H1 ⟨hn, g1, g2, g15, g16, j, ⟨hj,hz⟩, g17, hS1⟩
 simp (disch := omega) only [↓RA, RB, simprocAttr, hn, g16, g17]
 refine iA (fun q1 => ?_) (fun q1 => ?_)
 ·simp (disch := omega) only [↓RA, RZ, simprocAttr, hn, g1, g2, g15, g17, (hS1.sl hv).idx, (hS1.sl hv).ld, Pv.cells, (hS1.sl hw).idx, (hS1.sl hw).ld, q1]
  refine hS1.cF (b2j (iB ps j).v (iB qs j).v (iB ps j).l (iB qs j).l (hS1.sl (hp _ (iE (by omega)))) (hS1.sl (hq _ (iE (by omega)))) (hb _ (iE (by omega))) (hb2 _ (iE (by omega)))) fun H2 hS2 => ?_
  simp (disch := omega) only [↓RA, RZ, simprocAttr, hn, q1]
  refine jE (fun q2 => ?_) (fun q2 => ?_)
  ·simp (disch := omega) only [↓RA, RZ, simprocAttr, hn, b4w, q1, q2]
   exact ⟨by rw [decide_eq_false (hne j (by omega) (by omega) (by simpa using q2))], hS2⟩
  simp (disch := omega) only [↓RA, RZ, simprocAttr, hn, g1, g2, g15, g16, g17, q1, q2]
  exact ⟨n - 1, by omega, j + 1, ⟨by omega, fun q hq => by rcases du.1 hq with e | e; (· exact hz q e); (· rw [e]; simpa using q2)⟩, by simp, hS2⟩
 simp (disch := omega) only [↓RA, RZ, simprocAttr, hn, b4w, q1]
 refine ⟨?_, hS1⟩
 rw [decide_eq_true]
 refine wU (by simp; omega) fun q hq => ?_
 rw [dF] at hq
 rw [vD _ hq, vD _ (by omega)]
 exact hz q (by omega)
theorem b9C (v : Value) (xs : List Ctl) (hv : Sl 3 Ctl.cells H v xs) (hl : xs.length < 1000000000) (k : FuncId) (caps : List Value) (p : Nat → Bool)
 (hf : ∀ j H1, j < xs.length → St prog H H1 [] → Fn prog k (.agg #[I (iB xs j).kind, I (iB xs j).dv, I (iB xs j).ix] :: caps) H1 fun r H2 => r = .bool (p j) ∧ St prog H1 H2 []) :
 Fn prog 227 [v, .func (.func k) #[] caps.toArray] H fun r H' => r = I (mZ p xs.length) ∧ St prog H H' [] := by
 refine .aD func227 rfl (by kernel_rfl) (m := 19) rfl fun l hn g0 g1 => ?_
 simp (disch := omega) only [↓RA, RZ, simprocAttr, hn, g0, ((sR H).sl hv).len]
 refine Wp.al (fun n l H' => l.length = 19 ∧ get l 0 = v ∧ get l 1 = .func (.func k) #[] caps.toArray ∧ get l 7 = I xs.length ∧ ∃ (j : Nat), (n + j = xs.length ∧ ∀ q, q < j → p q = false) ∧ get l 8 = I j ∧ St prog H H' []) xs.length ?_ ?_
 ·simp (disch := omega) only [RB, RC, simprocAttr, hn, g0, g1]
  exact ⟨0, ⟨by omega, fun q hq => absurd hq (dL _)⟩, rfl, (sR H)⟩
 rintro n l H1 ⟨hn, g0, g1, g7, j, ⟨hi,h0⟩, g8, hS1⟩
 simp (disch := omega) only [↓RA, RB, simprocAttr, hn, g7, g8]
 refine iA (fun h => ?_) (fun h => ?_)
 ·simp (disch := omega) only [↓RA, RZ, simprocAttr, hn, g0, g1, g8, (hS1.sl hv).idx, (hS1.sl hv).ag, Ctl.cells, h]
  refine hS1.cF (hf j _ (by omega) hS1) fun H2 hS2 => ?_
  simp (disch := omega) only [↓RA, RZ, simprocAttr, hn, h]
  refine jE (fun hp => ?_) (fun hp => ?_)
  ·simp (disch := omega) only [↓RA, RZ, simprocAttr, hn, b9N, h, hp]
   exact ⟨by rw [vG p xs.length j (by omega) hp h0], hS2⟩
  simp (disch := omega) only [↓RA, RZ, simprocAttr, hn, g0, g1, g7, g8, h, hp]
  exact ⟨n - 1, by omega, j + 1, ⟨by omega, fun q hq => by rcases du.1 hq with e | e; (· exact h0 q e); (· rw [e]; exact hp)⟩, by simp, hS2⟩
 simp (disch := omega) only [↓RA, RZ, simprocAttr, hn, b9N, h]
 exact ⟨by rw [vA p xs.length fun q hq => h0 q (by omega)], hS1⟩
theorem c2P : a4g prog 164 = some (2 + 1) := by kernel_rfl
theorem rH (a b : List Ctl) : mB (a ++ b) = mB a ++ mB b := dN
theorem b8a {B : Base} {v : Value} {xs : List Ctl} (hS : St prog B H [⟨v, 3, mB xs⟩]) (hl : xs.length < 100000) (k : FuncId) (caps : List Value) (p : Ctl → Bool)
 (hf : ∀ c ∈ xs, ∀ {H1 : Heap} {os : List Ob}, St prog B H1 os → Fn prog k (.agg #[I c.kind, I c.dv, I c.ix] :: caps) H1 fun r H2 => r = .bool (p c) ∧ St prog H1 H2 []) :
 Fn prog 180 [v, .func (.func k) #[] caps.toArray] H fun r H' => ∃ rest : List Value, (∀ b, kJ r = some b → kJ v = some b) ∧ (∀ H2, RdAt H2 v 3 (mB (xs.filter fun c => !p c) ++ rest) → RdAt H2 r 3 (mB (xs.filter fun c => !p c))) ∧
  St prog B H' [⟨v, 3, mB (xs.filter fun c => !p c) ++ rest⟩] := by
 refine .aD func180 rfl (by kernel_rfl) (m := 42) rfl fun l hn g0 g1 => ?_
 simp (disch := omega) only [↓RA, RZ, simprocAttr, hn, g0, g1]
 refine hS.cF (b9C v xs (hS.av 0 rfl (fun _ => rfl)) (by omega) k caps (fun j => p (iB xs j)) (fun j H1 hj hS' => hf _ (iE hj) (hS.trans hS'))) fun H1 hS1 => ?_
 simp (disch := omega) only [↓RA, RB, simprocAttr, hn]
 refine iA (fun h1 => ?_) (fun h1 => ?_)
 ·have hno : ∀ c ∈ xs, p c = false := by
   intro c hc
   obtain ⟨j, hj, rfl⟩ := dR.1 hc
   have h2 : ¬ 0 ≤ mZ (fun j => p (iB xs j)) xs.length := by omega
   rw [xN] at h2
   rw [← jR xs j hj, ← eM]
   exact fun hp => h2 ⟨j, hj, hp⟩
  have hfe : (xs.filter fun c => !p c) = xs := gL.2 fun c hc => by rw [hno c hc]; rfl
  simp (disch := omega) only [↓RA, RZ, simprocAttr, hn, g0, c0l, h1]
  exact ⟨[], fun _ h => h, by rw [hfe, dr]; exact fun _ h => h, by rw [hfe, dr]; exact hS1⟩
 have hge : 0 ≤ mZ (fun j => p (iB xs j)) xs.length := by
  unfold mZ at h1 ⊢
  split
  ·omega
  ·rename_i hq
   rw [hq] at h1
   exact absurd rfl h1
 obtain ⟨i0, hi0⟩ : ∃ i0 : Nat, mZ (fun j => p (iB xs j)) xs.length = i0 := ⟨_, (fi hge).symm⟩
 have hi0l := xX hi0
 have hi0b : (∀ j, j < i0 → p (iB xs j) = false) ∧ p (iB xs i0) = true := by
  unfold mZ at hi0
  split at hi0
  ·rename_i q hq
   have hqi : q = i0 := by omega
   subst hqi
   rw [List.find?_range_eq_some] at hq
   exact ⟨fun j hj => by have := hq.2.2 j hj; simpa using this, hq.1⟩
  ·omega
 have hD0 : ((xs.take (i0 + 1)).filter fun c => !p c) = xs.take i0 := by
  rw [kI xs i0 hi0l, ew]
  have e1 : ([iB xs i0].filter fun c => !p c) = [] := by simp [hi0b.2]
  rw [e1, dr]
  refine gL.2 fun c hc => ?_
  obtain ⟨j, hj, rfl⟩ := dR.1 hc
  have hj2 : j < i0 := by rw [eI] at hj; omega
  have := hi0b.1 j hj2
  rw [jR xs j (by omega)] at this
  rw [List.getElem_take, this]
  rfl
 simp (disch := omega) only [↓RA, RZ, simprocAttr, hn, hi0]
 have hrow : St prog B H1 [⟨v, 3, mB (((xs.take (i0 + 1)).filter fun c => !p c) ++ xs.drop ((xs.take (i0 + 1)).filter fun c => !p c).length)⟩] := by
  rw [hD0, eI, ff (by omega), fL]
  exact hS1
 have hlt0 : ((xs.take (i0 + 1)).filter fun c => !p c).length < i0 + 1 := by
  rw [hD0, eI]
  omega
 refine Wp.al (fun n l H' => l.length = 42 ∧ get l 0 = v ∧ get l 1 = .func (.func k) #[] caps.toArray ∧ ∃ j : Nat, (n + j = xs.length ∧ ((xs.take j).filter fun c => !p c).length < j) ∧ get l 5 = I ((xs.take j).filter fun c => !p c).length ∧ get l 6 = I j ∧ St prog B H' [⟨v, 3, mB (((xs.take j).filter fun c => !p c) ++ xs.drop ((xs.take j).filter fun c => !p c).length)⟩]) (xs.length - (i0 + 1)) ?_ ?_
 ·simp (disch := omega) only [RB, RC, simprocAttr, hn, g0, g1]
  refine ⟨i0 + 1, ⟨by omega, hlt0⟩, ?_, by simp, hrow⟩
  rw [hD0, eI, ff (by omega)]
 clear hrow hlt0
 rintro n l H9 ⟨hn, g0, g1, j, ⟨hj, hlt⟩, g5, g6, hS9⟩
 have hsucc : j < xs.length → ((xs.take (j + 1)).filter fun c => !p c) = ((xs.take j).filter fun c => !p c) ++ (if p (iB xs j) = true then [] else [iB xs j]) := fun h => by
  rw [kI xs j h, ew]
  congr 1
  by_cases hp : p (iB xs j) = true
  ·rw [if_pos hp]; simp [hp]
  ·rw [if_neg hp]; simp [hp]
 have hall : j = xs.length → ((xs.take j).filter fun c => !p c) = xs.filter fun c => !p c := fun h => by rw [h, ek]
 generalize hD : ((xs.take j).filter fun c => !p c) = D at g5 hlt hS9 hsucc hall
 have hjl : j ≤ xs.length := by omega
 have hrl : (D ++ xs.drop D.length).length = xs.length := by rw [dh, eD]; omega
 have hat : ∀ q, D.length ≤ q → iB (D ++ xs.drop D.length) q = iB xs q := fun q hq => by
  unfold iB
  rw [dg, dZ hq, dH, dg]
  congr 2; omega
 have hatj := hat j (by omega)
 simp (disch := omega) only [↓RA, RZ, simprocAttr, hn, g0, g6, (hS9.av 0 rfl (fun _ => rfl)).len, hrl]
 refine iA (fun h4 => ?_) (fun h4 => ?_)
 ·have hjx : j < xs.length := by omega
  have hsu := hsucc hjx
  simp (disch := omega) only [↓RA, RZ, simprocAttr, hn, g0, g6, (hS9.av 0 rfl (fun _ => rfl)).idx, (hS9.av 0 rfl (fun _ => rfl)).ag, Ctl.cells, hatj, h4]
  refine hS9.eNew 3 [I 0, I 0, I 0] rfl rfl rfl a0L fun A1 H2 hS2 => ?_
  simp only [RT] at hS2
  simp (disch := omega) only [↓RA, RZ, simprocAttr, hn, h4]
  refine hS2.aa 1 rfl [I (iB xs j).kind, I (iB xs j).dv, I (iB xs j).ix] rfl rfl a0L (by simp) fun H3 hS3 => ?_
  simp only [RT] at hS3
  simp (disch := omega) only [↓RA, RZ, simprocAttr, hn, g1, hS3.ag 1 rfl, h4]
  refine hS3.cF (hf (iB xs j) (iE hjx) hS3) fun H4 hS4 => ?_
  simp (disch := omega) only [↓RA, RZ, simprocAttr, hn, h4]
  refine jE (fun h5 => ?_) (fun h5 => ?_)
  ·have hpf : ¬ p (iB xs j) = true := by simpa using h5
   rw [if_neg hpf] at hsu
   simp (disch := omega) only [↓RA, RZ, simprocAttr, hn, g0, g5, hS4.ag 1 rfl, (hS4.av 0 rfl (fun _ => rfl)).idx, h4, h5]
   refine hS4.aR 0 rfl [I (iB xs j).kind, I (iB xs j).dv, I (iB xs j).ix] rfl rfl a0L (by simp) (by rw [mE, hrl]; simp; omega) fun H5 hS5 => ?_
   simp only [RT] at hS5
   simp (disch := omega) only [↓RA, RZ, simprocAttr, hn, g0, g1, g5, g6, h4, h5]
   refine ⟨n - 1, by omega, j + 1, ?_⟩
   rw [hsu]
   refine ⟨⟨by omega, by simp; omega⟩, by simp, by simp, ?_⟩
   have e3 : mB (D ++ [iB xs j] ++ xs.drop (D ++ [iB xs j]).length) = (((mB (D ++ xs.drop D.length)).set (D.length * 3) (I (iB xs j).kind)).set (D.length * 3 + 1) (I (iB xs j).dv)).set (D.length * 3 + 1 + 1) (I (iB xs j).ix) := by
    have hx : xs.drop D.length = iB xs D.length :: xs.drop (D.length + 1) := by
     rw [jR xs _ (by omega)]
     exact eQ (by omega)
    rw [hx, dh, gp, rH, rH, rH]
    have e4 : mB (iB xs D.length :: xs.drop (D.length + 1)) = I (iB xs D.length).kind :: I (iB xs D.length).dv :: I (iB xs D.length).ix :: mB (xs.drop (D.length + 1)) := rfl
    have e5 : mB [iB xs j] = [I (iB xs j).kind, I (iB xs j).dv, I (iB xs j).ix] := rfl
    have e6 : (mB D).length = D.length * 3 := mE D
    rw [e4, e5, dX _ _ (by omega), dX _ _ (by omega), dX _ _ (by omega), e6, gF, fy, show D.length * 3 + 1 + 1 - D.length * 3 = 2 from by omega]
    simp
   rw [e3]
   exact hS5.pick [0] (by decide) rfl
  have hpt : p (iB xs j) = true := by simpa using h5
  rw [if_pos hpt, dr] at hsu
  simp (disch := omega) only [↓RA, RZ, simprocAttr, hn, g0, g1, g5, g6, h4, h5]
  refine ⟨n - 1, by omega, j + 1, ?_⟩
  rw [hsu]
  exact ⟨⟨by omega, by omega⟩, rfl, by simp, hS4.pick [0] (by decide) rfl⟩
 have hje : j = xs.length := by omega
 have hDe := hall hje
 have hcl : (mB (D ++ xs.drop D.length)).length = xs.length * (2 + 1) := by rw [mE, hrl]
 have hDn : D.length ≤ xs.length := by omega
 simp (disch := omega) only [↓RA, RZ, simprocAttr, hn, g0, g5, (hS9.av 0 rfl (fun _ => rfl)).aL, hrl, h4]
 rw [show ((xs.length : Int) - D.length).toNat = xs.length - D.length from by omega]
 refine hS9.bq (size := 2) 0 rfl D.length (xs.length - D.length) (by rw [hcl]; omega) (by
  intro e
  have h2 : (mB (D ++ xs.drop D.length)).length = 0 := by rw [e]; rfl
  rw [hcl] at h2; omega) c2P fun z H3 hz hSc => ?_
 simp only [RT] at hSc
 have e3 : iZ (mB (D ++ xs.drop D.length)) (D.length * 3) z = mB D ++ z := by
  rw [rH, show D.length * 3 = (mB D).length from (mE D).symm, mD z (mB D) (mB (xs.drop D.length)) (by rw [mE, eD]; omega)]
  rw [gh (by rw [mE, eD]; omega), dr]
 rw [show D.length * (2 + 1) = D.length * 3 from rfl, e3] at hSc
 have hw : RdAt H3 v (2 + 1) (mB D ++ z) := hSc.rd 0 rfl
 have hwl : (mB D ++ z).length = xs.length * (2 + 1) := by rw [dh, mE, hz]; omega
 simp (disch := omega) only [↓RA, RZ, simprocAttr, hn, g0, g5, hw.aM hwl, c0l, h4]
 refine ⟨z, fun b h => tW h, fun H2 h2 => ?_, by rw [← hDe]; exact hSc⟩
 rw [← hDe] at h2 ⊢
 have h5 := RdAt.sub h2 0 D.length (by rw [hwl]; omega) (by
  intro e
  rw [e] at hwl
  simp at hwl; omega)
 rw [Nat.zero_mul, gY, show D.length * 3 = (mB D).length from (mE D).symm, List.take_left' rfl] at h5
 exact h5
theorem a4m (rg : Reg) (c : Ctl) : (kW rg c).stops.length = rg.stops.length := by
 unfold kW
 split
 ·simp
 ·split <;> rfl
theorem yH {rg : Reg} (h : rg.Ok) (c : Ctl) : (kW rg c).Ok := by
 obtain ⟨h1, h2, h3, h4⟩ := h
 unfold kW
 split
 ·refine ⟨by simpa using h1, ?_, h3, h4⟩
  intro x hx
  rcases List.mem_or_eq_of_mem_set hx with h | h
  ·exact h2 x h
  ·rw [h]; exact a4X _ _
 ·split
  ·exact ⟨h1, h2, a4X _ _, h4⟩
  ·exact ⟨h1, h2, h3, a4X _ _⟩
theorem a2y {o : Org} (hf : o.Fine) (rg : Reg) (c : Ct) : (lI o rg c).length ≤ 1000000 := by
 unfold lI
 split
 ·rename_i h
  have hc := (a3I h).2
  unfold uH a5v
  refine dI (b4X _) ?_
  rw [oU]
  have hm : ∀ x ∈ [c], rO o x = true := by intro x hx; rw [dC.1 hx]; exact hc
  have h1 := uW hf rg (tY o rg [c]) (a2P hm)
  have h2 := a2D hf (rg := rg) (l := [c]) (by simp)
  omega
 ·simp
theorem a4l {o : Org} (hf : o.Fine) (rg : Reg) : ∀ l ∈ pX o rg, l.length ≤ 1000000 := by
 intro l hl
 obtain ⟨c, _, rfl⟩ := dy.1 hl
 exact a2y hf rg c
theorem a2l {rg : Reg} (h64 : rg.stops.length ≤ 64) : ∀ c ∈ pG rg, c.cP rg := by
 intro c hc
 unfold pG at hc
 have hb : ∀ (x i : Nat), i ∈ oS x → i < 64 := fun x i hi => by
  unfold oS at hi
  exact dB.1 (eo.1 hi).1
 rcases dJ.1 hc with hc | hc
 ·rcases dJ.1 hc with hc | hc
  ·obtain ⟨d, hd, hc⟩ := eC.1 hc
   obtain ⟨i, hi, rfl⟩ := dy.1 hc
   have hd := dB.1 hd
   have hi := hb _ _ hi
   refine ⟨fun _ => ?_, fun h => ?_, fun h => ?_⟩
   ·simp only [zQ]; omega
   ·simp only [zQ] at h; omega
   ·exact absurd rfl h
  ·obtain ⟨i, hi, rfl⟩ := dy.1 hc
   have hi := hb _ _ hi
   refine ⟨fun h => ?_, fun _ => ?_, fun _ h => ?_⟩
   ·simp only [xB] at h; omega
   ·simp only [xB]; omega
   ·exact absurd rfl h
 ·obtain ⟨i, hi, rfl⟩ := dy.1 hc
  have hi := hb _ _ hi
  refine ⟨fun h => ?_, fun h => ?_, fun _ _ => ?_⟩
  ·simp only [a4P] at h; omega
  ·simp only [a4P] at h; omega
  ·simp only [a4P]; omega
theorem b4T (o : Org) (ho : o.In H) (hf : o.Fine) (rg : Reg) (sv : Value) (hr : rg.In H sv) (h0 : 0 < rg.stops.length) (h1 : rg.stops.length < 100000) (c : Ctl) (hc : c.cP rg) (AO AR AW : Nat)
 (hAO : Var H AO 4 [.string o.name, o.rv, o.dv, o.cv]) (hAR : Var H AR 3 [sv, .int .u64 rg.cpl, .int .u64 rg.off]) (wv : Value) (own : List Pv) (hAW : Var H AW 1 [wv]) (hw : Sl 1 Pv.cells H wv own) (hwi : ∀ p ∈ own, p.In H) (hwl : own.length < 1000000000) (hwb : ∀ p ∈ own, p.l.length < 1000000000) :
 Fn prog 181 [.agg #[I c.kind, I c.dv, I c.ix], ptr AO 0 4, ptr AR 0 3, ptr AW 0 1] H fun r H' => r = .bool (!(decide (pX o (kW rg c) = own.map (·.l)))) ∧ St prog H H' [] := by
 refine .cT func181 rfl (by kernel_rfl) (m := 14) rfl fun l hn g0 g1 g2 g3 => ?_
 simp (disch := omega) only [↓RA, RB, simprocAttr, g0]
 refine (sR H).eNew 3 [I c.kind, I c.dv, I c.ix] rfl rfl rfl a0L fun A1 H1 hS1 => ?_
 simp only [RT] at hS1
 simp (disch := omega) only [↓RA, RB, simprocAttr]
 refine Wp.aO jZ [(0, 4), (5, 0), (5, 4)] (by kernel_rfl) (by kernel_rfl) ?_
 simp (disch := omega) only [↓RA, RZ, simprocAttr, hn, g1, g2, (hS1.va hAO).ag, (hS1.va hAR).ag, hS1.ag 0 rfl]
 refine iJ (b0N rg sv (hr.ab hS1) h0 h1 c hc) ?_
 rintro r H2 ⟨nv, rfl, hT1⟩
 have hS2 := hS1.trans hT1
 simp only [RT] at hS2
 simp (disch := omega) only [↓RA, RZ, simprocAttr, hn]
 have hln := a4m rg c
 refine iJ (a3X o (ho.ab hS2) hf (kW rg c) nv ⟨hS2.av 1 rfl (fun _ => rfl), yH hr.2 c⟩) ?_
 rintro r H3 ⟨ps, hps, hpx, hpi, hT2⟩
 have hS3 := hS2.trans hT2
 simp only [RT] at hS3
 have hpl : ps.length < 1000000000 := by
  have h2 := congrArg List.length hps
  rw [dF] at h2
  have h3 := qL hf
  unfold pX at h2
  rw [dF] at h2
  omega
 have hpb : ∀ p ∈ ps, p.l.length < 1000000000 := fun p hp => by
  have := a4l hf (kW rg c) p.l (by rw [← hps]; exact eV hp)
  omega
 simp (disch := omega) only [↓RA, RZ, simprocAttr, hn, g3, (hS3.va hAW).ld]
 refine hS3.cF (b9q r wv ps own hpx.1 (hS3.sl hw) (fun p hp => (hpi p hp).1) (fun p hp => hS3.sl (hwi p hp)) hpl hwl hpb hwb) fun H4 hS4 => ?_
 simp (disch := omega) only [↓RA, RZ, simprocAttr, hn, g1, g3, (hS2.va hAO).ag, (hS1.va hAW).ld, (hS2.va hAW).ld, c3g]
 exact ⟨by rw [hps], hS4.forget⟩
theorem a1t {rg : Reg} (h60 : rg.stops.length ≤ 60) : (pG rg).length < 100000 := by
 have e : pG rg = yR rg rg.stops.length ++ (nB rg.cpl 64).map xB ++ (nB rg.off 64).map a4P := rfl
 rw [e, dh, dh, dF, dF]
 have h1 := a1f rg rg.stops.length
 have h2 := nC rg.cpl 64
 have h3 := nC rg.off 64
 omega
theorem a6e (o : Org) (rg : Reg) : ((pG rg).filter fun c => !(!(decide (pX o (kW rg c) = pX o rg)))) = mM o rg := by
 unfold mM
 congr 1
 funext c
 rw [Bool.not_not]
theorem b0r (o : Org) (ho : o.In H) (hf : o.Fine) (rg : Reg) (sv : Value) (hr : rg.In H sv) (h0 : 0 < rg.stops.length) (h60 : rg.stops.length ≤ 60) :
 Fn prog 131 [.agg #[.string o.name, o.rv, o.dv, o.cv], .agg #[sv, .int .u64 rg.cpl, .int .u64 rg.off]] H fun r H' => Slx 3 Ctl.cells H' (fun B => H.length ≤ B) r (mM o rg) ∧ St prog H H' [] := by
 refine .aD func131 rfl (by kernel_rfl) (m := 13) rfl fun l hn g0 g1 => ?_
 simp (disch := omega) only [↓RA, RB, simprocAttr, g0]
 refine (sR H).eNew 4 [(.string o.name), o.rv, o.dv, o.cv] rfl rfl (by simp [OC, ((sR H).sl ho.1).cells.2.1, ((sR H).sl ho.2.2.1).cells.2.1, ((sR H).sl ho.2.2.2.2.1).cells.2.1]) mW fun A1 H1 hS1 => ?_
 simp only [RT] at hS1
 simp (disch := omega) only [↓RA, RB, simprocAttr, g1]
 refine hS1.eNew 3 [sv, (.int .u64 rg.cpl), (.int .u64 rg.off)] rfl rfl (by simp [OC, (hS1.sl hr.1).cells.2.1]) mP fun A2 H2 hS2 => ?_
 simp only [RT] at hS2
 simp (disch := omega) only [↓RA, RZ, simprocAttr, hn, hS2.ag 0 rfl, hS2.ag 1 rfl]
 have hS0 := hS2
 refine iJ (a3X o (ho.ab hS2) hf rg sv (hr.ab hS2)) ?_
 rintro r H3 ⟨ps, hps, hpx, hpi, hT1⟩
 have hS3 := hS2.trans hT1
 simp only [RT] at hS3
 obtain ⟨wv, rfl⟩ : ∃ w, w = r := ⟨r, rfl⟩
 have hpl : ps.length < 1000000000 := by
  have h2 := congrArg List.length hps
  rw [dF] at h2
  have h3 := qL hf
  unfold pX at h2
  rw [dF] at h2
  omega
 have hpb : ∀ p ∈ ps, p.l.length < 1000000000 := fun p hp => by
  have := a4l hf rg p.l (by rw [← hps]; exact eV hp)
  omega
 have hkn := hS0.aJ (H' := H3)
 have hpx2 := hpx.step hkn
 have hpi2 := fun p hp => (hpi p hp).step hkn
 have hS1 := hS3
 obtain ⟨X, hBX, hS4⟩ := hS3.ax (os := [⟨ptr A1 0 4, 0, _⟩, ⟨ptr A2 0 3, 0, _⟩])
 simp (disch := omega) only [↓RA, RZ, simprocAttr]
 refine hS4.eNew 1 [(.slice none 0 0)] rfl rfl rfl a7d fun A3 H4 hS5 => ?_
 simp only [RT] at hS5
 simp (disch := omega) only [↓RA, RB, simprocAttr, hn]
 refine hS5.aa 2 rfl [wv] (by rw [hpx.1.cells.1]) (by simp [hpx.1.cells.2.1]) a7d (by simp) fun H5 hS6 => ?_
 simp only [RT] at hS6
 simp (disch := omega) only [↓RA, RZ, simprocAttr, hn, hS6.ag 1 rfl]
 refine iJ ((b2V rg sv (hr.ab (hS3.aj hBX hS6)) h60).tr) ?_
 rintro r H6 ⟨-, hT2⟩
 have hS7 := hS6.trans hT2
 simp only [RT] at hS7
 obtain ⟨cw, rfl⟩ : ∃ w, w = r := ⟨r, rfl⟩
 simp (disch := omega) only [↓RA, RZ, simprocAttr, hn]
 have hM1 := hS7.pick (os' := [⟨cw, 3, _⟩]) [3] (by decide) rfl
 have hR1 := hS7.pick (os' := [⟨cw, 3, _⟩, ⟨ptr A1 0 4, 0, _⟩, ⟨ptr A2 0 3, 0, _⟩, ⟨ptr A3 0 1, 0, _⟩]) [3, 0, 1, 2] (by decide) rfl
 refine iJ (b8a (xs := pG rg) hM1.aH (a1t h60) 181 [ptr A1 0 4, ptr A2 0 3, ptr A3 0 1] (fun c => !(decide (pX o (kW rg c) = pX o rg))) (fun c hc {H9 os} h => by
  have q1 := hR1.frame h.forget
  have q2 := hS1.aj hBX q1
  have q3 := q1.kept hBX
  have q4 := b4T o (ho.ab q2) hf rg sv (hr.ab q2) h0 (by omega) c (a2l (by omega) c hc) A1 A2 A3 (q1.var 0 rfl) (q1.var 1 rfl) wv ps (q1.var 2 rfl) (hpx2.step q3).1 (fun p hp => ((hpi2 p hp).step q3).1) hpl hpb
  rw [hps] at q4
  exact q4)) ?_
 rintro r H7 ⟨rest, hb, hrd, hT3⟩
 have hS8 := hR1.frame hT3
 simp only [RT] at hS8
 rw [a6e] at hrd
 have hrr := hrd _ (by rw [← a6e]; exact hS8.rd 0 rfl)
 have hrc := hrr.cells
 simp (disch := omega) only [↓RA, RB, simprocAttr, hn, c5a]
 refine ⟨⟨⟨hrr, fun _ => rfl, by decide⟩, fun b h => ?_⟩, (hS3.aj hBX hS8).forget⟩
 rcases (hS3.aj hBX hS8).new _ (dU ..) b (hb b h) with h | h
 ·exact h
 ·exact h.elim
theorem rI (o : Org) (ho : o.In H) (rg : Reg) (sv : Value) (hr : rg.In H sv) :
 Fn prog 82 [.agg #[.string o.name, o.rv, o.dv, o.cv], .agg #[sv, .int .u64 rg.cpl, .int .u64 rg.off]] H fun r H' => r = I (lY o rg) ∧ St prog H H' [] := by
 refine .aD func82 rfl (by kernel_rfl) (m := 14) rfl fun l hn g0 g1 => ?_
 simp (disch := omega) only [↓RA, RB, simprocAttr, g0]
 refine (sR H).eNew 4 [(.string o.name), o.rv, o.dv, o.cv] rfl rfl (by simp [OC, ((sR H).sl ho.1).cells.2.1, ((sR H).sl ho.2.2.1).cells.2.1, ((sR H).sl ho.2.2.2.2.1).cells.2.1]) mW fun A1 H1 hS1 => ?_
 simp only [RT] at hS1
 simp (disch := omega) only [↓RA, RB, simprocAttr, g1]
 refine hS1.eNew 3 [sv, (.int .u64 rg.cpl), (.int .u64 rg.off)] rfl rfl (by simp [OC, (hS1.sl hr.1).cells.2.1]) mP fun A2 H2 hS2 => ?_
 simp only [RT] at hS2
 simp (disch := omega) only [↓RA, RZ, simprocAttr, hn, hS2.ag 0 rfl]
 refine hS2.cF (yU o (ho.ab hS2)) fun H3 hS3 => ?_
 simp (disch := omega) only [↓RA, RB, simprocAttr, hn]
 refine iA (fun h1 => ?_) (fun h1 => ?_)
 ·simp (disch := omega) only [↓RA, RZ, simprocAttr, hn, c3d, h1]
  exact ⟨by rw [lY, if_pos h1], hS3.forget⟩
 simp (disch := omega) only [↓RA, RZ, simprocAttr, hn, hS3.ag 0 rfl, hS3.ag 1 rfl, h1]
 refine hS3.cF (b4W o (ho.ab hS3) rg sv (hr.ab hS3)) fun H4 hS4 => ?_
 simp (disch := omega) only [↓RA, RZ, simprocAttr, hn, c3d, h1]
 exact hS4.forget
theorem b7d (o : Org) (ho : o.In H) (rg : Reg) (sv : Value) (hr : rg.In H sv) :
 Fn prog 77 [.agg #[.string o.name, o.rv, o.dv, o.cv], .agg #[sv, .int .u64 rg.cpl, .int .u64 rg.off]] H fun r H' => ∃ lv, r = .tuple #[lv, I (lY o rg)] ∧ Slx 3 Ctl.cells H' (fun B => H.length ≤ B) lv (if lY o rg = 0 then mM o rg else []) ∧ St prog H H' [] := by
 refine .aD func77 rfl (by kernel_rfl) (m := 16) rfl fun l hn g0 g1 => ?_
 simp (disch := omega) only [↓RA, RB, simprocAttr, g0]
 refine (sR H).eNew 4 [(.string o.name), o.rv, o.dv, o.cv] rfl rfl (by simp [OC, ((sR H).sl ho.1).cells.2.1, ((sR H).sl ho.2.2.1).cells.2.1, ((sR H).sl ho.2.2.2.2.1).cells.2.1]) mW fun A1 H1 hS1 => ?_
 simp only [RT] at hS1
 simp (disch := omega) only [↓RA, RB, simprocAttr, g1]
 refine hS1.eNew 3 [sv, (.int .u64 rg.cpl), (.int .u64 rg.off)] rfl rfl (by simp [OC, (hS1.sl hr.1).cells.2.1]) mP fun A2 H2 hS2 => ?_
 simp only [RT] at hS2
 simp (disch := omega) only [↓RA, RZ, simprocAttr, hn, hS2.ag 0 rfl, hS2.ag 1 rfl]
 refine hS2.cF (rI o (ho.ab hS2) rg sv (hr.ab hS2)) fun H3 hS3 => ?_
 simp (disch := omega) only [↓RA, RB, simprocAttr, hn]
 refine iA (fun h1 => ?_) (fun h1 => ?_)
 ·simp (disch := omega) only [↓RA, RZ, simprocAttr, hn, c3W, h1]
  exact ⟨.slice none 0 0, rfl, ⟨⟨.inl ⟨rfl, rfl⟩, fun _ => rfl, by decide⟩, fun b h => by simp [kJ] at h⟩, hS3.forget⟩
 have h0 := dG.1 h1
 obtain ⟨hz3, hz4⟩ := oX h0
 have hf := Org.bg hz3
 have hd1 := hf.dpos
 have hd2 := hf.dlen
 simp (disch := omega) only [↓RA, RZ, simprocAttr, hn, hS3.ag 0 rfl, hS3.ag 1 rfl, h1]
 have hSd := hS3
 refine iJ (b0r o (ho.ab hS3) hf rg sv (hr.ab hS3) (by omega) (by omega)) ?_
 rintro r H4 ⟨hx, hT2⟩
 have hS4 := hS3.trans hT2
 simp only [RT] at hS4
 have hnt := hx.1.bB
 simp (disch := omega) only [↓RA, RZ, simprocAttr, hn, c3W, h1, hnt]
 refine ⟨r, by rw [h0], ⟨by rw [if_pos h0]; exact hx.1, fun b h => ?_⟩, hS4.forget⟩
 have := hx.2 b h
 have : H.length ≤ _ := hSd.len
 omega
theorem b5e (x i j : Nat) (hx : x < 18446744073709551616) (hi : i < 64) : (tN x i).testBit j = (x.testBit j && !decide (j = i)) := by
 have hx' : x < 2 ^ 64 := by simpa using hx
 unfold tN
 rw [fj, ik, Nat.testBit_and, gS, fT hx']
 by_cases hj : j < 64
 ·have e : (~~~ BitVec.ofNat 64 (2 ^ i)).toNat.testBit j = !decide (j = i) := by
   have h1 : (~~~ BitVec.ofNat 64 (2 ^ i)).toNat.testBit j = (~~~ BitVec.ofNat 64 (2 ^ i)).getLsbD j := rfl
   rw [h1, BitVec.getLsbD_not, decide_eq_true hj, gO, BitVec.getLsbD_ofNat, decide_eq_true hj, gO, gK]
   congr 1
   exact decide_eq_decide.2 ⟨fun h => h.symm, fun h => h.symm⟩
  rw [e]
 ·have h1 : x.testBit j = false := Nat.testBit_lt_two_pow (dO hx' (fz (by decide) (by omega)))
  rw [h1, fQ, fQ]
def pc (x : Nat) : Nat := (oS x).length
theorem b4Q (x : Nat) : pc x ≤ 64 := nC x 64
theorem a4D (x i : Nat) (hx : x < 18446744073709551616) (hi : i < 64) (hb : x.testBit i = true) : pc (tN x i) < pc x := by
 have e : oS (tN x i) = (oS x).filter fun j => !decide (j = i) := by
  unfold oS
  rw [List.filter_filter]
  refine List.filter_congr fun j _ => ?_
  rw [b5e x i j hx hi, Bool.and_comm]
 unfold pc
 rw [e, List.length_filter_lt_length_iff_exists]
 exact ⟨i, eo.2 ⟨dB.2 hi, hb⟩, by simp⟩
def mu (g : Reg) : Nat := (g.stops.map pc).sum + pc g.cpl + pc g.off
theorem c3e (g : Reg) : mu g ≤ 64 * g.stops.length + 128 := by
 have h : ∀ l : List Nat, (l.map pc).sum ≤ 64 * l.length := by
  intro l
  induction l with
  | nil => simp
  | cons a l ih =>
    have := b4Q a
    simp only [ef, List.sum_cons, ed]
    omega
 have := h g.stops
 have := b4Q g.cpl
 have := b4Q g.off
 unfold mu
 omega
theorem a2a : ∀ (l : List Nat) (d y : Nat), d < l.length → y < iB l d → (l.set d y).sum < l.sum
 | [], d, y, h, _ => by simp at h
 | a :: l, 0, y, _, hy => by
   have : iB (a :: l) 0 = a := rfl
   rw [this] at hy
   simp only [fw, List.sum_cons]
   omega
 | a :: l, d + 1, y, h, hy => by
   have h1 : iB (a :: l) (d + 1) = iB l d := rfl
   rw [h1] at hy
   have := a2a l d y (by simpa using h) hy
   simp only [gQ, List.sum_cons]
   omega
theorem b1c {g : Reg} (hg : g.Ok) {c : Ctl} (hc : c ∈ pG g) : mu (kW g c) < mu g := by
 obtain ⟨_, hg2, hg3, hg4⟩ := hg
 unfold pG at hc
 have hb : ∀ (x i : Nat), i ∈ oS x → i < 64 ∧ x.testBit i = true := fun x i hi => by
  unfold oS at hi
  exact ⟨dB.1 (eo.1 hi).1, (eo.1 hi).2⟩
 rcases dJ.1 hc with hc | hc
 ·rcases dJ.1 hc with hc | hc
  ·obtain ⟨d, hd, hc⟩ := eC.1 hc
   obtain ⟨i, hi, rfl⟩ := dy.1 hc
   have hd := dB.1 hd
   obtain ⟨hi, hbit⟩ := hb _ _ hi
   have e : kW g (zQ d i) = { g with stops := g.stops.set d (tN (iB g.stops d) i) } := rfl
   rw [e]
   have hp := a4D _ i (hg2 _ (iE hd)) hi hbit
   have := a2a (g.stops.map pc) d (pc (tN (iB g.stops d) i)) (by simpa using hd) (by rw [vD _ hd]; exact hp)
   unfold mu
   simp only [fN]
   omega
  ·obtain ⟨i, hi, rfl⟩ := dy.1 hc
   obtain ⟨hi, hbit⟩ := hb _ _ hi
   have e : kW g (xB i) = { g with cpl := tN g.cpl i } := rfl
   rw [e]
   have := a4D _ i hg3 hi hbit
   unfold mu
   simp only
   omega
 ·obtain ⟨i, hi, rfl⟩ := dy.1 hc
  obtain ⟨hi, hbit⟩ := hb _ _ hi
  have e : kW g (a4P i) = { g with off := tN g.off i } := rfl
  rw [e]
  have := a4D _ i hg4 hi hbit
  unfold mu
  simp only
  omega
def mC (o : Org) : Nat → Reg → List Ctl → Reg × List Ctl
 | 0, g, l => (g, l)
 | n + 1, g, l => if (mM o g).length = 0 then (g, l) else mC o n (kW g (iB (mM o g) ((mM o g).length - 1))) (l ++ [iB (mM o g) ((mM o g).length - 1)])
theorem a4c {o : Org} {g : Reg} {c : Ctl} (h : c ∈ mM o g) : c ∈ pG g := (eo.1 h).1
theorem b6i (o : Org) (g : Reg) : (mM o g).length ≤ (pG g).length := dS _ _
theorem a0G (o : Org) : ∀ (n m : Nat) (g : Reg) (l : List Ctl), g.Ok → mu g < n → mu g < m → mC o n g l = mC o m g l
 | 0, _, _, _, _, h, _ => absurd h (dL _)
 | _, 0, _, _, _, _, h => absurd h (dL _)
 | n + 1, m + 1, g, l, hg, hn, hm => by
   rw [mC, mC]
   split
   ·rfl
   ·rename_i h
    have hc := a4c (iE (xs := mM o g) (j := (mM o g).length - 1) (by omega))
    have hlt := b1c hg hc
    exact a0G o n m _ _ (yH hg _) (by omega) (by omega)
theorem c2F (l : List Value) (H : Heap) : iC prog Tryz.f76 l H = (oJ (jM prog 30) (iD prog 30) H (get l 4)).bind fun v => if (jQ v && (jQ (get l 5) && (jQ (get l 6) && true))) = true then some (.tuple #[v, get l 5, get l 6]) else none := by
 show (Option.bind (Option.bind (lG prog H 30 (get l 4)) fun v => some [v, get l 5, get l 6]) fun vs => _) = _
 rw [kM]
 cases oJ _ _ H (get l 4) <;> rfl
theorem b3O (o : Org) (ho : o.In H) (rg : Reg) (sv : Value) (hr : rg.In H sv) :
 Fn prog 76 [.agg #[.string o.name, o.rv, o.dv, o.cv], .agg #[sv, .int .u64 rg.cpl, .int .u64 rg.off]] H fun r H' => ∃ nv lv, (lY o rg ≠ 0 ∧ r = .tuple #[.agg #[.slice none 0 0, .int .u64 0, .int .u64 0], .slice none 0 0, I (lY o rg)] ∧ St prog H H' []) ∨
  ∃ g gone, lY o rg = 0 ∧ (g, gone) = mC o (mu rg + 1) rg [] ∧ r = .tuple #[.agg #[nv, .int .u64 g.cpl, .int .u64 g.off], lv, I 0] ∧ g.Ok ∧ g.stops.length = rg.stops.length ∧ St prog H H' [⟨nv, 1, g.stops.flatMap (one u64)⟩, ⟨lv, 3, mB gone⟩] := by
 refine .aD func76 rfl (by kernel_rfl) (m := 43) rfl fun l hn g0 g1 => ?_
 simp (disch := omega) only [↓RA, RB, simprocAttr, g0]
 refine (sR H).eNew 4 [(.string o.name), o.rv, o.dv, o.cv] rfl rfl (by simp [OC, ((sR H).sl ho.1).cells.2.1, ((sR H).sl ho.2.2.1).cells.2.1, ((sR H).sl ho.2.2.2.2.1).cells.2.1]) mW fun A1 H1 hS1 => ?_
 simp only [RT] at hS1
 simp (disch := omega) only [↓RA, RB, simprocAttr, g1]
 refine hS1.eNew 3 [sv, (.int .u64 rg.cpl), (.int .u64 rg.off)] rfl rfl (by simp [OC, (hS1.sl hr.1).cells.2.1]) mP fun A2 H2 hS2 => ?_
 simp only [RT] at hS2
 simp (disch := omega) only [↓RA, RZ, simprocAttr]
 refine hS2.eNew 3 [(.slice none 0 0), (.int .u64 0), (.int .u64 0)] rfl rfl rfl mP fun A3 H3 hS3 => ?_
 simp only [RT] at hS3
 simp (disch := omega) only [↓RA, RZ, simprocAttr, hn, hS3.ag 0 rfl, hS3.ag 1 rfl]
 refine hS3.cF (rI o (ho.ab hS3) rg sv (hr.ab hS3)) fun H4 hS4 => ?_
 simp (disch := omega) only [↓RA, RB, simprocAttr, hn]
 refine iA (fun h1 => ?_) (fun h1 => ?_)
 ·simp (disch := omega) only [↓RA, RZ, simprocAttr, hn, c3L, h1]
  refine hS4.aa 2 rfl [(.slice none 0 0), (.int .u64 0), (.int .u64 0)] rfl rfl mP (by simp) fun H5 hS5 => ?_
  simp only [RT] at hS5
  simp (disch := omega) only [↓RA, RZ, simprocAttr, hn, c2F, hS5.ag 2 rfl, h1]
  exact ⟨.slice none 0 0, .slice none 0 0, .inl ⟨h1, hS5.forget⟩⟩
 have h0 := dG.1 h1
 obtain ⟨hz3, hz4⟩ := oX h0
 have hf := Org.bg hz3
 have hd1 := hf.dpos
 have hd2 := hf.dlen
 simp (disch := omega) only [↓RA, RZ, simprocAttr, hn, hS4.ld 1 rfl, h1]
 refine iJ ((a7W sv rg.stops (hS4.sl hr.1) (by omega) (by omega)).tr) ?_
 rintro r H6 ⟨-, hT2⟩
 have hS6 := hS4.trans hT2
 simp only [RT] at hS6
 simp (disch := omega) only [↓RA, RZ, simprocAttr, hn, h1]
 refine hS6.aa 1 rfl [r] (by rw [(hS6.rd 3 rfl).cells.1]) (by simp [(hS6.rd 3 rfl).cells.2.1]) b7b (by simp) fun H7 hS7 => ?_
 simp only [RT] at hS7
 simp (disch := omega) only [↓RA, RZ, simprocAttr, h1]
 have hS8 := hS7.nil 2
 simp only [RT] at hS8
 refine Wp.al (fun n l H' => l.length = 43 ∧ get l 2 = (ptr A1 0 4) ∧ get l 3 = (ptr A2 0 3) ∧ get l 4 = (ptr A3 0 3) ∧ ∃ (g : Reg) (gone : List Ctl) (nv ov : Value), (g.Ok ∧ mu g ≤ n ∧ g.stops.length = rg.stops.length ∧ gone.length + mu g ≤ mu rg ∧ mC o (mu g + 1) g gone = mC o (mu rg + 1) rg []) ∧ get l 8 = ov ∧ St prog H H' [⟨ptr A1 0 4, 0, [(.string o.name), o.rv, o.dv, o.cv]⟩, ⟨ptr A2 0 3, 0, [nv, .int .u64 g.cpl, .int .u64 g.off]⟩, ⟨ptr A3 0 3, 0, [(.slice none 0 0), (.int .u64 0), (.int .u64 0)]⟩, ⟨nv, 1, g.stops.flatMap (one u64)⟩, ⟨ov, 3, mB gone⟩]) (mu rg) ?_ ?_
 ·simp (disch := omega) only [RB, RC, simprocAttr, hn]
  exact ⟨rg, [], r, .slice none 0 0, ⟨hr.2, dm _, rfl, by simp, rfl⟩, rfl, hS8⟩
 rintro n l H8 ⟨hn, g2, g3, g4, g, gone, nv, ov, ⟨hgo,hgn,hgl,hgm,hgs⟩, g8, hS9⟩
 simp (disch := omega) only [↓RA, RZ, simprocAttr, hn, g2, g3, hS9.ag 0 rfl, hS9.ag 1 rfl]
 have hSi := hS9
 refine iJ (b0r o (ho.ab hS9) hf g nv ⟨hS9.av 3 rfl (fun _ => rfl), hgo⟩ (by omega) (by omega)) ?_
 rintro r H9 ⟨hx, hT3⟩
 have hS10 := hS9.trans hT3
 simp only [RT] at hS10
 have hil := b6i o g
 have hil2 := a1t (rg := g) (by omega)
 simp (disch := omega) only [↓RA, RZ, simprocAttr, hn, hx.1.len]
 refine iA (fun q1 => ?_) (fun q1 => ?_)
 ·have hi0 : (mM o g).length = 0 := by omega
  rw [mC, if_pos hi0] at hgs
  have hnt : jQ ov = true := (hS10.av (cel := Ctl.cells) 4 rfl (fun _ => rfl)).bB
  simp (disch := omega) only [↓RA, RZ, simprocAttr, hn, g3, g4, g8, hS10.ag 1 rfl, q1]
  refine hS10.aa 2 rfl [nv, (.int .u64 g.cpl), (.int .u64 g.off)] rfl (by simp [OC, (hS10.rd 3 rfl).cells.2.1]) mP (by simp) fun H10 hS11 => ?_
  simp only [RT] at hS11
  simp (disch := omega) only [↓RA, RZ, simprocAttr, hn, g4, c2F, hS11.ag 2 rfl, q1, hnt]
  exact ⟨nv, ov, .inr ⟨g, gone, h0, hgs, rfl, hgo, hgl, hS11.pick [3, 4] (by decide) rfl⟩⟩
 have hpre : ((mM o g).length : Int) - 1 = (((mM o g).length - 1 : Nat) : Int) := by omega
 have hcm := a4c (iE (xs := mM o g) (j := (mM o g).length - 1) (by omega))
 have hmu := b1c hgo hcm
 have hcf := a2l (rg := g) (by omega) _ hcm
 simp (disch := omega) only [↓RA, RZ, simprocAttr, hn, hx.1.len, q1, hpre]
 generalize hcc : iB (mM o g) ((mM o g).length - 1) = c at hcm hmu hcf
 have hgs2 : mC o (mu (kW g c) + 1) (kW g c) (gone ++ [c]) = mC o (mu rg + 1) rg [] := by
  have hstep : mC o (mu g + 1) g gone = mC o (mu g) (kW g c) (gone ++ [c]) := by rw [mC, if_neg (by omega), hcc]
  rw [← hgs, hstep]
  exact a0G o _ _ _ _ (yH hgo c) (by omega) (by omega)
 have hgl2 := a4m g c
 simp (disch := omega) only [↓RA, RZ, simprocAttr, hn, hx.1.idx, hx.1.ag, Ctl.cells, q1, hcc]
 refine hS10.eNew 3 [I 0, I 0, I 0] rfl rfl rfl a0L fun A4 H11 hS12 => ?_
 simp only [RT] at hS12
 simp (disch := omega) only [↓RA, RZ, simprocAttr, hn, q1]
 refine hS12.aa 5 rfl [I c.kind, I c.dv, I c.ix] rfl rfl a0L (by simp) fun H12 hS13 => ?_
 simp only [RT] at hS13
 simp (disch := omega) only [↓RA, RZ, simprocAttr, q1]
 refine Wp.aO jZ [(4, 0)] (by kernel_rfl) (by kernel_rfl) ?_
 simp (disch := omega) only [↓RA, RZ, simprocAttr, hn, g3, hS13.ag 1 rfl, hS13.ag 5 rfl]
 refine iJ (b0N g nv ⟨hS13.av 3 rfl (fun _ => rfl), hgo⟩ (by omega) (by omega) c hcf) ?_
 rintro r H13 ⟨nw, rfl, hT4⟩
 have hS14 := hS13.trans hT4
 simp only [RT] at hS14
 have hmr := c3e rg
 simp (disch := omega) only [↓RA, RZ, simprocAttr, hn, g8, hS14.ag 5 rfl]
 refine hS14.ai [I c.kind, I c.dv, I c.ix] a0F b0R rfl rfl (by simp [Value.cells]) rfl rfl (by decide) (by decide) fun w1 H14 hS15 => ?_
 simp only [RT] at hS15
 simp (disch := omega) only [↓RA, RZ, simprocAttr, hn]
 refine hS15.aq 4 rfl (hS15.rd 7 rfl) a0F (by rw [mE]; simp only [ed, ey]; omega) fun w2 H15 hS16 => ?_
 simp only [RT] at hS16
 simp (disch := omega) only [↓RA, RB, simprocAttr, hn, g3]
 refine hS16.aa 1 rfl [nw, (.int .u64 (kW g c).cpl), (.int .u64 (kW g c).off)] rfl (by simp [OC, (hS16.rd 6 rfl).cells.2.1]) mP (by simp) fun H16 hS17 => ?_
 simp only [RT] at hS17
 simp (disch := omega) only [↓RA, RZ, simprocAttr, hn, g2, g3, g4, hS13.ag 5 rfl]
 refine ⟨mu (kW g c), by omega, kW g c, gone ++ [c], nw, w2, ⟨yH hgo c, dm _, by omega, by simp; omega, hgs2⟩, rfl, ?_⟩
 rw [yT]
 exact hS17.pick [0, 1, 2, 6, 4] (by decide) rfl
theorem b0C (o : Org) (ho : o.In H) (rg : Reg) (sv : Value) (hr : rg.In H sv) (c : Ct) :
 Fn prog 37 [.agg #[.string o.name, o.rv, o.dv, o.cv], .agg #[sv, .int .u64 rg.cpl, .int .u64 rg.off], .agg #[I c.1, I c.2]] H fun r H' => Slx 2 jT H' (fun B => H.length ≤ B) r (lI o rg c) ∧ St prog H H' [] := by
 refine .bO func37 rfl (by kernel_rfl) (m := 17) rfl fun l hn g0 g1 g2 => ?_
 simp (disch := omega) only [↓RA, RB, simprocAttr, g0]
 refine (sR H).eNew 4 [(.string o.name), o.rv, o.dv, o.cv] rfl rfl (by simp [OC, ((sR H).sl ho.1).cells.2.1, ((sR H).sl ho.2.2.1).cells.2.1, ((sR H).sl ho.2.2.2.2.1).cells.2.1]) mW fun A1 H1 hS1 => ?_
 simp only [RT] at hS1
 simp (disch := omega) only [↓RA, RB, simprocAttr, g1]
 refine hS1.eNew 3 [sv, (.int .u64 rg.cpl), (.int .u64 rg.off)] rfl rfl (by simp [OC, (hS1.sl hr.1).cells.2.1]) mP fun A2 H2 hS2 => ?_
 simp only [RT] at hS2
 simp (disch := omega) only [↓RA, RB, simprocAttr, g2]
 refine hS2.eNew 2 [I c.1, I c.2] rfl rfl rfl pK fun A3 H3 hS3 => ?_
 simp only [RT] at hS3
 simp (disch := omega) only [↓RA, RZ, simprocAttr, hn, hS3.ag 0 rfl, hS3.ag 1 rfl, hS3.ag 2 rfl]
 have hSd := hS3
 refine iJ (c3z o (ho.ab hS3) rg sv (hr.ab hS3) c) ?_
 rintro r H4 ⟨pv, rfl, hx, hT1⟩
 have hS4 := hS3.trans hT1
 simp only [RT] at hS4
 simp (disch := omega) only [↓RA, RB, simprocAttr, hn, c5q]
 refine ⟨⟨hx.1, fun b h => ?_⟩, hS4.forget⟩
 have := hx.2 b h
 have : H.length ≤ _ := hSd.len
 omega
theorem a3u (o : Org) (ho : o.In H) (hf : o.Fine) : Fn prog 35 [.agg #[.string o.name, o.rv, o.dv, o.cv]] H fun r H' => St prog H H' [⟨r, 2, pr (kG o)⟩] := by
 have hdl := ho.2.2.2.2.2.2.1
 have hd8 := hf.dlen
 refine .aY func35 rfl (by kernel_rfl) (m := 38) rfl fun l hn g0 => ?_
 simp (disch := omega) only [↓RA, RB, simprocAttr, g0]
 refine (sR H).eNew 4 [(.string o.name), o.rv, o.dv, o.cv] rfl rfl (by simp [OC, ((sR H).sl ho.1).cells.2.1, ((sR H).sl ho.2.2.1).cells.2.1, ((sR H).sl ho.2.2.2.2.1).cells.2.1]) mW fun A1 H1 hS1 => ?_
 simp only [RT] at hS1
 simp (disch := omega) only [↓RA, RB, simprocAttr]
 have hS2 := hS1.nil 1
 simp only [RT] at hS2
 refine Wp.al (fun n l H' => l.length = 38 ∧ get l 1 = (ptr A1 0 4) ∧ get l 2 = (.slice none 0 0) ∧ ∃ (i : Nat) (ov : Value), (n + i = o.dvs.length) ∧ get l 4 = I i ∧ get l 3 = ov ∧ St prog H H' [⟨ptr A1 0 4, 0, [(.string o.name), o.rv, o.dv, o.cv]⟩, ⟨ov, 2, pr ((List.range i).flatMap (rV o))⟩]) o.dvs.length ?_ ?_
 ·simp (disch := omega) only [RB, RC, simprocAttr, hn]
  exact ⟨0, .slice none 0 0, by omega, rfl, rfl, hS2⟩
 rintro n l H2 ⟨hn, g1, g2, i, ov, hi, g4, g3, hS3⟩
 simp (disch := omega) only [↓RA, RZ, simprocAttr, hn, g1, g4, hS3.ld 0 rfl, (hS3.sl ho.2.2.1).len]
 refine iA (fun q1 => ?_) (fun q1 => ?_)
 ·have hki := hf.keys i (by omega)
  have hcn : (sC o i : Int) = (iB o.dvs i).hi - (iB o.dvs i).lo + 1 := by unfold sC; omega
  have hpre : yQ o i 0 = (List.range i).flatMap (rV o) := by unfold yQ; simp
  have hlen : ∀ k, k ≤ sC o i → (yQ o i k).length ≤ 1024 := by
   intro k hk
   have h1 := qL hf
   by_cases hkk : k < sC o i
   ·obtain ⟨e, he⟩ := a1G o (i := i) (k := k) (by omega) hkk
    rw [he, dh] at h1
    omega
   ·have hk2 : k = sC o i := by omega
    rw [hk2, zU]
    obtain ⟨t, ht⟩ : ∃ t, List.range o.dvs.length = List.range (i + 1) ++ t := ⟨(List.range o.dvs.length).drop (i + 1), by rw [show List.range (i + 1) = (List.range o.dvs.length).take (i + 1) from by rw [List.take_range, ff (by omega)], fL]⟩
    unfold kG at h1
    rw [ht, dN, dh] at h1
    omega
  simp (disch := omega) only [↓RA, RZ, simprocAttr, hn, g1, g4, hS3.ld 0 rfl, (hS3.sl ho.2.2.1).idx, (hS3.sl ho.2.2.1).bh, (hS3.sl ho.2.2.1).ld, Dvn.cells, q1]
  refine Wp.al (fun n l H' => l.length = 38 ∧ get l 1 = (ptr A1 0 4) ∧ get l 2 = (.slice none 0 0) ∧ get l 4 = I i ∧ ∃ (k : Nat) (ow : Value), (n + k = sC o i) ∧ get l 5 = I ((iB o.dvs i).lo + k) ∧ get l 3 = ow ∧ St prog H H' [⟨ptr A1 0 4, 0, [(.string o.name), o.rv, o.dv, o.cv]⟩, ⟨ow, 2, pr (yQ o i k)⟩]) (sC o i) ?_ ?_
  ·simp (disch := omega) only [RB, RC, simprocAttr, hn, g1, g2, g4, g3]
   refine ⟨0, ov, by omega, by simp, rfl, ?_⟩
   rw [hpre]
   exact hS3
  rintro n l H3 ⟨hn, g1, g2, g4, k, ow, hk, g5, g3, hS4⟩
  simp (disch := omega) only [↓RA, RZ, simprocAttr, hn, g1, g4, g5, hS4.ld 0 rfl, (hS4.sl ho.2.2.1).idx, (hS4.sl ho.2.2.1).bh, (hS4.sl ho.2.2.1).ld, Dvn.cells]
  refine iA (fun q2 => ?_) (fun q2 => ?_)
  ·have hl := hlen k (by omega)
   simp (disch := omega) only [↓RA, RZ, simprocAttr, hn, g4, g5, g3, xP, q2]
   refine hS4.ai [I i, I ((iB o.dvs i).lo + k)] a1e b1A rfl rfl (by simp [Value.cells]) rfl rfl (by decide) (by decide) fun w1 H4 hS5 => ?_
   simp only [RT] at hS5
   simp (disch := omega) only [↓RA, RZ, simprocAttr, hn, q2]
   refine hS5.aq 1 rfl (hS5.rd 2 rfl) a1e (by rw [iF]; simp; omega) fun w2 H5 hS6 => ?_
   simp only [RT] at hS6
   simp (disch := omega) only [↓RA, RZ, simprocAttr, hn, g1, g2, g4, g5, q2]
   refine ⟨n - 1, by omega, k + 1, w2, by omega, by congr 1; omega, rfl, ?_⟩
   rw [a3w, jN]
   exact hS6.pick [0, 1] (by decide) rfl
  simp (disch := omega) only [↓RA, RZ, simprocAttr, hn, g1, g2, g4, g3, q2]
  have hkk : k = sC o i := by omega
  refine ⟨o.dvs.length - (i + 1), by omega, i + 1, ow, by omega, by simp, rfl, ?_⟩
  rw [← zU, ← hkk]
  exact hS4
 simp (disch := omega) only [↓RA, RZ, simprocAttr, hn, g3, c6q, q1]
 have hii : i = o.dvs.length := by omega
 subst hii
 exact hS3.pick [1] (by decide) rfl
end Go.Ds
namespace Go.Ds
open Go.Proofs
variable {H : Heap}
set_option maxRecDepth 10000
set_option maxHeartbeats 1000000
end Go.Ds
namespace Go.Ds
open Go.Proofs Go.Proofs.Tryz
variable {H : Heap}
set_option maxRecDepth 10000
set_option maxHeartbeats 1000000
theorem b2W (v w : Value) (xs ys : List Ct) (hv : Sl 2 jT H v xs) (hw : Sl 2 jT H w ys) (hl : xs.length < 1000000000) (hl2 : ys.length < 1000000000) :
 Fn prog 39 [v, w] H fun r H' => r = .bool (decide (xs = ys)) ∧ St prog H H' [] := by
 refine .aD func39 rfl (by kernel_rfl) (m := 26) rfl fun l hn g0 g1 => ?_
 simp (disch := omega) only [↓RA, RZ, simprocAttr, hn, g0, g1, ((sR H).sl hv).len, ((sR H).sl hw).len]
 refine iA (fun h1 => ?_) (fun h1 => ?_)
 ·simp (disch := omega) only [↓RA, RZ, simprocAttr, hn, c1a, h1]
  exact ⟨by rw [decide_eq_false]; intro e; rw [e] at h1; exact h1 rfl, (sR H)⟩
 simp (disch := omega) only [↓RA, RZ, simprocAttr, h1]
 refine Wp.al (fun n l H' => l.length = 26 ∧ get l 0 = v ∧ get l 1 = w ∧ ∃ (j : Nat), (n + j = xs.length ∧ ∀ q, q < j → iB xs q = iB ys q) ∧ get l 5 = I j ∧ St prog H H' []) xs.length ?_ ?_
 ·simp (disch := omega) only [RB, RC, simprocAttr, hn, g0, g1]
  exact ⟨0, ⟨by omega, fun q hq => absurd hq (dL _)⟩, rfl, (sR H)⟩
 rintro n l H1 ⟨hn, g0, g1, j, ⟨hj,hz⟩, g5, hS1⟩
 simp (disch := omega) only [↓RA, RZ, simprocAttr, hn, g0, g5, (hS1.sl hv).len]
 refine iA (fun q1 => ?_) (fun q1 => ?_)
 ·simp (disch := omega) only [↓RA, RC, simprocAttr, q1]
  refine Wp.drw jZ (by kernel_rfl) ?_
  simp (disch := omega) only [↓RA, RZ, simprocAttr, hn, g0, g1, g5, (hS1.sl hv).idx, (hS1.sl hv).ag, jT, (hS1.sl hw).idx, (hS1.sl hw).ag]
  refine iA (fun q2 => ?_) (fun q2 => ?_)
  ·simp (disch := omega) only [↓RA, RZ, simprocAttr, hn, c1a, q2]
   refine ⟨?_, hS1⟩
   rw [decide_eq_false]
   intro e
   rw [e] at q2
   exact q2 ⟨rfl, rfl⟩
  have q3 := dG.1 q2
  simp (disch := omega) only [↓RA, RZ, simprocAttr, hn, g0, g1, g5, q2]
  exact ⟨n - 1, by omega, j + 1, ⟨by omega, fun q hq => by rcases du.1 hq with e | e; (· exact hz q e); (· rw [e]; exact gz q3.1 q3.2)⟩, by simp, hS1⟩
 simp (disch := omega) only [↓RA, RZ, simprocAttr, hn, c1a, q1]
 exact ⟨by rw [decide_eq_true]; exact wU (by omega) fun q hq => hz q (by omega), hS1⟩
end Go.Ds
namespace Go.Ds
open Go.Proofs
variable {H : Heap}
set_option maxRecDepth 10000
set_option maxHeartbeats 1000000
end Go.Ds
