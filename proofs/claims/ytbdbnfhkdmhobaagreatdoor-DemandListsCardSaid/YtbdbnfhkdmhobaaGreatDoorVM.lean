/-
  A part of the proof of DemandLists.
-/
import Derived.Test.YtbdbnfhkdmhobaaGreatDoorVL
import Derived.Test.YtbdbnfhkdmhobaaGreatDoorVJ
import Derived.Test.YtbdbnfhkdmhobaaGreatDoorVB
set_option linter.unusedVariables false
set_option linter.unusedSimpArgs false
set_option linter.defProp false
set_option linter.unusedSectionVars false
namespace Go.Ds
open Go.Proofs Go.Proofs.Tryz
variable {H : Heap}
set_option maxRecDepth 10000
set_option maxHeartbeats 1000000
theorem a4u (v w : Value) (xs ys : List Int) (hv : Sl 1 (one I) H v xs) (hw : Sl 1 (one I) H w ys) (hl : xs.length < 1000000000) (hl2 : ys.length < 1000000000) :
 Fn prog 15 [v, w] H fun r H' => r = .bool (decide (xs = ys)) ∧ St prog H H' [] := by
 refine .aG func15 rfl (by kernel_rfl) (m := 26) rfl fun l hn g0 g1 => ?_
 simp (disch := omega) only [↓RA, RZ, simprocAttr, hn, g0, g1, ((sR H).sl hv).len, ((sR H).sl hw).len]
 refine iA (fun h1 => ?_) (fun h1 => ?_)
 ·simp (disch := omega) only [↓RA, RZ, simprocAttr, hn, c1E, h1]
  exact ⟨by rw [decide_eq_false]; intro e; rw [e] at h1; exact h1 rfl, (sR H)⟩
 simp (disch := omega) only [↓RA, RZ, simprocAttr, hn, g0, ((sR H).sl hv).len, h1]
 refine Wp.ak (fun n l H' => l.length = 26 ∧ get l 0 = v ∧ get l 1 = w ∧ get l 12 = I xs.length ∧ ∃ (j : Nat), (n + j = xs.length ∧ ∀ q, q < j → iB xs q = iB ys q) ∧ get l 13 = I j ∧ St prog H H' []) xs.length ?_ ?_
 ·simp (disch := omega) only [RB, RC, simprocAttr, hn, g0, g1]
  exact ⟨0, ⟨by omega, fun q hq => absurd hq (dO _)⟩, rfl, (sR H)⟩
 rintro n l H1 ⟨hn, g0, g1, g12, j, ⟨hj,hz⟩, g13, hS1⟩
 simp (disch := omega) only [↓RA, RB, simprocAttr, hn, g12, g13]
 refine iA (fun q1 => ?_) (fun q1 => ?_)
 ·simp (disch := omega) only [↓RA, RZ, simprocAttr, hn, g13, q1]
  refine Wp.drw jY (by kernel_rfl) ?_
  simp (disch := omega) only [↓RA, RZ, simprocAttr, hn, g0, g1, (hS1.sl hv).idx, (hS1.sl hv).ld, one, (hS1.sl hw).idx, (hS1.sl hw).ld]
  refine iA (fun q2 => ?_) (fun q2 => ?_)
  ·simp (disch := omega) only [↓RA, RZ, simprocAttr, hn, c1E, q2]
   refine ⟨?_, hS1⟩
   rw [decide_eq_false]
   intro e
   rw [e] at q2
   exact q2 rfl
  have q3 := dw.1 q2
  simp (disch := omega) only [↓RA, RZ, simprocAttr, hn, g0, g1, g12, g13, q2]
  exact ⟨n - 1, by omega, j + 1, ⟨by omega, fun q hq => by rcases du.1 hq with e | e; (· exact hz q e); (· rw [e]; exact q3)⟩, by simp, hS1⟩
 simp (disch := omega) only [↓RA, RZ, simprocAttr, hn, c1E, q1]
 exact ⟨by rw [decide_eq_true]; exact a9x (by omega) fun q hq => hz q (by omega), hS1⟩
def rgX : Reg := ⟨[1, 1], 1, 0⟩
def ksX : List Nt := [jX [40, 41], (0, 0)]
section
variable (w1 w2 d1 g1 s1 d2 g2 s2 w3 w4 w5 : Value)
theorem b1n : oF (exW 7 2 w1 w2 d1 g1 s1 d2 g2 s2 w3 w4 w5) rgX ksX = [(0, 4), (0, 5), (1, 16), (1, 17)] := by
 unfold oF
 rw [show rkE (exW 7 2 w1 w2 d1 g1 s1 d2 g2 s2 w3 w4 w5) rgX ksX = 0 from b0p .., if_pos rfl, a4z]
 kernel_rfl
theorem b8s : oY (exW 7 2 w1 w2 d1 g1 s1 d2 g2 s2 w3 w4 w5) rgX ksX = 18 := by
 unfold oY
 rw [b1n]
 kernel_rfl
theorem c3b : byF (exW 7 2 w1 w2 d1 g1 s1 d2 g2 s2 w3 w4 w5) rgX ksX = [14, 4] := by
 unfold byF
 rw [show rkE (exW 7 2 w1 w2 d1 g1 s1 d2 g2 s2 w3 w4 w5) rgX ksX = 0 from b0p .., if_pos rfl, b1n]
 kernel_rfl
theorem b9n (o : Org) (rg : Reg) : uA o rg = fun c => sF o (if a2f o rg c = 0 then dd (a3C ((b7r a3C o rg [c]).flatMap (b6I a3C o rg))) else []) := by
 funext c
 unfold uA ofF
 rw [a4z]
theorem c2q : grR (exW 7 2 w1 w2 d1 g1 s1 d2 g2 s2 w3 w4 w5) rgX = ((0, 36), 9) := by
 unfold grR
 rw [show mZ (exW 7 2 w1 w2 d1 g1 s1 d2 g2 s2 w3 w4 w5) rgX = 0 from a4Q .., if_pos rfl, b9n]
 kernel_rfl
end
theorem b0s : rgX.Ok := ⟨by decide, by decide, by decide, by decide⟩
theorem b5U : ∀ x ∈ ksX, Nt.Ok x := by
 intro x hx
 simp only [ksX, dS, dU, or_false] at hx
 rcases hx with rfl | rfl <;> exact ⟨by decide, by decide⟩
theorem xF (hG : Glob gH H) : Fn prog 6 [] H fun r H' => r = .bool true ∧ St prog H H' [] := by
 refine .cO func6 rfl (by kernel_rfl) (m := 89) rfl fun l hn => ?_
 simp (disch := omega) only [↓RA, RZ, simprocAttr]
 refine iG (a7O ((sR H).gl hG)) ?_
 rintro r H1 ⟨xa, xb, da, ga, sa, db, gb, sb, xr, xd, xc, rfl, hT1⟩
 have hS1 := (sR H).trans hT1
 simp only [RT] at hS1
 simp (disch := omega) only [↓RA, RZ, simprocAttr]
 refine hS1.eNew 4 [(.string ⟨#[]⟩), (.slice none 0 0), (.slice none 0 0), (.slice none 0 0)] rfl rfl rfl lO fun A1 H2 hS2 => ?_
 simp only [RT] at hS2
 simp (disch := omega) only [↓RA, RB, simprocAttr, hn]
 refine hS2.aa 11 rfl [(.string ⟨#[101]⟩), xr, xd, xc] rfl (by simp [OC, (hS2.rd 8 rfl).cells.2.1, (hS2.rd 9 rfl).cells.2.1, (hS2.rd 10 rfl).cells.2.1]) lO (by simp) fun H3 hS3 => ?_
 simp only [RT] at hS3
 simp (disch := omega) only [↓RA, RB, simprocAttr]
 refine Wp.aT jY [(1, 3), (1, 4)] (by kernel_rfl) (by kernel_rfl) ?_
 simp (disch := omega) only [↓RA, RZ, simprocAttr, hn, hS3.ld 11 rfl]
 refine hS3.ae [I 7] rI xG rfl rfl (by simp [Value.cells]) rfl rfl (by decide) (by decide) fun w1 H4 hS4 => ?_
 simp only [RT] at hS4
 simp (disch := omega) only [↓RA, RZ, simprocAttr, hn]
 refine iG ((a3a (c := 7) (hS4.gl hG) w1 (hS4.aw 12 rfl (fun _ => rfl))).tr) ?_
 rintro r H5 ⟨-, hT2⟩
 have hS5 := hS4.trans hT2
 simp only [RT] at hS5
 obtain ⟨ya, rfl⟩ : ∃ w, w = r := ⟨r, rfl⟩
 have hl1 : (a0n 1 1 xa xb).length = 2 := rfl
 simp (disch := omega) only [↓RA, RZ, simprocAttr, hn, (hS5.aw 8 rfl (fun _ => rfl)).idx, (hS5.aw 8 rfl (fun _ => rfl)).aY]
 refine hS5.aW 8 rfl [ya] (by rw [(hS5.rd 13 rfl).cells.1]) (by simp [(hS5.rd 13 rfl).cells.2.1]) b3e (by simp) (by simp [a0n, Rk.cells]) fun H6 hS6 => ?_
 simp only [RT] at hS6
 simp (disch := omega) only [↓RA, RZ, simprocAttr, hn, hS4.ld 11 rfl, hS5.ld 11 rfl]
 refine Wp.aT jY [(1, 3), (1, 4)] (by kernel_rfl) (by kernel_rfl) ?_
 simp (disch := omega) only [↓RA, RZ, simprocAttr, hn, hS6.ld 11 rfl]
 refine hS6.ae [I 2] rI xG rfl rfl (by simp [Value.cells]) rfl rfl (by decide) (by decide) fun w2 H7 hS7 => ?_
 simp only [RT] at hS7
 simp (disch := omega) only [↓RA, RZ, simprocAttr, hn]
 have hset1 : ((a0n 1 1 xa xb).flatMap Rk.cells).set 5 ya = (a0n 7 1 ya xb).flatMap Rk.cells := rfl
 simp only [Nat.zero_mul, fM, hset1] at hS7
 refine iG ((a3a (c := 2) (hS7.gl hG) w2 (hS7.aw 14 rfl (fun _ => rfl))).tr) ?_
 rintro r H8 ⟨-, hT3⟩
 have hS8 := hS7.trans hT3
 simp only [RT] at hS8
 obtain ⟨yb, rfl⟩ : ∃ w, w = r := ⟨r, rfl⟩
 have hl2 : (a0n 7 1 ya xb).length = 2 := rfl
 simp (disch := omega) only [↓RA, RZ, simprocAttr, hn, (hS8.aw 8 rfl (fun _ => rfl)).idx, (hS8.aw 8 rfl (fun _ => rfl)).aY]
 refine hS8.aW 8 rfl [yb] (by rw [(hS8.rd 15 rfl).cells.1]) (by simp [(hS8.rd 15 rfl).cells.2.1]) b3e (by simp) (by simp [a0n, Rk.cells]) fun H9 hS9 => ?_
 simp only [RT] at hS9
 simp (disch := omega) only [↓RA, RZ, simprocAttr, hn, hS7.ld 11 rfl, hS8.ld 11 rfl]
 have hset2 : ((a0n 7 1 ya xb).flatMap Rk.cells).set 11 yb = (a0n 7 2 ya yb).flatMap Rk.cells := rfl
 simp only [Nat.one_mul, Nat.reduceAdd, hset2] at hS9
 have h1 : Sl 1 (one I) H9 ya (List.replicate 25 7) := hS9.aw 13 rfl (fun _ => rfl)
 have h2 : Sl 1 (one I) H9 yb (List.replicate 25 2) := hS9.aw 15 rfl (fun _ => rfl)
 have h3 : Sl 2 Drw.cells H9 da [⟨0, 0⟩] := hS9.aw 2 rfl (fun _ => rfl)
 have h4 : Sl 3 Seg.cells H9 ga [⟨36, 48, da, [⟨0, 0⟩]⟩] := hS9.aw 3 rfl (fun _ => rfl)
 have h5 : Sl 4 Stp.cells H9 sa [⟨⟨#[97]⟩, 8, 1, ga, [⟨36, 48, da, [⟨0, 0⟩]⟩]⟩] := hS9.aw 4 rfl (fun _ => rfl)
 have h6 : Sl 2 Drw.cells H9 db [⟨1, 12⟩] := hS9.aw 5 rfl (fun _ => rfl)
 have h7 : Sl 3 Seg.cells H9 gb [⟨36, 48, db, [⟨1, 12⟩]⟩] := hS9.aw 6 rfl (fun _ => rfl)
 have h8 : Sl 4 Stp.cells H9 sb [⟨⟨#[97]⟩, 4, 1, gb, [⟨36, 48, db, [⟨1, 12⟩]⟩]⟩] := hS9.aw 7 rfl (fun _ => rfl)
 have h9 : Sl 6 Rk.cells H9 xr (a0n 7 2 ya yb) := hS9.aw 8 rfl (fun _ => rfl)
 have h10 : Sl 5 Dvn.cells H9 xd (b4i da ga sa db gb sb) := hS9.aw 9 rfl (fun _ => rfl)
 have h11 : Sl 5 Cpl.cells H9 xc b8W := hS9.aw 10 rfl (fun _ => rfl)
 have hS0 := hS9
 have hG2 := hS0.gl hG
 have hvA : Var H9 A1 4 [.string ⟨#[101]⟩, xr, xd, xc] := hS0.var 11 rfl
 obtain ⟨o, hoe⟩ : ∃ o, o = exW 7 2 ya yb da ga sa db gb sb xr xd xc := ⟨_, rfl⟩
 have ho : o.In H9 := by
  subst hoe
  refine ⟨h9, ?_, h10, ?_, h11, by simp [exW, a0n], by simp [exW, b4i], by simp [exW, b8W]⟩
  ·intro r hr
   simp only [exW, a0n, dS, dU, or_false] at hr
   rcases hr with rfl | rfl
   ·exact ⟨h1, by simp⟩
   ·exact ⟨h2, by simp⟩
  ·intro d hd
   simp only [exW, b4i, dS, dU, or_false] at hd
   rcases hd with rfl | rfl
   ·exact ⟨h5, fun s hs => by rw [dC.1 hs]; exact ⟨h4, fun g hg => by rw [dC.1 hg]; exact ⟨h3, by simp⟩, by simp⟩, by simp⟩
   ·exact ⟨h8, fun s hs => by rw [dC.1 hs]; exact ⟨h7, fun g hg => by rw [dC.1 hg]; exact ⟨h6, by simp⟩, by simp⟩, by simp⟩
 have hv0 : Var H9 A1 4 [.string o.name, o.rv, o.dv, o.cv] := by rw [hoe]; exact hvA
 have q1 : rkE o rgX ksX = 0 := by subst hoe; exact b0p ..
 have q2 : oY o rgX ksX = 18 := by subst hoe; exact b8s ..
 have q3 : byF o rgX ksX = [14, 4] := by subst hoe; exact c3b ..
 have q4 : grR o rgX = ((0, 36), 9) := by subst hoe; exact c2q ..
 have q5 : mZ o rgX = 0 := by subst hoe; exact a4Q ..
 have hG1 : ∀ z ∈ [(40 : Int), 41], isN z := fun z hz => by
  simp only [dS, dU, or_false] at hz
  rcases hz with rfl | rfl <;> exact ⟨by decide, by decide⟩
 clear hoe h1 h2 h3 h4 h5 h6 h7 h8 h9 h10 h11 hvA
 refine (sR H9).ae [(.int .u64 1), (.int .u64 1)] c1U c3V rfl rfl (by simp [Value.cells]) rfl rfl (by decide) (by decide) fun w3 H10 hS10 => ?_
 simp only [RT] at hS10
 simp (disch := omega) only [↓RA, RZ, simprocAttr, hn, b5t (hS10.rd 0 rfl).cells]
 refine hS10.eNew 3 [(.slice none 0 0), (.int .u64 0), (.int .u64 0)] rfl rfl rfl nJ fun A2 H11 hS11 => ?_
 simp only [RT] at hS11
 simp (disch := omega) only [↓RA, RB, simprocAttr, hn]
 refine hS11.aa 1 rfl [w3, (.int .u64 1), (.int .u64 0)] rfl (by simp [OC, (hS11.rd 0 rfl).cells.2.1]) nJ (by simp) fun H12 hS12 => ?_
 simp only [RT] at hS12
 simp (disch := omega) only [↓RA, RB, simprocAttr]
 refine hS12.ae [I 40, I 41] rI xG rfl rfl (by simp [Value.cells]) rfl rfl (by decide) (by decide) fun w4 H13 hS13 => ?_
 simp only [RT] at hS13
 simp (disch := omega) only [↓RA, RZ, simprocAttr, hn]
 refine hS13.cF (wR [40, 41] hG1 w4 (hS13.aw 2 rfl (fun _ => rfl)) (by simp)) fun H14 hS14 => ?_
 simp (disch := omega) only [↓RA, RZ, simprocAttr, hn]
 refine hS14.eNew 2 [(.int .u64 0), (.int .u64 0)] rfl rfl rfl nZ fun A3 H15 hS15 => ?_
 simp only [RT] at hS15
 simp (disch := omega) only [↓RA, RB, simprocAttr, hn]
 refine hS15.aa 3 rfl [(.int .u64 (jX [40, 41]).1), (.int .u64 (jX [40, 41]).2)] rfl rfl nZ (by simp) fun H16 hS16 => ?_
 simp only [RT] at hS16
 simp (disch := omega) only [↓RA, RZ, simprocAttr, hn, (hv0.ab hS16.ab).ag, hS16.ag 1 rfl, hS16.ag 3 rfl, b4V]
 refine hS16.ae [(.int .u64 (jX [40, 41]).1), (.int .u64 (jX [40, 41]).2), (.int .u64 0), (.int .u64 0)] b2N c0p rfl rfl (by simp [Value.cells]) rfl rfl (by decide) (by decide) fun w5 H17 hS17 => ?_
 simp only [RT] at hS17
 simp (disch := omega) only [↓RA, RZ, simprocAttr, hn]
 refine hS17.cF (a9E (hS17.gl hG2) o (ho.ab hS17) rgX w3 ⟨hS17.aw 0 rfl (fun _ => rfl), b0s⟩ w5 ksX ⟨hS17.aw 4 rfl (fun _ => rfl), by decide, b5U⟩) fun H18 hS18 => ?_
 rw [q1, q2]
 simp (disch := omega) only [↓RA, RZ, simprocAttr, hn, (hv0.ab hS18.ab).ag, hS18.ag 1 rfl, hS18.ag 3 rfl, b4V]
 refine hS18.ae [(.int .u64 (jX [40, 41]).1), (.int .u64 (jX [40, 41]).2), (.int .u64 0), (.int .u64 0)] b2N c0p rfl rfl (by simp [Value.cells]) rfl rfl (by decide) (by decide) fun w6 H19 hS19 => ?_
 simp only [RT] at hS19
 simp (disch := omega) only [↓RA, RZ, simprocAttr, hn]
 refine iG (b2S (hS19.gl hG2) o (ho.ab hS19) rgX w3 ⟨hS19.aw 0 rfl (fun _ => rfl), b0s⟩ w6 ksX ⟨hS19.aw 5 rfl (fun _ => rfl), by decide, b5U⟩) ?_
 rintro r H20 ⟨bv, rfl, hT6⟩
 have hS20 := hS19.trans hT6
 simp only [RT] at hS20
 rw [q1]
 rw [q3] at hS20
 simp (disch := omega) only [↓RA, RZ, simprocAttr, hn, (hv0.ab hS20.ab).ag, hS20.ag 1 rfl]
 refine hS20.cF (a6z o (ho.ab hS20) rgX w3 ⟨hS20.aw 0 rfl (fun _ => rfl), b0s⟩) fun H21 hS21 => ?_
 rw [q4, q5]
 dsimp only
 simp (disch := omega) only [↓RA, RZ, simprocAttr, hn]
 refine hS21.eNew 2 [I 0, I 0] rfl rfl rfl lQ fun A4 H22 hS22 => ?_
 simp only [RT] at hS22
 simp (disch := omega) only [↓RA, RB, simprocAttr, hn]
 refine hS22.aa 7 rfl [I 0, I 36] rfl rfl lQ (by simp) fun H23 hS23 => ?_
 simp only [RT] at hS23
 simp (disch := omega) only [↓RA, RZ, simprocAttr, hn]
 refine hS23.ae [I 14, I 4] rI xG rfl rfl (by simp [Value.cells]) rfl rfl (by decide) (by decide) fun w7 H24 hS24 => ?_
 simp only [RT] at hS24
 simp (disch := omega) only [↓RA, RZ, simprocAttr, hn]
 refine hS24.cF (a4u bv w7 [14, 4] [14, 4] (hS24.aw 6 rfl (fun _ => rfl)) (hS24.aw 8 rfl (fun _ => rfl)) (by simp) (by simp)) fun H25 hS25 => ?_
 rw [decide_eq_true rfl]
 simp (disch := omega) only [↓RA, RZ, simprocAttr, hn, hS25.ag 7 rfl, c3s]
 simp (disch := omega) only [RB, RC, simprocAttr, hn, tR6]
 exact hS0.forget.trans hS25.forget
end Go.Ds
namespace Go.Ds
open Go.Proofs
variable {H : Heap}
set_option maxRecDepth 10000
set_option maxHeartbeats 1000000
theorem Made.wide {p : Pln} {o : Org} (h : Made p o) : ∀ j, j < o.dvs.length → (iB o.dvs j).hi ≤ (iB o.dvs j).lo + 8 := fun j hj => (h.ok.dvs j hj).wide
end Go.Ds
namespace Go.Ds
open Go.Proofs Go.Proofs.Tryz
variable {H : Heap}
set_option maxRecDepth 100000
set_option maxHeartbeats 1000000
def c0X (P : Program) (t : TypeId) (n : Nat) : Bool := match P.underlying t with
 | some (.array m elem) => (match iE P elem with
   | some k => m * k == n && k != 0
   | none => false)
 | _ => false
theorem St.cG {P : Program} {H0 : Base} {os : List Ob} (hS : St P H0 H os) {t : TypeId} {v : Value} (n : Nat) (cs : List Value) {K : Value → Heap → Prop} (hc : v.cells.toList = cs) (hn : cs.length = n) (h1 : cs.all oneCell = true) (hs : iE P t = some n) (ha : c0X P t n = true)
 (h : ∀ A H1, St P H0 H1 (os ++ [⟨ptr A 0 n, 0, cs⟩]) → K (ptr A 0 n) H1) : a7c P H t v K := by
 subst hn
 unfold c0X at ha
 cases hu : P.underlying t with
 | none => rw [hu] at ha; cases ha
 | some u =>
 cases u with
 | array m elem =>
   rw [hu] at ha
   dsimp only at ha
   cases hz : iE P elem with
   | none => rw [hz] at ha; cases ha
   | some k =>
   rw [hz] at ha
   dsimp only at ha
   refine ⟨ptr H.length 0 cs.length, H.cons (.cells cs elem true cs.length 2), ?_, h _ _ (hS.add ?_ ?_ ?_ ?_)⟩
   ·simp only [qD, hu, hc, h1, hs, BEq.rfl, Bool.and_self, hz, ha, if_true, yZ]
   ·unfold OwnAt
    rw [if_pos rfl]
    exact .inl ⟨_, elem, _, 2, iN H _, dg _, rfl⟩
   ·simp [oQ]
   ·exact fun B hB => jM _ hB
   ·intro B hB
    simp [kI] at hB
    omega
 | _ => rw [hu] at ha; cases ha
theorem c4E : (sM prog [32, 54, 55] .e fun T => [(199 : Int), 200, 201, 202].all fun n => a4t (mB T (zX prog T 4000) [] (kO 32) [.int .u64 1, .int .u64 n] gH) n) = true := by kernel_rfl
theorem b9A (hG : Glob gH H) {m : Int} (hm : m ∈ [(199 : Int), 200, 201, 202]) : Fn prog 32 [.int .u64 1, .int .u64 m] H fun r H' => r = .tuple #[.int .u64 0, .int .u64 m] ∧ St prog H H' [] := by
 obtain ⟨T, hT, h⟩ := pO (ps := [(199 : Int), 200, 201, 202]) (f := fun T n => a4t (mB T (zX prog T 4000) [] (kO 32) [.int .u64 1, .int .u64 n] gH) n) c4E
 exact qT (by simp [flat, jB, iX]) rfl (a7s hT (h m hm)) hG
theorem a4Z (l : List Kv) : l.flatMap Kv.cells = l.map (·.v) := by
 induction l with
 | nil => rfl
 | cons k l ih => rw [dz, ih]; rfl
theorem b8j (hG : Glob gH H) (k : Kv) (v : Value) (hv : Sl 1 Kv.cells H v [k]) (hkn : k.In H) (N : Nat) (hN : 199 ≤ N ∧ N ≤ 202) : Fn prog 11 [v, I N] H fun r H' => St prog H H' [⟨r, 1, List.replicate N k.v⟩] := by
 have h1 : (([k] : List Kv).length : Int) = 1 := rfl
 have hNm : (N : Int) ∈ [(199 : Int), 200, 201, 202] := by simp only [dS, dU, or_false]; omega
 refine .aG func11 rfl (by kernel_rfl) (m := 48) rfl fun l hn g0 g1 => ?_
 simp (disch := omega) only [↓RA, RB, simprocAttr, hn, g1]
 refine iA (fun q0 => ?_) (fun q0 => ?_)
 ·exfalso; first | omega | (simp at q0; omega)
 have w1 : IntKind.wrap .u64 (N : Int) = (N : Int) := nP _ (by omega) (by omega)
 simp (disch := omega) only [↓RA, RZ, simprocAttr, hn, g0, g1, ((sR H).sl hv).len, q0, w1]
 refine (sR H).cF (b9A ((sR H).gl hG) hNm) fun H1 hS1 => ?_
 simp (disch := omega) only [↓RA, RZ, simprocAttr, hn, q0]
 refine iA (fun q1 => ?_) (fun q1 => ?_)
 ·exfalso; first | omega | (simp at q1; omega)
 have w2 : IntKind.wrap .i64 (N : Int) = (N : Int) := a8b _ (by omega) (by omega)
 simp (disch := omega) only [↓RA, RZ, simprocAttr, hn, q0, q1, w2]
 refine hS1.bB N c6X (by omega) fun w H2 hS2 => ?_
 simp only [RT] at hS2
 simp (disch := omega) only [↓RA, RZ, simprocAttr, hn, g0, q0, q1]
 refine hS2.bP 0 rfl (hS2.sl hv).rd (by simp; omega) (by simp [Kv.cells]) c1t fun H3 hS3 => ?_
 have e1 : min ([k].flatMap Kv.cells).length (List.replicate N (Value.slice none 0 0)).length = 1 := by simp [Kv.cells]; omega
 rw [e1] at hS3 ⊢
 have e2 := mN k.v (.slice none 0 0) 1 0 N (by omega)
 simp only [List.replicate_zero, eZ, Nat.sub_zero, fM] at e2
 have hS4 : St prog H H3 [⟨w, 1, List.replicate 1 k.v ++ List.replicate (N - 1) (.slice none 0 0)⟩] := by
  rw [← e2]
  exact hS3
 simp (disch := omega) only [↓RA, RZ, simprocAttr, hn, q0, q1]
 have e3 : ∀ x : Nat, List.replicate x k.v ++ List.replicate (N - x) (.slice none 0 0) = (List.replicate x k ++ List.replicate (N - x) (⟨.slice none 0 0, []⟩ : Kv)).flatMap Kv.cells := fun x => by
  rw [a4Z, dL, fO, fO]
 refine Wp.ak (fun n l H' => l.length = 48 ∧ get l 4 = (.slice none 0 0) ∧ ∃ (x : Nat), (n + x = N ∧ 1 ≤ x) ∧ get l 8 = I x ∧ get l 7 = w ∧ St prog H H' [⟨w, 1, (List.replicate x k ++ List.replicate (N - x) (⟨.slice none 0 0, []⟩ : Kv)).flatMap Kv.cells⟩]) (N - 1) ?_ ?_
 ·simp (disch := omega) only [RB, RC, simprocAttr, hn]
  rw [e3] at hS4
  exact ⟨1, ⟨by omega, by omega⟩, rfl, hS4⟩
 rintro n l H2 ⟨hn, g4, x, ⟨hx,hx1⟩, g8, g7, hS2⟩
 have hln : (List.replicate x k ++ List.replicate (N - x) (⟨.slice none 0 0, []⟩ : Kv)).length = N := by simp; omega
 simp (disch := omega) only [↓RA, RZ, simprocAttr, hn, g8, g7, (hS2.aw 0 rfl (fun _ => rfl)).len, hln]
 refine iA (fun q1 => ?_) (fun q1 => ?_)
 ·simp (disch := omega) only [↓RA, RC, simprocAttr, q1]
  refine Wp.drw jY (by kernel_rfl) ?_
  simp (disch := omega) only [↓RA, RZ, simprocAttr, hn, g8, g7, (hS2.aw 0 rfl (fun _ => rfl)).aP, (hS2.aw 0 rfl (fun _ => rfl)).aN, hln]
  have hxt : ((N : Int) - (x : Int)).toNat = N - x := by omega
  rw [hxt]
  have hlc : ((List.replicate x k ++ List.replicate (N - x) (⟨.slice none 0 0, []⟩ : Kv)).flatMap Kv.cells).length = N := by rw [a4Z, dK, hln]
  have hrd := hS2.rd 0 rfl
  have hsub := hrd.sub 0 x (by rw [hlc]; omega) (by intro e; rw [e] at hlc; simp only [ef] at hlc; omega)
  have e5 : (((List.replicate x k ++ List.replicate (N - x) (⟨.slice none 0 0, []⟩ : Kv)).flatMap Kv.cells).drop (0 * (0 + 1))).take (x * (0 + 1)) = List.replicate x k.v := by
   rw [← e3]
   simp []
  rw [e5] at hsub
  refine hS2.bC 0 rfl hsub x (N - x) (by rw [hlc]; omega) (by omega) (by simp; omega) c1t fun H4 hS5 => ?_
  have e6 : (List.replicate x k.v).take (min (List.replicate x k.v).length (N - x)) = List.replicate (min x (N - x)) k.v := by simp
  rw [e6] at hS5
  have e7 : min (List.replicate x k.v).length (N - x) = min x (N - x) := by simp
  rw [e7]
  have e8 := mN k.v (.slice none 0 0) (min x (N - x)) x N (by omega)
  have hS6 : St prog H H4 [⟨w, 1, (List.replicate (x + min x (N - x)) k ++ List.replicate (N - (x + min x (N - x))) (⟨.slice none 0 0, []⟩ : Kv)).flatMap Kv.cells⟩] := by
   rw [← e3, ← e8, e3]
   exact hS5
  simp (disch := omega) only [↓RA, RZ, simprocAttr, hn, g4, g7]
  exact ⟨N - (x + min x (N - x)), by omega, x + min x (N - x), ⟨by omega, by omega⟩, by simp, hS6⟩
 simp (disch := omega) only [↓RA, RZ, simprocAttr, hn, g7, c7e, q1]
 have e : x = N := by omega
 have hfin : ((List.replicate N k ++ List.replicate (N - N) (⟨.slice none 0 0, []⟩ : Kv)).flatMap Kv.cells) = List.replicate N k.v := by rw [← e3, gZ]; simp
 have h9 := hS2
 rw [e, hfin] at h9
 exact h9
end Go.Ds
namespace Go.Ds
open Go
section
variable {P : Program} {H : Heap}
theorem SWr.mono : ∀ (c : Code) {l : List Value} {H : Heap} {M Q : nF}, (∀ e l H, M e l H → Q e l H) → SWr P c l H M → SWr P c l H Q := by
 intro c
 induction c with
 | skip => intro l H M Q hm h; exact hm _ _ _ h
 | label t => intro l H M Q hm h; exact hm _ _ _ h
 | exit id => intro l H M Q hm h; exact hm _ _ _ h
 | ret => intro l H M Q hm h; exact hm _ _ _ h
 | seq a b iha ihb =>
   intro l H M Q hm h
   refine iha ?_ h
   intro e l1 H1 h1
   cases e with
   | normal => exact ihb hm h1
   | exit i => exact hm _ _ _ h1
   | ret => exact hm _ _ _ h1
 | block id b ih =>
   intro l H M Q hm h
   exact ih (fun e l1 H1 h1 => hm _ _ _ h1) h
 | cond c x y ihx ihy =>
   intro l H M Q hm h
   cases c with
   | tmp t => exact a2S h (ihx hm) (ihy hm)
   | _ => exact Wp.mono h hm
 | region id ops d =>
   intro l H M Q hm h
   cases d with
   | true => exact Wp.mono h hm
   | false => exact zY (fun l H h => hm _ _ _ h) _ _ _ h
 | _ => intro l H M Q hm h; exact Wp.mono h hm
def c4t (I : List Value → Heap → Prop) (Q : nF) : nF := fun e l1 H1 => match e with | .normal => I l1 H1 | e => Q e l1 H1
theorem rM (I : List Value → Heap → Prop) (Q : nF) (l : List Value) : c4t I Q .normal l H = I l H := rfl
end
end Go.Ds
namespace Go.Ds
open Go.Proofs Go.Proofs.Tryz
variable {H : Heap}
set_option maxRecDepth 10000
set_option maxHeartbeats 1000000
def Kv.Ix (H : Heap) (X : Nat → Prop) (k : Kv) : Prop := Slx 2 ntc H X k.v k.l
def PK (o : Org) (k : Kv) : Prop := ∃ c : Nat → Nat, (∀ i, c i < 65536) ∧ k.l = nQ o c
theorem b4w (W : Nat → Int) {i m : Nat} (h1 : (xB W i).1 = (m : Int)) (h0 : i = 0 → m = 0) (h2 : 0 < i → m < i ∧ (xB W i).2 = W m) :
 (W m < W i → (xB W (i + 1)).1 = (i : Int) ∧ (xB W (i + 1)).2 = W i) ∧ (¬ W m < W i → (xB W (i + 1)).1 = (m : Int) ∧ (xB W (i + 1)).2 = W m) := by
 rw [a4g]
 unfold b9y
 by_cases hi : i = 0
 ·have := h0 hi
  subst hi this
  rw [if_pos (Or.inl rfl)]
  exact ⟨fun _ => ⟨rfl, rfl⟩, fun _ => ⟨rfl, rfl⟩⟩
 ·obtain ⟨h3, h4⟩ := h2 (by omega)
  rw [h4]
  constructor
  ·intro h
   rw [if_pos (Or.inr h)]
   exact ⟨rfl, rfl⟩
  ·intro h
   rw [if_neg (by rintro (h5 | h5); (· exact hi h5); (· exact h h5))]
   exact ⟨h1, h4⟩
theorem b8N {P : Program} {a b : Code} {l : List Value} {Q : nF} (I : List Value → Heap → Prop) (hm : ∀ l H, I l H → SW P b l H Q) (h : SW P a l H (c4t I Q)) : SW P (.seq a b) l H Q :=
 SWr.mono a (fun e l H h => by
  cases e with
  | normal => exact hm _ _ h
  | exit i => exact h
  | ret => exact h) h
theorem a5f (hG : Glob gH H) (p : Pln) (hp : p.In H) (hk : p.Ok) (b : Nat → Nat) (hb : ∀ i, b i < 256) (lv : Value) (l3 : List K3) (hl3 : K3I H lv l3) :
 Fn prog 3 [.agg #[p.rv, p.dv, p.cv], .agg #[.int .u8 (b 0), .int .u8 (b 1), .int .u8 (b 2), .int .u8 (b 3), .int .u8 (b 4)], lv] H fun r H' => r = .bool true ∧ St prog H H' [] := by
 have hlb := hl3.len
 refine .bd func3 rfl (by kernel_rfl) (m := 184) rfl fun l hn g0 g1 g2 => ?_
 simp (disch := omega) only [↓RA, RB, simprocAttr, g0]
 refine (sR H).eNew 3 [p.rv, p.dv, p.cv] rfl rfl (by simp [((sR H).sl hp.1).cells.2.1, ((sR H).sl hp.2.1).cells.2.1, ((sR H).sl hp.2.2.2.1).cells.2.1]) b9j fun A1 H1 hS1 => ?_
 simp only [RT] at hS1
 simp (disch := omega) only [↓RA, RB, simprocAttr, g1]
 refine hS1.eNew 5 [(.int .u8 (b 0)), (.int .u8 (b 1)), (.int .u8 (b 2)), (.int .u8 (b 3)), (.int .u8 (b 4))] rfl rfl rfl c3o fun A2 H2 hS2 => ?_
 simp only [RT] at hS2
 simp (disch := omega) only [↓RA, RZ, simprocAttr]
 refine hS2.cF (xF (hS2.gl hG)) fun H3 hS3 => ?_
 simp (disch := omega) only [↓RA, RZ, simprocAttr, hn, hS3.ag 0 rfl]
 refine hS3.cF (b8X p (hp.ab hS3)) fun H4 hS4 => ?_
 simp (disch := omega) only [↓RA, RZ, simprocAttr, hn]
 refine pH (fun h1 => ?_) (fun h1 => ?_)
 ·simp (disch := omega) only [↓RA, RZ, simprocAttr, hn, h1]
  refine hS4.cF (xF (hS4.gl hG)) fun H5 hS5 => ?_
  simp (disch := omega) only [↓RA, RZ, simprocAttr, hn, tR3, h1]
  exact hS5.forget
 have hf : wK p = true := by simpa using h1
 simp (disch := omega) only [↓RA, RZ, simprocAttr, hn, g2, (hS4.sl hl3.sl).len, h1]
 refine iA (fun h2 => ?_) (fun h2 => ?_)
 ·simp (disch := omega) only [↓RA, RZ, simprocAttr]
  refine hS4.cF (xF (hS4.gl hG)) fun H6 hS6 => ?_
  simp (disch := omega) only [↓RA, RZ, simprocAttr, hn, tR3, h1, h2]
  exact hS6.forget
 simp (disch := omega) only [↓RA, RZ, simprocAttr, hn, hS4.ag 0 rfl, h1, h2]
 refine iG (b3a (hS4.gl hG) p (hp.ab hS4) hk hf) ?_
 rintro r H7 ⟨o, rfl, ho, hm, hT5⟩
 have hS7 := hS4.trans hT5
 simp only [RT] at hS7
 have hS0 := hS7
 have hG2 := hS0.gl hG
 have hl4 := hl3.ab hS0
 have hoe := hm.ok.organE
 have hrg := b1V b hoe
 have hf0 := Org.aO hoe
 obtain ⟨k1, k2, k3⟩ := hm.small hf
 have hok := b3q (o := o) hb k2
 simp (disch := omega) only [↓RA, RZ, simprocAttr]
 refine (sR H7).eNew 4 [(.string ⟨#[]⟩), (.slice none 0 0), (.slice none 0 0), (.slice none 0 0)] rfl rfl rfl lO fun A3 H8 hS8 => ?_
 simp only [RT] at hS8
 simp (disch := omega) only [↓RA, RZ, simprocAttr, hn, h1, h2]
 refine hS8.aa 0 rfl [(.string o.name), o.rv, o.dv, o.cv] rfl (by simp [OC, (hS8.sl ho.1).cells.2.1, (hS8.sl ho.2.2.1).cells.2.1, (hS8.sl ho.2.2.2.2.1).cells.2.1]) lO (by simp) fun H9 hS9 => ?_
 simp only [RT] at hS9
 simp (disch := omega) only [↓RA, RZ, simprocAttr, hn, hS9.ag 0 rfl, ((hS0.var 1 rfl).ab hS9.ab).ag, h1, h2]
 have hD := b0g o (ho.ab hS9) k1 k2 k3 b hb
 generalize uW o b = rg at hrg hok hD
 refine iG (hD) ?_
 rintro r H10 ⟨sv, rfl, hT6⟩
 have hS10 := hS9.trans hT6
 simp only [RT] at hS10
 simp (disch := omega) only [↓RA, RZ, simprocAttr]
 refine hS10.eNew 3 [(.slice none 0 0), (.int .u64 0), (.int .u64 0)] rfl rfl rfl nJ fun A4 H11 hS11 => ?_
 simp only [RT] at hS11
 simp (disch := omega) only [↓RA, RZ, simprocAttr, hn, h1, h2]
 refine hS11.aa 2 rfl [sv, (.int .u64 rg.cpl), (.int .u64 rg.off)] rfl (by simp [OC, (hS11.rd 1 rfl).cells.2.1]) nJ (by simp) fun H12 hS12 => ?_
 simp only [RT] at hS12
 simp (disch := omega) only [↓RA, RZ, simprocAttr, hn, g2, (hS12.sl hl4.sl).len, h1, h2]
 have hS13 := hS12.nil 0
 simp only [RT] at hS13
 refine Wp.ak (fun n l H' => l.length = 184 ∧ get l 4 = (ptr A2 0 5) ∧ get l 6 = (.bool false) ∧ get l 7 = (ptr A3 0 4) ∧ get l 8 = (ptr A4 0 3) ∧ get l 39 = lv ∧ get l 40 = I l3.length ∧ ∃ (i : Nat) (ls : List Kv) (gv : Value), (n + i = l3.length ∧ ls.length = i ∧ (∀ k ∈ ls, PK o k) ∧ ∀ k ∈ ls, k.Ix H' (nb [ptr A3 0 4, sv, ptr A4 0 3, gv])) ∧ get l 41 = I i ∧ get l 9 = gv ∧ St prog H7 H' [⟨ptr A3 0 4, 0, [(.string o.name), o.rv, o.dv, o.cv]⟩, ⟨sv, 1, rg.stops.flatMap (one u64)⟩, ⟨ptr A4 0 3, 0, [sv, (.int .u64 rg.cpl), (.int .u64 rg.off)]⟩, ⟨gv, 1, ls.flatMap Kv.cells⟩]) l3.length ?_ ?_
 ·simp (disch := omega) only [RB, RC, simprocAttr, hn]
  exact ⟨0, [], .slice none 0 0, ⟨by omega, rfl, by simp, by simp⟩, rfl, rfl, hS13⟩
 rintro n l H13 ⟨hn, g4, g6, g7, g8, g39, g40, i, ls, gv, ⟨hi,hll,hpk,hkx⟩, g41, g9, hS14⟩
 simp (disch := omega) only [↓RA, RB, simprocAttr, hn, g40, g41]
 refine iA (fun q1 => ?_) (fun q1 => ?_)
 ·have hil : i < l3.length := by omega
  obtain ⟨B, hBB, hS15⟩ := hS14.aB (os := [⟨ptr A3 0 4, 0, _⟩, ⟨sv, 1, _⟩, ⟨ptr A4 0 3, 0, _⟩, ⟨gv, 1, _⟩])
  simp (disch := omega) only [↓RA, RZ, simprocAttr, hn, g39, g41, ((hS14.aj hBB hS15).sl hl4.sl).idx, ((hS14.aj hBB hS15).sl hl4.sl).ag, K3.cells, q1]
  refine hS15.cG 3 [(.int .u16 0), (.int .u16 0), (.int .u16 0)] rfl rfl rfl b9f (by kernel_rfl) fun A5 H14 hS16 => ?_
  simp only [RT] at hS16
  simp (disch := omega) only [↓RA, RZ, simprocAttr, hn, q1]
  refine hS16.aa 4 rfl [(.int .u16 (iB l3 i).a), (.int .u16 (iB l3 i).b), (.int .u16 (iB l3 i).c)] rfl rfl b9f (by simp) fun H15 hS17 => ?_
  simp only [RT] at hS17
  simp (disch := omega) only [↓RA, RZ, simprocAttr, hn, g7, g9, hS17.ag 0 rfl, hS17.ag 4 rfl, q1]
  have hP := b0x o (ho.ab (hS14.aj hBB hS17)) hf0 (iB l3 i).fn (hl4.ok _ (iD hil)).fn
  refine iG (hP.tr) ?_
  rintro r H16 ⟨-, hT7⟩
  have hS18 := hS17.trans hT7
  simp only [RT] at hS18
  obtain ⟨kv, rfl⟩ : ∃ w, w = r := ⟨r, rfl⟩
  simp (disch := omega) only [↓RA, RZ, simprocAttr, hn, q1]
  refine hS18.ae [kv] c3W c7l rfl rfl (by first | (simp [(hS18.rd 5 rfl).cells.1]; done) | simp [Value.cells, (hS18.rd 5 rfl).cells.1]) (by first | (simp [(hS18.rd 5 rfl).cells.1]; done) | simp [Value.cells, (hS18.rd 5 rfl).cells.1]) (by simp [(hS18.rd 5 rfl).cells.2.1]) (by decide) (by decide) fun w1 H17 hS19 => ?_
  simp only [RT] at hS19
  simp (disch := omega) only [↓RA, RZ, simprocAttr, hn, q1]
  refine hS19.al 3 rfl (hS19.rd 6 rfl) c3W (by rw [iO (n := 1) (cel := Kv.cells) (fun _ => rfl)]; simp; omega) fun w2 H18 hS20 => ?_
  simp only [RT] at hS20
  simp (disch := omega) only [↓RA, RZ, simprocAttr, hn, g4, g6, g7, g8, g39, g40, g41, q1]
  have hxv := hS20.cK (cel := ntc) (os' := [⟨ptr A3 0 4, 0, _⟩, ⟨sv, 1, _⟩, ⟨ptr A4 0 3, 0, _⟩, ⟨w2, 1, _⟩]) 5 rfl (fun _ => rfl) [0, 1, 2, 3] (by decide) rfl
  have hS21 := hS20.pick (os' := [⟨ptr A3 0 4, 0, _⟩, ⟨sv, 1, _⟩, ⟨ptr A4 0 3, 0, _⟩, ⟨w2, 1, _⟩]) [0, 1, 2, 3] (by decide) rfl
  have hkp := hS21.kept hBB
  have hkx9 : ∀ k ∈ ls ++ [(⟨kv, nQ o (iB l3 i).fn⟩ : Kv)], k.Ix H18 (nb [ptr A3 0 4, sv, ptr A4 0 3, w2]) := yL (fun k hk => Slx.step (hkx k hk) hkp) hxv
  refine ⟨n - 1, by omega, i + 1, ls ++ [⟨kv, nQ o (iB l3 i).fn⟩], w2, ⟨by omega, by simp [hll], yL hpk ⟨_, (hl4.ok _ (iD hil)).fn, rfl⟩, hkx9⟩, by simp, rfl, ?_⟩
  rw [qZ]
  exact (hS14.aj hBB hS21)
 have hS1 := hS14
 have hG3 := hS1.gl hG2
 have hrI : rg.In H13 sv := ⟨hS1.aw 1 rfl (fun _ => rfl), hok⟩
 have hgv : Sl 1 Kv.cells H13 gv ls := hS1.aw 3 rfl (fun _ => rfl)
 have hKs : ∀ k ∈ ls, k.In H13 := fun k hk => by
  obtain ⟨c, _, e⟩ := hpk k hk
  exact ⟨(hkx k hk).1, by rw [e, tK]; omega, by rw [e]; exact a7l hf0 c⟩
 have ho2 := ho.ab hS1
 have hl5 : ls.length ≤ 5 := by omega
 have hv4 := (hS0.var 1 rfl).ab hS1.ab
 have hvO := hS1.var 0 rfl
 have hvR := hS1.var 2 rfl
 have hb3 := hb 3
 have hb4 := hb 4
 have b1 : (b 4 : Int).tmod 8 = ((b 4 % 8 : Nat) : Int) := (ed _ _).symm
 have b2 : (b 3 : Int).tmod 4 = ((b 3 % 4 : Nat) : Int) := (ed _ _).symm
 have b3 : (b 4 : Int).tdiv 8 = ((b 4 / 8 : Nat) : Int) := (Int.ofNat_tdiv _ _).symm
 have b4 : ((b 4 / 8 : Nat) : Int).tmod 4 = ((b 4 / 8 % 4 : Nat) : Int) := (ed _ _).symm
 simp only [b1s, a4F, a0o, xH]
 show SW prog (Code.seq _ _) _ _ _
 refine b8N (fun l H' => l.length = 184 ∧ get l 6 = (.bool false) ∧ get l 7 = (ptr A3 0 4) ∧ get l 8 = (ptr A4 0 3) ∧ ∃ (wv : Value) (ls2 : List Kv), (Sl 1 Kv.cells H' wv ls2 ∧ (ls2 = ls ∨ ∃ (k : Kv) (N : Nat), k ∈ ls ∧ 199 ≤ N ∧ N ≤ 202 ∧ ls2 = List.replicate N k)) ∧ get l 9 = wv ∧ St prog H13 H' []) ?_ ?_
 ·rintro l H19 ⟨hn, g6, g7, g8, wv, ls2, hW, g9, hS22⟩
  obtain ⟨hW1, hW2⟩ := hW
  have hk2 : ∀ k ∈ ls2, k ∈ ls := by
   rcases hW2 with e | ⟨k, N, h1, _, _, e⟩
   ·rw [e]; exact fun _ h => h
   ·rw [e]; exact fun x hx => by rw [List.eq_of_mem_replicate hx]; exact h1
  have hPK : ∀ k ∈ ls2, PK o k := fun k h => hpk k (hk2 k h)
  have hle2 : ls2.length ≤ 202 := by
   rcases hW2 with e | ⟨k, N, _, _, h1, e⟩
   ·rw [e]; omega
   ·rw [e, eK]; omega
  have hS2 := hS22
  have hG4 := hS2.gl hG3
  have hKs2 : ∀ k ∈ ls2, k.In H19 := fun k h => (hKs k (hk2 k h)).ab hS2
  have ho3 := ho2.ab hS2
  have hrI2 := hrI.ab hS2
  have hvO2 := hvO.ab hS2.ab
  have hvR2 := hvR.ab hS2.ab
  have hkE : ∀ k ∈ ls2, mE o k.l = 0 := fun k h => by
   obtain ⟨c, _, e⟩ := hPK k h
   rw [e]
   exact b0v hoe c
  simp (disch := omega) only [↓RA, RZ, simprocAttr, hn, g7, g8, g9, (hvO2.ab (sR H19).ab).ag, (hvR2.ab (sR H19).ab).ag]
  refine iG (a8M ((sR H19).gl hG4) o (ho3.ab (sR H19)) rg sv (hrI2.ab (sR H19)) wv ls2 ((sR H19).sl hW1) (by omega) (fun k hk => (hKs2 k hk).ab (sR H19))) ?_
  rintro r H20 ⟨av, rfl, hT8⟩
  have hS23 := (sR H19).trans hT8
  simp only [RT] at hS23
  simp (disch := omega) only [↓RA, RZ, simprocAttr, hn, g7, g8, g9, (hvO2.ab hS23.ab).ag, (hvR2.ab hS23.ab).ag]
  refine hS23.cF (b8h (hS23.gl hG4) o (ho3.ab hS23) rg sv (hrI2.ab hS23) wv ls2 (hS23.sl hW1) (by omega) (fun k hk => (hKs2 k hk).ab hS23)) fun H21 hS24 => ?_
  simp (disch := omega) only [↓RA, RZ, simprocAttr, hn, g9, (hS24.sl hW1).len]
  refine iA (fun n1 => ?_) (fun n1 => ?_)
  ·have e1 : pD o rg ls2 = 4 := by unfold pD; rw [if_neg (by rw [hoe]; simp), if_neg (by rw [hrg]; simp), if_pos (by omega)]
   have e2 : rD o rg ls2 = 4 := by unfold rD; rw [e1, if_pos (by decide)]
   have e3 : wC o rg ls2 = [] := by unfold wC; rw [e1, if_neg (by decide)]
   have e4 : oH o rg ls2 = (0, 0) := by unfold oH; rw [e2, if_neg (by decide)]
   have e5 : ((wC o rg ls2).length : Int) = 0 := by rw [e3]; rfl
   have e6 : (oH o rg ls2).1 = 0 := by rw [e4]
   have e7 : (oH o rg ls2).2 = 0 := by rw [e4]
   simp (disch := omega) only [↓RA, RZ, simprocAttr, hn, n1, e1, e2, e6, e7]
   simp (disch := omega) only [↓RA, RZ, simprocAttr, hn, (hS24.aw 0 rfl (fun _ => rfl)).len, tR3, n1, e1, e2, e5, e6, e7]
   exact hS0.forget.trans (hS1.forget.trans (hS2.forget.trans hS24.forget))
  have e1 : pD o rg ls2 = 0 := by unfold pD; rw [if_neg (by rw [hoe]; simp), if_neg (by rw [hrg]; simp), if_neg (by omega)]; exact kH _ _ fun j hj => hkE _ (iD hj)
  have e3 : wC o rg ls2 = ls2.map fun k => oY o rg k.l := by unfold wC; rw [if_pos e1]
  obtain ⟨W, hWd⟩ : ∃ W : Nat → Int, W = fun j => oY o rg (iB ls2 j).l := ⟨_, rfl⟩
  have hWi : ∀ j, W j = oY o rg (iB ls2 j).l := fun j => by rw [hWd]
  have hrl : rg.stops.length = o.dvs.length := (mC hrg).2
  have hdf : ∀ k ∈ ls2, oY o rg k.l = sF o (lK o rg (iF k.l)) := fun k h => by
   unfold oY oF
   rw [if_pos (by unfold rkE; rw [if_neg (by rw [hrg]; simp)]; exact hkE k h)]
  have hsame : 5 < ls2.length → ∀ j, j < ls2.length → W j = W 0 := fun h5 j hj => by
   rcases hW2 with e | ⟨k, N, _, _, _, e⟩
   ·rw [e] at h5; omega
   ·have f : ∀ j, j < ls2.length → iB ls2 j = k := fun j hj => List.eq_of_mem_replicate (n := N) (by rw [← e]; exact iD hj)
    rw [hWi, hWi, f j hj, f 0 (by omega)]
  have hnO : ∀ i j, j < i → i ≤ ls2.length → iB ((ls2.take i).map fun k => oY o rg k.l) j = W j := fun i j h1 h2 => by
   rw [hWi, b0M _ (by rw [ff]; omega), a3g _ _ _ h1]
  have hol0 : ∀ i, i ≤ ls2.length → (((ls2.take i).map fun k => oY o rg k.l).flatMap (one I)).length = i := fun i h => by rw [nO, dK, dK, ff]; omega
  have hlT : ∀ i, i ≤ ls2.length → ((ls2.take i).map fun k => oY o rg k.l).length = i := fun i h => by rw [dK, ff]; omega
  simp (disch := omega) only [↓RA, RZ, simprocAttr, hn, g9, (hS24.sl hW1).len, n1]
  have hS25 := hS24.nil 0
  simp only [RT] at hS25
  refine Wp.ak (fun n l H' => l.length = 184 ∧ get l 6 = (.bool false) ∧ get l 7 = (ptr A3 0 4) ∧ get l 8 = (ptr A4 0 3) ∧ get l 9 = wv ∧ get l 12 = av ∧ get l 13 = I (pD o rg ls2) ∧ get l 14 = I (oH o rg ls2).1 ∧ get l 15 = I (oH o rg ls2).2 ∧ get l 16 = I (rD o rg ls2) ∧ get l 110 = wv ∧ get l 111 = I ls2.length ∧ ∃ (i : Nat) (m : Nat) (ov : Value), (n + i = ls2.length ∧ (xB W i).1 = (m : Int) ∧ (i = 0 → m = 0) ∧ (0 < i → m < i ∧ (xB W i).2 = W m)) ∧ get l 112 = I i ∧ get l 17 = ov ∧ get l 18 = I m ∧ St prog H19 H' [⟨av, 1, (wC o rg ls2).flatMap (one I)⟩, ⟨ov, 1, ((ls2.take i).map fun k => oY o rg k.l).flatMap (one I)⟩]) ls2.length ?_ ?_
  ·simp (disch := omega) only [RB, RC, simprocAttr, hn, g6, g7, g8, g9]
   exact ⟨0, 0, .slice none 0 0, ⟨by omega, rfl, fun _ => rfl, fun h => absurd h (eO 0)⟩, rfl, rfl, rfl, hS25⟩
  rintro n l H22 ⟨hn, g6, g7, g8, g9, g12, g13, g14, g15, g16, g110, g111, i, m, ov, ⟨hi,c1,c2,c3⟩, g112, g17, g18, hS26⟩
  have hol := hol0 i (by omega)
  have hli := hlT i (by omega)
  simp (disch := omega) only [↓RA, RB, simprocAttr, hn, g111, g112]
  refine iA (fun q1 => ?_) (fun q1 => ?_)
  ·have hil : i < ls2.length := by omega
   have hap : ((ls2.take i).map fun k => oY o rg k.l).flatMap (one I) ++ [I (W i)] = ((ls2.take (i + 1)).map fun k => oY o rg k.l).flatMap (one I) := by
    rw [hWi, pR ls2 i hil, dL, dB]
    rfl
   obtain ⟨c4, c5⟩ := b4w W c1 c2 c3
   have hmi : m ≤ i := by
    by_cases h : i = 0
    ·have := c2 h; omega
    ·have := (c3 (by omega)).1; omega
   have hlj := hlT (i + 1) (by omega)
   have hn3 := hnO (i + 1) i (by omega) (by omega)
   have hn4 := hnO (i + 1) m (by omega) (by omega)
   simp (disch := omega) only [↓RA, RZ, simprocAttr, hn, g110, g112, (hS26.sl hW1).idx, (hS26.sl hW1).ld, Kv.cells, q1]
   refine jD (fun q2 => ?_) (fun q2 => ?_)
   ·simp (disch := omega) only [↓RA, RZ, simprocAttr, hn, g9, (hS26.sl hW1).len, q1, q2]
    refine iA (fun q3 => ?_) (fun q3 => ?_)
    ·have hn5 : iB ((ls2.take i).map fun k => oY o rg k.l) 0 = W i := by rw [hnO i 0 (by omega) (by omega), hsame (by omega) i hil]
     simp (disch := omega) only [↓RA, RZ, simprocAttr, hn, g17, (hS26.aw 1 rfl (fun _ => rfl)).idx, (hS26.aw 1 rfl (fun _ => rfl)).ld, one, q1, q2, q3]
     refine hS26.ae [I (iB ((ls2.take i).map fun k => oY o rg k.l) 0)] rI xG rfl rfl (by simp [Value.cells]) rfl rfl (by decide) (by decide) fun w3 H23 hS27 => ?_
     simp only [RT] at hS27
     simp (disch := omega) only [↓RA, RZ, simprocAttr, hn, q1, q2, q3]
     refine hS27.al 1 rfl (hS27.rd 2 rfl) rI (by rw [hol]; simp only [dT, ef]; omega) fun w4 H24 hS28 => ?_
     simp only [RT] at hS28
     simp (disch := omega) only [↓RA, RZ, simprocAttr, hn, g6, g7, g8, g9, g12, g13, g14, g15, g16, g110, g111, g112, g18, q1, q2, q3]
     rw [hn5, hap] at hS28
     have hnl : ¬ W m < W i := by
      rw [hsame (by omega) i hil, hsame (by omega) m (by omega)]
      omega
     exact ⟨n - 1, by omega, i + 1, m, w4, ⟨by omega, (c5 hnl).1, by omega, fun _ => ⟨by omega, (c5 hnl).2⟩⟩, by simp, rfl, rfl, hS28.pick [0, 1] (by decide) rfl⟩
    simp (disch := omega) only [↓RA, RZ, simprocAttr, hn, g7, g8, g17, (hvO2.ab hS26.ab).ag, (hvR2.ab hS26.ab).ag, q1, q2, q3]
    refine hS26.cF (b4U o (ho3.ab hS26) hoe rg sv (hrI2.ab hS26) hrl (iB ls2 i).v (iB ls2 i).l ((hKs2 _ (iD hil)).ab hS26) (hkE _ (iD hil))) fun H25 hS29 => ?_
    rw [← hdf _ (iD hil), ← hWi i]
    simp (disch := omega) only [↓RA, RZ, simprocAttr, hn, q1, q2, q3]
    refine hS29.ae [I (W i)] rI xG rfl rfl (by simp [Value.cells]) rfl rfl (by decide) (by decide) fun w5 H26 hS30 => ?_
    simp only [RT] at hS30
    simp (disch := omega) only [↓RA, RZ, simprocAttr, hn, q1, q2, q3]
    refine hS30.al 1 rfl (hS30.rd 2 rfl) rI (by rw [hol]; simp only [dT, ef]; omega) fun w6 H27 hS31 => ?_
    simp only [RT] at hS31
    simp (disch := omega) only [↓RA, RZ, simprocAttr, hn, q1, q2, q3]
    refine Wp.drw jY (by kernel_rfl) ?_
    simp (disch := omega) only [↓RA, RZ, simprocAttr, hn]
    rw [hap] at hS31
    simp (disch := omega) only [↓RA, RZ, simprocAttr, hn, g18, (hS31.aw 1 rfl (fun _ => rfl)).idx, (hS31.aw 1 rfl (fun _ => rfl)).ld, one, hn3, hn4]
    refine iA (fun q4 => ?_) (fun q4 => ?_)
    ·simp (disch := omega) only [↓RA, RZ, simprocAttr, hn, g6, g7, g8, g9, g12, g13, g14, g15, g16, g110, g111, g112, q4]
     exact ⟨n - 1, by omega, i + 1, i, w6, ⟨by omega, (c4 q4).1, by omega, fun _ => ⟨by omega, (c4 q4).2⟩⟩, by simp, rfl, rfl, hS31.pick [0, 1] (by decide) rfl⟩
    simp (disch := omega) only [↓RA, RZ, simprocAttr, hn, g6, g7, g8, g9, g12, g13, g14, g15, g16, g110, g111, g112, g18, q4]
    exact ⟨n - 1, by omega, i + 1, m, w6, ⟨by omega, (c5 q4).1, by omega, fun _ => ⟨by omega, (c5 q4).2⟩⟩, by simp, rfl, rfl, hS31.pick [0, 1] (by decide) rfl⟩
   simp (disch := omega) only [↓RA, RZ, simprocAttr, hn, g7, g8, g17, (hvO2.ab hS26.ab).ag, (hvR2.ab hS26.ab).ag, q1, q2]
   refine hS26.cF (b4U o (ho3.ab hS26) hoe rg sv (hrI2.ab hS26) hrl (iB ls2 i).v (iB ls2 i).l ((hKs2 _ (iD hil)).ab hS26) (hkE _ (iD hil))) fun H28 hS32 => ?_
   rw [← hdf _ (iD hil), ← hWi i]
   simp (disch := omega) only [↓RA, RZ, simprocAttr, hn, q1, q2]
   refine hS32.ae [I (W i)] rI xG rfl rfl (by simp [Value.cells]) rfl rfl (by decide) (by decide) fun w7 H29 hS33 => ?_
   simp only [RT] at hS33
   simp (disch := omega) only [↓RA, RZ, simprocAttr, hn, q1, q2]
   refine hS33.al 1 rfl (hS33.rd 2 rfl) rI (by rw [hol]; simp only [dT, ef]; omega) fun w8 H30 hS34 => ?_
   simp only [RT] at hS34
   simp (disch := omega) only [↓RA, RZ, simprocAttr, hn, q1, q2]
   refine Wp.drw jY (by kernel_rfl) ?_
   simp (disch := omega) only [↓RA, RZ, simprocAttr, hn]
   rw [hap] at hS34
   simp (disch := omega) only [↓RA, RZ, simprocAttr, hn, g18, (hS34.aw 1 rfl (fun _ => rfl)).idx, (hS34.aw 1 rfl (fun _ => rfl)).ld, one, hn3, hn4]
   refine iA (fun q4 => ?_) (fun q4 => ?_)
   ·simp (disch := omega) only [↓RA, RZ, simprocAttr, hn, g6, g7, g8, g9, g12, g13, g14, g15, g16, g110, g111, g112, q4]
    exact ⟨n - 1, by omega, i + 1, i, w8, ⟨by omega, (c4 q4).1, by omega, fun _ => ⟨by omega, (c4 q4).2⟩⟩, by simp, rfl, rfl, hS34.pick [0, 1] (by decide) rfl⟩
   simp (disch := omega) only [↓RA, RZ, simprocAttr, hn, g6, g7, g8, g9, g12, g13, g14, g15, g16, g110, g111, g112, g18, q4]
   exact ⟨n - 1, by omega, i + 1, m, w8, ⟨by omega, (c5 q4).1, by omega, fun _ => ⟨by omega, (c5 q4).2⟩⟩, by simp, rfl, rfl, hS34.pick [0, 1] (by decide) rfl⟩
  have hil : i = ls2.length := by omega
  have e8 : ((ls2.take i).map fun k => oY o rg k.l) = wC o rg ls2 := by rw [e3, hil, dM]
  have e9 : (wC o rg ls2).length = ls2.length := by rw [e3, dK]
  rw [e8] at hS26
  simp (disch := omega) only [↓RA, RZ, simprocAttr, hn, g12, g13, g17, q1, e1]
  refine hS26.cF (a4u av ov (wC o rg ls2) (wC o rg ls2) (hS26.aw 0 rfl (fun _ => rfl)) (hS26.aw 1 rfl (fun _ => rfl)) (by omega) (by omega)) fun H31 hS35 => ?_
  rw [decide_eq_true rfl]
  simp (disch := omega) only [↓RA, RZ, simprocAttr, hn, g9, (hS35.sl hW1).len, q1]
  refine iA (fun z1 => ?_) (fun z1 => ?_)
  ·have e2 : rD o rg ls2 = 13 := by unfold rD; rw [e1, if_neg (by decide), if_pos (by omega)]
   have e4 : oH o rg ls2 = (0, 0) := by unfold oH; rw [e2, if_neg (by decide)]
   have e6 : (oH o rg ls2).1 = 0 := by rw [e4]
   have e7 : (oH o rg ls2).2 = 0 := by rw [e4]
   simp (disch := omega) only [↓RA, RZ, simprocAttr, hn, g14, g15, g16, z1, e2, e6, e7]
   simp (disch := omega) only [RB, RC, simprocAttr, hn, tR3]
   exact hS0.forget.trans (hS1.forget.trans (hS2.forget.trans hS35.forget))
  have e2 : rD o rg ls2 = 0 := by unfold rD; rw [e1, if_neg (by decide), if_neg (by omega)]
  have e4 : oH o rg ls2 = xB W ls2.length := by unfold oH; rw [if_pos e2, ← hWd]
  rw [hil] at c1 c3
  obtain ⟨c6, c7⟩ := c3 (by omega)
  have e6 : (oH o rg ls2).1 = (m : Int) := by rw [e4]; exact c1
  have e7 : (oH o rg ls2).2 = W m := by rw [e4]; exact c7
  have hn6 : iB (wC o rg ls2) m = W m := by rw [← e8]; exact hnO i m (by omega) (by omega)
  simp (disch := omega) only [↓RA, RZ, simprocAttr, hn, g14, g15, g16, g17, g18, q1, z1, e2, e6, e7]
  simp (disch := omega) only [↓RA, RZ, simprocAttr, hn, (hS35.aw 1 rfl (fun _ => rfl)).idx, (hS35.aw 1 rfl (fun _ => rfl)).ld, one, tR3, q1, z1, hn6]
  exact hS0.forget.trans (hS1.forget.trans (hS2.forget.trans hS35.forget))
 simp (disch := omega) only [↓RA, RZ, simprocAttr, hn, g4, (hv4.ab (sR H13).ab).ld, q1, b1]
 refine jD (fun m1 => ?_) (fun m1 => ?_)
 ·simp (disch := omega) only [↓RA, RZ, simprocAttr, hn, g4, (hv4.ab (sR H13).ab).ld, q1, b2, m1]
  refine jD (fun m2 => ?_) (fun m2 => ?_)
  ·simp (disch := omega) only [↓RA, RZ, simprocAttr, hn, g9, ((sR H13).sl hgv).len, q1, m1, m2]
   refine iA (fun m3 => ?_) (fun m3 => ?_)
   ·simp (disch := omega) only [↓RA, RC, simprocAttr, q1, m1, m2, m3]
    refine Wp.drw jY (by kernel_rfl) ?_
    simp (disch := omega) only [↓RA, RZ, simprocAttr, hn, g4, g9, ((sR H13).sl hgv).aN, (hv4.ab (sR H13).ab).ld, rM, b3, b4]
    have ht1 : ls.take 1 = [iB ls 0] := by
     have := pR ls 0 (by omega)
     simpa using this
    have hsub := hgv.ch 1 (by omega) (by omega)
    rw [ht1] at hsub
    have hNc : ((199 + b 4 / 8 % 4 : Nat) : Int) = 199 + ((b 4 / 8 % 4 : Nat) : Int) := by omega
    have hR := b8j ((sR H13).gl hG3) (iB ls 0) (mR gv 1 0 1) ((sR H13).sl hsub) ((hKs _ (iD (by omega))).ab (sR H13)) (199 + b 4 / 8 % 4) (by omega)
    rw [hNc] at hR
    refine iG (hR.tr) ?_
    rintro r H32 ⟨-, hT13⟩
    have hS36 := (sR H13).trans hT13
    simp only [RT] at hS36
    obtain ⟨gw, rfl⟩ : ∃ w, w = r := ⟨r, rfl⟩
    have hfl : List.replicate (199 + b 4 / 8 % 4) (iB ls 0).v = (List.replicate (199 + b 4 / 8 % 4) (iB ls 0)).flatMap Kv.cells := by rw [a4Z, fO]
    rw [hfl] at hS36
    simp (disch := omega) only [↓RA, RZ, simprocAttr, hn, g6, g7, g8]
    exact ⟨gw, _, ⟨hS36.aw 0 rfl (fun _ => rfl), Or.inr ⟨iB ls 0, 199 + b 4 / 8 % 4, iD (by omega), by omega, by omega, rfl⟩⟩, rfl, hS36.forget⟩
   simp (disch := omega) only [↓RA, RZ, simprocAttr, hn, g6, g7, g8, g9, q1, rM, m1, m2, m3]
   exact ⟨gv, ls, ⟨(sR H13).sl hgv, Or.inl rfl⟩, rfl, (sR H13)⟩
  simp (disch := omega) only [↓RA, RZ, simprocAttr, hn, g6, g7, g8, g9, q1, rM, m1, m2]
  exact ⟨gv, ls, ⟨(sR H13).sl hgv, Or.inl rfl⟩, rfl, (sR H13)⟩
 simp (disch := omega) only [↓RA, RZ, simprocAttr, hn, g6, g7, g8, g9, q1, rM, m1]
 exact ⟨gv, ls, ⟨(sR H13).sl hgv, Or.inl rfl⟩, rfl, (sR H13)⟩
end Go.Ds
