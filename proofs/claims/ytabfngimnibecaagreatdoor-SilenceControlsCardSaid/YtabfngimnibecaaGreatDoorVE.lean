/-
  A part of the proof of SilenceControls.
-/
import Derived.Test.YtabfngimnibecaaGreatDoorVD
import Derived.Test.YtabfngimnibecaaGreatDoorVB
set_option linter.unusedVariables false
set_option linter.unusedSimpArgs false
set_option linter.defProp false
set_option linter.unusedSectionVars false
namespace Go.Ds
open Go.Proofs Go.Proofs.Tryz
variable {H : Heap}
set_option maxRecDepth 10000
set_option maxHeartbeats 1000000
theorem Wp.aL {P : Program} {c c' : Code} {l l' : List Value} {Q : mP} (hc : c' = c) (hl : l' = l) (h : SW P c l H Q) : Wp P c' l' H Q := by
 subst hc hl; exact h.wp
theorem Wp.bB {P : Program} {c : Code} {l : List Value} {Q : mP} (h : ∀ l', l' = l → Wp P c l' H Q) : Wp P c l H Q := h l rfl
theorem Wp.bd {P : Program} {t : Tmp} {ps : Array Tmp} {assign body : Code} {l : List Value} {Q : mP} {k : FuncId} {captured : List Value} (hg : get l t = .func (.func k) #[] captured.toArray)
 (h : ∀ r : Loop, r.state = .ready → r.pending = none → r.tmps = l.toArray → r.params = ps → r.assign = assign → r.body = body →
   FnS P k ([.func (.yield H.length) #[] #[]] ++ captured) (H.cons (.loop r)) (b2P P l H.length Q)) : Wp P (.rangeFunc (.tmp t) ps assign body) l H Q :=
 Wp.range (first := []) rfl hg (h (a9p l ps assign body) rfl rfl rfl rfl rfl rfl)
theorem Lp.bh {P : Program} {B : Base} {L : Nat} {r : Loop} {H2 : Heap} {ls rest ls' : List Ob} (h : Lp P B L r H (ls ++ rest)) (h2 : St P ⟨H, pP ls⟩ H2 ls') : Lp P B L r H2 (ls' ++ rest) where
 st := h.st.frame h2
 get := by rw [h2.other (iP h.get) fun o ho => h.ne o (List.mem_append_left _ ho)]; exact h.get
 lo := h.lo
 ne o ho hb := by
  rcases dB.1 ho with ho | ho
  ·have hl := iP h.get
   rcases h2.new o ho L hb with h3 | ⟨o', ho', hb'⟩
   ·have h3 : H.length ≤ L := h3
    omega
   ·exact h.ne o' (List.mem_append_left _ ho') hb'
  ·exact h.ne o (eR _ ho) hb
theorem Lp.left {P : Program} {B : Base} {L : Nat} {r : Loop} {ls rest : List Ob} (h : Lp P B L r H (ls ++ rest)) : Lp P B L r H ls := h.sub (List.sublist_append_left _ _)
theorem OwnAt.var {P : Program} {A n : Nat} {cs : List Value} (h : OwnAt P H ⟨ptr A 0 n, 0, cs⟩) : Var H A n cs := by
 unfold OwnAt at h
 rw [if_pos rfl] at h
 rcases h with ⟨A', ty, lo, ver, h1, h2, h3⟩ | ⟨A', es, ck, ver, _, _, h3⟩
 ·simp only [ptr, Value.pointer.injEq, du, Addr.mk.injEq] at h3
  obtain ⟨rfl, _, hn⟩ := h3
  exact ⟨hn, ty, true, lo, ver, h1, h2⟩
 ·cases h3
theorem a3y (x : Nat) (hx : x < 18446744073709551616) (A : Nat) (f : Value) (J : Nat → Heap → Prop) (h0 : J 0 H) (hg : ∀ j H1, J j H1 → Var H1 A 1 [.int .u64 x])
 (hs : ∀ j H1, j < 64 → x.testBit j = false → J j H1 → J (j + 1) H1)
 (hf : ∀ j H1, j < 64 → x.testBit j = true → J j H1 → qP prog f [I j] H1 fun v H2 => v = .bool true ∧ J (j + 1) H2) :
 FnS prog 230 [f, ptr A 0 1] H fun _ H' => J 64 H' := by
 refine FnS.aX func230 rfl (by kernel_rfl) fun l hl => ?_
 have hn : l.length = 19 := by rw [hl]; rfl
 have g0 : get l 0 = f := by rw [hl]; rfl
 have g1 : get l 1 = (ptr A 0 1) := by rw [hl]; rfl
 clear hl
 simp (disch := omega) only [↓RA, RB, simprocAttr]
 refine Wp.al (fun n l H' => l.length = 19 ∧ get l 0 = f ∧ get l 1 = ptr A 0 1 ∧ ∃ j : Nat, n + j = 64 ∧ get l 4 = I j ∧ J j H') 64 ?_ ?_
 ·simp (disch := omega) only [RB, RC, simprocAttr, hn, g0, g1]
  exact ⟨0, rfl, rfl, h0⟩
 rintro n l H9 ⟨hn, g0, g1, j, hj, g4, hJ⟩
 have hV := hg j H9 hJ
 simp (disch := omega) only [↓RA, RB, simprocAttr, hn, g4]
 refine gJ (fun q1 => ?_) (fun q1 => ?_)
 ·have e1 := a1s x j hx
  have e2 := zQ (x >>> j) (sP j hx)
  have e3 := tb x j
  simp (disch := omega) only [↓RA, RZ, simprocAttr, hn, g1, g4, hV.ld, q1, e1, e2]
  refine hK (fun q2 => ?_) (fun q2 => ?_)
  ·simp (disch := omega) only [↓RA, RZ, simprocAttr, hn, g0, q1, q2]
   refine a1A (hf j H9 (by omega) (by rw [e3]; exact decide_eq_true (by omega)) hJ) ?_
   rintro r H10 ⟨rfl, hJ2⟩
   simp (disch := omega) only [↓RA, RZ, simprocAttr, hn, g0, g1, g4, q1, q2]
   exact ⟨n - 1, by omega, j + 1, by omega, by simp, hJ2⟩
  simp (disch := omega) only [↓RA, RZ, simprocAttr, hn, g0, g1, g4, q1, q2]
  exact ⟨n - 1, by omega, j + 1, by omega, by simp, hs j _ (by omega) (by rw [e3]; exact decide_eq_false (by omega)) hJ⟩
 simp (disch := omega) only [↓RA, RZ, simprocAttr, c2W, q1]
 have e : j = 64 := by omega
 exact e ▸ hJ
theorem zL {n i : Nat} (h : i < n) : ∃ t, List.range n = List.range i ++ i :: t := by
 refine ⟨(List.range n).drop (i + 1), ?_⟩
 have h1 : (List.range n).take i = List.range i := by rw [List.take_range, fI (by omega)]
 have h2 := eL (l := List.range n) (i := i) (by simpa using h)
 rw [gw] at h2
 rw [← h1, ← h2, fW]
def a0m (o : Org) (i : Nat) : Nat := ((gK o.dvs i).hi - (gK o.dvs i).lo + 1).toNat
def kAt (o : Org) (i k : Nat) : Ct := ((i : Int), (gK o.dvs i).lo + (k : Int))
def a2b (o : Org) (i k : Nat) : List Ct := (List.range i).flatMap (uM o) ++ (List.range k).map (kAt o i)
theorem b0n (o : Org) (i k : Nat) : a2b o i (k + 1) = a2b o i k ++ [kAt o i k] := by
 unfold a2b
 rw [eE, dN, dM]
 rfl
theorem a9L (o : Org) (i : Nat) : a2b o i (a0m o i) = (List.range (i + 1)).flatMap (uM o) := by
 unfold a2b
 rw [eE, dU, dD, fq, dh]
 rfl
theorem a6X (o : Org) {i k : Nat} (hi : i < o.dvs.length) (hk : k < a0m o i) : ∃ e, pR o = a2b o i k ++ kAt o i k :: e := by
 obtain ⟨t1, e1⟩ := zL hi
 obtain ⟨t2, e2⟩ := zL hk
 refine ⟨t2.map (kAt o i) ++ t1.flatMap (uM o), ?_⟩
 unfold pR a2b
 rw [e1, dU, dD]
 have : uM o i = (List.range (a0m o i)).map (kAt o i) := rfl
 rw [this, e2, dN, dR]
 simp
theorem a9E (o : Org) (hf : o.Fine) (rg : Reg) (sv : Value) (AO AR : Nat) (f : Value) (J : List Ct → List Ob → Heap → Prop) (h0 : J [] [] H)
 (hg : ∀ d xs H1, J d xs H1 → Var H1 AO 4 [.string o.name, o.rv, o.dv, o.cv] ∧ o.In H1 ∧ Var H1 AR 3 [sv, .int .u64 rg.cpl, .int .u64 rg.off] ∧ rg.In H1 sv ∧ ∀ x ∈ xs, OwnAt prog H1 x)
 (hst : ∀ d xs H1 H2 ys, J d xs H1 → St prog H1 H2 ys → J d (xs ++ ys) H2)
 (hdr : ∀ d xs ys H1, J d (xs ++ ys) H1 → J d xs H1)
 (hy : ∀ d c e xs H1 H2 pv, pR o = d ++ c :: e → J d xs H1 → St prog H1 H2 [] → Slx 2 kS H2 (fun B => H1.length ≤ B) pv (ofF o rg c) → qP prog f [.agg #[I c.1, I c.2], pv] H2 fun v H3 => v = .bool true ∧ J (d ++ [c]) xs H3) :
 FnS prog 174 [f, ptr AO 0 4, ptr AR 0 3] H fun _ H' => J (pR o) [] H' := by
 have hG0 := hg _ _ _ h0
 refine FnS.aX func174 rfl (by kernel_rfl) fun l hl => ?_
 have hn : l.length = 44 := by rw [hl]; rfl
 have g0 : get l 0 = f := by rw [hl]; rfl
 have g1 : get l 1 = (ptr AO 0 4) := by rw [hl]; rfl
 have g2 : get l 2 = (ptr AR 0 3) := by rw [hl]; rfl
 clear hl
 simp (disch := omega) only [↓RA, RZ, simprocAttr, hn, g1, ((hG0.1.ae (sR H).ae)).ld, ((sR H).sl hG0.2.1.2.2.1).len]
 refine Wp.al (fun n l H' => l.length = 44 ∧ get l 0 = f ∧ get l 1 = ptr AO 0 4 ∧ get l 2 = ptr AR 0 3 ∧ get l 11 = o.dv ∧ get l 12 = I o.dvs.length ∧ ∃ i : Nat, n + i = o.dvs.length ∧ get l 13 = I i ∧ J ((List.range i).flatMap (uM o)) [] H') o.dvs.length ?_ ?_
 ·simp (disch := omega) only [RB, RC, simprocAttr, hn, g0, g1, g2]
  exact ⟨0, by omega, rfl, h0⟩
 rintro n l H9 ⟨hn, g0, g1, g2, g11, g12, i, hi, g13, hJ⟩
 obtain ⟨hV1, hO1, hV2, hR1, _⟩ := hg _ _ _ hJ
 have hdl := hO1.2.2.2.2.2.2.1
 simp (disch := omega) only [↓RA, RB, simprocAttr, hn, g12, g13]
 refine gJ (fun q1 => ?_) (fun q1 => ?_)
 ·have hki := hf.keys i (by omega)
  simp (disch := omega) only [↓RA, RZ, simprocAttr, hn, g11, g13, ((sR H9).sl hO1.2.2.1).idx, ((sR H9).sl hO1.2.2.1).ab, Dvn.cells, q1]
  refine (sR H9).eNew 5 [(.string ⟨#[]⟩), (.bool false), I 0, I 0, (.slice none 0 0)] rfl rfl rfl a1Y fun A1 H1 hS1 => ?_
  simp only [RT] at hS1
  simp (disch := omega) only [↓RA, RZ, simprocAttr, hn, q1]
  refine hS1.aa 0 rfl [(.string (gK o.dvs i).name), (.bool (gK o.dvs i).pedal), I (gK o.dvs i).lo, I (gK o.dvs i).hi, (gK o.dvs i).sv] rfl (by simp [OC, (hS1.sl (hO1.2.2.2.1 (gK o.dvs i) (gN (by omega))).1).cells.2.1]) a1Y (by simp) fun H2 hS2 => ?_
  simp only [RT] at hS2
  simp (disch := omega) only [↓RA, RZ, simprocAttr, hn, hS2.ld 0 rfl, q1]
  have hJ1 := hst _ _ _ _ _ hJ hS2
  have hcn : (a0m o i : Int) = (gK o.dvs i).hi - (gK o.dvs i).lo + 1 := by unfold a0m; omega
  refine Wp.al (fun n l H' => l.length = 44 ∧ get l 0 = f ∧ get l 1 = ptr AO 0 4 ∧ get l 2 = ptr AR 0 3 ∧ get l 4 = I i ∧ get l 5 = ptr A1 0 5 ∧ get l 11 = o.dv ∧ get l 12 = I o.dvs.length ∧ get l 13 = I i ∧ ∃ k : Nat, n + k = a0m o i ∧ get l 6 = I ((gK o.dvs i).lo + k) ∧ J (a2b o i k) [⟨ptr A1 0 5, 0, [.string (gK o.dvs i).name, .bool (gK o.dvs i).pedal, I (gK o.dvs i).lo, I (gK o.dvs i).hi, (gK o.dvs i).sv]⟩] H') (a0m o i) ?_ ?_
  ·simp (disch := omega) only [RB, RC, simprocAttr, hn, g0, g1, g2, g11, g12, g13]
   refine ⟨0, by omega, by simp, ?_⟩
   have e : a2b o i 0 = (List.range i).flatMap (uM o) := by unfold a2b; simp
   rw [e]
   exact hJ1
  rintro n l H10 ⟨hn, g0, g1, g2, g4, g5, g11, g12, g13, k, hk, g6, hJ2⟩
  obtain ⟨hV3, hO3, hV4, hR3, hX3⟩ := hg _ _ _ hJ2
  have hV5 := (hX3 _ (dJ.2 rfl)).var
  simp (disch := omega) only [↓RA, RZ, simprocAttr, hn, g5, g6, (hV5.ae (sR H10).ae).ld]
  refine gJ (fun q2 => ?_) (fun q2 => ?_)
  ·simp (disch := omega) only [↓RA, RZ, simprocAttr, hn, g4, g6, a1f, q2]
   refine (sR H10).eNew 2 [I 0, I 0] rfl rfl rfl pU fun A2 H3 hS3 => ?_
   simp only [RT] at hS3
   simp (disch := omega) only [↓RA, RZ, simprocAttr, hn, q2]
   refine hS3.aa 0 rfl [I i, I ((gK o.dvs i).lo + k)] rfl rfl pU (by simp) fun H4 hS4 => ?_
   simp only [RT] at hS4
   simp (disch := omega) only [↓RA, RZ, simprocAttr, hn, g1, g2, (hV3.ae hS4.ae).ab, (hV4.ae hS4.ae).ab, hS4.ab 0 rfl, q2]
   have hJ3 := hdr _ _ _ _ (hst _ _ _ _ _ hJ2 hS4)
   refine gP (b8p o (hO3.ae hS4) rg sv (hR3.ae hS4) (kAt o i k)) ?_
   rintro r H5 ⟨pv, rfl, hx, hT1⟩
   have hS5 := hS4.trans hT1
   simp only [RT] at hS5
   simp (disch := omega) only [↓RA, RZ, simprocAttr, hn, g0, hS5.ab 0 rfl, q2]
   obtain ⟨e, he⟩ := a6X o (i := i) (k := k) (by omega) (by omega)
   refine a1A (hy _ (kAt o i k) e _ _ _ pv he hJ3 hT1 hx) ?_
   rintro r H13 ⟨rfl, hJ4⟩
   rw [← b0n] at hJ4
   simp (disch := omega) only [↓RA, RZ, simprocAttr, hn, g0, g1, g2, g4, g5, g6, g11, g12, g13, q2]
   exact ⟨n - 1, by omega, k + 1, by omega, by congr 1; omega, hJ4⟩
  simp (disch := omega) only [↓RA, RZ, simprocAttr, hn, g0, g1, g2, g11, g12, g13, q2]
  have e : k = a0m o i := by omega
  rw [e, a9L] at hJ2
  exact ⟨o.dvs.length - (i + 1), by omega, i + 1, by omega, by simp, hdr _ [] _ _ hJ2⟩
 simp (disch := omega) only [↓RA, RZ, simprocAttr, c0K, q1]
 have e : i = o.dvs.length := by omega
 subst e
 exact hJ
def jN (x n : Nat) : List Nat := (List.range n).filter fun i => x.testBit i
theorem kD (x n : Nat) : jN x (n + 1) = jN x n ++ (if x.testBit n then [n] else []) := by
 unfold jN
 rw [eE, eV, List.filter_cons, List.filter_nil]
theorem lI (x n : Nat) : (jN x n).length ≤ n := by
 unfold jN
 refine dz (ed _ _) ?_
 simp
theorem a3m (x : Nat) : Fn prog 173 [.int .u64 x] H fun r H' => ∃ A, r = .func (.func 230) #[] #[ptr A 0 1] ∧ St prog H H' [⟨ptr A 0 1, 0, [.int .u64 x]⟩] := by
 refine .aY func173 rfl (by kernel_rfl) (m := 4) rfl fun l hn g0 => ?_
 simp (disch := omega) only [↓RA, RB, simprocAttr, g0]
 refine (sR H).eNew 1 [(.int .u64 x)] rfl rfl rfl a0d fun A1 H1 hS1 => ?_
 simp only [RT] at hS1
 simp (disch := omega) only [↓RA, RZ, simprocAttr, hn, c0y]
 exact ⟨A1, rfl, hS1⟩
abbrev jY (l : List Ctl) : List Value := l.flatMap Ctl.cells
theorem kZ (l : List Ctl) : (jY l).length = l.length * 3 := gV (n := 3) (fun _ => rfl) l
theorem pQ (l : List Ctl) (x : Ctl) : jY (l ++ [x]) = jY l ++ [I x.kind, I x.dv, I x.ix] := by
 unfold jY
 rw [dU]
 rfl
def vA (rg : Reg) (d : Nat) : List Ctl := (List.range d).flatMap fun d => (oR (gK rg.stops d)).map (nD d)
theorem yP (rg : Reg) (d : Nat) : vA rg (d + 1) = vA rg d ++ (jN (gK rg.stops d) 64).map (nD d) := by
 unfold vA
 rw [eE, dU, dD, fq, dh]
 rfl
theorem a0q (rg : Reg) : ∀ d, (vA rg d).length ≤ d * 64
 | 0 => by simp [vA]
 | d + 1 => by
   have := a0q rg d
   have h2 := lI (gK rg.stops d) 64
   rw [yP, di, dr]
   omega
theorem qV (rg : Reg) (sv : Value) (hr : rg.In H sv) (hl : rg.stops.length ≤ 60) : Fn prog 105 [.agg #[sv, .int .u64 rg.cpl, .int .u64 rg.off]] H fun r H' => St prog H H' [⟨r, 3, jY (gO rg)⟩] := by
 refine .aY func105 rfl (by kernel_rfl) (m := 46) rfl fun l hn g0 => ?_
 simp (disch := omega) only [↓RA, RB, simprocAttr, g0]
 refine (sR H).eNew 3 [sv, (.int .u64 rg.cpl), (.int .u64 rg.off)] rfl rfl (by simp [OC, ((sR H).sl hr.1).cells.2.1]) iK fun A1 H1 hS1 => ?_
 simp only [RT] at hS1
 simp (disch := omega) only [↓RA, RZ, simprocAttr]
 refine hS1.eNew 1 [(.slice none 0 0)] rfl rfl rfl b5g fun A2 H2 hS2 => ?_
 simp only [RT] at hS2
 simp (disch := omega) only [↓RA, RZ, simprocAttr, hn, hS2.ld 0 rfl, (hS2.sl hr.1).len]
 have hS3 := hS2.nil 2
 simp only [RT] at hS3
 refine Wp.al (fun n l H' => l.length = 46 ∧ get l 1 = (ptr A1 0 3) ∧ get l 2 = (.slice none 0 0) ∧ get l 3 = (ptr A2 0 1) ∧ get l 10 = sv ∧ get l 11 = I rg.stops.length ∧ ∃ (d : Nat) (ov : Value), (n + d = rg.stops.length) ∧ get l 12 = I d ∧ St prog H H' [⟨ptr A1 0 3, 0, [sv, (.int .u64 rg.cpl), (.int .u64 rg.off)]⟩, ⟨ptr A2 0 1, 0, [ov]⟩, ⟨ov, 3, jY (vA rg d)⟩]) rg.stops.length ?_ ?_
 ·simp (disch := omega) only [RB, RC, simprocAttr, hn]
  exact ⟨0, .slice none 0 0, by omega, rfl, hS3⟩
 rintro n l H3 ⟨hn, g1, g2, g3, g10, g11, d, ov, hd, g12, hS4⟩
 simp (disch := omega) only [↓RA, RB, simprocAttr, hn, g11, g12]
 refine gJ (fun q1 => ?_) (fun q1 => ?_)
 ·have hsx := hr.2.2.1 _ (gN (xs := rg.stops) (j := d) (by omega))
  have hal := a0q rg d
  simp (disch := omega) only [↓RA, RZ, simprocAttr, hn, g10, g12, (hS4.sl hr.1).idx, (hS4.sl hr.1).ld, one, u64, q1]
  refine hS4.eNew 1 [I 0] rfl rfl rfl tS3 fun A3 H4 hS5 => ?_
  simp only [RT] at hS5
  simp (disch := omega) only [↓RA, RZ, simprocAttr, hn, q1]
  refine hS5.aa 3 rfl [I d] rfl rfl tS3 (by simp) fun H5 hS6 => ?_
  simp only [RT] at hS6
  simp (disch := omega) only [↓RA, RZ, simprocAttr, hn, q1]
  refine gP (a3m (gK rg.stops d)) ?_
  rintro r H6 ⟨A4, rfl, hT1⟩
  have hS7 := hS6.trans hT1
  simp only [RT] at hS7
  simp (disch := omega) only [↓RA, RZ, simprocAttr, q1]
  refine Wp.bB fun lrg1 hlrg1 => ?_
  have hnrg1 : lrg1.length = 46 := by rw [hlrg1]; simp (disch := omega) only [RB, simprocAttr, hn]
  have g1rg1 : get lrg1 1 = (ptr A1 0 3) := by rw [hlrg1]; simp (disch := omega) only [RB, simprocAttr, g1]
  have g2rg1 : get lrg1 2 = (.slice none 0 0) := by rw [hlrg1]; simp (disch := omega) only [RB, simprocAttr, g2]
  have g3rg1 : get lrg1 3 = (ptr A2 0 1) := by rw [hlrg1]; simp (disch := omega) only [RB, simprocAttr, g3]
  have g4rg1 : get lrg1 4 = (ptr A3 0 1) := by rw [hlrg1]; simp (disch := omega) only [RB, simprocAttr, hn]
  have g10rg1 : get lrg1 10 = sv := by rw [hlrg1]; simp (disch := omega) only [RB, simprocAttr, g10]
  have g11rg1 : get lrg1 11 = I rg.stops.length := by rw [hlrg1]; simp (disch := omega) only [RB, simprocAttr, g11]
  have g12rg1 : get lrg1 12 = I d := by rw [hlrg1]; simp (disch := omega) only [RB, simprocAttr, g12]
  have gfrg1 : get lrg1 18 = .func (.func 230) #[] [(ptr A4 0 1)].toArray := by rw [hlrg1]; simp (disch := omega) only [RB, simprocAttr, hn]
  clear hlrg1
  refine Wp.bd gfrg1 fun rg1 hstrg1 hpdrg1 htmrg1 hpsrg1 hasrg1 hbdrg1 => ?_
  have hreqrg1 : ({ rg1 with state := .ready, pending := none } : Loop) = rg1 := by
   cases rg1
   simp only at hstrg1 hpdrg1
   subst hstrg1 hpdrg1
   rfl
  have hLprg1 := Lp.enter hS7 rg1
  generalize H6.cons (.loop rg1) = Hcrg1 at hLprg1 ⊢
  generalize H6.length = Lrg1 at hLprg1 ⊢
  refine (a3y (gK rg.stops d) hsx A4 (.func (.yield Lrg1) #[] #[]) (fun j H1 => ∃ ow, Lp prog H Lrg1 rg1 H1 [⟨ptr A1 0 3, 0, [sv, .int .u64 rg.cpl, .int .u64 rg.off]⟩, ⟨ptr A2 0 1, 0, [ow]⟩, ⟨ow, 3, jY (vA rg d ++ (jN (gK rg.stops d) j).map (nD d))⟩, ⟨ptr A3 0 1, 0, [I d]⟩, ⟨ptr A4 0 1, 0, [.int .u64 ((gK rg.stops d : Nat) : Int)]⟩]) ⟨ov, ?_⟩ ?_ ?_ ?_).mono ?_
  ·rw [show (jN (gK rg.stops d) 0).map (nD d) = [] from rfl, dh]
   exact hLprg1
  ·rintro j H1 ⟨ow, h⟩
   exact h.st.var 4 rfl
  ·rintro j H1 hj hb ⟨ow, h⟩
   refine ⟨ow, ?_⟩
   rw [kD (gK rg.stops d) j, hb, if_neg (by simp), dh]
   exact h
  ·rintro j H20 hj hb ⟨ow, hLpj⟩
   have hbl := lI (gK rg.stops d) j
   have hroom : (jY (vA rg d ++ (jN (gK rg.stops d) j).map (nD d))).length ≤ 20000 := by
    rw [kZ, di, dr]
    omega
   refine mV hLpj.get (by rw [hpsrg1]; rfl) hstrg1 ?_
   refine Wp.aL (l := put lrg1 (some 19) (I j)) hasrg1 (by rw [hpsrg1, htmrg1]; first | exact (kG ..).symm | rfl | simp [put, kG]) ?_
   simp (disch := omega) only [↓RA, RZ, simprocAttr, hnrg1]
   refine ⟨rg1, hLpj.get, hstrg1, ?_⟩
   have hYBs1 := hLpj.set (fun h => h) { rg1 with state := .busy }
   have hKBs1 : ∀ B, B ≠ Lrg1 → gY (hset H20 Lrg1 (.loop { rg1 with state := .busy })) B = gY H20 B := fun B h => gT _ (eh h)
   have hNBs1 : (hset H20 Lrg1 (.loop { rg1 with state := .busy })).length = H20.length := iO ..
   generalize hset H20 Lrg1 (.loop { rg1 with state := .busy }) = HBs1 at hYBs1 hKBs1 hNBs1 ⊢
   refine Wp.aL hbdrg1 rfl ?_
   have hZBs1 := hYBs1.st
   obtain ⟨Bs1, hBBs1, hS8⟩ := hZBs1.az (os := [⟨ptr A1 0 3, 0, _⟩, ⟨ptr A2 0 1, 0, _⟩, ⟨ow, 3, _⟩, ⟨ptr A3 0 1, 0, _⟩, ⟨ptr A4 0 1, 0, _⟩])
   simp (disch := omega) only [↓RA, RZ, simprocAttr, hnrg1, g3rg1, g4rg1, hS8.ld 1 rfl, hS8.ld 3 rfl, zO]
   refine hS8.ai [I 1, I d, I j] xB a7s rfl rfl (by simp [Value.cells]) rfl rfl (by decide) (by decide) fun w1 H7 hS9 => ?_
   simp only [RT] at hS9
   simp (disch := omega) only [↓RA, RZ, simprocAttr, hnrg1]
   refine hS9.aq 2 rfl (hS9.rd 5 rfl) xB (by have h := hroom; simp only [dS, ef]; omega) fun w2 H8 hS10 => ?_
   simp only [RT] at hS10
   simp (disch := omega) only [↓RA, RB, simprocAttr, hnrg1, g3rg1]
   refine hS10.aa 1 rfl [w2] (by rw [(hS10.rd 2 rfl).cells.1]) (by simp [(hS10.rd 2 rfl).cells.2.1]) b5g (by simp) fun H9 hS11 => ?_
   simp only [RT] at hS11
   simp (disch := omega) only [↓RA, simprocAttr]
   have hS12 := hS11.pick (os' := [⟨ptr A1 0 3, 0, _⟩, ⟨ptr A2 0 1, 0, _⟩, ⟨w2, 3, _⟩, ⟨ptr A3 0 1, 0, _⟩, ⟨ptr A4 0 1, 0, _⟩]) [0, 1, 2, 3, 4] (by decide) rfl
   have hWBs1 := (hYBs1.body (hBBs1 ▸ hS12)).set (fun h => h) rg1
   rw [← hreqrg1] at hWBs1
   refine ⟨_, (hYBs1.body (hBBs1 ▸ hS12)).get, rfl, w2, ?_⟩
   rw [kD (gK rg.stops d) j, hb, if_pos rfl, dN, ← dM, dR, fC, pQ]
   exact hreqrg1 ▸ hWBs1
  ·rintro _ H21 ⟨ow, hLp2⟩
   rw [← yP] at hLp2
   refine ⟨_, hLp2.get, (by rw [hstrg1]; exact fun h => by cases h), fun _ => ?_, fun c hc => by rw [hpdrg1] at hc; cases hc⟩
   have hAAf1 := (hLp2.set (fun h => h) { rg1 with state := .exhausted }).st
   have hKAf1 : ∀ B, B ≠ Lrg1 → gY (hset H21 Lrg1 (.loop { rg1 with state := .exhausted })) B = gY H21 B := fun B h => gT _ (eh h)
   generalize hset H21 Lrg1 (.loop { rg1 with state := .exhausted }) = HAf1 at hAAf1 hKAf1 ⊢
   simp (disch := omega) only [↓RA, RZ, simprocAttr, hnrg1, g1rg1, g2rg1, g3rg1, g10rg1, g11rg1, g12rg1]
   exact ⟨rg.stops.length - (d + 1), by omega, d + 1, ow, by omega, by simp, hAAf1.pick [0, 1, 2] (by decide) rfl⟩
 have hdd : d = rg.stops.length := by omega
 subst hdd
 have hal := a0q rg rg.stops.length
 simp (disch := omega) only [↓RA, RZ, simprocAttr, hn, g1, hS4.ld 0 rfl, q1]
 refine gP (a3m rg.cpl) ?_
 rintro r H10 ⟨A5, rfl, hT2⟩
 have hS13 := hS4.trans hT2
 simp only [RT] at hS13
 simp (disch := omega) only [↓RA, RC, simprocAttr, q1]
 refine Wp.bB fun lrg2 hlrg2 => ?_
 have hnrg2 : lrg2.length = 46 := by rw [hlrg2]; simp (disch := omega) only [RB, simprocAttr, hn]
 have g1rg2 : get lrg2 1 = (ptr A1 0 3) := by rw [hlrg2]; simp (disch := omega) only [RB, simprocAttr, g1]
 have g2rg2 : get lrg2 2 = (.slice none 0 0) := by rw [hlrg2]; simp (disch := omega) only [RB, simprocAttr, g2]
 have g3rg2 : get lrg2 3 = (ptr A2 0 1) := by rw [hlrg2]; simp (disch := omega) only [RB, simprocAttr, g3]
 have gfrg2 : get lrg2 29 = .func (.func 230) #[] [(ptr A5 0 1)].toArray := by rw [hlrg2]; simp (disch := omega) only [RB, simprocAttr, hn]
 clear hlrg2
 refine Wp.bd gfrg2 fun rg2 hstrg2 hpdrg2 htmrg2 hpsrg2 hasrg2 hbdrg2 => ?_
 have hreqrg2 : ({ rg2 with state := .ready, pending := none } : Loop) = rg2 := by
  cases rg2
  simp only at hstrg2 hpdrg2
  subst hstrg2 hpdrg2
  rfl
 have hLprg2 := Lp.enter hS13 rg2
 generalize H10.cons (.loop rg2) = Hcrg2 at hLprg2 ⊢
 generalize H10.length = Lrg2 at hLprg2 ⊢
 refine (a3y rg.cpl hr.2.2.2.1 A5 (.func (.yield Lrg2) #[] #[]) (fun j H1 => ∃ ow, Lp prog H Lrg2 rg2 H1 [⟨ptr A1 0 3, 0, [sv, .int .u64 rg.cpl, .int .u64 rg.off]⟩, ⟨ptr A2 0 1, 0, [ow]⟩, ⟨ow, 3, jY (vA rg rg.stops.length ++ (jN rg.cpl j).map mO)⟩, ⟨ptr A5 0 1, 0, [.int .u64 (rg.cpl : Int)]⟩]) ⟨ov, ?_⟩ ?_ ?_ ?_).mono ?_
 ·rw [show (jN rg.cpl 0).map mO = [] from rfl, dh]
  exact hLprg2
 ·rintro j H1 ⟨ow, h⟩
  exact h.st.var 3 rfl
 ·rintro j H1 hj hb ⟨ow, h⟩
  refine ⟨ow, ?_⟩
  rw [kD rg.cpl j, hb, if_neg (by simp), dh]
  exact h
 ·rintro j H20 hj hb ⟨ow, hLpj⟩
  have hbl := lI rg.cpl j
  have hroom : (jY (vA rg rg.stops.length ++ (jN rg.cpl j).map mO)).length ≤ 20000 := by
   rw [kZ, di, dr]
   omega
  refine mV hLpj.get (by rw [hpsrg2]; rfl) hstrg2 ?_
  refine Wp.aL (l := put lrg2 (some 30) (I j)) hasrg2 (by rw [hpsrg2, htmrg2]; first | exact (kG ..).symm | rfl | simp [put, kG]) ?_
  simp (disch := omega) only [↓RA, RZ, simprocAttr, hnrg2]
  refine ⟨rg2, hLpj.get, hstrg2, ?_⟩
  have hYBs2 := hLpj.set (fun h => h) { rg2 with state := .busy }
  have hKBs2 : ∀ B, B ≠ Lrg2 → gY (hset H20 Lrg2 (.loop { rg2 with state := .busy })) B = gY H20 B := fun B h => gT _ (eh h)
  have hNBs2 : (hset H20 Lrg2 (.loop { rg2 with state := .busy })).length = H20.length := iO ..
  generalize hset H20 Lrg2 (.loop { rg2 with state := .busy }) = HBs2 at hYBs2 hKBs2 hNBs2 ⊢
  refine Wp.aL hbdrg2 rfl ?_
  have hZBs2 := hYBs2.st
  obtain ⟨Bs2, hBBs2, hS14⟩ := hZBs2.az (os := [⟨ptr A1 0 3, 0, _⟩, ⟨ptr A2 0 1, 0, _⟩, ⟨ow, 3, _⟩, ⟨ptr A5 0 1, 0, _⟩])
  simp (disch := omega) only [↓RA, RZ, simprocAttr, hnrg2, g3rg2, hS14.ld 1 rfl, yB]
  refine hS14.ai [I 2, I 0, I j] xB a7s rfl rfl (by simp [Value.cells]) rfl rfl (by decide) (by decide) fun w3 H11 hS15 => ?_
  simp only [RT] at hS15
  simp (disch := omega) only [↓RA, RZ, simprocAttr, hnrg2]
  refine hS15.aq 2 rfl (hS15.rd 4 rfl) xB (by have h := hroom; simp only [dS, ef]; omega) fun w4 H12 hS16 => ?_
  simp only [RT] at hS16
  simp (disch := omega) only [↓RA, RB, simprocAttr, hnrg2, g3rg2]
  refine hS16.aa 1 rfl [w4] (by rw [(hS16.rd 2 rfl).cells.1]) (by simp [(hS16.rd 2 rfl).cells.2.1]) b5g (by simp) fun H13 hS17 => ?_
  simp only [RT] at hS17
  simp (disch := omega) only [↓RA, simprocAttr]
  have hS18 := hS17.pick (os' := [⟨ptr A1 0 3, 0, _⟩, ⟨ptr A2 0 1, 0, _⟩, ⟨w4, 3, _⟩, ⟨ptr A5 0 1, 0, _⟩]) [0, 1, 2, 3] (by decide) rfl
  have hWBs2 := (hYBs2.body (hBBs2 ▸ hS18)).set (fun h => h) rg2
  rw [← hreqrg2] at hWBs2
  refine ⟨_, (hYBs2.body (hBBs2 ▸ hS18)).get, rfl, w4, ?_⟩
  rw [kD rg.cpl j, hb, if_pos rfl, dN, ← dM, dR, fC, pQ]
  exact hreqrg2 ▸ hWBs2
 rintro _ H22 ⟨ow, hLp2⟩
 have hb2 := lI rg.cpl 64
 refine ⟨_, hLp2.get, (by rw [hstrg2]; exact fun h => by cases h), fun _ => ?_, fun c hc => by rw [hpdrg2] at hc; cases hc⟩
 have hAAf2 := (hLp2.set (fun h => h) { rg2 with state := .exhausted }).st
 have hKAf2 : ∀ B, B ≠ Lrg2 → gY (hset H22 Lrg2 (.loop { rg2 with state := .exhausted })) B = gY H22 B := fun B h => gT _ (eh h)
 generalize hset H22 Lrg2 (.loop { rg2 with state := .exhausted }) = HAf2 at hAAf2 hKAf2 ⊢
 simp (disch := omega) only [↓RA, RZ, simprocAttr, hnrg2, g1rg2, hAAf2.ld 0 rfl]
 refine gP (a3m rg.off) ?_
 rintro r H14 ⟨A6, rfl, hT3⟩
 have hS19 := hAAf2.trans hT3
 simp only [RT] at hS19
 simp (disch := omega) only [↓RA, simprocAttr]
 have hal2 : (vA rg rg.stops.length ++ (jN rg.cpl 64).map mO).length ≤ 3904 := by
  rw [di, dr]
  omega
 refine Wp.bB fun lrg3 hlrg3 => ?_
 have hnrg3 : lrg3.length = 46 := by rw [hlrg3]; simp (disch := omega) only [RB, simprocAttr, hnrg2]
 have g2rg3 : get lrg3 2 = (.slice none 0 0) := by rw [hlrg3]; simp (disch := omega) only [RB, simprocAttr, g2rg2]
 have g3rg3 : get lrg3 3 = (ptr A2 0 1) := by rw [hlrg3]; simp (disch := omega) only [RB, simprocAttr, g3rg2]
 have gfrg3 : get lrg3 38 = .func (.func 230) #[] [(ptr A6 0 1)].toArray := by rw [hlrg3]; simp (disch := omega) only [RB, simprocAttr, hnrg2]
 clear hlrg3
 refine Wp.bd gfrg3 fun rg3 hstrg3 hpdrg3 htmrg3 hpsrg3 hasrg3 hbdrg3 => ?_
 have hreqrg3 : ({ rg3 with state := .ready, pending := none } : Loop) = rg3 := by
  cases rg3
  simp only at hstrg3 hpdrg3
  subst hstrg3 hpdrg3
  rfl
 have hLprg3 := Lp.enter hS19 rg3
 generalize H14.cons (.loop rg3) = Hcrg3 at hLprg3 ⊢
 generalize H14.length = Lrg3 at hLprg3 ⊢
 refine (a3y rg.off hr.2.2.2.2 A6 (.func (.yield Lrg3) #[] #[]) (fun j H1 => ∃ ow, Lp prog H Lrg3 rg3 H1 [⟨ptr A1 0 3, 0, [sv, .int .u64 rg.cpl, .int .u64 rg.off]⟩, ⟨ptr A2 0 1, 0, [ow]⟩, ⟨ow, 3, jY ((vA rg rg.stops.length ++ (jN rg.cpl 64).map mO) ++ (jN rg.off j).map pT)⟩, ⟨ptr A5 0 1, 0, [.int .u64 (rg.cpl : Int)]⟩, ⟨ptr A6 0 1, 0, [.int .u64 (rg.off : Int)]⟩]) ⟨ow, ?_⟩ ?_ ?_ ?_).mono ?_
 ·rw [show (jN rg.off 0).map pT = [] from rfl, dh]
  exact hLprg3
 ·rintro j H1 ⟨ow, h⟩
  exact h.st.var 4 rfl
 ·rintro j H1 hj hb ⟨ow, h⟩
  refine ⟨ow, ?_⟩
  rw [kD rg.off j, hb, if_neg (by simp), dh]
  exact h
 ·rintro j H20 hj hb ⟨ow, hLpj⟩
  have hbl := lI rg.off j
  have hroom : (jY ((vA rg rg.stops.length ++ (jN rg.cpl 64).map mO) ++ (jN rg.off j).map pT)).length ≤ 20000 := by
   rw [kZ, di, dr]
   omega
  refine mV hLpj.get (by rw [hpsrg3]; rfl) hstrg3 ?_
  refine Wp.aL (l := put lrg3 (some 39) (I j)) hasrg3 (by rw [hpsrg3, htmrg3]; first | exact (kG ..).symm | rfl | simp [put, kG]) ?_
  simp (disch := omega) only [↓RA, RZ, simprocAttr, hnrg3]
  refine ⟨rg3, hLpj.get, hstrg3, ?_⟩
  have hYBs3 := hLpj.set (fun h => h) { rg3 with state := .busy }
  have hKBs3 : ∀ B, B ≠ Lrg3 → gY (hset H20 Lrg3 (.loop { rg3 with state := .busy })) B = gY H20 B := fun B h => gT _ (eh h)
  have hNBs3 : (hset H20 Lrg3 (.loop { rg3 with state := .busy })).length = H20.length := iO ..
  generalize hset H20 Lrg3 (.loop { rg3 with state := .busy }) = HBs3 at hYBs3 hKBs3 hNBs3 ⊢
  refine Wp.aL hbdrg3 rfl ?_
  have hZBs3 := hYBs3.st
  obtain ⟨Bs3, hBBs3, hS20⟩ := hZBs3.az (os := [⟨ptr A1 0 3, 0, _⟩, ⟨ptr A2 0 1, 0, _⟩, ⟨ow, 3, _⟩, ⟨ptr A5 0 1, 0, _⟩, ⟨ptr A6 0 1, 0, _⟩])
  simp (disch := omega) only [↓RA, RZ, simprocAttr, hnrg3, g3rg3, hS20.ld 1 rfl, a3j]
  refine hS20.ai [I 3, I j, I 0] xB a7s rfl rfl (by simp [Value.cells]) rfl rfl (by decide) (by decide) fun w5 H15 hS21 => ?_
  simp only [RT] at hS21
  simp (disch := omega) only [↓RA, RZ, simprocAttr, hnrg3]
  refine hS21.aq 2 rfl (hS21.rd 5 rfl) xB (by have h := hroom; simp only [dS, ef]; omega) fun w6 H16 hS22 => ?_
  simp only [RT] at hS22
  simp (disch := omega) only [↓RA, RB, simprocAttr, hnrg3, g3rg3]
  refine hS22.aa 1 rfl [w6] (by rw [(hS22.rd 2 rfl).cells.1]) (by simp [(hS22.rd 2 rfl).cells.2.1]) b5g (by simp) fun H17 hS23 => ?_
  simp only [RT] at hS23
  simp (disch := omega) only [↓RA, simprocAttr]
  have hS24 := hS23.pick (os' := [⟨ptr A1 0 3, 0, _⟩, ⟨ptr A2 0 1, 0, _⟩, ⟨w6, 3, _⟩, ⟨ptr A5 0 1, 0, _⟩, ⟨ptr A6 0 1, 0, _⟩]) [0, 1, 2, 3, 4] (by decide) rfl
  have hWBs3 := (hYBs3.body (hBBs3 ▸ hS24)).set (fun h => h) rg3
  rw [← hreqrg3] at hWBs3
  refine ⟨_, (hYBs3.body (hBBs3 ▸ hS24)).get, rfl, w6, ?_⟩
  rw [kD rg.off j, hb, if_pos rfl, dN, ← dM, dR, fC, pQ]
  exact hreqrg3 ▸ hWBs3
 rintro _ H23 ⟨oz, hLp3⟩
 refine ⟨_, hLp3.get, (by rw [hstrg3]; exact fun h => by cases h), fun _ => ?_, fun c hc => by rw [hpdrg3] at hc; cases hc⟩
 have hAAf3 := (hLp3.set (fun h => h) { rg3 with state := .exhausted }).st
 have hKAf3 : ∀ B, B ≠ Lrg3 → gY (hset H23 Lrg3 (.loop { rg3 with state := .exhausted })) B = gY H23 B := fun B h => gT _ (eh h)
 generalize hset H23 Lrg3 (.loop { rg3 with state := .exhausted }) = HAf3 at hAAf3 hKAf3 ⊢
 simp (disch := omega) only [↓RA, RZ, simprocAttr, hnrg3, g3rg3, hAAf3.ld 1 rfl, c1z]
 exact hAAf3.pick [2] (by decide) rfl
structure Pv where
 v : Value
 l : List Ct
 deriving Inhabited
def Pv.cells (p : Pv) : List Value := [p.v]
def Pv.Ix (H : Heap) (X : Nat → Prop) (p : Pv) : Prop := Slx 2 kS H X p.v p.l
theorem Pv.Ix.step {H' : Heap} {X Y : Nat → Prop} {p : Pv} (h : p.Ix H X) (hk : Kept H X H' Y) : p.Ix H' Y := Slx.step h hk
theorem Kept.and {H' : Heap} {X Y : Nat → Prop} (Q : Nat → Prop) (h : Kept H X H' Y) : Kept H (fun B => Q B ∧ X B) H' (fun B => Q B ∧ Y B) :=
 fun B hX hB => ⟨(h B hX.2 hB).1, hX.1, (h B hX.2 hB).2⟩
abbrev oC (o : Org) : List Value := [.string o.name, o.rv, o.dv, o.cv]
abbrev rC (rg : Reg) (sv : Value) : List Value := [sv, .int .u64 rg.cpl, .int .u64 rg.off]
theorem a4z (o : Org) (ho : o.In H) (rg : Reg) (sv : Value) (hr : rg.In H sv) : Fn prog 106 [.agg #[.string o.name, o.rv, o.dv, o.cv], .agg #[sv, .int .u64 rg.cpl, .int .u64 rg.off]] H fun r H' =>
 ∃ AO AR, r = .func (.func 174) #[] #[ptr AO 0 4, ptr AR 0 3] ∧ St prog H H' [⟨ptr AO 0 4, 0, [.string o.name, o.rv, o.dv, o.cv]⟩, ⟨ptr AR 0 3, 0, [sv, .int .u64 rg.cpl, .int .u64 rg.off]⟩] := by
 refine .aE func106 rfl (by kernel_rfl) (m := 6) rfl fun l hn g0 g1 => ?_
 simp (disch := omega) only [↓RA, RB, simprocAttr, g0]
 refine (sR H).eNew 4 [(.string o.name), o.rv, o.dv, o.cv] rfl rfl (by simp [OC, ((sR H).sl ho.1).cells.2.1, ((sR H).sl ho.2.2.1).cells.2.1, ((sR H).sl ho.2.2.2.2.1).cells.2.1]) lD fun A1 H1 hS1 => ?_
 simp only [RT] at hS1
 simp (disch := omega) only [↓RA, RB, simprocAttr, g1]
 refine hS1.eNew 3 [sv, (.int .u64 rg.cpl), (.int .u64 rg.off)] rfl rfl (by simp [OC, (hS1.sl hr.1).cells.2.1]) iK fun A2 H2 hS2 => ?_
 simp only [RT] at hS2
 simp (disch := omega) only [↓RA, RZ, simprocAttr, hn, c1M]
 exact ⟨A1, A2, rfl, hS2⟩
theorem a1L {o : Org} (hf : o.Fine) : (pR o).length ≤ 1024 := by
 have key : ∀ n, n ≤ o.dvs.length → ((List.range n).flatMap (uM o)).length ≤ n * 128 := by
  intro n
  induction n with
  | zero => intro _; simp
  | succ n ih =>
    intro hn
    have h1 := ih (by omega)
    have h2 := hf.keys n (by omega)
    have h3 : (uM o n).length = a0m o n := by simp [uM, a0m]
    have h4 : a0m o n ≤ 128 := by unfold a0m; omega
    rw [eE, dU, dD, fq, dh, di]
    omega
 have := key o.dvs.length (dc _)
 have := hf.dlen
 unfold pR
 omega
theorem a3l (o : Org) (ho : o.In H) (hf : o.Fine) (rg : Reg) (sv : Value) (hr : rg.In H sv) : Fn prog 168 [.agg #[.string o.name, o.rv, o.dv, o.cv], .agg #[sv, .int .u64 rg.cpl, .int .u64 rg.off]] H fun r H' =>
 ∃ ps : List Pv, ps.map (·.l) = oP o rg ∧ Slx 1 Pv.cells H' (fun B => H.length ≤ B) r ps ∧ (∀ p ∈ ps, p.Ix H' (fun B => H.length ≤ B)) ∧ St prog H H' [] := by
 refine .aE func168 rfl (by kernel_rfl) (m := 18) rfl fun l hn g0 g1 => ?_
 simp (disch := omega) only [↓RA, RB, simprocAttr, g0]
 refine (sR H).eNew 4 [(.string o.name), o.rv, o.dv, o.cv] rfl rfl (by simp [OC, ((sR H).sl ho.1).cells.2.1, ((sR H).sl ho.2.2.1).cells.2.1, ((sR H).sl ho.2.2.2.2.1).cells.2.1]) lD fun A1 H1 hS1 => ?_
 simp only [RT] at hS1
 simp (disch := omega) only [↓RA, RB, simprocAttr, g1]
 refine hS1.eNew 3 [sv, (.int .u64 rg.cpl), (.int .u64 rg.off)] rfl rfl (by simp [OC, (hS1.sl hr.1).cells.2.1]) iK fun A2 H2 hS2 => ?_
 simp only [RT] at hS2
 simp (disch := omega) only [↓RA, RZ, simprocAttr]
 refine hS2.eNew 1 [(.slice none 0 0)] rfl rfl rfl a5q fun A3 H3 hS3 => ?_
 simp only [RT] at hS3
 simp (disch := omega) only [↓RA, RZ, simprocAttr, hn, hS3.ab 0 rfl, hS3.ab 1 rfl]
 have hS4 := hS3.nil 0
 simp only [RT] at hS4
 refine gP (a4z o (ho.ae hS4) rg sv (hr.ae hS4)) ?_
 rintro r H4 ⟨A4, A5, rfl, hT1⟩
 have hS5 := hS4.trans hT1
 simp only [RT] at hS5
 simp (disch := omega) only [↓RA, simprocAttr]
 refine Wp.bB fun lrg1 hlrg1 => ?_
 have hnrg1 : lrg1.length = 18 := by rw [hlrg1]; simp (disch := omega) only [RB, simprocAttr, hn]
 have g4rg1 : get lrg1 4 = (.slice none 0 0) := by rw [hlrg1]; simp (disch := omega) only [RB, simprocAttr, hn]
 have g5rg1 : get lrg1 5 = (ptr A3 0 1) := by rw [hlrg1]; simp (disch := omega) only [RB, simprocAttr, hn]
 have gfrg1 : get lrg1 10 = .func (.func 174) #[] [(ptr A4 0 4), (ptr A5 0 3)].toArray := by rw [hlrg1]; simp (disch := omega) only [RB, simprocAttr, hn]
 clear hlrg1
 refine Wp.bd gfrg1 fun rg1 hstrg1 hpdrg1 htmrg1 hpsrg1 hasrg1 hbdrg1 => ?_
 have hreqrg1 : ({ rg1 with state := .ready, pending := none } : Loop) = rg1 := by
  cases rg1
  simp only at hstrg1 hpdrg1
  subst hstrg1 hpdrg1
  rfl
 have hLprg1 := Lp.enter hS5 rg1
 generalize H4.cons (.loop rg1) = Hcrg1 at hLprg1 ⊢
 generalize H4.length = Lrg1 at hLprg1 ⊢
 refine (a9E o hf rg sv A4 A5 (.func (.yield Lrg1) #[] #[]) (fun d xs H1 => ∃ (ow : Value) (ps : List Pv), ps.map (·.l) = d.map (ofF o rg) ∧ (∀ p ∈ ps, p.Ix H1 (fun B => (H.length ≤ B ∧ B ≠ Lrg1) ∧ nb [ptr A1 0 4, ptr A2 0 3, ptr A3 0 1, ow, ptr A4 0 4, ptr A5 0 3] B)) ∧
  Lp prog H Lrg1 rg1 H1 ([⟨ptr A1 0 4, 0, oC o⟩, ⟨ptr A2 0 3, 0, rC rg sv⟩, ⟨ptr A3 0 1, 0, [ow]⟩, ⟨ow, 1, ps.flatMap Pv.cells⟩, ⟨ptr A4 0 4, 0, oC o⟩, ⟨ptr A5 0 3, 0, rC rg sv⟩] ++ xs)) ⟨.slice none 0 0, [], rfl, by simp, ?_⟩ ?_ ?_ ?_ ?_).mono ?_
 ·rw [dh]
  exact hLprg1
 ·rintro d xs H1 ⟨ow, ps, he, hpx, h⟩
  have hs := h.left.st
  exact ⟨hs.var 4 rfl, ho.ae hs, hs.var 5 rfl, hr.ae hs, fun x hx => h.st.own x (eR _ hx)⟩
 ·rintro d xs H1 H2 ys ⟨ow, ps, he, hpx, h⟩ hT
  refine ⟨ow, ps, he, fun p hp => (hpx p hp).step (fun B hB hl => ⟨hT.ae B hl, hB⟩), ?_⟩
  have h3 := h.ext hT
  rwa [dM] at h3
 ·rintro d xs ys H1 ⟨ow, ps, he, hpx, h⟩
  rw [← dM] at h
  exact ⟨ow, ps, he, hpx, h.left⟩
 ·rintro d c e xs H1 H20 pv he ⟨ow, ps, hpl, hpx, hLp⟩ hT hx
  have hLpj := hLp.ext hT
  rw [dh] at hLpj
  have hpx2 : ∀ p ∈ ps, p.Ix H20 (fun B => (H.length ≤ B ∧ B ≠ Lrg1) ∧ nb [ptr A1 0 4, ptr A2 0 3, ptr A3 0 1, ow, ptr A4 0 4, ptr A5 0 3] B) := fun p hp => (hpx p hp).step (fun B hB hl => ⟨hT.ae B hl, hB⟩)
  have hLl : Lrg1 < H1.length := iP hLp.get
  have hHl : H.length ≤ H1.length := hLp.st.len
  have hpv : (⟨pv, ofF o rg c⟩ : Pv).Ix H20 (fun B => (H.length ≤ B ∧ B ≠ Lrg1) ∧ nb [ptr A1 0 4, ptr A2 0 3, ptr A3 0 1, ow, ptr A4 0 4, ptr A5 0 3] B) :=
   Slx.step hx fun B hB hl => ⟨rfl, ⟨by omega, by omega⟩, (hLp.left.st.aZ (H' := H20) B hB hl).2⟩
  refine mV hLpj.get (by rw [hpsrg1]; rfl) hstrg1 ?_
  refine Wp.aL (l := put (put lrg1 (some 11) (.agg #[I c.1, I c.2])) (some 12) (pv)) hasrg1 (by rw [hpsrg1, htmrg1]; first | exact (kG ..).symm | rfl | simp [put, kG]) ?_
  simp (disch := omega) only [↓RA, RZ, simprocAttr, hnrg1]
  refine ⟨rg1, hLpj.get, hstrg1, ?_⟩
  have hYBs1 := hLpj.set (fun h => h) { rg1 with state := .busy }
  have hKBs1 : ∀ B, B ≠ Lrg1 → gY (hset H20 Lrg1 (.loop { rg1 with state := .busy })) B = gY H20 B := fun B h => gT _ (eh h)
  have hNBs1 : (hset H20 Lrg1 (.loop { rg1 with state := .busy })).length = H20.length := iO ..
  generalize hset H20 Lrg1 (.loop { rg1 with state := .busy }) = HBs1 at hYBs1 hKBs1 hNBs1 ⊢
  refine Wp.aL hbdrg1 rfl ?_
  have hZBs1 := hYBs1.left.st
  obtain ⟨Bs1, hBBs1, hS6⟩ := hZBs1.az (os := [⟨ptr A1 0 4, 0, _⟩, ⟨ptr A2 0 3, 0, _⟩, ⟨ptr A3 0 1, 0, _⟩, ⟨ow, 1, _⟩, ⟨ptr A4 0 4, 0, _⟩, ⟨ptr A5 0 3, 0, _⟩])
  have hpn : ps.length ≤ 1024 := by
   have h1 := a1L hf
   rw [he, di] at h1
   have h2 := congrArg List.length hpl
   rw [dr, dr] at h2
   omega
  simp (disch := omega) only [↓RA, RZ, simprocAttr, hnrg1, g5rg1, hS6.ld 2 rfl]
  refine hS6.ai [pv] b8h c2O rfl rfl (by first | (simp [hx.1.cells.1]; done) | simp [Value.cells, hx.1.cells.1]) (by first | (simp [hx.1.cells.1]; done) | simp [Value.cells, hx.1.cells.1]) (by simp [hx.1.cells.2.1]) (by decide) (by decide) fun w1 H5 hS7 => ?_
  simp only [RT] at hS7
  simp (disch := omega) only [↓RA, RZ, simprocAttr, hnrg1]
  refine hS7.aq 3 rfl (hS7.rd 6 rfl) b8h (by rw [gV (n := 1) (cel := Pv.cells) (fun _ => rfl)]; simp; omega) fun w2 H6 hS8 => ?_
  simp only [RT] at hS8
  simp (disch := omega) only [↓RA, RB, simprocAttr, hnrg1, g5rg1]
  refine hS8.aa 2 rfl [w2] (by rw [(hS8.rd 3 rfl).cells.1]) (by simp [(hS8.rd 3 rfl).cells.2.1]) a5q (by simp) fun H7 hS9 => ?_
  simp only [RT] at hS9
  simp (disch := omega) only [↓RA, RC, simprocAttr]
  have hS10 := hS9.pick (os' := [⟨ptr A1 0 4, 0, _⟩, ⟨ptr A2 0 3, 0, _⟩, ⟨ptr A3 0 1, 0, _⟩, ⟨w2, 1, _⟩, ⟨ptr A4 0 4, 0, _⟩, ⟨ptr A5 0 3, 0, _⟩]) [0, 1, 2, 3, 4, 5] (by decide) rfl
  have hWBs1 := (hYBs1.bh (hBBs1 ▸ hS10)).set (fun h => h) rg1
  rw [← hreqrg1] at hWBs1
  have hk1 : Kept H20 (fun B => (H.length ≤ B ∧ B ≠ Lrg1) ∧ nb [ptr A1 0 4, ptr A2 0 3, ptr A3 0 1, ow, ptr A4 0 4, ptr A5 0 3] B) (hset H7 Lrg1 (.loop rg1)) (fun B => (H.length ≤ B ∧ B ≠ Lrg1) ∧ nb [ptr A1 0 4, ptr A2 0 3, ptr A3 0 1, w2, ptr A4 0 4, ptr A5 0 3] B) := by
   intro B hB hl
   have h2 := hS10.kept hBBs1 B hB.2 (by rw [hNBs1]; exact hl)
   refine ⟨?_, hB.1, h2.2⟩
   rw [gT _ (eh hB.1.2), h2.1, hKBs1 B hB.1.2]
  have hfin : ∃ (ow : Value) (ps : List Pv), ps.map (·.l) = (d ++ [c]).map (ofF o rg) ∧ (∀ p ∈ ps, p.Ix (hset H7 Lrg1 (.loop rg1)) (fun B => (H.length ≤ B ∧ B ≠ Lrg1) ∧ nb [ptr A1 0 4, ptr A2 0 3, ptr A3 0 1, ow, ptr A4 0 4, ptr A5 0 3] B)) ∧
   Lp prog H Lrg1 rg1 (hset H7 Lrg1 (.loop rg1)) ([⟨ptr A1 0 4, 0, oC o⟩, ⟨ptr A2 0 3, 0, rC rg sv⟩, ⟨ptr A3 0 1, 0, [ow]⟩, ⟨ow, 1, ps.flatMap Pv.cells⟩, ⟨ptr A4 0 4, 0, oC o⟩, ⟨ptr A5 0 3, 0, rC rg sv⟩] ++ xs) := by
   refine ⟨w2, ps ++ [⟨pv, ofF o rg c⟩], by rw [dN, dN, hpl]; rfl, ?_, ?_⟩
   ·intro p hp
    rcases dB.1 hp with hp | hp
    ·exact (hpx2 p hp).step hk1
    ·rw [dJ.1 hp]
     exact hpv.step hk1
   ·rw [show (ps ++ [(⟨pv, ofF o rg c⟩ : Pv)]).flatMap Pv.cells = ps.flatMap Pv.cells ++ [pv] from by rw [dU]; rfl]
    exact hreqrg1 ▸ hWBs1
  rw [← hreqrg1] at hfin
  exact ⟨_, (hYBs1.bh (hBBs1 ▸ hS10)).get, rfl, hreqrg1 ▸ hfin⟩
 rintro _ H21 ⟨ow, ps, hpl, hpx, hLp2⟩
 rw [dh] at hLp2
 refine ⟨_, hLp2.get, (by rw [hstrg1]; exact fun h => by cases h), fun _ => ?_, fun c hc => by rw [hpdrg1] at hc; cases hc⟩
 have hAAf1 := (hLp2.set (fun h => h) { rg1 with state := .exhausted }).st
 have hKAf1 : ∀ B, B ≠ Lrg1 → gY (hset H21 Lrg1 (.loop { rg1 with state := .exhausted })) B = gY H21 B := fun B h => gT _ (eh h)
 generalize hset H21 Lrg1 (.loop { rg1 with state := .exhausted }) = HAf1 at hAAf1 hKAf1 ⊢
 simp (disch := omega) only [↓RA, RZ, simprocAttr, hnrg1, g5rg1, hAAf1.ld 2 rfl, c1S]
 exact ⟨ps, hpl, hAAf1.cm 3 rfl (fun _ => rfl), fun p hp => (hpx p hp).step (fun B hB hl => ⟨hKAf1 B hB.1.2, hB.1.1⟩), hAAf1.forget⟩
theorem Fn.tr {P : Program} {k : FuncId} {args : List Value} {R : Value → Heap → Prop} (h : Fn P k args H R) : Fn P k args H fun v H' => True ∧ R v H' := by
 simpa using h
theorem St.ba {P : Program} {H0 : Base} {os : List Ob} (hS : St P H0 H os) {t : TypeId} {size bytes : Nat} {K : Value → Heap → Prop} (ha : lX P t = some (size + 1, bytes)) (h : ∀ v H1, St P H0 H1 (os ++ [⟨v, size + 1, []⟩]) → K v H1) : qL P H t 0 [] K := by
 unfold lX at ha
 cases he : gQ P t with
 | none => rw [he] at ha; cases ha
 | some elem =>
 rw [he] at ha
 simp only [cV] at ha
 cases hsz2 : gM P elem with
 | none => rw [hsz2] at ha; cases ha
 | some sz =>
 rw [hsz2] at ha
 simp only [cV] at ha
 cases hby : mN P elem with
 | none => rw [hby] at ha; cases ha
 | some by' =>
 rw [hby] at ha
 simp only [cV] at ha
 cases hz2 : iF P elem with
 | none => rw [hz2] at ha; cases ha
 | some z =>
 rw [hz2] at ha
 simp only [cV] at ha
 split at ha
 case isFalse => cases ha
 simp only [du, gm] at ha
 obtain ⟨rfl, rfl⟩ := ha
 refine ⟨.slice (some ⟨H.length, 0, some 0⟩) 0 (size + 1), qG H elem [], ?_, h _ _ (hS.add ?_ ?_ ?_ ?_)⟩
 ·unfold wR
  simp only [he, hsz2, hz2, cV]
  rw [if_pos (by simp)]
 ·rw [kT]
  unfold OwnAt
  rw [if_neg (ew _)]
  exact .inr ⟨_, 0, elem, _, 0, [], 0, gW H _, by simp, rfl, by simp, by simp, hsz2⟩
 ·rw [kT]; simp [oG]
 ·rw [kT]; exact fun B hB => iX _ hB
 ·intro B hB
  simp [jT] at hB
  omega
theorem b7f (a : Addr) (m c : Nat) : kC prog .eql 88 88 false true (.slice (some a) m c) (.slice none 0 0) = some (.bool false) := by kernel_rfl
theorem a3O {v : Value} {a : Addr} {m c : Nat} (h : v = .slice (some a) m c) (K : Value → Prop) : kK prog .eql 88 88 false true v (.slice none 0 0) K = nY (.bool false) K := by
 subst h
 show jD (kC prog .eql 88 88 false true (.slice (some a) m c) (.slice none 0 0)) K = _
 rw [b7f]
 rfl
theorem Sl.ch {α : Type} {n : Nat} {cel : α → List Value} {v : Value} {xs : List α} (h : Sl n cel H v xs) (h0 : 0 < xs.length) : ∃ a m c, v = .slice (some a) m c := by
 rcases h.rd with ⟨_, h2⟩ | ⟨A, i, e, row, ty, rw, lo, ver, m, _, _, _, _, _, _, h7⟩
 ·have := congrArg List.length h2
  rw [gV h.hc, ef] at this
  have := h.pos
  have : 0 < xs.length * n := gx h0 h.pos
  omega
 ·exact ⟨_, _, _, h7⟩
theorem a4I (v : Value) (xs : List Nat) (hv : Sl 1 (one u64) H v xs) (hl : xs.length < 100000) (h0 : 0 < xs.length) : Fn prog 103 [v] H fun r H' => St prog H H' [⟨r, 1, xs.flatMap (one u64)⟩] := by
 refine .aY func103 rfl (by kernel_rfl) (m := 8) rfl fun l hn g0 => ?_
 obtain ⟨a, m, c, hvv⟩ := hv.ch h0
 simp (disch := omega) only [↓RA, RB, simprocAttr, hn, g0, a3O hvv]
 have hlen : (xs.flatMap (one u64)).length = xs.length := by rw [gV (n := 1) (fun _ => rfl)]; omega
 refine (sR H).ba zB fun w1 H1 hS1 => ?_
 simp only [RT] at hS1
 simp (disch := omega) only [↓RA, RZ, simprocAttr, hn, g0]
 refine hS1.aq 0 rfl (hS1.sl hv).rd zB (by rw [hlen]; simp; omega) fun w2 H2 hS2 => ?_
 simp only [RT] at hS2
 simp (disch := omega) only [↓RA, RB, simprocAttr, hn, c2m]
 exact hS2
theorem b7V (i : Nat) (hi : i < 64) : IntKind.wrap .u64 (1 * 2 ^ min i (IntKind.bits .u64)) = ((2 ^ i : Nat) : Int) := by
 have e : IntKind.bits .u64 = 64 := rfl
 rw [e, fI (by omega), Int.one_mul]
 have h1 : ((2 ^ i : Nat) : Int) = 2 ^ i := by simp
 rw [← h1]
 have h2 : 2 ^ i ≤ 2 ^ 63 := eZ (by decide) (by omega)
 have h5 : ((2 ^ i : Nat) : Int) ≤ ((2 ^ 63 : Nat) : Int) := Int.ofNat_le.2 h2
 exact qW _ (Int.natCast_nonneg _) (Int.lt_of_le_of_lt h5 (by decide))
theorem b1K (n i : Nat) (hi : i < 64) : IntKind.wrap .u64 ((BitVec.ofInt (IntKind.bits .u64) (n : Int) &&& ~~~ BitVec.ofInt (IntKind.bits .u64) (IntKind.wrap .u64 (1 * 2 ^ min i (IntKind.bits .u64)))).toNat : Int) = ((qF n i : Nat) : Int) := by
 rw [b7V i hi]
 have e : (BitVec.ofInt (IntKind.bits .u64) (n : Int) &&& ~~~ BitVec.ofInt (IntKind.bits .u64) ((2 ^ i : Nat) : Int)).toNat = qF n i := by
  show (BitVec.ofInt 64 (n : Int) &&& ~~~ BitVec.ofInt 64 ((2 ^ i : Nat) : Int)).toNat = qF n i
  rw [fZ, fZ]
  rfl
 rw [e]
 have : qF n i < 2 ^ 64 := BitVec.isLt _
 have h3 : 2 ^ 64 = 18446744073709551616 := rfl
 exact qW _ (by omega) (by omega)
theorem a3p (n : Nat) (i : Int) : qF n i < 18446744073709551616 := BitVec.isLt _
def Ctl.cM (c : Ctl) (rg : Reg) : Prop := (c.kind = 1 → 0 ≤ c.dv ∧ c.dv < rg.stops.length ∧ 0 ≤ c.ix ∧ c.ix < 64) ∧ (c.kind = 2 → 0 ≤ c.ix ∧ c.ix < 64) ∧ (c.kind ≠ 1 → c.kind ≠ 2 → 0 ≤ c.dv ∧ c.dv < 64)
theorem wN (rg : Reg) (sv : Value) (hr : rg.In H sv) (h0 : 0 < rg.stops.length) (h1 : rg.stops.length < 100000) (c : Ctl) (hc : c.cM rg) :
 Fn prog 104 [.agg #[sv, .int .u64 rg.cpl, .int .u64 rg.off], .agg #[I c.kind, I c.dv, I c.ix]] H fun r H' => ∃ nv, r = .agg #[nv, .int .u64 (iU rg c).cpl, .int .u64 (iU rg c).off] ∧ St prog H H' [⟨nv, 1, (iU rg c).stops.flatMap (one u64)⟩] := by
 refine .aE func104 rfl (by kernel_rfl) (m := 41) rfl fun l hn g0 g1 => ?_
 simp (disch := omega) only [↓RA, RB, simprocAttr, g0]
 refine (sR H).eNew 3 [sv, (.int .u64 rg.cpl), (.int .u64 rg.off)] rfl rfl (by simp [OC, ((sR H).sl hr.1).cells.2.1]) iK fun A1 H1 hS1 => ?_
 simp only [RT] at hS1
 simp (disch := omega) only [↓RA, RB, simprocAttr, g1]
 refine hS1.eNew 3 [I c.kind, I c.dv, I c.ix] rfl rfl rfl kE fun A2 H2 hS2 => ?_
 simp only [RT] at hS2
 simp (disch := omega) only [↓RA, RZ, simprocAttr]
 refine hS2.eNew 3 [(.slice none 0 0), (.int .u64 0), (.int .u64 0)] rfl rfl rfl iK fun A3 H3 hS3 => ?_
 simp only [RT] at hS3
 simp (disch := omega) only [↓RA, RZ, simprocAttr, hn, hS3.ld 0 rfl]
 refine gP ((a4I sv rg.stops (hS3.sl hr.1) h1 h0).tr) ?_
 rintro r H4 ⟨-, hT1⟩
 have hS4 := hS3.trans hT1
 simp only [RT] at hS4
 simp (disch := omega) only [↓RA, RZ, simprocAttr, hn]
 refine hS4.aa 0 rfl [r] (by rw [(hS4.rd 3 rfl).cells.1]) (by simp [(hS4.rd 3 rfl).cells.2.1]) b6B (by simp) fun H5 hS5 => ?_
 simp only [RT] at hS5
 simp (disch := omega) only [↓RA, RZ, simprocAttr, hn, hS5.ld 1 rfl]
 refine gJ (fun k1 => ?_) (fun k1 => ?_)
 ·obtain ⟨hd0, hd1, hi0, hi1⟩ := hc.1 k1
  obtain ⟨d, hd⟩ : ∃ d : Nat, c.dv = d := ⟨c.dv.toNat, by omega⟩
  obtain ⟨i, hi⟩ : ∃ i : Nat, c.ix = i := ⟨c.ix.toNat, by omega⟩
  have e1 := b1K (gK rg.stops d) i (by omega)
  simp only [hd, hi] at hS5
  simp (disch := omega) only [↓RA, RZ, simprocAttr, k1]
  refine Wp.drw iZ (by kernel_rfl) ?_
  simp (disch := omega) only [↓RA, RZ, simprocAttr, hn, hS5.ld 0 rfl, hS5.ld 1 rfl, (hS5.aw 3 rfl (fun _ => rfl)).idx, (hS5.aw 3 rfl (fun _ => rfl)).ld, one, u64, k1, e1, one, u64]
  refine hS5.aS 3 rfl [(.int .u64 (qF (gK rg.stops d) i : Nat))] rfl rfl a0d (by simp) (by have h : (rg.stops.flatMap (one u64)).length = rg.stops.length := (gV (n := 1) (fun _ => rfl) _).trans (by omega); rw [h]; simp; omega) fun H6 hS6 => ?_
  simp only [RT] at hS6
  simp (disch := omega) only [↓RA, RZ, simprocAttr, hn, hS6.ab 0 rfl]
  refine hS6.aa 2 rfl [r, (.int .u64 rg.cpl), (.int .u64 rg.off)] rfl (by simp [OC, (hS6.rd 3 rfl).cells.2.1]) iK (by simp) fun H7 hS7 => ?_
  simp only [RT] at hS7
  simp (disch := omega) only [↓RA, RZ, simprocAttr, hn, b3F, hS7.ab 2 rfl]
  refine ⟨r, by rw [iU, if_pos k1], ?_⟩
  have e2 : (iU rg c).stops.flatMap (one u64) = (rg.stops.flatMap (one u64)).set d (.int .u64 (qF (gK rg.stops d) i : Nat)) := by
   rw [iU, if_pos k1, tN, tN, hd, hi]
   show (rg.stops.set d _).map u64 = _
   rw [gj]
   rfl
  rw [e2]
  exact hS7.pick [3] (by decide) rfl
 simp (disch := omega) only [↓RA, RZ, simprocAttr, hn, k1]
 refine gJ (fun k2 => ?_) (fun k2 => ?_)
 ·obtain ⟨hi0, hi1⟩ := hc.2.1 k2
  obtain ⟨i, hi⟩ : ∃ i : Nat, c.ix = i := ⟨c.ix.toNat, by omega⟩
  have e1 := b1K rg.cpl i (by omega)
  simp only [hi] at hS5
  simp (disch := omega) only [↓RA, RZ, simprocAttr, k2]
  refine Wp.drw iZ (by kernel_rfl) ?_
  simp (disch := omega) only [↓RA, RZ, simprocAttr, hn, hS5.ld 0 rfl, hS5.ld 1 rfl, k2, e1]
  refine hS5.aa 0 rfl [_] rfl rfl a0d (by simp) fun H8 hS8 => ?_
  simp only [RT] at hS8
  simp (disch := omega) only [↓RA, RZ, simprocAttr, hn, hS8.ab 0 rfl]
  refine hS8.aa 2 rfl [r, _, (.int .u64 rg.off)] rfl (by simp [OC, (hS8.rd 3 rfl).cells.2.1]) iK (by simp) fun H9 hS9 => ?_
  simp only [RT] at hS9
  simp (disch := omega) only [↓RA, RZ, simprocAttr, hn, b3F, hS9.ab 2 rfl]
  refine ⟨r, by rw [iU, if_neg k1, if_pos k2, hi], ?_⟩
  have e2 : (iU rg c).stops = rg.stops := by rw [iU, if_neg k1, if_pos k2]
  rw [e2]
  exact hS9.pick [3] (by decide) rfl
 obtain ⟨hi0, hi1⟩ := hc.2.2 k1 k2
 obtain ⟨i, hi⟩ : ∃ i : Nat, c.dv = i := ⟨c.dv.toNat, by omega⟩
 have e1 := b1K rg.off i (by omega)
 simp only [hi] at hS5
 simp (disch := omega) only [↓RA, RZ, simprocAttr, k1, k2]
 refine Wp.drw iZ (by kernel_rfl) ?_
 simp (disch := omega) only [↓RA, RZ, simprocAttr, hn, hS5.ld 0 rfl, hS5.ld 1 rfl, e1]
 refine hS5.aa 0 rfl [_] rfl rfl a0d (by simp) fun H10 hS10 => ?_
 simp only [RT] at hS10
 simp (disch := omega) only [↓RA, RZ, simprocAttr, hn, hS10.ab 0 rfl]
 refine hS10.aa 2 rfl [r, (.int .u64 rg.cpl), _] rfl (by simp [OC, (hS10.rd 3 rfl).cells.2.1]) iK (by simp) fun H11 hS11 => ?_
 simp only [RT] at hS11
 simp (disch := omega) only [↓RA, RZ, simprocAttr, hn, b3F, hS11.ab 2 rfl]
 refine ⟨r, by rw [iU, if_neg k1, if_neg k2, hi], ?_⟩
 have e2 : (iU rg c).stops = rg.stops := by rw [iU, if_neg k1, if_neg k2]
 rw [e2]
 exact hS11.pick [3] (by decide) rfl
theorem uX {α : Type} [Inhabited α] {xs ys : List α} (hl : xs.length = ys.length) (h : ∀ j, j < xs.length → gK xs j = gK ys j) : xs = ys := by
 apply List.ext_getElem hl
 intro j h1 h2
 have := h j h1
 rwa [jL xs j h1, jL ys j h2] at this
theorem b3z (v w : Value) (xs ys : List Ct) (hv : Sl 2 kS H v xs) (hw : Sl 2 kS H w ys) (hl : xs.length < 1000000000) (hl2 : ys.length < 1000000000) :
 Fn prog 69 [v, w] H fun r H' => r = .bool (decide (xs = ys)) ∧ St prog H H' [] := by
 refine .aE func69 rfl (by kernel_rfl) (m := 26) rfl fun l hn g0 g1 => ?_
 simp (disch := omega) only [↓RA, RZ, simprocAttr, hn, g0, g1, ((sR H).sl hv).len, ((sR H).sl hw).len]
 refine gJ (fun h1 => ?_) (fun h1 => ?_)
 ·simp (disch := omega) only [↓RA, RZ, simprocAttr, hn, b9c, h1]
  exact ⟨by rw [decide_eq_false]; intro e; rw [e] at h1; exact h1 rfl, (sR H)⟩
 simp (disch := omega) only [↓RA, RZ, simprocAttr, hn, g0, ((sR H).sl hv).len, h1]
 refine Wp.al (fun n l H' => l.length = 26 ∧ get l 0 = v ∧ get l 1 = w ∧ get l 12 = I xs.length ∧ ∃ (j : Nat), (n + j = xs.length ∧ ∀ q, q < j → gK xs q = gK ys q) ∧ get l 13 = I j ∧ St prog H H' []) xs.length ?_ ?_
 ·simp (disch := omega) only [RB, RC, simprocAttr, hn, g0, g1]
  exact ⟨0, ⟨by omega, fun q hq => absurd hq (dy _)⟩, rfl, (sR H)⟩
 rintro n l H1 ⟨hn, g0, g1, g12, j, ⟨hj,hz⟩, g13, hS1⟩
 simp (disch := omega) only [↓RA, RB, simprocAttr, hn, g12, g13]
 refine gJ (fun q1 => ?_) (fun q1 => ?_)
 ·simp (disch := omega) only [↓RA, RZ, simprocAttr, hn, g13, q1]
  refine Wp.drw iZ (by kernel_rfl) ?_
  simp (disch := omega) only [↓RA, RZ, simprocAttr, hn, g0, g1, (hS1.sl hv).idx, (hS1.sl hv).ab, kS, (hS1.sl hw).idx, (hS1.sl hw).ab]
  refine gJ (fun q2 => ?_) (fun q2 => ?_)
  ·simp (disch := omega) only [↓RA, RZ, simprocAttr, hn, b9c, q2]
   refine ⟨?_, hS1⟩
   rw [decide_eq_false]
   intro e
   rw [e] at q2
   exact q2 ⟨rfl, rfl⟩
  have q3 := dG.1 q2
  simp (disch := omega) only [↓RA, RZ, simprocAttr, hn, g0, g1, g12, g13, q2]
  exact ⟨n - 1, by omega, j + 1, ⟨by omega, fun q hq => by rcases dj.1 hq with e | e; (· exact hz q e); (· rw [e]; exact Prod.ext q3.1 q3.2)⟩, by simp, hS1⟩
 simp (disch := omega) only [↓RA, RZ, simprocAttr, hn, b9c, q1]
 exact ⟨by rw [decide_eq_true]; exact uX (by omega) fun q hq => hz q (by omega), hS1⟩
theorem a9T (v w : Value) (xs ys : List Ct) (hv : Sl 2 kS H v xs) (hw : Sl 2 kS H w ys) (hl : xs.length < 1000000000) (hl2 : ys.length < 1000000000) :
 Fn prog 172 [v, w] H fun r H' => r = .bool (decide (xs = ys)) ∧ St prog H H' [] := by
 refine .aE func172 rfl (by kernel_rfl) (m := 8) rfl fun l hn g0 g1 => ?_
 simp (disch := omega) only [↓RA, RZ, simprocAttr, hn, g0, g1]
 refine (sR H).cF (b3z v w xs ys ((sR H).sl hv) ((sR H).sl hw) hl hl2) fun H1 hS1 => ?_
 simp (disch := omega) only [↓RA, RZ, simprocAttr, hn, c2n]
 exact hS1
def Pv.In (H : Heap) (p : Pv) : Prop := Sl 2 kS H p.v p.l
theorem b5R (v w : Value) (ps qs : List Pv) (hv : Sl 1 Pv.cells H v ps) (hw : Sl 1 Pv.cells H w qs) (hp : ∀ p ∈ ps, p.In H) (hq : ∀ p ∈ qs, p.In H) (hl : ps.length < 1000000000) (hl2 : qs.length < 1000000000) (hb : ∀ p ∈ ps, p.l.length < 1000000000) (hb2 : ∀ p ∈ qs, p.l.length < 1000000000) :
 Fn prog 171 [v, w, .func (.func 172) #[] #[]] H fun r H' => r = .bool (decide (ps.map (·.l) = qs.map (·.l))) ∧ St prog H H' [] := by
 have hne : ∀ j, j < ps.length → j < qs.length → (gK ps j).l ≠ (gK qs j).l → ps.map (·.l) ≠ qs.map (·.l) := fun j h1 h2 hne e => by
  apply hne
  have := congrArg (fun l => gK l j) e
  simp only at this
  rwa [uC _ h1, uC _ h2] at this
 refine .bf func171 rfl (by kernel_rfl) (m := 32) rfl fun l hn g0 g1 g2 => ?_
 simp (disch := omega) only [↓RA, RZ, simprocAttr, hn, g0, g1, ((sR H).sl hv).len, ((sR H).sl hw).len]
 refine gJ (fun h1 => ?_) (fun h1 => ?_)
 ·simp (disch := omega) only [↓RA, RZ, simprocAttr, hn, b3U, h1]
  refine ⟨?_, (sR H)⟩
  rw [decide_eq_false]
  intro e
  have := congrArg List.length e
  rw [dr, dr] at this
  omega
 simp (disch := omega) only [↓RA, RZ, simprocAttr, hn, g0, ((sR H).sl hv).len, h1]
 refine Wp.al (fun n l H' => l.length = 32 ∧ get l 1 = w ∧ get l 2 = (.func (.func 172) #[] #[]) ∧ get l 15 = v ∧ get l 16 = I ps.length ∧ ∃ (j : Nat), (n + j = ps.length ∧ ∀ q, q < j → (gK ps q).l = (gK qs q).l) ∧ get l 17 = I j ∧ St prog H H' []) ps.length ?_ ?_
 ·simp (disch := omega) only [RB, RC, simprocAttr, hn, g1, g2]
  exact ⟨0, ⟨by omega, fun q hq => absurd hq (dy _)⟩, rfl, (sR H)⟩
 rintro n l H1 ⟨hn, g1, g2, g15, g16, j, ⟨hj,hz⟩, g17, hS1⟩
 simp (disch := omega) only [↓RA, RB, simprocAttr, hn, g16, g17]
 refine gJ (fun q1 => ?_) (fun q1 => ?_)
 ·simp (disch := omega) only [↓RA, RZ, simprocAttr, hn, g1, g2, g15, g17, (hS1.sl hv).idx, (hS1.sl hv).ld, Pv.cells, (hS1.sl hw).idx, (hS1.sl hw).ld, q1]
  refine hS1.cF (a9T (gK ps j).v (gK qs j).v (gK ps j).l (gK qs j).l (hS1.sl (hp _ (gN (by omega)))) (hS1.sl (hq _ (gN (by omega)))) (hb _ (gN (by omega))) (hb2 _ (gN (by omega)))) fun H2 hS2 => ?_
  simp (disch := omega) only [↓RA, RZ, simprocAttr, hn, q1]
  refine iA (fun q2 => ?_) (fun q2 => ?_)
  ·simp (disch := omega) only [↓RA, RZ, simprocAttr, hn, b3U, q1, q2]
   exact ⟨by rw [decide_eq_false (hne j (by omega) (by omega) (by simpa using q2))], hS2⟩
  simp (disch := omega) only [↓RA, RZ, simprocAttr, hn, g1, g2, g15, g16, g17, q1, q2]
  exact ⟨n - 1, by omega, j + 1, ⟨by omega, fun q hq => by rcases dj.1 hq with e | e; (· exact hz q e); (· rw [e]; simpa using q2)⟩, by simp, hS2⟩
 simp (disch := omega) only [↓RA, RZ, simprocAttr, hn, b3U, q1]
 refine ⟨?_, hS1⟩
 rw [decide_eq_true]
 refine uX (by simp; omega) fun q hq => ?_
 rw [dr] at hq
 rw [uC _ hq, uC _ (by omega)]
 exact hz q (by omega)
theorem b7h (v : Value) (xs : List Ctl) (hv : Sl 3 Ctl.cells H v xs) (hl : xs.length < 1000000000) (k : FuncId) (caps : List Value) (p : Nat → Bool)
 (hf : ∀ j H1, j < xs.length → St prog H H1 [] → Fn prog k (.agg #[I (gK xs j).kind, I (gK xs j).dv, I (gK xs j).ix] :: caps) H1 fun r H2 => r = .bool (p j) ∧ St prog H1 H2 []) :
 Fn prog 229 [v, .func (.func k) #[] caps.toArray] H fun r H' => r = I (nP p xs.length) ∧ St prog H H' [] := by
 refine .aE func229 rfl (by kernel_rfl) (m := 19) rfl fun l hn g0 g1 => ?_
 simp (disch := omega) only [↓RA, RZ, simprocAttr, hn, g0, ((sR H).sl hv).len]
 refine Wp.al (fun n l H' => l.length = 19 ∧ get l 0 = v ∧ get l 1 = .func (.func k) #[] caps.toArray ∧ get l 7 = I xs.length ∧ ∃ (j : Nat), (n + j = xs.length ∧ ∀ q, q < j → p q = false) ∧ get l 8 = I j ∧ St prog H H' []) xs.length ?_ ?_
 ·simp (disch := omega) only [RB, RC, simprocAttr, hn, g0, g1]
  exact ⟨0, ⟨by omega, fun q hq => absurd hq (dy _)⟩, rfl, (sR H)⟩
 rintro n l H1 ⟨hn, g0, g1, g7, j, ⟨hi,h0⟩, g8, hS1⟩
 simp (disch := omega) only [↓RA, RB, simprocAttr, hn, g7, g8]
 refine gJ (fun h => ?_) (fun h => ?_)
 ·simp (disch := omega) only [↓RA, RZ, simprocAttr, hn, g0, g1, g8, (hS1.sl hv).idx, (hS1.sl hv).ab, Ctl.cells, h]
  refine hS1.cF (hf j _ (by omega) hS1) fun H2 hS2 => ?_
  simp (disch := omega) only [↓RA, RZ, simprocAttr, hn, h]
  refine iA (fun hp => ?_) (fun hp => ?_)
  ·simp (disch := omega) only [↓RA, RZ, simprocAttr, hn, b8u, h, hp]
   exact ⟨by rw [tZ p xs.length j (by omega) hp h0], hS2⟩
  simp (disch := omega) only [↓RA, RZ, simprocAttr, hn, g0, g1, g7, g8, h, hp]
  exact ⟨n - 1, by omega, j + 1, ⟨by omega, fun q hq => by rcases dj.1 hq with e | e; (· exact h0 q e); (· rw [e]; exact hp)⟩, by simp, hS2⟩
 simp (disch := omega) only [↓RA, RZ, simprocAttr, hn, b8u, h]
 exact ⟨by rw [tW p xs.length fun q hq => h0 q (by omega)], hS1⟩
theorem c1u : a6q prog 92 = some (2 + 1) := by kernel_rfl
theorem qA (a b : List Ctl) : jY (a ++ b) = jY a ++ jY b := dU
theorem b6q {B : Base} {v : Value} {xs : List Ctl} (hS : St prog B H [⟨v, 3, jY xs⟩]) (hl : xs.length < 100000) (k : FuncId) (caps : List Value) (p : Ctl → Bool)
 (hf : ∀ c ∈ xs, ∀ {H1 : Heap} {os : List Ob}, St prog B H1 os → Fn prog k (.agg #[I c.kind, I c.dv, I c.ix] :: caps) H1 fun r H2 => r = .bool (p c) ∧ St prog H1 H2 []) :
 Fn prog 169 [v, .func (.func k) #[] caps.toArray] H fun r H' => ∃ rest : List Value, (∀ b, jT r = some b → jT v = some b) ∧ (∀ H2, RdAt H2 v 3 (jY (xs.filter fun c => !p c) ++ rest) → RdAt H2 r 3 (jY (xs.filter fun c => !p c))) ∧
  St prog B H' [⟨v, 3, jY (xs.filter fun c => !p c) ++ rest⟩] := by
 refine .aE func169 rfl (by kernel_rfl) (m := 42) rfl fun l hn g0 g1 => ?_
 simp (disch := omega) only [↓RA, RZ, simprocAttr, hn, g0, g1]
 refine hS.cF (b7h v xs (hS.aw 0 rfl (fun _ => rfl)) (by omega) k caps (fun j => p (gK xs j)) (fun j H1 hj hS' => hf _ (gN hj) (hS.trans hS'))) fun H1 hS1 => ?_
 simp (disch := omega) only [↓RA, RB, simprocAttr, hn]
 refine gJ (fun h1 => ?_) (fun h1 => ?_)
 ·have hno : ∀ c ∈ xs, p c = false := by
   intro c hc
   obtain ⟨j, hj, rfl⟩ := dI.1 hc
   have h2 : ¬ 0 ≤ nP (fun j => p (gK xs j)) xs.length := by omega
   rw [vW] at h2
   rw [← jL xs j hj, ← ey]
   exact fun hp => h2 ⟨j, hj, hp⟩
  have hfe : (xs.filter fun c => !p c) = xs := List.filter_eq_self.2 fun c hc => by rw [hno c hc]; rfl
  simp (disch := omega) only [↓RA, RZ, simprocAttr, hn, g0, b8e, h1]
  exact ⟨[], fun _ h => h, by rw [hfe, dh]; exact fun _ h => h, by rw [hfe, dh]; exact hS1⟩
 have hge : 0 ≤ nP (fun j => p (gK xs j)) xs.length := by
  unfold nP at h1 ⊢
  split
  ·omega
  ·rename_i hq
   rw [hq] at h1
   exact absurd rfl h1
 obtain ⟨i0, hi0⟩ : ∃ i0 : Nat, nP (fun j => p (gK xs j)) xs.length = i0 := ⟨_, (fz hge).symm⟩
 have hi0l := a0t hi0
 have hi0b : (∀ j, j < i0 → p (gK xs j) = false) ∧ p (gK xs i0) = true := by
  unfold nP at hi0
  split at hi0
  ·rename_i q hq
   have hqi : q = i0 := by omega
   subst hqi
   rw [List.find?_range_eq_some] at hq
   exact ⟨fun j hj => by have := hq.2.2 j hj; simpa using this, hq.1⟩
  ·omega
 have hD0 : ((xs.take (i0 + 1)).filter fun c => !p c) = xs.take i0 := by
  rw [lE xs i0 hi0l, eV]
  have e1 : ([gK xs i0].filter fun c => !p c) = [] := by simp [hi0b.2]
  rw [e1, dh]
  refine List.filter_eq_self.2 fun c hc => ?_
  obtain ⟨j, hj, rfl⟩ := dI.1 hc
  have hj2 : j < i0 := by rw [fD] at hj; omega
  have := hi0b.1 j hj2
  rw [jL xs j (by omega)] at this
  rw [List.getElem_take, this]
  rfl
 simp (disch := omega) only [↓RA, RZ, simprocAttr, hn, hi0]
 have hrow : St prog B H1 [⟨v, 3, jY (((xs.take (i0 + 1)).filter fun c => !p c) ++ xs.drop ((xs.take (i0 + 1)).filter fun c => !p c).length)⟩] := by
  rw [hD0, fD, fI (by omega), fW]
  exact hS1
 have hlt0 : ((xs.take (i0 + 1)).filter fun c => !p c).length < i0 + 1 := by
  rw [hD0, fD]
  omega
 refine Wp.al (fun n l H' => l.length = 42 ∧ get l 0 = v ∧ get l 1 = .func (.func k) #[] caps.toArray ∧ ∃ j : Nat, (n + j = xs.length ∧ ((xs.take j).filter fun c => !p c).length < j) ∧ get l 5 = I ((xs.take j).filter fun c => !p c).length ∧ get l 6 = I j ∧ St prog B H' [⟨v, 3, jY (((xs.take j).filter fun c => !p c) ++ xs.drop ((xs.take j).filter fun c => !p c).length)⟩]) (xs.length - (i0 + 1)) ?_ ?_
 ·simp (disch := omega) only [RB, RC, simprocAttr, hn, g0, g1]
  refine ⟨i0 + 1, ⟨by omega, hlt0⟩, ?_, by simp, hrow⟩
  rw [hD0, fD, fI (by omega)]
 clear hrow hlt0
 rintro n l H9 ⟨hn, g0, g1, j, ⟨hj, hlt⟩, g5, g6, hS9⟩
 have hsucc : j < xs.length → ((xs.take (j + 1)).filter fun c => !p c) = ((xs.take j).filter fun c => !p c) ++ (if p (gK xs j) = true then [] else [gK xs j]) := fun h => by
  rw [lE xs j h, eV]
  congr 1
  by_cases hp : p (gK xs j) = true
  ·rw [if_pos hp]; simp [hp]
  ·rw [if_neg hp]; simp [hp]
 have hall : j = xs.length → ((xs.take j).filter fun c => !p c) = xs.filter fun c => !p c := fun h => by rw [h, ez]
 generalize hD : ((xs.take j).filter fun c => !p c) = D at g5 hlt hS9 hsucc hall
 have hjl : j ≤ xs.length := by omega
 have hrl : (D ++ xs.drop D.length).length = xs.length := by rw [di, eF]; omega
 have hat : ∀ q, D.length ≤ q → gK (D ++ xs.drop D.length) q = gK xs q := fun q hq => by
  unfold gK
  rw [cZ, dW hq, dx, cZ]
  congr 2; omega
 have hatj := hat j (by omega)
 simp (disch := omega) only [↓RA, RZ, simprocAttr, hn, g0, g6, (hS9.aw 0 rfl (fun _ => rfl)).len, hrl]
 refine gJ (fun h4 => ?_) (fun h4 => ?_)
 ·have hjx : j < xs.length := by omega
  have hsu := hsucc hjx
  simp (disch := omega) only [↓RA, RZ, simprocAttr, hn, g0, g6, (hS9.aw 0 rfl (fun _ => rfl)).idx, (hS9.aw 0 rfl (fun _ => rfl)).ab, Ctl.cells, hatj, h4]
  refine hS9.eNew 3 [I 0, I 0, I 0] rfl rfl rfl kE fun A1 H2 hS2 => ?_
  simp only [RT] at hS2
  simp (disch := omega) only [↓RA, RZ, simprocAttr, hn, h4]
  refine hS2.aa 1 rfl [I (gK xs j).kind, I (gK xs j).dv, I (gK xs j).ix] rfl rfl kE (by simp) fun H3 hS3 => ?_
  simp only [RT] at hS3
  simp (disch := omega) only [↓RA, RZ, simprocAttr, hn, g1, hS3.ab 1 rfl, h4]
  refine hS3.cF (hf (gK xs j) (gN hjx) hS3) fun H4 hS4 => ?_
  simp (disch := omega) only [↓RA, RZ, simprocAttr, hn, h4]
  refine iA (fun h5 => ?_) (fun h5 => ?_)
  ·have hpf : ¬ p (gK xs j) = true := by simpa using h5
   rw [if_neg hpf] at hsu
   simp (disch := omega) only [↓RA, RZ, simprocAttr, hn, g0, g5, hS4.ab 1 rfl, (hS4.aw 0 rfl (fun _ => rfl)).idx, h4, h5]
   refine hS4.aS 0 rfl [I (gK xs j).kind, I (gK xs j).dv, I (gK xs j).ix] rfl rfl kE (by simp) (by rw [kZ, hrl]; simp; omega) fun H5 hS5 => ?_
   simp only [RT] at hS5
   simp (disch := omega) only [↓RA, RZ, simprocAttr, hn, g0, g1, g5, g6, h4, h5]
   refine ⟨n - 1, by omega, j + 1, ?_⟩
   rw [hsu]
   refine ⟨⟨by omega, by simp; omega⟩, by simp, by simp, ?_⟩
   have e3 : jY (D ++ [gK xs j] ++ xs.drop (D ++ [gK xs j]).length) = (((jY (D ++ xs.drop D.length)).set (D.length * 3) (I (gK xs j).kind)).set (D.length * 3 + 1) (I (gK xs j).dv)).set (D.length * 3 + 1 + 1) (I (gK xs j).ix) := by
    have hx : xs.drop D.length = gK xs D.length :: xs.drop (D.length + 1) := by
     rw [jL xs _ (by omega)]
     exact eL (by omega)
    rw [hx, di, List.length_singleton, qA, qA, qA]
    have e4 : jY (gK xs D.length :: xs.drop (D.length + 1)) = I (gK xs D.length).kind :: I (gK xs D.length).dv :: I (gK xs D.length).ix :: jY (xs.drop (D.length + 1)) := rfl
    have e5 : jY [gK xs j] = [I (gK xs j).kind, I (gK xs j).dv, I (gK xs j).ix] := rfl
    have e6 : (jY D).length = D.length * 3 := kZ D
    rw [e4, e5, eu _ _ (by omega), eu _ _ (by omega), eu _ _ (by omega), e6, Nat.sub_self, fy, show D.length * 3 + 1 + 1 - D.length * 3 = 2 from by omega]
    simp
   rw [e3]
   exact hS5.pick [0] (by decide) rfl
  have hpt : p (gK xs j) = true := by simpa using h5
  rw [if_pos hpt, dh] at hsu
  simp (disch := omega) only [↓RA, RZ, simprocAttr, hn, g0, g1, g5, g6, h4, h5]
  refine ⟨n - 1, by omega, j + 1, ?_⟩
  rw [hsu]
  exact ⟨⟨by omega, by omega⟩, rfl, by simp, hS4.pick [0] (by decide) rfl⟩
 have hje : j = xs.length := by omega
 have hDe := hall hje
 have hcl : (jY (D ++ xs.drop D.length)).length = xs.length * (2 + 1) := by rw [kZ, hrl]
 have hDn : D.length ≤ xs.length := by omega
 simp (disch := omega) only [↓RA, RZ, simprocAttr, hn, g0, g5, (hS9.aw 0 rfl (fun _ => rfl)).aU, hrl, h4]
 rw [show ((xs.length : Int) - D.length).toNat = xs.length - D.length from by omega]
 refine hS9.bF (size := 2) 0 rfl D.length (xs.length - D.length) (by rw [hcl]; omega) (by
  intro e
  have h2 : (jY (D ++ xs.drop D.length)).length = 0 := by rw [e]; rfl
  rw [hcl] at h2; omega) c1u fun z H3 hz hSc => ?_
 simp only [RT] at hSc
 have e3 : iG (jY (D ++ xs.drop D.length)) (D.length * 3) z = jY D ++ z := by
  rw [qA, show D.length * 3 = (jY D).length from (kZ D).symm, mE z (jY D) (jY (xs.drop D.length)) (by rw [kZ, eF]; omega)]
  rw [List.drop_of_length_le (by rw [kZ, eF]; omega), dh]
 rw [show D.length * (2 + 1) = D.length * 3 from rfl, e3] at hSc
 have hw : RdAt H3 v (2 + 1) (jY D ++ z) := hSc.rd 0 rfl
 have hwl : (jY D ++ z).length = xs.length * (2 + 1) := by rw [di, kZ, hz]; omega
 simp (disch := omega) only [↓RA, RZ, simprocAttr, hn, g0, g5, hw.aV hwl, b8e, h4]
 refine ⟨z, fun b h => a0K h, fun H2 h2 => ?_, by rw [← hDe]; exact hSc⟩
 rw [← hDe] at h2 ⊢
 have h5 := RdAt.sub h2 0 D.length (by rw [hwl]; omega) (by
  intro e
  rw [e] at hwl
  simp at hwl; omega)
 rw [Nat.zero_mul, List.drop_zero, show D.length * 3 = (jY D).length from (kZ D).symm, List.take_left' rfl] at h5
 exact h5
theorem a2q (rg : Reg) (c : Ctl) : (iU rg c).stops.length = rg.stops.length := by
 unfold iU
 split
 ·simp
 ·split <;> rfl
theorem tI {rg : Reg} (h : rg.Ok) (c : Ctl) : (iU rg c).Ok := by
 obtain ⟨h1, h2, h3, h4⟩ := h
 unfold iU
 split
 ·refine ⟨by simpa using h1, ?_, h3, h4⟩
  intro x hx
  rcases List.mem_or_eq_of_mem_set hx with h | h
  ·exact h2 x h
  ·rw [h]; exact a3p _ _
 ·split
  ·exact ⟨h1, h2, a3p _ _, h4⟩
  ·exact ⟨h1, h2, h3, a3p _ _⟩
theorem c0i {o : Org} (hf : o.Fine) (rg : Reg) (c : Ct) : (ofF o rg c).length ≤ 1000000 := by
 unfold ofF
 split
 ·rename_i h
  have hc := (a3g h).2
  unfold a8q a7v
  refine dz (b3d _) ?_
  rw [nZ]
  have hm : ∀ x ∈ [c], rB o x = true := by intro x hx; rw [dJ.1 hx]; exact hc
  have h1 := tP hf rg (tG o rg [c]) (a1i hm)
  have h2 := a1o hf (rg := rg) (l := [c]) (by simp)
  omega
 ·simp
theorem a2O {o : Org} (hf : o.Fine) (rg : Reg) : ∀ l ∈ oP o rg, l.length ≤ 1000000 := by
 intro l hl
 obtain ⟨c, _, rfl⟩ := dA.1 hl
 exact c0i hf rg c
theorem pL {rg : Reg} (h64 : rg.stops.length ≤ 64) : ∀ c ∈ gO rg, c.cM rg := by
 intro c hc
 unfold gO at hc
 have hb : ∀ (x i : Nat), i ∈ oR x → i < 64 := fun x i hi => by
  unfold oR at hi
  exact dF.1 (eD.1 hi).1
 rcases dB.1 hc with hc | hc
 ·rcases dB.1 hc with hc | hc
  ·obtain ⟨d, hd, hc⟩ := eJ.1 hc
   obtain ⟨i, hi, rfl⟩ := dA.1 hc
   have hd := dF.1 hd
   have hi := hb _ _ hi
   refine ⟨fun _ => ?_, fun h => ?_, fun h => ?_⟩
   ·simp only [nD]; omega
   ·simp only [nD] at h; omega
   ·exact absurd rfl h
  ·obtain ⟨i, hi, rfl⟩ := dA.1 hc
   have hi := hb _ _ hi
   refine ⟨fun h => ?_, fun _ => ?_, fun _ h => ?_⟩
   ·simp only [mO] at h; omega
   ·simp only [mO]; omega
   ·exact absurd rfl h
 ·obtain ⟨i, hi, rfl⟩ := dA.1 hc
  have hi := hb _ _ hi
  refine ⟨fun h => ?_, fun h => ?_, fun _ _ => ?_⟩
  ·simp only [pT] at h; omega
  ·simp only [pT] at h; omega
  ·simp only [pT]; omega
theorem b3x (o : Org) (ho : o.In H) (hf : o.Fine) (rg : Reg) (sv : Value) (hr : rg.In H sv) (h0 : 0 < rg.stops.length) (h1 : rg.stops.length < 100000) (c : Ctl) (hc : c.cM rg) (AO AR AW : Nat)
 (hAO : Var H AO 4 [.string o.name, o.rv, o.dv, o.cv]) (hAR : Var H AR 3 [sv, .int .u64 rg.cpl, .int .u64 rg.off]) (wv : Value) (own : List Pv) (hAW : Var H AW 1 [wv]) (hw : Sl 1 Pv.cells H wv own) (hwi : ∀ p ∈ own, p.In H) (hwl : own.length < 1000000000) (hwb : ∀ p ∈ own, p.l.length < 1000000000) :
 Fn prog 170 [.agg #[I c.kind, I c.dv, I c.ix], ptr AO 0 4, ptr AR 0 3, ptr AW 0 1] H fun r H' => r = .bool (!(decide (oP o (iU rg c) = own.map (·.l)))) ∧ St prog H H' [] := by
 refine .cP func170 rfl (by kernel_rfl) (m := 14) rfl fun l hn g0 g1 g2 g3 => ?_
 simp (disch := omega) only [↓RA, RB, simprocAttr, g0]
 refine (sR H).eNew 3 [I c.kind, I c.dv, I c.ix] rfl rfl rfl kE fun A1 H1 hS1 => ?_
 simp only [RT] at hS1
 simp (disch := omega) only [↓RA, RB, simprocAttr]
 refine Wp.aJ iZ [(0, 4), (5, 0), (5, 4)] (by kernel_rfl) (by kernel_rfl) ?_
 simp (disch := omega) only [↓RA, RZ, simprocAttr, hn, g1, g2, (hS1.va hAO).ab, (hS1.va hAR).ab, hS1.ab 0 rfl]
 refine gP (wN rg sv (hr.ae hS1) h0 h1 c hc) ?_
 rintro r H2 ⟨nv, rfl, hT1⟩
 have hS2 := hS1.trans hT1
 simp only [RT] at hS2
 simp (disch := omega) only [↓RA, RZ, simprocAttr, hn]
 have hln := a2q rg c
 refine gP (a3l o (ho.ae hS2) hf (iU rg c) nv ⟨hS2.aw 1 rfl (fun _ => rfl), tI hr.2 c⟩) ?_
 rintro r H3 ⟨ps, hps, hpx, hpi, hT2⟩
 have hS3 := hS2.trans hT2
 simp only [RT] at hS3
 have hpl : ps.length < 1000000000 := by
  have h2 := congrArg List.length hps
  rw [dr] at h2
  have h3 := a1L hf
  unfold oP at h2
  rw [dr] at h2
  omega
 have hpb : ∀ p ∈ ps, p.l.length < 1000000000 := fun p hp => by
  have := a2O hf (iU rg c) p.l (by rw [← hps]; exact fA hp)
  omega
 simp (disch := omega) only [↓RA, RZ, simprocAttr, hn, g3, (hS3.va hAW).ld]
 refine hS3.cF (b5R r wv ps own hpx.1 (hS3.sl hw) (fun p hp => (hpi p hp).1) (fun p hp => hS3.sl (hwi p hp)) hpl hwl hpb hwb) fun H4 hS4 => ?_
 simp (disch := omega) only [↓RA, RZ, simprocAttr, hn, g1, g3, (hS2.va hAO).ab, (hS1.va hAW).ld, (hS2.va hAW).ld, c1k]
 exact ⟨by rw [hps], hS4.forget⟩
theorem kN {rg : Reg} (h60 : rg.stops.length ≤ 60) : (gO rg).length < 100000 := by
 have e : gO rg = vA rg rg.stops.length ++ (jN rg.cpl 64).map mO ++ (jN rg.off 64).map pT := rfl
 rw [e, di, di, dr, dr]
 have h1 := a0q rg rg.stops.length
 have h2 := lI rg.cpl 64
 have h3 := lI rg.off 64
 omega
theorem a4A (o : Org) (rg : Reg) : ((gO rg).filter fun c => !(!(decide (oP o (iU rg c) = oP o rg)))) = lT o rg := by
 unfold lT
 congr 1
 funext c
 rw [Bool.not_not]
theorem a8P (o : Org) (ho : o.In H) (hf : o.Fine) (rg : Reg) (sv : Value) (hr : rg.In H sv) (h0 : 0 < rg.stops.length) (h60 : rg.stops.length ≤ 60) :
 Fn prog 102 [.agg #[.string o.name, o.rv, o.dv, o.cv], .agg #[sv, .int .u64 rg.cpl, .int .u64 rg.off]] H fun r H' => Slx 3 Ctl.cells H' (fun B => H.length ≤ B) r (lT o rg) ∧ St prog H H' [] := by
 refine .aE func102 rfl (by kernel_rfl) (m := 13) rfl fun l hn g0 g1 => ?_
 simp (disch := omega) only [↓RA, RB, simprocAttr, g0]
 refine (sR H).eNew 4 [(.string o.name), o.rv, o.dv, o.cv] rfl rfl (by simp [OC, ((sR H).sl ho.1).cells.2.1, ((sR H).sl ho.2.2.1).cells.2.1, ((sR H).sl ho.2.2.2.2.1).cells.2.1]) lD fun A1 H1 hS1 => ?_
 simp only [RT] at hS1
 simp (disch := omega) only [↓RA, RB, simprocAttr, g1]
 refine hS1.eNew 3 [sv, (.int .u64 rg.cpl), (.int .u64 rg.off)] rfl rfl (by simp [OC, (hS1.sl hr.1).cells.2.1]) iK fun A2 H2 hS2 => ?_
 simp only [RT] at hS2
 simp (disch := omega) only [↓RA, RZ, simprocAttr, hn, hS2.ab 0 rfl, hS2.ab 1 rfl]
 have hS0 := hS2
 refine gP (a3l o (ho.ae hS2) hf rg sv (hr.ae hS2)) ?_
 rintro r H3 ⟨ps, hps, hpx, hpi, hT1⟩
 have hS3 := hS2.trans hT1
 simp only [RT] at hS3
 obtain ⟨wv, rfl⟩ : ∃ w, w = r := ⟨r, rfl⟩
 have hpl : ps.length < 1000000000 := by
  have h2 := congrArg List.length hps
  rw [dr] at h2
  have h3 := a1L hf
  unfold oP at h2
  rw [dr] at h2
  omega
 have hpb : ∀ p ∈ ps, p.l.length < 1000000000 := fun p hp => by
  have := a2O hf rg p.l (by rw [← hps]; exact fA hp)
  omega
 have hkn := hS0.aZ (H' := H3)
 have hpx2 := hpx.step hkn
 have hpi2 := fun p hp => (hpi p hp).step hkn
 have hS1 := hS3
 obtain ⟨X, hBX, hS4⟩ := hS3.az (os := [⟨ptr A1 0 4, 0, _⟩, ⟨ptr A2 0 3, 0, _⟩])
 simp (disch := omega) only [↓RA, RZ, simprocAttr]
 refine hS4.eNew 1 [(.slice none 0 0)] rfl rfl rfl a5q fun A3 H4 hS5 => ?_
 simp only [RT] at hS5
 simp (disch := omega) only [↓RA, RB, simprocAttr, hn]
 refine hS5.aa 2 rfl [wv] (by rw [hpx.1.cells.1]) (by simp [hpx.1.cells.2.1]) a5q (by simp) fun H5 hS6 => ?_
 simp only [RT] at hS6
 simp (disch := omega) only [↓RA, RZ, simprocAttr, hn, hS6.ab 1 rfl]
 refine gP ((qV rg sv (hr.ae (hS3.aj hBX hS6)) h60).tr) ?_
 rintro r H6 ⟨-, hT2⟩
 have hS7 := hS6.trans hT2
 simp only [RT] at hS7
 obtain ⟨cw, rfl⟩ : ∃ w, w = r := ⟨r, rfl⟩
 simp (disch := omega) only [↓RA, RZ, simprocAttr, hn]
 have hM1 := hS7.pick (os' := [⟨cw, 3, _⟩]) [3] (by decide) rfl
 have hR1 := hS7.pick (os' := [⟨cw, 3, _⟩, ⟨ptr A1 0 4, 0, _⟩, ⟨ptr A2 0 3, 0, _⟩, ⟨ptr A3 0 1, 0, _⟩]) [3, 0, 1, 2] (by decide) rfl
 refine gP (b6q (xs := gO rg) hM1.aK (kN h60) 170 [ptr A1 0 4, ptr A2 0 3, ptr A3 0 1] (fun c => !(decide (oP o (iU rg c) = oP o rg))) (fun c hc {H9 os} h => by
  have q1 := hR1.frame h.forget
  have q2 := hS1.aj hBX q1
  have q3 := q1.kept hBX
  have q4 := b3x o (ho.ae q2) hf rg sv (hr.ae q2) h0 (by omega) c (pL (by omega) c hc) A1 A2 A3 (q1.var 0 rfl) (q1.var 1 rfl) wv ps (q1.var 2 rfl) (hpx2.step q3).1 (fun p hp => ((hpi2 p hp).step q3).1) hpl hpb
  rw [hps] at q4
  exact q4)) ?_
 rintro r H7 ⟨rest, hb, hrd, hT3⟩
 have hS8 := hR1.frame hT3
 simp only [RT] at hS8
 rw [a4A] at hrd
 have hrr := hrd _ (by rw [← a4A]; exact hS8.rd 0 rfl)
 have hrc := hrr.cells
 simp (disch := omega) only [↓RA, RB, simprocAttr, hn, c1C]
 refine ⟨⟨⟨hrr, fun _ => rfl, by decide⟩, fun b h => ?_⟩, (hS3.aj hBX hS8).forget⟩
 rcases (hS3.aj hBX hS8).new _ (dZ ..) b (hb b h) with h | h
 ·exact h
 ·exact h.elim
theorem lN (o : Org) (ho : o.In H) (rg : Reg) (sv : Value) (hr : rg.In H sv) :
 Fn prog 101 [.agg #[.string o.name, o.rv, o.dv, o.cv], .agg #[sv, .int .u64 rg.cpl, .int .u64 rg.off]] H fun r H' => r = I (jX o rg) ∧ St prog H H' [] := by
 refine .aE func101 rfl (by kernel_rfl) (m := 14) rfl fun l hn g0 g1 => ?_
 simp (disch := omega) only [↓RA, RB, simprocAttr, g0]
 refine (sR H).eNew 4 [(.string o.name), o.rv, o.dv, o.cv] rfl rfl (by simp [OC, ((sR H).sl ho.1).cells.2.1, ((sR H).sl ho.2.2.1).cells.2.1, ((sR H).sl ho.2.2.2.2.1).cells.2.1]) lD fun A1 H1 hS1 => ?_
 simp only [RT] at hS1
 simp (disch := omega) only [↓RA, RB, simprocAttr, g1]
 refine hS1.eNew 3 [sv, (.int .u64 rg.cpl), (.int .u64 rg.off)] rfl rfl (by simp [OC, (hS1.sl hr.1).cells.2.1]) iK fun A2 H2 hS2 => ?_
 simp only [RT] at hS2
 simp (disch := omega) only [↓RA, RZ, simprocAttr, hn, hS2.ab 0 rfl]
 refine hS2.cF (a1g o (ho.ae hS2)) fun H3 hS3 => ?_
 simp (disch := omega) only [↓RA, RB, simprocAttr, hn]
 refine gJ (fun h1 => ?_) (fun h1 => ?_)
 ·simp (disch := omega) only [↓RA, RZ, simprocAttr, hn, b8i, h1]
  exact ⟨by rw [jX, if_pos h1], hS3.forget⟩
 simp (disch := omega) only [↓RA, RZ, simprocAttr, hn, hS3.ab 0 rfl, hS3.ab 1 rfl, h1]
 refine hS3.cF (b3r o (ho.ae hS3) rg sv (hr.ae hS3)) fun H4 hS4 => ?_
 simp (disch := omega) only [↓RA, RZ, simprocAttr, hn, b8i, h1]
 exact hS4.forget
theorem b6t (o : Org) (ho : o.In H) (rg : Reg) (sv : Value) (hr : rg.In H sv) :
 Fn prog 38 [.agg #[.string o.name, o.rv, o.dv, o.cv], .agg #[sv, .int .u64 rg.cpl, .int .u64 rg.off]] H fun r H' => ∃ lv, r = .tuple #[lv, I (jX o rg)] ∧ Slx 3 Ctl.cells H' (fun B => H.length ≤ B) lv (if jX o rg = 0 then lT o rg else []) ∧ St prog H H' [] := by
 refine .aE func38 rfl (by kernel_rfl) (m := 16) rfl fun l hn g0 g1 => ?_
 simp (disch := omega) only [↓RA, RB, simprocAttr, g0]
 refine (sR H).eNew 4 [(.string o.name), o.rv, o.dv, o.cv] rfl rfl (by simp [OC, ((sR H).sl ho.1).cells.2.1, ((sR H).sl ho.2.2.1).cells.2.1, ((sR H).sl ho.2.2.2.2.1).cells.2.1]) lD fun A1 H1 hS1 => ?_
 simp only [RT] at hS1
 simp (disch := omega) only [↓RA, RB, simprocAttr, g1]
 refine hS1.eNew 3 [sv, (.int .u64 rg.cpl), (.int .u64 rg.off)] rfl rfl (by simp [OC, (hS1.sl hr.1).cells.2.1]) iK fun A2 H2 hS2 => ?_
 simp only [RT] at hS2
 simp (disch := omega) only [↓RA, RZ, simprocAttr, hn, hS2.ab 0 rfl, hS2.ab 1 rfl]
 refine hS2.cF (lN o (ho.ae hS2) rg sv (hr.ae hS2)) fun H3 hS3 => ?_
 simp (disch := omega) only [↓RA, RB, simprocAttr, hn]
 refine gJ (fun h1 => ?_) (fun h1 => ?_)
 ·simp (disch := omega) only [↓RA, RZ, simprocAttr, hn, c1N, h1]
  exact ⟨.slice none 0 0, rfl, ⟨⟨.inl ⟨rfl, rfl⟩, fun _ => rfl, by decide⟩, fun b h => by simp [jT] at h⟩, hS3.forget⟩
 have h0 := dG.1 h1
 obtain ⟨hz3, hz4⟩ := iY h0
 have hf := Org.aT hz3
 have hd1 := hf.dpos
 have hd2 := hf.dlen
 simp (disch := omega) only [↓RA, RZ, simprocAttr, hn, hS3.ab 0 rfl, hS3.ab 1 rfl, h1]
 have hSd := hS3
 refine gP (a8P o (ho.ae hS3) hf rg sv (hr.ae hS3) (by omega) (by omega)) ?_
 rintro r H4 ⟨hx, hT2⟩
 have hS4 := hS3.trans hT2
 simp only [RT] at hS4
 have hnt := hx.1.bA
 simp (disch := omega) only [↓RA, RZ, simprocAttr, hn, c1N, h1, hnt]
 refine ⟨r, by rw [h0], ⟨by rw [if_pos h0]; exact hx.1, fun b h => ?_⟩, hS4.forget⟩
 have := hx.2 b h
 have : H.length ≤ _ := hSd.len
 omega
theorem b2u (o : Org) (ho : o.In H) (rg : Reg) (sv : Value) (hr : rg.In H sv) :
 Fn prog 44 [.agg #[.string o.name, o.rv, o.dv, o.cv], .agg #[sv, .int .u64 rg.cpl, .int .u64 rg.off]] H fun r H' => ∃ lv, r = .tuple #[lv, I (jX o rg)] ∧ St prog H H' [⟨lv, 3, jY (if jX o rg = 0 then gO rg else [])⟩] := by
 refine .aE func44 rfl (by kernel_rfl) (m := 15) rfl fun l hn g0 g1 => ?_
 simp (disch := omega) only [↓RA, RB, simprocAttr, g0]
 refine (sR H).eNew 4 [(.string o.name), o.rv, o.dv, o.cv] rfl rfl (by simp [OC, ((sR H).sl ho.1).cells.2.1, ((sR H).sl ho.2.2.1).cells.2.1, ((sR H).sl ho.2.2.2.2.1).cells.2.1]) lD fun A1 H1 hS1 => ?_
 simp only [RT] at hS1
 simp (disch := omega) only [↓RA, RB, simprocAttr, g1]
 refine hS1.eNew 3 [sv, (.int .u64 rg.cpl), (.int .u64 rg.off)] rfl rfl (by simp [OC, (hS1.sl hr.1).cells.2.1]) iK fun A2 H2 hS2 => ?_
 simp only [RT] at hS2
 simp (disch := omega) only [↓RA, RZ, simprocAttr, hn, hS2.ab 0 rfl, hS2.ab 1 rfl]
 refine hS2.cF (lN o (ho.ae hS2) rg sv (hr.ae hS2)) fun H3 hS3 => ?_
 simp (disch := omega) only [↓RA, RB, simprocAttr, hn]
 refine gJ (fun h1 => ?_) (fun h1 => ?_)
 ·simp (disch := omega) only [↓RA, RZ, simprocAttr, hn, c1y, h1]
  exact ⟨.slice none 0 0, rfl, hS3.forget.nil 2⟩
 have h0 := dG.1 h1
 obtain ⟨hz3, hz4⟩ := iY h0
 have hf := Org.aT hz3
 have hd2 := hf.dlen
 simp (disch := omega) only [↓RA, RZ, simprocAttr, hn, hS3.ab 1 rfl, h1]
 refine gP ((qV rg sv (hr.ae hS3) (by omega)).tr) ?_
 rintro r H4 ⟨-, hT2⟩
 have hS4 := hS3.trans hT2
 simp only [RT] at hS4
 have hnt : iT r = true := (hS4.aw (cel := Ctl.cells) 2 rfl (fun _ => rfl)).bA
 simp (disch := omega) only [↓RA, RZ, simprocAttr, hn, c1y, h1, hnt]
 exact ⟨r, by rw [h0], by rw [if_pos h0]; exact hS4.pick [2] (by decide) rfl⟩
theorem b1Z (x i j : Nat) (hx : x < 18446744073709551616) (hi : i < 64) : (qF x i).testBit j = (x.testBit j && !decide (j = i)) := by
 have hx' : x < 2 ^ 64 := by simpa using hx
 unfold qF
 rw [fK, BitVec.toNat_and, Nat.testBit_and, BitVec.toNat_ofNat, fQ hx']
 by_cases hj : j < 64
 ·have e : (~~~ BitVec.ofNat 64 (2 ^ i)).toNat.testBit j = !decide (j = i) := by
   have h1 : (~~~ BitVec.ofNat 64 (2 ^ i)).toNat.testBit j = (~~~ BitVec.ofNat 64 (2 ^ i)).getLsbD j := rfl
   rw [h1, BitVec.getLsbD_not, decide_eq_true hj, gp, BitVec.getLsbD_ofNat, decide_eq_true hj, gp, Nat.testBit_two_pow]
   congr 1
   exact decide_eq_decide.2 ⟨fun h => h.symm, fun h => h.symm⟩
  rw [e]
 ·have h1 : x.testBit j = false := Nat.testBit_lt_two_pow (dE hx' (eZ (by decide) (by omega)))
  rw [h1, fw, fw]
def pc (x : Nat) : Nat := (oR x).length
theorem b3s (x : Nat) : pc x ≤ 64 := lI x 64
theorem a3S (x i : Nat) (hx : x < 18446744073709551616) (hi : i < 64) (hb : x.testBit i = true) : pc (qF x i) < pc x := by
 have e : oR (qF x i) = (oR x).filter fun j => !decide (j = i) := by
  unfold oR
  rw [List.filter_filter]
  refine List.filter_congr fun j _ => ?_
  rw [b1Z x i j hx hi, Bool.and_comm]
 unfold pc
 rw [e, List.length_filter_lt_length_iff_exists]
 exact ⟨i, eD.2 ⟨dF.2 hi, hb⟩, by simp⟩
def mu (g : Reg) : Nat := (g.stops.map pc).sum + pc g.cpl + pc g.off
theorem c2e (g : Reg) : mu g ≤ 64 * g.stops.length + 128 := by
 have h : ∀ l : List Nat, (l.map pc).sum ≤ 64 * l.length := by
  intro l
  induction l with
  | nil => simp
  | cons a l ih =>
    have := b3s a
    simp only [dR, List.sum_cons, dS]
    omega
 have := h g.stops
 have := b3s g.cpl
 have := b3s g.off
 unfold mu
 omega
theorem a0S : ∀ (l : List Nat) (d y : Nat), d < l.length → y < gK l d → (l.set d y).sum < l.sum
 | [], d, y, h, _ => by simp at h
 | a :: l, 0, y, _, hy => by
   have : gK (a :: l) 0 = a := rfl
   rw [this] at hy
   simp only [fo, List.sum_cons]
   omega
 | a :: l, d + 1, y, h, hy => by
   have h1 : gK (a :: l) (d + 1) = gK l d := rfl
   rw [h1] at hy
   have := a0S l d y (by simpa using h) hy
   simp only [gr, List.sum_cons]
   omega
theorem a8W {g : Reg} (hg : g.Ok) {c : Ctl} (hc : c ∈ gO g) : mu (iU g c) < mu g := by
 obtain ⟨_, hg2, hg3, hg4⟩ := hg
 unfold gO at hc
 have hb : ∀ (x i : Nat), i ∈ oR x → i < 64 ∧ x.testBit i = true := fun x i hi => by
  unfold oR at hi
  exact ⟨dF.1 (eD.1 hi).1, (eD.1 hi).2⟩
 rcases dB.1 hc with hc | hc
 ·rcases dB.1 hc with hc | hc
  ·obtain ⟨d, hd, hc⟩ := eJ.1 hc
   obtain ⟨i, hi, rfl⟩ := dA.1 hc
   have hd := dF.1 hd
   obtain ⟨hi, hbit⟩ := hb _ _ hi
   have e : iU g (nD d i) = { g with stops := g.stops.set d (qF (gK g.stops d) i) } := rfl
   rw [e]
   have hp := a3S _ i (hg2 _ (gN hd)) hi hbit
   have := a0S (g.stops.map pc) d (pc (qF (gK g.stops d) i)) (by simpa using hd) (by rw [uC _ hd]; exact hp)
   unfold mu
   simp only [gj]
   omega
  ·obtain ⟨i, hi, rfl⟩ := dA.1 hc
   obtain ⟨hi, hbit⟩ := hb _ _ hi
   have e : iU g (mO i) = { g with cpl := qF g.cpl i } := rfl
   rw [e]
   have := a3S _ i hg3 hi hbit
   unfold mu
   simp only
   omega
 ·obtain ⟨i, hi, rfl⟩ := dA.1 hc
  obtain ⟨hi, hbit⟩ := hb _ _ hi
  have e : iU g (pT i) = { g with off := qF g.off i } := rfl
  rw [e]
  have := a3S _ i hg4 hi hbit
  unfold mu
  simp only
  omega
def lO (o : Org) : Nat → Reg → List Ctl → Reg × List Ctl
 | 0, g, l => (g, l)
 | n + 1, g, l => if (lT o g).length = 0 then (g, l) else lO o n (iU g (gK (lT o g) ((lT o g).length - 1))) (l ++ [gK (lT o g) ((lT o g).length - 1)])
theorem a2H {o : Org} {g : Reg} {c : Ctl} (h : c ∈ lT o g) : c ∈ gO g := (eD.1 h).1
theorem b2O (o : Org) (g : Reg) : (lT o g).length ≤ (gO g).length := ed _ _
theorem zI (o : Org) : ∀ (n m : Nat) (g : Reg) (l : List Ctl), g.Ok → mu g < n → mu g < m → lO o n g l = lO o m g l
 | 0, _, _, _, _, h, _ => absurd h (dy _)
 | _, 0, _, _, _, _, h => absurd h (dy _)
 | n + 1, m + 1, g, l, hg, hn, hm => by
   rw [lO, lO]
   split
   ·rfl
   ·rename_i h
    have hc := a2H (gN (xs := lT o g) (j := (lT o g).length - 1) (by omega))
    have hlt := a8W hg hc
    exact zI o n m _ _ (tI hg _) (by omega) (by omega)
theorem c0N (l : List Value) (H : Heap) : gL prog Tryz.f41 l H = (nQ (iV prog 90) (gM prog 90) H (get l 4)).bind fun v => if (iT v && (iT (get l 5) && (iT (get l 6) && true))) = true then some (.tuple #[v, get l 5, get l 6]) else none := by
 show (Option.bind (Option.bind (kQ prog H 90 (get l 4)) fun v => some [v, get l 5, get l 6]) fun vs => _) = _
 rw [jO]
 cases nQ _ _ H (get l 4) <;> rfl
theorem b3S (o : Org) (ho : o.In H) (rg : Reg) (sv : Value) (hr : rg.In H sv) :
 Fn prog 41 [.agg #[.string o.name, o.rv, o.dv, o.cv], .agg #[sv, .int .u64 rg.cpl, .int .u64 rg.off]] H fun r H' => ∃ nv lv, (jX o rg ≠ 0 ∧ r = .tuple #[.agg #[.slice none 0 0, .int .u64 0, .int .u64 0], .slice none 0 0, I (jX o rg)] ∧ St prog H H' []) ∨
  ∃ g gone, jX o rg = 0 ∧ (g, gone) = lO o (mu rg + 1) rg [] ∧ r = .tuple #[.agg #[nv, .int .u64 g.cpl, .int .u64 g.off], lv, I 0] ∧ g.Ok ∧ g.stops.length = rg.stops.length ∧ St prog H H' [⟨nv, 1, g.stops.flatMap (one u64)⟩, ⟨lv, 3, jY gone⟩] := by
 refine .aE func41 rfl (by kernel_rfl) (m := 43) rfl fun l hn g0 g1 => ?_
 simp (disch := omega) only [↓RA, RB, simprocAttr, g0]
 refine (sR H).eNew 4 [(.string o.name), o.rv, o.dv, o.cv] rfl rfl (by simp [OC, ((sR H).sl ho.1).cells.2.1, ((sR H).sl ho.2.2.1).cells.2.1, ((sR H).sl ho.2.2.2.2.1).cells.2.1]) lD fun A1 H1 hS1 => ?_
 simp only [RT] at hS1
 simp (disch := omega) only [↓RA, RB, simprocAttr, g1]
 refine hS1.eNew 3 [sv, (.int .u64 rg.cpl), (.int .u64 rg.off)] rfl rfl (by simp [OC, (hS1.sl hr.1).cells.2.1]) iK fun A2 H2 hS2 => ?_
 simp only [RT] at hS2
 simp (disch := omega) only [↓RA, RZ, simprocAttr]
 refine hS2.eNew 3 [(.slice none 0 0), (.int .u64 0), (.int .u64 0)] rfl rfl rfl iK fun A3 H3 hS3 => ?_
 simp only [RT] at hS3
 simp (disch := omega) only [↓RA, RZ, simprocAttr, hn, hS3.ab 0 rfl, hS3.ab 1 rfl]
 refine hS3.cF (lN o (ho.ae hS3) rg sv (hr.ae hS3)) fun H4 hS4 => ?_
 simp (disch := omega) only [↓RA, RB, simprocAttr, hn]
 refine gJ (fun h1 => ?_) (fun h1 => ?_)
 ·simp (disch := omega) only [↓RA, RZ, simprocAttr, hn, kA, h1]
  refine hS4.aa 2 rfl [(.slice none 0 0), (.int .u64 0), (.int .u64 0)] rfl rfl iK (by simp) fun H5 hS5 => ?_
  simp only [RT] at hS5
  simp (disch := omega) only [↓RA, RZ, simprocAttr, hn, c0N, hS5.ab 2 rfl, h1]
  exact ⟨.slice none 0 0, .slice none 0 0, .inl ⟨h1, hS5.forget⟩⟩
 have h0 := dG.1 h1
 obtain ⟨hz3, hz4⟩ := iY h0
 have hf := Org.aT hz3
 have hd1 := hf.dpos
 have hd2 := hf.dlen
 simp (disch := omega) only [↓RA, RZ, simprocAttr, hn, hS4.ld 1 rfl, h1]
 refine gP ((a4I sv rg.stops (hS4.sl hr.1) (by omega) (by omega)).tr) ?_
 rintro r H6 ⟨-, hT2⟩
 have hS6 := hS4.trans hT2
 simp only [RT] at hS6
 simp (disch := omega) only [↓RA, RZ, simprocAttr, hn, h1]
 refine hS6.aa 1 rfl [r] (by rw [(hS6.rd 3 rfl).cells.1]) (by simp [(hS6.rd 3 rfl).cells.2.1]) b6B (by simp) fun H7 hS7 => ?_
 simp only [RT] at hS7
 simp (disch := omega) only [↓RA, RZ, simprocAttr, h1]
 have hS8 := hS7.nil 2
 simp only [RT] at hS8
 refine Wp.al (fun n l H' => l.length = 43 ∧ get l 2 = (ptr A1 0 4) ∧ get l 3 = (ptr A2 0 3) ∧ get l 4 = (ptr A3 0 3) ∧ ∃ (g : Reg) (gone : List Ctl) (nv ov : Value), (g.Ok ∧ mu g ≤ n ∧ g.stops.length = rg.stops.length ∧ gone.length + mu g ≤ mu rg ∧ lO o (mu g + 1) g gone = lO o (mu rg + 1) rg []) ∧ get l 8 = ov ∧ St prog H H' [⟨ptr A1 0 4, 0, [(.string o.name), o.rv, o.dv, o.cv]⟩, ⟨ptr A2 0 3, 0, [nv, .int .u64 g.cpl, .int .u64 g.off]⟩, ⟨ptr A3 0 3, 0, [(.slice none 0 0), (.int .u64 0), (.int .u64 0)]⟩, ⟨nv, 1, g.stops.flatMap (one u64)⟩, ⟨ov, 3, jY gone⟩]) (mu rg) ?_ ?_
 ·simp (disch := omega) only [RB, RC, simprocAttr, hn]
  exact ⟨rg, [], r, .slice none 0 0, ⟨hr.2, dc _, rfl, by simp, rfl⟩, rfl, hS8⟩
 rintro n l H8 ⟨hn, g2, g3, g4, g, gone, nv, ov, ⟨hgo,hgn,hgl,hgm,hgs⟩, g8, hS9⟩
 simp (disch := omega) only [↓RA, RZ, simprocAttr, hn, g2, g3, hS9.ab 0 rfl, hS9.ab 1 rfl]
 have hSi := hS9
 refine gP (a8P o (ho.ae hS9) hf g nv ⟨hS9.aw 3 rfl (fun _ => rfl), hgo⟩ (by omega) (by omega)) ?_
 rintro r H9 ⟨hx, hT3⟩
 have hS10 := hS9.trans hT3
 simp only [RT] at hS10
 have hil := b2O o g
 have hil2 := kN (rg := g) (by omega)
 simp (disch := omega) only [↓RA, RZ, simprocAttr, hn, hx.1.len]
 refine gJ (fun q1 => ?_) (fun q1 => ?_)
 ·have hi0 : (lT o g).length = 0 := by omega
  rw [lO, if_pos hi0] at hgs
  have hnt : iT ov = true := (hS10.aw (cel := Ctl.cells) 4 rfl (fun _ => rfl)).bA
  simp (disch := omega) only [↓RA, RZ, simprocAttr, hn, g3, g4, g8, hS10.ab 1 rfl, q1]
  refine hS10.aa 2 rfl [nv, (.int .u64 g.cpl), (.int .u64 g.off)] rfl (by simp [OC, (hS10.rd 3 rfl).cells.2.1]) iK (by simp) fun H10 hS11 => ?_
  simp only [RT] at hS11
  simp (disch := omega) only [↓RA, RZ, simprocAttr, hn, g4, c0N, hS11.ab 2 rfl, q1, hnt]
  exact ⟨nv, ov, .inr ⟨g, gone, h0, hgs, rfl, hgo, hgl, hS11.pick [3, 4] (by decide) rfl⟩⟩
 have hpre : ((lT o g).length : Int) - 1 = (((lT o g).length - 1 : Nat) : Int) := by omega
 have hcm := a2H (gN (xs := lT o g) (j := (lT o g).length - 1) (by omega))
 have hmu := a8W hgo hcm
 have hcf := pL (rg := g) (by omega) _ hcm
 simp (disch := omega) only [↓RA, RZ, simprocAttr, hn, hx.1.len, q1, hpre]
 generalize hcc : gK (lT o g) ((lT o g).length - 1) = c at hcm hmu hcf
 have hgs2 : lO o (mu (iU g c) + 1) (iU g c) (gone ++ [c]) = lO o (mu rg + 1) rg [] := by
  have hstep : lO o (mu g + 1) g gone = lO o (mu g) (iU g c) (gone ++ [c]) := by rw [lO, if_neg (by omega), hcc]
  rw [← hgs, hstep]
  exact zI o _ _ _ _ (tI hgo c) (by omega) (by omega)
 have hgl2 := a2q g c
 simp (disch := omega) only [↓RA, RZ, simprocAttr, hn, hx.1.idx, hx.1.ab, Ctl.cells, q1, hcc]
 refine hS10.eNew 3 [I 0, I 0, I 0] rfl rfl rfl kE fun A4 H11 hS12 => ?_
 simp only [RT] at hS12
 simp (disch := omega) only [↓RA, RZ, simprocAttr, hn, q1]
 refine hS12.aa 5 rfl [I c.kind, I c.dv, I c.ix] rfl rfl kE (by simp) fun H12 hS13 => ?_
 simp only [RT] at hS13
 simp (disch := omega) only [↓RA, RZ, simprocAttr, q1]
 refine Wp.aJ iZ [(4, 0)] (by kernel_rfl) (by kernel_rfl) ?_
 simp (disch := omega) only [↓RA, RZ, simprocAttr, hn, g3, hS13.ab 1 rfl, hS13.ab 5 rfl]
 refine gP (wN g nv ⟨hS13.aw 3 rfl (fun _ => rfl), hgo⟩ (by omega) (by omega) c hcf) ?_
 rintro r H13 ⟨nw, rfl, hT4⟩
 have hS14 := hS13.trans hT4
 simp only [RT] at hS14
 have hmr := c2e rg
 simp (disch := omega) only [↓RA, RZ, simprocAttr, hn, g8, hS14.ab 5 rfl]
 refine hS14.ai [I c.kind, I c.dv, I c.ix] xB a7s rfl rfl (by simp [Value.cells]) rfl rfl (by decide) (by decide) fun w1 H14 hS15 => ?_
 simp only [RT] at hS15
 simp (disch := omega) only [↓RA, RZ, simprocAttr, hn]
 refine hS15.aq 4 rfl (hS15.rd 7 rfl) xB (by rw [kZ]; simp only [dS, ef]; omega) fun w2 H15 hS16 => ?_
 simp only [RT] at hS16
 simp (disch := omega) only [↓RA, RB, simprocAttr, hn, g3]
 refine hS16.aa 1 rfl [nw, (.int .u64 (iU g c).cpl), (.int .u64 (iU g c).off)] rfl (by simp [OC, (hS16.rd 6 rfl).cells.2.1]) iK (by simp) fun H16 hS17 => ?_
 simp only [RT] at hS17
 simp (disch := omega) only [↓RA, RZ, simprocAttr, hn, g2, g3, g4, hS13.ab 5 rfl]
 refine ⟨mu (iU g c), by omega, iU g c, gone ++ [c], nw, w2, ⟨tI hgo c, dc _, by omega, by simp; omega, hgs2⟩, rfl, ?_⟩
 rw [pQ]
 exact hS17.pick [0, 1, 2, 6, 4] (by decide) rfl
theorem c3b (o : Org) (ho : o.In H) (rg : Reg) (sv : Value) (hr : rg.In H sv) (c : Ct) :
 Fn prog 50 [.agg #[.string o.name, o.rv, o.dv, o.cv], .agg #[sv, .int .u64 rg.cpl, .int .u64 rg.off], .agg #[I c.1, I c.2]] H fun r H' => Slx 2 kS H' (fun B => H.length ≤ B) r (ofF o rg c) ∧ St prog H H' [] := by
 refine .bf func50 rfl (by kernel_rfl) (m := 17) rfl fun l hn g0 g1 g2 => ?_
 simp (disch := omega) only [↓RA, RB, simprocAttr, g0]
 refine (sR H).eNew 4 [(.string o.name), o.rv, o.dv, o.cv] rfl rfl (by simp [OC, ((sR H).sl ho.1).cells.2.1, ((sR H).sl ho.2.2.1).cells.2.1, ((sR H).sl ho.2.2.2.2.1).cells.2.1]) lD fun A1 H1 hS1 => ?_
 simp only [RT] at hS1
 simp (disch := omega) only [↓RA, RB, simprocAttr, g1]
 refine hS1.eNew 3 [sv, (.int .u64 rg.cpl), (.int .u64 rg.off)] rfl rfl (by simp [OC, (hS1.sl hr.1).cells.2.1]) iK fun A2 H2 hS2 => ?_
 simp only [RT] at hS2
 simp (disch := omega) only [↓RA, RB, simprocAttr, g2]
 refine hS2.eNew 2 [I c.1, I c.2] rfl rfl rfl pU fun A3 H3 hS3 => ?_
 simp only [RT] at hS3
 simp (disch := omega) only [↓RA, RZ, simprocAttr, hn, hS3.ab 0 rfl, hS3.ab 1 rfl, hS3.ab 2 rfl]
 have hSd := hS3
 refine gP (b8p o (ho.ae hS3) rg sv (hr.ae hS3) c) ?_
 rintro r H4 ⟨pv, rfl, hx, hT1⟩
 have hS4 := hS3.trans hT1
 simp only [RT] at hS4
 simp (disch := omega) only [↓RA, RB, simprocAttr, hn, c3o]
 refine ⟨⟨hx.1, fun b h => ?_⟩, hS4.forget⟩
 have := hx.2 b h
 have : H.length ≤ _ := hSd.len
 omega
theorem b2F (v w : Value) (xs ys : List Ctl) (hv : Sl 3 Ctl.cells H v xs) (hw : Sl 3 Ctl.cells H w ys) (hl : xs.length < 1000000000) (hl2 : ys.length < 1000000000) :
 Fn prog 39 [v, w] H fun r H' => r = .bool (decide (xs = ys)) ∧ St prog H H' [] := by
 refine .aE func39 rfl (by kernel_rfl) (m := 26) rfl fun l hn g0 g1 => ?_
 simp (disch := omega) only [↓RA, RZ, simprocAttr, hn, g0, g1, ((sR H).sl hv).len, ((sR H).sl hw).len]
 refine gJ (fun h1 => ?_) (fun h1 => ?_)
 ·simp (disch := omega) only [↓RA, RZ, simprocAttr, hn, b8G, h1]
  exact ⟨by rw [decide_eq_false]; intro e; rw [e] at h1; exact h1 rfl, (sR H)⟩
 simp (disch := omega) only [↓RA, RZ, simprocAttr, h1]
 refine Wp.al (fun n l H' => l.length = 26 ∧ get l 0 = v ∧ get l 1 = w ∧ ∃ (j : Nat), (n + j = xs.length ∧ ∀ q, q < j → gK xs q = gK ys q) ∧ get l 5 = I j ∧ St prog H H' []) xs.length ?_ ?_
 ·simp (disch := omega) only [RB, RC, simprocAttr, hn, g0, g1]
  exact ⟨0, ⟨by omega, fun q hq => absurd hq (dy _)⟩, rfl, (sR H)⟩
 rintro n l H1 ⟨hn, g0, g1, j, ⟨hj,hz⟩, g5, hS1⟩
 simp (disch := omega) only [↓RA, RZ, simprocAttr, hn, g0, g5, (hS1.sl hv).len]
 refine gJ (fun q1 => ?_) (fun q1 => ?_)
 ·simp (disch := omega) only [↓RA, RC, simprocAttr, q1]
  refine Wp.drw iZ (by kernel_rfl) ?_
  simp (disch := omega) only [↓RA, RZ, simprocAttr, hn, g0, g1, g5, (hS1.sl hv).idx, (hS1.sl hv).ab, Ctl.cells, (hS1.sl hw).idx, (hS1.sl hw).ab]
  refine gJ (fun q2 => ?_) (fun q2 => ?_)
  ·simp (disch := omega) only [↓RA, RZ, simprocAttr, hn, b8G, q2]
   refine ⟨?_, hS1⟩
   rw [decide_eq_false]
   intro e
   rw [e] at q2
   simp at q2
  have q3 : gK xs j = gK ys j := by
   have := dG.1 q2
   cases hx : gK xs j
   cases hy : gK ys j
   rw [hx, hy] at this
   simpa using this
  simp (disch := omega) only [↓RA, RZ, simprocAttr, hn, g0, g1, g5, q2]
  exact ⟨n - 1, by omega, j + 1, ⟨by omega, fun q hq => by rcases dj.1 hq with e | e; (· exact hz q e); (· rw [e]; exact q3)⟩, by simp, hS1⟩
 simp (disch := omega) only [↓RA, RZ, simprocAttr, hn, b8G, q1]
 exact ⟨by rw [decide_eq_true]; exact uX (by omega) fun q hq => hz q (by omega), hS1⟩
theorem vQ {x n m : Nat} (h : x >>> n = 0) (hn : n ≤ m) : jN x m = jN x n := by
 have hx : x < 2 ^ n := by
  rw [eN] at h
  rcases Nat.div_eq_zero_iff.1 h with h | h
  ·have := Nat.two_pow_pos n
   omega
  ·exact h
 induction m with
 | zero => rw [show n = 0 by omega]
 | succ m ih =>
   by_cases hm : n ≤ m
   ·rw [kD, ih hm]
    have : x.testBit m = false := Nat.testBit_lt_two_pow (dE hx (eZ (by decide) hm))
    rw [this]
    simp
   ·rw [show n = m + 1 by omega]
theorem a3k {o : Org} {rg : Reg} (h : jX o rg = 0) : (∀ j, j < o.dvs.length → gK rg.stops j >>> (gK o.dvs j).stops.length = 0) ∧ rg.cpl >>> o.cpls.length = 0 ∧ rg.off >>> o.dvs.length = 0 := by
 unfold jX at h
 split at h
 ·rename_i hh; exact absurd h hh
 split at h
 ·omega
 split at h
 ·omega
 rename_i h1
 split at h
 ·omega
 rename_i h2
 refine ⟨fun j hj => ?_, by omega, by omega⟩
 by_cases hh : gK rg.stops j >>> (gK o.dvs j).stops.length = 0
 ·exact hh
 ·exact absurd ⟨j, hj, hh⟩ h1
def vB (o : Org) (rg : Reg) (d : Nat) : List Ctl := (List.range d).flatMap fun d => (jN (gK rg.stops d) (gK o.dvs d).stops.length).map (nD d)
theorem yA (o : Org) (rg : Reg) (d : Nat) : vB o rg (d + 1) = vB o rg d ++ (jN (gK rg.stops d) (gK o.dvs d).stops.length).map (nD d) := by
 unfold vB
 rw [eE, dU, dD, fq, dh]
theorem a3Q {o : Org} (hf : o.Fine) (rg : Reg) : ∀ d, d ≤ o.dvs.length → (vB o rg d).length ≤ d * 60
 | 0, _ => by simp [vB]
 | d + 1, hd => by
   have := a3Q hf rg d (by omega)
   have h2 := lI (gK rg.stops d) (gK o.dvs d).stops.length
   have h3 := hf.stops d (by omega)
   rw [yA, di, dr]
   omega
theorem b1C {o : Org} (hf : o.Fine) {rg : Reg} (h : jX o rg = 0) : vB o rg o.dvs.length ++ (jN rg.cpl o.cpls.length).map mO ++ (jN rg.off o.dvs.length).map pT = gO rg := by
 obtain ⟨h1, h2, h3⟩ := a3k h
 have hl := (iY h).2
 have hc := hf.clen
 have hd := hf.dlen
 have e2 : oR rg.cpl = jN rg.cpl o.cpls.length := vQ h2 (by omega)
 have e3 : oR rg.off = jN rg.off o.dvs.length := vQ h3 (by omega)
 have e1 : ∀ d, d ≤ o.dvs.length → vB o rg d = vA rg d := by
  intro d
  induction d with
  | zero => intro _; rfl
  | succ d ih =>
    intro hd
    rw [yA, yP, ih (by omega)]
    have := hf.stops d (by omega)
    rw [vQ (h1 d (by omega)) (show (gK o.dvs d).stops.length ≤ 64 by omega)]
 unfold gO
 rw [e2, e3, e1 _ (dc _), ← hl]
 rfl
theorem lW (o : Org) (ho : o.In H) (rg : Reg) (sv : Value) (hr : rg.In H sv) (h0 : jX o rg = 0) :
 Fn prog 56 [.agg #[.string o.name, o.rv, o.dv, o.cv], .agg #[sv, .int .u64 rg.cpl, .int .u64 rg.off]] H fun r H' => St prog H H' [⟨r, 3, jY (gO rg)⟩] := by
 obtain ⟨hz3, hz4⟩ := iY h0
 have hf := Org.aT hz3
 have hd8 := hf.dlen
 have hc40 := hf.clen
 refine .aE func56 rfl (by kernel_rfl) (m := 80) rfl fun l hn g0 g1 => ?_
 simp (disch := omega) only [↓RA, RB, simprocAttr, g0]
 refine (sR H).eNew 4 [(.string o.name), o.rv, o.dv, o.cv] rfl rfl (by simp [OC, ((sR H).sl ho.1).cells.2.1, ((sR H).sl ho.2.2.1).cells.2.1, ((sR H).sl ho.2.2.2.2.1).cells.2.1]) lD fun A1 H1 hS1 => ?_
 simp only [RT] at hS1
 simp (disch := omega) only [↓RA, RB, simprocAttr, g1]
 refine hS1.eNew 3 [sv, (.int .u64 rg.cpl), (.int .u64 rg.off)] rfl rfl (by simp [OC, (hS1.sl hr.1).cells.2.1]) iK fun A2 H2 hS2 => ?_
 simp only [RT] at hS2
 simp (disch := omega) only [↓RA, RB, simprocAttr]
 have hS3 := hS2.nil 2
 simp only [RT] at hS3
 refine Wp.al (fun n l H' => l.length = 80 ∧ get l 2 = (ptr A1 0 4) ∧ get l 3 = (ptr A2 0 3) ∧ get l 4 = (.slice none 0 0) ∧ ∃ (d : Nat) (ov : Value), (n + d = o.dvs.length) ∧ get l 6 = I d ∧ get l 5 = ov ∧ St prog H H' [⟨ptr A1 0 4, 0, [(.string o.name), o.rv, o.dv, o.cv]⟩, ⟨ptr A2 0 3, 0, [sv, (.int .u64 rg.cpl), (.int .u64 rg.off)]⟩, ⟨ov, 3, jY (vB o rg d)⟩]) o.dvs.length ?_ ?_
 ·simp (disch := omega) only [RB, RC, simprocAttr, hn]
  exact ⟨0, .slice none 0 0, by omega, rfl, rfl, hS3⟩
 rintro n l H3 ⟨hn, g2, g3, g4, d, ov, hd, g6, g5, hS4⟩
 simp (disch := omega) only [↓RA, RZ, simprocAttr, hn, g2, g6, hS4.ld 0 rfl, (hS4.sl ho.2.2.1).len]
 refine gJ (fun q1 => ?_) (fun q1 => ?_)
 ·have hsx := hr.2.2.1 _ (gN (xs := rg.stops) (j := d) (by omega))
  have hs60 := hf.stops d (by omega)
  have hal := a3Q hf rg d (by omega)
  simp (disch := omega) only [↓RA, RZ, simprocAttr, q1]
  refine Wp.al (fun n l H' => l.length = 80 ∧ get l 2 = (ptr A1 0 4) ∧ get l 3 = (ptr A2 0 3) ∧ get l 4 = (.slice none 0 0) ∧ get l 6 = I d ∧ ∃ (k : Nat) (ow : Value), (n + k = (gK o.dvs d).stops.length) ∧ get l 7 = I k ∧ get l 5 = ow ∧ St prog H H' [⟨ptr A1 0 4, 0, [(.string o.name), o.rv, o.dv, o.cv]⟩, ⟨ptr A2 0 3, 0, [sv, (.int .u64 rg.cpl), (.int .u64 rg.off)]⟩, ⟨ow, 3, jY (vB o rg d ++ (jN (gK rg.stops d) k).map (nD d))⟩]) (gK o.dvs d).stops.length ?_ ?_
  ·simp (disch := omega) only [RB, RC, simprocAttr, hn, g2, g3, g4, g6, g5]
   refine ⟨0, ov, by omega, rfl, rfl, ?_⟩
   rw [show (jN (gK rg.stops d) 0).map (nD d) = [] from rfl, dh]
   exact hS4
  rintro n l H4 ⟨hn, g2, g3, g4, g6, k, ow, hk, g7, g5, hS5⟩
  simp (disch := omega) only [↓RA, RZ, simprocAttr, hn, g2, g6, g7, hS5.ld 0 rfl, (hS5.sl ho.2.2.1).idx, (hS5.sl ho.2.2.1).bp, (hS5.sl ho.2.2.1).ld, Dvn.cells, (hS5.sl (ho.2.2.2.1 (gK o.dvs d) (gN (by omega))).1).len]
  refine gJ (fun q2 => ?_) (fun q2 => ?_)
  ·have e1 := a1s (gK rg.stops d) k hsx
   have e2 := zQ (gK rg.stops d >>> k) (sP k hsx)
   have e3 := tb (gK rg.stops d) k
   have hbl := lI (gK rg.stops d) k
   have hroom : (jY (vB o rg d ++ (jN (gK rg.stops d) k).map (nD d))).length ≤ 20000 := by
    rw [kZ, di, dr]
    omega
   simp (disch := omega) only [↓RA, RZ, simprocAttr, hn, g3, g6, g7, hS5.ld 1 rfl, (hS5.sl hr.1).idx, (hS5.sl hr.1).ld, one, u64, q2, e1, e2]
   refine gJ (fun q3 => ?_) (fun q3 => ?_)
   ·skip
    simp (disch := omega) only [↓RA, RZ, simprocAttr, hn, g6, g7, g5, zO, q2, q3]
    refine hS5.ai [I 1, I d, I k] xB a7s rfl rfl (by simp [Value.cells]) rfl rfl (by decide) (by decide) fun w1 H5 hS6 => ?_
    simp only [RT] at hS6
    simp (disch := omega) only [↓RA, RZ, simprocAttr, hn, q2, q3]
    refine hS6.aq 2 rfl (hS6.rd 3 rfl) xB (by have h := hroom; simp only [dS, ef]; omega) fun w2 H6 hS7 => ?_
    simp only [RT] at hS7
    simp (disch := omega) only [↓RA, RZ, simprocAttr, hn, g2, g3, g4, g6, g7, q2, q3]
    refine ⟨n - 1, by omega, k + 1, w2, by omega, by simp, rfl, ?_⟩
    rw [kD (gK rg.stops d) k, e3, if_pos (decide_eq_true (by omega)), dN, ← dM, dR, fC, pQ]
    exact hS7.pick [0, 1, 2] (by decide) rfl
   simp (disch := omega) only [↓RA, RZ, simprocAttr, hn, g2, g3, g4, g6, g7, g5, q2, q3]
   refine ⟨n - 1, by omega, k + 1, ow, by omega, by simp, rfl, ?_⟩
   rw [kD (gK rg.stops d) k, e3, if_neg (by rw [decide_eq_true_iff]; omega), dh]
   exact hS5.pick [0, 1, 2] (by decide) rfl
  simp (disch := omega) only [↓RA, RZ, simprocAttr, hn, g2, g3, g4, g6, g5, q2]
  have hkk : k = (gK o.dvs d).stops.length := by omega
  refine ⟨o.dvs.length - (d + 1), by omega, d + 1, ow, by omega, by simp, rfl, ?_⟩
  rw [yA, ← hkk]
  exact hS5.pick [0, 1, 2] (by decide) rfl
 have hdd : d = o.dvs.length := by omega
 subst hdd
 have hal := a3Q hf rg o.dvs.length (dc _)
 simp (disch := omega) only [↓RA, RZ, simprocAttr, q1]
 refine Wp.al (fun n l H' => l.length = 80 ∧ get l 2 = (ptr A1 0 4) ∧ get l 3 = (ptr A2 0 3) ∧ get l 4 = (.slice none 0 0) ∧ ∃ (k : Nat) (ow : Value), (n + k = o.cpls.length) ∧ get l 8 = I k ∧ get l 5 = ow ∧ St prog H H' [⟨ptr A1 0 4, 0, [(.string o.name), o.rv, o.dv, o.cv]⟩, ⟨ptr A2 0 3, 0, [sv, (.int .u64 rg.cpl), (.int .u64 rg.off)]⟩, ⟨ow, 3, jY (vB o rg o.dvs.length ++ (jN rg.cpl k).map mO)⟩]) o.cpls.length ?_ ?_
 ·simp (disch := omega) only [RB, RC, simprocAttr, hn, g2, g3, g4, g5]
  refine ⟨0, ov, by omega, rfl, rfl, ?_⟩
  rw [show (jN rg.cpl 0).map mO = [] from rfl, dh]
  exact hS4
 rintro n l H7 ⟨hn, g2, g3, g4, k, ow, hk, g8, g5, hS8⟩
 simp (disch := omega) only [↓RA, RZ, simprocAttr, hn, g2, g8, hS8.ld 0 rfl, (hS8.sl ho.2.2.2.2.1).len]
 refine gJ (fun q2 => ?_) (fun q2 => ?_)
 ·have e1 := a1s rg.cpl k hr.2.2.2.1
  have e2 := zQ (rg.cpl >>> k) (sP k hr.2.2.2.1)
  have e3 := tb rg.cpl k
  have hbl := lI rg.cpl k
  have hroom : (jY (vB o rg o.dvs.length ++ (jN rg.cpl k).map mO)).length ≤ 20000 := by
   rw [kZ, di, dr]
   omega
  simp (disch := omega) only [↓RA, RZ, simprocAttr, hn, g3, g8, hS8.ld 1 rfl, q2, e1, e2]
  refine gJ (fun q3 => ?_) (fun q3 => ?_)
  ·skip
   simp (disch := omega) only [↓RA, RZ, simprocAttr, hn, g8, g5, yB, q2, q3]
   refine hS8.ai [I 2, I 0, I k] xB a7s rfl rfl (by simp [Value.cells]) rfl rfl (by decide) (by decide) fun w3 H8 hS9 => ?_
   simp only [RT] at hS9
   simp (disch := omega) only [↓RA, RZ, simprocAttr, hn, q2, q3]
   refine hS9.aq 2 rfl (hS9.rd 3 rfl) xB (by have h := hroom; simp only [dS, ef]; omega) fun w4 H9 hS10 => ?_
   simp only [RT] at hS10
   simp (disch := omega) only [↓RA, RZ, simprocAttr, hn, g2, g3, g4, g8, q2, q3]
   refine ⟨n - 1, by omega, k + 1, w4, by omega, by simp, rfl, ?_⟩
   rw [kD rg.cpl k, e3, if_pos (decide_eq_true (by omega)), dN, ← dM, dR, fC, pQ]
   exact hS10.pick [0, 1, 2] (by decide) rfl
  simp (disch := omega) only [↓RA, RZ, simprocAttr, hn, g2, g3, g4, g8, g5, q2, q3]
  refine ⟨n - 1, by omega, k + 1, ow, by omega, by simp, rfl, ?_⟩
  rw [kD rg.cpl k, e3, if_neg (by rw [decide_eq_true_iff]; omega), dh]
  exact hS8.pick [0, 1, 2] (by decide) rfl
 have hkk : k = o.cpls.length := by omega
 subst hkk
 have hb2 := lI rg.cpl o.cpls.length
 have hal2 : (vB o rg o.dvs.length ++ (jN rg.cpl o.cpls.length).map mO).length ≤ 1000 := by
  rw [di, dr]
  omega
 simp (disch := omega) only [↓RA, RZ, simprocAttr, q2]
 refine Wp.al (fun n l H' => l.length = 80 ∧ get l 2 = (ptr A1 0 4) ∧ get l 3 = (ptr A2 0 3) ∧ get l 4 = (.slice none 0 0) ∧ ∃ (k : Nat) (oz : Value), (n + k = o.dvs.length) ∧ get l 9 = I k ∧ get l 5 = oz ∧ St prog H H' [⟨ptr A1 0 4, 0, [(.string o.name), o.rv, o.dv, o.cv]⟩, ⟨ptr A2 0 3, 0, [sv, (.int .u64 rg.cpl), (.int .u64 rg.off)]⟩, ⟨oz, 3, jY ((vB o rg o.dvs.length ++ (jN rg.cpl o.cpls.length).map mO) ++ (jN rg.off k).map pT)⟩]) o.dvs.length ?_ ?_
 ·simp (disch := omega) only [RB, RC, simprocAttr, hn, g2, g3, g4, g5]
  refine ⟨0, ow, by omega, rfl, rfl, ?_⟩
  rw [show (jN rg.off 0).map pT = [] from rfl, dh]
  exact hS8
 rintro n l H10 ⟨hn, g2, g3, g4, k, oz, hk, g9, g5, hS11⟩
 simp (disch := omega) only [↓RA, RZ, simprocAttr, hn, g2, g9, hS11.ld 0 rfl, (hS11.sl ho.2.2.1).len]
 refine gJ (fun q2 => ?_) (fun q2 => ?_)
 ·have e1 := a1s rg.off k hr.2.2.2.2
  have e2 := zQ (rg.off >>> k) (sP k hr.2.2.2.2)
  have e3 := tb rg.off k
  have hbl := lI rg.off k
  have hroom : (jY ((vB o rg o.dvs.length ++ (jN rg.cpl o.cpls.length).map mO) ++ (jN rg.off k).map pT)).length ≤ 20000 := by
   rw [kZ, di, dr]
   omega
  simp (disch := omega) only [↓RA, RZ, simprocAttr, hn, g3, g9, hS11.ld 1 rfl, q2, e1, e2]
  refine gJ (fun q3 => ?_) (fun q3 => ?_)
  ·skip
   simp (disch := omega) only [↓RA, RZ, simprocAttr, hn, g9, g5, a3j, q2, q3]
   refine hS11.ai [I 3, I k, I 0] xB a7s rfl rfl (by simp [Value.cells]) rfl rfl (by decide) (by decide) fun w5 H11 hS12 => ?_
   simp only [RT] at hS12
   simp (disch := omega) only [↓RA, RZ, simprocAttr, hn, q2, q3]
   refine hS12.aq 2 rfl (hS12.rd 3 rfl) xB (by have h := hroom; simp only [dS, ef]; omega) fun w6 H12 hS13 => ?_
   simp only [RT] at hS13
   simp (disch := omega) only [↓RA, RZ, simprocAttr, hn, g2, g3, g4, g9, q2, q3]
   refine ⟨n - 1, by omega, k + 1, w6, by omega, by simp, rfl, ?_⟩
   rw [kD rg.off k, e3, if_pos (decide_eq_true (by omega)), dN, ← dM, dR, fC, pQ]
   exact hS13.pick [0, 1, 2] (by decide) rfl
  simp (disch := omega) only [↓RA, RZ, simprocAttr, hn, g2, g3, g4, g9, g5, q2, q3]
  refine ⟨n - 1, by omega, k + 1, oz, by omega, by simp, rfl, ?_⟩
  rw [kD rg.off k, e3, if_neg (by rw [decide_eq_true_iff]; omega), dh]
  exact hS11.pick [0, 1, 2] (by decide) rfl
 have hkk : k = o.dvs.length := by omega
 subst hkk
 simp (disch := omega) only [↓RA, RZ, simprocAttr, hn, g5, c3J, q2]
 rw [← b1C hf h0]
 exact hS11.pick [2] (by decide) rfl
theorem a6o (o : Org) (ho : o.In H) (rg : Reg) (sv : Value) (hr : rg.In H sv) (h0 : jX o rg = 0) (d i : Nat) (hc : nD d i ∈ gO rg) (hd : d < o.dvs.length) (hi : i < (gK o.dvs d).stops.length) :
 Fn prog 42 [.agg #[.string o.name, o.rv, o.dv, o.cv], .agg #[sv, .int .u64 rg.cpl, .int .u64 rg.off], .agg #[I 1, I d, I i]] H fun r H' => ∃ nv, r = .tuple #[.agg #[nv, .int .u64 (iU rg (nD d i)).cpl, .int .u64 (iU rg (nD d i)).off], I 0] ∧ St prog H H' [⟨nv, 1, (iU rg (nD d i)).stops.flatMap (one u64)⟩] := by
 obtain ⟨hz3, hz4⟩ := iY h0
 have hf := Org.aT hz3
 have hd8 := hf.dlen
 have hd60 := hf.stops d hd
 refine .bf func42 rfl (by kernel_rfl) (m := 144) rfl fun l hn g0 g1 g2 => ?_
 simp (disch := omega) only [↓RA, RB, simprocAttr, g0]
 refine (sR H).eNew 4 [(.string o.name), o.rv, o.dv, o.cv] rfl rfl (by simp [OC, ((sR H).sl ho.1).cells.2.1, ((sR H).sl ho.2.2.1).cells.2.1, ((sR H).sl ho.2.2.2.2.1).cells.2.1]) lD fun A1 H1 hS1 => ?_
 simp only [RT] at hS1
 simp (disch := omega) only [↓RA, RB, simprocAttr, g1]
 refine hS1.eNew 3 [sv, (.int .u64 rg.cpl), (.int .u64 rg.off)] rfl rfl (by simp [OC, (hS1.sl hr.1).cells.2.1]) iK fun A2 H2 hS2 => ?_
 simp only [RT] at hS2
 simp (disch := omega) only [↓RA, RB, simprocAttr, g2]
 refine hS2.eNew 3 [I 1, I d, I i] rfl rfl rfl kE fun A3 H3 hS3 => ?_
 simp only [RT] at hS3
 simp (disch := omega) only [↓RA, RZ, simprocAttr]
 refine hS3.eNew 3 [(.slice none 0 0), (.int .u64 0), (.int .u64 0)] rfl rfl rfl iK fun A4 H4 hS4 => ?_
 simp only [RT] at hS4
 simp (disch := omega) only [↓RA, RZ, simprocAttr, hn, hS4.ld 2 rfl]
 refine hK (fun g1 => ?_) (fun g1 => ?_)
 rotate_left
 ·exfalso; first | omega | (simp at g1; omega)
 simp (disch := omega) only [↓RA, RZ, simprocAttr, hn, hS4.ld 2 rfl, hS4.ld 0 rfl, (hS4.sl ho.2.2.2.2.1).len, g1]
 refine hK (fun g2 => ?_) (fun g2 => ?_)
 rotate_left
 ·exfalso; first | omega | (simp at g2; omega)
 simp (disch := omega) only [↓RA, RZ, simprocAttr, hn, hS4.ld 2 rfl, hS4.ld 0 rfl, (hS4.sl ho.2.2.1).len, g1, g2]
 refine Wp.drw iZ (by kernel_rfl) ?_
 simp (disch := omega) only [↓RA, RZ, simprocAttr, hn]
 refine hK (fun g3 => ?_) (fun g3 => ?_)
 rotate_left
 ·exfalso; first | omega | (simp at g3; omega)
 simp (disch := omega) only [↓RA, RZ, simprocAttr, hn, hS4.ld 2 rfl, g1, g3]
 simp (disch := omega) only [↓RA, RZ, simprocAttr, hn, hS4.ld 2 rfl, hS4.ld 0 rfl, (hS4.sl ho.2.2.1).idx, (hS4.sl ho.2.2.1).bp, (hS4.sl ho.2.2.1).ld, Dvn.cells, (hS4.sl (ho.2.2.2.1 (gK o.dvs d) (gN (by omega))).1).len, g3]
 refine iA (fun g5 => ?_) (fun g5 => ?_)
 ·exfalso; first | omega | (simp at g5; omega)
 simp (disch := omega) only [↓RA, RZ, simprocAttr, hn, hS4.ab 0 rfl, hS4.ab 1 rfl, g3, g5]
 refine gP ((lW o (ho.ae hS4) rg sv (hr.ae hS4) h0).tr) ?_
 rintro r H5 ⟨-, hT1⟩
 have hS5 := hS4.trans hT1
 simp only [RT] at hS5
 obtain ⟨dw, rfl⟩ : ∃ w, w = r := ⟨r, rfl⟩
 have hdl := kN (rg := rg) (by omega)
 simp (disch := omega) only [↓RA, RZ, simprocAttr, hn, (hS5.aw 4 rfl (fun _ => rfl)).len, g3, g5]
 refine Wp.al (fun n l H' => l.length = 144 ∧ get l 4 = (ptr A2 0 3) ∧ get l 5 = (ptr A3 0 3) ∧ get l 6 = (ptr A4 0 3) ∧ get l 92 = dw ∧ get l 93 = I (gO rg).length ∧ ∃ (j : Nat), (n + j = (gO rg).length ∧ ∀ q, q < j → gK (gO rg) q ≠ nD d i) ∧ get l 94 = I j ∧ St prog H H' [⟨ptr A1 0 4, 0, [(.string o.name), o.rv, o.dv, o.cv]⟩, ⟨ptr A2 0 3, 0, [sv, (.int .u64 rg.cpl), (.int .u64 rg.off)]⟩, ⟨ptr A3 0 3, 0, [I 1, I d, I i]⟩, ⟨ptr A4 0 3, 0, [(.slice none 0 0), (.int .u64 0), (.int .u64 0)]⟩, ⟨dw, 3, jY (gO rg)⟩]) (gO rg).length ?_ ?_
 ·simp (disch := omega) only [RB, RC, simprocAttr, hn]
  exact ⟨0, ⟨by omega, fun q hq => absurd hq (dy _)⟩, rfl, hS5⟩
 rintro n l H6 ⟨hn, g4, g5, g6, g92, g93, j, ⟨hj,hz⟩, g94, hS6⟩
 simp (disch := omega) only [↓RA, RB, simprocAttr, hn, g93, g94]
 refine gJ (fun q1 => ?_) (fun q1 => ?_)
 ·simp (disch := omega) only [↓RA, RZ, simprocAttr, hn, g92, g94, (hS6.aw 4 rfl (fun _ => rfl)).idx, (hS6.aw 4 rfl (fun _ => rfl)).ab, Ctl.cells, q1]
  refine hS6.eNew 3 [I 0, I 0, I 0] rfl rfl rfl kE fun A5 H7 hS7 => ?_
  simp only [RT] at hS7
  simp (disch := omega) only [↓RA, RZ, simprocAttr, hn, q1]
  refine hS7.aa 5 rfl [I (gK (gO rg) j).kind, I (gK (gO rg) j).dv, I (gK (gO rg) j).ix] rfl rfl kE (by simp) fun H8 hS8 => ?_
  simp only [RT] at hS8
  simp (disch := omega) only [↓RA, RZ, simprocAttr, hn, g5, hS8.ab 5 rfl, hS8.ab 2 rfl, q1]
  refine gJ (fun q2 => ?_) (fun q2 => ?_)
  ·have hnx : gK (gO rg) j ≠ nD d i := fun e => q2 (by rw [e]; simp [nD])
   simp (disch := omega) only [↓RA, RZ, simprocAttr, hn, g4, g5, g6, g92, g93, g94, q1, q2]
   exact ⟨n - 1, by omega, j + 1, ⟨by omega, fun q hq => by rcases dj.1 hq with e | e; (· exact hz q e); (· rw [e]; exact hnx)⟩, by simp, hS8.pick [0, 1, 2, 3, 4] (by decide) rfl⟩
  have hcl := b1K (gK rg.stops d) i (by omega)
  have hsl : (rg.stops.flatMap (one u64)).length = rg.stops.length := (gV (n := 1) (fun _ => rfl) _).trans (by omega)
  simp (disch := omega) only [↓RA, RZ, simprocAttr, q1, q2]
  refine Wp.aJ iZ [(2, 0), (5, 0), (5, 1), (7, 0), (7, 1)] (by kernel_rfl) (by kernel_rfl) ?_
  simp (disch := omega) only [↓RA, simprocAttr]
  refine hS8.ba zB fun w1 H9 hS9 => ?_
  simp only [RT] at hS9
  simp (disch := omega) only [↓RA, RZ, simprocAttr, hn, g4, hS9.ld 1 rfl]
  refine hS9.aq 6 rfl (hS9.sl hr.1).rd zB (by rw [hsl]; simp; omega) fun w2 H10 hS10 => ?_
  simp only [RT] at hS10
  simp (disch := omega) only [↓RA, RZ, simprocAttr, hn, g4, hS10.ld 1 rfl, vF (hS10.rd 6 rfl).cells]
  refine hS10.eNew 3 [(.slice none 0 0), (.int .u64 0), (.int .u64 0)] rfl rfl rfl iK fun A6 H11 hS11 => ?_
  simp only [RT] at hS11
  simp (disch := omega) only [↓RA, RB, simprocAttr, hn]
  refine hS11.aa 7 rfl [w2, (.int .u64 rg.cpl), (.int .u64 rg.off)] rfl (by simp [OC, (hS11.rd 6 rfl).cells.2.1]) iK (by simp) fun H12 hS12 => ?_
  simp only [RT] at hS12
  simp (disch := omega) only [↓RA, RZ, simprocAttr, hn, g5, hS8.ld 1 rfl, hS9.ld 1 rfl]
  simp (disch := omega) only [↓RA, RZ, simprocAttr, hn, hS12.ld 2 rfl]
  refine Wp.drw iZ (by kernel_rfl) ?_
  simp (disch := omega) only [↓RA, RZ, simprocAttr, hn, g5, hS12.ld 7 rfl, hS12.ld 2 rfl, (hS12.aw 6 rfl (fun _ => rfl)).idx, (hS12.aw 6 rfl (fun _ => rfl)).ld, one, u64, hcl, one, u64]
  refine hS12.aS 6 rfl [(.int .u64 (qF (gK rg.stops d) i : Nat))] rfl rfl a0d (by simp) (by rw [hsl]; simp; omega) fun H13 hS13 => ?_
  simp only [RT] at hS13
  simp (disch := omega) only [↓RA, RZ, simprocAttr, hn, g6, hS13.ab 7 rfl]
  refine hS13.aa 3 rfl [w2, (.int .u64 rg.cpl), (.int .u64 rg.off)] rfl (by simp [OC, (hS13.rd 6 rfl).cells.2.1]) iK (by simp) fun H14 hS14 => ?_
  simp only [RT] at hS14
  simp (disch := omega) only [↓RA, RZ, simprocAttr, hn, g6, pG, hS14.ab 3 rfl]
  refine ⟨w2, rfl, ?_⟩
  have e2 : (iU rg (nD d i)).stops.flatMap (one u64) = (rg.stops.flatMap (one u64)).set d (.int .u64 (qF (gK rg.stops d) i : Nat)) := by
   have e3 : (iU rg (nD d i)).stops = rg.stops.set d (qF (gK rg.stops d) i) := rfl
   rw [e3, tN, tN, gj]
   rfl
  rw [e2]
  exact hS14.pick [6] (by decide) rfl
 exfalso
 obtain ⟨j2, hj2, e⟩ := dI.1 hc
 rw [← jL _ j2 hj2] at e
 exact hz j2 (by omega) e
theorem a4O (o : Org) (ho : o.In H) (rg : Reg) (sv : Value) (hr : rg.In H sv) (h0 : jX o rg = 0) (i : Nat) (hc : mO i ∈ gO rg) (hi : i < o.cpls.length) :
 Fn prog 42 [.agg #[.string o.name, o.rv, o.dv, o.cv], .agg #[sv, .int .u64 rg.cpl, .int .u64 rg.off], .agg #[I 2, I 0, I i]] H fun r H' => ∃ nv, r = .tuple #[.agg #[nv, .int .u64 (iU rg (mO i)).cpl, .int .u64 (iU rg (mO i)).off], I 0] ∧ St prog H H' [⟨nv, 1, (iU rg (mO i)).stops.flatMap (one u64)⟩] := by
 obtain ⟨hz3, hz4⟩ := iY h0
 have hf := Org.aT hz3
 have hd8 := hf.dlen
 have hc40 := hf.clen
 refine .bf func42 rfl (by kernel_rfl) (m := 144) rfl fun l hn g0 g1 g2 => ?_
 simp (disch := omega) only [↓RA, RB, simprocAttr, g0]
 refine (sR H).eNew 4 [(.string o.name), o.rv, o.dv, o.cv] rfl rfl (by simp [OC, ((sR H).sl ho.1).cells.2.1, ((sR H).sl ho.2.2.1).cells.2.1, ((sR H).sl ho.2.2.2.2.1).cells.2.1]) lD fun A1 H1 hS1 => ?_
 simp only [RT] at hS1
 simp (disch := omega) only [↓RA, RB, simprocAttr, g1]
 refine hS1.eNew 3 [sv, (.int .u64 rg.cpl), (.int .u64 rg.off)] rfl rfl (by simp [OC, (hS1.sl hr.1).cells.2.1]) iK fun A2 H2 hS2 => ?_
 simp only [RT] at hS2
 simp (disch := omega) only [↓RA, RB, simprocAttr, g2]
 refine hS2.eNew 3 [I 2, I 0, I i] rfl rfl rfl kE fun A3 H3 hS3 => ?_
 simp only [RT] at hS3
 simp (disch := omega) only [↓RA, RZ, simprocAttr]
 refine hS3.eNew 3 [(.slice none 0 0), (.int .u64 0), (.int .u64 0)] rfl rfl rfl iK fun A4 H4 hS4 => ?_
 simp only [RT] at hS4
 simp (disch := omega) only [↓RA, RZ, simprocAttr, hn, hS4.ld 2 rfl]
 refine hK (fun g1 => ?_) (fun g1 => ?_)
 rotate_left
 ·exfalso; first | omega | (simp at g1; omega)
 simp (disch := omega) only [↓RA, RZ, simprocAttr, hn, hS4.ld 2 rfl, hS4.ld 0 rfl, (hS4.sl ho.2.2.2.2.1).len, g1]
 refine iA (fun g5 => ?_) (fun g5 => ?_)
 ·exfalso; first | omega | (simp at g5; omega)
 simp (disch := omega) only [↓RA, RZ, simprocAttr, hn, hS4.ab 0 rfl, hS4.ab 1 rfl, g1, g5]
 refine gP ((lW o (ho.ae hS4) rg sv (hr.ae hS4) h0).tr) ?_
 rintro r H5 ⟨-, hT1⟩
 have hS5 := hS4.trans hT1
 simp only [RT] at hS5
 obtain ⟨dw, rfl⟩ : ∃ w, w = r := ⟨r, rfl⟩
 have hdl := kN (rg := rg) (by omega)
 simp (disch := omega) only [↓RA, RZ, simprocAttr, hn, (hS5.aw 4 rfl (fun _ => rfl)).len, g1, g5]
 refine Wp.al (fun n l H' => l.length = 144 ∧ get l 4 = (ptr A2 0 3) ∧ get l 5 = (ptr A3 0 3) ∧ get l 6 = (ptr A4 0 3) ∧ get l 92 = dw ∧ get l 93 = I (gO rg).length ∧ ∃ (j : Nat), (n + j = (gO rg).length ∧ ∀ q, q < j → gK (gO rg) q ≠ mO i) ∧ get l 94 = I j ∧ St prog H H' [⟨ptr A1 0 4, 0, [(.string o.name), o.rv, o.dv, o.cv]⟩, ⟨ptr A2 0 3, 0, [sv, (.int .u64 rg.cpl), (.int .u64 rg.off)]⟩, ⟨ptr A3 0 3, 0, [I 2, I 0, I i]⟩, ⟨ptr A4 0 3, 0, [(.slice none 0 0), (.int .u64 0), (.int .u64 0)]⟩, ⟨dw, 3, jY (gO rg)⟩]) (gO rg).length ?_ ?_
 ·simp (disch := omega) only [RB, RC, simprocAttr, hn]
  exact ⟨0, ⟨by omega, fun q hq => absurd hq (dy _)⟩, rfl, hS5⟩
 rintro n l H6 ⟨hn, g4, g5, g6, g92, g93, j, ⟨hj,hz⟩, g94, hS6⟩
 simp (disch := omega) only [↓RA, RB, simprocAttr, hn, g93, g94]
 refine gJ (fun q1 => ?_) (fun q1 => ?_)
 ·simp (disch := omega) only [↓RA, RZ, simprocAttr, hn, g92, g94, (hS6.aw 4 rfl (fun _ => rfl)).idx, (hS6.aw 4 rfl (fun _ => rfl)).ab, Ctl.cells, q1]
  refine hS6.eNew 3 [I 0, I 0, I 0] rfl rfl rfl kE fun A5 H7 hS7 => ?_
  simp only [RT] at hS7
  simp (disch := omega) only [↓RA, RZ, simprocAttr, hn, q1]
  refine hS7.aa 5 rfl [I (gK (gO rg) j).kind, I (gK (gO rg) j).dv, I (gK (gO rg) j).ix] rfl rfl kE (by simp) fun H8 hS8 => ?_
  simp only [RT] at hS8
  simp (disch := omega) only [↓RA, RZ, simprocAttr, hn, g5, hS8.ab 5 rfl, hS8.ab 2 rfl, q1]
  refine gJ (fun q2 => ?_) (fun q2 => ?_)
  ·have hnx : gK (gO rg) j ≠ mO i := fun e => q2 (by rw [e]; simp [mO])
   simp (disch := omega) only [↓RA, RZ, simprocAttr, hn, g4, g5, g6, g92, g93, g94, q1, q2]
   exact ⟨n - 1, by omega, j + 1, ⟨by omega, fun q hq => by rcases dj.1 hq with e | e; (· exact hz q e); (· rw [e]; exact hnx)⟩, by simp, hS8.pick [0, 1, 2, 3, 4] (by decide) rfl⟩
  have hcl := b1K rg.cpl i (by omega)
  have hsl : (rg.stops.flatMap (one u64)).length = rg.stops.length := (gV (n := 1) (fun _ => rfl) _).trans (by omega)
  simp (disch := omega) only [↓RA, RZ, simprocAttr, q1, q2]
  refine Wp.aJ iZ [(2, 0), (5, 0), (5, 1), (7, 0), (7, 1)] (by kernel_rfl) (by kernel_rfl) ?_
  simp (disch := omega) only [↓RA, simprocAttr]
  refine hS8.ba zB fun w1 H9 hS9 => ?_
  simp only [RT] at hS9
  simp (disch := omega) only [↓RA, RZ, simprocAttr, hn, g4, hS9.ld 1 rfl]
  refine hS9.aq 6 rfl (hS9.sl hr.1).rd zB (by rw [hsl]; simp; omega) fun w2 H10 hS10 => ?_
  simp only [RT] at hS10
  simp (disch := omega) only [↓RA, RZ, simprocAttr, hn, g4, hS10.ld 1 rfl, vF (hS10.rd 6 rfl).cells]
  refine hS10.eNew 3 [(.slice none 0 0), (.int .u64 0), (.int .u64 0)] rfl rfl rfl iK fun A6 H11 hS11 => ?_
  simp only [RT] at hS11
  simp (disch := omega) only [↓RA, RB, simprocAttr, hn]
  refine hS11.aa 7 rfl [w2, (.int .u64 rg.cpl), (.int .u64 rg.off)] rfl (by simp [OC, (hS11.rd 6 rfl).cells.2.1]) iK (by simp) fun H12 hS12 => ?_
  simp only [RT] at hS12
  simp (disch := omega) only [↓RA, RZ, simprocAttr, hn, g5, hS8.ld 1 rfl, hS9.ld 1 rfl]
  simp (disch := omega) only [↓RA, RZ, simprocAttr, hn, hS12.ld 2 rfl]
  refine Wp.drw iZ (by kernel_rfl) ?_
  simp (disch := omega) only [↓RA, RZ, simprocAttr, hn, g5, hS12.ld 7 rfl, hS12.ld 2 rfl, hcl]
  refine hS12.aa 7 rfl [_] rfl rfl a0d (by simp) fun H13 hS13 => ?_
  simp only [RT] at hS13
  simp (disch := omega) only [↓RA, RZ, simprocAttr, hn, g6, hS13.ab 7 rfl]
  refine hS13.aa 3 rfl [w2, _, (.int .u64 rg.off)] rfl (by simp [OC, (hS13.rd 6 rfl).cells.2.1]) iK (by simp) fun H14 hS14 => ?_
  simp only [RT] at hS14
  simp (disch := omega) only [↓RA, RZ, simprocAttr, hn, g6, pG, hS14.ab 3 rfl]
  exact ⟨w2, rfl, hS14.pick [6] (by decide) rfl⟩
 exfalso
 obtain ⟨j2, hj2, e⟩ := dI.1 hc
 rw [← jL _ j2 hj2] at e
 exact hz j2 (by omega) e
theorem a6h (o : Org) (ho : o.In H) (rg : Reg) (sv : Value) (hr : rg.In H sv) (h0 : jX o rg = 0) (i : Nat) (hc : pT i ∈ gO rg) (hi : i < o.dvs.length) :
 Fn prog 42 [.agg #[.string o.name, o.rv, o.dv, o.cv], .agg #[sv, .int .u64 rg.cpl, .int .u64 rg.off], .agg #[I 3, I i, I 0]] H fun r H' => ∃ nv, r = .tuple #[.agg #[nv, .int .u64 (iU rg (pT i)).cpl, .int .u64 (iU rg (pT i)).off], I 0] ∧ St prog H H' [⟨nv, 1, (iU rg (pT i)).stops.flatMap (one u64)⟩] := by
 obtain ⟨hz3, hz4⟩ := iY h0
 have hf := Org.aT hz3
 have hd8 := hf.dlen
 have hc40 := hf.clen
 refine .bf func42 rfl (by kernel_rfl) (m := 144) rfl fun l hn g0 g1 g2 => ?_
 simp (disch := omega) only [↓RA, RB, simprocAttr, g0]
 refine (sR H).eNew 4 [(.string o.name), o.rv, o.dv, o.cv] rfl rfl (by simp [OC, ((sR H).sl ho.1).cells.2.1, ((sR H).sl ho.2.2.1).cells.2.1, ((sR H).sl ho.2.2.2.2.1).cells.2.1]) lD fun A1 H1 hS1 => ?_
 simp only [RT] at hS1
 simp (disch := omega) only [↓RA, RB, simprocAttr, g1]
 refine hS1.eNew 3 [sv, (.int .u64 rg.cpl), (.int .u64 rg.off)] rfl rfl (by simp [OC, (hS1.sl hr.1).cells.2.1]) iK fun A2 H2 hS2 => ?_
 simp only [RT] at hS2
 simp (disch := omega) only [↓RA, RB, simprocAttr, g2]
 refine hS2.eNew 3 [I 3, I i, I 0] rfl rfl rfl kE fun A3 H3 hS3 => ?_
 simp only [RT] at hS3
 simp (disch := omega) only [↓RA, RZ, simprocAttr]
 refine hS3.eNew 3 [(.slice none 0 0), (.int .u64 0), (.int .u64 0)] rfl rfl rfl iK fun A4 H4 hS4 => ?_
 simp only [RT] at hS4
 simp (disch := omega) only [↓RA, RZ, simprocAttr, hn, hS4.ld 2 rfl, hS4.ld 0 rfl, (hS4.sl ho.2.2.2.2.1).len]
 refine hK (fun g1 => ?_) (fun g1 => ?_)
 rotate_left
 ·exfalso; first | omega | (simp at g1; omega)
 simp (disch := omega) only [↓RA, RZ, simprocAttr, hn, hS4.ld 2 rfl, hS4.ld 0 rfl, (hS4.sl ho.2.2.1).len, g1]
 refine iA (fun g5 => ?_) (fun g5 => ?_)
 ·exfalso; first | omega | (simp at g5; omega)
 simp (disch := omega) only [↓RA, RZ, simprocAttr, hn, hS4.ab 0 rfl, hS4.ab 1 rfl, g1, g5]
 refine gP ((lW o (ho.ae hS4) rg sv (hr.ae hS4) h0).tr) ?_
 rintro r H5 ⟨-, hT1⟩
 have hS5 := hS4.trans hT1
 simp only [RT] at hS5
 obtain ⟨dw, rfl⟩ : ∃ w, w = r := ⟨r, rfl⟩
 have hdl := kN (rg := rg) (by omega)
 simp (disch := omega) only [↓RA, RZ, simprocAttr, hn, (hS5.aw 4 rfl (fun _ => rfl)).len, g1, g5]
 refine Wp.al (fun n l H' => l.length = 144 ∧ get l 4 = (ptr A2 0 3) ∧ get l 5 = (ptr A3 0 3) ∧ get l 6 = (ptr A4 0 3) ∧ get l 92 = dw ∧ get l 93 = I (gO rg).length ∧ ∃ (j : Nat), (n + j = (gO rg).length ∧ ∀ q, q < j → gK (gO rg) q ≠ pT i) ∧ get l 94 = I j ∧ St prog H H' [⟨ptr A1 0 4, 0, [(.string o.name), o.rv, o.dv, o.cv]⟩, ⟨ptr A2 0 3, 0, [sv, (.int .u64 rg.cpl), (.int .u64 rg.off)]⟩, ⟨ptr A3 0 3, 0, [I 3, I i, I 0]⟩, ⟨ptr A4 0 3, 0, [(.slice none 0 0), (.int .u64 0), (.int .u64 0)]⟩, ⟨dw, 3, jY (gO rg)⟩]) (gO rg).length ?_ ?_
 ·simp (disch := omega) only [RB, RC, simprocAttr, hn]
  exact ⟨0, ⟨by omega, fun q hq => absurd hq (dy _)⟩, rfl, hS5⟩
 rintro n l H6 ⟨hn, g4, g5, g6, g92, g93, j, ⟨hj,hz⟩, g94, hS6⟩
 simp (disch := omega) only [↓RA, RB, simprocAttr, hn, g93, g94]
 refine gJ (fun q1 => ?_) (fun q1 => ?_)
 ·simp (disch := omega) only [↓RA, RZ, simprocAttr, hn, g92, g94, (hS6.aw 4 rfl (fun _ => rfl)).idx, (hS6.aw 4 rfl (fun _ => rfl)).ab, Ctl.cells, q1]
  refine hS6.eNew 3 [I 0, I 0, I 0] rfl rfl rfl kE fun A5 H7 hS7 => ?_
  simp only [RT] at hS7
  simp (disch := omega) only [↓RA, RZ, simprocAttr, hn, q1]
  refine hS7.aa 5 rfl [I (gK (gO rg) j).kind, I (gK (gO rg) j).dv, I (gK (gO rg) j).ix] rfl rfl kE (by simp) fun H8 hS8 => ?_
  simp only [RT] at hS8
  simp (disch := omega) only [↓RA, RZ, simprocAttr, hn, g5, hS8.ab 5 rfl, hS8.ab 2 rfl, q1]
  refine gJ (fun q2 => ?_) (fun q2 => ?_)
  ·have hnx : gK (gO rg) j ≠ pT i := fun e => q2 (by rw [e]; simp [pT])
   simp (disch := omega) only [↓RA, RZ, simprocAttr, hn, g4, g5, g6, g92, g93, g94, q1, q2]
   exact ⟨n - 1, by omega, j + 1, ⟨by omega, fun q hq => by rcases dj.1 hq with e | e; (· exact hz q e); (· rw [e]; exact hnx)⟩, by simp, hS8.pick [0, 1, 2, 3, 4] (by decide) rfl⟩
  have hcl := b1K rg.off i (by omega)
  have hsl : (rg.stops.flatMap (one u64)).length = rg.stops.length := (gV (n := 1) (fun _ => rfl) _).trans (by omega)
  simp (disch := omega) only [↓RA, RZ, simprocAttr, q1, q2]
  refine Wp.aJ iZ [(2, 0), (5, 0), (5, 1), (7, 0), (7, 1)] (by kernel_rfl) (by kernel_rfl) ?_
  simp (disch := omega) only [↓RA, simprocAttr]
  refine hS8.ba zB fun w1 H9 hS9 => ?_
  simp only [RT] at hS9
  simp (disch := omega) only [↓RA, RZ, simprocAttr, hn, g4, hS9.ld 1 rfl]
  refine hS9.aq 6 rfl (hS9.sl hr.1).rd zB (by rw [hsl]; simp; omega) fun w2 H10 hS10 => ?_
  simp only [RT] at hS10
  simp (disch := omega) only [↓RA, RZ, simprocAttr, hn, g4, hS10.ld 1 rfl, vF (hS10.rd 6 rfl).cells]
  refine hS10.eNew 3 [(.slice none 0 0), (.int .u64 0), (.int .u64 0)] rfl rfl rfl iK fun A6 H11 hS11 => ?_
  simp only [RT] at hS11
  simp (disch := omega) only [↓RA, RB, simprocAttr, hn]
  refine hS11.aa 7 rfl [w2, (.int .u64 rg.cpl), (.int .u64 rg.off)] rfl (by simp [OC, (hS11.rd 6 rfl).cells.2.1]) iK (by simp) fun H12 hS12 => ?_
  simp only [RT] at hS12
  simp (disch := omega) only [↓RA, RZ, simprocAttr, hn, g5, hS8.ld 1 rfl, hS9.ld 1 rfl]
  simp (disch := omega) only [↓RA, RZ, simprocAttr, hn, hS12.ld 2 rfl]
  refine Wp.drw iZ (by kernel_rfl) ?_
  simp (disch := omega) only [↓RA, RZ, simprocAttr, hn, g5, hS12.ld 7 rfl, hS12.ld 2 rfl, hcl]
  refine hS12.aa 7 rfl [_] rfl rfl a0d (by simp) fun H13 hS13 => ?_
  simp only [RT] at hS13
  simp (disch := omega) only [↓RA, RZ, simprocAttr, hn, g6, hS13.ab 7 rfl]
  refine hS13.aa 3 rfl [w2, (.int .u64 rg.cpl), _] rfl (by simp [OC, (hS13.rd 6 rfl).cells.2.1]) iK (by simp) fun H14 hS14 => ?_
  simp only [RT] at hS14
  simp (disch := omega) only [↓RA, RZ, simprocAttr, hn, g6, pG, hS14.ab 3 rfl]
  exact ⟨w2, rfl, hS14.pick [6] (by decide) rfl⟩
 exfalso
 obtain ⟨j2, hj2, e⟩ := dI.1 hc
 rw [← jL _ j2 hj2] at e
 exact hz j2 (by omega) e
theorem a7y {x n i : Nat} (h : x >>> n = 0) (hb : x.testBit i = true) : i < n := by
 have hx : x < 2 ^ n := by
  rw [eN] at h
  rcases Nat.div_eq_zero_iff.1 h with h | h
  ·have := Nat.two_pow_pos n
   omega
  ·exact h
 by_cases hi : i < n
 ·exact hi
 ·have : x.testBit i = false := Nat.testBit_lt_two_pow (dE hx (eZ (by decide) (by omega)))
  rw [this] at hb
  cases hb
theorem vV {o : Org} {rg : Reg} (h0 : jX o rg = 0) {c : Ctl} (hc : c ∈ gO rg) : (∃ d i, c = nD d i ∧ d < o.dvs.length ∧ i < (gK o.dvs d).stops.length) ∨ (∃ i, c = mO i ∧ i < o.cpls.length) ∨ ∃ i, c = pT i ∧ i < o.dvs.length := by
 obtain ⟨h1, h2, h3⟩ := a3k h0
 have hl := (iY h0).2
 have hb : ∀ (x i : Nat), i ∈ oR x → x.testBit i = true := fun x i hi => by
  unfold oR at hi
  exact (eD.1 hi).2
 unfold gO at hc
 rcases dB.1 hc with hc | hc
 ·rcases dB.1 hc with hc | hc
  ·obtain ⟨d, hd, hc⟩ := eJ.1 hc
   obtain ⟨i, hi, rfl⟩ := dA.1 hc
   have hd := dF.1 hd
   exact .inl ⟨d, i, rfl, by omega, a7y (h1 d (by omega)) (hb _ _ hi)⟩
  ·obtain ⟨i, hi, rfl⟩ := dA.1 hc
   exact .inr (.inl ⟨i, rfl, a7y h2 (hb _ _ hi)⟩)
 ·obtain ⟨i, hi, rfl⟩ := dA.1 hc
  exact .inr (.inr ⟨i, rfl, a7y h3 (hb _ _ hi)⟩)
theorem a3q (o : Org) (ho : o.In H) (rg : Reg) (sv : Value) (hr : rg.In H sv) (h0 : jX o rg = 0) (c : Ctl) (hc : c ∈ gO rg) :
 Fn prog 42 [.agg #[.string o.name, o.rv, o.dv, o.cv], .agg #[sv, .int .u64 rg.cpl, .int .u64 rg.off], .agg #[I c.kind, I c.dv, I c.ix]] H fun r H' => ∃ nv, r = .tuple #[.agg #[nv, .int .u64 (iU rg c).cpl, .int .u64 (iU rg c).off], I 0] ∧ St prog H H' [⟨nv, 1, (iU rg c).stops.flatMap (one u64)⟩] := by
 rcases vV h0 hc with ⟨d, i, rfl, hd, hi⟩ | ⟨i, rfl, hi⟩ | ⟨i, rfl, hi⟩
 ·exact a6o o ho rg sv hr h0 d i hc hd hi
 ·exact a4O o ho rg sv hr h0 i hc hi
 ·exact a6h o ho rg sv hr h0 i hc hi
end Go.Ds
namespace Go.Ds
open Go.Proofs
variable {H : Heap}
set_option maxRecDepth 10000
set_option maxHeartbeats 1000000
end Go.Ds
namespace Go.Ds
open Go.Proofs Go.Proofs.Tryz
variable {H : Heap}
set_option maxRecDepth 10000
set_option maxHeartbeats 1000000
theorem b1D (g : Reg) (v w : Value) (hr : g.In H v) (hs : g.In H w) (hl : g.stops.length < 1000000000) :
 Fn prog 43 [.agg #[v, .int .u64 g.cpl, .int .u64 g.off], .agg #[w, .int .u64 g.cpl, .int .u64 g.off]] H fun r H' => r = .bool true ∧ St prog H H' [] := by
 refine .aE func43 rfl (by kernel_rfl) (m := 45) rfl fun l hn g0 g1 => ?_
 simp (disch := omega) only [↓RA, RB, simprocAttr, g0]
 refine (sR H).eNew 3 [v, (.int .u64 g.cpl), (.int .u64 g.off)] rfl rfl (by simp [OC, ((sR H).sl hr.1).cells.2.1]) iK fun A1 H1 hS1 => ?_
 simp only [RT] at hS1
 simp (disch := omega) only [↓RA, RB, simprocAttr, g1]
 refine hS1.eNew 3 [w, (.int .u64 g.cpl), (.int .u64 g.off)] rfl rfl (by simp [OC, (hS1.sl hs.1).cells.2.1]) iK fun A2 H2 hS2 => ?_
 simp only [RT] at hS2
 simp (disch := omega) only [↓RA, RZ, simprocAttr, hn, hS2.ld 0 rfl, (hS2.sl hr.1).len, hS2.ld 1 rfl, (hS2.sl hs.1).len]
 refine Wp.al (fun n l H' => l.length = 45 ∧ get l 2 = (ptr A1 0 3) ∧ get l 3 = (ptr A2 0 3) ∧ ∃ (j : Nat), (n + j = g.stops.length) ∧ get l 5 = I j ∧ St prog H H' [⟨ptr A1 0 3, 0, [v, (.int .u64 g.cpl), (.int .u64 g.off)]⟩, ⟨ptr A2 0 3, 0, [w, (.int .u64 g.cpl), (.int .u64 g.off)]⟩]) g.stops.length ?_ ?_
 ·simp (disch := omega) only [RB, RC, simprocAttr, hn]
  exact ⟨0, by omega, rfl, hS2⟩
 rintro n l H3 ⟨hn, g2, g3, j, hj, g5, hS3⟩
 simp (disch := omega) only [↓RA, RZ, simprocAttr, hn, g2, g5, hS3.ld 0 rfl, (hS3.sl hr.1).len]
 refine gJ (fun q1 => ?_) (fun q1 => ?_)
 ·simp (disch := omega) only [↓RA, RC, simprocAttr, q1]
  refine Wp.drw iZ (by kernel_rfl) ?_
  simp (disch := omega) only [↓RA, RZ, simprocAttr, hn, g2, g3, g5, hS3.ld 0 rfl, (hS3.sl hr.1).idx, (hS3.sl hr.1).ld, one, u64, hS3.ld 1 rfl, (hS3.sl hs.1).idx, (hS3.sl hs.1).ld]
  exact ⟨n - 1, by omega, j + 1, by omega, by simp, hS3.pick [0, 1] (by decide) rfl⟩
 simp (disch := omega) only [↓RA, RZ, simprocAttr, hn, c3z, q1]
 exact hS3.forget
end Go.Ds
