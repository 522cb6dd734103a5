/-
  A part of the proof of SoundUnions.
-/
import Derived.Test.YtabfngimnibecaaGreatDoorVD
import Derived.Test.YtabfngimnibecaaGreatDoorVB
set_option linter.unusedVariables false
set_option linter.unusedSimpArgs false
set_option linter.defProp false
set_option linter.unusedSectionVars false
namespace Go.Ds
open Go.Proofs
variable {H : Heap}
set_option maxRecDepth 10000
theorem a1f {p : Nat → Bool} {n j : Nat} (h : jM p n = (j : Int)) : j < n := by
 unfold jM at h
 split at h
 ·rename_i q hq
  have := List.mem_range.1 (List.mem_of_find?_eq_some hq)
  omega
 ·omega
theorem b2S (g : Seg) (hg : g.In H) (key : Int) (A : Nat) (hA : Var H A 1 [I key]) : Fn Tryz.prog 217 [.agg #[I g.lo, I g.hi, g.dv], ptr A 0 1] H fun r H' => r = .bool (decide (g.lo ≤ key) && decide (key ≤ g.hi)) ∧ St Tryz.prog H H' [] := by
 refine Fn.of_sw Tryz.func217 rfl (by kernel_rfl) fun l hl => ?_
 have hn : l.length = 14 := by rw [hl]; rfl
 have g0 : get l 0 = (.agg #[I g.lo, I g.hi, g.dv]) := by rw [hl]; rfl
 have g1 : get l 1 = (ptr A 0 1) := by rw [hl]; rfl
 clear hl
 simp (disch := omega) only [↓RA, RB, simprocAttr, g0]
 refine (St.refl Tryz.prog H).eNew 3 [I g.lo, I g.hi, g.dv] rfl rfl (by simp [OC, ((St.refl Tryz.prog H).sl hg.1).cells.2.1]) a4Z fun A1 H1 hS1 => ?_
 simp only [RT] at hS1
 simp (disch := omega) only [↓RA, RZ, simprocAttr, hn, g1, hS1.ld 0 rfl, (hS1.va hA).ld]
 refine cK (fun h1 => ?_) (fun h1 => ?_)
 ·simp (disch := omega) only [↓RA, RZ, simprocAttr, hn, g1, (hS1.va hA).ld, hS1.ld 0 rfl, b5N, h1]
  first | exact hS1.forget | exact ⟨by simp [h1], hS1.forget⟩
 simp (disch := omega) only [↓RA, RZ, simprocAttr, hn, b5N, h1]
 first | exact hS1.forget | exact ⟨by simp [], hS1.forget⟩
theorem b4r (v : Value) (xs : List Seg) (hv : Sl 3 Seg.cells H v xs) (hl : xs.length < 1000000000) (k : FuncId) (caps : List Value) (p : Nat → Bool)
 (hf : ∀ j H1, j < xs.length → St Tryz.prog H H1 [] → Fn Tryz.prog k (.agg #[I (aC xs j).lo, I (aC xs j).hi, (aC xs j).dv] :: caps) H1 fun r H2 => r = .bool (p j) ∧ St Tryz.prog H1 H2 []) :
 Fn Tryz.prog 216 [v, .func (.func k) #[] caps.toArray] H fun r H' => r = I (jM p xs.length) ∧ St Tryz.prog H H' [] := by
 refine Fn.of_sw Tryz.func216 rfl (by kernel_rfl) fun l hl => ?_
 have hn : l.length = 19 := by rw [hl]; rfl
 have g0 : get l 0 = v := by rw [hl]; rfl
 have g1 : get l 1 = .func (.func k) #[] caps.toArray := by rw [hl]; rfl
 clear hl
 simp (disch := omega) only [↓RA, RZ, simprocAttr, hn, g0, ((St.refl Tryz.prog H).sl hv).len]
 refine Wp.loopS (fun n l H' => l.length = 19 ∧ get l 0 = v ∧ get l 1 = .func (.func k) #[] caps.toArray ∧ get l 7 = I xs.length ∧ ∃ (j : Nat), (n + j = xs.length ∧ ∀ q, q < j → p q = false) ∧ get l 8 = I j ∧ St Tryz.prog H H' []) xs.length ?_ ?_
 ·simp (disch := omega) only [RB, RC, simprocAttr, hn, g0, g1]
  exact ⟨0, ⟨by omega, fun q hq => absurd hq (Nat.not_lt_zero _)⟩, rfl, (St.refl Tryz.prog H)⟩
 rintro n l H1 ⟨hn, g0, g1, g7, j, ⟨hi,h0⟩, g8, hS1⟩
 simp (disch := omega) only [↓RA, RB, simprocAttr, hn, g7, g8]
 refine aA (fun h => ?_) (fun h => ?_)
 ·simp (disch := omega) only [↓RA, RZ, simprocAttr, hn, g0, g1, g8, (hS1.sl hv).idx, (hS1.sl hv).ldA, Seg.cells, h]
  refine aB (hf j _ (by omega) hS1) ?_
  rintro r H2 ⟨rfl, hT1⟩
  have hS2 := hS1.trans hT1
  simp only [RT] at hS2
  simp (disch := omega) only [↓RA, RZ, simprocAttr, hn, h]
  refine bU (fun hp => ?_) (fun hp => ?_)
  ·simp (disch := omega) only [↓RA, RZ, simprocAttr, hn, b5w, h, hp]
   exact ⟨by rw [tS p xs.length j (by omega) hp h0], hS2⟩
  simp (disch := omega) only [↓RA, RZ, simprocAttr, hn, g0, g1, g7, g8, h, hp]
  exact ⟨n - 1, by omega, j + 1, ⟨by omega, fun q hq => by rcases Nat.lt_succ_iff_lt_or_eq.1 hq with e | e; (· exact h0 q e); (· rw [e]; exact hp)⟩, by simp, hS2⟩
 simp (disch := omega) only [↓RA, RZ, simprocAttr, hn, b5w, h]
 exact ⟨by rw [tQ p xs.length fun q hq => h0 q (by omega)], hS1⟩
theorem a3T {H0 : Heap} {os0 : List Ob} (hS0 : St Tryz.prog H0 H os0) (s : Stp) (hs0 : s.In H0) (key : Int) : Fn Tryz.prog 155 [.agg #[.string s.name, I s.num, I s.den, s.gv], I key] H fun r H' => ∃ g : Seg, r = .agg #[I g.lo, I g.hi, g.dv] ∧ g.In H0 ∧ g.draws = a5l s key ∧ St Tryz.prog H H' [] := by
 have hs := hs0.keep hS0
 have hl := hs.2.2
 refine Fn.of_sw Tryz.func155 rfl (by kernel_rfl) fun l hl => ?_
 have hn : l.length = 18 := by rw [hl]; rfl
 have g0 : get l 0 = (.agg #[(.string s.name), I s.num, I s.den, s.gv]) := by rw [hl]; rfl
 have g1 : get l 1 = I key := by rw [hl]; rfl
 clear hl
 simp (disch := omega) only [↓RA, RB, simprocAttr, g0]
 refine (St.refl Tryz.prog H).eNew 4 [(.string s.name), I s.num, I s.den, s.gv] rfl rfl (by simp [OC, ((St.refl Tryz.prog H).sl hs.1).cells.2.1]) lN fun A1 H1 hS1 => ?_
 simp only [RT] at hS1
 simp (disch := omega) only [↓RA, RB, simprocAttr, g1]
 refine hS1.eNew 1 [I key] rfl rfl rfl tS3 fun A2 H2 hS2 => ?_
 simp only [RT] at hS2
 simp (disch := omega) only [↓RA, RZ, simprocAttr]
 refine hS2.eNew 3 [I 0, I 0, (.slice none 0 0)] rfl rfl rfl a4Z fun A3 H3 hS3 => ?_
 simp only [RT] at hS3
 simp (disch := omega) only [↓RA, RZ, simprocAttr, hn, hS3.ld 0 rfl]
 have hA := hS3.var 1 rfl
 have hSc := hS3
 refine aB (b4r s.gv s.segs (hS3.sl hs.1) hs.2.2 217 [ptr A2 0 1] (a4t s key) (fun j H1 hj hS' => b2S _ ((hs.2.1 _ (aF hj)).keep (hSc.trans hS')) key A2 (hA.keep hS'.keep))) ?_
 rintro r H4 ⟨rfl, hT1⟩
 have hS4 := hS3.trans hT1
 simp only [RT] at hS4
 simp (disch := omega) only [↓RA, RB, simprocAttr, hn]
 refine aA (fun h => ?_) (fun h => ?_)
 ·simp (disch := omega) only [↓RA, RZ, simprocAttr, hn, c0R, h]
  refine hS4.eStore 2 rfl [I 0, I 0, (.slice none 0 0)] rfl rfl a4Z (by simp) fun H5 hS5 => ?_
  simp only [RT] at hS5
  simp (disch := omega) only [↓RA, RZ, simprocAttr, hn, b5Y, hS5.ldA 2 rfl, h]
  exact ⟨⟨0, 0, .slice none 0 0, []⟩, rfl, ⟨⟨.inl ⟨rfl, rfl⟩, fun _ => rfl, by decide⟩, by simp⟩, by rw [a5l, if_pos h], hS5.forget⟩
 obtain ⟨j, hj⟩ : ∃ j : Nat, jM (a4t s key) s.segs.length = j := ⟨(jM (a4t s key) s.segs.length).toNat, by omega⟩
 have hjl : j < s.segs.length := a1f hj
 simp (disch := omega) only [↓RA, RZ, simprocAttr, hn, hS4.ld 0 rfl, (hS4.sl hs.1).idx, (hS4.sl hs.1).ldA, Seg.cells, hj]
 refine hS4.eStore 2 rfl [I (aC s.segs j).lo, I (aC s.segs j).hi, (aC s.segs j).dv] rfl (by simp [OC, (hS4.sl (hs.2.1 (aC s.segs j) (aF (by omega))).1).cells.2.1]) a4Z (by simp) fun H6 hS6 => ?_
 simp only [RT] at hS6
 simp (disch := omega) only [↓RA, RZ, simprocAttr, hn, b5Y, hS6.ldA 2 rfl, hj]
 exact ⟨aC s.segs j, rfl, hs0.2.1 _ (aF hjl), by rw [a5l, if_neg h, hj]; rfl, hS6.forget⟩
theorem b4n (rv : Value) (rks : List Rk) (hr : Sl 6 Rk.cells H rv rks) (hrk : ∀ r ∈ rks, r.In H) (hl : rks.length < 1000000000) (d : Drw) (key : Int) :
 Fn Tryz.prog 156 [rv, .agg #[I d.rank, I d.shift], I key] H fun r H' => r = .tuple #[.agg #[I (fX rks d key).1, I (fX rks d key).2], .bool (pM rks d key)] ∧ St Tryz.prog H H' [] := by
 refine Fn.of_sw Tryz.func156 rfl (by kernel_rfl) fun l hl => ?_
 have hn : l.length = 48 := by rw [hl]; rfl
 have g0 : get l 0 = rv := by rw [hl]; rfl
 have g1 : get l 1 = (.agg #[I d.rank, I d.shift]) := by rw [hl]; rfl
 have g2 : get l 2 = I key := by rw [hl]; rfl
 clear hl
 simp (disch := omega) only [↓RA, RB, simprocAttr, g1]
 refine (St.refl Tryz.prog H).eNew 2 [I d.rank, I d.shift] rfl rfl rfl sJ fun A1 H1 hS1 => ?_
 simp only [RT] at hS1
 simp (disch := omega) only [↓RA, RZ, simprocAttr]
 refine hS1.eNew 2 [I 0, I 0] rfl rfl rfl mV fun A2 H2 hS2 => ?_
 simp only [RT] at hS2
 simp (disch := omega) only [↓RA, RZ, simprocAttr, hn, hS2.ld 0 rfl]
 refine aL (fun h1 => ?_) (fun h1 => ?_)
 ·simp (disch := omega) only [↓RA, RZ, simprocAttr, hn, b5G, h1]
  refine hS2.eStore 1 rfl [I 0, I 0] rfl rfl mV (by simp) fun H3 hS3 => ?_
  simp only [RT] at hS3
  simp (disch := omega) only [↓RA, RZ, simprocAttr, hn, a6e, hS3.ldA 1 rfl, h1]
  exact ⟨by rw [fX, pM, if_pos (by omega), decide_eq_true (by omega)]; rfl, hS3.forget⟩
 simp (disch := omega) only [↓RA, RZ, simprocAttr, hn, g0, hS2.ld 0 rfl, (hS2.sl hr).len, h1]
 refine aA (fun h2 => ?_) (fun h2 => ?_)
 ·simp (disch := omega) only [↓RA, RZ, simprocAttr, hn, b5G, h1, h2]
  refine hS2.eStore 1 rfl [I 0, I 0] rfl rfl mV (by simp) fun H4 hS4 => ?_
  simp only [RT] at hS4
  simp (disch := omega) only [↓RA, RZ, simprocAttr, hn, a6e, hS4.ldA 1 rfl, h1, h2]
  exact ⟨by rw [fX, pM, if_pos (by omega), decide_eq_true (by omega)]; rfl, hS4.forget⟩
 obtain ⟨j, hj⟩ : ∃ j : Nat, d.rank = j := ⟨d.rank.toNat, by omega⟩
 have hjl : j < rks.length := by omega
 have hp : fX rks d key = ((j : Int), nK (nK (key + d.shift) - (aC rks j).first)) := by rw [fX, if_neg (by omega), hj]; rfl
 have hh : pM rks d key = (decide (0 ≤ nK (nK (key + d.shift) - (aC rks j).first)) && decide (nK (nK (key + d.shift) - (aC rks j).first) < (aC rks j).wind.length)) := by
  rw [pM, hp, decide_eq_false (by omega), hj]
  rfl
 rw [hp, hh]
 have hw := (hrk _ (aF hjl)).2
 simp (disch := omega) only [↓RA, simprocAttr, hj]
 refine Wp.drw cD (by kernel_rfl) ?_
 simp (disch := omega) only [↓RA, RZ, simprocAttr, hn, g2]
 simp (disch := omega) only [↓RA, RZ, simprocAttr, hn, g0, hS2.ld 0 rfl, (hS2.sl hr).idx, (hS2.sl hr).fld, (hS2.sl hr).ld, Rk.cells, hj]
 refine Wp.drwT cD [(10, 18), (13, 18), (14, 18)] (by kernel_rfl) (by kernel_rfl) ?_
 simp (disch := omega) only [↓RA, RZ, simprocAttr, hn, hS2.ld 0 rfl, vY, hj]
 refine cK (fun h3 => ?_) (fun h3 => ?_)
 ·skip
  simp (disch := omega) only [↓RA, RZ, simprocAttr, hn, g0, hS2.ld 0 rfl, (hS2.sl hr).idx, (hS2.sl hr).fld, (hS2.sl hr).ld, Rk.cells, (hS2.sl (hrk (aC rks j) (aF (by omega))).1).len, hj, h3]
  refine hS2.eStore 1 rfl [I j, _] rfl rfl mV (by simp) fun H5 hS5 => ?_
  simp only [RT] at hS5
  simp (disch := omega) only [↓RA, RZ, simprocAttr, hn, hS5.ld 0 rfl, Rk.cells, (hS5.sl hr).ld, (hS5.sl (hrk (aC rks j) (aF (by omega))).1).len, a6e, hS5.ldA 1 rfl, hj, h3]
  exact hS5.forget
 simp (disch := omega) only [↓RA, RZ, simprocAttr, hn, h3]
 refine hS2.eStore 1 rfl [I j, _] rfl rfl mV (by simp) fun H6 hS6 => ?_
 simp only [RT] at hS6
 simp (disch := omega) only [↓RA, RZ, simprocAttr, hn, a6e, hS6.ldA 1 rfl, h3]
 first | exact hS6.forget | exact ⟨by rw [Bool.false_and], hS6.forget⟩
theorem a8T {B : Base} {v : Value} {es : List (Int × Int)} (hS : St Tryz.prog B H [⟨v, 2, pr es⟩]) (hl : es.length < 1000000) :
 Fn Tryz.prog 157 [v] H fun r H' => ∃ rest : List Value, (∀ b, cA r = some b → cA v = some b) ∧ (∀ H2, RdAt H2 v 2 (pr (dd (mN es)) ++ rest) → RdAt H2 r 2 (pr (dd (mN es)))) ∧ St Tryz.prog B H' [⟨v, 2, pr (dd (mN es)) ++ rest⟩] := by
 refine Fn.of_sw Tryz.func157 rfl (by kernel_rfl) fun l hl => ?_
 have hn : l.length = 7 := by rw [hl]; rfl
 have g0 : get l 0 = v := by rw [hl]; rfl
 clear hl
 simp (disch := omega) only [↓RA, RZ, simprocAttr, hn, g0]
 refine b9R hS 0 rfl (Nat.lt_trans hl (by decide)) fun H1 hS1 => ?_
 simp only [List.set_cons_zero] at hS1
 simp (disch := omega) only [↓RA, RZ, simprocAttr, hn, g0]
 refine aB (lR hS1 (by rw [eK]; exact Nat.lt_trans hl (by decide))) ?_
 rintro r H2 ⟨rest, hb, hrd, hS2⟩
 have hrc := (hrd H2 (hS2.rd 0 rfl)).cells
 simp (disch := omega) only [↓RA, RB, simprocAttr, hn, b9V]
 exact ⟨rest, hb, hrd, hS2⟩
theorem b5d {a b : Int} {v : Value} {α : Type} {n : Nat} {cel : α → List Value} {xs : List α} (h : Sl n cel H v xs) : oQ Tryz.prog 74 (.agg #[I a, I b, v]) 2 = some v := by
 rcases h.rd with ⟨rfl, _⟩ | ⟨A, i, e, row, ty, rw, lo, ver, n, _, _, _, _, _, _, rfl⟩ <;> kernel_rfl
theorem b0J (rv : Value) (rks : List Rk) (hr : Sl 6 Rk.cells H rv rks) (hrk : ∀ r ∈ rks, r.In H) (hl : rks.length < 1000000000) (s : Stp) (hs : s.In H) (hs2 : ∀ g ∈ s.segs, g.draws.length ≤ 8) (key : Int) :
 Fn Tryz.prog 88 [rv, .agg #[.string s.name, I s.num, I s.den, s.gv], I key] H fun r H' => Slx 2 cC H' (fun B => H.length ≤ B) r (iP rks s key) ∧ St Tryz.prog H H' [] := by
 refine Fn.of_sw Tryz.func88 rfl (by kernel_rfl) fun l hl => ?_
 have hn : l.length = 36 := by rw [hl]; rfl
 have g0 : get l 0 = rv := by rw [hl]; rfl
 have g1 : get l 1 = (.agg #[(.string s.name), I s.num, I s.den, s.gv]) := by rw [hl]; rfl
 have g2 : get l 2 = I key := by rw [hl]; rfl
 clear hl
 simp (disch := omega) only [↓RA, RB, simprocAttr, g1]
 refine (St.refl Tryz.prog H).eNew 4 [(.string s.name), I s.num, I s.den, s.gv] rfl rfl (by simp [OC, ((St.refl Tryz.prog H).sl hs.1).cells.2.1]) lN fun A1 H1 hS1 => ?_
 simp only [RT] at hS1
 simp (disch := omega) only [↓RA, RZ, simprocAttr, hn, g2, hS1.ldA 0 rfl]
 refine aB (a3T hS1 s hs key) ?_
 rintro r H2 ⟨g, rfl, hgi, hgd, hT1⟩
 have hS2 := hS1.trans hT1
 simp only [RT] at hS2
 have hgl := hgi.2
 have hg8 : g.draws.length ≤ 8 := by
  rw [hgd]
  unfold a5l
  split
  ·simp
  ·rename_i h
   exact hs2 _ (aF (a1f (p := a4t s key) (n := s.segs.length) (by omega)))
 simp (disch := omega) only [↓RA, RZ, simprocAttr, hn, b5d (hS2.sl hgi.1), (hS2.sl hgi.1).len]
 have hS3 := hS2.nil 1
 simp only [RT] at hS3
 refine Wp.loopS (fun n l H' => l.length = 36 ∧ get l 0 = rv ∧ get l 2 = I key ∧ get l 6 = (.slice none 0 0) ∧ get l 15 = g.dv ∧ get l 16 = I g.draws.length ∧ ∃ (i : Nat) (ov : Value), (n + i = g.draws.length) ∧ get l 17 = I i ∧ get l 7 = ov ∧ St Tryz.prog H H' [⟨ptr A1 0 4, 0, [(.string s.name), I s.num, I s.den, s.gv]⟩, ⟨ov, 2, pr (((g.draws.take i).filter fun d => pM rks d key).map fun d => fX rks d key)⟩]) g.draws.length ?_ ?_
 ·simp (disch := omega) only [RB, RC, simprocAttr, hn, g0, g2]
  exact ⟨0, _, by omega, rfl, rfl, hS3⟩
 rintro n l H3 ⟨hn, g0, g2, g6, g15, g16, i, ov, hi, g17, g7, hS4⟩
 simp (disch := omega) only [↓RA, RB, simprocAttr, hn, g16, g17]
 refine aA (fun q1 => ?_) (fun q1 => ?_)
 ·simp (disch := omega) only [↓RA, RZ, simprocAttr, hn, g15, g17, (hS4.sl hgi.1).idx, (hS4.sl hgi.1).ldA, Drw.cells, q1]
  refine hS4.eNew 2 [I 0, I 0] rfl rfl rfl sJ fun A2 H4 hS5 => ?_
  simp only [RT] at hS5
  simp (disch := omega) only [↓RA, RZ, simprocAttr, hn, q1]
  refine hS5.eStore 2 rfl [I (aC g.draws i).rank, I (aC g.draws i).shift] rfl rfl sJ (by simp) fun H5 hS6 => ?_
  simp only [RT] at hS6
  simp (disch := omega) only [↓RA, RZ, simprocAttr, hn, g0, g2, hS6.ldA 2 rfl, q1]
  refine aB (b4n rv rks (hS6.sl hr) (fun r hr' => (hrk r hr').keep hS6) hl (aC g.draws i) key) ?_
  rintro r H6 ⟨rfl, hT2⟩
  have hS7 := hS6.trans hT2
  simp only [RT] at hS7
  have htk := dW g.draws i (by omega)
  have hfl : ((g.draws.take i).filter fun d => pM rks d key).length ≤ i := by
   refine Nat.le_trans (List.length_filter_le _ _) ?_
   simp
   omega
  simp (disch := omega) only [↓RA, RZ, simprocAttr, hn, q1]
  refine hS7.eNew 2 [I 0, I 0] rfl rfl rfl mV fun A3 H7 hS8 => ?_
  simp only [RT] at hS8
  simp (disch := omega) only [↓RA, RZ, simprocAttr, hn, q1]
  refine hS8.eStore 3 rfl [I (fX rks (aC g.draws i) key).1, I (fX rks (aC g.draws i) key).2] rfl rfl mV (by simp) fun H8 hS9 => ?_
  simp only [RT] at hS9
  simp (disch := omega) only [↓RA, RZ, simprocAttr, hn, q1]
  refine bU (fun q2 => ?_) (fun q2 => ?_)
  ·skip
   simp (disch := omega) only [↓RA, RZ, simprocAttr, hn, g7, hS9.ldA 3 rfl, q1, q2]
   refine hS9.eSlice [I (fX rks (aC g.draws i) key).1, I (fX rks (aC g.draws i) key).2] b1H c1x rfl rfl (by simp [Value.cells]) rfl rfl (by decide) (by decide) fun w1 H9 hS10 => ?_
   simp only [RT] at hS10
   simp (disch := omega) only [↓RA, RZ, simprocAttr, hn, q1, q2]
   refine hS10.eAppend 1 rfl (hS10.rd 4 rfl) b1H (by rw [aJ]; simp; omega) fun w2 H10 hS11 => ?_
   simp only [RT] at hS11
   simp (disch := omega) only [↓RA, RZ, simprocAttr, hn, g0, g2, g6, g15, g16, g17, q1, q2]
   refine ⟨n - 1, by omega, i + 1, w2, by omega, by simp, rfl, ?_⟩
   rw [htk, List.filter_append, List.map_append, bW]
   have e : ([aC g.draws i].filter fun d => pM rks d key) = [aC g.draws i] := by simp [q2]
   rw [e]
   exact hS11.pick [0, 1] (by decide) rfl
  simp (disch := omega) only [↓RA, RZ, simprocAttr, hn, g0, g2, g6, g15, g16, g17, g7, q1, q2]
  refine ⟨n - 1, by omega, i + 1, ov, by omega, by simp, rfl, ?_⟩
  rw [htk, List.filter_append, List.map_append, bW]
  have e : ([aC g.draws i].filter fun d => pM rks d key) = [] := by simp [q2]
  rw [e]
  simp only [pr, List.map_nil, List.flatMap_nil, List.append_nil]
  exact hS9.pick [0, 1] (by decide) rfl
 simp (disch := omega) only [↓RA, RZ, simprocAttr, hn, g7, q1]
 have hii : i = g.draws.length := by omega
 subst hii
 have hfl : ((g.draws.filter fun d => pM rks d key).map fun d => fX rks d key).length ≤ 8 := by
  rw [List.length_map]
  exact Nat.le_trans (List.length_filter_le _ _) hg8
 rw [List.take_length] at hS4
 have hM1 := hS4.pick (os' := [⟨ov, 2, _⟩]) [1] (by decide) rfl
 have hR1 := hS4.pick (os' := [⟨ov, 2, _⟩, ⟨ptr A1 0 4, 0, _⟩]) [1, 0] (by decide) rfl
 refine aB (a8T (es := (g.draws.filter fun d => pM rks d key).map fun d => fX rks d key) hM1.rebase (by omega)) ?_
 rintro r H11 ⟨rest, hb, hrd, hT3⟩
 have hS12 := hR1.frame hT3
 simp only [RT] at hS12
 have hrr := hrd _ (hS12.rd 0 rfl)
 have hrc := hrr.cells
 simp (disch := omega) only [↓RA, RZ, simprocAttr, hn, c3Z, q1]
 refine ⟨⟨⟨?_, cH, by decide⟩, fun b h => ?_⟩, hS12.forget⟩
 ·unfold iP
  rw [← hgd]
  exact hrr
 ·rcases hS12.new _ (List.mem_cons_self ..) b (hb b h) with h | h
  ·exact h
  ·exact h.elim
end Go.Ds
namespace Go.Ds
open Go.Proofs
variable {H : Heap}
set_option maxRecDepth 10000
set_option maxHeartbeats 1000000
abbrev KC (kvs : List (Ct × Bool)) : List Value := kcs (fun p : Int × Int => .agg #[I p.1, I p.2]) Value.bool kvs
def nY (kvs : List (Ct × Bool)) (c : Ct) : Bool := (vX kvs c).getD false
theorem a7W {B : Base} (o : Org) (r : Reg) (sv : Value) (c : Ct) (AO AR AS AQ M : Nat) (qv : Value) (q : List Ct) (kvs : List (Ct × Bool))
 (hS : St Tryz.prog B H [⟨.map (some M), 0, KC kvs⟩, ⟨ptr AQ 0 1, 0, [qv]⟩, ⟨qv, 2, pr q⟩])
 (hO : ∀ {H1 : Heap} {os : List Ob}, St Tryz.prog B H1 os → Var H1 AO 4 [.string o.name, o.rv, o.dv, o.cv] ∧ o.In H1 ∧ Var H1 AR 3 [sv, .int .u64 r.cpl, .int .u64 r.off] ∧ Var H1 AS 1 [.map (some M)])
 (hk : ∀ t, nY kvs t = true ↔ t ∈ q) (hq : Que o q) (ho : o.Fine) (hr : r.Ok) :
 Fn Tryz.prog 232 [.agg #[I c.1, I c.2], .bool true, ptr AO 0 4, ptr AR 0 3, ptr AS 0 1, ptr AQ 0 1] H fun rr H' => ∃ kvs' qv', rr = .tuple #[] ∧ (∀ t, nY kvs' t = true ↔ t ∈ stepF o r.cpl true c q) ∧
  St Tryz.prog B H' [⟨.map (some M), 0, KC kvs'⟩, ⟨ptr AQ 0 1, 0, [qv']⟩, ⟨qv', 2, pr (stepF o r.cpl true c q)⟩] := by
 have hcl := ho.clen
 refine Fn.of_sw Tryz.func232 rfl (by kernel_rfl) fun l hl => ?_
 have hn : l.length = 65 := by rw [hl]; rfl
 have g0 : get l 0 = (.agg #[I c.1, I c.2]) := by rw [hl]; rfl
 have g1 : get l 1 = (.bool true) := by rw [hl]; rfl
 have g2 : get l 2 = (ptr AO 0 4) := by rw [hl]; rfl
 have g3 : get l 3 = (ptr AR 0 3) := by rw [hl]; rfl
 have g4 : get l 4 = (ptr AS 0 1) := by rw [hl]; rfl
 have g5 : get l 5 = (ptr AQ 0 1) := by rw [hl]; rfl
 clear hl
 simp (disch := omega) only [↓RA, RB, simprocAttr, g0]
 refine hS.eNew 2 [I c.1, I c.2] rfl rfl rfl kP fun A1 H1 hS1 => ?_
 simp only [RT] at hS1
 simp (disch := omega) only [↓RA, RZ, simprocAttr, hn, g2, ((hO hS1).1).ld, ((hO hS1).2.1.2.2.2.2.1).len]
 refine Wp.loopS (fun n l H' => l.length = 65 ∧ get l 1 = (.bool true) ∧ get l 2 = (ptr AO 0 4) ∧ get l 3 = (ptr AR 0 3) ∧ get l 4 = (ptr AS 0 1) ∧ get l 5 = (ptr AQ 0 1) ∧ get l 6 = (ptr A1 0 2) ∧ get l 12 = o.cv ∧ get l 13 = I o.cpls.length ∧ ∃ (i : Nat) (kvs' : List (Ct × Bool)) (qv' : Value), (n + i = o.cpls.length ∧ ∀ t, nY kvs' t = true ↔ t ∈ stepN o r.cpl true c q i) ∧ get l 14 = I i ∧ St Tryz.prog B H' [⟨.map (some M), 0, KC kvs'⟩, ⟨ptr AQ 0 1, 0, [qv']⟩, ⟨qv', 2, pr (stepN o r.cpl true c q i)⟩, ⟨ptr A1 0 2, 0, [I c.1, I c.2]⟩]) o.cpls.length ?_ ?_
 ·simp (disch := omega) only [RB, RC, simprocAttr, hn, g1, g2, g3, g4, g5]
  exact ⟨0, kvs, qv, ⟨by omega, hk⟩, rfl, hS1⟩
 rintro n l H2 ⟨hn, g1, g2, g3, g4, g5, g6, g12, g13, i, kvs', qv', ⟨hi,hk'⟩, g14, hS2⟩
 simp (disch := omega) only [↓RA, RB, simprocAttr, hn, g13, g14]
 refine aA (fun q1 => ?_) (fun q1 => ?_)
 ·have hql : (stepN o r.cpl true c q i).length ≤ 1024 := (hq.stepN r.cpl true c i).len ho
  have e1 := a5R r.cpl i hr.2.2.1
  have e2 := a6A (r.cpl >>> i) (a0S i hr.2.2.1)
  have e3 := tb r.cpl i
  have hskip : oK r.cpl true c (aC o.cpls i) i = false → stepN o r.cpl true c q (i + 1) = stepN o r.cpl true c q i := fun h => by
   rw [dS, step1, if_neg (by rw [h]; simp)]
  have hkeep : gZ o ((aC o.cpls i).dst, nK (c.2 + (aC o.cpls i).shift)) = false ∨ ((aC o.cpls i).dst, nK (c.2 + (aC o.cpls i).shift)) ∈ stepN o r.cpl true c q i → stepN o r.cpl true c q (i + 1) = stepN o r.cpl true c q i := fun h => by
   rw [dS, step1, if_neg]
   simp only [to1, Bool.and_eq_true, Bool.not_eq_true']
   rintro ⟨⟨_, h2⟩, h3⟩
   rcases h with h | h
   ·rw [h] at h2; cases h2
   ·exact absurd h (of_decide_eq_false h3)
  simp (disch := omega) only [↓RA, RZ, simprocAttr, hn, g12, g14, ((hO hS2).2.1.2.2.2.2.1).idx, ((hO hS2).2.1.2.2.2.2.1).ldA, Cpl.cells, q1]
  refine hS2.eNew 5 [(.string ⟨#[]⟩), I 0, I 0, I 0, (.bool false)] rfl rfl rfl nP fun A2 H3 hS3 => ?_
  simp only [RT] at hS3
  simp (disch := omega) only [↓RA, RZ, simprocAttr, hn, q1]
  refine hS3.eStore 4 rfl [(.string (aC o.cpls i).name), I (aC o.cpls i).src, I (aC o.cpls i).dst, I (aC o.cpls i).shift, (.bool (aC o.cpls i).thr)] rfl rfl nP (by simp) fun H4 hS4 => ?_
  simp only [RT] at hS4
  simp (disch := omega) only [↓RA, RZ, simprocAttr, hn, g3, ((hO hS4).2.2.1).ld, q1, e1, e2]
  refine aL (fun b1 => ?_) (fun b1 => ?_)
  ·have hs := hskip (by unfold oK; rw [e3, decide_eq_false (by omega)]; rfl)
   simp (disch := omega) only [↓RA, RZ, simprocAttr, hn, g1, g2, g3, g4, g5, g6, g12, g13, g14, q1, b1]
   exact ⟨n - 1, by omega, i + 1, kvs', qv', ⟨by omega, by rw [hs]; exact hk'⟩, by simp, by rw [hs]; exact hS4.pick [0, 1, 2, 3] (by decide) rfl⟩
  have hb : r.cpl.testBit i = true := by rw [e3]; exact decide_eq_true (by omega)
  simp (disch := omega) only [↓RA, RZ, simprocAttr, hn, g6, hS4.ld 4 rfl, hS4.ld 3 rfl, q1, b1]
  refine aL (fun b2 => ?_) (fun b2 => ?_)
  ·have hs := hskip (by unfold oK; rw [decide_eq_false b2]; simp)
   simp (disch := omega) only [↓RA, RZ, simprocAttr, hn, g1, g2, g3, g4, g5, g6, g12, g13, g14, q1, b1, b2]
   exact ⟨n - 1, by omega, i + 1, kvs', qv', ⟨by omega, by rw [hs]; exact hk'⟩, by simp, by rw [hs]; exact hS4.pick [0, 1, 2, 3] (by decide) rfl⟩
  have hsrc := Classical.not_not.1 b2
  simp (disch := omega) only [↓RA, RZ, simprocAttr, hn, g1, hS4.ld 4 rfl, q1, b1, b2]
  refine bU (fun b4 => ?_) (fun b4 => ?_)
  ·have hs := hskip (by unfold oK; simp only [Bool.not_true, Bool.false_or, Bool.and_eq_false_iff]; exact .inr (by simpa using b4))
   simp (disch := omega) only [↓RA, RZ, simprocAttr, hn, g1, g2, g3, g4, g5, g6, g12, g13, g14, q1, b1, b2, b4]
   exact ⟨n - 1, by omega, i + 1, kvs', qv', ⟨by omega, by rw [hs]; exact hk'⟩, by simp, by rw [hs]; exact hS4.pick [0, 1, 2, 3] (by decide) rfl⟩
  have hgo : oK r.cpl true c (aC o.cpls i) i = true := by
   unfold oK
   rw [hb, decide_eq_true hsrc]
   simpa using b4
  simp (disch := omega) only [↓RA, RZ, simprocAttr, hn, g6, hS4.ld 4 rfl, hS4.ld 3 rfl, q1, b1, b2, b4]
  simp (disch := omega) only [↓RA, RZ, simprocAttr, lZ]
  refine hS4.eNew 2 [I 0, I 0] rfl rfl rfl kP fun A3 H5 hS5 => ?_
  simp only [RT] at hS5
  simp (disch := omega) only [↓RA, RZ, simprocAttr, hn, q1, b1, b2, b4]
  refine hS5.eStore 5 rfl [I (aC o.cpls i).dst, I (nK (c.2 + (aC o.cpls i).shift))] rfl rfl kP (by simp) fun H6 hS6 => ?_
  simp only [RT] at hS6
  simp (disch := omega) only [↓RA, RZ, simprocAttr, hn, g2, ((hO hS6).1).ldA, hS6.ldA 5 rfl, q1, b1, b2, b4]
  refine aB (oA o (hO hS6).2.1 ((aC o.cpls i).dst, nK (c.2 + (aC o.cpls i).shift))) ?_
  rintro r H7 ⟨rfl, hT1⟩
  have hS7 := hS6.trans hT1
  simp only [RT] at hS7
  simp (disch := omega) only [↓RA, RZ, simprocAttr, hn, q1, b1, b2, b4]
  refine cK (fun b5 => ?_) (fun b5 => ?_)
  ·have hok := (iZ o _).1 b5
   simp (disch := omega) only [↓RA, RZ, simprocAttr, hn, g4, ((hO hS7).2.2.2).ld, hS7.ldA 5 rfl, q1, b1, b2, b4, b5]
   refine hS7.eLook (k := ((aC o.cpls i).dst, nK (c.2 + (aC o.cpls i).shift))) 0 rfl a1U (fun _ => rfl) ?_
   simp (disch := omega) only [↓RA, RZ, simprocAttr, hn, q1, b1, b2, b4, b5]
   refine bU (fun b6 => ?_) (fun b6 => ?_)
   ·have hnot : ((aC o.cpls i).dst, nK (c.2 + (aC o.cpls i).shift)) ∉ stepN o r.cpl true c q i := fun h => by
     have h := (hk' _).2 h
     unfold nY at h
     first | (rw [Bool.not_eq_true'] at b6; exact Bool.false_ne_true (b6.symm.trans h)) | exact b6 h
    have hs : stepN o r.cpl true c q (i + 1) = stepN o r.cpl true c q i ++ [((aC o.cpls i).dst, nK (c.2 + (aC o.cpls i).shift))] := by
     rw [dS]
     unfold step1
     rw [if_pos (by simp only [to1, hgo, hok]; simp [hnot])]
     rfl
    simp (disch := omega) only [↓RA, RZ, simprocAttr, hn, g4, ((hO hS7).2.2.2).ld, hS7.ldA 5 rfl, q1, b1, b2, b4, b5, b6]
    refine hS7.eUpd (k := ((aC o.cpls i).dst, nK (c.2 + (aC o.cpls i).shift))) 0 rfl a1U fun H8 hS8 => ?_
    simp only [RT] at hS8
    simp (disch := omega) only [↓RA, RZ, simprocAttr, hn, g5, hS8.ld 1 rfl, hS8.ldA 5 rfl, q1, b1, b2, b4, b5, b6]
    refine hS8.eSlice [I (aC o.cpls i).dst, I (nK (c.2 + (aC o.cpls i).shift))] jR vR rfl rfl (by simp [Value.cells]) rfl rfl (by decide) (by decide) fun w1 H9 hS9 => ?_
    simp only [RT] at hS9
    simp (disch := omega) only [↓RA, RZ, simprocAttr, hn, q1, b1, b2, b4, b5, b6]
    refine hS9.eAppend 2 rfl (hS9.rd 6 rfl) jR (by rw [aJ]; simp; omega) fun w2 H10 hS10 => ?_
    simp only [RT] at hS10
    simp (disch := omega) only [↓RA, RZ, simprocAttr, hn, g5, q1, b1, b2, b4, b5, b6]
    refine hS10.eStore 1 rfl [w2] (by rw [(hS10.rd 2 rfl).cells.1]) (by simp [(hS10.rd 2 rfl).cells.2.1]) a6k (by simp) fun H11 hS11 => ?_
    simp only [RT] at hS11
    simp (disch := omega) only [↓RA, RZ, simprocAttr, hn, g1, g2, g3, g4, g5, g6, g12, g13, g14, q1, b1, b2, b4, b5, b6]
    refine ⟨n - 1, by omega, i + 1, a1i kvs' ((aC o.cpls i).dst, nK (c.2 + (aC o.cpls i).shift)) true, w2, ⟨by omega, fun t => ?_⟩, by simp, ?_⟩
    ·rw [hs, List.mem_append, List.mem_singleton, ← hk' t]
     unfold nY
     rw [vG]
     by_cases e : t = ((aC o.cpls i).dst, nK (c.2 + (aC o.cpls i).shift))
     ·simp [e]
     ·simp [e]
    ·rw [hs, bW]
     exact hS11.pick [0, 1, 2, 3] (by decide) rfl
   have hin : ((aC o.cpls i).dst, nK (c.2 + (aC o.cpls i).shift)) ∈ stepN o r.cpl true c q i := (hk' _).1 (by
    unfold nY
    simpa using b6)
   have hs := hkeep (.inr hin)
   simp (disch := omega) only [↓RA, RZ, simprocAttr, hn, g1, g2, g3, g4, g5, g6, g12, g13, g14, q1, b1, b2, b4, b5, b6]
   exact ⟨n - 1, by omega, i + 1, kvs', qv', ⟨by omega, by rw [hs]; exact hk'⟩, by simp, by rw [hs]; exact hS7.pick [0, 1, 2, 3] (by decide) rfl⟩
  have hs := hkeep (.inl (by rw [← Bool.not_eq_true]; exact fun h => b5 ((iZ o _).2 h)))
  simp (disch := omega) only [↓RA, RZ, simprocAttr, hn, g1, g2, g3, g4, g5, g6, g12, g13, g14, q1, b1, b2, b4, b5]
  exact ⟨n - 1, by omega, i + 1, kvs', qv', ⟨by omega, by rw [hs]; exact hk'⟩, by simp, by rw [hs]; exact hS7.pick [0, 1, 2, 3] (by decide) rfl⟩
 simp (disch := omega) only [↓RA, RZ, simprocAttr, b6b, q1]
 have hii : i = o.cpls.length := by omega
 subst hii
 exact ⟨kvs', qv', hk', hS2.pick [0, 1, 2] (by decide) rfl⟩
theorem a8B {B : Base} (o : Org) (r : Reg) (sv : Value) (c : Ct) (AO AR AS AQ M : Nat) (qv : Value) (q : List Ct) (kvs : List (Ct × Bool))
 (hS : St Tryz.prog B H [⟨.map (some M), 0, KC kvs⟩, ⟨ptr AQ 0 1, 0, [qv]⟩, ⟨qv, 2, pr q⟩])
 (hO : ∀ {H1 : Heap} {os : List Ob}, St Tryz.prog B H1 os → Var H1 AO 4 [.string o.name, o.rv, o.dv, o.cv] ∧ o.In H1 ∧ Var H1 AR 3 [sv, .int .u64 r.cpl, .int .u64 r.off] ∧ Var H1 AS 1 [.map (some M)])
 (hk : ∀ t, nY kvs t = true ↔ t ∈ q) (hq : Que o q) (ho : o.Fine) (hr : r.Ok) :
 Fn Tryz.prog 232 [.agg #[I c.1, I c.2], .bool false, ptr AO 0 4, ptr AR 0 3, ptr AS 0 1, ptr AQ 0 1] H fun rr H' => ∃ kvs' qv', rr = .tuple #[] ∧ (∀ t, nY kvs' t = true ↔ t ∈ stepF o r.cpl false c q) ∧
  St Tryz.prog B H' [⟨.map (some M), 0, KC kvs'⟩, ⟨ptr AQ 0 1, 0, [qv']⟩, ⟨qv', 2, pr (stepF o r.cpl false c q)⟩] := by
 have hcl := ho.clen
 refine Fn.of_sw Tryz.func232 rfl (by kernel_rfl) fun l hl => ?_
 have hn : l.length = 65 := by rw [hl]; rfl
 have g0 : get l 0 = (.agg #[I c.1, I c.2]) := by rw [hl]; rfl
 have g1 : get l 1 = (.bool false) := by rw [hl]; rfl
 have g2 : get l 2 = (ptr AO 0 4) := by rw [hl]; rfl
 have g3 : get l 3 = (ptr AR 0 3) := by rw [hl]; rfl
 have g4 : get l 4 = (ptr AS 0 1) := by rw [hl]; rfl
 have g5 : get l 5 = (ptr AQ 0 1) := by rw [hl]; rfl
 clear hl
 simp (disch := omega) only [↓RA, RB, simprocAttr, g0]
 refine hS.eNew 2 [I c.1, I c.2] rfl rfl rfl kP fun A1 H1 hS1 => ?_
 simp only [RT] at hS1
 simp (disch := omega) only [↓RA, RZ, simprocAttr, hn, g2, ((hO hS1).1).ld, ((hO hS1).2.1.2.2.2.2.1).len]
 refine Wp.loopS (fun n l H' => l.length = 65 ∧ get l 1 = (.bool false) ∧ get l 2 = (ptr AO 0 4) ∧ get l 3 = (ptr AR 0 3) ∧ get l 4 = (ptr AS 0 1) ∧ get l 5 = (ptr AQ 0 1) ∧ get l 6 = (ptr A1 0 2) ∧ get l 12 = o.cv ∧ get l 13 = I o.cpls.length ∧ ∃ (i : Nat) (kvs' : List (Ct × Bool)) (qv' : Value), (n + i = o.cpls.length ∧ ∀ t, nY kvs' t = true ↔ t ∈ stepN o r.cpl false c q i) ∧ get l 14 = I i ∧ St Tryz.prog B H' [⟨.map (some M), 0, KC kvs'⟩, ⟨ptr AQ 0 1, 0, [qv']⟩, ⟨qv', 2, pr (stepN o r.cpl false c q i)⟩, ⟨ptr A1 0 2, 0, [I c.1, I c.2]⟩]) o.cpls.length ?_ ?_
 ·simp (disch := omega) only [RB, RC, simprocAttr, hn, g1, g2, g3, g4, g5]
  exact ⟨0, kvs, qv, ⟨by omega, hk⟩, rfl, hS1⟩
 rintro n l H2 ⟨hn, g1, g2, g3, g4, g5, g6, g12, g13, i, kvs', qv', ⟨hi,hk'⟩, g14, hS2⟩
 simp (disch := omega) only [↓RA, RB, simprocAttr, hn, g13, g14]
 refine aA (fun q1 => ?_) (fun q1 => ?_)
 ·have hql : (stepN o r.cpl false c q i).length ≤ 1024 := (hq.stepN r.cpl false c i).len ho
  have e1 := a5R r.cpl i hr.2.2.1
  have e2 := a6A (r.cpl >>> i) (a0S i hr.2.2.1)
  have e3 := tb r.cpl i
  have hskip : oK r.cpl false c (aC o.cpls i) i = false → stepN o r.cpl false c q (i + 1) = stepN o r.cpl false c q i := fun h => by
   rw [dS, step1, if_neg (by rw [h]; simp)]
  have hkeep : gZ o ((aC o.cpls i).dst, nK (c.2 + (aC o.cpls i).shift)) = false ∨ ((aC o.cpls i).dst, nK (c.2 + (aC o.cpls i).shift)) ∈ stepN o r.cpl false c q i → stepN o r.cpl false c q (i + 1) = stepN o r.cpl false c q i := fun h => by
   rw [dS, step1, if_neg]
   simp only [to1, Bool.and_eq_true, Bool.not_eq_true']
   rintro ⟨⟨_, h2⟩, h3⟩
   rcases h with h | h
   ·rw [h] at h2; cases h2
   ·exact absurd h (of_decide_eq_false h3)
  simp (disch := omega) only [↓RA, RZ, simprocAttr, hn, g12, g14, ((hO hS2).2.1.2.2.2.2.1).idx, ((hO hS2).2.1.2.2.2.2.1).ldA, Cpl.cells, q1]
  refine hS2.eNew 5 [(.string ⟨#[]⟩), I 0, I 0, I 0, (.bool false)] rfl rfl rfl nP fun A2 H3 hS3 => ?_
  simp only [RT] at hS3
  simp (disch := omega) only [↓RA, RZ, simprocAttr, hn, q1]
  refine hS3.eStore 4 rfl [(.string (aC o.cpls i).name), I (aC o.cpls i).src, I (aC o.cpls i).dst, I (aC o.cpls i).shift, (.bool (aC o.cpls i).thr)] rfl rfl nP (by simp) fun H4 hS4 => ?_
  simp only [RT] at hS4
  simp (disch := omega) only [↓RA, RZ, simprocAttr, hn, g3, ((hO hS4).2.2.1).ld, q1, e1, e2]
  refine aL (fun b1 => ?_) (fun b1 => ?_)
  ·have hs := hskip (by unfold oK; rw [e3, decide_eq_false (by omega)]; rfl)
   simp (disch := omega) only [↓RA, RZ, simprocAttr, hn, g1, g2, g3, g4, g5, g6, g12, g13, g14, q1, b1]
   exact ⟨n - 1, by omega, i + 1, kvs', qv', ⟨by omega, by rw [hs]; exact hk'⟩, by simp, by rw [hs]; exact hS4.pick [0, 1, 2, 3] (by decide) rfl⟩
  have hb : r.cpl.testBit i = true := by rw [e3]; exact decide_eq_true (by omega)
  simp (disch := omega) only [↓RA, RZ, simprocAttr, hn, g6, hS4.ld 4 rfl, hS4.ld 3 rfl, q1, b1]
  refine aL (fun b2 => ?_) (fun b2 => ?_)
  ·have hs := hskip (by unfold oK; rw [decide_eq_false b2]; simp)
   simp (disch := omega) only [↓RA, RZ, simprocAttr, hn, g1, g2, g3, g4, g5, g6, g12, g13, g14, q1, b1, b2]
   exact ⟨n - 1, by omega, i + 1, kvs', qv', ⟨by omega, by rw [hs]; exact hk'⟩, by simp, by rw [hs]; exact hS4.pick [0, 1, 2, 3] (by decide) rfl⟩
  have hsrc := Classical.not_not.1 b2
  have hgo : oK r.cpl false c (aC o.cpls i) i = true := by
   unfold oK
   rw [hb, decide_eq_true hsrc]
   rfl
  simp (disch := omega) only [↓RA, RZ, simprocAttr, hn, g1, g6, hS4.ld 4 rfl, hS4.ld 3 rfl, q1, b1, b2]
  simp (disch := omega) only [↓RA, RZ, simprocAttr, lZ]
  refine hS4.eNew 2 [I 0, I 0] rfl rfl rfl kP fun A3 H5 hS5 => ?_
  simp only [RT] at hS5
  simp (disch := omega) only [↓RA, RZ, simprocAttr, hn, q1, b1, b2]
  refine hS5.eStore 5 rfl [I (aC o.cpls i).dst, I (nK (c.2 + (aC o.cpls i).shift))] rfl rfl kP (by simp) fun H6 hS6 => ?_
  simp only [RT] at hS6
  simp (disch := omega) only [↓RA, RZ, simprocAttr, hn, g2, ((hO hS6).1).ldA, hS6.ldA 5 rfl, q1, b1, b2]
  refine aB (oA o (hO hS6).2.1 ((aC o.cpls i).dst, nK (c.2 + (aC o.cpls i).shift))) ?_
  rintro r H7 ⟨rfl, hT1⟩
  have hS7 := hS6.trans hT1
  simp only [RT] at hS7
  simp (disch := omega) only [↓RA, RZ, simprocAttr, hn, q1, b1, b2]
  refine cK (fun b5 => ?_) (fun b5 => ?_)
  ·have hok := (iZ o _).1 b5
   simp (disch := omega) only [↓RA, RZ, simprocAttr, hn, g4, ((hO hS7).2.2.2).ld, hS7.ldA 5 rfl, q1, b1, b2, b5]
   refine hS7.eLook (k := ((aC o.cpls i).dst, nK (c.2 + (aC o.cpls i).shift))) 0 rfl a1U (fun _ => rfl) ?_
   simp (disch := omega) only [↓RA, RZ, simprocAttr, hn, q1, b1, b2, b5]
   refine bU (fun b6 => ?_) (fun b6 => ?_)
   ·have hnot : ((aC o.cpls i).dst, nK (c.2 + (aC o.cpls i).shift)) ∉ stepN o r.cpl false c q i := fun h => by
     have h := (hk' _).2 h
     unfold nY at h
     first | (rw [Bool.not_eq_true'] at b6; exact Bool.false_ne_true (b6.symm.trans h)) | exact b6 h
    have hs : stepN o r.cpl false c q (i + 1) = stepN o r.cpl false c q i ++ [((aC o.cpls i).dst, nK (c.2 + (aC o.cpls i).shift))] := by
     rw [dS]
     unfold step1
     rw [if_pos (by simp only [to1, hgo, hok]; simp [hnot])]
     rfl
    simp (disch := omega) only [↓RA, RZ, simprocAttr, hn, g4, ((hO hS7).2.2.2).ld, hS7.ldA 5 rfl, q1, b1, b2, b5, b6]
    refine hS7.eUpd (k := ((aC o.cpls i).dst, nK (c.2 + (aC o.cpls i).shift))) 0 rfl a1U fun H8 hS8 => ?_
    simp only [RT] at hS8
    simp (disch := omega) only [↓RA, RZ, simprocAttr, hn, g5, hS8.ld 1 rfl, hS8.ldA 5 rfl, q1, b1, b2, b5, b6]
    refine hS8.eSlice [I (aC o.cpls i).dst, I (nK (c.2 + (aC o.cpls i).shift))] jR vR rfl rfl (by simp [Value.cells]) rfl rfl (by decide) (by decide) fun w1 H9 hS9 => ?_
    simp only [RT] at hS9
    simp (disch := omega) only [↓RA, RZ, simprocAttr, hn, q1, b1, b2, b5, b6]
    refine hS9.eAppend 2 rfl (hS9.rd 6 rfl) jR (by rw [aJ]; simp; omega) fun w2 H10 hS10 => ?_
    simp only [RT] at hS10
    simp (disch := omega) only [↓RA, RZ, simprocAttr, hn, g5, q1, b1, b2, b5, b6]
    refine hS10.eStore 1 rfl [w2] (by rw [(hS10.rd 2 rfl).cells.1]) (by simp [(hS10.rd 2 rfl).cells.2.1]) a6k (by simp) fun H11 hS11 => ?_
    simp only [RT] at hS11
    simp (disch := omega) only [↓RA, RZ, simprocAttr, hn, g1, g2, g3, g4, g5, g6, g12, g13, g14, q1, b1, b2, b5, b6]
    refine ⟨n - 1, by omega, i + 1, a1i kvs' ((aC o.cpls i).dst, nK (c.2 + (aC o.cpls i).shift)) true, w2, ⟨by omega, fun t => ?_⟩, by simp, ?_⟩
    ·rw [hs, List.mem_append, List.mem_singleton, ← hk' t]
     unfold nY
     rw [vG]
     by_cases e : t = ((aC o.cpls i).dst, nK (c.2 + (aC o.cpls i).shift))
     ·simp [e]
     ·simp [e]
    ·rw [hs, bW]
     exact hS11.pick [0, 1, 2, 3] (by decide) rfl
   have hin : ((aC o.cpls i).dst, nK (c.2 + (aC o.cpls i).shift)) ∈ stepN o r.cpl false c q i := (hk' _).1 (by
    unfold nY
    simpa using b6)
   have hs := hkeep (.inr hin)
   simp (disch := omega) only [↓RA, RZ, simprocAttr, hn, g1, g2, g3, g4, g5, g6, g12, g13, g14, q1, b1, b2, b5, b6]
   exact ⟨n - 1, by omega, i + 1, kvs', qv', ⟨by omega, by rw [hs]; exact hk'⟩, by simp, by rw [hs]; exact hS7.pick [0, 1, 2, 3] (by decide) rfl⟩
  have hs := hkeep (.inl (by rw [← Bool.not_eq_true]; exact fun h => b5 ((iZ o _).2 h)))
  simp (disch := omega) only [↓RA, RZ, simprocAttr, hn, g1, g2, g3, g4, g5, g6, g12, g13, g14, q1, b1, b2, b5]
  exact ⟨n - 1, by omega, i + 1, kvs', qv', ⟨by omega, by rw [hs]; exact hk'⟩, by simp, by rw [hs]; exact hS7.pick [0, 1, 2, 3] (by decide) rfl⟩
 simp (disch := omega) only [↓RA, RZ, simprocAttr, b6b, q1]
 have hii : i = o.cpls.length := by omega
 subst hii
 exact ⟨kvs', qv', hk', hS2.pick [0, 1, 2] (by decide) rfl⟩
end Go.Ds
namespace Go.Ds
open Go.Proofs
variable {H : Heap}
set_option maxRecDepth 10000
set_option maxHeartbeats 1000000
theorem a3q (o : Org) (cp : Nat) (l : List Ct) (i : Nat) (h : i < l.length) : dX o cp (l.take (i + 1)) = stepF o cp false (aC l i) (dX o cp (l.take i)) := by
 unfold dX
 rw [dW l i h, List.foldl_append]
 rfl
theorem iY (o : Org) (cp : Nat) (l : List Ct) : Que o (dX o cp l) := by
 unfold dX
 have : ∀ (l : List Ct) (q : List Ct), Que o q → Que o (l.foldl (fun q c => stepF o cp false c q) q) := by
  intro l
  induction l with
  | nil => intro q h; exact h
  | cons c l ih => intro q h; exact ih _ (h.stepF cp false c)
 exact this l [] (Que.nil o)
theorem a5N : aY (.map none) = true := rfl
theorem sX (o : Org) (ho : o.In H) (hf : o.Fine) (r : Reg) (sv : Value) (hr : r.In H sv) (fv : Value) (first : List Ct) (hfi : Sl 2 cC H fv first) (hfl : first.length ≤ 1024) (hfo : ∀ c ∈ first, gZ o c = true) :
 Fn Tryz.prog 182 [.agg #[.string o.name, o.rv, o.dv, o.cv], .agg #[sv, .int .u64 r.cpl, .int .u64 r.off], fv] H fun rr H' => Slx 2 cC H' (fun B => H.length ≤ B) rr (eI o r first) ∧ St Tryz.prog H H' [] := by
 refine Fn.of_sw Tryz.func182 rfl (by kernel_rfl) fun l hl => ?_
 have hn : l.length = 56 := by rw [hl]; rfl
 have g0 : get l 0 = (.agg #[(.string o.name), o.rv, o.dv, o.cv]) := by rw [hl]; rfl
 have g1 : get l 1 = (.agg #[sv, (.int .u64 r.cpl), (.int .u64 r.off)]) := by rw [hl]; rfl
 have g2 : get l 2 = fv := by rw [hl]; rfl
 clear hl
 simp (disch := omega) only [↓RA, RB, simprocAttr, g0]
 refine (St.refl Tryz.prog H).eNew 4 [(.string o.name), o.rv, o.dv, o.cv] rfl rfl (by simp [OC, ((St.refl Tryz.prog H).sl ho.1).cells.2.1, ((St.refl Tryz.prog H).sl ho.2.2.1).cells.2.1, ((St.refl Tryz.prog H).sl ho.2.2.2.2.1).cells.2.1]) fW fun A1 H1 hS1 => ?_
 simp only [RT] at hS1
 simp (disch := omega) only [↓RA, RB, simprocAttr, g1]
 refine hS1.eNew 3 [sv, (.int .u64 r.cpl), (.int .u64 r.off)] rfl rfl (by simp [OC, (hS1.sl hr.1).cells.2.1]) kD fun A2 H2 hS2 => ?_
 simp only [RT] at hS2
 simp (disch := omega) only [↓RA, RB, simprocAttr]
 refine hS2.eMap a1U fun M1 H3 hS3 => ?_
 simp only [RT] at hS3
 simp (disch := omega) only [↓RA, RZ, simprocAttr, a5N]
 refine hS3.eNew 1 [(.map none)] rfl rfl rfl a9u fun A3 H4 hS4 => ?_
 simp only [RT] at hS4
 simp (disch := omega) only [↓RA, RB, simprocAttr, hn]
 refine hS4.eStore 3 rfl [(.map (some M1))] rfl rfl a9u (by simp) fun H5 hS5 => ?_
 simp only [RT] at hS5
 simp (disch := omega) only [↓RA, RZ, simprocAttr]
 refine hS5.eNew 1 [(.slice none 0 0)] rfl rfl rfl a6k fun A4 H6 hS6 => ?_
 simp only [RT] at hS6
 simp (disch := omega) only [↓RA, RZ, simprocAttr, hn, g2, (hS6.sl hfi).len]
 have hS7 := hS6.nil 1
 simp only [RT] at hS7
 have hS8 := hS7.nil 1
 simp only [RT] at hS8
 refine Wp.loopS (fun n l H' => l.length = 56 ∧ get l 4 = (ptr A2 0 3) ∧ get l 6 = (.slice none 0 0) ∧ get l 8 = (ptr A4 0 1) ∧ get l 10 = (.func (.func 232) #[] #[(ptr A1 0 4), (ptr A2 0 3), (ptr A3 0 1), (ptr A4 0 1)]) ∧ get l 16 = fv ∧ get l 17 = I first.length ∧ ∃ (i : Nat) (kvs : List (Ct × Bool)) (qv ov : Value), (n + i = first.length ∧ ∀ t, nY kvs t = true ↔ t ∈ dX o r.cpl (first.take i)) ∧ get l 18 = I i ∧ get l 9 = ov ∧ St Tryz.prog H H' [⟨ptr A1 0 4, 0, [(.string o.name), o.rv, o.dv, o.cv]⟩, ⟨ptr A2 0 3, 0, [sv, (.int .u64 r.cpl), (.int .u64 r.off)]⟩, ⟨.map (some M1), 0, KC kvs⟩, ⟨ptr A3 0 1, 0, [(.map (some M1))]⟩, ⟨ptr A4 0 1, 0, [qv]⟩, ⟨qv, 2, pr (dX o r.cpl (first.take i))⟩, ⟨ov, 2, pr ((first.take i).filter fun c => !r.off.testBit c.1.toNat)⟩]) first.length ?_ ?_
 ·simp (disch := omega) only [RB, RC, simprocAttr, hn]
  refine ⟨0, [], .slice none 0 0, .slice none 0 0, ⟨by omega, fun t => ?_⟩, rfl, rfl, hS8⟩
  simp [nY, vX, dX]
 rintro n l H7 ⟨hn, g4, g6, g8, kV, g16, g17, i, kvs, qv, ov, ⟨hi,hk⟩, g18, g9, hS9⟩
 simp (disch := omega) only [↓RA, RB, simprocAttr, hn, g17, g18]
 refine aA (fun q1 => ?_) (fun q1 => ?_)
 ·have hci := (mT o _).1 (hfo _ (aF (xs := first) (j := i) (by omega)))
  have hqu := iY o r.cpl (first.take i)
  have hqs := a3q o r.cpl first i (by omega)
  have hql := (iY o r.cpl (first.take (i + 1))).len hf
  simp (disch := omega) only [↓RA, RZ, simprocAttr, hn, g16, g18, (hS9.sl hfi).idx, (hS9.sl hfi).ldA, cC, q1]
  refine hS9.eNew 2 [I 0, I 0] rfl rfl rfl kP fun A5 H8 hS10 => ?_
  simp only [RT] at hS10
  simp (disch := omega) only [↓RA, RZ, simprocAttr, hn, q1]
  refine hS10.eStore 7 rfl [I (aC first i).1, I (aC first i).2] rfl rfl kP (by simp) fun H9 hS11 => ?_
  simp only [RT] at hS11
  simp (disch := omega) only [↓RA, RZ, simprocAttr, hn, kV, hS11.ldA 7 rfl, q1]
  have hM1 := hS11.pick (os' := [⟨.map (some M1), 0, _⟩, ⟨ptr A4 0 1, 0, _⟩, ⟨qv, 2, _⟩]) [2, 4, 5] (by decide) rfl
  have hR1 := hS11.pick (os' := [⟨.map (some M1), 0, _⟩, ⟨ptr A4 0 1, 0, _⟩, ⟨qv, 2, _⟩, ⟨ptr A1 0 4, 0, _⟩, ⟨ptr A2 0 3, 0, _⟩, ⟨ptr A3 0 1, 0, _⟩, ⟨ov, 2, _⟩, ⟨ptr A5 0 2, 0, _⟩]) [2, 4, 5, 0, 1, 3, 6, 7] (by decide) rfl
  refine aB (a8B o r sv (aC first i) A1 A2 A3 A4 M1 qv (dX o r.cpl (first.take i)) kvs hM1.rebase (fun h => ⟨(hR1.frame h.forget).var 0 rfl, ho.keep (hR1.frame h.forget), (hR1.frame h.forget).var 1 rfl, (hR1.frame h.forget).var 2 rfl⟩) hk hqu hf hr.2) ?_
  rintro r H10 ⟨kvs', qv', rfl, hk', hT1⟩
  have hS12 := hR1.frame hT1
  simp only [RT] at hS12
  have e1 := a5R r.off (aC first i).1.toNat hr.2.2.2.2
  have e2 := a6A (r.off >>> (aC first i).1.toNat) (a0S _ hr.2.2.2.2)
  have e3 := tb r.off (aC first i).1.toNat
  have htk := dW first i (by omega)
  have hfl : (pr ((first.take i).filter fun c => !r.off.testBit c.1.toNat)).length ≤ i * 2 := by
   rw [aJ]
   refine Nat.mul_le_mul_right 2 ?_
   refine Nat.le_trans (List.length_filter_le _ _) ?_
   simp
   omega
  rw [← hqs] at hk'
  simp (disch := omega) only [↓RA, RZ, simprocAttr, hn, g4, hS12.ld 4 rfl, hS12.ld 7 rfl, q1, e1, e2]
  refine aA (fun q2 => ?_) (fun q2 => ?_)
  ·have hx : ([aC first i].filter fun c => !r.off.testBit c.1.toNat) = [aC first i] := by simp [e3, decide_eq_false (show ¬ r.off >>> (aC first i).1.toNat % 2 = 1 by omega)]
   simp (disch := omega) only [↓RA, RZ, simprocAttr, hn, g9, hS12.ldA 7 rfl, q1, q2]
   refine hS12.eSlice [I (aC first i).1, I (aC first i).2] jR vR rfl rfl (by simp [Value.cells]) rfl rfl (by decide) (by decide) fun w1 H11 hS13 => ?_
   simp only [RT] at hS13
   simp (disch := omega) only [↓RA, RZ, simprocAttr, hn, q1, q2]
   refine hS13.eAppend 6 rfl (hS13.rd 8 rfl) jR (by first | (simp; done) | (simp; omega)) fun w2 H12 hS14 => ?_
   simp only [RT] at hS14
   simp (disch := omega) only [↓RA, RZ, simprocAttr, hn, g4, g6, g8, kV, g16, g17, g18, q1, q2]
   refine ⟨n - 1, by omega, i + 1, kvs', qv', w2, ⟨by omega, hk'⟩, by simp, rfl, ?_⟩
   rw [hqs, htk, List.filter_append, hx, bW]
   exact hS14.pick [3, 4, 0, 5, 1, 2, 6] (by decide) rfl
  have hx : ([aC first i].filter fun c => !r.off.testBit c.1.toNat) = [] := by simp [e3, decide_eq_true (show r.off >>> (aC first i).1.toNat % 2 = 1 by omega)]
  simp (disch := omega) only [↓RA, RZ, simprocAttr, hn, g4, g6, g8, kV, g16, g17, g18, g9, q1, q2]
  refine ⟨n - 1, by omega, i + 1, kvs', qv', ov, ⟨by omega, hk'⟩, by simp, rfl, ?_⟩
  rw [hqs, htk, List.filter_append, hx, List.append_nil]
  exact hS12.pick [3, 4, 0, 5, 1, 2, 6] (by decide) rfl
 simp (disch := omega) only [↓RA, RZ, simprocAttr, q1]
 have hii : i = first.length := by omega
 subst hii
 rw [List.take_length] at hk
 rw [List.take_length] at hS9
 have hqu := iY o r.cpl first
 have hoL : (pr (first.filter fun c => !r.off.testBit c.1.toNat)).length ≤ 2048 := by
  rw [aJ]
  exact Nat.mul_le_mul_right 2 (Nat.le_trans (List.length_filter_le _ _) hfl)
 refine Wp.loopS (fun n l H' => l.length = 56 ∧ get l 6 = (.slice none 0 0) ∧ get l 8 = (ptr A4 0 1) ∧ get l 9 = ov ∧ get l 10 = (.func (.func 232) #[] #[(ptr A1 0 4), (ptr A2 0 3), (ptr A3 0 1), (ptr A4 0 1)]) ∧ ∃ (j : Nat) (kvs : List (Ct × Bool)) (qv : Value) (q : List Ct), (n + j = 1100 ∧ bfs o r.cpl n j q = bfs o r.cpl 1100 0 (dX o r.cpl first) ∧ Que o q ∧ ∀ t, nY kvs t = true ↔ t ∈ q) ∧ get l 13 = I j ∧ St Tryz.prog H H' [⟨ptr A1 0 4, 0, [(.string o.name), o.rv, o.dv, o.cv]⟩, ⟨ptr A2 0 3, 0, [sv, (.int .u64 r.cpl), (.int .u64 r.off)]⟩, ⟨.map (some M1), 0, KC kvs⟩, ⟨ptr A3 0 1, 0, [(.map (some M1))]⟩, ⟨ptr A4 0 1, 0, [qv]⟩, ⟨qv, 2, pr q⟩, ⟨ov, 2, pr (first.filter fun c => !r.off.testBit c.1.toNat)⟩]) 1100 ?_ ?_
 ·simp (disch := omega) only [RB, RC, simprocAttr, hn, g6, g8, kV, g9]
  exact ⟨0, kvs, qv, _, ⟨rfl, rfl, hqu, hk⟩, rfl, hS9⟩
 rintro n l H13 ⟨hn, g6, g8, g9, kV, j, kvs, qv, q, ⟨hj,hbf,hqq,hkk⟩, g13, hS15⟩
 have hql := hqq.len hf
 simp (disch := omega) only [↓RA, RZ, simprocAttr, hn, g8, g13, hS15.ld 4 rfl, (hS15.slo 5 rfl (fun _ => rfl)).len]
 refine aA (fun q3 => ?_) (fun q3 => ?_)
 ·have hjl : j < q.length := by omega
  simp (disch := omega) only [↓RA, RZ, simprocAttr, hn, g8, kV, g13, hS15.ld 4 rfl, (hS15.slo 5 rfl (fun _ => rfl)).idx, (hS15.slo 5 rfl (fun _ => rfl)).ldA, cC, q3]
  have hM2 := hS15.pick (os' := [⟨.map (some M1), 0, _⟩, ⟨ptr A4 0 1, 0, _⟩, ⟨qv, 2, _⟩]) [2, 4, 5] (by decide) rfl
  have hR2 := hS15.pick (os' := [⟨.map (some M1), 0, _⟩, ⟨ptr A4 0 1, 0, _⟩, ⟨qv, 2, _⟩, ⟨ptr A1 0 4, 0, _⟩, ⟨ptr A2 0 3, 0, _⟩, ⟨ptr A3 0 1, 0, _⟩, ⟨ov, 2, _⟩]) [2, 4, 5, 0, 1, 3, 6] (by decide) rfl
  refine aB (a7W o r sv (aC q j) A1 A2 A3 A4 M1 qv q kvs hM2.rebase (fun h => ⟨(hR2.frame h.forget).var 0 rfl, ho.keep (hR2.frame h.forget), (hR2.frame h.forget).var 1 rfl, (hR2.frame h.forget).var 2 rfl⟩) hkk hqq hf hr.2) ?_
  rintro r H14 ⟨kvs', qv', rfl, hk', hT2⟩
  have hS16 := hR2.frame hT2
  simp only [RT] at hS16
  simp (disch := omega) only [↓RA, RZ, simprocAttr, hn, g6, g8, g9, kV, g13, q3]
  obtain ⟨n', rfl⟩ : ∃ n', n = n' + 1 := ⟨n - 1, by omega⟩
  rw [bfs, if_pos hjl] at hbf
  exact ⟨n', by omega, j + 1, kvs', qv', _, ⟨by omega, hbf, hqq.stepF _ _ _, hk'⟩, by simp, hS16.pick [3, 4, 0, 5, 1, 2, 6] (by decide) rfl⟩
 have hbq : bfs o r.cpl 1100 0 (dX o r.cpl first) = q := by
  rw [← hbf]
  cases n with
  | zero => rfl
  | succ n => rw [bfs, if_neg (by omega)]
 have hqp : (pr q).length ≤ 2048 := by rw [aJ]; omega
 simp (disch := omega) only [↓RA, RZ, simprocAttr, hn, g8, g9, hS15.ld 4 rfl, q3]
 refine hS15.eAppend 6 rfl (hS15.rd 5 rfl) jR (by first | (simp; done) | (simp; omega)) fun w3 H15 hS17 => ?_
 simp only [RT] at hS17
 simp (disch := omega) only [↓RA, RZ, simprocAttr, hn, q3]
 rw [← bW, ← hbq] at hS17
 have hLL : ((first.filter fun c => !r.off.testBit c.1.toNat) ++ bfs o r.cpl 1100 0 (dX o r.cpl first)).length < 1000000 := by
  have h1 := List.length_filter_le (fun c : Ct => !r.off.testBit c.1.toNat) first
  rw [List.length_append, hbq]
  omega
 refine c1a hS17 6 rfl (Nat.lt_trans hLL (by decide)) fun HS hSS => ?_
 simp only [List.set_cons_succ, List.set_cons_zero] at hSS
 simp (disch := omega) only [↓RA, RZ, simprocAttr, hn, q3]
 have hM3 := hSS.pick (os' := [⟨w3, 2, _⟩]) [6] (by decide) rfl
 have hR3 := hSS.pick (os' := [⟨w3, 2, _⟩, ⟨ptr A1 0 4, 0, _⟩, ⟨ptr A2 0 3, 0, _⟩, ⟨.map (some M1), 0, _⟩, ⟨ptr A3 0 1, 0, _⟩, ⟨ptr A4 0 1, 0, _⟩, ⟨qv, 2, _⟩]) [6, 0, 1, 2, 3, 4, 5] (by decide) rfl
 refine aB (a2D hM3.rebase (by rw [eK]; exact Nat.lt_trans hLL (by decide))) ?_
 rintro r H16 ⟨rest, hb, hrd, hT3⟩
 have hS18 := hR3.frame hT3
 simp only [RT] at hS18
 have hrr := hrd _ (hS18.rd 0 rfl)
 have hrc := hrr.cells
 simp (disch := omega) only [↓RA, RZ, simprocAttr, hn, c0C, q3]
 refine ⟨⟨⟨hrr, cH, by decide⟩, fun b h => ?_⟩, hS18.forget⟩
 rcases hS18.new _ (List.mem_cons_self ..) b (hb b h) with h | h
 ·exact h
 ·exact h.elim
end Go.Ds
namespace Go.Ds
open Go.Proofs
variable {H : Heap}
set_option maxRecDepth 10000
set_option maxHeartbeats 1000000
theorem a5V {α : Type} [Inhabited α] [DecidableEq α] (l : List α) : (dd l).length ≤ l.length := b7h l l.length
theorem yW (rs : List Rk) (s : Stp) (key : Int) (h : ∀ g ∈ s.segs, g.draws.length ≤ 8) : (iP rs s key).length ≤ 8 := by
 unfold iP
 refine Nat.le_trans (a5V _) ?_
 rw [eK, List.length_map]
 refine Nat.le_trans (List.length_filter_le _ _) ?_
 unfold a5l
 split
 ·simp
 ·exact h _ (aF (a1f (p := a4t s key) (n := s.segs.length) (by omega)))
def fJ (o : Org) (rg : Reg) (c : Ct) (k : Nat) : List Ct := (List.range k).flatMap fun i => if (aC rg.stops c.1.toNat).testBit i then iP o.ranks (aC (aC o.dvs c.1.toNat).stops i) c.2 else []
theorem sR (o : Org) (rg : Reg) (c : Ct) (k : Nat) : fJ o rg c (k + 1) = fJ o rg c k ++ (if (aC rg.stops c.1.toNat).testBit k then iP o.ranks (aC (aC o.dvs c.1.toNat).stops k) c.2 else []) := by
 unfold fJ
 rw [List.range_succ, List.flatMap_append, List.flatMap_cons, List.flatMap_nil, List.append_nil]
theorem rG {o : Org} (hf : o.Fine) (rg : Reg) {c : Ct} (hc : gZ o c = true) : ∀ k, k ≤ (aC o.dvs c.1.toNat).stops.length → (fJ o rg c k).length ≤ k * 8
 | 0, _ => by simp [fJ]
 | k + 1, hk => by
   have h := rG hf rg hc k (by omega)
   have hc := (mT o c).1 hc
   rw [sR, List.length_append]
   split
   ·have := yW o.ranks (aC (aC o.dvs c.1.toNat).stops k) c.2 (hf.draws c.1.toNat (by omega) _ (aF (by omega)))
    omega
   ·simp
    omega
theorem a8b {o : Org} (hf : o.Fine) (rg : Reg) {c : Ct} (hc : gZ o c = true) : (fQ o rg c).length ≤ 480 := by
 have h := rG hf rg hc _ (Nat.le_refl _)
 have h1 := (mT o c).1 hc
 have := hf.stops c.1.toNat (by omega)
 have e : fQ o rg c = fJ o rg c (aC o.dvs c.1.toNat).stops.length := rfl
 rw [e]
 omega
theorem jU {o : Org} (hf : o.Fine) (rg : Reg) : ∀ (l : List Ct), (∀ c ∈ l, gZ o c = true) → (l.flatMap (fQ o rg)).length ≤ l.length * 480
 | [], _ => by simp
 | c :: l, h => by
   rw [List.flatMap_cons, List.length_append, List.length_cons]
   have h1 := jU hf rg l fun x hx => h x (by simp [hx])
   have h2 := a8b hf rg (h c (by simp))
   omega
theorem a9x (o : Org) (ho : o.In H) (hf : o.Fine) (rg : Reg) (sv : Value) (hr : rg.In H sv) (hrl : rg.stops.length = o.dvs.length) (fv : Value) (cs : List Ct) (hfi : Sl 2 cC H fv cs) (hfl : cs.length ≤ 2048) (hfo : ∀ c ∈ cs, gZ o c = true) :
 Fn Tryz.prog 181 [.agg #[.string o.name, o.rv, o.dv, o.cv], .agg #[sv, .int .u64 rg.cpl, .int .u64 rg.off], fv] H fun rr H' => Slx 2 cC H' (fun B => H.length ≤ B) rr (rF o rg cs) ∧ St Tryz.prog H H' [] := by
 refine Fn.of_sw Tryz.func181 rfl (by kernel_rfl) fun l hl => ?_
 have hn : l.length = 55 := by rw [hl]; rfl
 have g0 : get l 0 = (.agg #[(.string o.name), o.rv, o.dv, o.cv]) := by rw [hl]; rfl
 have g1 : get l 1 = (.agg #[sv, (.int .u64 rg.cpl), (.int .u64 rg.off)]) := by rw [hl]; rfl
 have g2 : get l 2 = fv := by rw [hl]; rfl
 clear hl
 simp (disch := omega) only [↓RA, RB, simprocAttr, g0]
 refine (St.refl Tryz.prog H).eNew 4 [(.string o.name), o.rv, o.dv, o.cv] rfl rfl (by simp [OC, ((St.refl Tryz.prog H).sl ho.1).cells.2.1, ((St.refl Tryz.prog H).sl ho.2.2.1).cells.2.1, ((St.refl Tryz.prog H).sl ho.2.2.2.2.1).cells.2.1]) fW fun A1 H1 hS1 => ?_
 simp only [RT] at hS1
 simp (disch := omega) only [↓RA, RB, simprocAttr, g1]
 refine hS1.eNew 3 [sv, (.int .u64 rg.cpl), (.int .u64 rg.off)] rfl rfl (by simp [OC, (hS1.sl hr.1).cells.2.1]) kD fun A2 H2 hS2 => ?_
 simp only [RT] at hS2
 simp (disch := omega) only [↓RA, RZ, simprocAttr, hn, g2, (hS2.sl hfi).len]
 have hS3 := hS2.nil 1
 simp only [RT] at hS3
 refine Wp.loopS (fun n l H' => l.length = 55 ∧ get l 3 = (ptr A1 0 4) ∧ get l 4 = (ptr A2 0 3) ∧ get l 6 = (.slice none 0 0) ∧ get l 12 = fv ∧ get l 13 = I cs.length ∧ ∃ (i : Nat) (ov : Value), (n + i = cs.length) ∧ get l 14 = I i ∧ get l 7 = ov ∧ St Tryz.prog H H' [⟨ptr A1 0 4, 0, [(.string o.name), o.rv, o.dv, o.cv]⟩, ⟨ptr A2 0 3, 0, [sv, (.int .u64 rg.cpl), (.int .u64 rg.off)]⟩, ⟨ov, 2, pr ((cs.take i).flatMap (fQ o rg))⟩]) cs.length ?_ ?_
 ·simp (disch := omega) only [RB, RC, simprocAttr, hn]
  exact ⟨0, .slice none 0 0, by omega, rfl, rfl, hS3⟩
 rintro n l H3 ⟨hn, g3, g4, g6, g12, g13, i, ov, hi, g14, g7, hS4⟩
 simp (disch := omega) only [↓RA, RB, simprocAttr, hn, g13, g14]
 refine aA (fun q1 => ?_) (fun q1 => ?_)
 ·have hci := (mT o _).1 (hfo _ (aF (xs := cs) (j := i) (by omega)))
  obtain ⟨a, ha⟩ : ∃ a : Nat, (aC cs i).1 = a := ⟨(aC cs i).1.toNat, by omega⟩
  have ha1 : a < o.dvs.length := by omega
  have hst := (ho.2.2.2.1 _ (aF ha1)).2.2
  have hs60 := hf.stops a ha1
  simp (disch := omega) only [↓RA, RZ, simprocAttr, hn, g12, g14, (hS4.sl hfi).idx, (hS4.sl hfi).ldA, cC, q1]
  refine hS4.eNew 2 [I 0, I 0] rfl rfl rfl kP fun A3 H4 hS5 => ?_
  simp only [RT] at hS5
  simp (disch := omega) only [↓RA, RZ, simprocAttr, hn, q1]
  refine hS5.eStore 3 rfl [I (aC cs i).1, I (aC cs i).2] rfl rfl kP (by simp) fun H5 hS6 => ?_
  simp only [RT] at hS6
  simp (disch := omega) only [↓RA, RZ, simprocAttr, hn, g3, q1]
  simp only [ha] at hS6
  simp (disch := omega) only [↓RA, RZ, simprocAttr, hn, hS6.ld 0 rfl, hS6.ld 3 rfl, (hS6.sl ho.2.2.1).idx, (hS6.sl ho.2.2.1).fld, (hS6.sl ho.2.2.1).ld, Dvn.cells, (hS6.sl (ho.2.2.2.1 (aC o.dvs a) (aF (by omega))).1).len, q1, ha]
  have hta : (aC cs i).1.toNat = a := by omega
  have htk := dW cs i (by omega)
  have hsx := hr.2.2.1 _ (aF (xs := rg.stops) (j := a) (by omega))
  have hacc : (pr ((cs.take i).flatMap (fQ o rg))).length ≤ 2048 * 960 := by
   rw [aJ]
   have := jU hf rg (cs.take i) fun c hc => hfo c (List.mem_of_mem_take hc)
   rw [List.length_take] at this
   omega
  refine Wp.loopS (fun n l H' => l.length = 55 ∧ get l 3 = (ptr A1 0 4) ∧ get l 4 = (ptr A2 0 3) ∧ get l 6 = (.slice none 0 0) ∧ get l 9 = (ptr A3 0 2) ∧ get l 12 = fv ∧ get l 13 = I cs.length ∧ get l 14 = I i ∧ get l 24 = (aC o.dvs a).sv ∧ get l 25 = I (aC o.dvs a).stops.length ∧ ∃ (k : Nat) (ow : Value), (n + k = (aC o.dvs a).stops.length) ∧ get l 26 = I k ∧ get l 7 = ow ∧ St Tryz.prog H H' [⟨ptr A1 0 4, 0, [(.string o.name), o.rv, o.dv, o.cv]⟩, ⟨ptr A2 0 3, 0, [sv, (.int .u64 rg.cpl), (.int .u64 rg.off)]⟩, ⟨ow, 2, pr ((cs.take i).flatMap (fQ o rg) ++ fJ o rg (aC cs i) k)⟩, ⟨ptr A3 0 2, 0, [I a, I (aC cs i).2]⟩]) (aC o.dvs a).stops.length ?_ ?_
  ·simp (disch := omega) only [RB, RC, simprocAttr, hn, g3, g4, g6, g12, g13, g14, g7]
   refine ⟨0, ov, by omega, rfl, rfl, ?_⟩
   rw [show fJ o rg (aC cs i) 0 = [] from rfl, List.append_nil]
   exact hS6
  rintro n l H6 ⟨hn, g3, g4, g6, g9, g12, g13, g14, g24, g25, k, ow, hj, g26, g7, hS7⟩
  simp (disch := omega) only [↓RA, RB, simprocAttr, hn, g25, g26]
  refine aA (fun q2 => ?_) (fun q2 => ?_)
  ·have e1 := a5R (aC rg.stops a) k hsx
   have e2 := a6A (aC rg.stops a >>> k) (a0S k hsx)
   have e3 := tb (aC rg.stops a) k
   have hsu := sR o rg (aC cs i) k
   rw [hta] at hsu
   have hKl := rG hf rg (hfo _ (aF (xs := cs) (j := i) (by omega))) k (by rw [hta]; omega)
   have hKp : (pr (fJ o rg (aC cs i) k)).length ≤ 2000 := by rw [aJ]; omega
   simp (disch := omega) only [↓RA, RZ, simprocAttr, hn, g24, g26, (hS7.sl (ho.2.2.2.1 (aC o.dvs a) (aF (by omega))).1).idx, (hS7.sl (ho.2.2.2.1 (aC o.dvs a) (aF (by omega))).1).ldA, Stp.cells, q2]
   refine hS7.eNew 4 [(.string ⟨#[]⟩), I 0, I 0, (.slice none 0 0)] rfl rfl rfl lN fun A4 H7 hS8 => ?_
   simp only [RT] at hS8
   simp (disch := omega) only [↓RA, RZ, simprocAttr, hn, q2]
   refine hS8.eStore 4 rfl [(.string (aC (aC o.dvs a).stops k).name), I (aC (aC o.dvs a).stops k).num, I (aC (aC o.dvs a).stops k).den, (aC (aC o.dvs a).stops k).gv] rfl (by simp [OC, (hS8.sl ((ho.2.2.2.1 (aC o.dvs a) (aF (by omega))).2.1 (aC (aC o.dvs a).stops k) (aF (by omega))).1).cells.2.1]) lN (by simp) fun H8 hS9 => ?_
   simp only [RT] at hS9
   simp (disch := omega) only [↓RA, RZ, simprocAttr, hn, g4, g9, hS9.ld 1 rfl, hS9.ld 3 rfl, (hS9.sl hr.1).idx, (hS9.sl hr.1).ld, one, u64, q2, e1, e2]
   refine aA (fun q3 => ?_) (fun q3 => ?_)
   ·have hsu : fJ o rg (aC cs i) (k + 1) = fJ o rg (aC cs i) k ++ iP o.ranks (aC (aC o.dvs a).stops k) (aC cs i).2 := by rw [hsu, e3, if_pos (decide_eq_true (by omega))]
    have hpp : (pr (iP o.ranks (aC (aC o.dvs a).stops k) (aC cs i).2)).length ≤ 16 := by
     rw [aJ]
     exact Nat.mul_le_mul_right 2 (yW _ _ _ (hf.draws a ha1 _ (aF (by omega))))
    simp (disch := omega) only [↓RA, RZ, simprocAttr, hn, g3, g9, g7, hS9.ld 0 rfl, hS9.ldA 4 rfl, hS9.ld 3 rfl, q2, q3]
    refine aB (b0J o.rv o.ranks (hS9.sl ho.1) (fun q hq => (ho.2.1 q hq).keep hS9) ho.2.2.2.2.2.1 (aC (aC o.dvs a).stops k) (((ho.2.2.2.1 _ (aF ha1)).2.1 _ (aF (by omega))).keep hS9) (hf.draws a ha1 _ (aF (by omega))) (aC cs i).2) ?_
    rintro r H9 ⟨hx, hT1⟩
    have hS10 := hS9.trans hT1
    simp only [RT] at hS10
    simp (disch := omega) only [↓RA, RZ, simprocAttr, hn, q2, q3]
    refine hS10.eAppend 2 rfl hx.1.rd b1H (by have h := hpp; unfold pr at h; rw [bW, List.length_append]; omega) fun w1 H10 hS11 => ?_
    simp only [RT] at hS11
    simp (disch := omega) only [↓RA, RZ, simprocAttr, hn, g3, g4, g6, g9, g12, g13, g14, g24, g25, g26, q2, q3]
    refine ⟨n - 1, by omega, k + 1, w1, by omega, by simp, rfl, ?_⟩
    rw [hsu, ← List.append_assoc, bW]
    exact hS11.pick [0, 1, 2, 3] (by decide) rfl
   have hsu : fJ o rg (aC cs i) (k + 1) = fJ o rg (aC cs i) k := by rw [hsu, e3, if_neg (by rw [decide_eq_true_iff]; omega), List.append_nil]
   simp (disch := omega) only [↓RA, RZ, simprocAttr, hn, g3, g4, g6, g9, g12, g13, g14, g24, g25, g26, g7, q2, q3]
   refine ⟨n - 1, by omega, k + 1, ow, by omega, by simp, rfl, ?_⟩
   rw [hsu]
   exact hS9.pick [0, 1, 2, 3] (by decide) rfl
  simp (disch := omega) only [↓RA, RZ, simprocAttr, hn, g3, g4, g6, g12, g13, g14, g7, q2]
  refine ⟨cs.length - (i + 1), by omega, i + 1, ow, by omega, by simp, rfl, ?_⟩
  have hkk : k = (aC o.dvs a).stops.length := by omega
  rw [htk, List.flatMap_append, List.flatMap_cons, List.flatMap_nil, List.append_nil]
  have e : fQ o rg (aC cs i) = fJ o rg (aC cs i) k := by rw [hkk, ← hta]; rfl
  rw [e]
  exact hS7.pick [0, 1, 2] (by decide) rfl
 simp (disch := omega) only [↓RA, RZ, simprocAttr, hn, g7, q1]
 have hii : i = cs.length := by omega
 subst hii
 rw [List.take_length] at hS4
 have hLL : (cs.flatMap (fQ o rg)).length < 1000000 := by
  have := jU hf rg cs hfo
  omega
 refine c0H hS4 2 rfl (Nat.lt_trans hLL (by decide)) fun HS hSS => ?_
 simp only [List.set_cons_succ, List.set_cons_zero] at hSS
 simp (disch := omega) only [↓RA, RZ, simprocAttr, hn, g7, q1]
 have hM1 := hSS.pick (os' := [⟨ov, 2, _⟩]) [2] (by decide) rfl
 have hR1 := hSS.pick (os' := [⟨ov, 2, _⟩, ⟨ptr A1 0 4, 0, _⟩, ⟨ptr A2 0 3, 0, _⟩]) [2, 0, 1] (by decide) rfl
 refine aB (lR hM1.rebase (by rw [eK]; exact Nat.lt_trans hLL (by decide))) ?_
 rintro r H11 ⟨rest, hb, hrd, hT2⟩
 have hS12 := hR1.frame hT2
 simp only [RT] at hS12
 have hrr := hrd _ (hS12.rd 0 rfl)
 have hrc := hrr.cells
 simp (disch := omega) only [↓RA, RZ, simprocAttr, hn, c0I, q1]
 refine ⟨⟨⟨hrr, cH, by decide⟩, fun b h => ?_⟩, hS12.forget⟩
 rcases hS12.new _ (List.mem_cons_self ..) b (hb b h) with h | h
 ·exact h
 ·exact h.elim
end Go.Ds
namespace Go.Ds
open Go.Proofs
variable {H : Heap}
set_option maxRecDepth 10000
theorem Sl.noTup {α : Type} {n : Nat} {cel : α → List Value} {v : Value} {xs : List α} (h : Sl n cel H v xs) : bP v = true := by
 rcases h.rd with ⟨rfl, _⟩ | ⟨A, i, e, row, ty, rw, lo, ver, n, _, _, _, _, _, _, rfl⟩ <;> rfl
theorem b8G {α : Type} [Inhabited α] [DecidableEq α] {l : List α} {x : α} (h : x ∈ dd l) : x ∈ l := by
 unfold dd pC at h
 obtain ⟨i, hi, rfl⟩ := List.mem_map.1 h
 exact aF (List.mem_range.1 (List.mem_filter.1 hi).1)
theorem b3e {l : List (Int × Int)} {x : Int × Int} : x ∈ mN l ↔ x ∈ l := (gA l).mem_iff
theorem Que.bfs {o : Org} (cp : Nat) : ∀ (n i : Nat) {q : List Ct}, Que o q → Que o (bfs o cp n i q)
 | 0, _, _, h => h
 | n + 1, i, q, h => by
   rw [Go.Ds.bfs]
   split
   ·exact Que.bfs cp n (i + 1) (h.stepF cp true _)
   ·exact h
theorem oY {o : Org} {rg : Reg} {l : List Ct} (hl : ∀ c ∈ l, gZ o c = true) : ∀ c ∈ eI o rg l, gZ o c = true := by
 intro c hc
 unfold eI at hc
 have hc := b3e.1 (b8G hc)
 rcases List.mem_append.1 hc with h | h
 ·exact hl c (List.mem_filter.1 h).1
 ·exact ((iY o rg.cpl l).bfs rg.cpl 1100 0).2 c h
theorem oT {o : Org} (hf : o.Fine) {rg : Reg} {l : List Ct} (hl : l.length ≤ 1024) : (eI o rg l).length ≤ 2048 := by
 unfold eI
 refine Nat.le_trans (a5V _) ?_
 rw [eK, List.length_append]
 have h1 := List.length_filter_le (fun c : Ct => !rg.off.testBit c.1.toNat) l
 have h2 := ((iY o rg.cpl l).bfs rg.cpl 1100 0).len hf
 omega
theorem sT (o : Org) (ho : o.In H) (hf : o.Fine) (rg : Reg) (sv : Value) (hr : rg.In H sv) (hrl : rg.stops.length = o.dvs.length) (fv : Value) (cs : List Ct) (hfi : Sl 2 cC H fv cs) (hfl : cs.length ≤ 1024) (hfo : ∀ c ∈ cs, gZ o c = true) :
 Fn Tryz.prog 121 [.agg #[.string o.name, o.rv, o.dv, o.cv], .agg #[sv, .int .u64 rg.cpl, .int .u64 rg.off], fv] H fun rr H' => Slx 2 cC H' (fun B => H.length ≤ B) rr (dT o rg cs) ∧ St Tryz.prog H H' [] := by
 refine Fn.of_sw Tryz.func121 rfl (by kernel_rfl) fun l hl => ?_
 have hn : l.length = 14 := by rw [hl]; rfl
 have g0 : get l 0 = (.agg #[(.string o.name), o.rv, o.dv, o.cv]) := by rw [hl]; rfl
 have g1 : get l 1 = (.agg #[sv, (.int .u64 rg.cpl), (.int .u64 rg.off)]) := by rw [hl]; rfl
 have g2 : get l 2 = fv := by rw [hl]; rfl
 clear hl
 simp (disch := omega) only [↓RA, RB, simprocAttr, g0]
 refine (St.refl Tryz.prog H).eNew 4 [(.string o.name), o.rv, o.dv, o.cv] rfl rfl (by simp [OC, ((St.refl Tryz.prog H).sl ho.1).cells.2.1, ((St.refl Tryz.prog H).sl ho.2.2.1).cells.2.1, ((St.refl Tryz.prog H).sl ho.2.2.2.2.1).cells.2.1]) fW fun A1 H1 hS1 => ?_
 simp only [RT] at hS1
 simp (disch := omega) only [↓RA, RB, simprocAttr, g1]
 refine hS1.eNew 3 [sv, (.int .u64 rg.cpl), (.int .u64 rg.off)] rfl rfl (by simp [OC, (hS1.sl hr.1).cells.2.1]) kD fun A2 H2 hS2 => ?_
 simp only [RT] at hS2
 simp (disch := omega) only [↓RA, RB, simprocAttr]
 refine Wp.drwT cD [(0, 6), (1, 6)] (by kernel_rfl) (by kernel_rfl) ?_
 simp (disch := omega) only [↓RA, RZ, simprocAttr, hn, g2, hS2.ldA 0 rfl, hS2.ldA 1 rfl]
 refine aB (sX o (ho.keep hS2) hf rg sv (hr.keep hS2) fv cs (hS2.sl hfi) hfl hfo) ?_
 rintro r H3 ⟨hx, hT1⟩
 have hS3 := hS2.trans hT1
 simp only [RT] at hS3
 simp (disch := omega) only [↓RA, RZ, simprocAttr, hn]
 have hSd := hS3
 refine aB (a9x o (ho.keep hS3) hf rg sv (hr.keep hS3) hrl r (eI o rg cs) hx.1 (oT hf hfl) (oY hfo)) ?_
 rintro r2 H9 ⟨hx2, hT9⟩
 have hS9 := hSd.trans hT9
 simp only [RT] at hS9
 have hc2 := hx2.1.cells
 simp (disch := omega) only [↓RA, RZ, simprocAttr, hn, hS3.ldA 0 rfl, hS3.ldA 1 rfl, c0S]
 refine ⟨⟨hx2.1, fun b h => ?_⟩, hS9.forget⟩
 have := hx2.2 b h
 have : H.length ≤ _ := hSd.len
 omega
def rgc (p : Value × Reg) : List Value := [p.1, .int .u64 p.2.cpl, .int .u64 p.2.off]
def jI (o : Org) (l : List (Value × Reg)) : Int := if organE o ≠ 0 then organE o else dB (fun j => gX o (aC l j).2) l.length
theorem zR (o : Org) (ho : o.In H) (lv : Value) (xs : List (Value × Reg)) (hl : Sl 3 rgc H lv xs) (hle : xs.length < 1000000000) (hr : ∀ p ∈ xs, p.2.In H p.1) :
 Fn Tryz.prog 180 [.agg #[.string o.name, o.rv, o.dv, o.cv], lv] H fun r H' => r = I (jI o xs) ∧ St Tryz.prog H H' [] := by
 refine Fn.of_sw Tryz.func180 rfl (by kernel_rfl) fun l hl => ?_
 have hn : l.length = 27 := by rw [hl]; rfl
 have g0 : get l 0 = (.agg #[(.string o.name), o.rv, o.dv, o.cv]) := by rw [hl]; rfl
 have g1 : get l 1 = lv := by rw [hl]; rfl
 clear hl
 simp (disch := omega) only [↓RA, RB, simprocAttr, g0]
 refine (St.refl Tryz.prog H).eNew 4 [(.string o.name), o.rv, o.dv, o.cv] rfl rfl (by simp [OC, ((St.refl Tryz.prog H).sl ho.1).cells.2.1, ((St.refl Tryz.prog H).sl ho.2.2.1).cells.2.1, ((St.refl Tryz.prog H).sl ho.2.2.2.2.1).cells.2.1]) fW fun A1 H1 hS1 => ?_
 simp only [RT] at hS1
 simp (disch := omega) only [↓RA, RZ, simprocAttr, hn, hS1.ldA 0 rfl]
 refine aB (wT o (ho.keep hS1)) ?_
 rintro r H2 ⟨rfl, hT1⟩
 have hS2 := hS1.trans hT1
 simp only [RT] at hS2
 simp (disch := omega) only [↓RA, RB, simprocAttr, hn]
 refine aA (fun h1 => ?_) (fun h1 => ?_)
 ·simp (disch := omega) only [↓RA, RZ, simprocAttr, hn, a9S, h1]
  exact ⟨by rw [jI, if_pos h1], hS2.forget⟩
 have hE : jI o xs = dB (fun j => gX o (aC xs j).2) xs.length := by rw [jI, if_neg h1]
 simp (disch := omega) only [↓RA, RZ, simprocAttr, hn, g1, (hS2.sl hl).len, h1]
 refine Wp.loopS (fun n l H' => l.length = 27 ∧ get l 2 = (ptr A1 0 4) ∧ get l 14 = lv ∧ get l 15 = I xs.length ∧ ∃ (j : Nat), (n + j = xs.length ∧ ∀ q, q < j → gX o (aC xs q).2 = 0) ∧ get l 16 = I j ∧ St Tryz.prog H H' [⟨ptr A1 0 4, 0, [(.string o.name), o.rv, o.dv, o.cv]⟩]) xs.length ?_ ?_
 ·simp (disch := omega) only [RB, RC, simprocAttr, hn]
  exact ⟨0, ⟨by omega, fun q hq => absurd hq (Nat.not_lt_zero _)⟩, rfl, hS2⟩
 rintro n l H3 ⟨hn, g2, g14, g15, j, ⟨hj,hz⟩, g16, hS3⟩
 simp (disch := omega) only [↓RA, RB, simprocAttr, hn, g15, g16]
 refine aA (fun q1 => ?_) (fun q1 => ?_)
 ·simp (disch := omega) only [↓RA, RZ, simprocAttr, hn, g14, g16, (hS3.sl hl).idx, (hS3.sl hl).ldA, rgc, q1]
  refine hS3.eNew 3 [(.slice none 0 0), (.int .u64 0), (.int .u64 0)] rfl rfl rfl kD fun A2 H4 hS4 => ?_
  simp only [RT] at hS4
  simp (disch := omega) only [↓RA, RZ, simprocAttr, hn, q1]
  refine hS4.eStore 1 rfl [(aC xs j).1, (.int .u64 (aC xs j).2.cpl), (.int .u64 (aC xs j).2.off)] rfl (by simp [OC, (hS4.sl (hr (aC xs j) (aF (by omega))).1).cells.2.1]) kD (by simp) fun H5 hS5 => ?_
  simp only [RT] at hS5
  simp (disch := omega) only [↓RA, RZ, simprocAttr, hn, g2, hS5.ldA 0 rfl, hS5.ldA 1 rfl, q1]
  refine aB (b7x o (ho.keep hS5) (aC xs j).2 (aC xs j).1 ((hr _ (aF (by omega))).keep hS5)) ?_
  rintro r H6 ⟨rfl, hT2⟩
  have hS6 := hS5.trans hT2
  simp only [RT] at hS6
  simp (disch := omega) only [↓RA, RZ, simprocAttr, hn, q1]
  refine aA (fun q2 => ?_) (fun q2 => ?_)
  ·simp (disch := omega) only [↓RA, RZ, simprocAttr, hn, a9S, q1, q2]
   exact ⟨by rw [hE, fZ (fun j => gX o (aC xs j).2) xs.length j (by omega) q2 hz], hS6.forget⟩
  simp (disch := omega) only [↓RA, RZ, simprocAttr, hn, g2, g14, g15, g16, q1, q2]
  exact ⟨n - 1, by omega, j + 1, ⟨by omega, fun q hq => by rcases Nat.lt_succ_iff_lt_or_eq.1 hq with e | e; (· exact hz q e); (· rw [e]; exact Classical.not_not.1 q2)⟩, by simp, hS6.pick [0] (by decide) rfl⟩
 simp (disch := omega) only [↓RA, RZ, simprocAttr, hn, a9S, q1]
 exact ⟨by rw [hE, cN (fun j => gX o (aC xs j).2) xs.length fun q hq => hz q (by omega)], hS3.forget⟩
def uU (o : Org) (rg : Reg) (c : Ct) : Int := if gX o rg ≠ 0 then gX o rg else sS o c
theorem sV (o : Org) (sv : Value) (rg : Reg) : jI o [(sv, rg)] = gX o rg := by
 unfold jI
 split
 ·rename_i h
  unfold gX
  rw [if_pos h]
 ·by_cases h : gX o rg = 0
  ·rw [h]
   exact cN _ _ fun j hj => by
    have : j = 0 := by simpa using hj
    rw [this]
    exact h
  ·exact fZ (fun j => gX o (aC [(sv, rg)] j).2) 1 0 (by decide) h fun j hj => absurd hj (Nat.not_lt_zero _)
theorem b6B (o : Org) (ho : o.In H) (rg : Reg) (sv : Value) (hr : rg.In H sv) (c : Ct) :
 Fn Tryz.prog 129 [.agg #[.string o.name, o.rv, o.dv, o.cv], .agg #[sv, .int .u64 rg.cpl, .int .u64 rg.off], .agg #[I c.1, I c.2]] H fun r H' => r = I (uU o rg c) ∧ St Tryz.prog H H' [] := by
 refine Fn.of_sw Tryz.func129 rfl (by kernel_rfl) fun l hl => ?_
 have hn : l.length = 18 := by rw [hl]; rfl
 have g0 : get l 0 = (.agg #[(.string o.name), o.rv, o.dv, o.cv]) := by rw [hl]; rfl
 have g1 : get l 1 = (.agg #[sv, (.int .u64 rg.cpl), (.int .u64 rg.off)]) := by rw [hl]; rfl
 have g2 : get l 2 = (.agg #[I c.1, I c.2]) := by rw [hl]; rfl
 clear hl
 simp (disch := omega) only [↓RA, RB, simprocAttr, g0]
 refine (St.refl Tryz.prog H).eNew 4 [(.string o.name), o.rv, o.dv, o.cv] rfl rfl (by simp [OC, ((St.refl Tryz.prog H).sl ho.1).cells.2.1, ((St.refl Tryz.prog H).sl ho.2.2.1).cells.2.1, ((St.refl Tryz.prog H).sl ho.2.2.2.2.1).cells.2.1]) fW fun A1 H1 hS1 => ?_
 simp only [RT] at hS1
 simp (disch := omega) only [↓RA, RB, simprocAttr, g1]
 refine hS1.eNew 3 [sv, (.int .u64 rg.cpl), (.int .u64 rg.off)] rfl rfl (by simp [OC, (hS1.sl hr.1).cells.2.1]) kD fun A2 H2 hS2 => ?_
 simp only [RT] at hS2
 simp (disch := omega) only [↓RA, RB, simprocAttr, g2]
 refine hS2.eNew 2 [I c.1, I c.2] rfl rfl rfl kP fun A3 H3 hS3 => ?_
 simp only [RT] at hS3
 simp (disch := omega) only [↓RA, RZ, simprocAttr, hn, hS3.ldA 0 rfl, hS3.ldA 1 rfl]
 refine hS3.eSlice [sv, (.int .u64 rg.cpl), (.int .u64 rg.off)] b0L b0B rfl rfl (by first | (simp []; done) | simp [Value.cells]) (by first | (simp []; done) | simp [Value.cells]) (by simp [OC, (hS3.sl hr.1).cells.2.1]) (by decide) (by decide) fun w1 H4 hS4 => ?_
 simp only [RT] at hS4
 simp (disch := omega) only [↓RA, RZ, simprocAttr, hn]
 refine aB (zR o (ho.keep hS4) w1 [(sv, rg)] (hS4.slo 3 rfl (fun _ => rfl)) (by simp) (by intro p hp; rw [List.mem_singleton.1 hp]; exact hr.keep hS4)) ?_
 rintro r H5 ⟨rfl, hT1⟩
 have hS5 := hS4.trans hT1
 simp only [RT] at hS5
 have hsc := sV o sv rg
 simp (disch := omega) only [↓RA, RB, simprocAttr, hn, hsc]
 refine aA (fun h1 => ?_) (fun h1 => ?_)
 ·simp (disch := omega) only [↓RA, RZ, simprocAttr, hn, b5E, hsc, h1]
  exact ⟨by rw [uU, if_pos h1], hS5.forget⟩
 simp (disch := omega) only [↓RA, RZ, simprocAttr, hn, hS5.ldA 0 rfl, hS5.ldA 2 rfl, hsc, h1]
 refine aB (oA o (ho.keep hS5) c) ?_
 rintro r H6 ⟨rfl, hT2⟩
 have hS6 := hS5.trans hT2
 simp only [RT] at hS6
 simp (disch := omega) only [↓RA, RZ, simprocAttr, hn, b5E, hsc, h1]
 exact ⟨by rw [uU, if_neg h1], hS6.forget⟩
def ofF (o : Org) (rg : Reg) (c : Ct) : List Ct := if uU o rg c = 0 then dT o rg [c] else []
theorem nZ {o : Org} {rg : Reg} (h : gX o rg = 0) : organE o = 0 ∧ rg.stops.length = o.dvs.length := by
 unfold gX at h
 split at h
 ·rename_i hh; exact absurd h hh
 rename_i h1
 split at h
 ·omega
 exact ⟨Classical.not_not.1 h1, by omega⟩
theorem zG {o : Org} {rg : Reg} {c : Ct} (h : uU o rg c = 0) : gX o rg = 0 ∧ gZ o c = true := by
 unfold uU at h
 split at h
 ·rename_i hh; exact absurd h hh
 ·rename_i hh
  exact ⟨Classical.not_not.1 hh, (iZ o c).1 h⟩
theorem c0s (o : Org) (ho : o.In H) (rg : Reg) (sv : Value) (hr : rg.In H sv) (c : Ct) :
 Fn Tryz.prog 66 [.agg #[.string o.name, o.rv, o.dv, o.cv], .agg #[sv, .int .u64 rg.cpl, .int .u64 rg.off], .agg #[I c.1, I c.2]] H fun r H' => ∃ pv, r = .tuple #[pv, I (uU o rg c)] ∧ Slx 2 cC H' (fun B => H.length ≤ B) pv (ofF o rg c) ∧ St Tryz.prog H H' [] := by
 refine Fn.of_sw Tryz.func66 rfl (by kernel_rfl) fun l hl => ?_
 have hn : l.length = 21 := by rw [hl]; rfl
 have g0 : get l 0 = (.agg #[(.string o.name), o.rv, o.dv, o.cv]) := by rw [hl]; rfl
 have g1 : get l 1 = (.agg #[sv, (.int .u64 rg.cpl), (.int .u64 rg.off)]) := by rw [hl]; rfl
 have g2 : get l 2 = (.agg #[I c.1, I c.2]) := by rw [hl]; rfl
 clear hl
 simp (disch := omega) only [↓RA, RB, simprocAttr, g0]
 refine (St.refl Tryz.prog H).eNew 4 [(.string o.name), o.rv, o.dv, o.cv] rfl rfl (by simp [OC, ((St.refl Tryz.prog H).sl ho.1).cells.2.1, ((St.refl Tryz.prog H).sl ho.2.2.1).cells.2.1, ((St.refl Tryz.prog H).sl ho.2.2.2.2.1).cells.2.1]) fW fun A1 H1 hS1 => ?_
 simp only [RT] at hS1
 simp (disch := omega) only [↓RA, RB, simprocAttr, g1]
 refine hS1.eNew 3 [sv, (.int .u64 rg.cpl), (.int .u64 rg.off)] rfl rfl (by simp [OC, (hS1.sl hr.1).cells.2.1]) kD fun A2 H2 hS2 => ?_
 simp only [RT] at hS2
 simp (disch := omega) only [↓RA, RB, simprocAttr, g2]
 refine hS2.eNew 2 [I c.1, I c.2] rfl rfl rfl kP fun A3 H3 hS3 => ?_
 simp only [RT] at hS3
 simp (disch := omega) only [↓RA, RZ, simprocAttr, hn, hS3.ldA 0 rfl, hS3.ldA 1 rfl, hS3.ldA 2 rfl]
 refine aB (b6B o (ho.keep hS3) rg sv (hr.keep hS3) c) ?_
 rintro r H4 ⟨rfl, hT1⟩
 have hS4 := hS3.trans hT1
 simp only [RT] at hS4
 simp (disch := omega) only [↓RA, RB, simprocAttr, hn]
 refine aA (fun h1 => ?_) (fun h1 => ?_)
 ·simp (disch := omega) only [↓RA, RZ, simprocAttr, hn, c1v, h1]
  exact ⟨.slice none 0 0, rfl, ⟨⟨.inl ⟨rfl, by rw [ofF, if_neg h1]; rfl⟩, cH, by decide⟩, fun b h => by simp [cA] at h⟩, hS4.forget⟩
 have h0 := Classical.not_not.1 h1
 obtain ⟨hz1, hz2⟩ := zG h0
 obtain ⟨hz3, hz4⟩ := nZ hz1
 simp (disch := omega) only [↓RA, RZ, simprocAttr, hn, hS4.ldA 0 rfl, hS4.ldA 1 rfl, hS4.ldA 2 rfl, h1]
 refine hS4.eSlice [I c.1, I c.2] jR vR rfl rfl (by simp [Value.cells]) rfl rfl (by decide) (by decide) fun w1 H5 hS5 => ?_
 simp only [RT] at hS5
 simp (disch := omega) only [↓RA, RZ, simprocAttr, hn, h1]
 have hSd := hS5
 refine aB (sT o (ho.keep hS5) (Org.fine hz3) rg sv (hr.keep hS5) hz4 w1 [c] (hS5.slo 3 rfl cH) (by simp) (by intro x hx; rw [List.mem_singleton.1 hx]; exact hz2)) ?_
 rintro r H6 ⟨hx, hT2⟩
 have hS6 := hS5.trans hT2
 simp only [RT] at hS6
 simp (disch := omega) only [↓RA, RZ, simprocAttr, hn, c1v, h1, hx.1.noTup]
 refine ⟨r, by rw [h0], ⟨by rw [ofF, if_pos h0]; exact hx.1, fun b h => ?_⟩, hS6.forget⟩
 have := hx.2 b h
 have : H.length ≤ _ := hSd.len
 omega
end Go.Ds
namespace Go.Ds
open Go.Proofs
structure Ctl where
 kind : Int
 dv : Int
 ix : Int
 deriving Inhabited, DecidableEq
def Ctl.cells (c : Ctl) : List Value := [I c.kind, I c.dv, I c.ix]
def gS (n : Nat) : List Nat := (List.range 64).filter fun i => n.testBit i
end Go.Ds
namespace Go.Ds
open Go.Proofs
variable {H : Heap}
set_option maxRecDepth 10000
set_option maxHeartbeats 1000000
theorem Wp.of_eqS {P : Program} {c c' : Code} {l l' : List Value} {Q : fD} (hc : c' = c) (hl : l' = l) (h : SW P c l H Q) : Wp P c' l' H Q := by
 subst hc hl; exact h.wp
theorem Wp.slots {P : Program} {c : Code} {l : List Value} {Q : fD} (h : ∀ l', l' = l → Wp P c l' H Q) : Wp P c l H Q := h l rfl
theorem Wp.rangeR {P : Program} {t : Tmp} {ps : Array Tmp} {assign body : Code} {l : List Value} {Q : fD} {k : FuncId} {captured : List Value} (hg : get l t = .func (.func k) #[] captured.toArray)
 (h : ∀ r : Loop, r.state = .ready → r.pending = none → r.tmps = l.toArray → r.params = ps → r.assign = assign → r.body = body →
   FnS P k ([.func (.yield H.length) #[] #[]] ++ captured) (H.cons (.loop r)) (b2h P l H.length Q)) : Wp P (.rangeFunc (.tmp t) ps assign body) l H Q :=
 Wp.range (first := []) rfl hg (h (a6n l ps assign body) rfl rfl rfl rfl rfl rfl)
theorem Lp.left {P : Program} {B : Base} {L : Nat} {r : Loop} {ls rest : List Ob} (h : Lp P B L r H (ls ++ rest)) : Lp P B L r H ls := h.sub (List.sublist_append_left _ _)
theorem OwnAt.var {P : Program} {A n : Nat} {cs : List Value} (h : OwnAt P H ⟨ptr A 0 n, 0, cs⟩) : Var H A n cs := by
 unfold OwnAt at h
 rw [if_pos rfl] at h
 rcases h with ⟨A', ty, lo, ver, h1, h2, h3⟩ | ⟨A', es, ck, ver, _, _, h3⟩
 ·simp only [ptr, Value.pointer.injEq, Option.some.injEq, Addr.mk.injEq] at h3
  obtain ⟨rfl, _, hn⟩ := h3
  exact ⟨hn, ty, true, lo, ver, h1, h2⟩
 ·cases h3
theorem a1D {n i : Nat} (h : i < n) : ∃ t, List.range n = List.range i ++ i :: t := by
 refine ⟨(List.range n).drop (i + 1), ?_⟩
 have h1 : (List.range n).take i = List.range i := by rw [List.take_range, Nat.min_eq_left (by omega)]
 have h2 := List.drop_eq_getElem_cons (l := List.range n) (i := i) (by simpa using h)
 rw [List.getElem_range] at h2
 rw [← h1, ← h2, List.take_append_drop]
end Go.Ds
namespace Go.Ds
open Go.Proofs
variable {H : Heap}
set_option maxRecDepth 10000
set_option maxHeartbeats 1000000
def b0c (x n : Nat) : List Nat := (List.range n).filter fun i => x.testBit i
theorem a1E (x n : Nat) : (b0c x n).length ≤ n := by
 unfold b0c
 refine Nat.le_trans (List.length_filter_le _ _) ?_
 simp
end Go.Ds
namespace Go.Ds
open Go.Proofs
variable {H : Heap}
set_option maxRecDepth 10000
set_option maxHeartbeats 1000000
structure Pv where
 v : Value
 l : List Ct
 deriving Inhabited
def Pv.cells (p : Pv) : List Value := [p.v]
def Pv.Ix (H : Heap) (X : Nat → Prop) (p : Pv) : Prop := Slx 2 cC H X p.v p.l
theorem Pv.Ix.step {H' : Heap} {X Y : Nat → Prop} {p : Pv} (h : p.Ix H X) (hk : Kept H X H' Y) : p.Ix H' Y := Slx.step h hk
theorem Kept.and {H' : Heap} {X Y : Nat → Prop} (Q : Nat → Prop) (h : Kept H X H' Y) : Kept H (fun B => Q B ∧ X B) H' (fun B => Q B ∧ Y B) :=
 fun B hX hB => ⟨(h B hX.2 hB).1, hX.1, (h B hX.2 hB).2⟩
end Go.Ds
namespace Go.Ds
open Go.Proofs
variable {H : Heap}
set_option maxRecDepth 10000
set_option maxHeartbeats 1000000
theorem Fn.tr {P : Program} {k : FuncId} {args : List Value} {R : Value → Heap → Prop} (h : Fn P k args H R) : Fn P k args H fun v H' => True ∧ R v H' := by
 simpa using h
theorem c1E (i : Nat) (hi : i < 64) : IntKind.wrap .u64 (1 * 2 ^ min i (IntKind.bits .u64)) = ((2 ^ i : Nat) : Int) := by
 have e : IntKind.bits .u64 = 64 := rfl
 rw [e, Nat.min_eq_left (by omega), Int.one_mul]
 have h1 : ((2 ^ i : Nat) : Int) = 2 ^ i := by simp
 rw [← h1]
 have h2 : 2 ^ i ≤ 2 ^ 63 := Nat.pow_le_pow_right (by decide) (by omega)
 have h5 : ((2 ^ i : Nat) : Int) ≤ ((2 ^ 63 : Nat) : Int) := Int.ofNat_le.2 h2
 exact gR _ (Int.natCast_nonneg _) (Int.lt_of_le_of_lt h5 (by decide))
end Go.Ds
namespace Go.Ds
open Go.Proofs
variable {H : Heap}
set_option maxRecDepth 10000
set_option maxHeartbeats 1000000
theorem oI {α : Type} [Inhabited α] {xs ys : List α} (hl : xs.length = ys.length) (h : ∀ j, j < xs.length → aC xs j = aC ys j) : xs = ys := by
 apply List.ext_getElem hl
 intro j h1 h2
 have := h j h1
 rwa [bV xs j h1, bV ys j h2] at this
theorem a1q (v w : Value) (xs ys : List Ct) (hv : Sl 2 cC H v xs) (hw : Sl 2 cC H w ys) (hl : xs.length < 1000000000) (hl2 : ys.length < 1000000000) :
 Fn Tryz.prog 69 [v, w] H fun r H' => r = .bool (decide (xs = ys)) ∧ St Tryz.prog H H' [] := by
 refine Fn.of_sw Tryz.func69 rfl (by kernel_rfl) fun l hl => ?_
 have hn : l.length = 26 := by rw [hl]; rfl
 have g0 : get l 0 = v := by rw [hl]; rfl
 have g1 : get l 1 = w := by rw [hl]; rfl
 clear hl
 simp (disch := omega) only [↓RA, RZ, simprocAttr, hn, g0, g1, ((St.refl Tryz.prog H).sl hv).len, ((St.refl Tryz.prog H).sl hw).len]
 refine aA (fun h1 => ?_) (fun h1 => ?_)
 ·simp (disch := omega) only [↓RA, RZ, simprocAttr, hn, b7C, h1]
  exact ⟨by rw [decide_eq_false]; intro e; rw [e] at h1; exact h1 rfl, (St.refl Tryz.prog H)⟩
 simp (disch := omega) only [↓RA, RZ, simprocAttr, hn, g0, ((St.refl Tryz.prog H).sl hv).len, h1]
 refine Wp.loopS (fun n l H' => l.length = 26 ∧ get l 0 = v ∧ get l 1 = w ∧ get l 12 = I xs.length ∧ ∃ (j : Nat), (n + j = xs.length ∧ ∀ q, q < j → aC xs q = aC ys q) ∧ get l 13 = I j ∧ St Tryz.prog H H' []) xs.length ?_ ?_
 ·simp (disch := omega) only [RB, RC, simprocAttr, hn, g0, g1]
  exact ⟨0, ⟨by omega, fun q hq => absurd hq (Nat.not_lt_zero _)⟩, rfl, (St.refl Tryz.prog H)⟩
 rintro n l H1 ⟨hn, g0, g1, g12, j, ⟨hj,hz⟩, g13, hS1⟩
 simp (disch := omega) only [↓RA, RB, simprocAttr, hn, g12, g13]
 refine aA (fun q1 => ?_) (fun q1 => ?_)
 ·simp (disch := omega) only [↓RA, RZ, simprocAttr, hn, g13, q1]
  refine Wp.drw cD (by kernel_rfl) ?_
  simp (disch := omega) only [↓RA, RZ, simprocAttr, hn, g0, g1, (hS1.sl hv).idx, (hS1.sl hv).ldA, cC, (hS1.sl hw).idx, (hS1.sl hw).ldA]
  refine aA (fun q2 => ?_) (fun q2 => ?_)
  ·simp (disch := omega) only [↓RA, RZ, simprocAttr, hn, b7C, q2]
   refine ⟨?_, hS1⟩
   rw [decide_eq_false]
   intro e
   rw [e] at q2
   exact q2 ⟨rfl, rfl⟩
  have q3 := Classical.not_not.1 q2
  simp (disch := omega) only [↓RA, RZ, simprocAttr, hn, g0, g1, g12, g13, q2]
  exact ⟨n - 1, by omega, j + 1, ⟨by omega, fun q hq => by rcases Nat.lt_succ_iff_lt_or_eq.1 hq with e | e; (· exact hz q e); (· rw [e]; exact Prod.ext q3.1 q3.2)⟩, by simp, hS1⟩
 simp (disch := omega) only [↓RA, RZ, simprocAttr, hn, b7C, q1]
 exact ⟨by rw [decide_eq_true]; exact oI (by omega) fun q hq => hz q (by omega), hS1⟩
def Pv.In (H : Heap) (p : Pv) : Prop := Sl 2 cC H p.v p.l
end Go.Ds
namespace Go.Ds
open Go.Proofs
variable {H : Heap}
set_option maxRecDepth 10000
set_option maxHeartbeats 1000000
end Go.Ds
namespace Go.Ds
open Go.Proofs
variable {H : Heap}
set_option maxRecDepth 10000
set_option maxHeartbeats 1000000
theorem b0n {o : Org} (hf : o.Fine) (rg : Reg) (c : Ct) : (ofF o rg c).length ≤ 1000000 := by
 unfold ofF
 split
 ·rename_i h
  have hc := (zG h).2
  unfold dT rF
  refine Nat.le_trans (a5V _) ?_
  rw [eK]
  have hm : ∀ x ∈ [c], gZ o x = true := by intro x hx; rw [List.mem_singleton.1 hx]; exact hc
  have h1 := jU hf rg (eI o rg [c]) (oY hm)
  have h2 := oT hf (rg := rg) (l := [c]) (by simp)
  omega
 ·simp
end Go.Ds
namespace Go.Ds
open Go.Proofs
variable {H : Heap}
set_option maxRecDepth 10000
set_option maxHeartbeats 1000000
end Go.Ds
namespace Go.Ds
open Go.Proofs
variable {H : Heap}
set_option maxRecDepth 10000
set_option maxHeartbeats 1000000
end Go.Ds
namespace Go.Ds
open Go.Proofs
variable {H : Heap}
set_option maxRecDepth 10000
set_option maxHeartbeats 1000000
end Go.Ds
namespace Go.Ds
open Go.Proofs
variable {H : Heap}
set_option maxRecDepth 10000
set_option maxHeartbeats 1000000
end Go.Ds
namespace Go.Ds
open Go.Proofs
variable {H : Heap}
set_option maxRecDepth 10000
set_option maxHeartbeats 1000000
end Go.Ds
namespace Go.Ds
open Go.Proofs
variable {H : Heap}
set_option maxRecDepth 10000
set_option maxHeartbeats 1000000
end Go.Ds
namespace Go.Ds
open Go.Proofs
variable {H : Heap}
set_option maxRecDepth 10000
set_option maxHeartbeats 1000000
end Go.Ds
namespace Go.Ds
open Go.Proofs
variable {H : Heap}
set_option maxRecDepth 10000
set_option maxHeartbeats 1000000
end Go.Ds
