/-
  A part of the proof of SilenceLaws.
-/
import Derived.Test.YtabfngimnibecaaGreatDoorVD
import Derived.Test.YtabfngimnibecaaGreatDoorVB
set_option linter.unusedVariables false
set_option linter.unusedSimpArgs false
set_option linter.defProp false
set_option linter.unusedSectionVars false
namespace Go.Ds
open Go.Proofs
variable {H : Heap}
set_option maxRecDepth 10000
theorem tV {p : Nat → Bool} {n j : Nat} (h : gS p n = (j : Int)) : j < n := by
 unfold gS at h
 split at h
 ·rename_i q hq
  have := List.mem_range.1 (List.mem_of_find?_eq_some hq)
  omega
 ·omega
theorem b3n (g : Seg) (hg : g.In H) (key : Int) (A : Nat) (hA : Var H A 1 [I key]) : Fn Tryz.prog 217 [.agg #[I g.lo, I g.hi, g.dv], ptr A 0 1] H fun r H' => r = .bool (decide (g.lo ≤ key) && decide (key ≤ g.hi)) ∧ St Tryz.prog H H' [] := by
 refine Fn.of_sw Tryz.func217 rfl (by kernel_rfl) fun l hl => ?_
 have hn : l.length = 14 := by rw [hl]; rfl
 have g0 : get l 0 = (.agg #[I g.lo, I g.hi, g.dv]) := by rw [hl]; rfl
 have g1 : get l 1 = (ptr A 0 1) := by rw [hl]; rfl
 clear hl
 simp (disch := omega) only [↓RA, RB, simprocAttr, g0]
 refine (St.refl Tryz.prog H).eNew 3 [I g.lo, I g.hi, g.dv] rfl rfl (by simp [OC, ((St.refl Tryz.prog H).sl hg.1).cells.2.1]) a3P fun A1 H1 hS1 => ?_
 simp only [RT] at hS1
 simp (disch := omega) only [↓RA, RZ, simprocAttr, hn, g1, hS1.ld 0 rfl, (hS1.va hA).ld]
 first | refine bY (fun h1 => ?_) (fun h1 => ?_) | refine aI (fun h1 => ?_) (fun h1 => ?_)
 ·simp (disch := omega) only [↓RA, RZ, simprocAttr, hn, g1, (hS1.va hA).ld, hS1.ld 0 rfl, b5i, h1]
  first | exact hS1.forget | exact ⟨by simp [h1], hS1.forget⟩
 simp (disch := omega) only [↓RA, RZ, simprocAttr, hn, b5i, h1]
 first | exact hS1.forget | exact ⟨by simp [], hS1.forget⟩
theorem b4a (v : Value) (xs : List Seg) (hv : Sl 3 Seg.cells H v xs) (hl : xs.length < 1000000000) (k : FuncId) (caps : List Value) (p : Nat → Bool)
 (hf : ∀ j H1, j < xs.length → St Tryz.prog H H1 [] → Fn Tryz.prog k (.agg #[I (aD xs j).lo, I (aD xs j).hi, (aD xs j).dv] :: caps) H1 fun r H2 => r = .bool (p j) ∧ St Tryz.prog H1 H2 []) :
 Fn Tryz.prog 216 [v, .func (.func k) #[] caps.toArray] H fun r H' => r = I (gS p xs.length) ∧ St Tryz.prog H H' [] := by
 refine Fn.of_sw Tryz.func216 rfl (by kernel_rfl) fun l hl => ?_
 have hn : l.length = 19 := by rw [hl]; rfl
 have g0 : get l 0 = v := by rw [hl]; rfl
 have g1 : get l 1 = .func (.func k) #[] caps.toArray := by rw [hl]; rfl
 clear hl
 simp (disch := omega) only [↓RA, RZ, simprocAttr, hn, g0, ((St.refl Tryz.prog H).sl hv).len]
 refine Wp.loopS (fun n l H' => l.length = 19 ∧ get l 0 = v ∧ get l 1 = .func (.func k) #[] caps.toArray ∧ get l 7 = I xs.length ∧ ∃ (j : Nat), (n + j = xs.length ∧ ∀ q, q < j → p q = false) ∧ get l 8 = I j ∧ St Tryz.prog H H' []) xs.length ?_ ?_
 ·simp (disch := omega) only [RB, RC, simprocAttr, hn, g0, g1]
  exact ⟨0, ⟨by omega, fun q hq => absurd hq (Nat.not_lt_zero _)⟩, rfl, (St.refl Tryz.prog H)⟩
 rintro n l H1 ⟨hn, g0, g1, g7, j, ⟨hi,h0⟩, g8, hS1⟩
 simp (disch := omega) only [↓RA, RB, simprocAttr, hn, g7, g8]
 first | refine aA (fun h => ?_) (fun h => ?_) | refine aB (fun h => ?_) (fun h => ?_)
 ·simp (disch := omega) only [↓RA, RZ, simprocAttr, hn, g0, g1, g8, (hS1.sl hv).idx, (hS1.sl hv).ldA, Seg.cells, h]
  refine aC (hf j _ (by omega) hS1) ?_
  rintro r H2 ⟨rfl, hT1⟩
  have hS2 := hS1.trans hT1
  simp only [RT] at hS2
  simp (disch := omega) only [↓RA, RZ, simprocAttr, hn, h]
  first | refine aA (fun hp => ?_) (fun hp => ?_) | refine aB (fun hp => ?_) (fun hp => ?_)
  ·simp (disch := omega) only [↓RA, RZ, simprocAttr, hn, b5I, h, hp]
   exact ⟨by rw [pF p xs.length j (by omega) hp h0], hS2⟩
  simp (disch := omega) only [↓RA, RZ, simprocAttr, hn, g0, g1, g7, g8, h, hp]
  exact ⟨n - 1, by omega, j + 1, ⟨by omega, fun q hq => by rcases Nat.lt_succ_iff_lt_or_eq.1 hq with e | e; (· exact h0 q e); (· rw [e]; exact hp)⟩, by simp, hS2⟩
 simp (disch := omega) only [↓RA, RZ, simprocAttr, hn, b5I, h]
 exact ⟨by rw [pT p xs.length fun q hq => h0 q (by omega)], hS1⟩
theorem a3L {H0 : Heap} {os0 : List Ob} (hS0 : St Tryz.prog H0 H os0) (s : Stp) (hs0 : s.In H0) (key : Int) : Fn Tryz.prog 155 [.agg #[.string s.name, I s.num, I s.den, s.gv], I key] H fun r H' => ∃ g : Seg, r = .agg #[I g.lo, I g.hi, g.dv] ∧ g.In H0 ∧ g.draws = a5o s key ∧ St Tryz.prog H H' [] := by
 have hs := hs0.keep hS0
 have hl := hs.2.2
 refine Fn.of_sw Tryz.func155 rfl (by kernel_rfl) fun l hl => ?_
 have hn : l.length = 18 := by rw [hl]; rfl
 have g0 : get l 0 = (.agg #[(.string s.name), I s.num, I s.den, s.gv]) := by rw [hl]; rfl
 have g1 : get l 1 = I key := by rw [hl]; rfl
 clear hl
 simp (disch := omega) only [↓RA, RB, simprocAttr, g0]
 refine (St.refl Tryz.prog H).eNew 4 [(.string s.name), I s.num, I s.den, s.gv] rfl rfl (by simp [OC, ((St.refl Tryz.prog H).sl hs.1).cells.2.1]) jG fun A1 H1 hS1 => ?_
 simp only [RT] at hS1
 simp (disch := omega) only [↓RA, RB, simprocAttr, g1]
 refine hS1.eNew 1 [I key] rfl rfl rfl tS3 fun A2 H2 hS2 => ?_
 simp only [RT] at hS2
 simp (disch := omega) only [↓RA, RZ, simprocAttr]
 refine hS2.eNew 3 [I 0, I 0, (.slice none 0 0)] rfl rfl rfl a3P fun A3 H3 hS3 => ?_
 simp only [RT] at hS3
 simp (disch := omega) only [↓RA, RZ, simprocAttr, hn, hS3.ld 0 rfl]
 have hA := hS3.var 1 rfl
 have hSc := hS3
 refine aC (b4a s.gv s.segs (hS3.sl hs.1) hs.2.2 217 [ptr A2 0 1] (a5t s key) (fun j H1 hj hS' => b3n _ ((hs.2.1 _ (aG hj)).keep (hSc.trans hS')) key A2 (hA.keep hS'.keep))) ?_
 rintro r H4 ⟨rfl, hT1⟩
 have hS4 := hS3.trans hT1
 simp only [RT] at hS4
 simp (disch := omega) only [↓RA, RB, simprocAttr, hn]
 first | refine aA (fun h => ?_) (fun h => ?_) | refine aB (fun h => ?_) (fun h => ?_)
 ·simp (disch := omega) only [↓RA, RZ, simprocAttr, hn, b9q, h]
  refine hS4.eStore 2 rfl [I 0, I 0, (.slice none 0 0)] rfl rfl a3P (by simp) fun H5 hS5 => ?_
  simp only [RT] at hS5
  simp (disch := omega) only [↓RA, RZ, simprocAttr, hn, b5v, hS5.ldA 2 rfl, h]
  exact ⟨⟨0, 0, .slice none 0 0, []⟩, rfl, ⟨⟨.inl ⟨rfl, rfl⟩, fun _ => rfl, by decide⟩, by simp⟩, by rw [a5o, if_pos h], hS5.forget⟩
 obtain ⟨j, hj⟩ : ∃ j : Nat, gS (a5t s key) s.segs.length = j := ⟨(gS (a5t s key) s.segs.length).toNat, by omega⟩
 have hjl : j < s.segs.length := tV hj
 simp (disch := omega) only [↓RA, RZ, simprocAttr, hn, hS4.ld 0 rfl, (hS4.sl hs.1).idx, (hS4.sl hs.1).ldA, Seg.cells, hj]
 refine hS4.eStore 2 rfl [I (aD s.segs j).lo, I (aD s.segs j).hi, (aD s.segs j).dv] rfl (by simp [OC, (hS4.sl (hs.2.1 (aD s.segs j) (aG (by omega))).1).cells.2.1]) a3P (by simp) fun H6 hS6 => ?_
 simp only [RT] at hS6
 simp (disch := omega) only [↓RA, RZ, simprocAttr, hn, b5v, hS6.ldA 2 rfl, hj]
 exact ⟨aD s.segs j, rfl, hs0.2.1 _ (aG hjl), by rw [a5o, if_neg h, hj]; rfl, hS6.forget⟩
theorem b2t (rv : Value) (rks : List Rk) (hr : Sl 6 Rk.cells H rv rks) (hrk : ∀ r ∈ rks, r.In H) (hl : rks.length < 1000000000) (d : Drw) (key : Int) :
 Fn Tryz.prog 156 [rv, .agg #[I d.rank, I d.shift], I key] H fun r H' => r = .tuple #[.agg #[I (iE rks d key).1, I (iE rks d key).2], .bool (rK rks d key)] ∧ St Tryz.prog H H' [] := by
 refine Fn.of_sw Tryz.func156 rfl (by kernel_rfl) fun l hl => ?_
 have hn : l.length = 48 := by rw [hl]; rfl
 have g0 : get l 0 = rv := by rw [hl]; rfl
 have g1 : get l 1 = (.agg #[I d.rank, I d.shift]) := by rw [hl]; rfl
 have g2 : get l 2 = I key := by rw [hl]; rfl
 clear hl
 simp (disch := omega) only [↓RA, RB, simprocAttr, g1]
 refine (St.refl Tryz.prog H).eNew 2 [I d.rank, I d.shift] rfl rfl rfl sJ fun A1 H1 hS1 => ?_
 simp only [RT] at hS1
 simp (disch := omega) only [↓RA, RZ, simprocAttr]
 refine hS1.eNew 2 [I 0, I 0] rfl rfl rfl sD fun A2 H2 hS2 => ?_
 simp only [RT] at hS2
 simp (disch := omega) only [↓RA, RZ, simprocAttr, hn, hS2.ld 0 rfl]
 first | refine aO (fun h1 => ?_) (fun h1 => ?_) | refine aI (fun h1 => ?_) (fun h1 => ?_)
 ·simp (disch := omega) only [↓RA, RZ, simprocAttr, hn, b5c, h1]
  refine hS2.eStore 1 rfl [I 0, I 0] rfl rfl sD (by simp) fun H3 hS3 => ?_
  simp only [RT] at hS3
  simp (disch := omega) only [↓RA, RZ, simprocAttr, hn, a5P, hS3.ldA 1 rfl, h1]
  exact ⟨by rw [iE, rK, if_pos (by omega), decide_eq_true (by omega)]; rfl, hS3.forget⟩
 simp (disch := omega) only [↓RA, RZ, simprocAttr, hn, g0, hS2.ld 0 rfl, (hS2.sl hr).len, h1]
 first | refine aA (fun h2 => ?_) (fun h2 => ?_) | refine aB (fun h2 => ?_) (fun h2 => ?_)
 ·simp (disch := omega) only [↓RA, RZ, simprocAttr, hn, b5c, h1, h2]
  refine hS2.eStore 1 rfl [I 0, I 0] rfl rfl sD (by simp) fun H4 hS4 => ?_
  simp only [RT] at hS4
  simp (disch := omega) only [↓RA, RZ, simprocAttr, hn, a5P, hS4.ldA 1 rfl, h1, h2]
  exact ⟨by rw [iE, rK, if_pos (by omega), decide_eq_true (by omega)]; rfl, hS4.forget⟩
 obtain ⟨j, hj⟩ : ∃ j : Nat, d.rank = j := ⟨d.rank.toNat, by omega⟩
 have hjl : j < rks.length := by omega
 have hp : iE rks d key = ((j : Int), nI (nI (key + d.shift) - (aD rks j).first)) := by rw [iE, if_neg (by omega), hj]; rfl
 have hh : rK rks d key = (decide (0 ≤ nI (nI (key + d.shift) - (aD rks j).first)) && decide (nI (nI (key + d.shift) - (aD rks j).first) < (aD rks j).wind.length)) := by
  rw [rK, hp, decide_eq_false (by omega), hj]
  rfl
 rw [hp, hh]
 have hw := (hrk _ (aG hjl)).2
 simp (disch := omega) only [↓RA, simprocAttr, hj]
 refine Wp.drw cA (by kernel_rfl) ?_
 simp (disch := omega) only [↓RA, RZ, simprocAttr, hn, g2]
 simp (disch := omega) only [↓RA, RZ, simprocAttr, hn, g0, hS2.ld 0 rfl, (hS2.sl hr).idx, (hS2.sl hr).fld, (hS2.sl hr).ld, Rk.cells, hj]
 refine Wp.drwT cA [(10, 18), (13, 18), (14, 18)] (by kernel_rfl) (by kernel_rfl) ?_
 simp (disch := omega) only [↓RA, RZ, simprocAttr, hn, hS2.ld 0 rfl, b1O, hj]
 first | refine bY (fun h3 => ?_) (fun h3 => ?_) | refine aI (fun h3 => ?_) (fun h3 => ?_)
 ·skip
  simp (disch := omega) only [↓RA, RZ, simprocAttr, hn, g0, hS2.ld 0 rfl, (hS2.sl hr).idx, (hS2.sl hr).fld, (hS2.sl hr).ld, Rk.cells, (hS2.sl (hrk (aD rks j) (aG (by omega))).1).len, hj, h3]
  refine hS2.eStore 1 rfl [I j, _] rfl rfl sD (by simp) fun H5 hS5 => ?_
  simp only [RT] at hS5
  simp (disch := omega) only [↓RA, RZ, simprocAttr, hn, hS5.ld 0 rfl, Rk.cells, (hS5.sl hr).ld, (hS5.sl (hrk (aD rks j) (aG (by omega))).1).len, a5P, hS5.ldA 1 rfl, hj, h3]
  exact hS5.forget
 simp (disch := omega) only [↓RA, RZ, simprocAttr, hn, h3]
 refine hS2.eStore 1 rfl [I j, _] rfl rfl sD (by simp) fun H6 hS6 => ?_
 simp only [RT] at hS6
 simp (disch := omega) only [↓RA, RZ, simprocAttr, hn, a5P, hS6.ldA 1 rfl, h3]
 first | exact hS6.forget | exact ⟨by rw [Bool.false_and], hS6.forget⟩
theorem a7K {B : Base} {v : Value} {es : List (Int × Int)} (hS : St Tryz.prog B H [⟨v, 2, pr es⟩]) (hl : es.length < 1000000) :
 Fn Tryz.prog 157 [v] H fun r H' => ∃ rest : List Value, (∀ b, cM r = some b → cM v = some b) ∧ (∀ H2, RdAt H2 v 2 (pr (dd (oW es)) ++ rest) → RdAt H2 r 2 (pr (dd (oW es)))) ∧ St Tryz.prog B H' [⟨v, 2, pr (dd (oW es)) ++ rest⟩] := by
 refine Fn.of_sw Tryz.func157 rfl (by kernel_rfl) fun l hl => ?_
 have hn : l.length = 7 := by rw [hl]; rfl
 have g0 : get l 0 = v := by rw [hl]; rfl
 clear hl
 simp (disch := omega) only [↓RA, RZ, simprocAttr, hn, g0]
 refine c0P hS 0 rfl hl fun H1 hS1 => ?_
 simp only [List.set_cons_zero] at hS1
 simp (disch := omega) only [↓RA, RZ, simprocAttr, hn, g0]
 refine aC (sY hS1 (by rw [gX]; exact hl)) ?_
 rintro r H2 ⟨rest, hb, hrd, hS2⟩
 have hrc := (hrd H2 (hS2.rd 0 rfl)).cells
 simp (disch := omega) only [↓RA, RB, simprocAttr, hn, c0N]
 exact ⟨rest, hb, hrd, hS2⟩
theorem b3a {a b : Int} {v : Value} {α : Type} {n : Nat} {cel : α → List Value} {xs : List α} (h : Sl n cel H v xs) : oJ Tryz.prog 74 (.agg #[I a, I b, v]) 2 = some v := by
 rcases h.rd with ⟨rfl, _⟩ | ⟨A, i, e, row, ty, rw, lo, ver, n, _, _, _, _, _, _, rfl⟩ <;> kernel_rfl
theorem a9a (rv : Value) (rks : List Rk) (hr : Sl 6 Rk.cells H rv rks) (hrk : ∀ r ∈ rks, r.In H) (hl : rks.length < 1000000000) (s : Stp) (hs : s.In H) (hs2 : ∀ g ∈ s.segs, g.draws.length ≤ 8) (key : Int) :
 Fn Tryz.prog 88 [rv, .agg #[.string s.name, I s.num, I s.den, s.gv], I key] H fun r H' => Slx 2 cU H' (fun B => H.length ≤ B) r (kL rks s key) ∧ St Tryz.prog H H' [] := by
 refine Fn.of_sw Tryz.func88 rfl (by kernel_rfl) fun l hl => ?_
 have hn : l.length = 36 := by rw [hl]; rfl
 have g0 : get l 0 = rv := by rw [hl]; rfl
 have g1 : get l 1 = (.agg #[(.string s.name), I s.num, I s.den, s.gv]) := by rw [hl]; rfl
 have g2 : get l 2 = I key := by rw [hl]; rfl
 clear hl
 simp (disch := omega) only [↓RA, RB, simprocAttr, g1]
 refine (St.refl Tryz.prog H).eNew 4 [(.string s.name), I s.num, I s.den, s.gv] rfl rfl (by simp [OC, ((St.refl Tryz.prog H).sl hs.1).cells.2.1]) jG fun A1 H1 hS1 => ?_
 simp only [RT] at hS1
 simp (disch := omega) only [↓RA, RZ, simprocAttr, hn, g2, hS1.ldA 0 rfl]
 refine aC (a3L hS1 s hs key) ?_
 rintro r H2 ⟨g, rfl, hgi, hgd, hT1⟩
 have hS2 := hS1.trans hT1
 simp only [RT] at hS2
 have hgl := hgi.2
 have hg8 : g.draws.length ≤ 8 := by
  rw [hgd]
  unfold a5o
  split
  ·simp
  ·rename_i h
   exact hs2 _ (aG (tV (p := a5t s key) (n := s.segs.length) (by omega)))
 simp (disch := omega) only [↓RA, RZ, simprocAttr, hn, b3a (hS2.sl hgi.1), (hS2.sl hgi.1).len]
 have hS3 := hS2.nil 1
 simp only [RT] at hS3
 refine Wp.loopS (fun n l H' => l.length = 36 ∧ get l 0 = rv ∧ get l 2 = I key ∧ get l 6 = (.slice none 0 0) ∧ get l 15 = g.dv ∧ get l 16 = I g.draws.length ∧ ∃ (i : Nat) (ov : Value), (n + i = g.draws.length) ∧ get l 17 = I i ∧ get l 7 = ov ∧ St Tryz.prog H H' [⟨ptr A1 0 4, 0, [(.string s.name), I s.num, I s.den, s.gv]⟩, ⟨ov, 2, pr (((g.draws.take i).filter fun d => rK rks d key).map fun d => iE rks d key)⟩]) g.draws.length ?_ ?_
 ·simp (disch := omega) only [RB, RC, simprocAttr, hn, g0, g2]
  exact ⟨0, _, by omega, rfl, rfl, hS3⟩
 rintro n l H3 ⟨hn, g0, g2, g6, g15, g16, i, ov, hi, g17, g7, hS4⟩
 simp (disch := omega) only [↓RA, RB, simprocAttr, hn, g16, g17]
 first | refine aA (fun q1 => ?_) (fun q1 => ?_) | refine aB (fun q1 => ?_) (fun q1 => ?_)
 ·simp (disch := omega) only [↓RA, RZ, simprocAttr, hn, g15, g17, (hS4.sl hgi.1).idx, (hS4.sl hgi.1).ldA, Drw.cells, q1]
  refine hS4.eNew 2 [I 0, I 0] rfl rfl rfl sJ fun A2 H4 hS5 => ?_
  simp only [RT] at hS5
  simp (disch := omega) only [↓RA, RZ, simprocAttr, hn, q1]
  refine hS5.eStore 2 rfl [I (aD g.draws i).rank, I (aD g.draws i).shift] rfl rfl sJ (by simp) fun H5 hS6 => ?_
  simp only [RT] at hS6
  simp (disch := omega) only [↓RA, RZ, simprocAttr, hn, g0, g2, hS6.ldA 2 rfl, q1]
  refine aC (b2t rv rks (hS6.sl hr) (fun r hr' => (hrk r hr').keep hS6) hl (aD g.draws i) key) ?_
  rintro r H6 ⟨rfl, hT2⟩
  have hS7 := hS6.trans hT2
  simp only [RT] at hS7
  have htk := dV g.draws i (by omega)
  have hfl : ((g.draws.take i).filter fun d => rK rks d key).length ≤ i := by
   refine Nat.le_trans (List.length_filter_le _ _) ?_
   simp
   omega
  simp (disch := omega) only [↓RA, RZ, simprocAttr, hn, q1]
  refine hS7.eNew 2 [I 0, I 0] rfl rfl rfl sD fun A3 H7 hS8 => ?_
  simp only [RT] at hS8
  simp (disch := omega) only [↓RA, RZ, simprocAttr, hn, q1]
  refine hS8.eStore 3 rfl [I (iE rks (aD g.draws i) key).1, I (iE rks (aD g.draws i) key).2] rfl rfl sD (by simp) fun H8 hS9 => ?_
  simp only [RT] at hS9
  simp (disch := omega) only [↓RA, RZ, simprocAttr, hn, q1]
  first | refine aA (fun q2 => ?_) (fun q2 => ?_) | refine aB (fun q2 => ?_) (fun q2 => ?_)
  ·skip
   simp (disch := omega) only [↓RA, RZ, simprocAttr, hn, g7, hS9.ldA 3 rfl, q1, q2]
   refine hS9.eSlice [I (iE rks (aD g.draws i) key).1, I (iE rks (aD g.draws i) key).2] b7R c3a rfl rfl (by simp [Value.cells]) rfl rfl (by decide) (by decide) fun w1 H9 hS10 => ?_
   simp only [RT] at hS10
   simp (disch := omega) only [↓RA, RZ, simprocAttr, hn, q1, q2]
   refine hS10.eAppend 1 rfl (hS10.rd 4 rfl) b7R (by rw [aN]; simp; omega) fun w2 H10 hS11 => ?_
   simp only [RT] at hS11
   simp (disch := omega) only [↓RA, RZ, simprocAttr, hn, g0, g2, g6, g15, g16, g17, q1, q2]
   refine ⟨n - 1, by omega, i + 1, w2, by omega, by simp, rfl, ?_⟩
   rw [htk, List.filter_append, List.map_append, cB]
   have e : ([aD g.draws i].filter fun d => rK rks d key) = [aD g.draws i] := by simp [q2]
   rw [e]
   exact hS11.pick [0, 1] (by decide) rfl
  simp (disch := omega) only [↓RA, RZ, simprocAttr, hn, g0, g2, g6, g15, g16, g17, g7, q1, q2]
  refine ⟨n - 1, by omega, i + 1, ov, by omega, by simp, rfl, ?_⟩
  rw [htk, List.filter_append, List.map_append, cB]
  have e : ([aD g.draws i].filter fun d => rK rks d key) = [] := by simp [q2]
  rw [e]
  simp only [pr, List.map_nil, List.flatMap_nil, List.append_nil]
  exact hS9.pick [0, 1] (by decide) rfl
 simp (disch := omega) only [↓RA, RZ, simprocAttr, hn, g7, q1]
 have hii : i = g.draws.length := by omega
 subst hii
 have hfl : ((g.draws.filter fun d => rK rks d key).map fun d => iE rks d key).length ≤ 8 := by
  rw [List.length_map]
  exact Nat.le_trans (List.length_filter_le _ _) hg8
 rw [List.take_length] at hS4
 have hM1 := hS4.pick (os' := [⟨ov, 2, _⟩]) [1] (by decide) rfl
 have hR1 := hS4.pick (os' := [⟨ov, 2, _⟩, ⟨ptr A1 0 4, 0, _⟩]) [1, 0] (by decide) rfl
 refine aC (a7K (es := (g.draws.filter fun d => rK rks d key).map fun d => iE rks d key) hM1.rebase (by omega)) ?_
 rintro r H11 ⟨rest, hb, hrd, hT3⟩
 have hS12 := hR1.frame hT3
 simp only [RT] at hS12
 have hrr := hrd _ (hS12.rd 0 rfl)
 have hrc := hrr.cells
 simp (disch := omega) only [↓RA, RZ, simprocAttr, hn, c2v, q1]
 refine ⟨⟨⟨?_, eJ, by decide⟩, fun b h => ?_⟩, hS12.forget⟩
 ·unfold kL
  rw [← hgd]
  exact hrr
 ·rcases hS12.new _ (List.mem_cons_self ..) b (hb b h) with h | h
  ·exact h
  ·exact h.elim
end Go.Ds
namespace Go.Ds
open Go.Proofs
variable {H : Heap}
set_option maxRecDepth 10000
set_option maxHeartbeats 1000000
abbrev KC (kvs : List (Ct × Bool)) : List Value := kcs (fun p : Int × Int => .agg #[I p.1, I p.2]) Value.bool kvs
def oA (kvs : List (Ct × Bool)) (c : Ct) : Bool := (vQ kvs c).getD false
theorem a6D {B : Base} (o : Org) (r : Reg) (sv : Value) (c : Ct) (AO AR AS AQ M : Nat) (qv : Value) (q : List Ct) (kvs : List (Ct × Bool))
 (hS : St Tryz.prog B H [⟨.map (some M), 0, KC kvs⟩, ⟨ptr AQ 0 1, 0, [qv]⟩, ⟨qv, 2, pr q⟩])
 (hO : ∀ {H1 : Heap} {os : List Ob}, St Tryz.prog B H1 os → Var H1 AO 4 [.string o.name, o.rv, o.dv, o.cv] ∧ o.In H1 ∧ Var H1 AR 3 [sv, .int .u64 r.cpl, .int .u64 r.off] ∧ Var H1 AS 1 [.map (some M)])
 (hk : ∀ t, oA kvs t = true ↔ t ∈ q) (hq : Que o q) (ho : o.Fine) (hr : r.Ok) :
 Fn Tryz.prog 232 [.agg #[I c.1, I c.2], .bool true, ptr AO 0 4, ptr AR 0 3, ptr AS 0 1, ptr AQ 0 1] H fun rr H' => ∃ kvs' qv', rr = .tuple #[] ∧ (∀ t, oA kvs' t = true ↔ t ∈ stepF o r.cpl true c q) ∧
  St Tryz.prog B H' [⟨.map (some M), 0, KC kvs'⟩, ⟨ptr AQ 0 1, 0, [qv']⟩, ⟨qv', 2, pr (stepF o r.cpl true c q)⟩] := by
 have hcl := ho.clen
 refine Fn.of_sw Tryz.func232 rfl (by kernel_rfl) fun l hl => ?_
 have hn : l.length = 65 := by rw [hl]; rfl
 have g0 : get l 0 = (.agg #[I c.1, I c.2]) := by rw [hl]; rfl
 have g1 : get l 1 = (.bool true) := by rw [hl]; rfl
 have g2 : get l 2 = (ptr AO 0 4) := by rw [hl]; rfl
 have g3 : get l 3 = (ptr AR 0 3) := by rw [hl]; rfl
 have g4 : get l 4 = (ptr AS 0 1) := by rw [hl]; rfl
 have g5 : get l 5 = (ptr AQ 0 1) := by rw [hl]; rfl
 clear hl
 simp (disch := omega) only [↓RA, RB, simprocAttr, g0]
 refine hS.eNew 2 [I c.1, I c.2] rfl rfl rfl iL fun A1 H1 hS1 => ?_
 simp only [RT] at hS1
 simp (disch := omega) only [↓RA, RZ, simprocAttr, hn, g2, ((hO hS1).1).ld, ((hO hS1).2.1.2.2.2.2.1).len]
 refine Wp.loopS (fun n l H' => l.length = 65 ∧ get l 1 = (.bool true) ∧ get l 2 = (ptr AO 0 4) ∧ get l 3 = (ptr AR 0 3) ∧ get l 4 = (ptr AS 0 1) ∧ get l 5 = (ptr AQ 0 1) ∧ get l 6 = (ptr A1 0 2) ∧ get l 12 = o.cv ∧ get l 13 = I o.cpls.length ∧ ∃ (i : Nat) (kvs' : List (Ct × Bool)) (qv' : Value), (n + i = o.cpls.length ∧ ∀ t, oA kvs' t = true ↔ t ∈ stepN o r.cpl true c q i) ∧ get l 14 = I i ∧ St Tryz.prog B H' [⟨.map (some M), 0, KC kvs'⟩, ⟨ptr AQ 0 1, 0, [qv']⟩, ⟨qv', 2, pr (stepN o r.cpl true c q i)⟩, ⟨ptr A1 0 2, 0, [I c.1, I c.2]⟩]) o.cpls.length ?_ ?_
 ·simp (disch := omega) only [RB, RC, simprocAttr, hn, g1, g2, g3, g4, g5]
  exact ⟨0, kvs, qv, ⟨by omega, hk⟩, rfl, hS1⟩
 rintro n l H2 ⟨hn, g1, g2, g3, g4, g5, g6, g12, g13, i, kvs', qv', ⟨hi,hk'⟩, g14, hS2⟩
 simp (disch := omega) only [↓RA, RB, simprocAttr, hn, g13, g14]
 first | refine aA (fun q1 => ?_) (fun q1 => ?_) | refine aB (fun q1 => ?_) (fun q1 => ?_)
 ·have hql : (stepN o r.cpl true c q i).length ≤ 1024 := (hq.stepN r.cpl true c i).len ho
  have e1 := a2i r.cpl i hr.2.2.1
  have e2 := a2g (r.cpl >>> i) (tX i hr.2.2.1)
  have e3 := tb r.cpl i
  have hskip : tM r.cpl true c (aD o.cpls i) i = false → stepN o r.cpl true c q (i + 1) = stepN o r.cpl true c q i := fun h => by
   rw [fJ, step1, if_neg (by rw [h]; simp)]
  have hkeep : lC o ((aD o.cpls i).dst, nI (c.2 + (aD o.cpls i).shift)) = false ∨ ((aD o.cpls i).dst, nI (c.2 + (aD o.cpls i).shift)) ∈ stepN o r.cpl true c q i → stepN o r.cpl true c q (i + 1) = stepN o r.cpl true c q i := fun h => by
   rw [fJ, step1, if_neg]
   simp only [to1, Bool.and_eq_true, Bool.not_eq_true']
   rintro ⟨⟨_, h2⟩, h3⟩
   rcases h with h | h
   ·rw [h] at h2; cases h2
   ·exact absurd h (of_decide_eq_false h3)
  simp (disch := omega) only [↓RA, RZ, simprocAttr, hn, g12, g14, ((hO hS2).2.1.2.2.2.2.1).idx, ((hO hS2).2.1.2.2.2.2.1).ldA, Cpl.cells, q1]
  refine hS2.eNew 5 [(.string ⟨#[]⟩), I 0, I 0, I 0, (.bool false)] rfl rfl rfl nR fun A2 H3 hS3 => ?_
  simp only [RT] at hS3
  simp (disch := omega) only [↓RA, RZ, simprocAttr, hn, q1]
  refine hS3.eStore 4 rfl [(.string (aD o.cpls i).name), I (aD o.cpls i).src, I (aD o.cpls i).dst, I (aD o.cpls i).shift, (.bool (aD o.cpls i).thr)] rfl rfl nR (by simp) fun H4 hS4 => ?_
  simp only [RT] at hS4
  simp (disch := omega) only [↓RA, RZ, simprocAttr, hn, g3, ((hO hS4).2.2.1).ld, q1, e1, e2]
  first | refine aO (fun b1 => ?_) (fun b1 => ?_) | refine aI (fun b1 => ?_) (fun b1 => ?_)
  ·have hs := hskip (by unfold tM; rw [e3, decide_eq_false (by omega)]; rfl)
   simp (disch := omega) only [↓RA, RZ, simprocAttr, hn, g1, g2, g3, g4, g5, g6, g12, g13, g14, q1, b1]
   exact ⟨n - 1, by omega, i + 1, kvs', qv', ⟨by omega, by rw [hs]; exact hk'⟩, by simp, by rw [hs]; exact hS4.pick [0, 1, 2, 3] (by decide) rfl⟩
  have hb : r.cpl.testBit i = true := by rw [e3]; exact decide_eq_true (by omega)
  simp (disch := omega) only [↓RA, RZ, simprocAttr, hn, g6, hS4.ld 4 rfl, hS4.ld 3 rfl, q1, b1]
  first | refine aO (fun b2 => ?_) (fun b2 => ?_) | refine aI (fun b2 => ?_) (fun b2 => ?_)
  ·have hs := hskip (by unfold tM; rw [decide_eq_false b2]; simp)
   simp (disch := omega) only [↓RA, RZ, simprocAttr, hn, g1, g2, g3, g4, g5, g6, g12, g13, g14, q1, b1, b2]
   exact ⟨n - 1, by omega, i + 1, kvs', qv', ⟨by omega, by rw [hs]; exact hk'⟩, by simp, by rw [hs]; exact hS4.pick [0, 1, 2, 3] (by decide) rfl⟩
  have hsrc := Classical.not_not.1 b2
  simp (disch := omega) only [↓RA, RZ, simprocAttr, hn, g1, hS4.ld 4 rfl, q1, b1, b2]
  first | refine aA (fun b4 => ?_) (fun b4 => ?_) | refine aB (fun b4 => ?_) (fun b4 => ?_)
  ·have hs := hskip (by unfold tM; simp only [Bool.not_true, Bool.false_or, Bool.and_eq_false_iff]; exact .inr (by simpa using b4))
   simp (disch := omega) only [↓RA, RZ, simprocAttr, hn, g1, g2, g3, g4, g5, g6, g12, g13, g14, q1, b1, b2, b4]
   exact ⟨n - 1, by omega, i + 1, kvs', qv', ⟨by omega, by rw [hs]; exact hk'⟩, by simp, by rw [hs]; exact hS4.pick [0, 1, 2, 3] (by decide) rfl⟩
  have hgo : tM r.cpl true c (aD o.cpls i) i = true := by
   unfold tM
   rw [hb, decide_eq_true hsrc]
   simpa using b4
  simp (disch := omega) only [↓RA, RZ, simprocAttr, hn, g6, hS4.ld 4 rfl, hS4.ld 3 rfl, q1, b1, b2, b4]
  simp (disch := omega) only [↓RA, RZ, simprocAttr, qF]
  refine hS4.eNew 2 [I 0, I 0] rfl rfl rfl iL fun A3 H5 hS5 => ?_
  simp only [RT] at hS5
  simp (disch := omega) only [↓RA, RZ, simprocAttr, hn, q1, b1, b2, b4]
  refine hS5.eStore 5 rfl [I (aD o.cpls i).dst, I (nI (c.2 + (aD o.cpls i).shift))] rfl rfl iL (by simp) fun H6 hS6 => ?_
  simp only [RT] at hS6
  simp (disch := omega) only [↓RA, RZ, simprocAttr, hn, g2, ((hO hS6).1).ldA, hS6.ldA 5 rfl, q1, b1, b2, b4]
  refine aC (oR o (hO hS6).2.1 ((aD o.cpls i).dst, nI (c.2 + (aD o.cpls i).shift))) ?_
  rintro r H7 ⟨rfl, hT1⟩
  have hS7 := hS6.trans hT1
  simp only [RT] at hS7
  simp (disch := omega) only [↓RA, RZ, simprocAttr, hn, q1, b1, b2, b4]
  first | refine bY (fun b5 => ?_) (fun b5 => ?_) | refine aI (fun b5 => ?_) (fun b5 => ?_)
  ·have hok := (lZ o _).1 b5
   simp (disch := omega) only [↓RA, RZ, simprocAttr, hn, g4, ((hO hS7).2.2.2).ld, hS7.ldA 5 rfl, q1, b1, b2, b4, b5]
   refine hS7.eLook (k := ((aD o.cpls i).dst, nI (c.2 + (aD o.cpls i).shift))) 0 rfl a1f (fun _ => rfl) ?_
   simp (disch := omega) only [↓RA, RZ, simprocAttr, hn, q1, b1, b2, b4, b5]
   first | refine aA (fun b6 => ?_) (fun b6 => ?_) | refine aB (fun b6 => ?_) (fun b6 => ?_)
   ·have hnot : ((aD o.cpls i).dst, nI (c.2 + (aD o.cpls i).shift)) ∉ stepN o r.cpl true c q i := fun h => by
     have h := (hk' _).2 h
     unfold oA at h
     first | (rw [Bool.not_eq_true'] at b6; exact Bool.false_ne_true (b6.symm.trans h)) | exact b6 h
    have hs : stepN o r.cpl true c q (i + 1) = stepN o r.cpl true c q i ++ [((aD o.cpls i).dst, nI (c.2 + (aD o.cpls i).shift))] := by
     rw [fJ]
     unfold step1
     rw [if_pos (by simp only [to1, hgo, hok]; simp [hnot])]
     rfl
    simp (disch := omega) only [↓RA, RZ, simprocAttr, hn, g4, ((hO hS7).2.2.2).ld, hS7.ldA 5 rfl, q1, b1, b2, b4, b5, b6]
    refine hS7.eUpd (k := ((aD o.cpls i).dst, nI (c.2 + (aD o.cpls i).shift))) 0 rfl a1f fun H8 hS8 => ?_
    simp only [RT] at hS8
    simp (disch := omega) only [↓RA, RZ, simprocAttr, hn, g5, hS8.ld 1 rfl, hS8.ldA 5 rfl, q1, b1, b2, b4, b5, b6]
    refine hS8.eSlice [I (aD o.cpls i).dst, I (nI (c.2 + (aD o.cpls i).shift))] nP a2x rfl rfl (by simp [Value.cells]) rfl rfl (by decide) (by decide) fun w1 H9 hS9 => ?_
    simp only [RT] at hS9
    simp (disch := omega) only [↓RA, RZ, simprocAttr, hn, q1, b1, b2, b4, b5, b6]
    refine hS9.eAppend 2 rfl (hS9.rd 6 rfl) nP (by rw [aN]; simp; omega) fun w2 H10 hS10 => ?_
    simp only [RT] at hS10
    simp (disch := omega) only [↓RA, RZ, simprocAttr, hn, g5, q1, b1, b2, b4, b5, b6]
    refine hS10.eStore 1 rfl [w2] (by rw [(hS10.rd 2 rfl).cells.1]) (by simp [(hS10.rd 2 rfl).cells.2.1]) a6v (by simp) fun H11 hS11 => ?_
    simp only [RT] at hS11
    simp (disch := omega) only [↓RA, RZ, simprocAttr, hn, g1, g2, g3, g4, g5, g6, g12, g13, g14, q1, b1, b2, b4, b5, b6]
    refine ⟨n - 1, by omega, i + 1, a0l kvs' ((aD o.cpls i).dst, nI (c.2 + (aD o.cpls i).shift)) true, w2, ⟨by omega, fun t => ?_⟩, by simp, ?_⟩
    ·rw [hs, List.mem_append, List.mem_singleton, ← hk' t]
     unfold oA
     rw [uT]
     by_cases e : t = ((aD o.cpls i).dst, nI (c.2 + (aD o.cpls i).shift))
     ·simp [e]
     ·simp [e]
    ·rw [hs, cB]
     exact hS11.pick [0, 1, 2, 3] (by decide) rfl
   have hin : ((aD o.cpls i).dst, nI (c.2 + (aD o.cpls i).shift)) ∈ stepN o r.cpl true c q i := (hk' _).1 (by
    unfold oA
    simpa using b6)
   have hs := hkeep (.inr hin)
   simp (disch := omega) only [↓RA, RZ, simprocAttr, hn, g1, g2, g3, g4, g5, g6, g12, g13, g14, q1, b1, b2, b4, b5, b6]
   exact ⟨n - 1, by omega, i + 1, kvs', qv', ⟨by omega, by rw [hs]; exact hk'⟩, by simp, by rw [hs]; exact hS7.pick [0, 1, 2, 3] (by decide) rfl⟩
  have hs := hkeep (.inl (by rw [← Bool.not_eq_true]; exact fun h => b5 ((lZ o _).2 h)))
  simp (disch := omega) only [↓RA, RZ, simprocAttr, hn, g1, g2, g3, g4, g5, g6, g12, g13, g14, q1, b1, b2, b4, b5]
  exact ⟨n - 1, by omega, i + 1, kvs', qv', ⟨by omega, by rw [hs]; exact hk'⟩, by simp, by rw [hs]; exact hS7.pick [0, 1, 2, 3] (by decide) rfl⟩
 simp (disch := omega) only [↓RA, RZ, simprocAttr, b5y, q1]
 have hii : i = o.cpls.length := by omega
 subst hii
 exact ⟨kvs', qv', hk', hS2.pick [0, 1, 2] (by decide) rfl⟩
theorem a7u {B : Base} (o : Org) (r : Reg) (sv : Value) (c : Ct) (AO AR AS AQ M : Nat) (qv : Value) (q : List Ct) (kvs : List (Ct × Bool))
 (hS : St Tryz.prog B H [⟨.map (some M), 0, KC kvs⟩, ⟨ptr AQ 0 1, 0, [qv]⟩, ⟨qv, 2, pr q⟩])
 (hO : ∀ {H1 : Heap} {os : List Ob}, St Tryz.prog B H1 os → Var H1 AO 4 [.string o.name, o.rv, o.dv, o.cv] ∧ o.In H1 ∧ Var H1 AR 3 [sv, .int .u64 r.cpl, .int .u64 r.off] ∧ Var H1 AS 1 [.map (some M)])
 (hk : ∀ t, oA kvs t = true ↔ t ∈ q) (hq : Que o q) (ho : o.Fine) (hr : r.Ok) :
 Fn Tryz.prog 232 [.agg #[I c.1, I c.2], .bool false, ptr AO 0 4, ptr AR 0 3, ptr AS 0 1, ptr AQ 0 1] H fun rr H' => ∃ kvs' qv', rr = .tuple #[] ∧ (∀ t, oA kvs' t = true ↔ t ∈ stepF o r.cpl false c q) ∧
  St Tryz.prog B H' [⟨.map (some M), 0, KC kvs'⟩, ⟨ptr AQ 0 1, 0, [qv']⟩, ⟨qv', 2, pr (stepF o r.cpl false c q)⟩] := by
 have hcl := ho.clen
 refine Fn.of_sw Tryz.func232 rfl (by kernel_rfl) fun l hl => ?_
 have hn : l.length = 65 := by rw [hl]; rfl
 have g0 : get l 0 = (.agg #[I c.1, I c.2]) := by rw [hl]; rfl
 have g1 : get l 1 = (.bool false) := by rw [hl]; rfl
 have g2 : get l 2 = (ptr AO 0 4) := by rw [hl]; rfl
 have g3 : get l 3 = (ptr AR 0 3) := by rw [hl]; rfl
 have g4 : get l 4 = (ptr AS 0 1) := by rw [hl]; rfl
 have g5 : get l 5 = (ptr AQ 0 1) := by rw [hl]; rfl
 clear hl
 simp (disch := omega) only [↓RA, RB, simprocAttr, g0]
 refine hS.eNew 2 [I c.1, I c.2] rfl rfl rfl iL fun A1 H1 hS1 => ?_
 simp only [RT] at hS1
 simp (disch := omega) only [↓RA, RZ, simprocAttr, hn, g2, ((hO hS1).1).ld, ((hO hS1).2.1.2.2.2.2.1).len]
 refine Wp.loopS (fun n l H' => l.length = 65 ∧ get l 1 = (.bool false) ∧ get l 2 = (ptr AO 0 4) ∧ get l 3 = (ptr AR 0 3) ∧ get l 4 = (ptr AS 0 1) ∧ get l 5 = (ptr AQ 0 1) ∧ get l 6 = (ptr A1 0 2) ∧ get l 12 = o.cv ∧ get l 13 = I o.cpls.length ∧ ∃ (i : Nat) (kvs' : List (Ct × Bool)) (qv' : Value), (n + i = o.cpls.length ∧ ∀ t, oA kvs' t = true ↔ t ∈ stepN o r.cpl false c q i) ∧ get l 14 = I i ∧ St Tryz.prog B H' [⟨.map (some M), 0, KC kvs'⟩, ⟨ptr AQ 0 1, 0, [qv']⟩, ⟨qv', 2, pr (stepN o r.cpl false c q i)⟩, ⟨ptr A1 0 2, 0, [I c.1, I c.2]⟩]) o.cpls.length ?_ ?_
 ·simp (disch := omega) only [RB, RC, simprocAttr, hn, g1, g2, g3, g4, g5]
  exact ⟨0, kvs, qv, ⟨by omega, hk⟩, rfl, hS1⟩
 rintro n l H2 ⟨hn, g1, g2, g3, g4, g5, g6, g12, g13, i, kvs', qv', ⟨hi,hk'⟩, g14, hS2⟩
 simp (disch := omega) only [↓RA, RB, simprocAttr, hn, g13, g14]
 first | refine aA (fun q1 => ?_) (fun q1 => ?_) | refine aB (fun q1 => ?_) (fun q1 => ?_)
 ·have hql : (stepN o r.cpl false c q i).length ≤ 1024 := (hq.stepN r.cpl false c i).len ho
  have e1 := a2i r.cpl i hr.2.2.1
  have e2 := a2g (r.cpl >>> i) (tX i hr.2.2.1)
  have e3 := tb r.cpl i
  have hskip : tM r.cpl false c (aD o.cpls i) i = false → stepN o r.cpl false c q (i + 1) = stepN o r.cpl false c q i := fun h => by
   rw [fJ, step1, if_neg (by rw [h]; simp)]
  have hkeep : lC o ((aD o.cpls i).dst, nI (c.2 + (aD o.cpls i).shift)) = false ∨ ((aD o.cpls i).dst, nI (c.2 + (aD o.cpls i).shift)) ∈ stepN o r.cpl false c q i → stepN o r.cpl false c q (i + 1) = stepN o r.cpl false c q i := fun h => by
   rw [fJ, step1, if_neg]
   simp only [to1, Bool.and_eq_true, Bool.not_eq_true']
   rintro ⟨⟨_, h2⟩, h3⟩
   rcases h with h | h
   ·rw [h] at h2; cases h2
   ·exact absurd h (of_decide_eq_false h3)
  simp (disch := omega) only [↓RA, RZ, simprocAttr, hn, g12, g14, ((hO hS2).2.1.2.2.2.2.1).idx, ((hO hS2).2.1.2.2.2.2.1).ldA, Cpl.cells, q1]
  refine hS2.eNew 5 [(.string ⟨#[]⟩), I 0, I 0, I 0, (.bool false)] rfl rfl rfl nR fun A2 H3 hS3 => ?_
  simp only [RT] at hS3
  simp (disch := omega) only [↓RA, RZ, simprocAttr, hn, q1]
  refine hS3.eStore 4 rfl [(.string (aD o.cpls i).name), I (aD o.cpls i).src, I (aD o.cpls i).dst, I (aD o.cpls i).shift, (.bool (aD o.cpls i).thr)] rfl rfl nR (by simp) fun H4 hS4 => ?_
  simp only [RT] at hS4
  simp (disch := omega) only [↓RA, RZ, simprocAttr, hn, g3, ((hO hS4).2.2.1).ld, q1, e1, e2]
  first | refine aO (fun b1 => ?_) (fun b1 => ?_) | refine aI (fun b1 => ?_) (fun b1 => ?_)
  ·have hs := hskip (by unfold tM; rw [e3, decide_eq_false (by omega)]; rfl)
   simp (disch := omega) only [↓RA, RZ, simprocAttr, hn, g1, g2, g3, g4, g5, g6, g12, g13, g14, q1, b1]
   exact ⟨n - 1, by omega, i + 1, kvs', qv', ⟨by omega, by rw [hs]; exact hk'⟩, by simp, by rw [hs]; exact hS4.pick [0, 1, 2, 3] (by decide) rfl⟩
  have hb : r.cpl.testBit i = true := by rw [e3]; exact decide_eq_true (by omega)
  simp (disch := omega) only [↓RA, RZ, simprocAttr, hn, g6, hS4.ld 4 rfl, hS4.ld 3 rfl, q1, b1]
  first | refine aO (fun b2 => ?_) (fun b2 => ?_) | refine aI (fun b2 => ?_) (fun b2 => ?_)
  ·have hs := hskip (by unfold tM; rw [decide_eq_false b2]; simp)
   simp (disch := omega) only [↓RA, RZ, simprocAttr, hn, g1, g2, g3, g4, g5, g6, g12, g13, g14, q1, b1, b2]
   exact ⟨n - 1, by omega, i + 1, kvs', qv', ⟨by omega, by rw [hs]; exact hk'⟩, by simp, by rw [hs]; exact hS4.pick [0, 1, 2, 3] (by decide) rfl⟩
  have hsrc := Classical.not_not.1 b2
  have hgo : tM r.cpl false c (aD o.cpls i) i = true := by
   unfold tM
   rw [hb, decide_eq_true hsrc]
   rfl
  simp (disch := omega) only [↓RA, RZ, simprocAttr, hn, g1, g6, hS4.ld 4 rfl, hS4.ld 3 rfl, q1, b1, b2]
  simp (disch := omega) only [↓RA, RZ, simprocAttr, qF]
  refine hS4.eNew 2 [I 0, I 0] rfl rfl rfl iL fun A3 H5 hS5 => ?_
  simp only [RT] at hS5
  simp (disch := omega) only [↓RA, RZ, simprocAttr, hn, q1, b1, b2]
  refine hS5.eStore 5 rfl [I (aD o.cpls i).dst, I (nI (c.2 + (aD o.cpls i).shift))] rfl rfl iL (by simp) fun H6 hS6 => ?_
  simp only [RT] at hS6
  simp (disch := omega) only [↓RA, RZ, simprocAttr, hn, g2, ((hO hS6).1).ldA, hS6.ldA 5 rfl, q1, b1, b2]
  refine aC (oR o (hO hS6).2.1 ((aD o.cpls i).dst, nI (c.2 + (aD o.cpls i).shift))) ?_
  rintro r H7 ⟨rfl, hT1⟩
  have hS7 := hS6.trans hT1
  simp only [RT] at hS7
  simp (disch := omega) only [↓RA, RZ, simprocAttr, hn, q1, b1, b2]
  first | refine bY (fun b5 => ?_) (fun b5 => ?_) | refine aI (fun b5 => ?_) (fun b5 => ?_)
  ·have hok := (lZ o _).1 b5
   simp (disch := omega) only [↓RA, RZ, simprocAttr, hn, g4, ((hO hS7).2.2.2).ld, hS7.ldA 5 rfl, q1, b1, b2, b5]
   refine hS7.eLook (k := ((aD o.cpls i).dst, nI (c.2 + (aD o.cpls i).shift))) 0 rfl a1f (fun _ => rfl) ?_
   simp (disch := omega) only [↓RA, RZ, simprocAttr, hn, q1, b1, b2, b5]
   first | refine aA (fun b6 => ?_) (fun b6 => ?_) | refine aB (fun b6 => ?_) (fun b6 => ?_)
   ·have hnot : ((aD o.cpls i).dst, nI (c.2 + (aD o.cpls i).shift)) ∉ stepN o r.cpl false c q i := fun h => by
     have h := (hk' _).2 h
     unfold oA at h
     first | (rw [Bool.not_eq_true'] at b6; exact Bool.false_ne_true (b6.symm.trans h)) | exact b6 h
    have hs : stepN o r.cpl false c q (i + 1) = stepN o r.cpl false c q i ++ [((aD o.cpls i).dst, nI (c.2 + (aD o.cpls i).shift))] := by
     rw [fJ]
     unfold step1
     rw [if_pos (by simp only [to1, hgo, hok]; simp [hnot])]
     rfl
    simp (disch := omega) only [↓RA, RZ, simprocAttr, hn, g4, ((hO hS7).2.2.2).ld, hS7.ldA 5 rfl, q1, b1, b2, b5, b6]
    refine hS7.eUpd (k := ((aD o.cpls i).dst, nI (c.2 + (aD o.cpls i).shift))) 0 rfl a1f fun H8 hS8 => ?_
    simp only [RT] at hS8
    simp (disch := omega) only [↓RA, RZ, simprocAttr, hn, g5, hS8.ld 1 rfl, hS8.ldA 5 rfl, q1, b1, b2, b5, b6]
    refine hS8.eSlice [I (aD o.cpls i).dst, I (nI (c.2 + (aD o.cpls i).shift))] nP a2x rfl rfl (by simp [Value.cells]) rfl rfl (by decide) (by decide) fun w1 H9 hS9 => ?_
    simp only [RT] at hS9
    simp (disch := omega) only [↓RA, RZ, simprocAttr, hn, q1, b1, b2, b5, b6]
    refine hS9.eAppend 2 rfl (hS9.rd 6 rfl) nP (by rw [aN]; simp; omega) fun w2 H10 hS10 => ?_
    simp only [RT] at hS10
    simp (disch := omega) only [↓RA, RZ, simprocAttr, hn, g5, q1, b1, b2, b5, b6]
    refine hS10.eStore 1 rfl [w2] (by rw [(hS10.rd 2 rfl).cells.1]) (by simp [(hS10.rd 2 rfl).cells.2.1]) a6v (by simp) fun H11 hS11 => ?_
    simp only [RT] at hS11
    simp (disch := omega) only [↓RA, RZ, simprocAttr, hn, g1, g2, g3, g4, g5, g6, g12, g13, g14, q1, b1, b2, b5, b6]
    refine ⟨n - 1, by omega, i + 1, a0l kvs' ((aD o.cpls i).dst, nI (c.2 + (aD o.cpls i).shift)) true, w2, ⟨by omega, fun t => ?_⟩, by simp, ?_⟩
    ·rw [hs, List.mem_append, List.mem_singleton, ← hk' t]
     unfold oA
     rw [uT]
     by_cases e : t = ((aD o.cpls i).dst, nI (c.2 + (aD o.cpls i).shift))
     ·simp [e]
     ·simp [e]
    ·rw [hs, cB]
     exact hS11.pick [0, 1, 2, 3] (by decide) rfl
   have hin : ((aD o.cpls i).dst, nI (c.2 + (aD o.cpls i).shift)) ∈ stepN o r.cpl false c q i := (hk' _).1 (by
    unfold oA
    simpa using b6)
   have hs := hkeep (.inr hin)
   simp (disch := omega) only [↓RA, RZ, simprocAttr, hn, g1, g2, g3, g4, g5, g6, g12, g13, g14, q1, b1, b2, b5, b6]
   exact ⟨n - 1, by omega, i + 1, kvs', qv', ⟨by omega, by rw [hs]; exact hk'⟩, by simp, by rw [hs]; exact hS7.pick [0, 1, 2, 3] (by decide) rfl⟩
  have hs := hkeep (.inl (by rw [← Bool.not_eq_true]; exact fun h => b5 ((lZ o _).2 h)))
  simp (disch := omega) only [↓RA, RZ, simprocAttr, hn, g1, g2, g3, g4, g5, g6, g12, g13, g14, q1, b1, b2, b5]
  exact ⟨n - 1, by omega, i + 1, kvs', qv', ⟨by omega, by rw [hs]; exact hk'⟩, by simp, by rw [hs]; exact hS7.pick [0, 1, 2, 3] (by decide) rfl⟩
 simp (disch := omega) only [↓RA, RZ, simprocAttr, b5y, q1]
 have hii : i = o.cpls.length := by omega
 subst hii
 exact ⟨kvs', qv', hk', hS2.pick [0, 1, 2] (by decide) rfl⟩
end Go.Ds
namespace Go.Ds
open Go.Proofs
variable {H : Heap}
set_option maxRecDepth 10000
set_option maxHeartbeats 1000000
theorem a2h (o : Org) (cp : Nat) (l : List Ct) (i : Nat) (h : i < l.length) : fX o cp (l.take (i + 1)) = stepF o cp false (aD l i) (fX o cp (l.take i)) := by
 unfold fX
 rw [dV l i h, List.foldl_append]
 rfl
theorem jF (o : Org) (cp : Nat) (l : List Ct) : Que o (fX o cp l) := by
 unfold fX
 have : ∀ (l : List Ct) (q : List Ct), Que o q → Que o (l.foldl (fun q c => stepF o cp false c q) q) := by
  intro l
  induction l with
  | nil => intro q h; exact h
  | cons c l ih => intro q h; exact ih _ (h.stepF cp false c)
 exact this l [] (Que.nil o)
theorem a4x : bC (.map none) = true := rfl
theorem a1T (o : Org) (ho : o.In H) (hf : o.Fine) (r : Reg) (sv : Value) (hr : r.In H sv) (fv : Value) (first : List Ct) (hfi : Sl 2 cU H fv first) (hfl : first.length ≤ 1024) (hfo : ∀ c ∈ first, lC o c = true) :
 Fn Tryz.prog 182 [.agg #[.string o.name, o.rv, o.dv, o.cv], .agg #[sv, .int .u64 r.cpl, .int .u64 r.off], fv] H fun rr H' => Slx 2 cU H' (fun B => H.length ≤ B) rr (mQ o r first) ∧ St Tryz.prog H H' [] := by
 refine Fn.of_sw Tryz.func182 rfl (by kernel_rfl) fun l hl => ?_
 have hn : l.length = 56 := by rw [hl]; rfl
 have g0 : get l 0 = (.agg #[(.string o.name), o.rv, o.dv, o.cv]) := by rw [hl]; rfl
 have g1 : get l 1 = (.agg #[sv, (.int .u64 r.cpl), (.int .u64 r.off)]) := by rw [hl]; rfl
 have g2 : get l 2 = fv := by rw [hl]; rfl
 clear hl
 simp (disch := omega) only [↓RA, RB, simprocAttr, g0]
 refine (St.refl Tryz.prog H).eNew 4 [(.string o.name), o.rv, o.dv, o.cv] rfl rfl (by simp [OC, ((St.refl Tryz.prog H).sl ho.1).cells.2.1, ((St.refl Tryz.prog H).sl ho.2.2.1).cells.2.1, ((St.refl Tryz.prog H).sl ho.2.2.2.2.1).cells.2.1]) eU fun A1 H1 hS1 => ?_
 simp only [RT] at hS1
 simp (disch := omega) only [↓RA, RB, simprocAttr, g1]
 refine hS1.eNew 3 [sv, (.int .u64 r.cpl), (.int .u64 r.off)] rfl rfl (by simp [OC, (hS1.sl hr.1).cells.2.1]) eB fun A2 H2 hS2 => ?_
 simp only [RT] at hS2
 simp (disch := omega) only [↓RA, RB, simprocAttr]
 refine hS2.eMap a1f fun M1 H3 hS3 => ?_
 simp only [RT] at hS3
 simp (disch := omega) only [↓RA, RZ, simprocAttr, a4x]
 refine hS3.eNew 1 [(.map none)] rfl rfl rfl b1j fun A3 H4 hS4 => ?_
 simp only [RT] at hS4
 simp (disch := omega) only [↓RA, RB, simprocAttr, hn]
 refine hS4.eStore 3 rfl [(.map (some M1))] rfl rfl b1j (by simp) fun H5 hS5 => ?_
 simp only [RT] at hS5
 simp (disch := omega) only [↓RA, RZ, simprocAttr]
 refine hS5.eNew 1 [(.slice none 0 0)] rfl rfl rfl a6v fun A4 H6 hS6 => ?_
 simp only [RT] at hS6
 simp (disch := omega) only [↓RA, RZ, simprocAttr, hn, g2, (hS6.sl hfi).len]
 have hS7 := hS6.nil 1
 simp only [RT] at hS7
 have hS8 := hS7.nil 1
 simp only [RT] at hS8
 refine Wp.loopS (fun n l H' => l.length = 56 ∧ get l 4 = (ptr A2 0 3) ∧ get l 6 = (.slice none 0 0) ∧ get l 8 = (ptr A4 0 1) ∧ get l 10 = (.func (.func 232) #[] #[(ptr A1 0 4), (ptr A2 0 3), (ptr A3 0 1), (ptr A4 0 1)]) ∧ get l 16 = fv ∧ get l 17 = I first.length ∧ ∃ (i : Nat) (kvs : List (Ct × Bool)) (qv ov : Value), (n + i = first.length ∧ ∀ t, oA kvs t = true ↔ t ∈ fX o r.cpl (first.take i)) ∧ get l 18 = I i ∧ get l 9 = ov ∧ St Tryz.prog H H' [⟨ptr A1 0 4, 0, [(.string o.name), o.rv, o.dv, o.cv]⟩, ⟨ptr A2 0 3, 0, [sv, (.int .u64 r.cpl), (.int .u64 r.off)]⟩, ⟨.map (some M1), 0, KC kvs⟩, ⟨ptr A3 0 1, 0, [(.map (some M1))]⟩, ⟨ptr A4 0 1, 0, [qv]⟩, ⟨qv, 2, pr (fX o r.cpl (first.take i))⟩, ⟨ov, 2, pr ((first.take i).filter fun c => !r.off.testBit c.1.toNat)⟩]) first.length ?_ ?_
 ·simp (disch := omega) only [RB, RC, simprocAttr, hn]
  refine ⟨0, [], .slice none 0 0, .slice none 0 0, ⟨by omega, fun t => ?_⟩, rfl, rfl, hS8⟩
  simp [oA, vQ, fX]
 rintro n l H7 ⟨hn, g4, g6, g8, g10, g16, g17, i, kvs, qv, ov, ⟨hi,hk⟩, g18, g9, hS9⟩
 simp (disch := omega) only [↓RA, RB, simprocAttr, hn, g17, g18]
 first | refine aA (fun q1 => ?_) (fun q1 => ?_) | refine aB (fun q1 => ?_) (fun q1 => ?_)
 ·have hci := (mD o _).1 (hfo _ (aG (xs := first) (j := i) (by omega)))
  have hqu := jF o r.cpl (first.take i)
  have hqs := a2h o r.cpl first i (by omega)
  have hql := (jF o r.cpl (first.take (i + 1))).len hf
  simp (disch := omega) only [↓RA, RZ, simprocAttr, hn, g16, g18, (hS9.sl hfi).idx, (hS9.sl hfi).ldA, cU, q1]
  refine hS9.eNew 2 [I 0, I 0] rfl rfl rfl iL fun A5 H8 hS10 => ?_
  simp only [RT] at hS10
  simp (disch := omega) only [↓RA, RZ, simprocAttr, hn, q1]
  refine hS10.eStore 7 rfl [I (aD first i).1, I (aD first i).2] rfl rfl iL (by simp) fun H9 hS11 => ?_
  simp only [RT] at hS11
  simp (disch := omega) only [↓RA, RZ, simprocAttr, hn, g10, hS11.ldA 7 rfl, q1]
  have hM1 := hS11.pick (os' := [⟨.map (some M1), 0, _⟩, ⟨ptr A4 0 1, 0, _⟩, ⟨qv, 2, _⟩]) [2, 4, 5] (by decide) rfl
  have hR1 := hS11.pick (os' := [⟨.map (some M1), 0, _⟩, ⟨ptr A4 0 1, 0, _⟩, ⟨qv, 2, _⟩, ⟨ptr A1 0 4, 0, _⟩, ⟨ptr A2 0 3, 0, _⟩, ⟨ptr A3 0 1, 0, _⟩, ⟨ov, 2, _⟩, ⟨ptr A5 0 2, 0, _⟩]) [2, 4, 5, 0, 1, 3, 6, 7] (by decide) rfl
  refine aC (a7u o r sv (aD first i) A1 A2 A3 A4 M1 qv (fX o r.cpl (first.take i)) kvs hM1.rebase (fun h => ⟨(hR1.frame h.forget).var 0 rfl, ho.keep (hR1.frame h.forget), (hR1.frame h.forget).var 1 rfl, (hR1.frame h.forget).var 2 rfl⟩) hk hqu hf hr.2) ?_
  rintro r H10 ⟨kvs', qv', rfl, hk', hT1⟩
  have hS12 := hR1.frame hT1
  simp only [RT] at hS12
  have e1 := a2i r.off (aD first i).1.toNat hr.2.2.2.2
  have e2 := a2g (r.off >>> (aD first i).1.toNat) (tX _ hr.2.2.2.2)
  have e3 := tb r.off (aD first i).1.toNat
  have htk := dV first i (by omega)
  have hfl : (pr ((first.take i).filter fun c => !r.off.testBit c.1.toNat)).length ≤ i * 2 := by
   rw [aN]
   refine Nat.mul_le_mul_right 2 ?_
   refine Nat.le_trans (List.length_filter_le _ _) ?_
   simp
   omega
  rw [← hqs] at hk'
  simp (disch := omega) only [↓RA, RZ, simprocAttr, hn, g4, hS12.ld 4 rfl, hS12.ld 7 rfl, q1, e1, e2]
  first | refine aA (fun q2 => ?_) (fun q2 => ?_) | refine aB (fun q2 => ?_) (fun q2 => ?_)
  ·have hx : ([aD first i].filter fun c => !r.off.testBit c.1.toNat) = [aD first i] := by simp [e3, decide_eq_false (show ¬ r.off >>> (aD first i).1.toNat % 2 = 1 by omega)]
   simp (disch := omega) only [↓RA, RZ, simprocAttr, hn, g9, hS12.ldA 7 rfl, q1, q2]
   refine hS12.eSlice [I (aD first i).1, I (aD first i).2] nP a2x rfl rfl (by simp [Value.cells]) rfl rfl (by decide) (by decide) fun w1 H11 hS13 => ?_
   simp only [RT] at hS13
   simp (disch := omega) only [↓RA, RZ, simprocAttr, hn, q1, q2]
   refine hS13.eAppend 6 rfl (hS13.rd 8 rfl) nP (by first | (simp; done) | (simp; omega)) fun w2 H12 hS14 => ?_
   simp only [RT] at hS14
   simp (disch := omega) only [↓RA, RZ, simprocAttr, hn, g4, g6, g8, g10, g16, g17, g18, q1, q2]
   refine ⟨n - 1, by omega, i + 1, kvs', qv', w2, ⟨by omega, hk'⟩, by simp, rfl, ?_⟩
   rw [hqs, htk, List.filter_append, hx, cB]
   exact hS14.pick [3, 4, 0, 5, 1, 2, 6] (by decide) rfl
  have hx : ([aD first i].filter fun c => !r.off.testBit c.1.toNat) = [] := by simp [e3, decide_eq_true (show r.off >>> (aD first i).1.toNat % 2 = 1 by omega)]
  simp (disch := omega) only [↓RA, RZ, simprocAttr, hn, g4, g6, g8, g10, g16, g17, g18, g9, q1, q2]
  refine ⟨n - 1, by omega, i + 1, kvs', qv', ov, ⟨by omega, hk'⟩, by simp, rfl, ?_⟩
  rw [hqs, htk, List.filter_append, hx, List.append_nil]
  exact hS12.pick [3, 4, 0, 5, 1, 2, 6] (by decide) rfl
 simp (disch := omega) only [↓RA, RZ, simprocAttr, q1]
 have hii : i = first.length := by omega
 subst hii
 rw [List.take_length] at hk
 rw [List.take_length] at hS9
 have hqu := jF o r.cpl first
 have hoL : (pr (first.filter fun c => !r.off.testBit c.1.toNat)).length ≤ 2048 := by
  rw [aN]
  exact Nat.mul_le_mul_right 2 (Nat.le_trans (List.length_filter_le _ _) hfl)
 refine Wp.loopS (fun n l H' => l.length = 56 ∧ get l 6 = (.slice none 0 0) ∧ get l 8 = (ptr A4 0 1) ∧ get l 9 = ov ∧ get l 10 = (.func (.func 232) #[] #[(ptr A1 0 4), (ptr A2 0 3), (ptr A3 0 1), (ptr A4 0 1)]) ∧ ∃ (j : Nat) (kvs : List (Ct × Bool)) (qv : Value) (q : List Ct), (n + j = 1100 ∧ bfs o r.cpl n j q = bfs o r.cpl 1100 0 (fX o r.cpl first) ∧ Que o q ∧ ∀ t, oA kvs t = true ↔ t ∈ q) ∧ get l 13 = I j ∧ St Tryz.prog H H' [⟨ptr A1 0 4, 0, [(.string o.name), o.rv, o.dv, o.cv]⟩, ⟨ptr A2 0 3, 0, [sv, (.int .u64 r.cpl), (.int .u64 r.off)]⟩, ⟨.map (some M1), 0, KC kvs⟩, ⟨ptr A3 0 1, 0, [(.map (some M1))]⟩, ⟨ptr A4 0 1, 0, [qv]⟩, ⟨qv, 2, pr q⟩, ⟨ov, 2, pr (first.filter fun c => !r.off.testBit c.1.toNat)⟩]) 1100 ?_ ?_
 ·simp (disch := omega) only [RB, RC, simprocAttr, hn, g6, g8, g10, g9]
  exact ⟨0, kvs, qv, _, ⟨rfl, rfl, hqu, hk⟩, rfl, hS9⟩
 rintro n l H13 ⟨hn, g6, g8, g9, g10, j, kvs, qv, q, ⟨hj,hbf,hqq,hkk⟩, g13, hS15⟩
 have hql := hqq.len hf
 simp (disch := omega) only [↓RA, RZ, simprocAttr, hn, g8, g13, hS15.ld 4 rfl, (hS15.slo 5 rfl (fun _ => rfl)).len]
 first | refine aA (fun q3 => ?_) (fun q3 => ?_) | refine aB (fun q3 => ?_) (fun q3 => ?_)
 ·have hjl : j < q.length := by omega
  simp (disch := omega) only [↓RA, RZ, simprocAttr, hn, g8, g10, g13, hS15.ld 4 rfl, (hS15.slo 5 rfl (fun _ => rfl)).idx, (hS15.slo 5 rfl (fun _ => rfl)).ldA, cU, q3]
  have hM2 := hS15.pick (os' := [⟨.map (some M1), 0, _⟩, ⟨ptr A4 0 1, 0, _⟩, ⟨qv, 2, _⟩]) [2, 4, 5] (by decide) rfl
  have hR2 := hS15.pick (os' := [⟨.map (some M1), 0, _⟩, ⟨ptr A4 0 1, 0, _⟩, ⟨qv, 2, _⟩, ⟨ptr A1 0 4, 0, _⟩, ⟨ptr A2 0 3, 0, _⟩, ⟨ptr A3 0 1, 0, _⟩, ⟨ov, 2, _⟩]) [2, 4, 5, 0, 1, 3, 6] (by decide) rfl
  refine aC (a6D o r sv (aD q j) A1 A2 A3 A4 M1 qv q kvs hM2.rebase (fun h => ⟨(hR2.frame h.forget).var 0 rfl, ho.keep (hR2.frame h.forget), (hR2.frame h.forget).var 1 rfl, (hR2.frame h.forget).var 2 rfl⟩) hkk hqq hf hr.2) ?_
  rintro r H14 ⟨kvs', qv', rfl, hk', hT2⟩
  have hS16 := hR2.frame hT2
  simp only [RT] at hS16
  simp (disch := omega) only [↓RA, RZ, simprocAttr, hn, g6, g8, g9, g10, g13, q3]
  obtain ⟨n', rfl⟩ : ∃ n', n = n' + 1 := ⟨n - 1, by omega⟩
  rw [bfs, if_pos hjl] at hbf
  exact ⟨n', by omega, j + 1, kvs', qv', _, ⟨by omega, hbf, hqq.stepF _ _ _, hk'⟩, by simp, hS16.pick [3, 4, 0, 5, 1, 2, 6] (by decide) rfl⟩
 have hbq : bfs o r.cpl 1100 0 (fX o r.cpl first) = q := by
  rw [← hbf]
  cases n with
  | zero => rfl
  | succ n => rw [bfs, if_neg (by omega)]
 have hqp : (pr q).length ≤ 2048 := by rw [aN]; omega
 simp (disch := omega) only [↓RA, RZ, simprocAttr, hn, g8, g9, hS15.ld 4 rfl, q3]
 refine hS15.eAppend 6 rfl (hS15.rd 5 rfl) nP (by first | (simp; done) | (simp; omega)) fun w3 H15 hS17 => ?_
 simp only [RT] at hS17
 simp (disch := omega) only [↓RA, RZ, simprocAttr, hn, q3]
 rw [← cB, ← hbq] at hS17
 have hLL : ((first.filter fun c => !r.off.testBit c.1.toNat) ++ bfs o r.cpl 1100 0 (fX o r.cpl first)).length < 1000000 := by
  have h1 := List.length_filter_le (fun c : Ct => !r.off.testBit c.1.toNat) first
  rw [List.length_append, hbq]
  omega
 refine c0L hS17 6 rfl hLL fun HS hSS => ?_
 simp only [List.set_cons_succ, List.set_cons_zero] at hSS
 simp (disch := omega) only [↓RA, RZ, simprocAttr, hn, q3]
 have hM3 := hSS.pick (os' := [⟨w3, 2, _⟩]) [6] (by decide) rfl
 have hR3 := hSS.pick (os' := [⟨w3, 2, _⟩, ⟨ptr A1 0 4, 0, _⟩, ⟨ptr A2 0 3, 0, _⟩, ⟨.map (some M1), 0, _⟩, ⟨ptr A3 0 1, 0, _⟩, ⟨ptr A4 0 1, 0, _⟩, ⟨qv, 2, _⟩]) [6, 0, 1, 2, 3, 4, 5] (by decide) rfl
 refine aC (a1V hM3.rebase (by rw [gX]; exact hLL)) ?_
 rintro r H16 ⟨rest, hb, hrd, hT3⟩
 have hS18 := hR3.frame hT3
 simp only [RT] at hS18
 have hrr := hrd _ (hS18.rd 0 rfl)
 have hrc := hrr.cells
 simp (disch := omega) only [↓RA, RZ, simprocAttr, hn, c1U, q3]
 refine ⟨⟨⟨hrr, eJ, by decide⟩, fun b h => ?_⟩, hS18.forget⟩
 rcases hS18.new _ (List.mem_cons_self ..) b (hb b h) with h | h
 ·exact h
 ·exact h.elim
end Go.Ds
namespace Go.Ds
open Go.Proofs
variable {H : Heap}
set_option maxRecDepth 10000
set_option maxHeartbeats 1000000
theorem b0F {α : Type} [Inhabited α] [DecidableEq α] (l : List α) : (dd l).length ≤ l.length := b7I l l.length
theorem zB (rs : List Rk) (s : Stp) (key : Int) (h : ∀ g ∈ s.segs, g.draws.length ≤ 8) : (kL rs s key).length ≤ 8 := by
 unfold kL
 refine Nat.le_trans (b0F _) ?_
 rw [gX, List.length_map]
 refine Nat.le_trans (List.length_filter_le _ _) ?_
 unfold a5o
 split
 ·simp
 ·exact h _ (aG (tV (p := a5t s key) (n := s.segs.length) (by omega)))
def fZ (o : Org) (rg : Reg) (c : Ct) (k : Nat) : List Ct := (List.range k).flatMap fun i => if (aD rg.stops c.1.toNat).testBit i then kL o.ranks (aD (aD o.dvs c.1.toNat).stops i) c.2 else []
theorem sP (o : Org) (rg : Reg) (c : Ct) (k : Nat) : fZ o rg c (k + 1) = fZ o rg c k ++ (if (aD rg.stops c.1.toNat).testBit k then kL o.ranks (aD (aD o.dvs c.1.toNat).stops k) c.2 else []) := by
 unfold fZ
 rw [List.range_succ, List.flatMap_append, List.flatMap_cons, List.flatMap_nil, List.append_nil]
theorem sC {o : Org} (hf : o.Fine) (rg : Reg) {c : Ct} (hc : lC o c = true) : ∀ k, k ≤ (aD o.dvs c.1.toNat).stops.length → (fZ o rg c k).length ≤ k * 8
 | 0, _ => by simp [fZ]
 | k + 1, hk => by
   have h := sC hf rg hc k (by omega)
   have hc := (mD o c).1 hc
   rw [sP, List.length_append]
   split
   ·have := zB o.ranks (aD (aD o.dvs c.1.toNat).stops k) c.2 (hf.draws c.1.toNat (by omega) _ (aG (by omega)))
    omega
   ·simp
    omega
theorem a8q {o : Org} (hf : o.Fine) (rg : Reg) {c : Ct} (hc : lC o c = true) : (jA o rg c).length ≤ 480 := by
 have h := sC hf rg hc _ (Nat.le_refl _)
 have h1 := (mD o c).1 hc
 have := hf.stops c.1.toNat (by omega)
 have e : jA o rg c = fZ o rg c (aD o.dvs c.1.toNat).stops.length := rfl
 rw [e]
 omega
theorem mU {o : Org} (hf : o.Fine) (rg : Reg) : ∀ (l : List Ct), (∀ c ∈ l, lC o c = true) → (l.flatMap (jA o rg)).length ≤ l.length * 480
 | [], _ => by simp
 | c :: l, h => by
   rw [List.flatMap_cons, List.length_append, List.length_cons]
   have h1 := mU hf rg l fun x hx => h x (by simp [hx])
   have h2 := a8q hf rg (h c (by simp))
   omega
theorem b1l (o : Org) (ho : o.In H) (hf : o.Fine) (rg : Reg) (sv : Value) (hr : rg.In H sv) (hrl : rg.stops.length = o.dvs.length) (fv : Value) (cs : List Ct) (hfi : Sl 2 cU H fv cs) (hfl : cs.length ≤ 2048) (hfo : ∀ c ∈ cs, lC o c = true) :
 Fn Tryz.prog 181 [.agg #[.string o.name, o.rv, o.dv, o.cv], .agg #[sv, .int .u64 rg.cpl, .int .u64 rg.off], fv] H fun rr H' => Slx 2 cU H' (fun B => H.length ≤ B) rr (a0U o rg cs) ∧ St Tryz.prog H H' [] := by
 refine Fn.of_sw Tryz.func181 rfl (by kernel_rfl) fun l hl => ?_
 have hn : l.length = 55 := by rw [hl]; rfl
 have g0 : get l 0 = (.agg #[(.string o.name), o.rv, o.dv, o.cv]) := by rw [hl]; rfl
 have g1 : get l 1 = (.agg #[sv, (.int .u64 rg.cpl), (.int .u64 rg.off)]) := by rw [hl]; rfl
 have g2 : get l 2 = fv := by rw [hl]; rfl
 clear hl
 simp (disch := omega) only [↓RA, RB, simprocAttr, g0]
 refine (St.refl Tryz.prog H).eNew 4 [(.string o.name), o.rv, o.dv, o.cv] rfl rfl (by simp [OC, ((St.refl Tryz.prog H).sl ho.1).cells.2.1, ((St.refl Tryz.prog H).sl ho.2.2.1).cells.2.1, ((St.refl Tryz.prog H).sl ho.2.2.2.2.1).cells.2.1]) eU fun A1 H1 hS1 => ?_
 simp only [RT] at hS1
 simp (disch := omega) only [↓RA, RB, simprocAttr, g1]
 refine hS1.eNew 3 [sv, (.int .u64 rg.cpl), (.int .u64 rg.off)] rfl rfl (by simp [OC, (hS1.sl hr.1).cells.2.1]) eB fun A2 H2 hS2 => ?_
 simp only [RT] at hS2
 simp (disch := omega) only [↓RA, RZ, simprocAttr, hn, g2, (hS2.sl hfi).len]
 have hS3 := hS2.nil 1
 simp only [RT] at hS3
 refine Wp.loopS (fun n l H' => l.length = 55 ∧ get l 3 = (ptr A1 0 4) ∧ get l 4 = (ptr A2 0 3) ∧ get l 6 = (.slice none 0 0) ∧ get l 12 = fv ∧ get l 13 = I cs.length ∧ ∃ (i : Nat) (ov : Value), (n + i = cs.length) ∧ get l 14 = I i ∧ get l 7 = ov ∧ St Tryz.prog H H' [⟨ptr A1 0 4, 0, [(.string o.name), o.rv, o.dv, o.cv]⟩, ⟨ptr A2 0 3, 0, [sv, (.int .u64 rg.cpl), (.int .u64 rg.off)]⟩, ⟨ov, 2, pr ((cs.take i).flatMap (jA o rg))⟩]) cs.length ?_ ?_
 ·simp (disch := omega) only [RB, RC, simprocAttr, hn]
  exact ⟨0, .slice none 0 0, by omega, rfl, rfl, hS3⟩
 rintro n l H3 ⟨hn, g3, g4, g6, g12, g13, i, ov, hi, g14, g7, hS4⟩
 simp (disch := omega) only [↓RA, RB, simprocAttr, hn, g13, g14]
 first | refine aA (fun q1 => ?_) (fun q1 => ?_) | refine aB (fun q1 => ?_) (fun q1 => ?_)
 ·have hci := (mD o _).1 (hfo _ (aG (xs := cs) (j := i) (by omega)))
  obtain ⟨a, ha⟩ : ∃ a : Nat, (aD cs i).1 = a := ⟨(aD cs i).1.toNat, by omega⟩
  have ha1 : a < o.dvs.length := by omega
  have hst := (ho.2.2.2.1 _ (aG ha1)).2.2
  have hs60 := hf.stops a ha1
  simp (disch := omega) only [↓RA, RZ, simprocAttr, hn, g12, g14, (hS4.sl hfi).idx, (hS4.sl hfi).ldA, cU, q1]
  refine hS4.eNew 2 [I 0, I 0] rfl rfl rfl iL fun A3 H4 hS5 => ?_
  simp only [RT] at hS5
  simp (disch := omega) only [↓RA, RZ, simprocAttr, hn, q1]
  refine hS5.eStore 3 rfl [I (aD cs i).1, I (aD cs i).2] rfl rfl iL (by simp) fun H5 hS6 => ?_
  simp only [RT] at hS6
  simp (disch := omega) only [↓RA, RZ, simprocAttr, hn, g3, q1]
  simp only [ha] at hS6
  simp (disch := omega) only [↓RA, RZ, simprocAttr, hn, hS6.ld 0 rfl, hS6.ld 3 rfl, (hS6.sl ho.2.2.1).idx, (hS6.sl ho.2.2.1).fld, (hS6.sl ho.2.2.1).ld, Dvn.cells, (hS6.sl (ho.2.2.2.1 (aD o.dvs a) (aG (by omega))).1).len, q1, ha]
  have hta : (aD cs i).1.toNat = a := by omega
  have htk := dV cs i (by omega)
  have hsx := hr.2.2.1 _ (aG (xs := rg.stops) (j := a) (by omega))
  have hacc : (pr ((cs.take i).flatMap (jA o rg))).length ≤ 2048 * 960 := by
   rw [aN]
   have := mU hf rg (cs.take i) fun c hc => hfo c (List.mem_of_mem_take hc)
   rw [List.length_take] at this
   omega
  refine Wp.loopS (fun n l H' => l.length = 55 ∧ get l 3 = (ptr A1 0 4) ∧ get l 4 = (ptr A2 0 3) ∧ get l 6 = (.slice none 0 0) ∧ get l 9 = (ptr A3 0 2) ∧ get l 12 = fv ∧ get l 13 = I cs.length ∧ get l 14 = I i ∧ get l 24 = (aD o.dvs a).sv ∧ get l 25 = I (aD o.dvs a).stops.length ∧ ∃ (k : Nat) (ow : Value), (n + k = (aD o.dvs a).stops.length) ∧ get l 26 = I k ∧ get l 7 = ow ∧ St Tryz.prog H H' [⟨ptr A1 0 4, 0, [(.string o.name), o.rv, o.dv, o.cv]⟩, ⟨ptr A2 0 3, 0, [sv, (.int .u64 rg.cpl), (.int .u64 rg.off)]⟩, ⟨ow, 2, pr ((cs.take i).flatMap (jA o rg) ++ fZ o rg (aD cs i) k)⟩, ⟨ptr A3 0 2, 0, [I a, I (aD cs i).2]⟩]) (aD o.dvs a).stops.length ?_ ?_
  ·simp (disch := omega) only [RB, RC, simprocAttr, hn, g3, g4, g6, g12, g13, g14, g7]
   refine ⟨0, ov, by omega, rfl, rfl, ?_⟩
   rw [show fZ o rg (aD cs i) 0 = [] from rfl, List.append_nil]
   exact hS6
  rintro n l H6 ⟨hn, g3, g4, g6, g9, g12, g13, g14, g24, g25, k, ow, hj, g26, g7, hS7⟩
  simp (disch := omega) only [↓RA, RB, simprocAttr, hn, g25, g26]
  first | refine aA (fun q2 => ?_) (fun q2 => ?_) | refine aB (fun q2 => ?_) (fun q2 => ?_)
  ·have e1 := a2i (aD rg.stops a) k hsx
   have e2 := a2g (aD rg.stops a >>> k) (tX k hsx)
   have e3 := tb (aD rg.stops a) k
   have hsu := sP o rg (aD cs i) k
   rw [hta] at hsu
   have hKl := sC hf rg (hfo _ (aG (xs := cs) (j := i) (by omega))) k (by rw [hta]; omega)
   have hKp : (pr (fZ o rg (aD cs i) k)).length ≤ 2000 := by rw [aN]; omega
   simp (disch := omega) only [↓RA, RZ, simprocAttr, hn, g24, g26, (hS7.sl (ho.2.2.2.1 (aD o.dvs a) (aG (by omega))).1).idx, (hS7.sl (ho.2.2.2.1 (aD o.dvs a) (aG (by omega))).1).ldA, Stp.cells, q2]
   refine hS7.eNew 4 [(.string ⟨#[]⟩), I 0, I 0, (.slice none 0 0)] rfl rfl rfl jG fun A4 H7 hS8 => ?_
   simp only [RT] at hS8
   simp (disch := omega) only [↓RA, RZ, simprocAttr, hn, q2]
   refine hS8.eStore 4 rfl [(.string (aD (aD o.dvs a).stops k).name), I (aD (aD o.dvs a).stops k).num, I (aD (aD o.dvs a).stops k).den, (aD (aD o.dvs a).stops k).gv] rfl (by simp [OC, (hS8.sl ((ho.2.2.2.1 (aD o.dvs a) (aG (by omega))).2.1 (aD (aD o.dvs a).stops k) (aG (by omega))).1).cells.2.1]) jG (by simp) fun H8 hS9 => ?_
   simp only [RT] at hS9
   simp (disch := omega) only [↓RA, RZ, simprocAttr, hn, g4, g9, hS9.ld 1 rfl, hS9.ld 3 rfl, (hS9.sl hr.1).idx, (hS9.sl hr.1).ld, one, u64, q2, e1, e2]
   first | refine aA (fun q3 => ?_) (fun q3 => ?_) | refine aB (fun q3 => ?_) (fun q3 => ?_)
   ·have hsu : fZ o rg (aD cs i) (k + 1) = fZ o rg (aD cs i) k ++ kL o.ranks (aD (aD o.dvs a).stops k) (aD cs i).2 := by rw [hsu, e3, if_pos (decide_eq_true (by omega))]
    have hpp : (pr (kL o.ranks (aD (aD o.dvs a).stops k) (aD cs i).2)).length ≤ 16 := by
     rw [aN]
     exact Nat.mul_le_mul_right 2 (zB _ _ _ (hf.draws a ha1 _ (aG (by omega))))
    simp (disch := omega) only [↓RA, RZ, simprocAttr, hn, g3, g9, g7, hS9.ld 0 rfl, hS9.ldA 4 rfl, hS9.ld 3 rfl, q2, q3]
    refine aC (a9a o.rv o.ranks (hS9.sl ho.1) (fun q hq => (ho.2.1 q hq).keep hS9) ho.2.2.2.2.2.1 (aD (aD o.dvs a).stops k) (((ho.2.2.2.1 _ (aG ha1)).2.1 _ (aG (by omega))).keep hS9) (hf.draws a ha1 _ (aG (by omega))) (aD cs i).2) ?_
    rintro r H9 ⟨hx, hT1⟩
    have hS10 := hS9.trans hT1
    simp only [RT] at hS10
    simp (disch := omega) only [↓RA, RZ, simprocAttr, hn, q2, q3]
    refine hS10.eAppend 2 rfl hx.1.rd b7R (by have h := hpp; unfold pr at h; rw [cB, List.length_append]; omega) fun w1 H10 hS11 => ?_
    simp only [RT] at hS11
    simp (disch := omega) only [↓RA, RZ, simprocAttr, hn, g3, g4, g6, g9, g12, g13, g14, g24, g25, g26, q2, q3]
    refine ⟨n - 1, by omega, k + 1, w1, by omega, by simp, rfl, ?_⟩
    rw [hsu, ← List.append_assoc, cB]
    exact hS11.pick [0, 1, 2, 3] (by decide) rfl
   have hsu : fZ o rg (aD cs i) (k + 1) = fZ o rg (aD cs i) k := by rw [hsu, e3, if_neg (by rw [decide_eq_true_iff]; omega), List.append_nil]
   simp (disch := omega) only [↓RA, RZ, simprocAttr, hn, g3, g4, g6, g9, g12, g13, g14, g24, g25, g26, g7, q2, q3]
   refine ⟨n - 1, by omega, k + 1, ow, by omega, by simp, rfl, ?_⟩
   rw [hsu]
   exact hS9.pick [0, 1, 2, 3] (by decide) rfl
  simp (disch := omega) only [↓RA, RZ, simprocAttr, hn, g3, g4, g6, g12, g13, g14, g7, q2]
  refine ⟨cs.length - (i + 1), by omega, i + 1, ow, by omega, by simp, rfl, ?_⟩
  have hkk : k = (aD o.dvs a).stops.length := by omega
  rw [htk, List.flatMap_append, List.flatMap_cons, List.flatMap_nil, List.append_nil]
  have e : jA o rg (aD cs i) = fZ o rg (aD cs i) k := by rw [hkk, ← hta]; rfl
  rw [e]
  exact hS7.pick [0, 1, 2] (by decide) rfl
 simp (disch := omega) only [↓RA, RZ, simprocAttr, hn, g7, q1]
 have hii : i = cs.length := by omega
 subst hii
 rw [List.take_length] at hS4
 have hLL : (cs.flatMap (jA o rg)).length < 1000000 := by
  have := mU hf rg cs hfo
  omega
 refine c0Z hS4 2 rfl hLL fun HS hSS => ?_
 simp only [List.set_cons_succ, List.set_cons_zero] at hSS
 simp (disch := omega) only [↓RA, RZ, simprocAttr, hn, g7, q1]
 have hM1 := hSS.pick (os' := [⟨ov, 2, _⟩]) [2] (by decide) rfl
 have hR1 := hSS.pick (os' := [⟨ov, 2, _⟩, ⟨ptr A1 0 4, 0, _⟩, ⟨ptr A2 0 3, 0, _⟩]) [2, 0, 1] (by decide) rfl
 refine aC (sY hM1.rebase (by rw [gX]; exact hLL)) ?_
 rintro r H11 ⟨rest, hb, hrd, hT2⟩
 have hS12 := hR1.frame hT2
 simp only [RT] at hS12
 have hrr := hrd _ (hS12.rd 0 rfl)
 have hrc := hrr.cells
 simp (disch := omega) only [↓RA, RZ, simprocAttr, hn, b8E, q1]
 refine ⟨⟨⟨hrr, eJ, by decide⟩, fun b h => ?_⟩, hS12.forget⟩
 rcases hS12.new _ (List.mem_cons_self ..) b (hb b h) with h | h
 ·exact h
 ·exact h.elim
end Go.Ds
namespace Go.Ds
open Go.Proofs
variable {H : Heap}
set_option maxRecDepth 10000
theorem Sl.noTup {α : Type} {n : Nat} {cel : α → List Value} {v : Value} {xs : List α} (h : Sl n cel H v xs) : bN v = true := by
 rcases h.rd with ⟨rfl, _⟩ | ⟨A, i, e, row, ty, rw, lo, ver, n, _, _, _, _, _, _, rfl⟩ <;> rfl
theorem b6H {α : Type} [Inhabited α] [DecidableEq α] {l : List α} {x : α} (h : x ∈ dd l) : x ∈ l := by
 unfold dd sR at h
 obtain ⟨i, hi, rfl⟩ := List.mem_map.1 h
 exact aG (List.mem_range.1 (List.mem_filter.1 hi).1)
theorem b3v {l : List (Int × Int)} {x : Int × Int} : x ∈ oW l ↔ x ∈ l := (hP l).mem_iff
theorem Que.bfs {o : Org} (cp : Nat) : ∀ (n i : Nat) {q : List Ct}, Que o q → Que o (bfs o cp n i q)
 | 0, _, _, h => h
 | n + 1, i, q, h => by
   rw [Go.Ds.bfs]
   split
   ·exact Que.bfs cp n (i + 1) (h.stepF cp true _)
   ·exact h
theorem uK {o : Org} {rg : Reg} {l : List Ct} (hl : ∀ c ∈ l, lC o c = true) : ∀ c ∈ mQ o rg l, lC o c = true := by
 intro c hc
 unfold mQ at hc
 have hc := b3v.1 (b6H hc)
 rcases List.mem_append.1 hc with h | h
 ·exact hl c (List.mem_filter.1 h).1
 ·exact ((jF o rg.cpl l).bfs rg.cpl 1100 0).2 c h
theorem vD {o : Org} (hf : o.Fine) {rg : Reg} {l : List Ct} (hl : l.length ≤ 1024) : (mQ o rg l).length ≤ 2048 := by
 unfold mQ
 refine Nat.le_trans (b0F _) ?_
 rw [gX, List.length_append]
 have h1 := List.length_filter_le (fun c : Ct => !rg.off.testBit c.1.toNat) l
 have h2 := ((jF o rg.cpl l).bfs rg.cpl 1100 0).len hf
 omega
theorem a2Y (o : Org) (ho : o.In H) (hf : o.Fine) (rg : Reg) (sv : Value) (hr : rg.In H sv) (hrl : rg.stops.length = o.dvs.length) (fv : Value) (cs : List Ct) (hfi : Sl 2 cU H fv cs) (hfl : cs.length ≤ 1024) (hfo : ∀ c ∈ cs, lC o c = true) :
 Fn Tryz.prog 121 [.agg #[.string o.name, o.rv, o.dv, o.cv], .agg #[sv, .int .u64 rg.cpl, .int .u64 rg.off], fv] H fun rr H' => Slx 2 cU H' (fun B => H.length ≤ B) rr (a0Z o rg cs) ∧ St Tryz.prog H H' [] := by
 refine Fn.of_sw Tryz.func121 rfl (by kernel_rfl) fun l hl => ?_
 have hn : l.length = 14 := by rw [hl]; rfl
 have g0 : get l 0 = (.agg #[(.string o.name), o.rv, o.dv, o.cv]) := by rw [hl]; rfl
 have g1 : get l 1 = (.agg #[sv, (.int .u64 rg.cpl), (.int .u64 rg.off)]) := by rw [hl]; rfl
 have g2 : get l 2 = fv := by rw [hl]; rfl
 clear hl
 simp (disch := omega) only [↓RA, RB, simprocAttr, g0]
 refine (St.refl Tryz.prog H).eNew 4 [(.string o.name), o.rv, o.dv, o.cv] rfl rfl (by simp [OC, ((St.refl Tryz.prog H).sl ho.1).cells.2.1, ((St.refl Tryz.prog H).sl ho.2.2.1).cells.2.1, ((St.refl Tryz.prog H).sl ho.2.2.2.2.1).cells.2.1]) eU fun A1 H1 hS1 => ?_
 simp only [RT] at hS1
 simp (disch := omega) only [↓RA, RB, simprocAttr, g1]
 refine hS1.eNew 3 [sv, (.int .u64 rg.cpl), (.int .u64 rg.off)] rfl rfl (by simp [OC, (hS1.sl hr.1).cells.2.1]) eB fun A2 H2 hS2 => ?_
 simp only [RT] at hS2
 simp (disch := omega) only [↓RA, RB, simprocAttr]
 refine Wp.drwT cA [(0, 6), (1, 6)] (by kernel_rfl) (by kernel_rfl) ?_
 simp (disch := omega) only [↓RA, RZ, simprocAttr, hn, g2, hS2.ldA 0 rfl, hS2.ldA 1 rfl]
 refine aC (a1T o (ho.keep hS2) hf rg sv (hr.keep hS2) fv cs (hS2.sl hfi) hfl hfo) ?_
 rintro r H3 ⟨hx, hT1⟩
 have hS3 := hS2.trans hT1
 simp only [RT] at hS3
 simp (disch := omega) only [↓RA, RZ, simprocAttr, hn]
 have hSd := hS3
 refine aC (b1l o (ho.keep hS3) hf rg sv (hr.keep hS3) hrl r (mQ o rg cs) hx.1 (vD hf hfl) (uK hfo)) ?_
 rintro r2 H9 ⟨hx2, hT9⟩
 have hS9 := hSd.trans hT9
 simp only [RT] at hS9
 have hc2 := hx2.1.cells
 simp (disch := omega) only [↓RA, RZ, simprocAttr, hn, hS3.ldA 0 rfl, hS3.ldA 1 rfl, b9c]
 refine ⟨⟨hx2.1, fun b h => ?_⟩, hS9.forget⟩
 have := hx2.2 b h
 have : H.length ≤ _ := hSd.len
 omega
def rgc (p : Value × Reg) : List Value := [p.1, .int .u64 p.2.cpl, .int .u64 p.2.off]
def nA (o : Org) (l : List (Value × Reg)) : Int := if organE o ≠ 0 then organE o else dK (fun j => cX o (aD l j).2) l.length
theorem a6P (o : Org) (ho : o.In H) (lv : Value) (xs : List (Value × Reg)) (hl : Sl 3 rgc H lv xs) (hle : xs.length < 1000000000) (hr : ∀ p ∈ xs, p.2.In H p.1) :
 Fn Tryz.prog 180 [.agg #[.string o.name, o.rv, o.dv, o.cv], lv] H fun r H' => r = I (nA o xs) ∧ St Tryz.prog H H' [] := by
 refine Fn.of_sw Tryz.func180 rfl (by kernel_rfl) fun l hl => ?_
 have hn : l.length = 27 := by rw [hl]; rfl
 have g0 : get l 0 = (.agg #[(.string o.name), o.rv, o.dv, o.cv]) := by rw [hl]; rfl
 have g1 : get l 1 = lv := by rw [hl]; rfl
 clear hl
 simp (disch := omega) only [↓RA, RB, simprocAttr, g0]
 refine (St.refl Tryz.prog H).eNew 4 [(.string o.name), o.rv, o.dv, o.cv] rfl rfl (by simp [OC, ((St.refl Tryz.prog H).sl ho.1).cells.2.1, ((St.refl Tryz.prog H).sl ho.2.2.1).cells.2.1, ((St.refl Tryz.prog H).sl ho.2.2.2.2.1).cells.2.1]) eU fun A1 H1 hS1 => ?_
 simp only [RT] at hS1
 simp (disch := omega) only [↓RA, RZ, simprocAttr, hn, hS1.ldA 0 rfl]
 refine aC (uL o (ho.keep hS1)) ?_
 rintro r H2 ⟨rfl, hT1⟩
 have hS2 := hS1.trans hT1
 simp only [RT] at hS2
 simp (disch := omega) only [↓RA, RB, simprocAttr, hn]
 first | refine aA (fun h1 => ?_) (fun h1 => ?_) | refine aB (fun h1 => ?_) (fun h1 => ?_)
 ·simp (disch := omega) only [↓RA, RZ, simprocAttr, hn, a8M, h1]
  exact ⟨by rw [nA, if_pos h1], hS2.forget⟩
 have hE : nA o xs = dK (fun j => cX o (aD xs j).2) xs.length := by rw [nA, if_neg h1]
 simp (disch := omega) only [↓RA, RZ, simprocAttr, hn, g1, (hS2.sl hl).len, h1]
 refine Wp.loopS (fun n l H' => l.length = 27 ∧ get l 2 = (ptr A1 0 4) ∧ get l 14 = lv ∧ get l 15 = I xs.length ∧ ∃ (j : Nat), (n + j = xs.length ∧ ∀ q, q < j → cX o (aD xs q).2 = 0) ∧ get l 16 = I j ∧ St Tryz.prog H H' [⟨ptr A1 0 4, 0, [(.string o.name), o.rv, o.dv, o.cv]⟩]) xs.length ?_ ?_
 ·simp (disch := omega) only [RB, RC, simprocAttr, hn]
  exact ⟨0, ⟨by omega, fun q hq => absurd hq (Nat.not_lt_zero _)⟩, rfl, hS2⟩
 rintro n l H3 ⟨hn, g2, g14, g15, j, ⟨hj,hz⟩, g16, hS3⟩
 simp (disch := omega) only [↓RA, RB, simprocAttr, hn, g15, g16]
 first | refine aA (fun q1 => ?_) (fun q1 => ?_) | refine aB (fun q1 => ?_) (fun q1 => ?_)
 ·simp (disch := omega) only [↓RA, RZ, simprocAttr, hn, g14, g16, (hS3.sl hl).idx, (hS3.sl hl).ldA, rgc, q1]
  refine hS3.eNew 3 [(.slice none 0 0), (.int .u64 0), (.int .u64 0)] rfl rfl rfl eB fun A2 H4 hS4 => ?_
  simp only [RT] at hS4
  simp (disch := omega) only [↓RA, RZ, simprocAttr, hn, q1]
  refine hS4.eStore 1 rfl [(aD xs j).1, (.int .u64 (aD xs j).2.cpl), (.int .u64 (aD xs j).2.off)] rfl (by simp [OC, (hS4.sl (hr (aD xs j) (aG (by omega))).1).cells.2.1]) eB (by simp) fun H5 hS5 => ?_
  simp only [RT] at hS5
  simp (disch := omega) only [↓RA, RZ, simprocAttr, hn, g2, hS5.ldA 0 rfl, hS5.ldA 1 rfl, q1]
  refine aC (a8L o (ho.keep hS5) (aD xs j).2 (aD xs j).1 ((hr _ (aG (by omega))).keep hS5)) ?_
  rintro r H6 ⟨rfl, hT2⟩
  have hS6 := hS5.trans hT2
  simp only [RT] at hS6
  simp (disch := omega) only [↓RA, RZ, simprocAttr, hn, q1]
  first | refine aA (fun q2 => ?_) (fun q2 => ?_) | refine aB (fun q2 => ?_) (fun q2 => ?_)
  ·simp (disch := omega) only [↓RA, RZ, simprocAttr, hn, a8M, q1, q2]
   exact ⟨by rw [hE, fT (fun j => cX o (aD xs j).2) xs.length j (by omega) q2 hz], hS6.forget⟩
  simp (disch := omega) only [↓RA, RZ, simprocAttr, hn, g2, g14, g15, g16, q1, q2]
  exact ⟨n - 1, by omega, j + 1, ⟨by omega, fun q hq => by rcases Nat.lt_succ_iff_lt_or_eq.1 hq with e | e; (· exact hz q e); (· rw [e]; exact Classical.not_not.1 q2)⟩, by simp, hS6.pick [0] (by decide) rfl⟩
 simp (disch := omega) only [↓RA, RZ, simprocAttr, hn, a8M, q1]
 exact ⟨by rw [hE, cP (fun j => cX o (aD xs j).2) xs.length fun q hq => hz q (by omega)], hS3.forget⟩
def a2H (o : Org) (rg : Reg) (c : Ct) : Int := if cX o rg ≠ 0 then cX o rg else sS o c
theorem a1Q (o : Org) (sv : Value) (rg : Reg) : nA o [(sv, rg)] = cX o rg := by
 unfold nA
 split
 ·rename_i h
  unfold cX
  rw [if_pos h]
 ·by_cases h : cX o rg = 0
  ·rw [h]
   exact cP _ _ fun j hj => by
    have : j = 0 := by simpa using hj
    rw [this]
    exact h
  ·exact fT (fun j => cX o (aD [(sv, rg)] j).2) 1 0 (by decide) h fun j hj => absurd hj (Nat.not_lt_zero _)
theorem b7q (o : Org) (ho : o.In H) (rg : Reg) (sv : Value) (hr : rg.In H sv) (c : Ct) :
 Fn Tryz.prog 129 [.agg #[.string o.name, o.rv, o.dv, o.cv], .agg #[sv, .int .u64 rg.cpl, .int .u64 rg.off], .agg #[I c.1, I c.2]] H fun r H' => r = I (a2H o rg c) ∧ St Tryz.prog H H' [] := by
 refine Fn.of_sw Tryz.func129 rfl (by kernel_rfl) fun l hl => ?_
 have hn : l.length = 18 := by rw [hl]; rfl
 have g0 : get l 0 = (.agg #[(.string o.name), o.rv, o.dv, o.cv]) := by rw [hl]; rfl
 have g1 : get l 1 = (.agg #[sv, (.int .u64 rg.cpl), (.int .u64 rg.off)]) := by rw [hl]; rfl
 have g2 : get l 2 = (.agg #[I c.1, I c.2]) := by rw [hl]; rfl
 clear hl
 simp (disch := omega) only [↓RA, RB, simprocAttr, g0]
 refine (St.refl Tryz.prog H).eNew 4 [(.string o.name), o.rv, o.dv, o.cv] rfl rfl (by simp [OC, ((St.refl Tryz.prog H).sl ho.1).cells.2.1, ((St.refl Tryz.prog H).sl ho.2.2.1).cells.2.1, ((St.refl Tryz.prog H).sl ho.2.2.2.2.1).cells.2.1]) eU fun A1 H1 hS1 => ?_
 simp only [RT] at hS1
 simp (disch := omega) only [↓RA, RB, simprocAttr, g1]
 refine hS1.eNew 3 [sv, (.int .u64 rg.cpl), (.int .u64 rg.off)] rfl rfl (by simp [OC, (hS1.sl hr.1).cells.2.1]) eB fun A2 H2 hS2 => ?_
 simp only [RT] at hS2
 simp (disch := omega) only [↓RA, RB, simprocAttr, g2]
 refine hS2.eNew 2 [I c.1, I c.2] rfl rfl rfl iL fun A3 H3 hS3 => ?_
 simp only [RT] at hS3
 simp (disch := omega) only [↓RA, RZ, simprocAttr, hn, hS3.ldA 0 rfl, hS3.ldA 1 rfl]
 refine hS3.eSlice [sv, (.int .u64 rg.cpl), (.int .u64 rg.off)] c0w c1f rfl rfl (by first | (simp []; done) | simp [Value.cells]) (by first | (simp []; done) | simp [Value.cells]) (by simp [OC, (hS3.sl hr.1).cells.2.1]) (by decide) (by decide) fun w1 H4 hS4 => ?_
 simp only [RT] at hS4
 simp (disch := omega) only [↓RA, RZ, simprocAttr, hn]
 refine aC (a6P o (ho.keep hS4) w1 [(sv, rg)] (hS4.slo 3 rfl (fun _ => rfl)) (by simp) (by intro p hp; rw [List.mem_singleton.1 hp]; exact hr.keep hS4)) ?_
 rintro r H5 ⟨rfl, hT1⟩
 have hS5 := hS4.trans hT1
 simp only [RT] at hS5
 have hsc := a1Q o sv rg
 simp (disch := omega) only [↓RA, RB, simprocAttr, hn, hsc]
 first | refine aA (fun h1 => ?_) (fun h1 => ?_) | refine aB (fun h1 => ?_) (fun h1 => ?_)
 ·simp (disch := omega) only [↓RA, RZ, simprocAttr, hn, b5C, hsc, h1]
  exact ⟨by rw [a2H, if_pos h1], hS5.forget⟩
 simp (disch := omega) only [↓RA, RZ, simprocAttr, hn, hS5.ldA 0 rfl, hS5.ldA 2 rfl, hsc, h1]
 refine aC (oR o (ho.keep hS5) c) ?_
 rintro r H6 ⟨rfl, hT2⟩
 have hS6 := hS5.trans hT2
 simp only [RT] at hS6
 simp (disch := omega) only [↓RA, RZ, simprocAttr, hn, b5C, hsc, h1]
 exact ⟨by rw [a2H, if_neg h1], hS6.forget⟩
def nW (o : Org) (rg : Reg) (c : Ct) : List Ct := if a2H o rg c = 0 then a0Z o rg [c] else []
theorem eN {o : Org} {rg : Reg} (h : cX o rg = 0) : organE o = 0 ∧ rg.stops.length = o.dvs.length := by
 unfold cX at h
 split at h
 ·rename_i hh; exact absurd h hh
 rename_i h1
 split at h
 ·omega
 exact ⟨Classical.not_not.1 h1, by omega⟩
theorem xX {o : Org} {rg : Reg} {c : Ct} (h : a2H o rg c = 0) : cX o rg = 0 ∧ lC o c = true := by
 unfold a2H at h
 split at h
 ·rename_i hh; exact absurd h hh
 ·rename_i hh
  exact ⟨Classical.not_not.1 hh, (lZ o c).1 h⟩
theorem b4Z (o : Org) (ho : o.In H) (rg : Reg) (sv : Value) (hr : rg.In H sv) (c : Ct) :
 Fn Tryz.prog 66 [.agg #[.string o.name, o.rv, o.dv, o.cv], .agg #[sv, .int .u64 rg.cpl, .int .u64 rg.off], .agg #[I c.1, I c.2]] H fun r H' => ∃ pv, r = .tuple #[pv, I (a2H o rg c)] ∧ Slx 2 cU H' (fun B => H.length ≤ B) pv (nW o rg c) ∧ St Tryz.prog H H' [] := by
 refine Fn.of_sw Tryz.func66 rfl (by kernel_rfl) fun l hl => ?_
 have hn : l.length = 21 := by rw [hl]; rfl
 have g0 : get l 0 = (.agg #[(.string o.name), o.rv, o.dv, o.cv]) := by rw [hl]; rfl
 have g1 : get l 1 = (.agg #[sv, (.int .u64 rg.cpl), (.int .u64 rg.off)]) := by rw [hl]; rfl
 have g2 : get l 2 = (.agg #[I c.1, I c.2]) := by rw [hl]; rfl
 clear hl
 simp (disch := omega) only [↓RA, RB, simprocAttr, g0]
 refine (St.refl Tryz.prog H).eNew 4 [(.string o.name), o.rv, o.dv, o.cv] rfl rfl (by simp [OC, ((St.refl Tryz.prog H).sl ho.1).cells.2.1, ((St.refl Tryz.prog H).sl ho.2.2.1).cells.2.1, ((St.refl Tryz.prog H).sl ho.2.2.2.2.1).cells.2.1]) eU fun A1 H1 hS1 => ?_
 simp only [RT] at hS1
 simp (disch := omega) only [↓RA, RB, simprocAttr, g1]
 refine hS1.eNew 3 [sv, (.int .u64 rg.cpl), (.int .u64 rg.off)] rfl rfl (by simp [OC, (hS1.sl hr.1).cells.2.1]) eB fun A2 H2 hS2 => ?_
 simp only [RT] at hS2
 simp (disch := omega) only [↓RA, RB, simprocAttr, g2]
 refine hS2.eNew 2 [I c.1, I c.2] rfl rfl rfl iL fun A3 H3 hS3 => ?_
 simp only [RT] at hS3
 simp (disch := omega) only [↓RA, RZ, simprocAttr, hn, hS3.ldA 0 rfl, hS3.ldA 1 rfl, hS3.ldA 2 rfl]
 refine aC (b7q o (ho.keep hS3) rg sv (hr.keep hS3) c) ?_
 rintro r H4 ⟨rfl, hT1⟩
 have hS4 := hS3.trans hT1
 simp only [RT] at hS4
 simp (disch := omega) only [↓RA, RB, simprocAttr, hn]
 first | refine aA (fun h1 => ?_) (fun h1 => ?_) | refine aB (fun h1 => ?_) (fun h1 => ?_)
 ·simp (disch := omega) only [↓RA, RZ, simprocAttr, hn, b9K, h1]
  exact ⟨.slice none 0 0, rfl, ⟨⟨.inl ⟨rfl, by rw [nW, if_neg h1]; rfl⟩, eJ, by decide⟩, fun b h => by simp [cM] at h⟩, hS4.forget⟩
 have h0 := Classical.not_not.1 h1
 obtain ⟨hz1, hz2⟩ := xX h0
 obtain ⟨hz3, hz4⟩ := eN hz1
 simp (disch := omega) only [↓RA, RZ, simprocAttr, hn, hS4.ldA 0 rfl, hS4.ldA 1 rfl, hS4.ldA 2 rfl, h1]
 refine hS4.eSlice [I c.1, I c.2] nP a2x rfl rfl (by simp [Value.cells]) rfl rfl (by decide) (by decide) fun w1 H5 hS5 => ?_
 simp only [RT] at hS5
 simp (disch := omega) only [↓RA, RZ, simprocAttr, hn, h1]
 have hSd := hS5
 refine aC (a2Y o (ho.keep hS5) (Org.fine hz3) rg sv (hr.keep hS5) hz4 w1 [c] (hS5.slo 3 rfl eJ) (by simp) (by intro x hx; rw [List.mem_singleton.1 hx]; exact hz2)) ?_
 rintro r H6 ⟨hx, hT2⟩
 have hS6 := hS5.trans hT2
 simp only [RT] at hS6
 simp (disch := omega) only [↓RA, RZ, simprocAttr, hn, b9K, h1, hx.1.noTup]
 refine ⟨r, by rw [h0], ⟨by rw [nW, if_pos h0]; exact hx.1, fun b h => ?_⟩, hS6.forget⟩
 have := hx.2 b h
 have : H.length ≤ _ := hSd.len
 omega
end Go.Ds
namespace Go.Ds
open Go.Proofs
structure Ctl where
 kind : Int
 dv : Int
 ix : Int
 deriving Inhabited, DecidableEq
def Ctl.cells (c : Ctl) : List Value := [I c.kind, I c.dv, I c.ix]
def fB (n : Nat) : List Nat := (List.range 64).filter fun i => n.testBit i
def nH (d : Nat) (i : Nat) : Ctl := ⟨1, (d : Int), (i : Int)⟩
def nJ (i : Nat) : Ctl := ⟨2, 0, (i : Int)⟩
def xH (i : Nat) : Ctl := ⟨3, (i : Int), 0⟩
def dD (r : Reg) : List Ctl := ((List.range r.stops.length).flatMap fun d => (fB (aD r.stops d)).map (nH d)) ++ (fB r.cpl).map nJ ++ (fB r.off).map xH
def fP (n : Nat) (i : Int) : Nat := (BitVec.ofNat 64 n &&& ~~~ BitVec.ofNat 64 (2 ^ i.toNat)).toNat
def bU (r : Reg) (c : Ctl) : Reg := if c.kind = 1 then { r with stops := r.stops.set c.dv.toNat (fP (aD r.stops c.dv.toNat) c.ix) } else if c.kind = 2 then { r with cpl := fP r.cpl c.ix } else { r with off := fP r.off c.dv }
def gD (o : Org) (i : Nat) : List Ct := (List.range ((aD o.dvs i).hi - (aD o.dvs i).lo + 1).toNat).map fun (k : Nat) => ((i : Int), (aD o.dvs i).lo + (k : Int))
def cC (o : Org) : List Ct := (List.range o.dvs.length).flatMap (gD o)
def dT (o : Org) (r : Reg) : List (List Ct) := (cC o).map (nW o r)
def dN (o : Org) (r : Reg) : List Ctl := (dD r).filter fun c => decide (dT o (bU r c) = dT o r)
end Go.Ds
namespace Go.Ds
open Go.Proofs
variable {H : Heap}
set_option maxRecDepth 10000
set_option maxHeartbeats 1000000
theorem Wp.of_eqS {P : Program} {c c' : Code} {l l' : List Value} {Q : fI} (hc : c' = c) (hl : l' = l) (h : SW P c l H Q) : Wp P c' l' H Q := by
 subst hc hl; exact h.wp
theorem Wp.slots {P : Program} {c : Code} {l : List Value} {Q : fI} (h : ∀ l', l' = l → Wp P c l' H Q) : Wp P c l H Q := h l rfl
theorem Wp.rangeR {P : Program} {t : Tmp} {ps : Array Tmp} {assign body : Code} {l : List Value} {Q : fI} {k : FuncId} {captured : List Value} (hg : get l t = .func (.func k) #[] captured.toArray)
 (h : ∀ r : Loop, r.state = .ready → r.pending = none → r.tmps = l.toArray → r.params = ps → r.assign = assign → r.body = body →
   FnS P k ([.func (.yield H.length) #[] #[]] ++ captured) (H.cons (.loop r)) (b0U P l H.length Q)) : Wp P (.rangeFunc (.tmp t) ps assign body) l H Q :=
 Wp.range (first := []) rfl hg (h (a6x l ps assign body) rfl rfl rfl rfl rfl rfl)
theorem Lp.bodyF {P : Program} {B : Base} {L : Nat} {r : Loop} {H2 : Heap} {ls rest ls' : List Ob} (h : Lp P B L r H (ls ++ rest)) (h2 : St P ⟨H, iX ls⟩ H2 ls') : Lp P B L r H2 (ls' ++ rest) where
 st := h.st.frame h2
 get := by rw [h2.other (bG h.get) fun o ho => h.ne o (List.mem_append_left _ ho)]; exact h.get
 lo := h.lo
 ne o ho hb := by
  rcases List.mem_append.1 ho with ho | ho
  ·have hl := bG h.get
   rcases h2.new o ho L hb with h3 | ⟨o', ho', hb'⟩
   ·have h3 : H.length ≤ L := h3
    omega
   ·exact h.ne o' (List.mem_append_left _ ho') hb'
  ·exact h.ne o (List.mem_append_right _ ho) hb
theorem Lp.left {P : Program} {B : Base} {L : Nat} {r : Loop} {ls rest : List Ob} (h : Lp P B L r H (ls ++ rest)) : Lp P B L r H ls := h.sub (List.sublist_append_left _ _)
theorem OwnAt.var {P : Program} {A n : Nat} {cs : List Value} (h : OwnAt P H ⟨ptr A 0 n, 0, cs⟩) : Var H A n cs := by
 unfold OwnAt at h
 rw [if_pos rfl] at h
 rcases h with ⟨A', ty, lo, ver, h1, h2, h3⟩ | ⟨A', es, ck, ver, _, _, h3⟩
 ·simp only [ptr, Value.pointer.injEq, Option.some.injEq, Addr.mk.injEq] at h3
  obtain ⟨rfl, _, hn⟩ := h3
  exact ⟨hn, ty, true, lo, ver, h1, h2⟩
 ·cases h3
theorem a0m (x : Nat) (hx : x < 18446744073709551616) (A : Nat) (f : Value) (J : Nat → Heap → Prop) (h0 : J 0 H) (hg : ∀ j H1, J j H1 → Var H1 A 1 [.int .u64 x])
 (hs : ∀ j H1, j < 64 → x.testBit j = false → J j H1 → J (j + 1) H1)
 (hf : ∀ j H1, j < 64 → x.testBit j = true → J j H1 → kB Tryz.prog f [I j] H1 fun v H2 => v = .bool true ∧ J (j + 1) H2) :
 FnS Tryz.prog 230 [f, ptr A 0 1] H fun _ H' => J 64 H' := by
 refine FnS.of_sw Tryz.func230 rfl (by kernel_rfl) fun l hl => ?_
 have hn : l.length = 19 := by rw [hl]; rfl
 have g0 : get l 0 = f := by rw [hl]; rfl
 have g1 : get l 1 = (ptr A 0 1) := by rw [hl]; rfl
 clear hl
 simp (disch := omega) only [↓RA, RB, simprocAttr]
 refine Wp.loopS (fun n l H' => l.length = 19 ∧ get l 0 = f ∧ get l 1 = ptr A 0 1 ∧ ∃ j : Nat, n + j = 64 ∧ get l 4 = I j ∧ J j H') 64 ?_ ?_
 ·simp (disch := omega) only [RB, RC, simprocAttr, hn, g0, g1]
  exact ⟨0, rfl, rfl, h0⟩
 rintro n l H9 ⟨hn, g0, g1, j, hj, g4, hJ⟩
 have hV := hg j H9 hJ
 simp (disch := omega) only [↓RA, RB, simprocAttr, hn, g4]
 first | refine aA (fun q1 => ?_) (fun q1 => ?_) | refine aB (fun q1 => ?_) (fun q1 => ?_)
 ·have e1 := a2i x j hx
  have e2 := a2g (x >>> j) (tX j hx)
  have e3 := tb x j
  simp (disch := omega) only [↓RA, RZ, simprocAttr, hn, g1, g4, hV.ld, q1, e1, e2]
  first | refine bY (fun q2 => ?_) (fun q2 => ?_) | refine aI (fun q2 => ?_) (fun q2 => ?_)
  ·simp (disch := omega) only [↓RA, RZ, simprocAttr, hn, g0, q1, q2]
   refine wB (hf j H9 (by omega) (by rw [e3]; exact decide_eq_true (by omega)) hJ) ?_
   rintro r H10 ⟨rfl, hJ2⟩
   simp (disch := omega) only [↓RA, RZ, simprocAttr, hn, g0, g1, g4, q1, q2]
   exact ⟨n - 1, by omega, j + 1, by omega, by simp, hJ2⟩
  simp (disch := omega) only [↓RA, RZ, simprocAttr, hn, g0, g1, g4, q1, q2]
  exact ⟨n - 1, by omega, j + 1, by omega, by simp, hs j _ (by omega) (by rw [e3]; exact decide_eq_false (by omega)) hJ⟩
 simp (disch := omega) only [↓RA, RZ, simprocAttr, c0b, q1]
 have e : j = 64 := by omega
 exact e ▸ hJ
theorem tA {n i : Nat} (h : i < n) : ∃ t, List.range n = List.range i ++ i :: t := by
 refine ⟨(List.range n).drop (i + 1), ?_⟩
 have h1 : (List.range n).take i = List.range i := by rw [List.take_range, Nat.min_eq_left (by omega)]
 have h2 := List.drop_eq_getElem_cons (l := List.range n) (i := i) (by simpa using h)
 rw [List.getElem_range] at h2
 rw [← h1, ← h2, List.take_append_drop]
def kF (o : Org) (i : Nat) : Nat := ((aD o.dvs i).hi - (aD o.dvs i).lo + 1).toNat
def kAt (o : Org) (i k : Nat) : Ct := ((i : Int), (aD o.dvs i).lo + (k : Int))
def pB (o : Org) (i k : Nat) : List Ct := (List.range i).flatMap (gD o) ++ (List.range k).map (kAt o i)
theorem zQ (o : Org) (i k : Nat) : pB o i (k + 1) = pB o i k ++ [kAt o i k] := by
 unfold pB
 rw [List.range_succ, List.map_append, List.append_assoc]
 rfl
theorem rQ (o : Org) (i : Nat) : pB o i (kF o i) = (List.range (i + 1)).flatMap (gD o) := by
 unfold pB
 rw [List.range_succ, List.flatMap_append, List.flatMap_cons, List.flatMap_nil, List.append_nil]
 rfl
theorem uF (o : Org) {i k : Nat} (hi : i < o.dvs.length) (hk : k < kF o i) : ∃ e, cC o = pB o i k ++ kAt o i k :: e := by
 obtain ⟨t1, e1⟩ := tA hi
 obtain ⟨t2, e2⟩ := tA hk
 refine ⟨t2.map (kAt o i) ++ t1.flatMap (gD o), ?_⟩
 unfold cC pB
 rw [e1, List.flatMap_append, List.flatMap_cons]
 have : gD o i = (List.range (kF o i)).map (kAt o i) := rfl
 rw [this, e2, List.map_append, List.map_cons]
 simp
theorem a6i (o : Org) (hf : o.Fine) (rg : Reg) (sv : Value) (AO AR : Nat) (f : Value) (J : List Ct → List Ob → Heap → Prop) (h0 : J [] [] H)
 (hg : ∀ d xs H1, J d xs H1 → Var H1 AO 4 [.string o.name, o.rv, o.dv, o.cv] ∧ o.In H1 ∧ Var H1 AR 3 [sv, .int .u64 rg.cpl, .int .u64 rg.off] ∧ rg.In H1 sv ∧ ∀ x ∈ xs, OwnAt Tryz.prog H1 x)
 (hst : ∀ d xs H1 H2 ys, J d xs H1 → St Tryz.prog H1 H2 ys → J d (xs ++ ys) H2)
 (hdr : ∀ d xs ys H1, J d (xs ++ ys) H1 → J d xs H1)
 (hy : ∀ d c e xs H1 H2 pv, cC o = d ++ c :: e → J d xs H1 → St Tryz.prog H1 H2 [] → Slx 2 cU H2 (fun B => H1.length ≤ B) pv (nW o rg c) → kB Tryz.prog f [.agg #[I c.1, I c.2], pv] H2 fun v H3 => v = .bool true ∧ J (d ++ [c]) xs H3) :
 FnS Tryz.prog 174 [f, ptr AO 0 4, ptr AR 0 3] H fun _ H' => J (cC o) [] H' := by
 have hG0 := hg _ _ _ h0
 refine FnS.of_sw Tryz.func174 rfl (by kernel_rfl) fun l hl => ?_
 have hn : l.length = 44 := by rw [hl]; rfl
 have g0 : get l 0 = f := by rw [hl]; rfl
 have g1 : get l 1 = (ptr AO 0 4) := by rw [hl]; rfl
 have g2 : get l 2 = (ptr AR 0 3) := by rw [hl]; rfl
 clear hl
 simp (disch := omega) only [↓RA, RZ, simprocAttr, hn, g1, ((hG0.1.keep (St.refl Tryz.prog H).keep)).ld, ((St.refl Tryz.prog H).sl hG0.2.1.2.2.1).len]
 refine Wp.loopS (fun n l H' => l.length = 44 ∧ get l 0 = f ∧ get l 1 = ptr AO 0 4 ∧ get l 2 = ptr AR 0 3 ∧ get l 11 = o.dv ∧ get l 12 = I o.dvs.length ∧ ∃ i : Nat, n + i = o.dvs.length ∧ get l 13 = I i ∧ J ((List.range i).flatMap (gD o)) [] H') o.dvs.length ?_ ?_
 ·simp (disch := omega) only [RB, RC, simprocAttr, hn, g0, g1, g2]
  exact ⟨0, by omega, rfl, h0⟩
 rintro n l H9 ⟨hn, g0, g1, g2, g11, g12, i, hi, g13, hJ⟩
 obtain ⟨hV1, hO1, hV2, hR1, _⟩ := hg _ _ _ hJ
 have hdl := hO1.2.2.2.2.2.2.1
 simp (disch := omega) only [↓RA, RB, simprocAttr, hn, g12, g13]
 first | refine aA (fun q1 => ?_) (fun q1 => ?_) | refine aB (fun q1 => ?_) (fun q1 => ?_)
 ·have hki := hf.keys i (by omega)
  simp (disch := omega) only [↓RA, RZ, simprocAttr, hn, g11, g13, ((St.refl Tryz.prog H9).sl hO1.2.2.1).idx, ((St.refl Tryz.prog H9).sl hO1.2.2.1).ldA, Dvn.cells, q1]
  refine (St.refl Tryz.prog H9).eNew 5 [(.string ⟨#[]⟩), (.bool false), I 0, I 0, (.slice none 0 0)] rfl rfl rfl wZ fun A1 H1 hS1 => ?_
  simp only [RT] at hS1
  simp (disch := omega) only [↓RA, RZ, simprocAttr, hn, q1]
  refine hS1.eStore 0 rfl [(.string (aD o.dvs i).name), (.bool (aD o.dvs i).pedal), I (aD o.dvs i).lo, I (aD o.dvs i).hi, (aD o.dvs i).sv] rfl (by simp [OC, (hS1.sl (hO1.2.2.2.1 (aD o.dvs i) (aG (by omega))).1).cells.2.1]) wZ (by simp) fun H2 hS2 => ?_
  simp only [RT] at hS2
  simp (disch := omega) only [↓RA, RZ, simprocAttr, hn, hS2.ld 0 rfl, q1]
  have hJ1 := hst _ _ _ _ _ hJ hS2
  have hcn : (kF o i : Int) = (aD o.dvs i).hi - (aD o.dvs i).lo + 1 := by unfold kF; omega
  refine Wp.loopS (fun n l H' => l.length = 44 ∧ get l 0 = f ∧ get l 1 = ptr AO 0 4 ∧ get l 2 = ptr AR 0 3 ∧ get l 4 = I i ∧ get l 5 = ptr A1 0 5 ∧ get l 11 = o.dv ∧ get l 12 = I o.dvs.length ∧ get l 13 = I i ∧ ∃ k : Nat, n + k = kF o i ∧ get l 6 = I ((aD o.dvs i).lo + k) ∧ J (pB o i k) [⟨ptr A1 0 5, 0, [.string (aD o.dvs i).name, .bool (aD o.dvs i).pedal, I (aD o.dvs i).lo, I (aD o.dvs i).hi, (aD o.dvs i).sv]⟩] H') (kF o i) ?_ ?_
  ·simp (disch := omega) only [RB, RC, simprocAttr, hn, g0, g1, g2, g11, g12, g13]
   refine ⟨0, by omega, by simp, ?_⟩
   have e : pB o i 0 = (List.range i).flatMap (gD o) := by unfold pB; simp
   rw [e]
   exact hJ1
  rintro n l H10 ⟨hn, g0, g1, g2, g4, g5, g11, g12, g13, k, hk, g6, hJ2⟩
  obtain ⟨hV3, hO3, hV4, hR3, hX3⟩ := hg _ _ _ hJ2
  have hV5 := (hX3 _ (List.mem_singleton.2 rfl)).var
  simp (disch := omega) only [↓RA, RZ, simprocAttr, hn, g5, g6, (hV5.keep (St.refl Tryz.prog H10).keep).ld]
  first | refine aA (fun q2 => ?_) (fun q2 => ?_) | refine aB (fun q2 => ?_) (fun q2 => ?_)
  ·simp (disch := omega) only [↓RA, RZ, simprocAttr, hn, g4, g6, qF, q2]
   refine (St.refl Tryz.prog H10).eNew 2 [I 0, I 0] rfl rfl rfl iL fun A2 H3 hS3 => ?_
   simp only [RT] at hS3
   simp (disch := omega) only [↓RA, RZ, simprocAttr, hn, q2]
   refine hS3.eStore 0 rfl [I i, I ((aD o.dvs i).lo + k)] rfl rfl iL (by simp) fun H4 hS4 => ?_
   simp only [RT] at hS4
   simp (disch := omega) only [↓RA, RZ, simprocAttr, hn, g1, g2, (hV3.keep hS4.keep).ldA, (hV4.keep hS4.keep).ldA, hS4.ldA 0 rfl, q2]
   have hJ3 := hdr _ _ _ _ (hst _ _ _ _ _ hJ2 hS4)
   refine aC (b4Z o (hO3.keep hS4) rg sv (hR3.keep hS4) (kAt o i k)) ?_
   rintro r H5 ⟨pv, rfl, hx, hT1⟩
   have hS5 := hS4.trans hT1
   simp only [RT] at hS5
   simp (disch := omega) only [↓RA, RZ, simprocAttr, hn, g0, hS5.ldA 0 rfl, q2]
   obtain ⟨e, he⟩ := uF o (i := i) (k := k) (by omega) (by omega)
   refine wB (hy _ (kAt o i k) e _ _ _ pv he hJ3 hT1 hx) ?_
   rintro r H13 ⟨rfl, hJ4⟩
   rw [← zQ] at hJ4
   simp (disch := omega) only [↓RA, RZ, simprocAttr, hn, g0, g1, g2, g4, g5, g6, g11, g12, g13, q2]
   exact ⟨n - 1, by omega, k + 1, by omega, by congr 1; omega, hJ4⟩
  simp (disch := omega) only [↓RA, RZ, simprocAttr, hn, g0, g1, g2, g11, g12, g13, q2]
  have e : k = kF o i := by omega
  rw [e, rQ] at hJ2
  exact ⟨o.dvs.length - (i + 1), by omega, i + 1, by omega, by simp, hdr _ [] _ _ hJ2⟩
 simp (disch := omega) only [↓RA, RZ, simprocAttr, b9M, q1]
 have e : i = o.dvs.length := by omega
 subst e
 exact hJ
end Go.Ds
namespace Go.Ds
open Go.Proofs
variable {H : Heap}
set_option maxRecDepth 10000
set_option maxHeartbeats 1000000
def fK (x n : Nat) : List Nat := (List.range n).filter fun i => x.testBit i
theorem gU (x n : Nat) : fK x (n + 1) = fK x n ++ (if x.testBit n then [n] else []) := by
 unfold fK
 rw [List.range_succ, List.filter_append, List.filter_cons, List.filter_nil]
theorem iB (x n : Nat) : (fK x n).length ≤ n := by
 unfold fK
 refine Nat.le_trans (List.length_filter_le _ _) ?_
 simp
theorem a0W (x : Nat) : Fn Tryz.prog 173 [.int .u64 x] H fun r H' => ∃ A, r = .func (.func 230) #[] #[ptr A 0 1] ∧ St Tryz.prog H H' [⟨ptr A 0 1, 0, [.int .u64 x]⟩] := by
 refine Fn.of_sw Tryz.func173 rfl (by kernel_rfl) fun l hl => ?_
 have hn : l.length = 4 := by rw [hl]; rfl
 have g0 : get l 0 = (.int .u64 x) := by rw [hl]; rfl
 clear hl
 simp (disch := omega) only [↓RA, RB, simprocAttr, g0]
 refine (St.refl Tryz.prog H).eNew 1 [(.int .u64 x)] rfl rfl rfl wU fun A1 H1 hS1 => ?_
 simp only [RT] at hS1
 simp (disch := omega) only [↓RA, RZ, simprocAttr, hn, b9Q]
 exact ⟨A1, rfl, hS1⟩
abbrev dH (l : List Ctl) : List Value := l.flatMap Ctl.cells
theorem eE (l : List Ctl) : (dH l).length = l.length * 3 := aQ (n := 3) (fun _ => rfl) l
theorem pN (l : List Ctl) (x : Ctl) : dH (l ++ [x]) = dH l ++ [I x.kind, I x.dv, I x.ix] := by
 unfold dH
 rw [List.flatMap_append]
 rfl
def qE (rg : Reg) (d : Nat) : List Ctl := (List.range d).flatMap fun d => (fB (aD rg.stops d)).map (nH d)
theorem yL (rg : Reg) (d : Nat) : qE rg (d + 1) = qE rg d ++ (fK (aD rg.stops d) 64).map (nH d) := by
 unfold qE
 rw [List.range_succ, List.flatMap_append, List.flatMap_cons, List.flatMap_nil, List.append_nil]
 rfl
theorem tO (rg : Reg) : ∀ d, (qE rg d).length ≤ d * 64
 | 0 => by simp [qE]
 | d + 1 => by
   have := tO rg d
   have h2 := iB (aD rg.stops d) 64
   rw [yL, List.length_append, List.length_map]
   omega
theorem yY (rg : Reg) (sv : Value) (hr : rg.In H sv) (hl : rg.stops.length ≤ 60) : Fn Tryz.prog 105 [.agg #[sv, .int .u64 rg.cpl, .int .u64 rg.off]] H fun r H' => St Tryz.prog H H' [⟨r, 3, dH (dD rg)⟩] := by
 refine Fn.of_sw Tryz.func105 rfl (by kernel_rfl) fun l hl => ?_
 have hn : l.length = 46 := by rw [hl]; rfl
 have g0 : get l 0 = (.agg #[sv, (.int .u64 rg.cpl), (.int .u64 rg.off)]) := by rw [hl]; rfl
 clear hl
 simp (disch := omega) only [↓RA, RB, simprocAttr, g0]
 refine (St.refl Tryz.prog H).eNew 3 [sv, (.int .u64 rg.cpl), (.int .u64 rg.off)] rfl rfl (by simp [OC, ((St.refl Tryz.prog H).sl hr.1).cells.2.1]) eB fun A1 H1 hS1 => ?_
 simp only [RT] at hS1
 simp (disch := omega) only [↓RA, RZ, simprocAttr]
 refine hS1.eNew 1 [(.slice none 0 0)] rfl rfl rfl a9G fun A2 H2 hS2 => ?_
 simp only [RT] at hS2
 simp (disch := omega) only [↓RA, RZ, simprocAttr, hn, hS2.ld 0 rfl, (hS2.sl hr.1).len]
 have hS3 := hS2.nil 2
 simp only [RT] at hS3
 refine Wp.loopS (fun n l H' => l.length = 46 ∧ get l 1 = (ptr A1 0 3) ∧ get l 2 = (.slice none 0 0) ∧ get l 3 = (ptr A2 0 1) ∧ get l 10 = sv ∧ get l 11 = I rg.stops.length ∧ ∃ (d : Nat) (ov : Value), (n + d = rg.stops.length) ∧ get l 12 = I d ∧ St Tryz.prog H H' [⟨ptr A1 0 3, 0, [sv, (.int .u64 rg.cpl), (.int .u64 rg.off)]⟩, ⟨ptr A2 0 1, 0, [ov]⟩, ⟨ov, 3, dH (qE rg d)⟩]) rg.stops.length ?_ ?_
 ·simp (disch := omega) only [RB, RC, simprocAttr, hn]
  exact ⟨0, .slice none 0 0, by omega, rfl, hS3⟩
 rintro n l H3 ⟨hn, g1, g2, g3, g10, g11, d, ov, hd, g12, hS4⟩
 simp (disch := omega) only [↓RA, RB, simprocAttr, hn, g11, g12]
 first | refine aA (fun q1 => ?_) (fun q1 => ?_) | refine aB (fun q1 => ?_) (fun q1 => ?_)
 ·have hsx := hr.2.2.1 _ (aG (xs := rg.stops) (j := d) (by omega))
  have hal := tO rg d
  simp (disch := omega) only [↓RA, RZ, simprocAttr, hn, g10, g12, (hS4.sl hr.1).idx, (hS4.sl hr.1).ld, one, u64, q1]
  refine hS4.eNew 1 [I 0] rfl rfl rfl tS3 fun A3 H4 hS5 => ?_
  simp only [RT] at hS5
  simp (disch := omega) only [↓RA, RZ, simprocAttr, hn, q1]
  refine hS5.eStore 3 rfl [I d] rfl rfl tS3 (by simp) fun H5 hS6 => ?_
  simp only [RT] at hS6
  simp (disch := omega) only [↓RA, RZ, simprocAttr, hn, q1]
  refine aC (a0W (aD rg.stops d)) ?_
  rintro r H6 ⟨A4, rfl, hT1⟩
  have hS7 := hS6.trans hT1
  simp only [RT] at hS7
  simp (disch := omega) only [↓RA, RZ, simprocAttr, q1]
  refine Wp.slots fun lrg1 hlrg1 => ?_
  have hnrg1 : lrg1.length = 46 := by rw [hlrg1]; simp (disch := omega) only [RB, simprocAttr, hn]
  have g1rg1 : get lrg1 1 = (ptr A1 0 3) := by rw [hlrg1]; simp (disch := omega) only [RB, simprocAttr, g1]
  have g2rg1 : get lrg1 2 = (.slice none 0 0) := by rw [hlrg1]; simp (disch := omega) only [RB, simprocAttr, g2]
  have g3rg1 : get lrg1 3 = (ptr A2 0 1) := by rw [hlrg1]; simp (disch := omega) only [RB, simprocAttr, g3]
  have g4rg1 : get lrg1 4 = (ptr A3 0 1) := by rw [hlrg1]; simp (disch := omega) only [RB, simprocAttr, hn]
  have g10rg1 : get lrg1 10 = sv := by rw [hlrg1]; simp (disch := omega) only [RB, simprocAttr, g10]
  have g11rg1 : get lrg1 11 = I rg.stops.length := by rw [hlrg1]; simp (disch := omega) only [RB, simprocAttr, g11]
  have g12rg1 : get lrg1 12 = I d := by rw [hlrg1]; simp (disch := omega) only [RB, simprocAttr, g12]
  have gfrg1 : get lrg1 18 = .func (.func 230) #[] [(ptr A4 0 1)].toArray := by rw [hlrg1]; simp (disch := omega) only [RB, simprocAttr, hn]
  clear hlrg1
  refine Wp.rangeR gfrg1 fun rg1 hstrg1 hpdrg1 htmrg1 hpsrg1 hasrg1 hbdrg1 => ?_
  have hreqrg1 : ({ rg1 with state := .ready, pending := none } : Loop) = rg1 := by
   cases rg1
   simp only at hstrg1 hpdrg1
   subst hstrg1 hpdrg1
   rfl
  have hLprg1 := Lp.enter hS7 rg1
  generalize H6.cons (.loop rg1) = Hcrg1 at hLprg1 ⊢
  generalize H6.length = Lrg1 at hLprg1 ⊢
  refine (a0m (aD rg.stops d) hsx A4 (.func (.yield Lrg1) #[] #[]) (fun j H1 => ∃ ow, Lp Tryz.prog H Lrg1 rg1 H1 [⟨ptr A1 0 3, 0, [sv, .int .u64 rg.cpl, .int .u64 rg.off]⟩, ⟨ptr A2 0 1, 0, [ow]⟩, ⟨ow, 3, dH (qE rg d ++ (fK (aD rg.stops d) j).map (nH d))⟩, ⟨ptr A3 0 1, 0, [I d]⟩, ⟨ptr A4 0 1, 0, [.int .u64 ((aD rg.stops d : Nat) : Int)]⟩]) ⟨ov, ?_⟩ ?_ ?_ ?_).mono ?_
  ·rw [show (fK (aD rg.stops d) 0).map (nH d) = [] from rfl, List.append_nil]
   exact hLprg1
  ·rintro j H1 ⟨ow, h⟩
   exact h.st.var 4 rfl
  ·rintro j H1 hj hb ⟨ow, h⟩
   refine ⟨ow, ?_⟩
   rw [gU (aD rg.stops d) j, hb, if_neg (by simp), List.append_nil]
   exact h
  ·rintro j H20 hj hb ⟨ow, hLpj⟩
   have hbl := iB (aD rg.stops d) j
   have hroom : (dH (qE rg d ++ (fK (aD rg.stops d) j).map (nH d))).length ≤ 20000 := by
    rw [eE, List.length_append, List.length_map]
    omega
   refine fN hLpj.get (by rw [hpsrg1]; rfl) hstrg1 ?_
   refine Wp.of_eqS (l := put lrg1 (some 19) (I j)) hasrg1 (by rw [hpsrg1, htmrg1]; first | exact (cS ..).symm | rfl | simp [put, cS]) ?_
   simp (disch := omega) only [↓RA, RZ, simprocAttr, hnrg1]
   refine ⟨rg1, hLpj.get, hstrg1, ?_⟩
   have hYBs1 := hLpj.set (fun h => h) { rg1 with state := .busy }
   have hKBs1 : ∀ B, B ≠ Lrg1 → aP (hset H20 Lrg1 (.loop { rg1 with state := .busy })) B = aP H20 B := fun B h => aK _ (Ne.symm h)
   have hNBs1 : (hset H20 Lrg1 (.loop { rg1 with state := .busy })).length = H20.length := bF ..
   generalize hset H20 Lrg1 (.loop { rg1 with state := .busy }) = HBs1 at hYBs1 hKBs1 hNBs1 ⊢
   refine Wp.of_eqS hbdrg1 rfl ?_
   have hZBs1 := hYBs1.st
   obtain ⟨Bs1, hBBs1, hS8⟩ := hZBs1.rebaseE (os := [⟨ptr A1 0 3, 0, _⟩, ⟨ptr A2 0 1, 0, _⟩, ⟨ow, 3, _⟩, ⟨ptr A3 0 1, 0, _⟩, ⟨ptr A4 0 1, 0, _⟩])
   simp (disch := omega) only [↓RA, RZ, simprocAttr, hnrg1, g3rg1, g4rg1, hS8.ld 1 rfl, hS8.ld 3 rfl, a2P]
   refine hS8.eSlice [I 1, I d, I j] a2t b2j rfl rfl (by simp [Value.cells]) rfl rfl (by decide) (by decide) fun w1 H7 hS9 => ?_
   simp only [RT] at hS9
   simp (disch := omega) only [↓RA, RZ, simprocAttr, hnrg1]
   refine hS9.eAppend 2 rfl (hS9.rd 5 rfl) a2t (by have h := hroom; simp only [List.length_cons, List.length_nil]; omega) fun w2 H8 hS10 => ?_
   simp only [RT] at hS10
   simp (disch := omega) only [↓RA, RB, simprocAttr, hnrg1, g3rg1]
   refine hS10.eStore 1 rfl [w2] (by rw [(hS10.rd 2 rfl).cells.1]) (by simp [(hS10.rd 2 rfl).cells.2.1]) a9G (by simp) fun H9 hS11 => ?_
   simp only [RT] at hS11
   simp (disch := omega) only [↓RA, simprocAttr]
   have hS12 := hS11.pick (os' := [⟨ptr A1 0 3, 0, _⟩, ⟨ptr A2 0 1, 0, _⟩, ⟨w2, 3, _⟩, ⟨ptr A3 0 1, 0, _⟩, ⟨ptr A4 0 1, 0, _⟩]) [0, 1, 2, 3, 4] (by decide) rfl
   have hWBs1 := (hYBs1.body (hBBs1 ▸ hS12)).set (fun h => h) rg1
   rw [← hreqrg1] at hWBs1
   refine ⟨_, (hYBs1.body (hBBs1 ▸ hS12)).get, rfl, w2, ?_⟩
   rw [gU (aD rg.stops d) j, hb, if_pos rfl, List.map_append, ← List.append_assoc, List.map_cons, List.map_nil, pN]
   exact hreqrg1 ▸ hWBs1
  ·rintro _ H21 ⟨ow, hLp2⟩
   rw [← yL] at hLp2
   refine ⟨_, hLp2.get, (by rw [hstrg1]; exact fun h => by cases h), fun _ => ?_, fun c hc => by rw [hpdrg1] at hc; cases hc⟩
   have hAAf1 := (hLp2.set (fun h => h) { rg1 with state := .exhausted }).st
   have hKAf1 : ∀ B, B ≠ Lrg1 → aP (hset H21 Lrg1 (.loop { rg1 with state := .exhausted })) B = aP H21 B := fun B h => aK _ (Ne.symm h)
   generalize hset H21 Lrg1 (.loop { rg1 with state := .exhausted }) = HAf1 at hAAf1 hKAf1 ⊢
   simp (disch := omega) only [↓RA, RZ, simprocAttr, hnrg1, g1rg1, g2rg1, g3rg1, g10rg1, g11rg1, g12rg1]
   exact ⟨rg.stops.length - (d + 1), by omega, d + 1, ow, by omega, by simp, hAAf1.pick [0, 1, 2] (by decide) rfl⟩
 have hdd : d = rg.stops.length := by omega
 subst hdd
 have hal := tO rg rg.stops.length
 simp (disch := omega) only [↓RA, RZ, simprocAttr, hn, g1, hS4.ld 0 rfl, q1]
 refine aC (a0W rg.cpl) ?_
 rintro r H10 ⟨A5, rfl, hT2⟩
 have hS13 := hS4.trans hT2
 simp only [RT] at hS13
 simp (disch := omega) only [↓RA, RC, simprocAttr, q1]
 refine Wp.slots fun lrg2 hlrg2 => ?_
 have hnrg2 : lrg2.length = 46 := by rw [hlrg2]; simp (disch := omega) only [RB, simprocAttr, hn]
 have g1rg2 : get lrg2 1 = (ptr A1 0 3) := by rw [hlrg2]; simp (disch := omega) only [RB, simprocAttr, g1]
 have g2rg2 : get lrg2 2 = (.slice none 0 0) := by rw [hlrg2]; simp (disch := omega) only [RB, simprocAttr, g2]
 have g3rg2 : get lrg2 3 = (ptr A2 0 1) := by rw [hlrg2]; simp (disch := omega) only [RB, simprocAttr, g3]
 have gfrg2 : get lrg2 29 = .func (.func 230) #[] [(ptr A5 0 1)].toArray := by rw [hlrg2]; simp (disch := omega) only [RB, simprocAttr, hn]
 clear hlrg2
 refine Wp.rangeR gfrg2 fun rg2 hstrg2 hpdrg2 htmrg2 hpsrg2 hasrg2 hbdrg2 => ?_
 have hreqrg2 : ({ rg2 with state := .ready, pending := none } : Loop) = rg2 := by
  cases rg2
  simp only at hstrg2 hpdrg2
  subst hstrg2 hpdrg2
  rfl
 have hLprg2 := Lp.enter hS13 rg2
 generalize H10.cons (.loop rg2) = Hcrg2 at hLprg2 ⊢
 generalize H10.length = Lrg2 at hLprg2 ⊢
 refine (a0m rg.cpl hr.2.2.2.1 A5 (.func (.yield Lrg2) #[] #[]) (fun j H1 => ∃ ow, Lp Tryz.prog H Lrg2 rg2 H1 [⟨ptr A1 0 3, 0, [sv, .int .u64 rg.cpl, .int .u64 rg.off]⟩, ⟨ptr A2 0 1, 0, [ow]⟩, ⟨ow, 3, dH (qE rg rg.stops.length ++ (fK rg.cpl j).map nJ)⟩, ⟨ptr A5 0 1, 0, [.int .u64 (rg.cpl : Int)]⟩]) ⟨ov, ?_⟩ ?_ ?_ ?_).mono ?_
 ·rw [show (fK rg.cpl 0).map nJ = [] from rfl, List.append_nil]
  exact hLprg2
 ·rintro j H1 ⟨ow, h⟩
  exact h.st.var 3 rfl
 ·rintro j H1 hj hb ⟨ow, h⟩
  refine ⟨ow, ?_⟩
  rw [gU rg.cpl j, hb, if_neg (by simp), List.append_nil]
  exact h
 ·rintro j H20 hj hb ⟨ow, hLpj⟩
  have hbl := iB rg.cpl j
  have hroom : (dH (qE rg rg.stops.length ++ (fK rg.cpl j).map nJ)).length ≤ 20000 := by
   rw [eE, List.length_append, List.length_map]
   omega
  refine fN hLpj.get (by rw [hpsrg2]; rfl) hstrg2 ?_
  refine Wp.of_eqS (l := put lrg2 (some 30) (I j)) hasrg2 (by rw [hpsrg2, htmrg2]; first | exact (cS ..).symm | rfl | simp [put, cS]) ?_
  simp (disch := omega) only [↓RA, RZ, simprocAttr, hnrg2]
  refine ⟨rg2, hLpj.get, hstrg2, ?_⟩
  have hYBs2 := hLpj.set (fun h => h) { rg2 with state := .busy }
  have hKBs2 : ∀ B, B ≠ Lrg2 → aP (hset H20 Lrg2 (.loop { rg2 with state := .busy })) B = aP H20 B := fun B h => aK _ (Ne.symm h)
  have hNBs2 : (hset H20 Lrg2 (.loop { rg2 with state := .busy })).length = H20.length := bF ..
  generalize hset H20 Lrg2 (.loop { rg2 with state := .busy }) = HBs2 at hYBs2 hKBs2 hNBs2 ⊢
  refine Wp.of_eqS hbdrg2 rfl ?_
  have hZBs2 := hYBs2.st
  obtain ⟨Bs2, hBBs2, hS14⟩ := hZBs2.rebaseE (os := [⟨ptr A1 0 3, 0, _⟩, ⟨ptr A2 0 1, 0, _⟩, ⟨ow, 3, _⟩, ⟨ptr A5 0 1, 0, _⟩])
  simp (disch := omega) only [↓RA, RZ, simprocAttr, hnrg2, g3rg2, hS14.ld 1 rfl, yP]
  refine hS14.eSlice [I 2, I 0, I j] a2t b2j rfl rfl (by simp [Value.cells]) rfl rfl (by decide) (by decide) fun w3 H11 hS15 => ?_
  simp only [RT] at hS15
  simp (disch := omega) only [↓RA, RZ, simprocAttr, hnrg2]
  refine hS15.eAppend 2 rfl (hS15.rd 4 rfl) a2t (by have h := hroom; simp only [List.length_cons, List.length_nil]; omega) fun w4 H12 hS16 => ?_
  simp only [RT] at hS16
  simp (disch := omega) only [↓RA, RB, simprocAttr, hnrg2, g3rg2]
  refine hS16.eStore 1 rfl [w4] (by rw [(hS16.rd 2 rfl).cells.1]) (by simp [(hS16.rd 2 rfl).cells.2.1]) a9G (by simp) fun H13 hS17 => ?_
  simp only [RT] at hS17
  simp (disch := omega) only [↓RA, simprocAttr]
  have hS18 := hS17.pick (os' := [⟨ptr A1 0 3, 0, _⟩, ⟨ptr A2 0 1, 0, _⟩, ⟨w4, 3, _⟩, ⟨ptr A5 0 1, 0, _⟩]) [0, 1, 2, 3] (by decide) rfl
  have hWBs2 := (hYBs2.body (hBBs2 ▸ hS18)).set (fun h => h) rg2
  rw [← hreqrg2] at hWBs2
  refine ⟨_, (hYBs2.body (hBBs2 ▸ hS18)).get, rfl, w4, ?_⟩
  rw [gU rg.cpl j, hb, if_pos rfl, List.map_append, ← List.append_assoc, List.map_cons, List.map_nil, pN]
  exact hreqrg2 ▸ hWBs2
 rintro _ H22 ⟨ow, hLp2⟩
 have hb2 := iB rg.cpl 64
 refine ⟨_, hLp2.get, (by rw [hstrg2]; exact fun h => by cases h), fun _ => ?_, fun c hc => by rw [hpdrg2] at hc; cases hc⟩
 have hAAf2 := (hLp2.set (fun h => h) { rg2 with state := .exhausted }).st
 have hKAf2 : ∀ B, B ≠ Lrg2 → aP (hset H22 Lrg2 (.loop { rg2 with state := .exhausted })) B = aP H22 B := fun B h => aK _ (Ne.symm h)
 generalize hset H22 Lrg2 (.loop { rg2 with state := .exhausted }) = HAf2 at hAAf2 hKAf2 ⊢
 simp (disch := omega) only [↓RA, RZ, simprocAttr, hnrg2, g1rg2, hAAf2.ld 0 rfl]
 refine aC (a0W rg.off) ?_
 rintro r H14 ⟨A6, rfl, hT3⟩
 have hS19 := hAAf2.trans hT3
 simp only [RT] at hS19
 simp (disch := omega) only [↓RA, simprocAttr]
 have hal2 : (qE rg rg.stops.length ++ (fK rg.cpl 64).map nJ).length ≤ 3904 := by
  rw [List.length_append, List.length_map]
  omega
 refine Wp.slots fun lrg3 hlrg3 => ?_
 have hnrg3 : lrg3.length = 46 := by rw [hlrg3]; simp (disch := omega) only [RB, simprocAttr, hnrg2]
 have g2rg3 : get lrg3 2 = (.slice none 0 0) := by rw [hlrg3]; simp (disch := omega) only [RB, simprocAttr, g2rg2]
 have g3rg3 : get lrg3 3 = (ptr A2 0 1) := by rw [hlrg3]; simp (disch := omega) only [RB, simprocAttr, g3rg2]
 have gfrg3 : get lrg3 38 = .func (.func 230) #[] [(ptr A6 0 1)].toArray := by rw [hlrg3]; simp (disch := omega) only [RB, simprocAttr, hnrg2]
 clear hlrg3
 refine Wp.rangeR gfrg3 fun rg3 hstrg3 hpdrg3 htmrg3 hpsrg3 hasrg3 hbdrg3 => ?_
 have hreqrg3 : ({ rg3 with state := .ready, pending := none } : Loop) = rg3 := by
  cases rg3
  simp only at hstrg3 hpdrg3
  subst hstrg3 hpdrg3
  rfl
 have hLprg3 := Lp.enter hS19 rg3
 generalize H14.cons (.loop rg3) = Hcrg3 at hLprg3 ⊢
 generalize H14.length = Lrg3 at hLprg3 ⊢
 refine (a0m rg.off hr.2.2.2.2 A6 (.func (.yield Lrg3) #[] #[]) (fun j H1 => ∃ ow, Lp Tryz.prog H Lrg3 rg3 H1 [⟨ptr A1 0 3, 0, [sv, .int .u64 rg.cpl, .int .u64 rg.off]⟩, ⟨ptr A2 0 1, 0, [ow]⟩, ⟨ow, 3, dH ((qE rg rg.stops.length ++ (fK rg.cpl 64).map nJ) ++ (fK rg.off j).map xH)⟩, ⟨ptr A5 0 1, 0, [.int .u64 (rg.cpl : Int)]⟩, ⟨ptr A6 0 1, 0, [.int .u64 (rg.off : Int)]⟩]) ⟨ow, ?_⟩ ?_ ?_ ?_).mono ?_
 ·rw [show (fK rg.off 0).map xH = [] from rfl, List.append_nil]
  exact hLprg3
 ·rintro j H1 ⟨ow, h⟩
  exact h.st.var 4 rfl
 ·rintro j H1 hj hb ⟨ow, h⟩
  refine ⟨ow, ?_⟩
  rw [gU rg.off j, hb, if_neg (by simp), List.append_nil]
  exact h
 ·rintro j H20 hj hb ⟨ow, hLpj⟩
  have hbl := iB rg.off j
  have hroom : (dH ((qE rg rg.stops.length ++ (fK rg.cpl 64).map nJ) ++ (fK rg.off j).map xH)).length ≤ 20000 := by
   rw [eE, List.length_append, List.length_map]
   omega
  refine fN hLpj.get (by rw [hpsrg3]; rfl) hstrg3 ?_
  refine Wp.of_eqS (l := put lrg3 (some 39) (I j)) hasrg3 (by rw [hpsrg3, htmrg3]; first | exact (cS ..).symm | rfl | simp [put, cS]) ?_
  simp (disch := omega) only [↓RA, RZ, simprocAttr, hnrg3]
  refine ⟨rg3, hLpj.get, hstrg3, ?_⟩
  have hYBs3 := hLpj.set (fun h => h) { rg3 with state := .busy }
  have hKBs3 : ∀ B, B ≠ Lrg3 → aP (hset H20 Lrg3 (.loop { rg3 with state := .busy })) B = aP H20 B := fun B h => aK _ (Ne.symm h)
  have hNBs3 : (hset H20 Lrg3 (.loop { rg3 with state := .busy })).length = H20.length := bF ..
  generalize hset H20 Lrg3 (.loop { rg3 with state := .busy }) = HBs3 at hYBs3 hKBs3 hNBs3 ⊢
  refine Wp.of_eqS hbdrg3 rfl ?_
  have hZBs3 := hYBs3.st
  obtain ⟨Bs3, hBBs3, hS20⟩ := hZBs3.rebaseE (os := [⟨ptr A1 0 3, 0, _⟩, ⟨ptr A2 0 1, 0, _⟩, ⟨ow, 3, _⟩, ⟨ptr A5 0 1, 0, _⟩, ⟨ptr A6 0 1, 0, _⟩])
  simp (disch := omega) only [↓RA, RZ, simprocAttr, hnrg3, g3rg3, hS20.ld 1 rfl, a7S]
  refine hS20.eSlice [I 3, I j, I 0] a2t b2j rfl rfl (by simp [Value.cells]) rfl rfl (by decide) (by decide) fun w5 H15 hS21 => ?_
  simp only [RT] at hS21
  simp (disch := omega) only [↓RA, RZ, simprocAttr, hnrg3]
  refine hS21.eAppend 2 rfl (hS21.rd 5 rfl) a2t (by have h := hroom; simp only [List.length_cons, List.length_nil]; omega) fun w6 H16 hS22 => ?_
  simp only [RT] at hS22
  simp (disch := omega) only [↓RA, RB, simprocAttr, hnrg3, g3rg3]
  refine hS22.eStore 1 rfl [w6] (by rw [(hS22.rd 2 rfl).cells.1]) (by simp [(hS22.rd 2 rfl).cells.2.1]) a9G (by simp) fun H17 hS23 => ?_
  simp only [RT] at hS23
  simp (disch := omega) only [↓RA, simprocAttr]
  have hS24 := hS23.pick (os' := [⟨ptr A1 0 3, 0, _⟩, ⟨ptr A2 0 1, 0, _⟩, ⟨w6, 3, _⟩, ⟨ptr A5 0 1, 0, _⟩, ⟨ptr A6 0 1, 0, _⟩]) [0, 1, 2, 3, 4] (by decide) rfl
  have hWBs3 := (hYBs3.body (hBBs3 ▸ hS24)).set (fun h => h) rg3
  rw [← hreqrg3] at hWBs3
  refine ⟨_, (hYBs3.body (hBBs3 ▸ hS24)).get, rfl, w6, ?_⟩
  rw [gU rg.off j, hb, if_pos rfl, List.map_append, ← List.append_assoc, List.map_cons, List.map_nil, pN]
  exact hreqrg3 ▸ hWBs3
 rintro _ H23 ⟨oz, hLp3⟩
 refine ⟨_, hLp3.get, (by rw [hstrg3]; exact fun h => by cases h), fun _ => ?_, fun c hc => by rw [hpdrg3] at hc; cases hc⟩
 have hAAf3 := (hLp3.set (fun h => h) { rg3 with state := .exhausted }).st
 have hKAf3 : ∀ B, B ≠ Lrg3 → aP (hset H23 Lrg3 (.loop { rg3 with state := .exhausted })) B = aP H23 B := fun B h => aK _ (Ne.symm h)
 generalize hset H23 Lrg3 (.loop { rg3 with state := .exhausted }) = HAf3 at hAAf3 hKAf3 ⊢
 simp (disch := omega) only [↓RA, RZ, simprocAttr, hnrg3, g3rg3, hAAf3.ld 1 rfl, c1d]
 exact hAAf3.pick [2] (by decide) rfl
end Go.Ds
namespace Go.Ds
open Go.Proofs
variable {H : Heap}
set_option maxRecDepth 10000
set_option maxHeartbeats 1000000
structure Pv where
 v : Value
 l : List Ct
 deriving Inhabited
def Pv.cells (p : Pv) : List Value := [p.v]
def Pv.Ix (H : Heap) (X : Nat → Prop) (p : Pv) : Prop := Slx 2 cU H X p.v p.l
theorem Pv.Ix.step {H' : Heap} {X Y : Nat → Prop} {p : Pv} (h : p.Ix H X) (hk : Kept H X H' Y) : p.Ix H' Y := Slx.step h hk
theorem Kept.and {H' : Heap} {X Y : Nat → Prop} (Q : Nat → Prop) (h : Kept H X H' Y) : Kept H (fun B => Q B ∧ X B) H' (fun B => Q B ∧ Y B) :=
 fun B hX hB => ⟨(h B hX.2 hB).1, hX.1, (h B hX.2 hB).2⟩
abbrev oC (o : Org) : List Value := [.string o.name, o.rv, o.dv, o.cv]
abbrev rC (rg : Reg) (sv : Value) : List Value := [sv, .int .u64 rg.cpl, .int .u64 rg.off]
theorem a1h (o : Org) (ho : o.In H) (rg : Reg) (sv : Value) (hr : rg.In H sv) : Fn Tryz.prog 106 [.agg #[.string o.name, o.rv, o.dv, o.cv], .agg #[sv, .int .u64 rg.cpl, .int .u64 rg.off]] H fun r H' =>
 ∃ AO AR, r = .func (.func 174) #[] #[ptr AO 0 4, ptr AR 0 3] ∧ St Tryz.prog H H' [⟨ptr AO 0 4, 0, [.string o.name, o.rv, o.dv, o.cv]⟩, ⟨ptr AR 0 3, 0, [sv, .int .u64 rg.cpl, .int .u64 rg.off]⟩] := by
 refine Fn.of_sw Tryz.func106 rfl (by kernel_rfl) fun l hl => ?_
 have hn : l.length = 6 := by rw [hl]; rfl
 have g0 : get l 0 = (.agg #[(.string o.name), o.rv, o.dv, o.cv]) := by rw [hl]; rfl
 have g1 : get l 1 = (.agg #[sv, (.int .u64 rg.cpl), (.int .u64 rg.off)]) := by rw [hl]; rfl
 clear hl
 simp (disch := omega) only [↓RA, RB, simprocAttr, g0]
 refine (St.refl Tryz.prog H).eNew 4 [(.string o.name), o.rv, o.dv, o.cv] rfl rfl (by simp [OC, ((St.refl Tryz.prog H).sl ho.1).cells.2.1, ((St.refl Tryz.prog H).sl ho.2.2.1).cells.2.1, ((St.refl Tryz.prog H).sl ho.2.2.2.2.1).cells.2.1]) eU fun A1 H1 hS1 => ?_
 simp only [RT] at hS1
 simp (disch := omega) only [↓RA, RB, simprocAttr, g1]
 refine hS1.eNew 3 [sv, (.int .u64 rg.cpl), (.int .u64 rg.off)] rfl rfl (by simp [OC, (hS1.sl hr.1).cells.2.1]) eB fun A2 H2 hS2 => ?_
 simp only [RT] at hS2
 simp (disch := omega) only [↓RA, RZ, simprocAttr, hn, c0R]
 exact ⟨A1, A2, rfl, hS2⟩
theorem mN {o : Org} (hf : o.Fine) : (cC o).length ≤ 1024 := by
 have key : ∀ n, n ≤ o.dvs.length → ((List.range n).flatMap (gD o)).length ≤ n * 128 := by
  intro n
  induction n with
  | zero => intro _; simp
  | succ n ih =>
    intro hn
    have h1 := ih (by omega)
    have h2 := hf.keys n (by omega)
    have h3 : (gD o n).length = kF o n := by simp [gD, kF]
    have h4 : kF o n ≤ 128 := by unfold kF; omega
    rw [List.range_succ, List.flatMap_append, List.flatMap_cons, List.flatMap_nil, List.append_nil, List.length_append]
    omega
 have := key o.dvs.length (Nat.le_refl _)
 have := hf.dlen
 unfold cC
 omega
theorem zM (o : Org) (ho : o.In H) (hf : o.Fine) (rg : Reg) (sv : Value) (hr : rg.In H sv) : Fn Tryz.prog 168 [.agg #[.string o.name, o.rv, o.dv, o.cv], .agg #[sv, .int .u64 rg.cpl, .int .u64 rg.off]] H fun r H' =>
 ∃ ps : List Pv, ps.map (·.l) = dT o rg ∧ Slx 1 Pv.cells H' (fun B => H.length ≤ B) r ps ∧ (∀ p ∈ ps, p.Ix H' (fun B => H.length ≤ B)) ∧ St Tryz.prog H H' [] := by
 refine Fn.of_sw Tryz.func168 rfl (by kernel_rfl) fun l hl => ?_
 have hn : l.length = 18 := by rw [hl]; rfl
 have g0 : get l 0 = (.agg #[(.string o.name), o.rv, o.dv, o.cv]) := by rw [hl]; rfl
 have g1 : get l 1 = (.agg #[sv, (.int .u64 rg.cpl), (.int .u64 rg.off)]) := by rw [hl]; rfl
 clear hl
 simp (disch := omega) only [↓RA, RB, simprocAttr, g0]
 refine (St.refl Tryz.prog H).eNew 4 [(.string o.name), o.rv, o.dv, o.cv] rfl rfl (by simp [OC, ((St.refl Tryz.prog H).sl ho.1).cells.2.1, ((St.refl Tryz.prog H).sl ho.2.2.1).cells.2.1, ((St.refl Tryz.prog H).sl ho.2.2.2.2.1).cells.2.1]) eU fun A1 H1 hS1 => ?_
 simp only [RT] at hS1
 simp (disch := omega) only [↓RA, RB, simprocAttr, g1]
 refine hS1.eNew 3 [sv, (.int .u64 rg.cpl), (.int .u64 rg.off)] rfl rfl (by simp [OC, (hS1.sl hr.1).cells.2.1]) eB fun A2 H2 hS2 => ?_
 simp only [RT] at hS2
 simp (disch := omega) only [↓RA, RZ, simprocAttr]
 refine hS2.eNew 1 [(.slice none 0 0)] rfl rfl rfl a1A fun A3 H3 hS3 => ?_
 simp only [RT] at hS3
 simp (disch := omega) only [↓RA, RZ, simprocAttr, hn, hS3.ldA 0 rfl, hS3.ldA 1 rfl]
 have hS4 := hS3.nil 0
 simp only [RT] at hS4
 refine aC (a1h o (ho.keep hS4) rg sv (hr.keep hS4)) ?_
 rintro r H4 ⟨A4, A5, rfl, hT1⟩
 have hS5 := hS4.trans hT1
 simp only [RT] at hS5
 simp (disch := omega) only [↓RA, simprocAttr]
 refine Wp.slots fun lrg1 hlrg1 => ?_
 have hnrg1 : lrg1.length = 18 := by rw [hlrg1]; simp (disch := omega) only [RB, simprocAttr, hn]
 have g4rg1 : get lrg1 4 = (.slice none 0 0) := by rw [hlrg1]; simp (disch := omega) only [RB, simprocAttr, hn]
 have g5rg1 : get lrg1 5 = (ptr A3 0 1) := by rw [hlrg1]; simp (disch := omega) only [RB, simprocAttr, hn]
 have gfrg1 : get lrg1 10 = .func (.func 174) #[] [(ptr A4 0 4), (ptr A5 0 3)].toArray := by rw [hlrg1]; simp (disch := omega) only [RB, simprocAttr, hn]
 clear hlrg1
 refine Wp.rangeR gfrg1 fun rg1 hstrg1 hpdrg1 htmrg1 hpsrg1 hasrg1 hbdrg1 => ?_
 have hreqrg1 : ({ rg1 with state := .ready, pending := none } : Loop) = rg1 := by
  cases rg1
  simp only at hstrg1 hpdrg1
  subst hstrg1 hpdrg1
  rfl
 have hLprg1 := Lp.enter hS5 rg1
 generalize H4.cons (.loop rg1) = Hcrg1 at hLprg1 ⊢
 generalize H4.length = Lrg1 at hLprg1 ⊢
 refine (a6i o hf rg sv A4 A5 (.func (.yield Lrg1) #[] #[]) (fun d xs H1 => ∃ (ow : Value) (ps : List Pv), ps.map (·.l) = d.map (nW o rg) ∧ (∀ p ∈ ps, p.Ix H1 (fun B => (H.length ≤ B ∧ B ≠ Lrg1) ∧ nb [ptr A1 0 4, ptr A2 0 3, ptr A3 0 1, ow, ptr A4 0 4, ptr A5 0 3] B)) ∧
  Lp Tryz.prog H Lrg1 rg1 H1 ([⟨ptr A1 0 4, 0, oC o⟩, ⟨ptr A2 0 3, 0, rC rg sv⟩, ⟨ptr A3 0 1, 0, [ow]⟩, ⟨ow, 1, ps.flatMap Pv.cells⟩, ⟨ptr A4 0 4, 0, oC o⟩, ⟨ptr A5 0 3, 0, rC rg sv⟩] ++ xs)) ⟨.slice none 0 0, [], rfl, by simp, ?_⟩ ?_ ?_ ?_ ?_).mono ?_
 ·rw [List.append_nil]
  exact hLprg1
 ·rintro d xs H1 ⟨ow, ps, he, hpx, h⟩
  have hs := h.left.st
  exact ⟨hs.var 4 rfl, ho.keep hs, hs.var 5 rfl, hr.keep hs, fun x hx => h.st.own x (List.mem_append_right _ hx)⟩
 ·rintro d xs H1 H2 ys ⟨ow, ps, he, hpx, h⟩ hT
  refine ⟨ow, ps, he, fun p hp => (hpx p hp).step (fun B hB hl => ⟨hT.keep B hl, hB⟩), ?_⟩
  have h3 := h.ext hT
  rwa [List.append_assoc] at h3
 ·rintro d xs ys H1 ⟨ow, ps, he, hpx, h⟩
  rw [← List.append_assoc] at h
  exact ⟨ow, ps, he, hpx, h.left⟩
 ·rintro d c e xs H1 H20 pv he ⟨ow, ps, hpl, hpx, hLp⟩ hT hx
  have hLpj := hLp.ext hT
  rw [List.append_nil] at hLpj
  have hpx2 : ∀ p ∈ ps, p.Ix H20 (fun B => (H.length ≤ B ∧ B ≠ Lrg1) ∧ nb [ptr A1 0 4, ptr A2 0 3, ptr A3 0 1, ow, ptr A4 0 4, ptr A5 0 3] B) := fun p hp => (hpx p hp).step (fun B hB hl => ⟨hT.keep B hl, hB⟩)
  have hLl : Lrg1 < H1.length := bG hLp.get
  have hHl : H.length ≤ H1.length := hLp.st.len
  have hpv : (⟨pv, nW o rg c⟩ : Pv).Ix H20 (fun B => (H.length ≤ B ∧ B ≠ Lrg1) ∧ nb [ptr A1 0 4, ptr A2 0 3, ptr A3 0 1, ow, ptr A4 0 4, ptr A5 0 3] B) :=
   Slx.step hx fun B hB hl => ⟨rfl, ⟨by omega, by omega⟩, (hLp.left.st.keptNew (H' := H20) B hB hl).2⟩
  refine fN hLpj.get (by rw [hpsrg1]; rfl) hstrg1 ?_
  refine Wp.of_eqS (l := put (put lrg1 (some 11) (.agg #[I c.1, I c.2])) (some 12) (pv)) hasrg1 (by rw [hpsrg1, htmrg1]; first | exact (cS ..).symm | rfl | simp [put, cS]) ?_
  simp (disch := omega) only [↓RA, RZ, simprocAttr, hnrg1]
  refine ⟨rg1, hLpj.get, hstrg1, ?_⟩
  have hYBs1 := hLpj.set (fun h => h) { rg1 with state := .busy }
  have hKBs1 : ∀ B, B ≠ Lrg1 → aP (hset H20 Lrg1 (.loop { rg1 with state := .busy })) B = aP H20 B := fun B h => aK _ (Ne.symm h)
  have hNBs1 : (hset H20 Lrg1 (.loop { rg1 with state := .busy })).length = H20.length := bF ..
  generalize hset H20 Lrg1 (.loop { rg1 with state := .busy }) = HBs1 at hYBs1 hKBs1 hNBs1 ⊢
  refine Wp.of_eqS hbdrg1 rfl ?_
  have hZBs1 := hYBs1.left.st
  obtain ⟨Bs1, hBBs1, hS6⟩ := hZBs1.rebaseE (os := [⟨ptr A1 0 4, 0, _⟩, ⟨ptr A2 0 3, 0, _⟩, ⟨ptr A3 0 1, 0, _⟩, ⟨ow, 1, _⟩, ⟨ptr A4 0 4, 0, _⟩, ⟨ptr A5 0 3, 0, _⟩])
  have hpn : ps.length ≤ 1024 := by
   have h1 := mN hf
   rw [he, List.length_append] at h1
   have h2 := congrArg List.length hpl
   rw [List.length_map, List.length_map] at h2
   omega
  simp (disch := omega) only [↓RA, RZ, simprocAttr, hnrg1, g5rg1, hS6.ld 2 rfl]
  refine hS6.eSlice [pv] b5l c1w rfl rfl (by first | (simp [hx.1.cells.1]; done) | simp [Value.cells, hx.1.cells.1]) (by first | (simp [hx.1.cells.1]; done) | simp [Value.cells, hx.1.cells.1]) (by simp [hx.1.cells.2.1]) (by decide) (by decide) fun w1 H5 hS7 => ?_
  simp only [RT] at hS7
  simp (disch := omega) only [↓RA, RZ, simprocAttr, hnrg1]
  refine hS7.eAppend 3 rfl (hS7.rd 6 rfl) b5l (by rw [aQ (n := 1) (cel := Pv.cells) (fun _ => rfl)]; simp; omega) fun w2 H6 hS8 => ?_
  simp only [RT] at hS8
  simp (disch := omega) only [↓RA, RB, simprocAttr, hnrg1, g5rg1]
  refine hS8.eStore 2 rfl [w2] (by rw [(hS8.rd 3 rfl).cells.1]) (by simp [(hS8.rd 3 rfl).cells.2.1]) a1A (by simp) fun H7 hS9 => ?_
  simp only [RT] at hS9
  simp (disch := omega) only [↓RA, RC, simprocAttr]
  have hS10 := hS9.pick (os' := [⟨ptr A1 0 4, 0, _⟩, ⟨ptr A2 0 3, 0, _⟩, ⟨ptr A3 0 1, 0, _⟩, ⟨w2, 1, _⟩, ⟨ptr A4 0 4, 0, _⟩, ⟨ptr A5 0 3, 0, _⟩]) [0, 1, 2, 3, 4, 5] (by decide) rfl
  have hWBs1 := (hYBs1.bodyF (hBBs1 ▸ hS10)).set (fun h => h) rg1
  rw [← hreqrg1] at hWBs1
  have hk1 : Kept H20 (fun B => (H.length ≤ B ∧ B ≠ Lrg1) ∧ nb [ptr A1 0 4, ptr A2 0 3, ptr A3 0 1, ow, ptr A4 0 4, ptr A5 0 3] B) (hset H7 Lrg1 (.loop rg1)) (fun B => (H.length ≤ B ∧ B ≠ Lrg1) ∧ nb [ptr A1 0 4, ptr A2 0 3, ptr A3 0 1, w2, ptr A4 0 4, ptr A5 0 3] B) := by
   intro B hB hl
   have h2 := hS10.kept hBBs1 B hB.2 (by rw [hNBs1]; exact hl)
   refine ⟨?_, hB.1, h2.2⟩
   rw [aK _ (Ne.symm hB.1.2), h2.1, hKBs1 B hB.1.2]
  have hfin : ∃ (ow : Value) (ps : List Pv), ps.map (·.l) = (d ++ [c]).map (nW o rg) ∧ (∀ p ∈ ps, p.Ix (hset H7 Lrg1 (.loop rg1)) (fun B => (H.length ≤ B ∧ B ≠ Lrg1) ∧ nb [ptr A1 0 4, ptr A2 0 3, ptr A3 0 1, ow, ptr A4 0 4, ptr A5 0 3] B)) ∧
   Lp Tryz.prog H Lrg1 rg1 (hset H7 Lrg1 (.loop rg1)) ([⟨ptr A1 0 4, 0, oC o⟩, ⟨ptr A2 0 3, 0, rC rg sv⟩, ⟨ptr A3 0 1, 0, [ow]⟩, ⟨ow, 1, ps.flatMap Pv.cells⟩, ⟨ptr A4 0 4, 0, oC o⟩, ⟨ptr A5 0 3, 0, rC rg sv⟩] ++ xs) := by
   refine ⟨w2, ps ++ [⟨pv, nW o rg c⟩], by rw [List.map_append, List.map_append, hpl]; rfl, ?_, ?_⟩
   ·intro p hp
    rcases List.mem_append.1 hp with hp | hp
    ·exact (hpx2 p hp).step hk1
    ·rw [List.mem_singleton.1 hp]
     exact hpv.step hk1
   ·rw [show (ps ++ [(⟨pv, nW o rg c⟩ : Pv)]).flatMap Pv.cells = ps.flatMap Pv.cells ++ [pv] from by rw [List.flatMap_append]; rfl]
    exact hreqrg1 ▸ hWBs1
  rw [← hreqrg1] at hfin
  exact ⟨_, (hYBs1.bodyF (hBBs1 ▸ hS10)).get, rfl, hreqrg1 ▸ hfin⟩
 rintro _ H21 ⟨ow, ps, hpl, hpx, hLp2⟩
 rw [List.append_nil] at hLp2
 refine ⟨_, hLp2.get, (by rw [hstrg1]; exact fun h => by cases h), fun _ => ?_, fun c hc => by rw [hpdrg1] at hc; cases hc⟩
 have hAAf1 := (hLp2.set (fun h => h) { rg1 with state := .exhausted }).st
 have hKAf1 : ∀ B, B ≠ Lrg1 → aP (hset H21 Lrg1 (.loop { rg1 with state := .exhausted })) B = aP H21 B := fun B h => aK _ (Ne.symm h)
 generalize hset H21 Lrg1 (.loop { rg1 with state := .exhausted }) = HAf1 at hAAf1 hKAf1 ⊢
 simp (disch := omega) only [↓RA, RZ, simprocAttr, hnrg1, g5rg1, hAAf1.ld 2 rfl, b9i]
 exact ⟨ps, hpl, hAAf1.slf 3 rfl (fun _ => rfl), fun p hp => (hpx p hp).step (fun B hB hl => ⟨hKAf1 B hB.1.2, hB.1.1⟩), hAAf1.forget⟩
end Go.Ds
namespace Go.Ds
open Go.Proofs
variable {H : Heap}
set_option maxRecDepth 10000
set_option maxHeartbeats 1000000
theorem Fn.tr {P : Program} {k : FuncId} {args : List Value} {R : Value → Heap → Prop} (h : Fn P k args H R) : Fn P k args H fun v H' => True ∧ R v H' := by
 simpa using h
theorem St.eSlice0 {P : Program} {H0 : Base} {os : List Ob} (hS : St P H0 H os) {t : TypeId} {size bytes : Nat} {K : Value → Heap → Prop} (ha : eL P t = some (size + 1, bytes)) (h : ∀ v H1, St P H0 H1 (os ++ [⟨v, size + 1, []⟩]) → K v H1) : jW P H t 0 [] K := by
 unfold eL at ha
 cases he : aH P t with
 | none => rw [he] at ha; cases ha
 | some elem =>
 rw [he] at ha
 simp only [Option.bind_some] at ha
 cases hsz2 : aF P elem with
 | none => rw [hsz2] at ha; cases ha
 | some sz =>
 rw [hsz2] at ha
 simp only [Option.bind_some] at ha
 cases hby : fF P elem with
 | none => rw [hby] at ha; cases ha
 | some by' =>
 rw [hby] at ha
 simp only [Option.bind_some] at ha
 cases hz2 : aX P elem with
 | none => rw [hz2] at ha; cases ha
 | some z =>
 rw [hz2] at ha
 simp only [Option.bind_some] at ha
 split at ha
 case isFalse => cases ha
 simp only [Option.some.injEq, Prod.mk.injEq] at ha
 obtain ⟨rfl, rfl⟩ := ha
 refine ⟨.slice (some ⟨H.length, 0, some 0⟩) 0 (size + 1), jT H elem [], ?_, h _ _ (hS.add ?_ ?_ ?_ ?_)⟩
 ·unfold pJ
  simp only [he, hsz2, hz2, Option.bind_some]
  rw [if_pos (by simp)]
 ·rw [dF]
  unfold OwnAt
  rw [if_neg (Nat.succ_ne_zero _)]
  exact .inr ⟨_, 0, elem, _, 0, [], 0, aM H _, by simp, rfl, by simp, by simp, hsz2⟩
 ·rw [dF]; simp [hK]
 ·rw [dF]; exact fun B hB => bM _ hB
 ·intro B hB
  simp [cM] at hB
  omega
theorem b2D (a : Addr) (m c : Nat) : cQ Tryz.prog .eql 88 88 false true (.slice (some a) m c) (.slice none 0 0) = some (.bool false) := by kernel_rfl
theorem zX {v : Value} {a : Addr} {m c : Nat} (h : v = .slice (some a) m c) (K : Value → Prop) : cZ Tryz.prog .eql 88 88 false true v (.slice none 0 0) K = gQ (.bool false) K := by
 subst h
 show bQ (cQ Tryz.prog .eql 88 88 false true (.slice (some a) m c) (.slice none 0 0)) K = _
 rw [b2D]
 rfl
theorem Sl.nonnil {α : Type} {n : Nat} {cel : α → List Value} {v : Value} {xs : List α} (h : Sl n cel H v xs) (h0 : 0 < xs.length) : ∃ a m c, v = .slice (some a) m c := by
 rcases h.rd with ⟨_, h2⟩ | ⟨A, i, e, row, ty, rw, lo, ver, m, _, _, _, _, _, _, h7⟩
 ·have := congrArg List.length h2
  rw [aQ h.hc, List.length_nil] at this
  have := h.pos
  have : 0 < xs.length * n := Nat.mul_pos h0 h.pos
  omega
 ·exact ⟨_, _, _, h7⟩
theorem a2I (v : Value) (xs : List Nat) (hv : Sl 1 (one u64) H v xs) (hl : xs.length < 100000) (h0 : 0 < xs.length) : Fn Tryz.prog 103 [v] H fun r H' => St Tryz.prog H H' [⟨r, 1, xs.flatMap (one u64)⟩] := by
 refine Fn.of_sw Tryz.func103 rfl (by kernel_rfl) fun l hl => ?_
 have hn : l.length = 8 := by rw [hl]; rfl
 have g0 : get l 0 = v := by rw [hl]; rfl
 clear hl
 obtain ⟨a, m, c, hvv⟩ := hv.nonnil h0
 simp (disch := omega) only [↓RA, RB, simprocAttr, hn, g0, zX hvv]
 have hlen : (xs.flatMap (one u64)).length = xs.length := by rw [aQ (n := 1) (fun _ => rfl)]; omega
 refine (St.refl Tryz.prog H).eSlice0 a5e fun w1 H1 hS1 => ?_
 simp only [RT] at hS1
 simp (disch := omega) only [↓RA, RZ, simprocAttr, hn, g0]
 refine hS1.eAppend 0 rfl (hS1.sl hv).rd a5e (by rw [hlen]; simp; omega) fun w2 H2 hS2 => ?_
 simp only [RT] at hS2
 simp (disch := omega) only [↓RA, RB, simprocAttr, hn, c1Q]
 exact hS2
theorem b5G (i : Nat) (hi : i < 64) : IntKind.wrap .u64 (1 * 2 ^ min i (IntKind.bits .u64)) = ((2 ^ i : Nat) : Int) := by
 have e : IntKind.bits .u64 = 64 := rfl
 rw [e, Nat.min_eq_left (by omega), Int.one_mul]
 have h1 : ((2 ^ i : Nat) : Int) = 2 ^ i := by simp
 rw [← h1]
 have h2 : 2 ^ i ≤ 2 ^ 63 := Nat.pow_le_pow_right (by decide) (by omega)
 have h5 : ((2 ^ i : Nat) : Int) ≤ ((2 ^ 63 : Nat) : Int) := Int.ofNat_le.2 h2
 exact jV _ (Int.natCast_nonneg _) (Int.lt_of_le_of_lt h5 (by decide))
theorem b6t (n i : Nat) (hi : i < 64) : IntKind.wrap .u64 ((BitVec.ofInt (IntKind.bits .u64) (n : Int) &&& ~~~ BitVec.ofInt (IntKind.bits .u64) (IntKind.wrap .u64 (1 * 2 ^ min i (IntKind.bits .u64)))).toNat : Int) = ((fP n i : Nat) : Int) := by
 rw [b5G i hi]
 have e : (BitVec.ofInt (IntKind.bits .u64) (n : Int) &&& ~~~ BitVec.ofInt (IntKind.bits .u64) ((2 ^ i : Nat) : Int)).toNat = fP n i := by
  show (BitVec.ofInt 64 (n : Int) &&& ~~~ BitVec.ofInt 64 ((2 ^ i : Nat) : Int)).toNat = fP n i
  rw [BitVec.ofInt_natCast, BitVec.ofInt_natCast]
  rfl
 rw [e]
 have : fP n i < 2 ^ 64 := BitVec.isLt _
 have h3 : 2 ^ 64 = 18446744073709551616 := rfl
 exact jV _ (by omega) (by omega)
theorem a0d (n : Nat) (i : Int) : fP n i < 18446744073709551616 := BitVec.isLt _
def Ctl.For (c : Ctl) (rg : Reg) : Prop := (c.kind = 1 → 0 ≤ c.dv ∧ c.dv < rg.stops.length ∧ 0 ≤ c.ix ∧ c.ix < 64) ∧ (c.kind = 2 → 0 ≤ c.ix ∧ c.ix < 64) ∧ (c.kind ≠ 1 → c.kind ≠ 2 → 0 ≤ c.dv ∧ c.dv < 64)
theorem a6m (rg : Reg) (sv : Value) (hr : rg.In H sv) (h0 : 0 < rg.stops.length) (h1 : rg.stops.length < 100000) (c : Ctl) (hc : c.For rg) :
 Fn Tryz.prog 104 [.agg #[sv, .int .u64 rg.cpl, .int .u64 rg.off], .agg #[I c.kind, I c.dv, I c.ix]] H fun r H' => ∃ nv, r = .agg #[nv, .int .u64 (bU rg c).cpl, .int .u64 (bU rg c).off] ∧ St Tryz.prog H H' [⟨nv, 1, (bU rg c).stops.flatMap (one u64)⟩] := by
 refine Fn.of_sw Tryz.func104 rfl (by kernel_rfl) fun l hl => ?_
 have hn : l.length = 41 := by rw [hl]; rfl
 have g0 : get l 0 = (.agg #[sv, (.int .u64 rg.cpl), (.int .u64 rg.off)]) := by rw [hl]; rfl
 have g1 : get l 1 = (.agg #[I c.kind, I c.dv, I c.ix]) := by rw [hl]; rfl
 clear hl
 simp (disch := omega) only [↓RA, RB, simprocAttr, g0]
 refine (St.refl Tryz.prog H).eNew 3 [sv, (.int .u64 rg.cpl), (.int .u64 rg.off)] rfl rfl (by simp [OC, ((St.refl Tryz.prog H).sl hr.1).cells.2.1]) eB fun A1 H1 hS1 => ?_
 simp only [RT] at hS1
 simp (disch := omega) only [↓RA, RB, simprocAttr, g1]
 refine hS1.eNew 3 [I c.kind, I c.dv, I c.ix] rfl rfl rfl sT fun A2 H2 hS2 => ?_
 simp only [RT] at hS2
 simp (disch := omega) only [↓RA, RZ, simprocAttr]
 refine hS2.eNew 3 [(.slice none 0 0), (.int .u64 0), (.int .u64 0)] rfl rfl rfl eB fun A3 H3 hS3 => ?_
 simp only [RT] at hS3
 simp (disch := omega) only [↓RA, RZ, simprocAttr, hn, hS3.ld 0 rfl]
 refine aC ((a2I sv rg.stops (hS3.sl hr.1) h1 h0).tr) ?_
 rintro r H4 ⟨-, hT1⟩
 have hS4 := hS3.trans hT1
 simp only [RT] at hS4
 simp (disch := omega) only [↓RA, RZ, simprocAttr, hn]
 refine hS4.eStore 0 rfl [r] (by rw [(hS4.rd 3 rfl).cells.1]) (by simp [(hS4.rd 3 rfl).cells.2.1]) b4c (by simp) fun H5 hS5 => ?_
 simp only [RT] at hS5
 simp (disch := omega) only [↓RA, RZ, simprocAttr, hn, hS5.ld 1 rfl]
 first | refine aA (fun k1 => ?_) (fun k1 => ?_) | refine aB (fun k1 => ?_) (fun k1 => ?_)
 ·obtain ⟨hd0, hd1, hi0, hi1⟩ := hc.1 k1
  obtain ⟨d, hd⟩ : ∃ d : Nat, c.dv = d := ⟨c.dv.toNat, by omega⟩
  obtain ⟨i, hi⟩ : ∃ i : Nat, c.ix = i := ⟨c.ix.toNat, by omega⟩
  have e1 := b6t (aD rg.stops d) i (by omega)
  simp only [hd, hi] at hS5
  simp (disch := omega) only [↓RA, RZ, simprocAttr, k1]
  refine Wp.drw cA (by kernel_rfl) ?_
  simp (disch := omega) only [↓RA, RZ, simprocAttr, hn, hS5.ld 0 rfl, hS5.ld 1 rfl, (hS5.slo 3 rfl (fun _ => rfl)).idx, (hS5.slo 3 rfl (fun _ => rfl)).ld, one, u64, k1, e1, one, u64]
  refine hS5.eStoreE 3 rfl [(.int .u64 (fP (aD rg.stops d) i : Nat))] rfl rfl wU (by simp) (by have h : (rg.stops.flatMap (one u64)).length = rg.stops.length := (aQ (n := 1) (fun _ => rfl) _).trans (by omega); rw [h]; simp; omega) fun H6 hS6 => ?_
  simp only [RT] at hS6
  simp (disch := omega) only [↓RA, RZ, simprocAttr, hn, hS6.ldA 0 rfl]
  refine hS6.eStore 2 rfl [r, (.int .u64 rg.cpl), (.int .u64 rg.off)] rfl (by simp [OC, (hS6.rd 3 rfl).cells.2.1]) eB (by simp) fun H7 hS7 => ?_
  simp only [RT] at hS7
  simp (disch := omega) only [↓RA, RZ, simprocAttr, hn, b1c, hS7.ldA 2 rfl]
  refine ⟨r, by rw [bU, if_pos k1], ?_⟩
  have e2 : (bU rg c).stops.flatMap (one u64) = (rg.stops.flatMap (one u64)).set d (.int .u64 (fP (aD rg.stops d) i : Nat)) := by
   rw [bU, if_pos k1, jU, jU, hd, hi]
   show (rg.stops.set d _).map u64 = _
   rw [List.map_set]
   rfl
  rw [e2]
  exact hS7.pick [3] (by decide) rfl
 simp (disch := omega) only [↓RA, RZ, simprocAttr, hn, k1]
 first | refine aA (fun k2 => ?_) (fun k2 => ?_) | refine aB (fun k2 => ?_) (fun k2 => ?_)
 ·obtain ⟨hi0, hi1⟩ := hc.2.1 k2
  obtain ⟨i, hi⟩ : ∃ i : Nat, c.ix = i := ⟨c.ix.toNat, by omega⟩
  have e1 := b6t rg.cpl i (by omega)
  simp only [hi] at hS5
  simp (disch := omega) only [↓RA, RZ, simprocAttr, k2]
  refine Wp.drw cA (by kernel_rfl) ?_
  simp (disch := omega) only [↓RA, RZ, simprocAttr, hn, hS5.ld 0 rfl, hS5.ld 1 rfl, k2, e1]
  refine hS5.eStore 0 rfl [_] rfl rfl wU (by simp) fun H8 hS8 => ?_
  simp only [RT] at hS8
  simp (disch := omega) only [↓RA, RZ, simprocAttr, hn, hS8.ldA 0 rfl]
  refine hS8.eStore 2 rfl [r, _, (.int .u64 rg.off)] rfl (by simp [OC, (hS8.rd 3 rfl).cells.2.1]) eB (by simp) fun H9 hS9 => ?_
  simp only [RT] at hS9
  simp (disch := omega) only [↓RA, RZ, simprocAttr, hn, b1c, hS9.ldA 2 rfl]
  refine ⟨r, by rw [bU, if_neg k1, if_pos k2, hi], ?_⟩
  have e2 : (bU rg c).stops = rg.stops := by rw [bU, if_neg k1, if_pos k2]
  rw [e2]
  exact hS9.pick [3] (by decide) rfl
 obtain ⟨hi0, hi1⟩ := hc.2.2 k1 k2
 obtain ⟨i, hi⟩ : ∃ i : Nat, c.dv = i := ⟨c.dv.toNat, by omega⟩
 have e1 := b6t rg.off i (by omega)
 simp only [hi] at hS5
 simp (disch := omega) only [↓RA, RZ, simprocAttr, k1, k2]
 refine Wp.drw cA (by kernel_rfl) ?_
 simp (disch := omega) only [↓RA, RZ, simprocAttr, hn, hS5.ld 0 rfl, hS5.ld 1 rfl, e1]
 refine hS5.eStore 0 rfl [_] rfl rfl wU (by simp) fun H10 hS10 => ?_
 simp only [RT] at hS10
 simp (disch := omega) only [↓RA, RZ, simprocAttr, hn, hS10.ldA 0 rfl]
 refine hS10.eStore 2 rfl [r, (.int .u64 rg.cpl), _] rfl (by simp [OC, (hS10.rd 3 rfl).cells.2.1]) eB (by simp) fun H11 hS11 => ?_
 simp only [RT] at hS11
 simp (disch := omega) only [↓RA, RZ, simprocAttr, hn, b1c, hS11.ldA 2 rfl]
 refine ⟨r, by rw [bU, if_neg k1, if_neg k2, hi], ?_⟩
 have e2 : (bU rg c).stops = rg.stops := by rw [bU, if_neg k1, if_neg k2]
 rw [e2]
 exact hS11.pick [3] (by decide) rfl
end Go.Ds
namespace Go.Ds
open Go.Proofs
variable {H : Heap}
set_option maxRecDepth 10000
set_option maxHeartbeats 1000000
theorem oE {α : Type} [Inhabited α] {xs ys : List α} (hl : xs.length = ys.length) (h : ∀ j, j < xs.length → aD xs j = aD ys j) : xs = ys := by
 apply List.ext_getElem hl
 intro j h1 h2
 have := h j h1
 rwa [bX xs j h1, bX ys j h2] at this
theorem b0h (v w : Value) (xs ys : List Ct) (hv : Sl 2 cU H v xs) (hw : Sl 2 cU H w ys) (hl : xs.length < 1000000000) (hl2 : ys.length < 1000000000) :
 Fn Tryz.prog 69 [v, w] H fun r H' => r = .bool (decide (xs = ys)) ∧ St Tryz.prog H H' [] := by
 refine Fn.of_sw Tryz.func69 rfl (by kernel_rfl) fun l hl => ?_
 have hn : l.length = 26 := by rw [hl]; rfl
 have g0 : get l 0 = v := by rw [hl]; rfl
 have g1 : get l 1 = w := by rw [hl]; rfl
 clear hl
 simp (disch := omega) only [↓RA, RZ, simprocAttr, hn, g0, g1, ((St.refl Tryz.prog H).sl hv).len, ((St.refl Tryz.prog H).sl hw).len]
 first | refine aA (fun h1 => ?_) (fun h1 => ?_) | refine aB (fun h1 => ?_) (fun h1 => ?_)
 ·simp (disch := omega) only [↓RA, RZ, simprocAttr, hn, b6r, h1]
  exact ⟨by rw [decide_eq_false]; intro e; rw [e] at h1; exact h1 rfl, (St.refl Tryz.prog H)⟩
 simp (disch := omega) only [↓RA, RZ, simprocAttr, hn, g0, ((St.refl Tryz.prog H).sl hv).len, h1]
 refine Wp.loopS (fun n l H' => l.length = 26 ∧ get l 0 = v ∧ get l 1 = w ∧ get l 12 = I xs.length ∧ ∃ (j : Nat), (n + j = xs.length ∧ ∀ q, q < j → aD xs q = aD ys q) ∧ get l 13 = I j ∧ St Tryz.prog H H' []) xs.length ?_ ?_
 ·simp (disch := omega) only [RB, RC, simprocAttr, hn, g0, g1]
  exact ⟨0, ⟨by omega, fun q hq => absurd hq (Nat.not_lt_zero _)⟩, rfl, (St.refl Tryz.prog H)⟩
 rintro n l H1 ⟨hn, g0, g1, g12, j, ⟨hj,hz⟩, g13, hS1⟩
 simp (disch := omega) only [↓RA, RB, simprocAttr, hn, g12, g13]
 first | refine aA (fun q1 => ?_) (fun q1 => ?_) | refine aB (fun q1 => ?_) (fun q1 => ?_)
 ·simp (disch := omega) only [↓RA, RZ, simprocAttr, hn, g13, q1]
  refine Wp.drw cA (by kernel_rfl) ?_
  simp (disch := omega) only [↓RA, RZ, simprocAttr, hn, g0, g1, (hS1.sl hv).idx, (hS1.sl hv).ldA, cU, (hS1.sl hw).idx, (hS1.sl hw).ldA]
  first | refine aA (fun q2 => ?_) (fun q2 => ?_) | refine aB (fun q2 => ?_) (fun q2 => ?_)
  ·simp (disch := omega) only [↓RA, RZ, simprocAttr, hn, b6r, q2]
   refine ⟨?_, hS1⟩
   rw [decide_eq_false]
   intro e
   rw [e] at q2
   exact q2 ⟨rfl, rfl⟩
  have q3 := Classical.not_not.1 q2
  simp (disch := omega) only [↓RA, RZ, simprocAttr, hn, g0, g1, g12, g13, q2]
  exact ⟨n - 1, by omega, j + 1, ⟨by omega, fun q hq => by rcases Nat.lt_succ_iff_lt_or_eq.1 hq with e | e; (· exact hz q e); (· rw [e]; exact Prod.ext q3.1 q3.2)⟩, by simp, hS1⟩
 simp (disch := omega) only [↓RA, RZ, simprocAttr, hn, b6r, q1]
 exact ⟨by rw [decide_eq_true]; exact oE (by omega) fun q hq => hz q (by omega), hS1⟩
theorem a7m (v w : Value) (xs ys : List Ct) (hv : Sl 2 cU H v xs) (hw : Sl 2 cU H w ys) (hl : xs.length < 1000000000) (hl2 : ys.length < 1000000000) :
 Fn Tryz.prog 172 [v, w] H fun r H' => r = .bool (decide (xs = ys)) ∧ St Tryz.prog H H' [] := by
 refine Fn.of_sw Tryz.func172 rfl (by kernel_rfl) fun l hl => ?_
 have hn : l.length = 8 := by rw [hl]; rfl
 have g0 : get l 0 = v := by rw [hl]; rfl
 have g1 : get l 1 = w := by rw [hl]; rfl
 clear hl
 simp (disch := omega) only [↓RA, RZ, simprocAttr, hn, g0, g1]
 refine aC (b0h v w xs ys ((St.refl Tryz.prog H).sl hv) ((St.refl Tryz.prog H).sl hw) hl hl2) ?_
 rintro r H1 ⟨rfl, hT1⟩
 have hS1 := (St.refl Tryz.prog H).trans hT1
 simp only [RT] at hS1
 simp (disch := omega) only [↓RA, RZ, simprocAttr, hn, b8t]
 exact hS1
def Pv.In (H : Heap) (p : Pv) : Prop := Sl 2 cU H p.v p.l
theorem b2d (v w : Value) (ps qs : List Pv) (hv : Sl 1 Pv.cells H v ps) (hw : Sl 1 Pv.cells H w qs) (hp : ∀ p ∈ ps, p.In H) (hq : ∀ p ∈ qs, p.In H) (hl : ps.length < 1000000000) (hl2 : qs.length < 1000000000) (hb : ∀ p ∈ ps, p.l.length < 1000000000) (hb2 : ∀ p ∈ qs, p.l.length < 1000000000) :
 Fn Tryz.prog 171 [v, w, .func (.func 172) #[] #[]] H fun r H' => r = .bool (decide (ps.map (·.l) = qs.map (·.l))) ∧ St Tryz.prog H H' [] := by
 have hne : ∀ j, j < ps.length → j < qs.length → (aD ps j).l ≠ (aD qs j).l → ps.map (·.l) ≠ qs.map (·.l) := fun j h1 h2 hne e => by
  apply hne
  have := congrArg (fun l => aD l j) e
  simp only at this
  rwa [iN _ h1, iN _ h2] at this
 refine Fn.of_sw Tryz.func171 rfl (by kernel_rfl) fun l hl => ?_
 have hn : l.length = 32 := by rw [hl]; rfl
 have g0 : get l 0 = v := by rw [hl]; rfl
 have g1 : get l 1 = w := by rw [hl]; rfl
 have g2 : get l 2 = (.func (.func 172) #[] #[]) := by rw [hl]; rfl
 clear hl
 simp (disch := omega) only [↓RA, RZ, simprocAttr, hn, g0, g1, ((St.refl Tryz.prog H).sl hv).len, ((St.refl Tryz.prog H).sl hw).len]
 first | refine aA (fun h1 => ?_) (fun h1 => ?_) | refine aB (fun h1 => ?_) (fun h1 => ?_)
 ·simp (disch := omega) only [↓RA, RZ, simprocAttr, hn, b0K, h1]
  refine ⟨?_, (St.refl Tryz.prog H)⟩
  rw [decide_eq_false]
  intro e
  have := congrArg List.length e
  rw [List.length_map, List.length_map] at this
  omega
 simp (disch := omega) only [↓RA, RZ, simprocAttr, hn, g0, ((St.refl Tryz.prog H).sl hv).len, h1]
 refine Wp.loopS (fun n l H' => l.length = 32 ∧ get l 1 = w ∧ get l 2 = (.func (.func 172) #[] #[]) ∧ get l 15 = v ∧ get l 16 = I ps.length ∧ ∃ (j : Nat), (n + j = ps.length ∧ ∀ q, q < j → (aD ps q).l = (aD qs q).l) ∧ get l 17 = I j ∧ St Tryz.prog H H' []) ps.length ?_ ?_
 ·simp (disch := omega) only [RB, RC, simprocAttr, hn, g1, g2]
  exact ⟨0, ⟨by omega, fun q hq => absurd hq (Nat.not_lt_zero _)⟩, rfl, (St.refl Tryz.prog H)⟩
 rintro n l H1 ⟨hn, g1, g2, g15, g16, j, ⟨hj,hz⟩, g17, hS1⟩
 simp (disch := omega) only [↓RA, RB, simprocAttr, hn, g16, g17]
 first | refine aA (fun q1 => ?_) (fun q1 => ?_) | refine aB (fun q1 => ?_) (fun q1 => ?_)
 ·simp (disch := omega) only [↓RA, RZ, simprocAttr, hn, g1, g2, g15, g17, (hS1.sl hv).idx, (hS1.sl hv).ld, Pv.cells, (hS1.sl hw).idx, (hS1.sl hw).ld, q1]
  refine aC (a7m (aD ps j).v (aD qs j).v (aD ps j).l (aD qs j).l (hS1.sl (hp _ (aG (by omega)))) (hS1.sl (hq _ (aG (by omega)))) (hb _ (aG (by omega))) (hb2 _ (aG (by omega)))) ?_
  rintro r H2 ⟨rfl, hT1⟩
  have hS2 := hS1.trans hT1
  simp only [RT] at hS2
  simp (disch := omega) only [↓RA, RZ, simprocAttr, hn, q1]
  first | refine aA (fun q2 => ?_) (fun q2 => ?_) | refine aB (fun q2 => ?_) (fun q2 => ?_)
  ·simp (disch := omega) only [↓RA, RZ, simprocAttr, hn, b0K, q1, q2]
   exact ⟨by rw [decide_eq_false (hne j (by omega) (by omega) (by simpa using q2))], hS2⟩
  simp (disch := omega) only [↓RA, RZ, simprocAttr, hn, g1, g2, g15, g16, g17, q1, q2]
  exact ⟨n - 1, by omega, j + 1, ⟨by omega, fun q hq => by rcases Nat.lt_succ_iff_lt_or_eq.1 hq with e | e; (· exact hz q e); (· rw [e]; simpa using q2)⟩, by simp, hS2⟩
 simp (disch := omega) only [↓RA, RZ, simprocAttr, hn, b0K, q1]
 refine ⟨?_, hS1⟩
 rw [decide_eq_true]
 refine oE (by simp; omega) fun q hq => ?_
 rw [List.length_map] at hq
 rw [iN _ hq, iN _ (by omega)]
 exact hz q (by omega)
end Go.Ds
namespace Go.Ds
open Go.Proofs
variable {H : Heap}
set_option maxRecDepth 10000
set_option maxHeartbeats 1000000
theorem b4z (v : Value) (xs : List Ctl) (hv : Sl 3 Ctl.cells H v xs) (hl : xs.length < 1000000000) (k : FuncId) (caps : List Value) (p : Nat → Bool)
 (hf : ∀ j H1, j < xs.length → St Tryz.prog H H1 [] → Fn Tryz.prog k (.agg #[I (aD xs j).kind, I (aD xs j).dv, I (aD xs j).ix] :: caps) H1 fun r H2 => r = .bool (p j) ∧ St Tryz.prog H1 H2 []) :
 Fn Tryz.prog 229 [v, .func (.func k) #[] caps.toArray] H fun r H' => r = I (gS p xs.length) ∧ St Tryz.prog H H' [] := by
 refine Fn.of_sw Tryz.func229 rfl (by kernel_rfl) fun l hl => ?_
 have hn : l.length = 19 := by rw [hl]; rfl
 have g0 : get l 0 = v := by rw [hl]; rfl
 have g1 : get l 1 = .func (.func k) #[] caps.toArray := by rw [hl]; rfl
 clear hl
 simp (disch := omega) only [↓RA, RZ, simprocAttr, hn, g0, ((St.refl Tryz.prog H).sl hv).len]
 refine Wp.loopS (fun n l H' => l.length = 19 ∧ get l 0 = v ∧ get l 1 = .func (.func k) #[] caps.toArray ∧ get l 7 = I xs.length ∧ ∃ (j : Nat), (n + j = xs.length ∧ ∀ q, q < j → p q = false) ∧ get l 8 = I j ∧ St Tryz.prog H H' []) xs.length ?_ ?_
 ·simp (disch := omega) only [RB, RC, simprocAttr, hn, g0, g1]
  exact ⟨0, ⟨by omega, fun q hq => absurd hq (Nat.not_lt_zero _)⟩, rfl, (St.refl Tryz.prog H)⟩
 rintro n l H1 ⟨hn, g0, g1, g7, j, ⟨hi,h0⟩, g8, hS1⟩
 simp (disch := omega) only [↓RA, RB, simprocAttr, hn, g7, g8]
 first | refine aA (fun h => ?_) (fun h => ?_) | refine aB (fun h => ?_) (fun h => ?_)
 ·simp (disch := omega) only [↓RA, RZ, simprocAttr, hn, g0, g1, g8, (hS1.sl hv).idx, (hS1.sl hv).ldA, Ctl.cells, h]
  refine aC (hf j _ (by omega) hS1) ?_
  rintro r H2 ⟨rfl, hT1⟩
  have hS2 := hS1.trans hT1
  simp only [RT] at hS2
  simp (disch := omega) only [↓RA, RZ, simprocAttr, hn, h]
  first | refine aA (fun hp => ?_) (fun hp => ?_) | refine aB (fun hp => ?_) (fun hp => ?_)
  ·simp (disch := omega) only [↓RA, RZ, simprocAttr, hn, b5o, h, hp]
   exact ⟨by rw [pF p xs.length j (by omega) hp h0], hS2⟩
  simp (disch := omega) only [↓RA, RZ, simprocAttr, hn, g0, g1, g7, g8, h, hp]
  exact ⟨n - 1, by omega, j + 1, ⟨by omega, fun q hq => by rcases Nat.lt_succ_iff_lt_or_eq.1 hq with e | e; (· exact h0 q e); (· rw [e]; exact hp)⟩, by simp, hS2⟩
 simp (disch := omega) only [↓RA, RZ, simprocAttr, hn, b5o, h]
 exact ⟨by rw [pT p xs.length fun q hq => h0 q (by omega)], hS1⟩
theorem c1m : a2v Tryz.prog 92 = some (2 + 1) := by kernel_rfl
theorem jM (a b : List Ctl) : dH (a ++ b) = dH a ++ dH b := List.flatMap_append
theorem b4k {B : Base} {v : Value} {xs : List Ctl} (hS : St Tryz.prog B H [⟨v, 3, dH xs⟩]) (hl : xs.length < 100000) (k : FuncId) (caps : List Value) (p : Ctl → Bool)
 (hf : ∀ c ∈ xs, ∀ {H1 : Heap} {os : List Ob}, St Tryz.prog B H1 os → Fn Tryz.prog k (.agg #[I c.kind, I c.dv, I c.ix] :: caps) H1 fun r H2 => r = .bool (p c) ∧ St Tryz.prog H1 H2 []) :
 Fn Tryz.prog 169 [v, .func (.func k) #[] caps.toArray] H fun r H' => ∃ rest : List Value, (∀ b, cM r = some b → cM v = some b) ∧ (∀ H2, RdAt H2 v 3 (dH (xs.filter fun c => !p c) ++ rest) → RdAt H2 r 3 (dH (xs.filter fun c => !p c))) ∧
  St Tryz.prog B H' [⟨v, 3, dH (xs.filter fun c => !p c) ++ rest⟩] := by
 refine Fn.of_sw Tryz.func169 rfl (by kernel_rfl) fun l hl => ?_
 have hn : l.length = 42 := by rw [hl]; rfl
 have g0 : get l 0 = v := by rw [hl]; rfl
 have g1 : get l 1 = .func (.func k) #[] caps.toArray := by rw [hl]; rfl
 clear hl
 simp (disch := omega) only [↓RA, RZ, simprocAttr, hn, g0, g1]
 refine aC (b4z v xs (hS.slo 0 rfl (fun _ => rfl)) (by omega) k caps (fun j => p (aD xs j)) (fun j H1 hj hS' => hf _ (aG hj) (hS.trans hS'))) ?_
 rintro r H1 ⟨rfl, hT1⟩
 have hS1 := hS.trans hT1
 simp only [RT] at hS1
 simp (disch := omega) only [↓RA, RB, simprocAttr, hn]
 first | refine aA (fun h1 => ?_) (fun h1 => ?_) | refine aB (fun h1 => ?_) (fun h1 => ?_)
 ·have hno : ∀ c ∈ xs, p c = false := by
   intro c hc
   obtain ⟨j, hj, rfl⟩ := List.mem_iff_getElem.1 hc
   have h2 : ¬ 0 ≤ gS (fun j => p (aD xs j)) xs.length := by omega
   rw [tS] at h2
   rw [← bX xs j hj, ← Bool.not_eq_true]
   exact fun hp => h2 ⟨j, hj, hp⟩
  have hfe : (xs.filter fun c => !p c) = xs := List.filter_eq_self.2 fun c hc => by rw [hno c hc]; rfl
  simp (disch := omega) only [↓RA, RZ, simprocAttr, hn, g0, b5A, h1]
  exact ⟨[], fun _ h => h, by rw [hfe, List.append_nil]; exact fun _ h => h, by rw [hfe, List.append_nil]; exact hS1⟩
 have hge : 0 ≤ gS (fun j => p (aD xs j)) xs.length := by
  unfold gS at h1 ⊢
  split
  ·omega
  ·rename_i hq
   rw [hq] at h1
   exact absurd rfl h1
 obtain ⟨i0, hi0⟩ : ∃ i0 : Nat, gS (fun j => p (aD xs j)) xs.length = i0 := ⟨_, (Int.toNat_of_nonneg hge).symm⟩
 have hi0l := tV hi0
 have hi0b : (∀ j, j < i0 → p (aD xs j) = false) ∧ p (aD xs i0) = true := by
  unfold gS at hi0
  split at hi0
  ·rename_i q hq
   have hqi : q = i0 := by omega
   subst hqi
   rw [List.find?_range_eq_some] at hq
   exact ⟨fun j hj => by have := hq.2.2 j hj; simpa using this, hq.1⟩
  ·omega
 have hD0 : ((xs.take (i0 + 1)).filter fun c => !p c) = xs.take i0 := by
  rw [dV xs i0 hi0l, List.filter_append]
  have e1 : ([aD xs i0].filter fun c => !p c) = [] := by simp [hi0b.2]
  rw [e1, List.append_nil]
  refine List.filter_eq_self.2 fun c hc => ?_
  obtain ⟨j, hj, rfl⟩ := List.mem_iff_getElem.1 hc
  have hj2 : j < i0 := by rw [List.length_take] at hj; omega
  have := hi0b.1 j hj2
  rw [bX xs j (by omega)] at this
  rw [List.getElem_take, this]
  rfl
 simp (disch := omega) only [↓RA, RZ, simprocAttr, hn, hi0]
 have hrow : St Tryz.prog B H1 [⟨v, 3, dH (((xs.take (i0 + 1)).filter fun c => !p c) ++ xs.drop ((xs.take (i0 + 1)).filter fun c => !p c).length)⟩] := by
  rw [hD0, List.length_take, Nat.min_eq_left (by omega), List.take_append_drop]
  exact hS1
 have hlt0 : ((xs.take (i0 + 1)).filter fun c => !p c).length < i0 + 1 := by
  rw [hD0, List.length_take]
  omega
 refine Wp.loopS (fun n l H' => l.length = 42 ∧ get l 0 = v ∧ get l 1 = .func (.func k) #[] caps.toArray ∧ ∃ j : Nat, (n + j = xs.length ∧ ((xs.take j).filter fun c => !p c).length < j) ∧ get l 5 = I ((xs.take j).filter fun c => !p c).length ∧ get l 6 = I j ∧ St Tryz.prog B H' [⟨v, 3, dH (((xs.take j).filter fun c => !p c) ++ xs.drop ((xs.take j).filter fun c => !p c).length)⟩]) (xs.length - (i0 + 1)) ?_ ?_
 ·simp (disch := omega) only [RB, RC, simprocAttr, hn, g0, g1]
  refine ⟨i0 + 1, ⟨by omega, hlt0⟩, ?_, by simp, hrow⟩
  rw [hD0, List.length_take, Nat.min_eq_left (by omega)]
 clear hrow hlt0
 rintro n l H9 ⟨hn, g0, g1, j, ⟨hj, hlt⟩, g5, g6, hS9⟩
 have hsucc : j < xs.length → ((xs.take (j + 1)).filter fun c => !p c) = ((xs.take j).filter fun c => !p c) ++ (if p (aD xs j) = true then [] else [aD xs j]) := fun h => by
  rw [dV xs j h, List.filter_append]
  congr 1
  by_cases hp : p (aD xs j) = true
  ·rw [if_pos hp]; simp [hp]
  ·rw [if_neg hp]; simp [hp]
 have hall : j = xs.length → ((xs.take j).filter fun c => !p c) = xs.filter fun c => !p c := fun h => by rw [h, List.take_length]
 generalize hD : ((xs.take j).filter fun c => !p c) = D at g5 hlt hS9 hsucc hall
 have hjl : j ≤ xs.length := by omega
 have hrl : (D ++ xs.drop D.length).length = xs.length := by rw [List.length_append, List.length_drop]; omega
 have hat : ∀ q, D.length ≤ q → aD (D ++ xs.drop D.length) q = aD xs q := fun q hq => by
  unfold aD
  rw [List.getD_eq_getElem?_getD, List.getElem?_append_right hq, List.getElem?_drop, List.getD_eq_getElem?_getD]
  congr 2; omega
 have hatj := hat j (by omega)
 simp (disch := omega) only [↓RA, RZ, simprocAttr, hn, g0, g6, (hS9.slo 0 rfl (fun _ => rfl)).len, hrl]
 first | refine aA (fun h4 => ?_) (fun h4 => ?_) | refine aB (fun h4 => ?_) (fun h4 => ?_)
 ·have hjx : j < xs.length := by omega
  have hsu := hsucc hjx
  simp (disch := omega) only [↓RA, RZ, simprocAttr, hn, g0, g6, (hS9.slo 0 rfl (fun _ => rfl)).idx, (hS9.slo 0 rfl (fun _ => rfl)).ldA, Ctl.cells, hatj, h4]
  refine hS9.eNew 3 [I 0, I 0, I 0] rfl rfl rfl sT fun A1 H2 hS2 => ?_
  simp only [RT] at hS2
  simp (disch := omega) only [↓RA, RZ, simprocAttr, hn, h4]
  refine hS2.eStore 1 rfl [I (aD xs j).kind, I (aD xs j).dv, I (aD xs j).ix] rfl rfl sT (by simp) fun H3 hS3 => ?_
  simp only [RT] at hS3
  simp (disch := omega) only [↓RA, RZ, simprocAttr, hn, g1, hS3.ldA 1 rfl, h4]
  refine aC (hf (aD xs j) (aG hjx) hS3) ?_
  rintro r H4 ⟨rfl, hT2⟩
  have hS4 := hS3.trans hT2
  simp only [RT] at hS4
  simp (disch := omega) only [↓RA, RZ, simprocAttr, hn, h4]
  first | refine aA (fun h5 => ?_) (fun h5 => ?_) | refine aB (fun h5 => ?_) (fun h5 => ?_)
  ·have hpf : ¬ p (aD xs j) = true := by simpa using h5
   rw [if_neg hpf] at hsu
   simp (disch := omega) only [↓RA, RZ, simprocAttr, hn, g0, g5, hS4.ldA 1 rfl, (hS4.slo 0 rfl (fun _ => rfl)).idx, h4, h5]
   refine hS4.eStoreE 0 rfl [I (aD xs j).kind, I (aD xs j).dv, I (aD xs j).ix] rfl rfl sT (by simp) (by rw [eE, hrl]; simp; omega) fun H5 hS5 => ?_
   simp only [RT] at hS5
   simp (disch := omega) only [↓RA, RZ, simprocAttr, hn, g0, g1, g5, g6, h4, h5]
   refine ⟨n - 1, by omega, j + 1, ?_⟩
   rw [hsu]
   refine ⟨⟨by omega, by simp; omega⟩, by simp, by simp, ?_⟩
   have e3 : dH (D ++ [aD xs j] ++ xs.drop (D ++ [aD xs j]).length) = (((dH (D ++ xs.drop D.length)).set (D.length * 3) (I (aD xs j).kind)).set (D.length * 3 + 1) (I (aD xs j).dv)).set (D.length * 3 + 1 + 1) (I (aD xs j).ix) := by
    have hx : xs.drop D.length = aD xs D.length :: xs.drop (D.length + 1) := by
     rw [bX xs _ (by omega)]
     exact List.drop_eq_getElem_cons (by omega)
    rw [hx, List.length_append, List.length_singleton, jM, jM, jM]
    have e4 : dH (aD xs D.length :: xs.drop (D.length + 1)) = I (aD xs D.length).kind :: I (aD xs D.length).dv :: I (aD xs D.length).ix :: dH (xs.drop (D.length + 1)) := rfl
    have e5 : dH [aD xs j] = [I (aD xs j).kind, I (aD xs j).dv, I (aD xs j).ix] := rfl
    have e6 : (dH D).length = D.length * 3 := eE D
    rw [e4, e5, List.set_append_right _ _ (by omega), List.set_append_right _ _ (by omega), List.set_append_right _ _ (by omega), e6, Nat.sub_self, Nat.add_sub_cancel_left, show D.length * 3 + 1 + 1 - D.length * 3 = 2 from by omega]
    simp
   rw [e3]
   exact hS5.pick [0] (by decide) rfl
  have hpt : p (aD xs j) = true := by simpa using h5
  rw [if_pos hpt, List.append_nil] at hsu
  simp (disch := omega) only [↓RA, RZ, simprocAttr, hn, g0, g1, g5, g6, h4, h5]
  refine ⟨n - 1, by omega, j + 1, ?_⟩
  rw [hsu]
  exact ⟨⟨by omega, by omega⟩, rfl, by simp, hS4.pick [0] (by decide) rfl⟩
 have hje : j = xs.length := by omega
 have hDe := hall hje
 have hcl : (dH (D ++ xs.drop D.length)).length = xs.length * (2 + 1) := by rw [eE, hrl]
 have hDn : D.length ≤ xs.length := by omega
 simp (disch := omega) only [↓RA, RZ, simprocAttr, hn, g0, g5, (hS9.slo 0 rfl (fun _ => rfl)).sliceL, hrl, h4]
 rw [show ((xs.length : Int) - D.length).toNat = xs.length - D.length from by omega]
 refine hS9.eClear (size := 2) 0 rfl D.length (xs.length - D.length) (by rw [hcl]; omega) (by
  intro e
  have h2 : (dH (D ++ xs.drop D.length)).length = 0 := by rw [e]; rfl
  rw [hcl] at h2; omega) c1m fun z H3 hz hSc => ?_
 simp only [RT] at hSc
 have e3 : aY (dH (D ++ xs.drop D.length)) (D.length * 3) z = dH D ++ z := by
  rw [jM, show D.length * 3 = (dH D).length from (eE D).symm, eS z (dH D) (dH (xs.drop D.length)) (by rw [eE, List.length_drop]; omega)]
  rw [List.drop_of_length_le (by rw [eE, List.length_drop]; omega), List.append_nil]
 rw [show D.length * (2 + 1) = D.length * 3 from rfl, e3] at hSc
 have hw : RdAt H3 v (2 + 1) (dH D ++ z) := hSc.rd 0 rfl
 have hwl : (dH D ++ z).length = xs.length * (2 + 1) := by rw [List.length_append, eE, hz]; omega
 simp (disch := omega) only [↓RA, RZ, simprocAttr, hn, g0, g5, hw.sliceH hwl, b5A, h4]
 refine ⟨z, fun b h => uP h, fun H2 h2 => ?_, by rw [← hDe]; exact hSc⟩
 rw [← hDe] at h2 ⊢
 have h5 := RdAt.sub h2 0 D.length (by rw [hwl]; omega) (by
  intro e
  rw [e] at hwl
  simp at hwl; omega)
 rw [Nat.zero_mul, List.drop_zero, show D.length * 3 = (dH D).length from (eE D).symm, List.take_left' rfl] at h5
 exact h5
end Go.Ds
namespace Go.Ds
open Go.Proofs
variable {H : Heap}
set_option maxRecDepth 10000
set_option maxHeartbeats 1000000
theorem qS (rg : Reg) (c : Ctl) : (bU rg c).stops.length = rg.stops.length := by
 unfold bU
 split
 ·simp
 ·split <;> rfl
theorem mM {rg : Reg} (h : rg.Ok) (c : Ctl) : (bU rg c).Ok := by
 obtain ⟨h1, h2, h3, h4⟩ := h
 unfold bU
 split
 ·refine ⟨by simpa using h1, ?_, h3, h4⟩
  intro x hx
  rcases List.mem_or_eq_of_mem_set hx with h | h
  ·exact h2 x h
  ·rw [h]; exact a0d _ _
 ·split
  ·exact ⟨h1, h2, a0d _ _, h4⟩
  ·exact ⟨h1, h2, h3, a0d _ _⟩
theorem a4H {o : Org} (hf : o.Fine) (rg : Reg) (c : Ct) : (nW o rg c).length ≤ 1000000 := by
 unfold nW
 split
 ·rename_i h
  have hc := (xX h).2
  unfold a0Z a0U
  refine Nat.le_trans (b0F _) ?_
  rw [gX]
  have hm : ∀ x ∈ [c], lC o x = true := by intro x hx; rw [List.mem_singleton.1 hx]; exact hc
  have h1 := mU hf rg (mQ o rg [c]) (uK hm)
  have h2 := vD hf (rg := rg) (l := [c]) (by simp)
  omega
 ·simp
theorem yS {o : Org} (hf : o.Fine) (rg : Reg) : ∀ l ∈ dT o rg, l.length ≤ 1000000 := by
 intro l hl
 obtain ⟨c, _, rfl⟩ := List.mem_map.1 hl
 exact a4H hf rg c
theorem uH {rg : Reg} (h64 : rg.stops.length ≤ 64) : ∀ c ∈ dD rg, c.For rg := by
 intro c hc
 unfold dD at hc
 have hb : ∀ (x i : Nat), i ∈ fB x → i < 64 := fun x i hi => by
  unfold fB at hi
  exact List.mem_range.1 (List.mem_filter.1 hi).1
 rcases List.mem_append.1 hc with hc | hc
 ·rcases List.mem_append.1 hc with hc | hc
  ·obtain ⟨d, hd, hc⟩ := List.mem_flatMap.1 hc
   obtain ⟨i, hi, rfl⟩ := List.mem_map.1 hc
   have hd := List.mem_range.1 hd
   have hi := hb _ _ hi
   refine ⟨fun _ => ?_, fun h => ?_, fun h => ?_⟩
   ·simp only [nH]; omega
   ·simp only [nH] at h; omega
   ·exact absurd rfl h
  ·obtain ⟨i, hi, rfl⟩ := List.mem_map.1 hc
   have hi := hb _ _ hi
   refine ⟨fun h => ?_, fun _ => ?_, fun _ h => ?_⟩
   ·simp only [nJ] at h; omega
   ·simp only [nJ]; omega
   ·exact absurd rfl h
 ·obtain ⟨i, hi, rfl⟩ := List.mem_map.1 hc
  have hi := hb _ _ hi
  refine ⟨fun h => ?_, fun h => ?_, fun _ _ => ?_⟩
  ·simp only [xH] at h; omega
  ·simp only [xH] at h; omega
  ·simp only [xH]; omega
theorem a9d (o : Org) (ho : o.In H) (hf : o.Fine) (rg : Reg) (sv : Value) (hr : rg.In H sv) (h0 : 0 < rg.stops.length) (h1 : rg.stops.length < 100000) (c : Ctl) (hc : c.For rg) (AO AR AW : Nat)
 (hAO : Var H AO 4 [.string o.name, o.rv, o.dv, o.cv]) (hAR : Var H AR 3 [sv, .int .u64 rg.cpl, .int .u64 rg.off]) (wv : Value) (own : List Pv) (hAW : Var H AW 1 [wv]) (hw : Sl 1 Pv.cells H wv own) (hwi : ∀ p ∈ own, p.In H) (hwl : own.length < 1000000000) (hwb : ∀ p ∈ own, p.l.length < 1000000000) :
 Fn Tryz.prog 170 [.agg #[I c.kind, I c.dv, I c.ix], ptr AO 0 4, ptr AR 0 3, ptr AW 0 1] H fun r H' => r = .bool (!(decide (dT o (bU rg c) = own.map (·.l)))) ∧ St Tryz.prog H H' [] := by
 refine Fn.of_sw Tryz.func170 rfl (by kernel_rfl) fun l hl => ?_
 have hn : l.length = 14 := by rw [hl]; rfl
 have g0 : get l 0 = (.agg #[I c.kind, I c.dv, I c.ix]) := by rw [hl]; rfl
 have g1 : get l 1 = (ptr AO 0 4) := by rw [hl]; rfl
 have g2 : get l 2 = (ptr AR 0 3) := by rw [hl]; rfl
 have g3 : get l 3 = (ptr AW 0 1) := by rw [hl]; rfl
 clear hl
 simp (disch := omega) only [↓RA, RB, simprocAttr, g0]
 refine (St.refl Tryz.prog H).eNew 3 [I c.kind, I c.dv, I c.ix] rfl rfl rfl sT fun A1 H1 hS1 => ?_
 simp only [RT] at hS1
 simp (disch := omega) only [↓RA, RB, simprocAttr]
 refine Wp.drwT cA [(0, 4), (5, 0), (5, 4)] (by kernel_rfl) (by kernel_rfl) ?_
 simp (disch := omega) only [↓RA, RZ, simprocAttr, hn, g1, g2, (hS1.va hAO).ldA, (hS1.va hAR).ldA, hS1.ldA 0 rfl]
 refine aC (a6m rg sv (hr.keep hS1) h0 h1 c hc) ?_
 rintro r H2 ⟨nv, rfl, hT1⟩
 have hS2 := hS1.trans hT1
 simp only [RT] at hS2
 simp (disch := omega) only [↓RA, RZ, simprocAttr, hn]
 have hln := qS rg c
 refine aC (zM o (ho.keep hS2) hf (bU rg c) nv ⟨hS2.slo 1 rfl (fun _ => rfl), mM hr.2 c⟩) ?_
 rintro r H3 ⟨ps, hps, hpx, hpi, hT2⟩
 have hS3 := hS2.trans hT2
 simp only [RT] at hS3
 have hpl : ps.length < 1000000000 := by
  have h2 := congrArg List.length hps
  rw [List.length_map] at h2
  have h3 := mN hf
  unfold dT at h2
  rw [List.length_map] at h2
  omega
 have hpb : ∀ p ∈ ps, p.l.length < 1000000000 := fun p hp => by
  have := yS hf (bU rg c) p.l (by rw [← hps]; exact List.mem_map_of_mem hp)
  omega
 simp (disch := omega) only [↓RA, RZ, simprocAttr, hn, g3, (hS3.va hAW).ld]
 refine aC (b2d r wv ps own hpx.1 (hS3.sl hw) (fun p hp => (hpi p hp).1) (fun p hp => hS3.sl (hwi p hp)) hpl hwl hpb hwb) ?_
 rintro r H4 ⟨rfl, hT3⟩
 have hS4 := hS3.trans hT3
 simp only [RT] at hS4
 simp (disch := omega) only [↓RA, RZ, simprocAttr, hn, g1, g3, (hS2.va hAO).ldA, (hS1.va hAW).ld, (hS2.va hAW).ld, b8z]
 exact ⟨by rw [hps], hS4.forget⟩
theorem oB {rg : Reg} (h60 : rg.stops.length ≤ 60) : (dD rg).length < 100000 := by
 have e : dD rg = qE rg rg.stops.length ++ (fK rg.cpl 64).map nJ ++ (fK rg.off 64).map xH := rfl
 rw [e, List.length_append, List.length_append, List.length_map, List.length_map]
 have h1 := tO rg rg.stops.length
 have h2 := iB rg.cpl 64
 have h3 := iB rg.off 64
 omega
theorem a3b (o : Org) (rg : Reg) : ((dD rg).filter fun c => !(!(decide (dT o (bU rg c) = dT o rg)))) = dN o rg := by
 unfold dN
 congr 1
 funext c
 rw [Bool.not_not]
theorem a5F (o : Org) (ho : o.In H) (hf : o.Fine) (rg : Reg) (sv : Value) (hr : rg.In H sv) (h0 : 0 < rg.stops.length) (h60 : rg.stops.length ≤ 60) :
 Fn Tryz.prog 102 [.agg #[.string o.name, o.rv, o.dv, o.cv], .agg #[sv, .int .u64 rg.cpl, .int .u64 rg.off]] H fun r H' => Slx 3 Ctl.cells H' (fun B => H.length ≤ B) r (dN o rg) ∧ St Tryz.prog H H' [] := by
 refine Fn.of_sw Tryz.func102 rfl (by kernel_rfl) fun l hl => ?_
 have hn : l.length = 13 := by rw [hl]; rfl
 have g0 : get l 0 = (.agg #[(.string o.name), o.rv, o.dv, o.cv]) := by rw [hl]; rfl
 have g1 : get l 1 = (.agg #[sv, (.int .u64 rg.cpl), (.int .u64 rg.off)]) := by rw [hl]; rfl
 clear hl
 simp (disch := omega) only [↓RA, RB, simprocAttr, g0]
 refine (St.refl Tryz.prog H).eNew 4 [(.string o.name), o.rv, o.dv, o.cv] rfl rfl (by simp [OC, ((St.refl Tryz.prog H).sl ho.1).cells.2.1, ((St.refl Tryz.prog H).sl ho.2.2.1).cells.2.1, ((St.refl Tryz.prog H).sl ho.2.2.2.2.1).cells.2.1]) eU fun A1 H1 hS1 => ?_
 simp only [RT] at hS1
 simp (disch := omega) only [↓RA, RB, simprocAttr, g1]
 refine hS1.eNew 3 [sv, (.int .u64 rg.cpl), (.int .u64 rg.off)] rfl rfl (by simp [OC, (hS1.sl hr.1).cells.2.1]) eB fun A2 H2 hS2 => ?_
 simp only [RT] at hS2
 simp (disch := omega) only [↓RA, RZ, simprocAttr, hn, hS2.ldA 0 rfl, hS2.ldA 1 rfl]
 have hS0 := hS2
 refine aC (zM o (ho.keep hS2) hf rg sv (hr.keep hS2)) ?_
 rintro r H3 ⟨ps, hps, hpx, hpi, hT1⟩
 have hS3 := hS2.trans hT1
 simp only [RT] at hS3
 obtain ⟨wv, rfl⟩ : ∃ w, w = r := ⟨r, rfl⟩
 have hpl : ps.length < 1000000000 := by
  have h2 := congrArg List.length hps
  rw [List.length_map] at h2
  have h3 := mN hf
  unfold dT at h2
  rw [List.length_map] at h2
  omega
 have hpb : ∀ p ∈ ps, p.l.length < 1000000000 := fun p hp => by
  have := yS hf rg p.l (by rw [← hps]; exact List.mem_map_of_mem hp)
  omega
 have hkn := hS0.keptNew (H' := H3)
 have hpx2 := hpx.step hkn
 have hpi2 := fun p hp => (hpi p hp).step hkn
 have hS1 := hS3
 obtain ⟨X, hBX, hS4⟩ := hS3.rebaseE (os := [⟨ptr A1 0 4, 0, _⟩, ⟨ptr A2 0 3, 0, _⟩])
 simp (disch := omega) only [↓RA, RZ, simprocAttr]
 refine hS4.eNew 1 [(.slice none 0 0)] rfl rfl rfl a1A fun A3 H4 hS5 => ?_
 simp only [RT] at hS5
 simp (disch := omega) only [↓RA, RB, simprocAttr, hn]
 refine hS5.eStore 2 rfl [wv] (by rw [hpx.1.cells.1]) (by simp [hpx.1.cells.2.1]) a1A (by simp) fun H5 hS6 => ?_
 simp only [RT] at hS6
 simp (disch := omega) only [↓RA, RZ, simprocAttr, hn, hS6.ldA 1 rfl]
 refine aC ((yY rg sv (hr.keep (hS3.unbaseE hBX hS6)) h60).tr) ?_
 rintro r H6 ⟨-, hT2⟩
 have hS7 := hS6.trans hT2
 simp only [RT] at hS7
 obtain ⟨cw, rfl⟩ : ∃ w, w = r := ⟨r, rfl⟩
 simp (disch := omega) only [↓RA, RZ, simprocAttr, hn]
 have hM1 := hS7.pick (os' := [⟨cw, 3, _⟩]) [3] (by decide) rfl
 have hR1 := hS7.pick (os' := [⟨cw, 3, _⟩, ⟨ptr A1 0 4, 0, _⟩, ⟨ptr A2 0 3, 0, _⟩, ⟨ptr A3 0 1, 0, _⟩]) [3, 0, 1, 2] (by decide) rfl
 refine aC (b4k (xs := dD rg) hM1.rebase (oB h60) 170 [ptr A1 0 4, ptr A2 0 3, ptr A3 0 1] (fun c => !(decide (dT o (bU rg c) = dT o rg))) (fun c hc {H9 os} h => by
  have q1 := hR1.frame h.forget
  have q2 := hS1.unbaseE hBX q1
  have q3 := q1.kept hBX
  have q4 := a9d o (ho.keep q2) hf rg sv (hr.keep q2) h0 (by omega) c (uH (by omega) c hc) A1 A2 A3 (q1.var 0 rfl) (q1.var 1 rfl) wv ps (q1.var 2 rfl) (hpx2.step q3).1 (fun p hp => ((hpi2 p hp).step q3).1) hpl hpb
  rw [hps] at q4
  exact q4)) ?_
 rintro r H7 ⟨rest, hb, hrd, hT3⟩
 have hS8 := hR1.frame hT3
 simp only [RT] at hS8
 rw [a3b] at hrd
 have hrr := hrd _ (by rw [← a3b]; exact hS8.rd 0 rfl)
 have hrc := hrr.cells
 simp (disch := omega) only [↓RA, RB, simprocAttr, hn, b8J]
 refine ⟨⟨⟨hrr, fun _ => rfl, by decide⟩, fun b h => ?_⟩, (hS3.unbaseE hBX hS8).forget⟩
 rcases (hS3.unbaseE hBX hS8).new _ (List.mem_cons_self ..) b (hb b h) with h | h
 ·exact h
 ·exact h.elim
end Go.Ds
namespace Go.Ds
open Go.Proofs
variable {H : Heap}
set_option maxRecDepth 10000
set_option maxHeartbeats 1000000
theorem jH (o : Org) (ho : o.In H) (rg : Reg) (sv : Value) (hr : rg.In H sv) :
 Fn Tryz.prog 101 [.agg #[.string o.name, o.rv, o.dv, o.cv], .agg #[sv, .int .u64 rg.cpl, .int .u64 rg.off]] H fun r H' => r = I (cX o rg) ∧ St Tryz.prog H H' [] := by
 refine Fn.of_sw Tryz.func101 rfl (by kernel_rfl) fun l hl => ?_
 have hn : l.length = 14 := by rw [hl]; rfl
 have g0 : get l 0 = (.agg #[(.string o.name), o.rv, o.dv, o.cv]) := by rw [hl]; rfl
 have g1 : get l 1 = (.agg #[sv, (.int .u64 rg.cpl), (.int .u64 rg.off)]) := by rw [hl]; rfl
 clear hl
 simp (disch := omega) only [↓RA, RB, simprocAttr, g0]
 refine (St.refl Tryz.prog H).eNew 4 [(.string o.name), o.rv, o.dv, o.cv] rfl rfl (by simp [OC, ((St.refl Tryz.prog H).sl ho.1).cells.2.1, ((St.refl Tryz.prog H).sl ho.2.2.1).cells.2.1, ((St.refl Tryz.prog H).sl ho.2.2.2.2.1).cells.2.1]) eU fun A1 H1 hS1 => ?_
 simp only [RT] at hS1
 simp (disch := omega) only [↓RA, RB, simprocAttr, g1]
 refine hS1.eNew 3 [sv, (.int .u64 rg.cpl), (.int .u64 rg.off)] rfl rfl (by simp [OC, (hS1.sl hr.1).cells.2.1]) eB fun A2 H2 hS2 => ?_
 simp only [RT] at hS2
 simp (disch := omega) only [↓RA, RZ, simprocAttr, hn, hS2.ldA 0 rfl]
 refine aC (uL o (ho.keep hS2)) ?_
 rintro r H3 ⟨rfl, hT1⟩
 have hS3 := hS2.trans hT1
 simp only [RT] at hS3
 simp (disch := omega) only [↓RA, RB, simprocAttr, hn]
 first | refine aA (fun h1 => ?_) (fun h1 => ?_) | refine aB (fun h1 => ?_) (fun h1 => ?_)
 ·simp (disch := omega) only [↓RA, RZ, simprocAttr, hn, b5f, h1]
  exact ⟨by rw [cX, if_pos h1], hS3.forget⟩
 simp (disch := omega) only [↓RA, RZ, simprocAttr, hn, hS3.ldA 0 rfl, hS3.ldA 1 rfl, h1]
 refine aC (a8L o (ho.keep hS3) rg sv (hr.keep hS3)) ?_
 rintro r H4 ⟨rfl, hT2⟩
 have hS4 := hS3.trans hT2
 simp only [RT] at hS4
 simp (disch := omega) only [↓RA, RZ, simprocAttr, hn, b5f, h1]
 exact hS4.forget
theorem a5L (o : Org) (ho : o.In H) (rg : Reg) (sv : Value) (hr : rg.In H sv) :
 Fn Tryz.prog 38 [.agg #[.string o.name, o.rv, o.dv, o.cv], .agg #[sv, .int .u64 rg.cpl, .int .u64 rg.off]] H fun r H' => ∃ lv, r = .tuple #[lv, I (cX o rg)] ∧ Slx 3 Ctl.cells H' (fun B => H.length ≤ B) lv (if cX o rg = 0 then dN o rg else []) ∧ St Tryz.prog H H' [] := by
 refine Fn.of_sw Tryz.func38 rfl (by kernel_rfl) fun l hl => ?_
 have hn : l.length = 16 := by rw [hl]; rfl
 have g0 : get l 0 = (.agg #[(.string o.name), o.rv, o.dv, o.cv]) := by rw [hl]; rfl
 have g1 : get l 1 = (.agg #[sv, (.int .u64 rg.cpl), (.int .u64 rg.off)]) := by rw [hl]; rfl
 clear hl
 simp (disch := omega) only [↓RA, RB, simprocAttr, g0]
 refine (St.refl Tryz.prog H).eNew 4 [(.string o.name), o.rv, o.dv, o.cv] rfl rfl (by simp [OC, ((St.refl Tryz.prog H).sl ho.1).cells.2.1, ((St.refl Tryz.prog H).sl ho.2.2.1).cells.2.1, ((St.refl Tryz.prog H).sl ho.2.2.2.2.1).cells.2.1]) eU fun A1 H1 hS1 => ?_
 simp only [RT] at hS1
 simp (disch := omega) only [↓RA, RB, simprocAttr, g1]
 refine hS1.eNew 3 [sv, (.int .u64 rg.cpl), (.int .u64 rg.off)] rfl rfl (by simp [OC, (hS1.sl hr.1).cells.2.1]) eB fun A2 H2 hS2 => ?_
 simp only [RT] at hS2
 simp (disch := omega) only [↓RA, RZ, simprocAttr, hn, hS2.ldA 0 rfl, hS2.ldA 1 rfl]
 refine aC (jH o (ho.keep hS2) rg sv (hr.keep hS2)) ?_
 rintro r H3 ⟨rfl, hT1⟩
 have hS3 := hS2.trans hT1
 simp only [RT] at hS3
 simp (disch := omega) only [↓RA, RB, simprocAttr, hn]
 first | refine aA (fun h1 => ?_) (fun h1 => ?_) | refine aB (fun h1 => ?_) (fun h1 => ?_)
 ·simp (disch := omega) only [↓RA, RZ, simprocAttr, hn, b9H, h1]
  exact ⟨.slice none 0 0, rfl, ⟨⟨.inl ⟨rfl, rfl⟩, fun _ => rfl, by decide⟩, fun b h => by simp [cM] at h⟩, hS3.forget⟩
 have h0 := Classical.not_not.1 h1
 obtain ⟨hz3, hz4⟩ := eN h0
 have hf := Org.fine hz3
 have hd1 := hf.dpos
 have hd2 := hf.dlen
 simp (disch := omega) only [↓RA, RZ, simprocAttr, hn, hS3.ldA 0 rfl, hS3.ldA 1 rfl, h1]
 have hSd := hS3
 refine aC (a5F o (ho.keep hS3) hf rg sv (hr.keep hS3) (by omega) (by omega)) ?_
 rintro r H4 ⟨hx, hT2⟩
 have hS4 := hS3.trans hT2
 simp only [RT] at hS4
 have hnt := hx.1.noTup
 simp (disch := omega) only [↓RA, RZ, simprocAttr, hn, b9H, h1, hnt]
 refine ⟨r, by rw [h0], ⟨by rw [if_pos h0]; exact hx.1, fun b h => ?_⟩, hS4.forget⟩
 have := hx.2 b h
 have : H.length ≤ _ := hSd.len
 omega
theorem a8V (o : Org) (ho : o.In H) (rg : Reg) (sv : Value) (hr : rg.In H sv) :
 Fn Tryz.prog 44 [.agg #[.string o.name, o.rv, o.dv, o.cv], .agg #[sv, .int .u64 rg.cpl, .int .u64 rg.off]] H fun r H' => ∃ lv, r = .tuple #[lv, I (cX o rg)] ∧ St Tryz.prog H H' [⟨lv, 3, dH (if cX o rg = 0 then dD rg else [])⟩] := by
 refine Fn.of_sw Tryz.func44 rfl (by kernel_rfl) fun l hl => ?_
 have hn : l.length = 15 := by rw [hl]; rfl
 have g0 : get l 0 = (.agg #[(.string o.name), o.rv, o.dv, o.cv]) := by rw [hl]; rfl
 have g1 : get l 1 = (.agg #[sv, (.int .u64 rg.cpl), (.int .u64 rg.off)]) := by rw [hl]; rfl
 clear hl
 simp (disch := omega) only [↓RA, RB, simprocAttr, g0]
 refine (St.refl Tryz.prog H).eNew 4 [(.string o.name), o.rv, o.dv, o.cv] rfl rfl (by simp [OC, ((St.refl Tryz.prog H).sl ho.1).cells.2.1, ((St.refl Tryz.prog H).sl ho.2.2.1).cells.2.1, ((St.refl Tryz.prog H).sl ho.2.2.2.2.1).cells.2.1]) eU fun A1 H1 hS1 => ?_
 simp only [RT] at hS1
 simp (disch := omega) only [↓RA, RB, simprocAttr, g1]
 refine hS1.eNew 3 [sv, (.int .u64 rg.cpl), (.int .u64 rg.off)] rfl rfl (by simp [OC, (hS1.sl hr.1).cells.2.1]) eB fun A2 H2 hS2 => ?_
 simp only [RT] at hS2
 simp (disch := omega) only [↓RA, RZ, simprocAttr, hn, hS2.ldA 0 rfl, hS2.ldA 1 rfl]
 refine aC (jH o (ho.keep hS2) rg sv (hr.keep hS2)) ?_
 rintro r H3 ⟨rfl, hT1⟩
 have hS3 := hS2.trans hT1
 simp only [RT] at hS3
 simp (disch := omega) only [↓RA, RB, simprocAttr, hn]
 first | refine aA (fun h1 => ?_) (fun h1 => ?_) | refine aB (fun h1 => ?_) (fun h1 => ?_)
 ·simp (disch := omega) only [↓RA, RZ, simprocAttr, hn, b9n, h1]
  exact ⟨.slice none 0 0, rfl, hS3.forget.nil 2⟩
 have h0 := Classical.not_not.1 h1
 obtain ⟨hz3, hz4⟩ := eN h0
 have hf := Org.fine hz3
 have hd2 := hf.dlen
 simp (disch := omega) only [↓RA, RZ, simprocAttr, hn, hS3.ldA 1 rfl, h1]
 refine aC ((yY rg sv (hr.keep hS3) (by omega)).tr) ?_
 rintro r H4 ⟨-, hT2⟩
 have hS4 := hS3.trans hT2
 simp only [RT] at hS4
 have hnt : bN r = true := (hS4.slo (cel := Ctl.cells) 2 rfl (fun _ => rfl)).noTup
 simp (disch := omega) only [↓RA, RZ, simprocAttr, hn, b9n, h1, hnt]
 exact ⟨r, by rw [h0], by rw [if_pos h0]; exact hS4.pick [2] (by decide) rfl⟩
end Go.Ds
namespace Go.Ds
open Go.Proofs
variable {H : Heap}
set_option maxRecDepth 10000
set_option maxHeartbeats 1000000
theorem a2o (x i j : Nat) (hx : x < 18446744073709551616) (hi : i < 64) : (fP x i).testBit j = (x.testBit j && !decide (j = i)) := by
 have hx' : x < 2 ^ 64 := by simpa using hx
 unfold fP
 rw [Int.toNat_natCast, BitVec.toNat_and, Nat.testBit_and, BitVec.toNat_ofNat, Nat.mod_eq_of_lt hx']
 by_cases hj : j < 64
 ·have e : (~~~ BitVec.ofNat 64 (2 ^ i)).toNat.testBit j = !decide (j = i) := by
   have h1 : (~~~ BitVec.ofNat 64 (2 ^ i)).toNat.testBit j = (~~~ BitVec.ofNat 64 (2 ^ i)).getLsbD j := rfl
   rw [h1, BitVec.getLsbD_not, decide_eq_true hj, Bool.true_and, BitVec.getLsbD_ofNat, decide_eq_true hj, Bool.true_and, Nat.testBit_two_pow]
   congr 1
   exact decide_eq_decide.2 ⟨fun h => h.symm, fun h => h.symm⟩
  rw [e]
 ·have h1 : x.testBit j = false := Nat.testBit_lt_two_pow (Nat.lt_of_lt_of_le hx' (Nat.pow_le_pow_right (by decide) (by omega)))
  rw [h1, Bool.false_and, Bool.false_and]
def pc (x : Nat) : Nat := (fB x).length
theorem a9I (x : Nat) : pc x ≤ 64 := iB x 64
theorem a0L (x i : Nat) (hx : x < 18446744073709551616) (hi : i < 64) (hb : x.testBit i = true) : pc (fP x i) < pc x := by
 have e : fB (fP x i) = (fB x).filter fun j => !decide (j = i) := by
  unfold fB
  rw [List.filter_filter]
  refine List.filter_congr fun j _ => ?_
  rw [a2o x i j hx hi, Bool.and_comm]
 unfold pc
 rw [e, List.length_filter_lt_length_iff_exists]
 exact ⟨i, List.mem_filter.2 ⟨List.mem_range.2 hi, hb⟩, by simp⟩
def mu (g : Reg) : Nat := (g.stops.map pc).sum + pc g.cpl + pc g.off
theorem c0W (g : Reg) : mu g ≤ 64 * g.stops.length + 128 := by
 have h : ∀ l : List Nat, (l.map pc).sum ≤ 64 * l.length := by
  intro l
  induction l with
  | nil => simp
  | cons a l ih =>
    have := a9I a
    simp only [List.map_cons, List.sum_cons, List.length_cons]
    omega
 have := h g.stops
 have := a9I g.cpl
 have := a9I g.off
 unfold mu
 omega
theorem wH : ∀ (l : List Nat) (d y : Nat), d < l.length → y < aD l d → (l.set d y).sum < l.sum
 | [], d, y, h, _ => by simp at h
 | a :: l, 0, y, _, hy => by
   have : aD (a :: l) 0 = a := rfl
   rw [this] at hy
   simp only [List.set_cons_zero, List.sum_cons]
   omega
 | a :: l, d + 1, y, h, hy => by
   have h1 : aD (a :: l) (d + 1) = aD l d := rfl
   rw [h1] at hy
   have := wH l d y (by simpa using h) hy
   simp only [List.set_cons_succ, List.sum_cons]
   omega
theorem a5N {g : Reg} (hg : g.Ok) {c : Ctl} (hc : c ∈ dD g) : mu (bU g c) < mu g := by
 obtain ⟨_, hg2, hg3, hg4⟩ := hg
 unfold dD at hc
 have hb : ∀ (x i : Nat), i ∈ fB x → i < 64 ∧ x.testBit i = true := fun x i hi => by
  unfold fB at hi
  exact ⟨List.mem_range.1 (List.mem_filter.1 hi).1, (List.mem_filter.1 hi).2⟩
 rcases List.mem_append.1 hc with hc | hc
 ·rcases List.mem_append.1 hc with hc | hc
  ·obtain ⟨d, hd, hc⟩ := List.mem_flatMap.1 hc
   obtain ⟨i, hi, rfl⟩ := List.mem_map.1 hc
   have hd := List.mem_range.1 hd
   obtain ⟨hi, hbit⟩ := hb _ _ hi
   have e : bU g (nH d i) = { g with stops := g.stops.set d (fP (aD g.stops d) i) } := rfl
   rw [e]
   have hp := a0L _ i (hg2 _ (aG hd)) hi hbit
   have := wH (g.stops.map pc) d (pc (fP (aD g.stops d) i)) (by simpa using hd) (by rw [iN _ hd]; exact hp)
   unfold mu
   simp only [List.map_set]
   omega
  ·obtain ⟨i, hi, rfl⟩ := List.mem_map.1 hc
   obtain ⟨hi, hbit⟩ := hb _ _ hi
   have e : bU g (nJ i) = { g with cpl := fP g.cpl i } := rfl
   rw [e]
   have := a0L _ i hg3 hi hbit
   unfold mu
   simp only
   omega
 ·obtain ⟨i, hi, rfl⟩ := List.mem_map.1 hc
  obtain ⟨hi, hbit⟩ := hb _ _ hi
  have e : bU g (xH i) = { g with off := fP g.off i } := rfl
  rw [e]
  have := a0L _ i hg4 hi hbit
  unfold mu
  simp only
  omega
def cT (o : Org) : Nat → Reg → List Ctl → Reg × List Ctl
 | 0, g, l => (g, l)
 | n + 1, g, l => if (dN o g).length = 0 then (g, l) else cT o n (bU g (aD (dN o g) ((dN o g).length - 1))) (l ++ [aD (dN o g) ((dN o g).length - 1)])
theorem rY {o : Org} {g : Reg} {c : Ctl} (h : c ∈ dN o g) : c ∈ dD g := (List.mem_filter.1 h).1
theorem a9x (o : Org) (g : Reg) : (dN o g).length ≤ (dD g).length := List.length_filter_le _ _
theorem sI (o : Org) : ∀ (n m : Nat) (g : Reg) (l : List Ctl), g.Ok → mu g < n → mu g < m → cT o n g l = cT o m g l
 | 0, _, _, _, _, h, _ => absurd h (Nat.not_lt_zero _)
 | _, 0, _, _, _, _, h => absurd h (Nat.not_lt_zero _)
 | n + 1, m + 1, g, l, hg, hn, hm => by
   rw [cT, cT]
   split
   ·rfl
   ·rename_i h
    have hc := rY (aG (xs := dN o g) (j := (dN o g).length - 1) (by omega))
    have hlt := a5N hg hc
    exact sI o n m _ _ (mM hg _) (by omega) (by omega)
theorem c1u (l : List Value) (H : Heap) : aE Tryz.prog Tryz.f41 l H = (gV (bK Tryz.prog 90) (aF Tryz.prog 90) H (get l 4)).bind fun v => if (bN v && (bN (get l 5) && (bN (get l 6) && true))) = true then some (.tuple #[v, get l 5, get l 6]) else none := by
 show (Option.bind (Option.bind (dG Tryz.prog H 90 (get l 4)) fun v => some [v, get l 5, get l 6]) fun vs => _) = _
 rw [cO]
 cases gV _ _ H (get l 4) <;> rfl
theorem b0q (o : Org) (ho : o.In H) (rg : Reg) (sv : Value) (hr : rg.In H sv) :
 Fn Tryz.prog 41 [.agg #[.string o.name, o.rv, o.dv, o.cv], .agg #[sv, .int .u64 rg.cpl, .int .u64 rg.off]] H fun r H' => ∃ nv lv, (cX o rg ≠ 0 ∧ r = .tuple #[.agg #[.slice none 0 0, .int .u64 0, .int .u64 0], .slice none 0 0, I (cX o rg)] ∧ St Tryz.prog H H' []) ∨
  ∃ g gone, cX o rg = 0 ∧ (g, gone) = cT o (mu rg + 1) rg [] ∧ r = .tuple #[.agg #[nv, .int .u64 g.cpl, .int .u64 g.off], lv, I 0] ∧ g.Ok ∧ g.stops.length = rg.stops.length ∧ St Tryz.prog H H' [⟨nv, 1, g.stops.flatMap (one u64)⟩, ⟨lv, 3, dH gone⟩] := by
 refine Fn.of_sw Tryz.func41 rfl (by kernel_rfl) fun l hl => ?_
 have hn : l.length = 43 := by rw [hl]; rfl
 have g0 : get l 0 = (.agg #[(.string o.name), o.rv, o.dv, o.cv]) := by rw [hl]; rfl
 have g1 : get l 1 = (.agg #[sv, (.int .u64 rg.cpl), (.int .u64 rg.off)]) := by rw [hl]; rfl
 clear hl
 simp (disch := omega) only [↓RA, RB, simprocAttr, g0]
 refine (St.refl Tryz.prog H).eNew 4 [(.string o.name), o.rv, o.dv, o.cv] rfl rfl (by simp [OC, ((St.refl Tryz.prog H).sl ho.1).cells.2.1, ((St.refl Tryz.prog H).sl ho.2.2.1).cells.2.1, ((St.refl Tryz.prog H).sl ho.2.2.2.2.1).cells.2.1]) eU fun A1 H1 hS1 => ?_
 simp only [RT] at hS1
 simp (disch := omega) only [↓RA, RB, simprocAttr, g1]
 refine hS1.eNew 3 [sv, (.int .u64 rg.cpl), (.int .u64 rg.off)] rfl rfl (by simp [OC, (hS1.sl hr.1).cells.2.1]) eB fun A2 H2 hS2 => ?_
 simp only [RT] at hS2
 simp (disch := omega) only [↓RA, RZ, simprocAttr]
 refine hS2.eNew 3 [(.slice none 0 0), (.int .u64 0), (.int .u64 0)] rfl rfl rfl eB fun A3 H3 hS3 => ?_
 simp only [RT] at hS3
 simp (disch := omega) only [↓RA, RZ, simprocAttr, hn, hS3.ldA 0 rfl, hS3.ldA 1 rfl]
 refine aC (jH o (ho.keep hS3) rg sv (hr.keep hS3)) ?_
 rintro r H4 ⟨rfl, hT1⟩
 have hS4 := hS3.trans hT1
 simp only [RT] at hS4
 simp (disch := omega) only [↓RA, RB, simprocAttr, hn]
 first | refine aA (fun h1 => ?_) (fun h1 => ?_) | refine aB (fun h1 => ?_) (fun h1 => ?_)
 ·simp (disch := omega) only [↓RA, RZ, simprocAttr, hn, b9s, h1]
  refine hS4.eStore 2 rfl [(.slice none 0 0), (.int .u64 0), (.int .u64 0)] rfl rfl eB (by simp) fun H5 hS5 => ?_
  simp only [RT] at hS5
  simp (disch := omega) only [↓RA, RZ, simprocAttr, hn, c1u, hS5.ldA 2 rfl, h1]
  exact ⟨.slice none 0 0, .slice none 0 0, .inl ⟨h1, hS5.forget⟩⟩
 have h0 := Classical.not_not.1 h1
 obtain ⟨hz3, hz4⟩ := eN h0
 have hf := Org.fine hz3
 have hd1 := hf.dpos
 have hd2 := hf.dlen
 simp (disch := omega) only [↓RA, RZ, simprocAttr, hn, hS4.ld 1 rfl, h1]
 refine aC ((a2I sv rg.stops (hS4.sl hr.1) (by omega) (by omega)).tr) ?_
 rintro r H6 ⟨-, hT2⟩
 have hS6 := hS4.trans hT2
 simp only [RT] at hS6
 simp (disch := omega) only [↓RA, RZ, simprocAttr, hn, h1]
 refine hS6.eStore 1 rfl [r] (by rw [(hS6.rd 3 rfl).cells.1]) (by simp [(hS6.rd 3 rfl).cells.2.1]) b4c (by simp) fun H7 hS7 => ?_
 simp only [RT] at hS7
 simp (disch := omega) only [↓RA, RZ, simprocAttr, h1]
 have hS8 := hS7.nil 2
 simp only [RT] at hS8
 refine Wp.loopS (fun n l H' => l.length = 43 ∧ get l 2 = (ptr A1 0 4) ∧ get l 3 = (ptr A2 0 3) ∧ get l 4 = (ptr A3 0 3) ∧ ∃ (g : Reg) (gone : List Ctl) (nv ov : Value), (g.Ok ∧ mu g ≤ n ∧ g.stops.length = rg.stops.length ∧ gone.length + mu g ≤ mu rg ∧ cT o (mu g + 1) g gone = cT o (mu rg + 1) rg []) ∧ get l 8 = ov ∧ St Tryz.prog H H' [⟨ptr A1 0 4, 0, [(.string o.name), o.rv, o.dv, o.cv]⟩, ⟨ptr A2 0 3, 0, [nv, .int .u64 g.cpl, .int .u64 g.off]⟩, ⟨ptr A3 0 3, 0, [(.slice none 0 0), (.int .u64 0), (.int .u64 0)]⟩, ⟨nv, 1, g.stops.flatMap (one u64)⟩, ⟨ov, 3, dH gone⟩]) (mu rg) ?_ ?_
 ·simp (disch := omega) only [RB, RC, simprocAttr, hn]
  exact ⟨rg, [], r, .slice none 0 0, ⟨hr.2, Nat.le_refl _, rfl, by simp, rfl⟩, rfl, hS8⟩
 rintro n l H8 ⟨hn, g2, g3, g4, g, gone, nv, ov, ⟨hgo,hgn,hgl,hgm,hgs⟩, g8, hS9⟩
 simp (disch := omega) only [↓RA, RZ, simprocAttr, hn, g2, g3, hS9.ldA 0 rfl, hS9.ldA 1 rfl]
 have hSi := hS9
 refine aC (a5F o (ho.keep hS9) hf g nv ⟨hS9.slo 3 rfl (fun _ => rfl), hgo⟩ (by omega) (by omega)) ?_
 rintro r H9 ⟨hx, hT3⟩
 have hS10 := hS9.trans hT3
 simp only [RT] at hS10
 have hil := a9x o g
 have hil2 := oB (rg := g) (by omega)
 simp (disch := omega) only [↓RA, RZ, simprocAttr, hn, hx.1.len]
 first | refine aA (fun q1 => ?_) (fun q1 => ?_) | refine aB (fun q1 => ?_) (fun q1 => ?_)
 ·have hi0 : (dN o g).length = 0 := by omega
  rw [cT, if_pos hi0] at hgs
  have hnt : bN ov = true := (hS10.slo (cel := Ctl.cells) 4 rfl (fun _ => rfl)).noTup
  simp (disch := omega) only [↓RA, RZ, simprocAttr, hn, g3, g4, g8, hS10.ldA 1 rfl, q1]
  refine hS10.eStore 2 rfl [nv, (.int .u64 g.cpl), (.int .u64 g.off)] rfl (by simp [OC, (hS10.rd 3 rfl).cells.2.1]) eB (by simp) fun H10 hS11 => ?_
  simp only [RT] at hS11
  simp (disch := omega) only [↓RA, RZ, simprocAttr, hn, g4, c1u, hS11.ldA 2 rfl, q1, hnt]
  exact ⟨nv, ov, .inr ⟨g, gone, h0, hgs, rfl, hgo, hgl, hS11.pick [3, 4] (by decide) rfl⟩⟩
 have hpre : ((dN o g).length : Int) - 1 = (((dN o g).length - 1 : Nat) : Int) := by omega
 have hcm := rY (aG (xs := dN o g) (j := (dN o g).length - 1) (by omega))
 have hmu := a5N hgo hcm
 have hcf := uH (rg := g) (by omega) _ hcm
 simp (disch := omega) only [↓RA, RZ, simprocAttr, hn, hx.1.len, q1, hpre]
 generalize hcc : aD (dN o g) ((dN o g).length - 1) = c at hcm hmu hcf
 have hgs2 : cT o (mu (bU g c) + 1) (bU g c) (gone ++ [c]) = cT o (mu rg + 1) rg [] := by
  have hstep : cT o (mu g + 1) g gone = cT o (mu g) (bU g c) (gone ++ [c]) := by rw [cT, if_neg (by omega), hcc]
  rw [← hgs, hstep]
  exact sI o _ _ _ _ (mM hgo c) (by omega) (by omega)
 have hgl2 := qS g c
 simp (disch := omega) only [↓RA, RZ, simprocAttr, hn, hx.1.idx, hx.1.ldA, Ctl.cells, q1, hcc]
 refine hS10.eNew 3 [I 0, I 0, I 0] rfl rfl rfl sT fun A4 H11 hS12 => ?_
 simp only [RT] at hS12
 simp (disch := omega) only [↓RA, RZ, simprocAttr, hn, q1]
 refine hS12.eStore 5 rfl [I c.kind, I c.dv, I c.ix] rfl rfl sT (by simp) fun H12 hS13 => ?_
 simp only [RT] at hS13
 simp (disch := omega) only [↓RA, RZ, simprocAttr, q1]
 refine Wp.drwT cA [(4, 0)] (by kernel_rfl) (by kernel_rfl) ?_
 simp (disch := omega) only [↓RA, RZ, simprocAttr, hn, g3, hS13.ldA 1 rfl, hS13.ldA 5 rfl]
 refine aC (a6m g nv ⟨hS13.slo 3 rfl (fun _ => rfl), hgo⟩ (by omega) (by omega) c hcf) ?_
 rintro r H13 ⟨nw, rfl, hT4⟩
 have hS14 := hS13.trans hT4
 simp only [RT] at hS14
 have hmr := c0W rg
 simp (disch := omega) only [↓RA, RZ, simprocAttr, hn, g8, hS14.ldA 5 rfl]
 refine hS14.eSlice [I c.kind, I c.dv, I c.ix] a2t b2j rfl rfl (by simp [Value.cells]) rfl rfl (by decide) (by decide) fun w1 H14 hS15 => ?_
 simp only [RT] at hS15
 simp (disch := omega) only [↓RA, RZ, simprocAttr, hn]
 refine hS15.eAppend 4 rfl (hS15.rd 7 rfl) a2t (by rw [eE]; simp only [List.length_cons, List.length_nil]; omega) fun w2 H15 hS16 => ?_
 simp only [RT] at hS16
 simp (disch := omega) only [↓RA, RB, simprocAttr, hn, g3]
 refine hS16.eStore 1 rfl [nw, (.int .u64 (bU g c).cpl), (.int .u64 (bU g c).off)] rfl (by simp [OC, (hS16.rd 6 rfl).cells.2.1]) eB (by simp) fun H16 hS17 => ?_
 simp only [RT] at hS17
 simp (disch := omega) only [↓RA, RZ, simprocAttr, hn, g2, g3, g4, hS13.ldA 5 rfl]
 refine ⟨mu (bU g c), by omega, bU g c, gone ++ [c], nw, w2, ⟨mM hgo c, Nat.le_refl _, by omega, by simp; omega, hgs2⟩, rfl, ?_⟩
 rw [pN]
 exact hS17.pick [0, 1, 2, 6, 4] (by decide) rfl
end Go.Ds
namespace Go.Ds
open Go.Proofs
variable {H : Heap}
set_option maxRecDepth 10000
set_option maxHeartbeats 1000000
theorem a5Q (o : Org) (ho : o.In H) (rg : Reg) (sv : Value) (hr : rg.In H sv) (c : Ct) :
 Fn Tryz.prog 50 [.agg #[.string o.name, o.rv, o.dv, o.cv], .agg #[sv, .int .u64 rg.cpl, .int .u64 rg.off], .agg #[I c.1, I c.2]] H fun r H' => Slx 2 cU H' (fun B => H.length ≤ B) r (nW o rg c) ∧ St Tryz.prog H H' [] := by
 refine Fn.of_sw Tryz.func50 rfl (by kernel_rfl) fun l hl => ?_
 have hn : l.length = 17 := by rw [hl]; rfl
 have g0 : get l 0 = (.agg #[(.string o.name), o.rv, o.dv, o.cv]) := by rw [hl]; rfl
 have g1 : get l 1 = (.agg #[sv, (.int .u64 rg.cpl), (.int .u64 rg.off)]) := by rw [hl]; rfl
 have g2 : get l 2 = (.agg #[I c.1, I c.2]) := by rw [hl]; rfl
 clear hl
 simp (disch := omega) only [↓RA, RB, simprocAttr, g0]
 refine (St.refl Tryz.prog H).eNew 4 [(.string o.name), o.rv, o.dv, o.cv] rfl rfl (by simp [OC, ((St.refl Tryz.prog H).sl ho.1).cells.2.1, ((St.refl Tryz.prog H).sl ho.2.2.1).cells.2.1, ((St.refl Tryz.prog H).sl ho.2.2.2.2.1).cells.2.1]) eU fun A1 H1 hS1 => ?_
 simp only [RT] at hS1
 simp (disch := omega) only [↓RA, RB, simprocAttr, g1]
 refine hS1.eNew 3 [sv, (.int .u64 rg.cpl), (.int .u64 rg.off)] rfl rfl (by simp [OC, (hS1.sl hr.1).cells.2.1]) eB fun A2 H2 hS2 => ?_
 simp only [RT] at hS2
 simp (disch := omega) only [↓RA, RB, simprocAttr, g2]
 refine hS2.eNew 2 [I c.1, I c.2] rfl rfl rfl iL fun A3 H3 hS3 => ?_
 simp only [RT] at hS3
 simp (disch := omega) only [↓RA, RZ, simprocAttr, hn, hS3.ldA 0 rfl, hS3.ldA 1 rfl, hS3.ldA 2 rfl]
 have hSd := hS3
 refine aC (b4Z o (ho.keep hS3) rg sv (hr.keep hS3) c) ?_
 rintro r H4 ⟨pv, rfl, hx, hT1⟩
 have hS4 := hS3.trans hT1
 simp only [RT] at hS4
 simp (disch := omega) only [↓RA, RB, simprocAttr, hn, c2Y]
 refine ⟨⟨hx.1, fun b h => ?_⟩, hS4.forget⟩
 have := hx.2 b h
 have : H.length ≤ _ := hSd.len
 omega
theorem xA (o : Org) (ho : o.In H) (hf : o.Fine) : Fn Tryz.prog 49 [.agg #[.string o.name, o.rv, o.dv, o.cv]] H fun r H' => St Tryz.prog H H' [⟨r, 2, pr (cC o)⟩] := by
 have hdl := ho.2.2.2.2.2.2.1
 have hd8 := hf.dlen
 refine Fn.of_sw Tryz.func49 rfl (by kernel_rfl) fun l hl => ?_
 have hn : l.length = 38 := by rw [hl]; rfl
 have g0 : get l 0 = (.agg #[(.string o.name), o.rv, o.dv, o.cv]) := by rw [hl]; rfl
 clear hl
 simp (disch := omega) only [↓RA, RB, simprocAttr, g0]
 refine (St.refl Tryz.prog H).eNew 4 [(.string o.name), o.rv, o.dv, o.cv] rfl rfl (by simp [OC, ((St.refl Tryz.prog H).sl ho.1).cells.2.1, ((St.refl Tryz.prog H).sl ho.2.2.1).cells.2.1, ((St.refl Tryz.prog H).sl ho.2.2.2.2.1).cells.2.1]) eU fun A1 H1 hS1 => ?_
 simp only [RT] at hS1
 simp (disch := omega) only [↓RA, RB, simprocAttr]
 have hS2 := hS1.nil 1
 simp only [RT] at hS2
 refine Wp.loopS (fun n l H' => l.length = 38 ∧ get l 1 = (ptr A1 0 4) ∧ get l 2 = (.slice none 0 0) ∧ ∃ (i : Nat) (ov : Value), (n + i = o.dvs.length) ∧ get l 4 = I i ∧ get l 3 = ov ∧ St Tryz.prog H H' [⟨ptr A1 0 4, 0, [(.string o.name), o.rv, o.dv, o.cv]⟩, ⟨ov, 2, pr ((List.range i).flatMap (gD o))⟩]) o.dvs.length ?_ ?_
 ·simp (disch := omega) only [RB, RC, simprocAttr, hn]
  exact ⟨0, .slice none 0 0, by omega, rfl, rfl, hS2⟩
 rintro n l H2 ⟨hn, g1, g2, i, ov, hi, g4, g3, hS3⟩
 simp (disch := omega) only [↓RA, RZ, simprocAttr, hn, g1, g4, hS3.ld 0 rfl, (hS3.sl ho.2.2.1).len]
 first | refine aA (fun q1 => ?_) (fun q1 => ?_) | refine aB (fun q1 => ?_) (fun q1 => ?_)
 ·have hki := hf.keys i (by omega)
  have hcn : (kF o i : Int) = (aD o.dvs i).hi - (aD o.dvs i).lo + 1 := by unfold kF; omega
  have hpre : pB o i 0 = (List.range i).flatMap (gD o) := by unfold pB; simp
  have hlen : ∀ k, k ≤ kF o i → (pB o i k).length ≤ 1024 := by
   intro k hk
   have h1 := mN hf
   by_cases hkk : k < kF o i
   ·obtain ⟨e, he⟩ := uF o (i := i) (k := k) (by omega) hkk
    rw [he, List.length_append] at h1
    omega
   ·have hk2 : k = kF o i := by omega
    rw [hk2, rQ]
    obtain ⟨t, ht⟩ : ∃ t, List.range o.dvs.length = List.range (i + 1) ++ t := ⟨(List.range o.dvs.length).drop (i + 1), by rw [show List.range (i + 1) = (List.range o.dvs.length).take (i + 1) from by rw [List.take_range, Nat.min_eq_left (by omega)], List.take_append_drop]⟩
    unfold cC at h1
    rw [ht, List.flatMap_append, List.length_append] at h1
    omega
  simp (disch := omega) only [↓RA, RZ, simprocAttr, hn, g1, g4, hS3.ld 0 rfl, (hS3.sl ho.2.2.1).idx, (hS3.sl ho.2.2.1).fld, (hS3.sl ho.2.2.1).ld, Dvn.cells, q1]
  refine Wp.loopS (fun n l H' => l.length = 38 ∧ get l 1 = (ptr A1 0 4) ∧ get l 2 = (.slice none 0 0) ∧ get l 4 = I i ∧ ∃ (k : Nat) (ow : Value), (n + k = kF o i) ∧ get l 5 = I ((aD o.dvs i).lo + k) ∧ get l 3 = ow ∧ St Tryz.prog H H' [⟨ptr A1 0 4, 0, [(.string o.name), o.rv, o.dv, o.cv]⟩, ⟨ow, 2, pr (pB o i k)⟩]) (kF o i) ?_ ?_
  ·simp (disch := omega) only [RB, RC, simprocAttr, hn, g1, g2, g4, g3]
   refine ⟨0, ov, by omega, by simp, rfl, ?_⟩
   rw [hpre]
   exact hS3
  rintro n l H3 ⟨hn, g1, g2, g4, k, ow, hk, g5, g3, hS4⟩
  simp (disch := omega) only [↓RA, RZ, simprocAttr, hn, g1, g4, g5, hS4.ld 0 rfl, (hS4.sl ho.2.2.1).idx, (hS4.sl ho.2.2.1).fld, (hS4.sl ho.2.2.1).ld, Dvn.cells]
  first | refine aA (fun q2 => ?_) (fun q2 => ?_) | refine aB (fun q2 => ?_) (fun q2 => ?_)
  ·have hl := hlen k (by omega)
   simp (disch := omega) only [↓RA, RZ, simprocAttr, hn, g4, g5, g3, qF, q2]
   refine hS4.eSlice [I i, I ((aD o.dvs i).lo + k)] nP a2x rfl rfl (by simp [Value.cells]) rfl rfl (by decide) (by decide) fun w1 H4 hS5 => ?_
   simp only [RT] at hS5
   simp (disch := omega) only [↓RA, RZ, simprocAttr, hn, q2]
   refine hS5.eAppend 1 rfl (hS5.rd 2 rfl) nP (by rw [aN]; simp; omega) fun w2 H5 hS6 => ?_
   simp only [RT] at hS6
   simp (disch := omega) only [↓RA, RZ, simprocAttr, hn, g1, g2, g4, g5, q2]
   refine ⟨n - 1, by omega, k + 1, w2, by omega, by congr 1; omega, rfl, ?_⟩
   rw [zQ, cB]
   exact hS6.pick [0, 1] (by decide) rfl
  simp (disch := omega) only [↓RA, RZ, simprocAttr, hn, g1, g2, g4, g3, q2]
  have hkk : k = kF o i := by omega
  refine ⟨o.dvs.length - (i + 1), by omega, i + 1, ow, by omega, by simp, rfl, ?_⟩
  rw [← rQ, ← hkk]
  exact hS4
 simp (disch := omega) only [↓RA, RZ, simprocAttr, hn, g3, c3Z, q1]
 have hii : i = o.dvs.length := by omega
 subst hii
 exact hS3.pick [1] (by decide) rfl
end Go.Ds
namespace Go.Ds
open Go.Proofs
variable {H : Heap}
set_option maxRecDepth 10000
set_option maxHeartbeats 1000000
theorem zS {o : Org} {rg : Reg} (h : cX o rg = 0) : (∀ j, j < o.dvs.length → aD rg.stops j >>> (aD o.dvs j).stops.length = 0) ∧ rg.cpl >>> o.cpls.length = 0 ∧ rg.off >>> o.dvs.length = 0 := by
 unfold cX at h
 split at h
 ·rename_i hh; exact absurd h hh
 split at h
 ·omega
 split at h
 ·omega
 rename_i h1
 split at h
 ·omega
 rename_i h2
 refine ⟨fun j hj => ?_, by omega, by omega⟩
 by_cases hh : aD rg.stops j >>> (aD o.dvs j).stops.length = 0
 ·exact hh
 ·exact absurd ⟨j, hj, hh⟩ h1
end Go.Ds
namespace Go.Ds
open Go.Proofs
variable {H : Heap}
set_option maxRecDepth 10000
set_option maxHeartbeats 1000000
end Go.Ds
namespace Go.Ds
open Go.Proofs
variable {H : Heap}
set_option maxRecDepth 10000
set_option maxHeartbeats 1000000
theorem a8x (v w : Value) (xs ys : List Ct) (hv : Sl 2 cU H v xs) (hw : Sl 2 cU H w ys) (hl : xs.length < 1000000000) (hl2 : ys.length < 1000000000) :
 Fn Tryz.prog 52 [v, w] H fun r H' => r = .bool (decide (xs = ys)) ∧ St Tryz.prog H H' [] := by
 refine Fn.of_sw Tryz.func52 rfl (by kernel_rfl) fun l hl => ?_
 have hn : l.length = 26 := by rw [hl]; rfl
 have g0 : get l 0 = v := by rw [hl]; rfl
 have g1 : get l 1 = w := by rw [hl]; rfl
 clear hl
 simp (disch := omega) only [↓RA, RZ, simprocAttr, hn, g0, g1, ((St.refl Tryz.prog H).sl hv).len, ((St.refl Tryz.prog H).sl hw).len]
 first | refine aA (fun h1 => ?_) (fun h1 => ?_) | refine aB (fun h1 => ?_) (fun h1 => ?_)
 ·simp (disch := omega) only [↓RA, RZ, simprocAttr, hn, b7Q, h1]
  exact ⟨by rw [decide_eq_false]; intro e; rw [e] at h1; exact h1 rfl, (St.refl Tryz.prog H)⟩
 simp (disch := omega) only [↓RA, RZ, simprocAttr, h1]
 refine Wp.loopS (fun n l H' => l.length = 26 ∧ get l 0 = v ∧ get l 1 = w ∧ ∃ (j : Nat), (n + j = xs.length ∧ ∀ q, q < j → aD xs q = aD ys q) ∧ get l 5 = I j ∧ St Tryz.prog H H' []) xs.length ?_ ?_
 ·simp (disch := omega) only [RB, RC, simprocAttr, hn, g0, g1]
  exact ⟨0, ⟨by omega, fun q hq => absurd hq (Nat.not_lt_zero _)⟩, rfl, (St.refl Tryz.prog H)⟩
 rintro n l H1 ⟨hn, g0, g1, j, ⟨hj,hz⟩, g5, hS1⟩
 simp (disch := omega) only [↓RA, RZ, simprocAttr, hn, g0, g5, (hS1.sl hv).len]
 first | refine aA (fun q1 => ?_) (fun q1 => ?_) | refine aB (fun q1 => ?_) (fun q1 => ?_)
 ·simp (disch := omega) only [↓RA, RC, simprocAttr, q1]
  refine Wp.drw cA (by kernel_rfl) ?_
  simp (disch := omega) only [↓RA, RZ, simprocAttr, hn, g0, g1, g5, (hS1.sl hv).idx, (hS1.sl hv).ldA, cU, (hS1.sl hw).idx, (hS1.sl hw).ldA]
  first | refine aA (fun q2 => ?_) (fun q2 => ?_) | refine aB (fun q2 => ?_) (fun q2 => ?_)
  ·simp (disch := omega) only [↓RA, RZ, simprocAttr, hn, b7Q, q2]
   refine ⟨?_, hS1⟩
   rw [decide_eq_false]
   intro e
   rw [e] at q2
   exact q2 ⟨rfl, rfl⟩
  have q3 := Classical.not_not.1 q2
  simp (disch := omega) only [↓RA, RZ, simprocAttr, hn, g0, g1, g5, q2]
  exact ⟨n - 1, by omega, j + 1, ⟨by omega, fun q hq => by rcases Nat.lt_succ_iff_lt_or_eq.1 hq with e | e; (· exact hz q e); (· rw [e]; exact Prod.ext q3.1 q3.2)⟩, by simp, hS1⟩
 simp (disch := omega) only [↓RA, RZ, simprocAttr, hn, b7Q, q1]
 exact ⟨by rw [decide_eq_true]; exact oE (by omega) fun q hq => hz q (by omega), hS1⟩
theorem a2V (o : Org) (rg sg : Reg) : dT o rg = dT o sg ↔ ∀ q, q < (cC o).length → nW o rg (aD (cC o) q) = nW o sg (aD (cC o) q) := by
 unfold dT
 constructor
 ·intro h q hq
  have := congrArg (fun l => aD l q) h
  rwa [iN _ hq, iN _ hq] at this
 ·intro h
  refine List.map_congr_left fun c hc => ?_
  obtain ⟨q, hq, rfl⟩ := List.mem_iff_getElem.1 hc
  have := h q hq
  rwa [bX _ q hq] at this
theorem a3T (o : Org) (ho : o.In H) (hf : o.Fine) (rg : Reg) (sv : Value) (hr : rg.In H sv) (sg : Reg) (tv : Value) (hs : sg.In H tv) :
 Fn Tryz.prog 45 [.agg #[.string o.name, o.rv, o.dv, o.cv], .agg #[sv, .int .u64 rg.cpl, .int .u64 rg.off], .agg #[tv, .int .u64 sg.cpl, .int .u64 sg.off]] H fun r H' => r = .bool (decide (dT o rg = dT o sg)) ∧ St Tryz.prog H H' [] := by
 refine Fn.of_sw Tryz.func45 rfl (by kernel_rfl) fun l hl => ?_
 have hn : l.length = 27 := by rw [hl]; rfl
 have g0 : get l 0 = (.agg #[(.string o.name), o.rv, o.dv, o.cv]) := by rw [hl]; rfl
 have g1 : get l 1 = (.agg #[sv, (.int .u64 rg.cpl), (.int .u64 rg.off)]) := by rw [hl]; rfl
 have g2 : get l 2 = (.agg #[tv, (.int .u64 sg.cpl), (.int .u64 sg.off)]) := by rw [hl]; rfl
 clear hl
 simp (disch := omega) only [↓RA, RB, simprocAttr, g0]
 refine (St.refl Tryz.prog H).eNew 4 [(.string o.name), o.rv, o.dv, o.cv] rfl rfl (by simp [OC, ((St.refl Tryz.prog H).sl ho.1).cells.2.1, ((St.refl Tryz.prog H).sl ho.2.2.1).cells.2.1, ((St.refl Tryz.prog H).sl ho.2.2.2.2.1).cells.2.1]) eU fun A1 H1 hS1 => ?_
 simp only [RT] at hS1
 simp (disch := omega) only [↓RA, RB, simprocAttr, g1]
 refine hS1.eNew 3 [sv, (.int .u64 rg.cpl), (.int .u64 rg.off)] rfl rfl (by simp [OC, (hS1.sl hr.1).cells.2.1]) eB fun A2 H2 hS2 => ?_
 simp only [RT] at hS2
 simp (disch := omega) only [↓RA, RB, simprocAttr, g2]
 refine hS2.eNew 3 [tv, (.int .u64 sg.cpl), (.int .u64 sg.off)] rfl rfl (by simp [OC, (hS2.sl hs.1).cells.2.1]) eB fun A3 H3 hS3 => ?_
 simp only [RT] at hS3
 simp (disch := omega) only [↓RA, RZ, simprocAttr, hn, hS3.ldA 0 rfl]
 refine aC ((xA o (ho.keep hS3) hf).tr) ?_
 rintro r H4 ⟨-, hT1⟩
 have hS4 := hS3.trans hT1
 simp only [RT] at hS4
 obtain ⟨kw, rfl⟩ : ∃ w, w = r := ⟨r, rfl⟩
 have hkl := mN hf
 simp (disch := omega) only [↓RA, RZ, simprocAttr, hn, (hS4.slo 3 rfl eJ).len]
 refine Wp.loopS (fun n l H' => l.length = 27 ∧ get l 3 = (ptr A1 0 4) ∧ get l 4 = (ptr A2 0 3) ∧ get l 5 = (ptr A3 0 3) ∧ get l 10 = kw ∧ get l 11 = I (cC o).length ∧ ∃ (j : Nat), (n + j = (cC o).length ∧ ∀ q, q < j → nW o rg (aD (cC o) q) = nW o sg (aD (cC o) q)) ∧ get l 12 = I j ∧ St Tryz.prog H H' [⟨ptr A1 0 4, 0, [(.string o.name), o.rv, o.dv, o.cv]⟩, ⟨ptr A2 0 3, 0, [sv, (.int .u64 rg.cpl), (.int .u64 rg.off)]⟩, ⟨ptr A3 0 3, 0, [tv, (.int .u64 sg.cpl), (.int .u64 sg.off)]⟩, ⟨kw, 2, pr (cC o)⟩]) (cC o).length ?_ ?_
 ·simp (disch := omega) only [RB, RC, simprocAttr, hn]
  exact ⟨0, ⟨by omega, fun q hq => absurd hq (Nat.not_lt_zero _)⟩, rfl, hS4⟩
 rintro n l H5 ⟨hn, g3, g4, g5, g10, g11, j, ⟨hj,hz⟩, g12, hS5⟩
 simp (disch := omega) only [↓RA, RB, simprocAttr, hn, g11, g12]
 first | refine aA (fun q1 => ?_) (fun q1 => ?_) | refine aB (fun q1 => ?_) (fun q1 => ?_)
 ·simp (disch := omega) only [↓RA, RZ, simprocAttr, hn, g10, g12, (hS5.slo 3 rfl eJ).idx, (hS5.slo 3 rfl eJ).ldA, cU, q1]
  refine hS5.eNew 2 [I 0, I 0] rfl rfl rfl iL fun A4 H6 hS6 => ?_
  simp only [RT] at hS6
  simp (disch := omega) only [↓RA, RZ, simprocAttr, hn, q1]
  refine hS6.eStore 4 rfl [I (aD (cC o) j).1, I (aD (cC o) j).2] rfl rfl iL (by simp) fun H7 hS7 => ?_
  simp only [RT] at hS7
  simp (disch := omega) only [↓RA, RZ, simprocAttr, q1]
  refine Wp.drwT cA [(4, 0), (5, 0), (6, 0)] (by kernel_rfl) (by kernel_rfl) ?_
  simp (disch := omega) only [↓RA, RZ, simprocAttr, hn, g3, g4, hS7.ldA 0 rfl, hS7.ldA 1 rfl, hS7.ldA 4 rfl]
  refine aC (a5Q o (ho.keep hS7) rg sv (hr.keep hS7) (aD (cC o) j)) ?_
  rintro r H8 ⟨hx1, hT2⟩
  have hS8 := hS7.trans hT2
  simp only [RT] at hS8
  obtain ⟨p1, rfl⟩ : ∃ w, w = r := ⟨r, rfl⟩
  simp (disch := omega) only [↓RA, RZ, simprocAttr, hn, g3, g5, hS8.ldA 0 rfl, hS8.ldA 2 rfl, hS8.ldA 4 rfl]
  refine aC (a5Q o (ho.keep hS8) sg tv (hs.keep hS8) (aD (cC o) j)) ?_
  rintro r H9 ⟨hx2, hT3⟩
  have hS9 := hS8.trans hT3
  simp only [RT] at hS9
  obtain ⟨p2, rfl⟩ : ∃ w, w = r := ⟨r, rfl⟩
  have hx3 := Sl.keep hx1.1 hT3.keep
  have b1 := a4H hf rg (aD (cC o) j)
  have b2 := a4H hf sg (aD (cC o) j)
  simp (disch := omega) only [↓RA, RZ, simprocAttr, hn]
  refine aC (a8x p1 p2 _ _ hx3 hx2.1 (by omega) (by omega)) ?_
  rintro r H10 ⟨rfl, hT4⟩
  have hS10 := hS9.trans hT4
  simp only [RT] at hS10
  simp (disch := omega) only [↓RA, RZ, simprocAttr, hn, g3, g5, hS7.ldA 0 rfl, hS7.ldA 2 rfl, hS7.ldA 4 rfl]
  first | refine aA (fun q2 => ?_) (fun q2 => ?_) | refine aB (fun q2 => ?_) (fun q2 => ?_)
  ·simp (disch := omega) only [↓RA, RB, simprocAttr, hn, b8y, q2]
   refine ⟨?_, hS10.forget⟩
   rw [decide_eq_false]
   rw [a2V]
   intro h
   have := h j (by omega)
   simp [this] at q2
  have q3 : nW o rg (aD (cC o) j) = nW o sg (aD (cC o) j) := by simpa using q2
  simp (disch := omega) only [↓RA, RZ, simprocAttr, hn, g3, g4, g5, g10, g11, g12, q2]
  exact ⟨n - 1, by omega, j + 1, ⟨by omega, fun q hq => by rcases Nat.lt_succ_iff_lt_or_eq.1 hq with e | e; (· exact hz q e); (· rw [e]; exact q3)⟩, by simp, hS10.pick [0, 1, 2, 3] (by decide) rfl⟩
 simp (disch := omega) only [↓RA, RZ, simprocAttr, hn, b8y, q1]
 exact ⟨by rw [decide_eq_true]; rw [a2V]; exact fun q hq => hz q (by omega), hS5.forget⟩
end Go.Ds
namespace Go.Ds
open Go.Proofs
variable {H : Heap}
set_option maxRecDepth 10000
set_option maxHeartbeats 1000000
end Go.Ds
namespace Go.Ds
open Go.Proofs
variable {H : Heap}
set_option maxRecDepth 10000
set_option maxHeartbeats 1000000
end Go.Ds
